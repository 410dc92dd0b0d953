/- For every input the statement of this claim returns true: texts of its proof, joined (part 9). -/
import Derived.Test.YtbhhifdhlafklaaGreatGZM06
import Derived.Test.YtbhhifdhlafklaaGreatGZM07
set_option linter.unusedSectionVars false
set_option linter.unusedSimpArgs false
set_option linter.unusedVariables false
namespace Go.Proofs.YtbhhifdhlafklaaGreat.K
open Go.Ev
set_option maxRecDepth 10000
theorem eq_table : eqBm qgi qgi = true:=by
 have h : decide (eqBm qgi qgi = true) = true:=by kernel_rfl
 exact of_decide_eq_true h
def Ex.ownE (x : Ex) (k p a : Int) : Evt:=⟨0,[],x.ev.lp,k,p,a⟩
def Ex.setP (x : Ex) (i : Nat) (q : Pr) : Ex:={ x with procs:=x.procs.set i q }
def Ex.stopE (x : Ex) (i : Nat) (q : Pr) : Ex:=if 0 < q.timer.length then { x with gone:=x.gone ++ [q.timer],procs:=x.procs.set i { q with timer:=[] } } else x
section
variable (a0 a1 a2 : Int) (am : Nat) (x : Ex) (gp gc gg : Nat) (op : OpI)
theorem hold_ev (h : x.Small) : (evL T).call qcr [.ptr 5 0 0 0,(.agg [(ii op.code),(ii op.a),(ii op.b),(ii op.c)])] [.row 4 [[(ii a0),(ii a1),.sl 2 0 0 am false,(ii a2)]] 0,.row 4 [[(ii 0),(ii 0),.fsl [] false,(ii 0)]] 0,.row 4 ((x.procs).map Pr.r) gp,.row 6 ((x.out).map Evt.r) gc,.row 1 ((x.gone).map qfy) gg,.row 14 [[(ii x.r0),(ii x.r1),.sl 2 gp 0 x.procs.length false,(ii x.sum),(ii x.ev.time),(.fsl ((x.ev.key).map qb8) false),(ii x.ev.lp),(ii x.ev.kind),(ii x.ev.proc),(ii x.ev.arg),.sl 3 gc 0 x.out.length false,(ii x.n),.sl 4 gg 0 x.gone.length false,(bb x.over)]] 0,.mp .i64 qgi] = some ((ii 1),[.row 4 [[(ii a0),(ii a1),.sl 2 0 0 am false,(ii a2)]] 0,.row 4 [[(ii 0),(ii 0),.fsl [] false,(ii 0)]] 0,.row 4 (((x.create op.a (x.ownE 1 x.ev.proc 0)).procs).map Pr.r) gp,.row 6 (((x.create op.a (x.ownE 1 x.ev.proc 0)).out).map Evt.r) (qno x op.a gc),.row 1 (((x.create op.a (x.ownE 1 x.ev.proc 0)).gone).map qfy) gg,.row 14 [[(ii ((x.create op.a (x.ownE 1 x.ev.proc 0)).r0)),(ii ((x.create op.a (x.ownE 1 x.ev.proc 0)).r1)),.sl 2 gp 0 (x.create op.a (x.ownE 1 x.ev.proc 0)).procs.length false,(ii ((x.create op.a (x.ownE 1 x.ev.proc 0)).sum)),(ii ((x.create op.a (x.ownE 1 x.ev.proc 0)).ev.time)),(.fsl (((x.create op.a (x.ownE 1 x.ev.proc 0)).ev.key).map qb8) false),(ii ((x.create op.a (x.ownE 1 x.ev.proc 0)).ev.lp)),(ii ((x.create op.a (x.ownE 1 x.ev.proc 0)).ev.kind)),(ii ((x.create op.a (x.ownE 1 x.ev.proc 0)).ev.proc)),(ii ((x.create op.a (x.ownE 1 x.ev.proc 0)).ev.arg)),.sl 3 (qno x op.a gc) 0 (x.create op.a (x.ownE 1 x.ev.proc 0)).out.length false,(ii ((x.create op.a (x.ownE 1 x.ev.proc 0)).n)),.sl 4 gg 0 (x.create op.a (x.ownE 1 x.ev.proc 0)).gone.length false,(bb ((x.create op.a (x.ownE 1 x.ev.proc 0)).over))]] 0,.mp .i64 qgi]):=by
 have h1:=qacj a0 a1 a2 am x gp gc gg 1 x.ev.proc 0
 have h2:=qu2 a0 a1 a2 am x gp gc gg h op.a 0 x.ev.lp 1 x.ev.proc 0 []
 simp only [List.map_nil] at h2
 rw [qy qpd qoi]
 simp only [qgn,h1,h2,Ex.ownE,qah,qap,qv,qbv,Nat.reduceLT,qn,Ev.exec,qb,qe,qc,qd6,qaj,Ev.evs,Ev.Opnd.ev,Ev.Env.get,Ev.Env.set,Ev.look,qo,qh,qad,Ev.AV.cells,qx,Ev.AV.plain,qm,qab,qak,Ev.kill,qai,qd,Ev.SObj.lo,qax,qu,qbj,qg,qf,qaa,qag,↓qs,↓reduceIte,zga,zgb,zgd,zge,zgc,zfe,zgf,zgg,zgh,Nat.reduceAdd,Nat.reduceEqDiff,Nat.reduceLT,reduceCtorEq,zgv,zfc,zfa,zgx,ne_eq,zfb,zff,zfd,zgy]
theorem send_ev (h : x.Small) : (evL T).call qcn [.ptr 5 0 0 0,(.agg [(ii op.code),(ii op.a),(ii op.b),(ii op.c)])] [.row 4 [[(ii a0),(ii a1),.sl 2 0 0 am false,(ii a2)]] 0,.row 4 [[(ii 0),(ii 0),.fsl [] false,(ii 0)]] 0,.row 4 ((x.procs).map Pr.r) gp,.row 6 ((x.out).map Evt.r) gc,.row 1 ((x.gone).map qfy) gg,.row 14 [[(ii x.r0),(ii x.r1),.sl 2 gp 0 x.procs.length false,(ii x.sum),(ii x.ev.time),(.fsl ((x.ev.key).map qb8) false),(ii x.ev.lp),(ii x.ev.kind),(ii x.ev.proc),(ii x.ev.arg),.sl 3 gc 0 x.out.length false,(ii x.n),.sl 4 gg 0 x.gone.length false,(bb x.over)]] 0,.mp .i64 qgi] = some ((ii 0),[.row 4 [[(ii a0),(ii a1),.sl 2 0 0 am false,(ii a2)]] 0,.row 4 [[(ii 0),(ii 0),.fsl [] false,(ii 0)]] 0,.row 4 (((x.create op.c ⟨0,[],op.a,3,0,op.b⟩).procs).map Pr.r) gp,.row 6 (((x.create op.c ⟨0,[],op.a,3,0,op.b⟩).out).map Evt.r) (qno x op.c gc),.row 1 (((x.create op.c ⟨0,[],op.a,3,0,op.b⟩).gone).map qfy) gg,.row 14 [[(ii ((x.create op.c ⟨0,[],op.a,3,0,op.b⟩).r0)),(ii ((x.create op.c ⟨0,[],op.a,3,0,op.b⟩).r1)),.sl 2 gp 0 (x.create op.c ⟨0,[],op.a,3,0,op.b⟩).procs.length false,(ii ((x.create op.c ⟨0,[],op.a,3,0,op.b⟩).sum)),(ii ((x.create op.c ⟨0,[],op.a,3,0,op.b⟩).ev.time)),(.fsl (((x.create op.c ⟨0,[],op.a,3,0,op.b⟩).ev.key).map qb8) false),(ii ((x.create op.c ⟨0,[],op.a,3,0,op.b⟩).ev.lp)),(ii ((x.create op.c ⟨0,[],op.a,3,0,op.b⟩).ev.kind)),(ii ((x.create op.c ⟨0,[],op.a,3,0,op.b⟩).ev.proc)),(ii ((x.create op.c ⟨0,[],op.a,3,0,op.b⟩).ev.arg)),.sl 3 (qno x op.c gc) 0 (x.create op.c ⟨0,[],op.a,3,0,op.b⟩).out.length false,(ii ((x.create op.c ⟨0,[],op.a,3,0,op.b⟩).n)),.sl 4 gg 0 (x.create op.c ⟨0,[],op.a,3,0,op.b⟩).gone.length false,(bb ((x.create op.c ⟨0,[],op.a,3,0,op.b⟩).over))]] 0,.mp .i64 qgi]):=by
 have h2:=qu2 a0 a1 a2 am x gp gc gg h op.c 0 op.a 3 0 op.b []
 simp only [List.map_nil] at h2
 rw [qy qo7 qon]
 simp only [qgj,h2,qah,qap,qv,qbv,Nat.reduceLT,Nat.reduceLeDiff,qn,Ev.exec,qb,qe,qc,qd6,qaj,Ev.evs,Ev.Opnd.ev,Ev.Env.get,Ev.Env.set,Ev.look,qo,qh,qad,qgp,Ev.AV.cells,Ev.AV.uc,qx,Ev.AV.plain,qm,qab,qak,Ev.kill,qai,qd,Ev.SObj.lo,qax,qu,qbj,qg,qf,qaa,qag,↓qs,↓reduceIte,zga,zgb,zgc,zgo,zfe,zgf,zgg,List.drop_nil,zgm,zgl,zgn,zgh,Nat.reduceAdd,Nat.reduceEqDiff,Nat.reduceLT,Nat.reduceLeDiff,reduceCtorEq,zgv,zfc,zfa,zgx,ne_eq,zfb,zff,zfd,Nat.le_refl,zgy]
theorem end_ev : (evL T).call qcx [.ptr 5 0 0 0,(.agg [(ii op.code),(ii op.a),(ii op.b),(ii op.c)])] [.row 4 [[(ii a0),(ii a1),.sl 2 0 0 am false,(ii a2)]] 0,.row 4 [[(ii 0),(ii 0),.fsl [] false,(ii 0)]] 0,.row 4 ((x.procs).map Pr.r) gp,.row 6 ((x.out).map Evt.r) gc,.row 1 ((x.gone).map qfy) gg,.row 14 [[(ii x.r0),(ii x.r1),.sl 2 gp 0 x.procs.length false,(ii x.sum),(ii x.ev.time),(.fsl ((x.ev.key).map qb8) false),(ii x.ev.lp),(ii x.ev.kind),(ii x.ev.proc),(ii x.ev.arg),.sl 3 gc 0 x.out.length false,(ii x.n),.sl 4 gg 0 x.gone.length false,(bb x.over)]] 0,.mp .i64 qgi] = some ((ii 2),[.row 4 [[(ii a0),(ii a1),.sl 2 0 0 am false,(ii a2)]] 0,.row 4 [[(ii 0),(ii 0),.fsl [] false,(ii 0)]] 0,.row 4 ((x.procs).map Pr.r) gp,.row 6 ((x.out).map Evt.r) gc,.row 1 ((x.gone).map qfy) gg,.row 14 [[(ii x.r0),(ii x.r1),.sl 2 gp 0 x.procs.length false,(ii x.sum),(ii x.ev.time),(.fsl ((x.ev.key).map qb8) false),(ii x.ev.lp),(ii x.ev.kind),(ii x.ev.proc),(ii x.ev.arg),.sl 3 gc 0 x.out.length false,(ii x.n),.sl 4 gg 0 x.gone.length false,(bb x.over)]] 0,.mp .i64 qgi]):=by
 rw [qy qqe qo2]
 simp only [qg1,qah,qap,qv,qbv,Nat.reduceLT,qn,Ev.exec,qb,qe,qc,qaj,Ev.Opnd.ev,Ev.Env.get,Ev.Env.set,Ev.look,qo,Ev.AV.cells,qx,Ev.AV.plain,qm,qab,qak,Ev.kill,qai,qd,Ev.SObj.lo,qax,qu,qbj,qg,qf,qaa,qag,↓qs,↓reduceIte,zga,zgb,zgc,zfe,Nat.reduceAdd,Nat.reduceLT,reduceCtorEq,zgv,zfc,zgx,ne_eq,zfb,zff,zfd,zgy]
def Ex.reg (x : Ex) (k : Int) : Int:=if k = 0 then x.r0 else x.r1
def Ex.setReg (x : Ex) (k v : Int) : Ex:=if k = 0 then { x with r0:=v } else { x with r1:=v }
theorem add_ev (ha : op.a = 0 ∨ op.a = 1) : (evL T).call qcy [.ptr 5 0 0 0,(.agg [(ii op.code),(ii op.a),(ii op.b),(ii op.c)])] [.row 4 [[(ii a0),(ii a1),.sl 2 0 0 am false,(ii a2)]] 0,.row 4 [[(ii 0),(ii 0),.fsl [] false,(ii 0)]] 0,.row 4 ((x.procs).map Pr.r) gp,.row 6 ((x.out).map Evt.r) gc,.row 1 ((x.gone).map qfy) gg,.row 14 [[(ii x.r0),(ii x.r1),.sl 2 gp 0 x.procs.length false,(ii x.sum),(ii x.ev.time),(.fsl ((x.ev.key).map qb8) false),(ii x.ev.lp),(ii x.ev.kind),(ii x.ev.proc),(ii x.ev.arg),.sl 3 gc 0 x.out.length false,(ii x.n),.sl 4 gg 0 x.gone.length false,(bb x.over)]] 0,.mp .i64 qgi] = some ((ii 0),[.row 4 [[(ii a0),(ii a1),.sl 2 0 0 am false,(ii a2)]] 0,.row 4 [[(ii 0),(ii 0),.fsl [] false,(ii 0)]] 0,.row 4 (((x.setReg op.a (w64 (x.reg op.a + op.b))).procs).map Pr.r) gp,.row 6 (((x.setReg op.a (w64 (x.reg op.a + op.b))).out).map Evt.r) gc,.row 1 (((x.setReg op.a (w64 (x.reg op.a + op.b))).gone).map qfy) gg,.row 14 [[(ii ((x.setReg op.a (w64 (x.reg op.a + op.b))).r0)),(ii ((x.setReg op.a (w64 (x.reg op.a + op.b))).r1)),.sl 2 gp 0 (x.setReg op.a (w64 (x.reg op.a + op.b))).procs.length false,(ii ((x.setReg op.a (w64 (x.reg op.a + op.b))).sum)),(ii ((x.setReg op.a (w64 (x.reg op.a + op.b))).ev.time)),(.fsl (((x.setReg op.a (w64 (x.reg op.a + op.b))).ev.key).map qb8) false),(ii ((x.setReg op.a (w64 (x.reg op.a + op.b))).ev.lp)),(ii ((x.setReg op.a (w64 (x.reg op.a + op.b))).ev.kind)),(ii ((x.setReg op.a (w64 (x.reg op.a + op.b))).ev.proc)),(ii ((x.setReg op.a (w64 (x.reg op.a + op.b))).ev.arg)),.sl 3 gc 0 (x.setReg op.a (w64 (x.reg op.a + op.b))).out.length false,(ii ((x.setReg op.a (w64 (x.reg op.a + op.b))).n)),.sl 4 gg 0 (x.setReg op.a (w64 (x.reg op.a + op.b))).gone.length false,(bb ((x.setReg op.a (w64 (x.reg op.a + op.b))).over))]] 0,.mp .i64 qgi]):=by
 rw [qy qp0 qo9]
 rcases ha with ha | ha
 ·simp only [qfo,ha,Ex.setReg,Ex.reg,qah,qap,qv,qbv,Nat.reduceLT,Nat.reduceLeDiff,qn,Ev.exec,qb,qe,qc,qaj,Ev.Opnd.ev,Ev.Env.get,Ev.Env.set,Ev.look,qo,qh,qad,Ev.AV.cells,Ev.AV.uc,qx,Ev.AV.plain,qaf,qm,qab,qak,Ev.kill,qai,qd,Ev.SObj.lo,qax,qu,qbj,qg,qf,qaa,qag,↓qs,↓reduceIte,zga,zgb,zgd,zge,zgc,zgo,zfe,zgf,zgg,zgm,zgl,zgj,zgk,zgh,Nat.reduceAdd,Nat.reduceEqDiff,Nat.reduceMul,Nat.reduceLT,Nat.reduceLeDiff,Int.reduceLE,Int.reduceToNat,reduceCtorEq,zgv,zfc,zfa,zgx,ne_eq,zfb,zff,zfd,Nat.add_zero,zgy]
 ·simp only [qfo,ha,Ex.setReg,Ex.reg,qah,qap,qv,qbv,Nat.reduceLT,Nat.reduceLeDiff,qn,Ev.exec,qb,qe,qc,qaj,Ev.Opnd.ev,Ev.Env.get,Ev.Env.set,Ev.look,qo,qh,qad,Ev.AV.cells,Ev.AV.uc,qx,Ev.AV.plain,qaf,qm,qab,qak,Ev.kill,qai,qd,Ev.SObj.lo,qax,qu,qbj,qg,qf,qaa,qag,↓qs,↓reduceIte,zga,zgb,zgd,zge,zgc,zgo,zfe,zgf,zgg,zgm,zgl,zgj,zgk,zgh,Nat.reduceAdd,Nat.reduceEqDiff,Nat.reduceMul,Nat.reduceLT,Nat.reduceLeDiff,Int.reduceLE,Int.reduceToNat,Int.reduceEq,reduceCtorEq,zgv,zfc,zfa,zgx,ne_eq,zfb,zff,zfd,Nat.add_zero,zgu,zgy]
section
variable (i : Nat) (q : Pr) (hi : x.ev.proc = i) (hq : x.procs[i]? = some q)
include hi hq
theorem less_ev (ha : op.a = 0 ∨ op.a = 1) : (evL T).call qcq [.ptr 5 0 0 0,(.agg [(ii op.code),(ii op.a),(ii op.b),(ii op.c)])] [.row 4 [[(ii a0),(ii a1),.sl 2 0 0 am false,(ii a2)]] 0,.row 4 [[(ii 0),(ii 0),.fsl [] false,(ii 0)]] 0,.row 4 ((x.procs).map Pr.r) gp,.row 6 ((x.out).map Evt.r) gc,.row 1 ((x.gone).map qfy) gg,.row 14 [[(ii x.r0),(ii x.r1),.sl 2 gp 0 x.procs.length false,(ii x.sum),(ii x.ev.time),(.fsl ((x.ev.key).map qb8) false),(ii x.ev.lp),(ii x.ev.kind),(ii x.ev.proc),(ii x.ev.arg),.sl 3 gc 0 x.out.length false,(ii x.n),.sl 4 gg 0 x.gone.length false,(bb x.over)]] 0,.mp .i64 qgi] = some ((ii 0),[.row 4 [[(ii a0),(ii a1),.sl 2 0 0 am false,(ii a2)]] 0,.row 4 [[(ii 0),(ii 0),.fsl [] false,(ii 0)]] 0,.row 4 (((if x.reg op.a < op.b then x.setP i { q with pc:=op.c } else x).procs).map Pr.r) gp,.row 6 (((if x.reg op.a < op.b then x.setP i { q with pc:=op.c } else x).out).map Evt.r) gc,.row 1 (((if x.reg op.a < op.b then x.setP i { q with pc:=op.c } else x).gone).map qfy) gg,.row 14 [[(ii ((if x.reg op.a < op.b then x.setP i { q with pc:=op.c } else x).r0)),(ii ((if x.reg op.a < op.b then x.setP i { q with pc:=op.c } else x).r1)),.sl 2 gp 0 (if x.reg op.a < op.b then x.setP i { q with pc:=op.c } else x).procs.length false,(ii ((if x.reg op.a < op.b then x.setP i { q with pc:=op.c } else x).sum)),(ii ((if x.reg op.a < op.b then x.setP i { q with pc:=op.c } else x).ev.time)),(.fsl (((if x.reg op.a < op.b then x.setP i { q with pc:=op.c } else x).ev.key).map qb8) false),(ii ((if x.reg op.a < op.b then x.setP i { q with pc:=op.c } else x).ev.lp)),(ii ((if x.reg op.a < op.b then x.setP i { q with pc:=op.c } else x).ev.kind)),(ii ((if x.reg op.a < op.b then x.setP i { q with pc:=op.c } else x).ev.proc)),(ii ((if x.reg op.a < op.b then x.setP i { q with pc:=op.c } else x).ev.arg)),.sl 3 gc 0 (if x.reg op.a < op.b then x.setP i { q with pc:=op.c } else x).out.length false,(ii ((if x.reg op.a < op.b then x.setP i { q with pc:=op.c } else x).n)),.sl 4 gg 0 (if x.reg op.a < op.b then x.setP i { q with pc:=op.c } else x).gone.length false,(bb ((if x.reg op.a < op.b then x.setP i { q with pc:=op.c } else x).over))]] 0,.mp .i64 qgi]):=by
 have hp:=(List.getElem?_eq_some_iff.1 hq).1
 have h1:=qtc a0 a1 a2 am x gp gc gg i hi hp
 have hset : (x.procs.map Pr.r).set i [(ii q.prog),(ii op.c),(bb q.alive),(.fsl ((q.timer).map qb8) false)] = (x.procs.set i { q with pc:=op.c }).map Pr.r:=by rw [List.map_set];rfl
 have hl : (x.procs.set i { q with pc:=op.c }).length = x.procs.length:=by simp
 rw [qy qpb qo0]
 unfold Ex.reg
 rcases ha with ha | ha
 ·by_cases hlt : x.r0 < op.b
  ·simp only [qdi,ha,hlt,Ex.setP,h1,hl,zgq,zgt,hq,Pr.r,qah,qap,qv,qbv,Nat.reduceLT,Nat.reduceLeDiff,qn,Ev.exec,qb,qe,qc,qd6,qaj,Ev.evs,Ev.Opnd.ev,Ev.Env.get,Ev.Env.set,Ev.look,qo,qh,qad,Ev.AV.cells,Ev.AV.uc,qx,Ev.AV.plain,ql,qm,qab,qak,Ev.kill,qai,qd,Ev.SObj.lo,qax,qu,qbj,qg,qf,qaa,qag,↓qs,↓reduceIte,zga,zgb,zgd,zge,zgc,zgo,zfe,zgf,zgg,zgm,zgl,zgj,zgk,zgh,Nat.reduceAdd,Nat.reduceEqDiff,Nat.reduceMul,Nat.reduceLT,Nat.reduceLeDiff,Int.reduceLE,Int.reduceToNat,reduceCtorEq,zgv,zfc,zfa,zgx,ne_eq,zfb,zff,zfd,Nat.add_zero,zgy,hset]
  ·simp only [qdi,ha,hlt,qah,qap,qv,qbv,Nat.reduceLT,qn,Ev.exec,qb,qe,qc,qaj,Ev.Opnd.ev,Ev.Env.get,Ev.Env.set,Ev.look,qo,qh,qad,Ev.AV.cells,qx,Ev.AV.plain,ql,qm,qab,qak,Ev.kill,qai,qd,Ev.SObj.lo,qax,qu,qbj,qg,qf,qaa,qag,↓qs,↓reduceIte,zga,zgb,zgd,zge,zgc,zfe,zgf,zgg,zgh,Nat.reduceAdd,Nat.reduceEqDiff,Nat.reduceMul,Nat.reduceLT,Int.reduceLE,Int.reduceToNat,reduceCtorEq,zgv,zgw,zfc,zfa,zgx,ne_eq,zfb,zff,zfd,Nat.add_zero,zgy]
 ·have h01 : ¬ (1 : Int) = 0:=by decide
  by_cases hlt : x.r1 < op.b
  ·simp only [qdi,ha,h01,hlt,Ex.setP,h1,hl,zgq,zgt,hq,Pr.r,qah,qap,qv,qbv,Nat.reduceLT,Nat.reduceLeDiff,qn,Ev.exec,qb,qe,qc,qd6,qaj,Ev.evs,Ev.Opnd.ev,Ev.Env.get,Ev.Env.set,Ev.look,qo,qh,qad,Ev.AV.cells,Ev.AV.uc,qx,Ev.AV.plain,ql,qm,qab,qak,Ev.kill,qai,qd,Ev.SObj.lo,qax,qu,qbj,qg,qf,qaa,qag,↓qs,↓reduceIte,zga,zgb,zgd,zge,zgc,zgo,zfe,zgf,zgg,zgm,zgl,zgj,zgk,zgh,Nat.reduceAdd,Nat.reduceEqDiff,Nat.reduceMul,Nat.reduceLT,Nat.reduceLeDiff,Int.reduceLE,Int.reduceToNat,reduceCtorEq,zgv,zfc,zfa,zgx,ne_eq,zfb,zff,zfd,Nat.add_zero,zgu,zgy,hset]
  ·simp only [qdi,ha,h01,hlt,qah,qap,qv,qbv,Nat.reduceLT,qn,Ev.exec,qb,qe,qc,qaj,Ev.Opnd.ev,Ev.Env.get,Ev.Env.set,Ev.look,qo,qh,qad,Ev.AV.cells,qx,Ev.AV.plain,ql,qm,qab,qak,Ev.kill,qai,qd,Ev.SObj.lo,qax,qu,qbj,qg,qf,qaa,qag,↓qs,↓reduceIte,zga,zgb,zgd,zge,zgc,zfe,zgf,zgg,zgh,Nat.reduceAdd,Nat.reduceEqDiff,Nat.reduceMul,Nat.reduceLT,Int.reduceLE,Int.reduceToNat,reduceCtorEq,zgv,zgw,zfc,zfa,zgx,ne_eq,zfb,zff,zfd,Nat.add_zero,zgu,zgy]
theorem qac4 (h : x.Small) : (evL T).call qca [.ptr 5 0 0 0,(.agg [(ii op.code),(ii op.a),(ii op.b),(ii op.c)])] [.row 4 [[(ii a0),(ii a1),.sl 2 0 0 am false,(ii a2)]] 0,.row 4 [[(ii 0),(ii 0),.fsl [] false,(ii 0)]] 0,.row 4 ((x.procs).map Pr.r) gp,.row 6 ((x.out).map Evt.r) gc,.row 1 ((x.gone).map qfy) gg,.row 14 [[(ii x.r0),(ii x.r1),.sl 2 gp 0 x.procs.length false,(ii x.sum),(ii x.ev.time),(.fsl ((x.ev.key).map qb8) false),(ii x.ev.lp),(ii x.ev.kind),(ii x.ev.proc),(ii x.ev.arg),.sl 3 gc 0 x.out.length false,(ii x.n),.sl 4 gg 0 x.gone.length false,(bb x.over)]] 0,.mp .i64 qgi] = some ((ii 0),[.row 4 [[(ii a0),(ii a1),.sl 2 0 0 am false,(ii a2)]] 0,.row 4 [[(ii 0),(ii 0),.fsl [] false,(ii 0)]] 0,.row 4 (((x.stopE i q).procs).map Pr.r) gp,.row 6 (((x.stopE i q).out).map Evt.r) gc,.row 1 (((x.stopE i q).gone).map qfy) (if 0 < q.timer.length then gg + 1 else gg),.row 14 [[(ii ((x.stopE i q).r0)),(ii ((x.stopE i q).r1)),.sl 2 gp 0 (x.stopE i q).procs.length false,(ii ((x.stopE i q).sum)),(ii ((x.stopE i q).ev.time)),(.fsl (((x.stopE i q).ev.key).map qb8) false),(ii ((x.stopE i q).ev.lp)),(ii ((x.stopE i q).ev.kind)),(ii ((x.stopE i q).ev.proc)),(ii ((x.stopE i q).ev.arg)),.sl 3 gc 0 (x.stopE i q).out.length false,(ii ((x.stopE i q).n)),.sl 4 (if 0 < q.timer.length then gg + 1 else gg) 0 (x.stopE i q).gone.length false,(bb ((x.stopE i q).over))]] 0,.mp .i64 qgi]):=by
 have hp:=(List.getElem?_eq_some_iff.1 hq).1
 have h1:=qtc a0 a1 a2 am x gp gc gg i hi hp
 have hset : (x.procs.map Pr.r).set i [(ii q.prog),(ii q.pc),(bb q.alive),.fsl [] false] = (x.procs.set i { q with timer:=[] }).map Pr.r:=by rw [List.map_set];rfl
 have hl : (x.procs.set i { q with timer:=[] }).length = x.procs.length:=by simp
 have hs : (x.gone.length + 1) * 24 ≤ 140737488355328:=by have:=h.gone;omega
 have htl : List.take x.gone.length (x.gone.map qfy) = x.gone.map qfy:=List.take_of_length_le (by simp)
 have hr : ∀ e : List Int,(x.gone ++ [e]).map qfy = x.gone.map qfy ++ [qfy e]:=fun e => by rw [List.map_append];rfl
 rw [qy qo3 qoq]
 unfold Ex.stopE
 by_cases ht : 0 < q.timer.length
 ·have ht' : (q.timer.length : Int) > 0:=by omega
  simp only [qfb,ht,ht',h1,hl,hs,htl,hr,qkc,qfy,zgq,zgt,hq,Pr.r,qah,qap,qv,qbv,Nat.reduceLT,Nat.reduceLeDiff,qn,Ev.exec,qb,qe,qc,qd6,qaj,qnz,Ev.evs,Ev.Opnd.ev,Ev.Env.get,Ev.Env.set,Ev.look,qo,qh,qbs,qad,qfl,Ev.AV.cells,Ev.AV.uc,qx,Ev.AV.plain,qau,qm,qab,qak,Ev.kill,qai,qd,Ev.SObj.lo,qax,qu,qbj,qg,qf,qaa,qag,qbh,qa8,List.replicate_one,zgi,↓qs,↓reduceIte,zga,zgb,zgp,zgd,zge,zgc,zgo,zfe,zgf,zgg,List.drop_nil,zgm,zgl,zgn,zgj,zgk,zgh,Nat.reduceAdd,Nat.reduceEqDiff,Nat.reduceMul,Nat.reduceLT,Nat.reduceLeDiff,Nat.reducePow,reduceCtorEq,zgv,zfc,zfa,zgx,ne_eq,zfb,zff,zfd,zgu,Nat.le_refl,zgy,hset]
 ·have ht' : ¬ (q.timer.length : Int) > 0:=by omega
  simp only [qfb,ht,ht',h1,zgq,zgt,hq,Pr.r,qah,qap,qv,qbv,Nat.reduceLT,qn,Ev.exec,qb,qe,qc,qd6,qaj,Ev.evs,Ev.Opnd.ev,Ev.Env.get,Ev.Env.set,Ev.look,qo,qh,qad,Ev.AV.cells,qx,Ev.AV.plain,qau,qm,qab,qak,Ev.kill,qai,qd,Ev.SObj.lo,qax,qu,qbj,qg,qf,qaa,qag,zgi,↓qs,↓reduceIte,zga,zgb,zgd,zge,zgc,zfe,zgf,zgg,zgh,Nat.reduceAdd,Nat.reduceLT,reduceCtorEq,zgv,zgw,zfc,zfa,zgx,ne_eq,zfb,zff,zfd,zgy]
def Ex.spawnE (x : Ex) (op : OpI) : Ex:=if x.procs.length < 8 then ({ x with procs:=x.procs ++ [⟨op.a,0,true,[]⟩] } : Ex).create op.b (x.ownE 1 x.procs.length 0) else x
omit hi hq in
theorem spawn_ev (h : x.Small) : ∃ gp' gc',(evL T).call qch [.ptr 5 0 0 0,(.agg [(ii op.code),(ii op.a),(ii op.b),(ii op.c)])] [.row 4 [[(ii a0),(ii a1),.sl 2 0 0 am false,(ii a2)]] 0,.row 4 [[(ii 0),(ii 0),.fsl [] false,(ii 0)]] 0,.row 4 ((x.procs).map Pr.r) gp,.row 6 ((x.out).map Evt.r) gc,.row 1 ((x.gone).map qfy) gg,.row 14 [[(ii x.r0),(ii x.r1),.sl 2 gp 0 x.procs.length false,(ii x.sum),(ii x.ev.time),(.fsl ((x.ev.key).map qb8) false),(ii x.ev.lp),(ii x.ev.kind),(ii x.ev.proc),(ii x.ev.arg),.sl 3 gc 0 x.out.length false,(ii x.n),.sl 4 gg 0 x.gone.length false,(bb x.over)]] 0,.mp .i64 qgi] = some ((ii 0),[.row 4 [[(ii a0),(ii a1),.sl 2 0 0 am false,(ii a2)]] 0,.row 4 [[(ii 0),(ii 0),.fsl [] false,(ii 0)]] 0,.row 4 (((x.spawnE op).procs).map Pr.r) gp',.row 6 (((x.spawnE op).out).map Evt.r) gc',.row 1 (((x.spawnE op).gone).map qfy) gg,.row 14 [[(ii ((x.spawnE op).r0)),(ii ((x.spawnE op).r1)),.sl 2 gp' 0 (x.spawnE op).procs.length false,(ii ((x.spawnE op).sum)),(ii ((x.spawnE op).ev.time)),(.fsl (((x.spawnE op).ev.key).map qb8) false),(ii ((x.spawnE op).ev.lp)),(ii ((x.spawnE op).ev.kind)),(ii ((x.spawnE op).ev.proc)),(ii ((x.spawnE op).ev.arg)),.sl 3 gc' 0 (x.spawnE op).out.length false,(ii ((x.spawnE op).n)),.sl 4 gg 0 (x.spawnE op).gone.length false,(bb ((x.spawnE op).over))]] 0,.mp .i64 qgi]):=by
 rw [qy qop qnv]
 unfold Ex.spawnE
 by_cases h8 : x.procs.length < 8
 ·have h8' : (x.procs.length : Int) < 8:=by omega
  have hs : (x.procs.length + 1) * 48 ≤ 140737488355328:=by omega
  have htl : List.take x.procs.length (x.procs.map Pr.r) = x.procs.map Pr.r:=List.take_of_length_le (by simp)
  have hr : ∀ e : Pr,(x.procs ++ [e]).map Pr.r = x.procs.map Pr.r ++ [e.r]:=fun e => by rw [List.map_append];rfl
  have hl : ∀ e : Pr,(x.procs ++ [e]).length = x.procs.length + 1:=fun e => by simp
  have hsm : ({ x with procs:=x.procs ++ [⟨op.a,0,true,[]⟩] } : Ex).Small:=⟨by simp;omega,h.out,h.gone,h.key⟩
  have h1:=qacj a0 a1 a2 am { x with procs:=x.procs ++ [⟨op.a,0,true,[]⟩] } (gp + 1) gc gg 1 x.procs.length 0
  have h2:=qu2 a0 a1 a2 am { x with procs:=x.procs ++ [⟨op.a,0,true,[]⟩] } (gp + 1) gc gg hsm op.b 0 x.ev.lp 1 x.procs.length 0 []
  refine ⟨gp + 1,qno { x with procs:=x.procs ++ [⟨op.a,0,true,[]⟩] } op.b gc,?_⟩
  simp only [hr,hl,Pr.r,List.map_nil] at h1 h2
  simp only [qet,h8,h8',h1,h2,hs,htl,Ex.ownE,qah,qap,qv,qbv,Nat.reduceLT,Nat.reduceLeDiff,qn,Ev.exec,qb,qe,qc,qd6,qaj,qnz,Ev.evs,Ev.Opnd.ev,Ev.Env.get,Ev.Env.set,Ev.look,qo,qh,qbs,qad,qgp,qfl,Ev.AV.cells,Ev.AV.uc,qx,Ev.AV.plain,ql,qm,qab,qak,Ev.kill,qai,qd,Ev.SObj.lo,qax,qu,qbj,qg,qf,qaa,qag,qbh,qa8,List.replicate_one,zgi,↓qs,↓reduceIte,zga,zgb,zgd,zge,zgc,zgo,zfe,zgf,zgg,zgm,zgl,zgj,zgk,zgh,Nat.reduceAdd,Nat.reduceEqDiff,Nat.reduceMul,Nat.reduceLT,Nat.reduceLeDiff,Nat.reducePow,reduceCtorEq,zgv,zfc,zfa,zgx,ne_eq,zfb,zff,zfd,Nat.add_zero,zgu,Nat.le_refl,zgy]
 ·have h8' : ¬ (x.procs.length : Int) < 8:=by omega
  refine ⟨gp,gc,?_⟩
  simp only [qet,h8,h8',qah,qap,qv,qbv,Nat.reduceLT,qn,Ev.exec,qb,qe,qc,qaj,Ev.Opnd.ev,Ev.Env.get,Ev.Env.set,Ev.look,qo,qh,qad,Ev.AV.cells,qx,Ev.AV.plain,ql,qm,qab,qak,Ev.kill,qai,qd,Ev.SObj.lo,qax,qu,qbj,qg,qf,qaa,qag,↓qs,↓reduceIte,zga,zgb,zgd,zge,zgc,zfe,zgf,zgg,zgh,Nat.reduceAdd,Nat.reduceLT,reduceCtorEq,zgv,zgw,zfc,zfa,zgx,ne_eq,zfb,zff,zfd,Nat.add_zero,zgy]
def Ex.timerE (x : Ex) (i : Nat) (q : Pr) (op : OpI) : Ex:=((x.stopE i q).create op.a (x.ownE 2 x.ev.proc op.b)).setP i { q with timer:=(x.stopE i q).kid }
theorem timer_ev (h : x.Small) (hg : x.gone.length < 1000) : ∃ gc' gg',(evL T).call qci [.ptr 5 0 0 0,(.agg [(ii op.code),(ii op.a),(ii op.b),(ii op.c)])] [.row 4 [[(ii a0),(ii a1),.sl 2 0 0 am false,(ii a2)]] 0,.row 4 [[(ii 0),(ii 0),.fsl [] false,(ii 0)]] 0,.row 4 ((x.procs).map Pr.r) gp,.row 6 ((x.out).map Evt.r) gc,.row 1 ((x.gone).map qfy) gg,.row 14 [[(ii x.r0),(ii x.r1),.sl 2 gp 0 x.procs.length false,(ii x.sum),(ii x.ev.time),(.fsl ((x.ev.key).map qb8) false),(ii x.ev.lp),(ii x.ev.kind),(ii x.ev.proc),(ii x.ev.arg),.sl 3 gc 0 x.out.length false,(ii x.n),.sl 4 gg 0 x.gone.length false,(bb x.over)]] 0,.mp .i64 qgi] = some ((ii 0),[.row 4 [[(ii a0),(ii a1),.sl 2 0 0 am false,(ii a2)]] 0,.row 4 [[(ii 0),(ii 0),.fsl [] false,(ii 0)]] 0,.row 4 (((x.timerE i q op).procs).map Pr.r) gp,.row 6 (((x.timerE i q op).out).map Evt.r) gc',.row 1 (((x.timerE i q op).gone).map qfy) gg',.row 14 [[(ii ((x.timerE i q op).r0)),(ii ((x.timerE i q op).r1)),.sl 2 gp 0 (x.timerE i q op).procs.length false,(ii ((x.timerE i q op).sum)),(ii ((x.timerE i q op).ev.time)),(.fsl (((x.timerE i q op).ev.key).map qb8) false),(ii ((x.timerE i q op).ev.lp)),(ii ((x.timerE i q op).ev.kind)),(ii ((x.timerE i q op).ev.proc)),(ii ((x.timerE i q op).ev.arg)),.sl 3 gc' 0 (x.timerE i q op).out.length false,(ii ((x.timerE i q op).n)),.sl 4 gg' 0 (x.timerE i q op).gone.length false,(bb ((x.timerE i q op).over))]] 0,.mp .i64 qgi]):=by
 have h0:=qac4 a0 a1 a2 am x gp gc gg op i q hi hq h
 have hev : (x.stopE i q).ev = x.ev:=by unfold Ex.stopE;split <;> rfl
 have hpl : (x.stopE i q).procs.length = x.procs.length:=by unfold Ex.stopE;split <;> simp
 have hp:=(List.getElem?_eq_some_iff.1 hq).1
 have hsm : (x.stopE i q).Small:=⟨by rw [hpl];exact h.procs,by unfold Ex.stopE;split <;> exact h.out,by
  unfold Ex.stopE;split
  ·simp only [zgp,zga,zgb];omega
  ·exact h.gone,by rw [hev];exact h.key⟩
 generalize (if 0 < q.timer.length then gg + 1 else gg) = gg' at h0
 have hset2 : ∀ k : List Int,(x.stopE i q).procs.set i { q with timer:=k } = x.procs.set i { q with timer:=k }:=fun k => by
  unfold Ex.stopE;split <;> simp
 have hq2 : ∃ q2,(x.stopE i q).procs[i]? = some q2 ∧ q2.prog = q.prog ∧ q2.pc = q.pc ∧ q2.alive = q.alive:=by
  by_cases ht : 0 < q.timer.length
  ·simp only [Ex.stopE,ht,if_true]
   exact ⟨{ q with timer:=[] },by rw [List.getElem?_set_self hp],rfl,rfl,rfl⟩
  ·simp only [Ex.stopE,ht,if_false]
   exact ⟨q,hq,rfl,rfl,rfl⟩
 unfold Ex.timerE
 generalize x.stopE i q = y at h0 hev hpl hsm hset2 hq2
 obtain ⟨q2,hq2,e1,e2,e3⟩:=hq2
 have hi2 : y.ev.proc = i:=by rw [hev];exact hi
 have h1:=qtc a0 a1 a2 am y gp gc gg' i hi2 (by omega)
 have h2:=qacj a0 a1 a2 am y gp gc gg' 2 y.ev.proc op.b
 have h3:=qu2 a0 a1 a2 am y gp gc gg' hsm op.a 0 y.ev.lp 2 y.ev.proc op.b []
 refine ⟨qno y op.a gc,gg',?_⟩
 have hcp : (y.create op.a ⟨0,[],y.ev.lp,2,y.ev.proc,op.b⟩).procs = y.procs:=rfl
 simp only [Ex.ownE,Ex.setP,← hev] at h0 ⊢
 generalize qno y op.a gc = gc' at h3
 generalize y.create op.a ⟨0,[],y.ev.lp,2,y.ev.proc,op.b⟩ = z at h3 hcp
 have hset : (y.procs.map Pr.r).set i [(ii q2.prog),(ii q2.pc),(bb q2.alive),(.fsl ((y.kid).map qb8) false)] = (y.procs.set i { q with timer:=y.kid }).map Pr.r:=by rw [List.map_set,e1,e2,e3];rfl
 have hl : (y.procs.set i { q with timer:=y.kid }).length = y.procs.length:=by simp
 rw [qy qor qnt]
 simp only [List.map_nil,hcp] at h3
 simp only [qf6,h0,h1,h2,h3,hcp,hl,zgq,zgt,hq2,Pr.r,eq_procs,eq_evts,eq_keys,q42,eq_table,qah,qap,qv,qbv,Nat.reduceLT,qn,Ev.exec,qb,qe,qc,qd6,Ev.item_R,qsc,Ev.SObj.eqB,q6g,q3w,qvk,qsp,q4k,q83,q5l,Ev.eqB_sl,qaj,Ev.evs,Ev.Opnd.ev,Ev.Env.get,Ev.Env.set,Ev.look,qo,qh,qad,Ev.AV.cells,Ev.AV.uc,qx,Ev.AV.plain,qm,qab,qak,Ev.kill,qai,qd,Ev.SObj.lo,qax,qu,qbj,qg,qf,qaa,qag,↓qs,↓reduceIte,zga,zgb,zgd,zge,zgc,zgo,zfe,zgf,zgg,List.drop_nil,zgm,zgl,zgn,zgj,zgk,zgh,Nat.reduceAdd,Nat.reduceEqDiff,Nat.reduceLT,reduceCtorEq,zgv,zfc,zfa,zgx,ne_eq,zfb,zff,zfd,Nat.le_refl,zgy,beq_self_eq_true,hset]
end
end
set_option maxRecDepth 10000
def qdz (x : Ex) (i : Nat) (q : Pr) (op : OpI) : Ex × Int :=
 if op.code = 1 then (x.create op.a (x.ownE 1 x.ev.proc 0),1)
 else if op.code = 2 then (x.create op.c ⟨0,[],op.a,3,0,op.b⟩,0)
 else if op.code = 3 then (x.timerE i q op,0)
 else if op.code = 4 then (x.stopE i q,0)
 else if op.code = 5 then (x.spawnE op,0)
 else if op.code = 6 then (x.setReg op.a (w64 (x.reg op.a + op.b)),0)
 else if op.code = 7 then (if x.reg op.a < op.b then x.setP i { q with pc:=op.c } else x,0)
 else (x,2)
structure OpOk' (op : OpI) : Prop where
 code : 1 ≤ op.code ∧ op.code ≤ 8
 reg : op.code = 6 ∨ op.code = 7 → op.a = 0 ∨ op.a = 1
 to : op.code = 7 → 0 ≤ op.c ∧ op.c ≤ 1000000
section
variable (a0 a1 a2 : Int) (am : Nat) (x : Ex) (gp gc gg : Nat) (op : OpI) (i : Nat) (q : Pr)
theorem step_ev (h : x.Small) (hg : x.gone.length < 1000) (hi : x.ev.proc = i) (hq : x.procs[i]? = some q) (ho : OpOk' op) :
  ∃ k gp' gc' gg',getL op.code qgi = some (.fn (.func k) [] []) ∧ (evL T).call k [.ptr 5 0 0 0,(.agg [(ii op.code),(ii op.a),(ii op.b),(ii op.c)])] [.row 4 [[(ii a0),(ii a1),.sl 2 0 0 am false,(ii a2)]] 0,.row 4 [[(ii 0),(ii 0),.fsl [] false,(ii 0)]] 0,.row 4 ((x.procs).map Pr.r) gp,.row 6 ((x.out).map Evt.r) gc,.row 1 ((x.gone).map qfy) gg,.row 14 [[(ii x.r0),(ii x.r1),.sl 2 gp 0 x.procs.length false,(ii x.sum),(ii x.ev.time),(.fsl ((x.ev.key).map qb8) false),(ii x.ev.lp),(ii x.ev.kind),(ii x.ev.proc),(ii x.ev.arg),.sl 3 gc 0 x.out.length false,(ii x.n),.sl 4 gg 0 x.gone.length false,(bb x.over)]] 0,.mp .i64 qgi] = some ((ii ((qdz x i q op).2)),[.row 4 [[(ii a0),(ii a1),.sl 2 0 0 am false,(ii a2)]] 0,.row 4 [[(ii 0),(ii 0),.fsl [] false,(ii 0)]] 0,.row 4 (((qdz x i q op).1.procs).map Pr.r) gp',.row 6 (((qdz x i q op).1.out).map Evt.r) gc',.row 1 (((qdz x i q op).1.gone).map qfy) gg',.row 14 [[(ii ((qdz x i q op).1.r0)),(ii ((qdz x i q op).1.r1)),.sl 2 gp' 0 (qdz x i q op).1.procs.length false,(ii ((qdz x i q op).1.sum)),(ii ((qdz x i q op).1.ev.time)),(.fsl (((qdz x i q op).1.ev.key).map qb8) false),(ii ((qdz x i q op).1.ev.lp)),(ii ((qdz x i q op).1.ev.kind)),(ii ((qdz x i q op).1.ev.proc)),(ii ((qdz x i q op).1.ev.arg)),.sl 3 gc' 0 (qdz x i q op).1.out.length false,(ii ((qdz x i q op).1.n)),.sl 4 gg' 0 (qdz x i q op).1.gone.length false,(bb ((qdz x i q op).1.over))]] 0,.mp .i64 qgi]):=by
 have hc : op.code = 1 ∨ op.code = 2 ∨ op.code = 3 ∨ op.code = 4 ∨ op.code = 5 ∨ op.code = 6 ∨ op.code = 7 ∨ op.code = 8:=by have:=ho.code;omega
 have ne : ∀ m n : Int,decide (m = n) = false → ¬ m = n:=fun m n h => of_decide_eq_false h
 rcases hc with hc | hc | hc | hc | hc | hc | hc | hc
 ·refine ⟨qcr,gp,qno x op.a gc,gg,by rw [hc];rfl,?_⟩
  have e : qdz x i q op = (x.create op.a (x.ownE 1 x.ev.proc 0),1):=by simp [qdz,hc]
  rw [e];exact hold_ev a0 a1 a2 am x gp gc gg op h
 ·refine ⟨qcn,gp,qno x op.c gc,gg,by rw [hc];rfl,?_⟩
  have e : qdz x i q op = (x.create op.c ⟨0,[],op.a,3,0,op.b⟩,0):=by simp [qdz,hc]
  rw [e];exact send_ev a0 a1 a2 am x gp gc gg op h
 ·obtain ⟨gc',gg',hz⟩:=timer_ev a0 a1 a2 am x gp gc gg op i q hi hq h hg
  refine ⟨qci,gp,gc',gg',by rw [hc];rfl,?_⟩
  have e : qdz x i q op = (x.timerE i q op,0):=by simp [qdz,hc]
  rw [e];exact hz
 ·refine ⟨qca,gp,gc,(if 0 < q.timer.length then gg + 1 else gg),by rw [hc];rfl,?_⟩
  have e : qdz x i q op = (x.stopE i q,0):=by simp [qdz,hc]
  rw [e];exact qac4 a0 a1 a2 am x gp gc gg op i q hi hq h
 ·obtain ⟨gp',gc',hz⟩:=spawn_ev a0 a1 a2 am x gp gc gg op h
  refine ⟨qch,gp',gc',gg,by rw [hc];rfl,?_⟩
  have e : qdz x i q op = (x.spawnE op,0):=by simp [qdz,hc]
  rw [e];exact hz
 ·refine ⟨qcy,gp,gc,gg,by rw [hc];rfl,?_⟩
  have e : qdz x i q op = (x.setReg op.a (w64 (x.reg op.a + op.b)),0):=by simp [qdz,hc]
  rw [e];exact add_ev a0 a1 a2 am x gp gc gg op (ho.reg (.inl hc))
 ·refine ⟨qcq,gp,gc,gg,by rw [hc];rfl,?_⟩
  have e : qdz x i q op = (if x.reg op.a < op.b then x.setP i { q with pc:=op.c } else x,0):=by simp [qdz,hc]
  rw [e];exact less_ev a0 a1 a2 am x gp gc gg op i q hi hq (ho.reg (.inr hc))
 ·refine ⟨qcx,gp,gc,gg,by rw [hc];rfl,?_⟩
  have e : qdz x i q op = (x,2):=by simp [qdz,hc]
  rw [e];exact end_ev a0 a1 a2 am x gp gc gg op
end
def qne (x : Ex) (i : Nat) : Ex:=match x.procs[i]? with
 | some q => x.setP i { q with alive:=false }
 | none => x
def qmb (p : List OpI) (i : Nat) : Nat → Ex → Ex
 | 0,x => qne x i
 | n + 1,x => match x.procs[i]? with
  | none => x
  | some q => match p[q.pc.toNat]? with
   | none => qne x i
   | some op =>
    if (qdz (x.setP i { q with pc:=w64 (q.pc + 1) }) i { q with pc:=w64 (q.pc + 1) } op).2 = 1 then (qdz (x.setP i { q with pc:=w64 (q.pc + 1) }) i { q with pc:=w64 (q.pc + 1) } op).1
    else if (qdz (x.setP i { q with pc:=w64 (q.pc + 1) }) i { q with pc:=w64 (q.pc + 1) } op).2 = 2 then qne (qdz (x.setP i { q with pc:=w64 (q.pc + 1) }) i { q with pc:=w64 (q.pc + 1) } op).1 i
    else qmb p i n (qdz (x.setP i { q with pc:=w64 (q.pc + 1) }) i { q with pc:=w64 (q.pc + 1) } op).1
structure ActInv (e : Evt) (i n : Nat) (x : Ex) : Prop where
 ev : x.ev = e
 has : ∃ q,x.procs[i]? = some q ∧ 0 ≤ q.pc ∧ q.pc ≤ 1000000
 procs : x.procs.length ≤ 20
 out : x.out.length ≤ n
 gone : x.gone.length ≤ n
theorem ActInv.small {e : Evt} {i n : Nat} {x : Ex} (h : ActInv e i n x) (hn : n ≤ 100) (hk : e.key.length ≤ 100000) : x.Small:=⟨by have:=h.procs;omega,by have:=h.out;omega,by have:=h.gone;omega,by rw [h.ev];exact hk⟩
theorem q9y (x : Ex) (d : Int) (e : Evt) : (x.create d e).out.length ≤ x.out.length + 1:=by
 unfold Ex.create;simp only;split
 ·omega
 ·simp
theorem ActInv.step {e : Evt} {i n : Nat} {x : Ex} (h : ActInv e i n x) {q : Pr} (hq : x.procs[i]? = some q) (hpc : 0 ≤ q.pc ∧ q.pc ≤ 1000000) {op : OpI} (ho : OpOk' op) : ActInv e i (n + 1) (qdz x i q op).1:=by
 have hlt:=(List.getElem?_eq_some_iff.1 hq).1
 have hp:=h.procs
 have h1:=h.out
 have h2:=h.gone
 have stop : ActInv e i (n + 1) (x.stopE i q) ∧ (x.stopE i q).out = x.out:=by
  unfold Ex.stopE;split
  ·exact ⟨⟨h.ev,⟨{ q with timer:=[] },by simp only;rw [List.getElem?_set_self hlt],hpc⟩,by simpa using hp,by simp only;omega,by simp;omega⟩,rfl⟩
  ·exact ⟨⟨h.ev,⟨q,hq,hpc⟩,hp,by omega,by omega⟩,rfl⟩
 have crt : ∀ (y : Ex) (d : Int) (ev : Evt),y.ev = e → (∃ q,y.procs[i]? = some q ∧ 0 ≤ q.pc ∧ q.pc ≤ 1000000) → y.procs.length ≤ 20 → y.out.length ≤ n → y.gone.length ≤ n + 1 → ActInv e i (n + 1) (y.create d ev):=fun y d ev k1 k2 k3 k4 k5 =>
  ⟨k1,k2,k3,by have:=q9y y d ev;omega,k5⟩
 unfold qdz
 split
 ·exact crt x _ _ h.ev ⟨q,hq,hpc⟩ hp h1 (by omega)
 split
 ·exact crt x _ _ h.ev ⟨q,hq,hpc⟩ hp h1 (by omega)
 split
 ·obtain ⟨s1,s2⟩:=stop
  have hc:=crt (x.stopE i q) op.a (x.ownE 2 x.ev.proc op.b) s1.ev s1.has s1.procs (by rw [s2];exact h1) s1.gone
  have hl : i < ((x.stopE i q).create op.a (x.ownE 2 x.ev.proc op.b)).procs.length:=by
   obtain ⟨q',hq',_⟩:=hc.has
   exact (List.getElem?_eq_some_iff.1 hq').1
  exact ⟨hc.ev,⟨{ q with timer:=(x.stopE i q).kid },by simp only [Ex.timerE,Ex.setP];rw [List.getElem?_set_self hl],hpc⟩,by simp only [Ex.timerE,Ex.setP,List.length_set];exact hc.procs,hc.out,hc.gone⟩
 split
 ·exact stop.1
 split
 ·unfold Ex.spawnE
  split
  ·refine crt _ _ _ h.ev ⟨q,by simp only;rw [List.getElem?_append_left hlt];exact hq,hpc⟩ (by simp;omega) h1 (by simp only;omega)
  ·exact ⟨h.ev,⟨q,hq,hpc⟩,hp,by first | omega | (simp only;omega),by first | omega | (simp only;omega)⟩
 split
 ·unfold Ex.setReg
  split <;> exact ⟨h.ev,⟨q,hq,hpc⟩,hp,by first | omega | (simp only;omega),by first | omega | (simp only;omega)⟩
 split
 ·rename_i h7
  simp only
  split
  ·exact ⟨h.ev,⟨{ q with pc:=op.c },by simp only [Ex.setP];rw [List.getElem?_set_self hlt],ho.to h7⟩,by simp only [Ex.setP,List.length_set];exact hp,by simp only [Ex.setP];omega,by simp only [Ex.setP];omega⟩
  ·exact ⟨h.ev,⟨q,hq,hpc⟩,hp,by first | omega | (simp only;omega),by first | omega | (simp only;omega)⟩
 ·exact ⟨h.ev,⟨q,hq,hpc⟩,hp,by first | omega | (simp only;omega),by first | omega | (simp only;omega)⟩
set_option maxRecDepth 10000
theorem ActInv.pc {e : Evt} {i n : Nat} {x : Ex} (h : ActInv e i n x) {q : Pr} (hq : x.procs[i]? = some q) {pc : Int} (hp : 0 ≤ pc ∧ pc ≤ 1000000) (al : Bool) : ActInv e i n (x.setP i { q with pc:=pc,alive:=al }):=by
 have hlt:=(List.getElem?_eq_some_iff.1 hq).1
 exact ⟨h.ev,⟨{ q with pc:=pc,alive:=al },by simp only [Ex.setP];rw [List.getElem?_set_self hlt],hp⟩,by simp only [Ex.setP,List.length_set];exact h.procs,h.out,h.gone⟩
section
variable (a0 a1 a2 : Int) (am : Nat) (e0 : Evt) (i : Nat) (p : List OpI) (cl : Bool)
def ActEnd (a0 a1 a2 : Int) (am : Nat) (e0 : Evt) (i : Nat) (F : Ex) (y : CExit × Env × qac) : Prop :=
 ∃ z gp gc gg,y.2.2 = [.row 4 [[(ii a0),(ii a1),.sl 2 0 0 am false,(ii a2)]] 0,.row 4 [[(ii 0),(ii 0),.fsl [] false,(ii 0)]] 0,.row 4 ((z.procs).map Pr.r) gp,.row 6 ((z.out).map Evt.r) gc,.row 1 ((z.gone).map qfy) gg,.row 14 [[(ii z.r0),(ii z.r1),.sl 2 gp 0 z.procs.length false,(ii z.sum),(ii z.ev.time),(.fsl ((z.ev.key).map qb8) false),(ii z.ev.lp),(ii z.ev.kind),(ii z.ev.proc),(ii z.ev.arg),.sl 3 gc 0 z.out.length false,(ii z.n),.sl 4 gg 0 z.gone.length false,(bb z.over)]] 0,.mp .i64 qgi] ∧ y.2.1.marks = [] ∧ ((y.1 = .ret ∧ z = F ∧ ActInv e0 i 16 z) ∨ (y.1 = .exit 0 ∧ Ev.look y.2.1.vars 0 = some (.ptr 5 0 0 0) ∧ qne z i = F ∧ ActInv e0 i 16 z))
theorem act_loop (hk : e0.key.length ≤ 100000) (hpr : e0.proc = i) (hpl : p.length ≤ 1000) (hok : ∀ op ∈ p,OpOk' op) (x : Ex) (gp gc gg : Nat) (h0 : ActInv e0 i 0 x) :
  ∃ y,itB (exec (evL T) itL none qb2) (qq [0,1,4,7] true 7) ⟨[(0,.ptr 5 0 0 0),(1,(.fsl ((p).map OpI.r) cl)),(4,.mp 6),(7,(ii 0))],[]⟩ [.row 4 [[(ii a0),(ii a1),.sl 2 0 0 am false,(ii a2)]] 0,.row 4 [[(ii 0),(ii 0),.fsl [] false,(ii 0)]] 0,.row 4 ((x.procs).map Pr.r) gp,.row 6 ((x.out).map Evt.r) gc,.row 1 ((x.gone).map qfy) gg,.row 14 [[(ii x.r0),(ii x.r1),.sl 2 gp 0 x.procs.length false,(ii x.sum),(ii x.ev.time),(.fsl ((x.ev.key).map qb8) false),(ii x.ev.lp),(ii x.ev.kind),(ii x.ev.proc),(ii x.ev.arg),.sl 3 gc 0 x.out.length false,(ii x.n),.sl 4 gg 0 x.gone.length false,(bb x.over)]] 0,.mp .i64 qgi] = some y ∧ ActEnd a0 a1 a2 am e0 i (qmb p i 16 x) y:=by
 have:=qen (f:=exec (evL T) itL none qb2) (s:=qq [0,1,4,7] true 7) (α:=Ex × Nat × Nat × Nat) (fun j _ => ⟨[(0,.ptr 5 0 0 0),(1,(.fsl ((p).map OpI.r) cl)),(4,.mp 6),(7,(ii ((j : Int))))],[]⟩) (fun _ a => [.row 4 [[(ii a0),(ii a1),.sl 2 0 0 am false,(ii a2)]] 0,.row 4 [[(ii 0),(ii 0),.fsl [] false,(ii 0)]] 0,.row 4 ((a.1.procs).map Pr.r) a.2.1,.row 6 ((a.1.out).map Evt.r) a.2.2.1,.row 1 ((a.1.gone).map qfy) a.2.2.2,.row 14 [[(ii a.1.r0),(ii a.1.r1),.sl 2 a.2.1 0 a.1.procs.length false,(ii a.1.sum),(ii a.1.ev.time),(.fsl ((a.1.ev.key).map qb8) false),(ii a.1.ev.lp),(ii a.1.ev.kind),(ii a.1.ev.proc),(ii a.1.ev.arg),.sl 3 a.2.2.1 0 a.1.out.length false,(ii a.1.n),.sl 4 a.2.2.2 0 a.1.gone.length false,(bb a.1.over)]] 0,.mp .i64 qgi])
  (fun j a => ActInv e0 i j a.1 ∧ qmb p i (16 - j) a.1 = qmb p i 16 x) 16 (ActEnd a0 a1 a2 am e0 i (qmb p i 16 x)) ?_ ?_ 0 (x,gp,gc,gg) (Nat.zero_le _) ⟨h0,rfl⟩
 ·exact this
 ·rintro j ⟨y,gp,gc,gg⟩ hj ⟨hi1,hi2⟩
  simp only at hi1 hi2 ⊢
  obtain ⟨q,hq,hpc⟩:=hi1.has
  have hlt:=(List.getElem?_eq_some_iff.1 hq).1
  have hpr' : y.ev.proc = i:=by rw [hi1.ev];exact hpr
  have hj' : (j : Int) < 16:=by omega
  have hw : IntKind.i64.wrap ((j : Int) + 1) = ((j + 1 : Nat) : Int):=by rw [qas (by omega) (by omega)];simp
  have s1:=qtc a0 a1 a2 am y gp gc gg i hpr' hlt
  rw [show 16 - j = (16 - (j + 1)) + 1 from by omega,qmb,hq] at hi2
  simp only at hi2
  cases hop : p[q.pc.toNat]? with
  | none =>
   rw [hop] at hi2
   simp only at hi2
   have hge : q.pc ≥ (p.length : Int):=by have:=List.getElem?_eq_none_iff.1 hop;omega
   right
   simp only [qb2,hj',hge,s1,zgq,zgt,hq,Pr.r,Ev.exec,qb,qe,qc,qd6,qaj,Ev.evs,Ev.Opnd.ev,Ev.Env.get,Ev.Env.set,Ev.look,qh,qad,ql,qcd,zgi,↓qs,Ev.it1,↓reduceIte,zgd,zge,zgf,zgg,zgh,Nat.reduceEqDiff,reduceCtorEq,zgv,zfa,zfd,zgy]
   exact ⟨_,rfl,y,gp,gc,gg,rfl,rfl,.inr ⟨rfl,rfl,hi2,⟨hi1.ev,hi1.has,hi1.procs,by have:=hi1.out;omega,by have:=hi1.gone;omega⟩⟩⟩
  | some op =>
   rw [hop] at hi2
   simp only at hi2
   have hlp:=(List.getElem?_eq_some_iff.1 hop).1
   have hge : ¬ q.pc ≥ (p.length : Int):=by omega
   have hwq : w64 (q.pc + 1) = q.pc + 1:=qas (by omega) (by omega)
   have hwq' : IntKind.i64.wrap (q.pc + 1) = q.pc + 1:=hwq
   have hset : (y.procs.map Pr.r).set i [(ii q.prog),(ii (q.pc + 1)),(bb q.alive),(.fsl ((q.timer).map qb8) false)] = (y.procs.set i { q with pc:=q.pc + 1 }).map Pr.r:=by rw [List.map_set];rfl
   have hl : (y.procs.set i { q with pc:=q.pc + 1 }).length = y.procs.length:=by simp
   rw [hwq] at hi2
   have hz : ActInv e0 i j (y.setP i { q with pc:=q.pc + 1 }):=hi1.pc hq (by omega) q.alive
   have hzq : (y.setP i { q with pc:=q.pc + 1 }).procs[i]? = some { q with pc:=q.pc + 1 }:=by simp only [Ex.setP];rw [List.getElem?_set_self hlt]
   have hzp : (y.setP i { q with pc:=q.pc + 1 }).ev.proc = i:=hpr'
   have hoo:=hok op (List.mem_of_getElem? hop)
   have hn:=hz.step hzq (show 0 ≤ q.pc + 1 ∧ q.pc + 1 ≤ 1000000 by omega) hoo
   obtain ⟨k,gp',gc',gg',t1,t2⟩:=step_ev a0 a1 a2 am (y.setP i { q with pc:=q.pc + 1 }) gp gc gg op i { q with pc:=q.pc + 1 } (hz.small (by omega) hk) (by have:=hz.gone;omega) hzp hzq hoo
   generalize hS : qdz (y.setP i { q with pc:=q.pc + 1 }) i { q with pc:=q.pc + 1 } op = S at hi2 hn t2
   obtain ⟨z,sig⟩:=S
   simp only at hi2 hn t2
   have hsig : sig = 0 ∨ sig = 1 ∨ sig = 2:=by
    have : (qdz (y.setP i { q with pc:=q.pc + 1 }) i { q with pc:=q.pc + 1 } op).2 = sig:=by rw [hS]
    rw [← this]
    unfold qdz
    repeat' (first | (split) | exact .inl rfl | exact .inr (.inl rfl) | exact .inr (.inr rfl))
   simp only [Ex.setP,hl] at t2
   obtain ⟨qz,hqz,hqzp⟩:=hn.has
   have hltz:=(List.getElem?_eq_some_iff.1 hqz).1
   have s2:=qtc a0 a1 a2 am z gp' gc' gg' i (by rw [hn.ev];exact hpr) hltz
   rcases hsig with rfl | rfl | rfl
   ·left
    refine ⟨(z,gp',gc',gg'),?_,hn,?_⟩
    ·simp only [qb2,hj',hge,s1,hpc,hop,hwq',t1,t2,hw,zgq,zgt,hq,Pr.r,OpI.r,qja,qah,qap,qv,qbv,Nat.reduceLT,Nat.reduceLeDiff,Ev.exec,qb,qe,qc,qd6,qk9,qaj,Ev.evs,Ev.Opnd.ev,Ev.Env.get,Ev.Env.set,Ev.look,qh,qad,Ev.AV.cells,Ev.AV.uc,qx,Ev.AV.plain,qaf,qam,ql,qcd,qq,Ev.keep,qae,qw,qd,Ev.SObj.lo,qax,qu,qbj,qez,Ev.lo_mp,Ev.gotL,qg,qf,qaa,qag,zgi,↓qs,Ev.it1,↓reduceIte,zga,zgb,zgd,zge,zgc,zgo,zfe,zgf,zgg,zgm,zgl,zgn,zgj,zgk,zgh,Nat.reduceAdd,Nat.reduceEqDiff,Nat.reduceLT,Nat.reduceLeDiff,Int.reduceEq,reduceCtorEq,zgv,zgw,zfc,zfa,zgx,zfd,zgu,Nat.le_refl,zgy,hset]
    ·simp only [show ¬ (0 : Int) = 1 from by decide,show ¬ (0 : Int) = 2 from by decide,if_false] at hi2
     exact hi2
   ·right
    simp only [if_true] at hi2
    simp only [qb2,hj',hge,s1,hpc,hop,hwq',t1,t2,zgq,zgt,hq,Pr.r,OpI.r,Nat.reduceLeDiff,Ev.exec,qb,qe,qc,qd6,qk9,qaj,Ev.evs,Ev.Opnd.ev,Ev.Env.get,Ev.Env.set,Ev.look,qh,qad,Ev.AV.cells,Ev.AV.uc,qx,Ev.AV.plain,qaf,qam,ql,qcd,Ev.gotL,zgi,↓qs,Ev.it1,↓reduceIte,zga,zgb,zgd,zge,zgc,zgo,zfe,zgf,zgg,zgm,zgl,zgn,zgj,zgk,zgh,Nat.reduceAdd,Nat.reduceEqDiff,Nat.reduceLeDiff,reduceCtorEq,zgv,zgw,zfc,zfa,zgx,zfd,Nat.le_refl,zgy,hset]
    exact ⟨_,rfl,z,gp',gc',gg',rfl,rfl,.inl ⟨rfl,hi2,⟨hn.ev,hn.has,hn.procs,by have:=hn.out;omega,by have:=hn.gone;omega⟩⟩⟩
   ·right
    simp only [show ¬ (2 : Int) = 1 from by decide,if_true,if_false] at hi2
    have hkz : qne z i = z.setP i { qz with alive:=false }:=by unfold qne;rw [hqz]
    rw [hkz] at hi2
    have hset2 : (z.procs.map Pr.r).set i [(ii qz.prog),(ii qz.pc),(bb false),(.fsl ((qz.timer).map qb8) false)] = (z.procs.set i { qz with alive:=false }).map Pr.r:=by rw [List.map_set];rfl
    have hl2 : (z.procs.set i { qz with alive:=false }).length = z.procs.length:=by simp
    have hfin:=hn.pc hqz hqzp false
    simp only [qb2,hj',hge,s1,hpc,hop,hwq',t1,t2,s2,zgq,zgt,hq,hqz,Pr.r,OpI.r,Nat.reduceLeDiff,Ev.exec,qb,qe,qc,qd6,qk9,qaj,Ev.evs,Ev.Opnd.ev,Ev.Env.get,Ev.Env.set,Ev.look,qh,qad,Ev.AV.cells,Ev.AV.uc,qx,Ev.AV.plain,qaf,qam,ql,qcd,Ev.gotL,zgi,↓qs,Ev.it1,↓reduceIte,zga,zgb,zgd,zge,zgc,zgo,zfe,zgf,zgg,zgm,zgl,zgn,zgj,zgk,zgh,Nat.reduceAdd,Nat.reduceEqDiff,Nat.reduceLeDiff,Int.reduceEq,reduceCtorEq,zgv,zgw,zfc,zfa,zgx,zfd,Nat.le_refl,zgy,hset,hset2]
    refine ⟨_,rfl,z.setP i { qz with alive:=false },gp',gc',gg',?_,rfl,.inl ⟨rfl,hi2,⟨hfin.ev,hfin.has,hfin.procs,by have:=hfin.out;omega,by have:=hfin.gone;omega⟩⟩⟩
    simp only [Ex.setP,hl2]
 ·rintro ⟨y,gp,gc,gg⟩ ⟨hi1,hi2⟩
  simp only [qb2,Int.lt_irrefl,Ev.exec,qb,qe,qc,qaj,Ev.Opnd.ev,Ev.Env.get,Ev.Env.set,Ev.look,ql,↓qs,Ev.it1,↓reduceIte,Nat.reduceEqDiff,Int.cast_ofNat_Int,reduceCtorEq,zgw,zfa,zgy]
  exact ⟨_,rfl,y,gp,gc,gg,rfl,rfl,.inr ⟨rfl,rfl,hi2,hi1⟩⟩
end
set_option maxRecDepth 10000
theorem qsy : (evL T).call qd4 [] [] = some (.mp 0,[.mp .i64 qgi]):=by
 rw [qy qqn qqg]
 simp only [qhk,qgi,qn,Ev.exec,qb,qe,qc,qaj,Ev.Opnd.ev,Ev.Env.get,Ev.Env.set,Ev.look,qo,qm,qab,qak,Ev.kill,qai,qd,qfc,Ev.lo_mp,qaax,qg,↓qs,↓reduceIte,zgb,zgd,zgo,zgl,zgj,Nat.reduceLT,Int.reduceEq,zgw,zfc,zfa,zgx,and_true,zgy]
section
variable (a0 a1 a2 : Int) (am : Nat) (e0 : Evt) (i : Nat) (p : List OpI) (cl : Bool)
theorem q7p (hk : e0.key.length ≤ 100000) (hpr : e0.proc = i) (hpl : p.length ≤ 1000) (hok : ∀ op ∈ p,OpOk' op) (x : Ex) (gp gc gg : Nat) (h0 : ActInv e0 i 0 x) :
  ∃ gp' gc' gg',(evL T).call qcw [.ptr 5 0 0 0,(.fsl ((p).map OpI.r) cl)] [.row 4 [[(ii a0),(ii a1),.sl 2 0 0 am false,(ii a2)]] 0,.row 4 [[(ii 0),(ii 0),.fsl [] false,(ii 0)]] 0,.row 4 ((x.procs).map Pr.r) gp,.row 6 ((x.out).map Evt.r) gc,.row 1 ((x.gone).map qfy) gg,.row 14 [[(ii x.r0),(ii x.r1),.sl 2 gp 0 x.procs.length false,(ii x.sum),(ii x.ev.time),(.fsl ((x.ev.key).map qb8) false),(ii x.ev.lp),(ii x.ev.kind),(ii x.ev.proc),(ii x.ev.arg),.sl 3 gc 0 x.out.length false,(ii x.n),.sl 4 gg 0 x.gone.length false,(bb x.over)]] 0] = some (.tup [],[.row 4 [[(ii a0),(ii a1),.sl 2 0 0 am false,(ii a2)]] 0,.row 4 [[(ii 0),(ii 0),.fsl [] false,(ii 0)]] 0,.row 4 (((qmb p i 16 x).procs).map Pr.r) gp',.row 6 (((qmb p i 16 x).out).map Evt.r) gc',.row 1 (((qmb p i 16 x).gone).map qfy) gg',.row 14 [[(ii ((qmb p i 16 x).r0)),(ii ((qmb p i 16 x).r1)),.sl 2 gp' 0 (qmb p i 16 x).procs.length false,(ii ((qmb p i 16 x).sum)),(ii ((qmb p i 16 x).ev.time)),(.fsl (((qmb p i 16 x).ev.key).map qb8) false),(ii ((qmb p i 16 x).ev.lp)),(ii ((qmb p i 16 x).ev.kind)),(ii ((qmb p i 16 x).ev.proc)),(ii ((qmb p i 16 x).ev.arg)),.sl 3 gc' 0 (qmb p i 16 x).out.length false,(ii ((qmb p i 16 x).n)),.sl 4 gg' 0 (qmb p i 16 x).gone.length false,(bb ((qmb p i 16 x).over))]] 0]) ∧ ActInv e0 i 16 (qmb p i 16 x):=by
 obtain ⟨⟨y,e,σ⟩,k1,z,gp',gc',gg',k2,k3,k4⟩:=act_loop a0 a1 a2 am e0 i p cl hk hpr hpl hok x gp gc gg h0
 simp only at k2 k3 k4
 subst k2
 generalize qmb p i 16 x = F at k4
 rw [qy qnh qm3]
 rcases k4 with ⟨rfl,rfl,k5⟩ | ⟨rfl,k5,k6,k7⟩
 ·refine ⟨gp',gc',gg',?_,k5⟩
  simp only [qd7,qsy,k1,k3,qja,qah,qap,qv,qbv,Nat.reduceLT,qn,Ev.exec,qb,qe,qc,qqj,q4e,Ev.AV.shift,qaj,Ev.evs,Ev.Opnd.ev,Ev.Env.get,Ev.Env.set,Ev.look,qo,qm,qak,Ev.kill,qai,qq,Ev.keep,qae,qw,qd,Ev.SObj.lo,qax,qa3,qu,qbj,qez,Ev.lo_mp,qg,qf,qaa,qag,qfm,qd8,↓qs,↓qan,↓reduceIte,zga,zgb,zgc,zgo,zfe,zgm,zgl,Nat.reduceAdd,Nat.reduceEqDiff,Nat.reduceLT,reduceCtorEq,zgv,zfc,zgx,zfd,zgu,zgy]
 ·obtain ⟨q,hq,hpc⟩:=k7.has
  have hlt:=(List.getElem?_eq_some_iff.1 hq).1
  have s2:=qtc a0 a1 a2 am z gp' gc' gg' i (by rw [k7.ev];exact hpr) hlt
  have hkz : qne z i = z.setP i { q with alive:=false }:=by unfold qne;rw [hq]
  rw [hkz] at k6
  have hset : (z.procs.map Pr.r).set i [(ii q.prog),(ii q.pc),(bb false),(.fsl ((q.timer).map qb8) false)] = (z.procs.set i { q with alive:=false }).map Pr.r:=by rw [List.map_set];rfl
  have hl : (z.procs.set i { q with alive:=false }).length = z.procs.length:=by simp
  have hfin:=k7.pc hq hpc false
  subst k6
  refine ⟨gp',gc',gg',?_,hfin⟩
  simp only [Ex.setP,hl]
  simp only [qd7,qsy,k1,k3,k5,s2,zgq,zgt,hq,Pr.r,qja,qah,qap,qv,qbv,Nat.reduceLT,Nat.reduceLeDiff,qn,Ev.exec,qb,qe,qc,qqj,qd6,q4e,Ev.AV.shift,qaj,Ev.evs,Ev.Opnd.ev,Ev.Env.get,Ev.Env.set,Ev.look,qo,Ev.AV.cells,Ev.AV.uc,qx,Ev.AV.plain,qm,qak,Ev.kill,qai,qq,Ev.keep,qae,qw,qd,Ev.SObj.lo,qax,qa3,qu,qbj,qez,Ev.lo_mp,qg,qf,qaa,qag,qfm,qd8,↓qs,↓qan,↓reduceIte,zga,zgb,zgd,zge,zgc,zgo,zfe,zgf,zgg,zgm,zgl,zgj,zgk,Nat.reduceAdd,Nat.reduceEqDiff,Nat.reduceLT,Nat.reduceLeDiff,reduceCtorEq,zgv,zfc,zgx,zfd,zgu,zgy,hset]
end
set_option maxRecDepth 10000
theorem q25 (l : List Pr) (c : Bool) (h : l.length ≤ 1000) : (evL T).call qdb [(.fsl ((l).map Pr.r) c)] [] = some (.sl 0 0 0 l.length false,[.row 4 (l.map Pr.r) 0]):=by
 have h' : l.length * 48 ≤ 140737488355328:=by omega
 rw [q4j qlz]
 simp only [qss,qap,q4s,h',qu,qg,qf,zgi,↓reduceIte,Nat.reduceLT,Nat.reducePow,zfc,zgx,zgy]
theorem q8o (a0 a1 a2 : Int) (am : Nat) (x : Ex) (gp gc gg : Nat) (i : Nat) (hi : x.ev.proc = i) (hp : i < x.procs.length) :
  (evL T).call qa2 [.ptr 5 0 0 0] [.row 4 [[(ii a0),(ii a1),.sl 2 0 0 am false,(ii a2)]] 0,.row 4 [[(ii 0),(ii 0),.fsl [] false,(ii 0)]] 0,.row 4 ((x.procs).map Pr.r) gp,.row 6 ((x.out).map Evt.r) gc,.row 1 ((x.gone).map qfy) gg,.row 14 [[(ii x.r0),(ii x.r1),.sl 2 gp 0 x.procs.length false,(ii x.sum),(ii x.ev.time),(.fsl ((x.ev.key).map qb8) false),(ii x.ev.lp),(ii x.ev.kind),(ii x.ev.proc),(ii x.ev.arg),.sl 3 gc 0 x.out.length false,(ii x.n),.sl 4 gg 0 x.gone.length false,(bb x.over)]] 0] = some (.ptr 2 gp i 0,[.row 4 [[(ii a0),(ii a1),.sl 2 0 0 am false,(ii a2)]] 0,.row 4 [[(ii 0),(ii 0),.fsl [] false,(ii 0)]] 0,.row 4 ((x.procs).map Pr.r) gp,.row 6 ((x.out).map Evt.r) gc,.row 1 ((x.gone).map qfy) gg,.row 14 [[(ii x.r0),(ii x.r1),.sl 2 gp 0 x.procs.length false,(ii x.sum),(ii x.ev.time),(.fsl ((x.ev.key).map qb8) false),(ii x.ev.lp),(ii x.ev.kind),(ii x.ev.proc),(ii x.ev.arg),.sl 3 gc 0 x.out.length false,(ii x.n),.sl 4 gg 0 x.gone.length false,(bb x.over)]] 0]):=by
 rw [qy qk1 qkk]
 simp only [qfa,hi,hp,zgs,zgr,qah,qap,qv,qbv,Nat.reduceLT,qn,Ev.exec,qb,qe,qc,qaj,Ev.Opnd.ev,Ev.Env.get,Ev.Env.set,Ev.look,qo,qh,qad,qm,qab,qak,Ev.kill,qai,qd,Ev.SObj.lo,qax,qu,qbj,qez,qg,qf,qaa,qag,↓qs,↓reduceIte,zga,zgb,zgd,zge,zgc,zfe,zgf,zgg,zgh,Nat.reduceAdd,Nat.reduceEqDiff,Nat.reduceLT,reduceCtorEq,zgv,zfc,zfa,zgx,zfd,Nat.add_zero,zgy]
def qda (x : Lp) (e : Evt) : Ex:=⟨x.r0,x.r1,x.procs,x.sum,e,[],0,[],false⟩
def qj1 (e : Evt) (q : Pr) : Pr:=if e.kind = 2 then { q with pc:=e.arg,timer:=if q.timer = e.key then [] else q.timer } else q
def q5o (x : Ex) : Lp:=⟨x.r0,x.r1,x.procs,x.sum⟩
def qnl (x : Lp) (e : Evt) : Option Pr:=if (e.kind = 1 ∨ e.kind = 2) ∧ 0 ≤ e.proc then (x.procs[e.proc.toNat]?).bind fun q => if q.alive = true then some q else none else none
def qro (c : Cfg) (x : Lp) (e : Evt) (q : Pr) : Ex:=qmb ((c.progs[q.prog.toNat]?).getD []) e.proc.toNat 16 ((qda x e).setP e.proc.toNat (qj1 e q))
structure qvl (c : Cfg) (x : Lp) (e : Evt) : Prop where
 procs : x.procs.length ≤ 20
 key : e.key.length ≤ 100000
 proc : ∀ q ∈ x.procs,0 ≤ q.prog ∧ q.prog < c.progs.length ∧ 0 ≤ q.pc ∧ q.pc ≤ 1000000 ∧ q.timer.length ≤ 100000
 prog : ∀ p ∈ c.progs,p.length ≤ 1000 ∧ ∀ op ∈ p,OpOk' op
 arg : e.kind = 2 → 0 ≤ e.arg ∧ e.arg ≤ 1000000
section
variable (c : Cfg) (x : Lp) (e : Evt)
theorem Exec_msg (hk : e.kind = 3) : qaz (evL T) qes [(.agg [(.fsl ((c.lps).map lpC) false),(.fsl ((c.progs).map qcs) false),(ii c.look),(ii c.fin),(ii c.cap)]),(.agg [(ii x.r0),(ii x.r1),(.fsl ((x.procs).map Pr.r) false),(ii x.sum)]),(.agg [(ii e.time),(.fsl ((e.key).map qb8) false),(ii e.lp),(ii e.kind),(ii e.proc),(ii e.arg)])] = some (.tup [(.agg [(ii ((⟨x.r0,x.r1,x.procs,w64 (x.sum + e.arg)⟩ : Lp).r0)),(ii ((⟨x.r0,x.r1,x.procs,w64 (x.sum + e.arg)⟩ : Lp).r1)),(.fsl (((⟨x.r0,x.r1,x.procs,w64 (x.sum + e.arg)⟩ : Lp).procs).map Pr.r) false),(ii ((⟨x.r0,x.r1,x.procs,w64 (x.sum + e.arg)⟩ : Lp).sum))]),.fsl [] true,.fsl [] true,(bb false)]):=by
 rw [qaz,qy qlr qky]
 simp only [qb5,hk,qap,qn,Ev.exec,qb,qe,qc,qaj,Ev.Opnd.ev,Ev.Env.get,Ev.Env.set,Ev.look,qo,qh,qad,Ev.AV.cells,Ev.AV.uc,qx,Ev.AV.plain,qaf,qam,qm,qab,qak,Ev.kill,qai,qd,qax,qbe,qa3,qu,qg,qf,qaa,qal,↓qs,↓reduceIte,zga,zgb,zgd,zge,zgc,zgo,zfe,zgf,zgg,List.drop_nil,zgm,zgl,zgn,zgj,zgk,zgh,Nat.reduceAdd,Nat.reduceEqDiff,reduceCtorEq,zgv,zfc,zfa,zgx,ne_eq,zfb,zff,zfd,Nat.le_refl,zgy]
theorem qaaz (hk : ¬ e.kind = 3) (ha : qnl x e = none) : qaz (evL T) qes [(.agg [(.fsl ((c.lps).map lpC) false),(.fsl ((c.progs).map qcs) false),(ii c.look),(ii c.fin),(ii c.cap)]),(.agg [(ii x.r0),(ii x.r1),(.fsl ((x.procs).map Pr.r) false),(ii x.sum)]),(.agg [(ii e.time),(.fsl ((e.key).map qb8) false),(ii e.lp),(ii e.kind),(ii e.proc),(ii e.arg)])] = some (.tup [(.agg [(ii x.r0),(ii x.r1),(.fsl ((x.procs).map Pr.r) false),(ii x.sum)]),.fsl [] true,.fsl [] true,(bb false)]):=by
 rw [qaz,qy qlr qky]
 by_cases k1 : e.kind = 1
 case neg =>
  by_cases k2 : e.kind = 2
  case neg => simp only [qb5,hk,k1,k2,qap,qn,Ev.exec,qb,qe,qc,qaj,Ev.Opnd.ev,Ev.Env.get,Ev.Env.set,Ev.look,qo,qh,qad,Ev.AV.cells,qx,Ev.AV.plain,qam,qbn,qm,qab,qak,Ev.kill,qai,qd,qax,qbe,qa3,qu,qg,qf,qaa,qal,↓qs,↓reduceIte,zga,zgb,zgd,zge,zgc,zgo,zfe,zgf,zgg,List.drop_nil,zgm,zgl,zgn,zgj,zgk,zgh,Nat.reduceAdd,Nat.reduceEqDiff,reduceCtorEq,zgv,zgw,zfc,zfa,zgx,ne_eq,zfb,zff,zfd,Nat.le_refl,zgy]
  by_cases h1 : e.proc < 0
  ·simp only [qb5,k2,h1,qap,qn,Ev.exec,qb,qe,qc,qaj,Ev.Opnd.ev,Ev.Env.get,Ev.Env.set,Ev.look,qo,qh,qad,Ev.AV.cells,qx,Ev.AV.plain,qam,qbn,ql,qm,qab,qak,Ev.kill,qai,qd,qax,qbe,qa3,qu,qg,qf,qaa,qal,↓qs,↓reduceIte,zga,zgb,zgd,zge,zgc,zgo,zfe,zgf,zgg,List.drop_nil,zgm,zgl,zgn,zgj,zgk,zgh,Nat.reduceAdd,Nat.reduceEqDiff,Int.reduceEq,reduceCtorEq,zgv,zgw,zfc,zfa,zgx,ne_eq,zfb,not_true_eq_false,zff,zfd,Nat.le_refl,zgy]
  by_cases h2 : e.proc ≥ (x.procs.length : Int)
  ·simp only [qb5,k2,h1,h2,qap,qn,Ev.exec,qb,qe,qc,qaj,Ev.Opnd.ev,Ev.Env.get,Ev.Env.set,Ev.look,qo,qh,qad,Ev.AV.cells,qx,Ev.AV.plain,qam,qbn,ql,qcd,qm,qab,qak,Ev.kill,qai,qd,qax,qbe,qa3,qu,qg,qf,qaa,qal,zgi,↓qs,↓reduceIte,zga,zgb,zgd,zge,zgc,zgo,zfe,zgf,zgg,List.drop_nil,zgm,zgl,zgn,zgj,zgk,zgh,Nat.reduceAdd,Nat.reduceEqDiff,Int.reduceEq,reduceCtorEq,zgv,zgw,zfc,zfa,zgx,ne_eq,zfb,not_true_eq_false,zff,zfd,Nat.le_refl,zgy]
  obtain ⟨q,hq⟩ : ∃ q,x.procs[e.proc.toNat]? = some q:=⟨_,List.getElem?_eq_getElem (by omega)⟩
  have h0 : 0 ≤ e.proc:=by omega
  have hal : q.alive = false:=by
   unfold qnl at ha
   rw [if_pos ⟨.inr k2,h0⟩,hq] at ha
   cases h : q.alive with
   | false => rfl
   | true => simp [h] at ha
  simp only [qb5,k2,h0,h1,h2,hq,hal,zgq,zgt,Pr.r,qap,qn,Ev.exec,qb,qe,qc,qaj,Ev.Opnd.ev,Ev.Env.get,Ev.Env.set,Ev.look,qo,qh,qad,Ev.AV.cells,qx,Ev.AV.plain,qam,qbn,ql,qcd,qm,qab,qak,Ev.kill,qai,qd,qax,qbe,qa3,qu,qg,qf,qaa,qal,zgi,↓qs,↓reduceIte,zga,zgb,zgd,zge,zgc,zgo,zfe,zgf,zgg,List.drop_nil,zgm,zgl,zgn,zgj,zgk,zgh,Nat.reduceAdd,Nat.reduceEqDiff,Int.reduceEq,reduceCtorEq,zgv,zgw,zfc,Bool.not_false,zfa,zgx,ne_eq,zfb,not_true_eq_false,zff,zfd,Nat.le_refl,zgy]
 by_cases h1 : e.proc < 0
 ·simp only [qb5,k1,h1,qap,qn,Ev.exec,qb,qe,qc,qaj,Ev.Opnd.ev,Ev.Env.get,Ev.Env.set,Ev.Env.unset,Ev.look,qo,qh,qad,Ev.AV.cells,qx,Ev.AV.plain,qam,qbn,ql,qm,qab,qak,Ev.kill,qai,qd,qax,qbe,qa3,qu,qg,qf,qaa,qal,↓qs,↓reduceIte,zga,zgb,zgd,zge,zgc,zgo,zfe,zgf,zgg,List.drop_nil,zgm,zgl,zgn,zgj,zgk,zgh,Nat.reduceAdd,Nat.reduceEqDiff,Int.reduceEq,reduceCtorEq,zgv,zgw,zfc,zfa,zgx,ne_eq,zfb,not_true_eq_false,zff,zfd,Nat.le_refl,zgy]
 by_cases h2 : e.proc ≥ (x.procs.length : Int)
 ·simp only [qb5,k1,h1,h2,qap,qn,Ev.exec,qb,qe,qc,qaj,Ev.Opnd.ev,Ev.Env.get,Ev.Env.set,Ev.Env.unset,Ev.look,qo,qh,qad,Ev.AV.cells,qx,Ev.AV.plain,qam,qbn,ql,qcd,qm,qab,qak,Ev.kill,qai,qd,qax,qbe,qa3,qu,qg,qf,qaa,qal,zgi,↓qs,↓reduceIte,zga,zgb,zgd,zge,zgc,zgo,zfe,zgf,zgg,List.drop_nil,zgm,zgl,zgn,zgj,zgk,zgh,Nat.reduceAdd,Nat.reduceEqDiff,Int.reduceEq,reduceCtorEq,zgv,zgw,zfc,zfa,zgx,ne_eq,zfb,not_true_eq_false,zff,zfd,Nat.le_refl,zgy]
 obtain ⟨q,hq⟩ : ∃ q,x.procs[e.proc.toNat]? = some q:=⟨_,List.getElem?_eq_getElem (by omega)⟩
 have h0 : 0 ≤ e.proc:=by omega
 have hal : q.alive = false:=by
  unfold qnl at ha
  rw [if_pos ⟨.inl k1,h0⟩,hq] at ha
  cases h : q.alive with
  | false => rfl
  | true => simp [h] at ha
 simp only [qb5,k1,h0,h1,h2,hq,hal,zgq,zgt,Pr.r,qap,qn,Ev.exec,qb,qe,qc,qaj,Ev.Opnd.ev,Ev.Env.get,Ev.Env.set,Ev.Env.unset,Ev.look,qo,qh,qad,Ev.AV.cells,qx,Ev.AV.plain,qam,qbn,ql,qcd,qm,qab,qak,Ev.kill,qai,qd,qax,qbe,qa3,qu,qg,qf,qaa,qal,zgi,↓qs,↓reduceIte,zga,zgb,zgd,zge,zgc,zgo,zfe,zgf,zgg,List.drop_nil,zgm,zgl,zgn,zgj,zgk,zgh,Nat.reduceAdd,Nat.reduceEqDiff,Int.reduceEq,reduceCtorEq,zgw,zfc,Bool.not_false,zfa,zgx,ne_eq,zfb,not_true_eq_false,zff,zfd,Nat.le_refl,zgy]
end
set_option maxRecDepth 10000
section
variable (c : Cfg) (x : Lp) (e : Evt)
theorem q0y (h : qvl c x e) {i : Nat} {q : Pr} (hi : e.proc = i) (hq : x.procs[i]? = some q) : ActInv e i 0 ((qda x e).setP i (qj1 e q)):=by
 have hlt:=(List.getElem?_eq_some_iff.1 hq).1
 obtain ⟨p1,p2,p3,p4,p5⟩:=h.proc q (List.mem_of_getElem? hq)
 refine ⟨rfl,⟨qj1 e q,by simp only [Ex.setP,qda];rw [List.getElem?_set_self hlt],?_⟩,by simp only [Ex.setP,qda,List.length_set];exact h.procs,Nat.le_refl _,Nat.le_refl _⟩
 unfold qj1
 by_cases k : e.kind = 2
 ·rw [if_pos k];exact h.arg k
 ·rw [if_neg k];exact ⟨p3,p4⟩
theorem qzz (q : Pr) : (qj1 e q).prog = q.prog:=by unfold qj1;split <;> rfl
theorem Exec_run (h : qvl c x e) {q : Pr} (ha : qnl x e = some q) :
  qaz (evL T) qes [(.agg [(.fsl ((c.lps).map lpC) false),(.fsl ((c.progs).map qcs) false),(ii c.look),(ii c.fin),(ii c.cap)]),(.agg [(ii x.r0),(ii x.r1),(.fsl ((x.procs).map Pr.r) false),(ii x.sum)]),(.agg [(ii e.time),(.fsl ((e.key).map qb8) false),(ii e.lp),(ii e.kind),(ii e.proc),(ii e.arg)])] = some (.tup [(.agg [(ii ((q5o (qro c x e q)).r0)),(ii ((q5o (qro c x e q)).r1)),(.fsl (((q5o (qro c x e q)).procs).map Pr.r) false),(ii ((q5o (qro c x e q)).sum))]),(.fsl (((qro c x e q).out).map Evt.r) false),(.fsl (((qro c x e q).gone).map qfy) false),(bb ((qro c x e q).over))]):=by
 unfold qnl at ha
 split at ha
 case isFalse => cases ha
 rename_i hc
 obtain ⟨hkind,h0⟩:=hc
 obtain ⟨i,hi⟩ : ∃ i : Nat,e.proc = i:=⟨_,(Int.toNat_of_nonneg h0).symm⟩
 have hin : e.proc.toNat = i:=by omega
 rw [hin,Option.bind_eq_some_iff] at ha
 obtain ⟨q',hq,ha⟩:=ha
 split at ha
 case isFalse => cases ha
 rename_i hal
 cases ha
 have hlt:=(List.getElem?_eq_some_iff.1 hq).1
 obtain ⟨p1,p2,p3,p4,p5⟩:=h.proc q (List.mem_of_getElem? hq)
 obtain ⟨p,hp⟩ : ∃ p,c.progs[q.prog.toNat]? = some p:=⟨_,List.getElem?_eq_getElem (by omega)⟩
 obtain ⟨pl,pok⟩:=h.prog p (List.mem_of_getElem? hp)
 have hinv:=q0y c x e h hi hq
 obtain ⟨gp,gc,gg,hact,hend⟩:=q7p x.r0 x.r1 x.sum x.procs.length e i p false h.key hi pl pok ((qda x e).setP i (qj1 e q)) 0 0 0 hinv
 have hrun : qro c x e q = qmb p i 16 ((qda x e).setP i (qj1 e q)):=by unfold qro;rw [hin,hp];rfl
 rw [hrun]
 generalize qmb p i 16 ((qda x e).setP i (qj1 e q)) = F at hact hend
 have hcl:=q25 x.procs false (by have:=h.procs;omega)
 have h1 : ¬ e.proc < 0:=by omega
 have h2 : ¬ e.proc ≥ (x.procs.length : Int):=by omega
 have h9 : ((i : Int)).toNat = i:=Int.toNat_natCast i
 have h3 : ¬ e.kind = 3:=by omega
 have s0:=q8o x.r0 x.r1 x.sum x.procs.length (qda x e) 0 0 0 i hi hlt
 have hset : (x.procs.map Pr.r).set i [(ii ((qj1 e q).prog)),(ii ((qj1 e q).pc)),(bb ((qj1 e q).alive)),(.fsl (((qj1 e q).timer).map qb8) false)] = (x.procs.set i (qj1 e q)).map Pr.r:=by rw [List.map_set];rfl
 have hl : (x.procs.set i (qj1 e q)).length = x.procs.length:=by simp
 have hq2 : (x.procs.set i (qj1 e q))[i]? = some (qj1 e q):=by rw [List.getElem?_set_self hlt]
 have s1:=q8o x.r0 x.r1 x.sum x.procs.length ((qda x e).setP i (qj1 e q)) 0 0 0 i hi (by simp only [Ex.setP,qda,List.length_set];exact hlt)
 rw [hi] at h0 h1 h2
 simp only [qda,List.map_nil,zgb,hi] at s0
 simp only [qda,Ex.setP,List.map_nil,zgb,hl,hi] at s1 hact
 have ft : ∀ {τ : Type} (l : List τ) (f : τ → List AV),List.take l.length (l.map f) = l.map f:=fun l f => List.take_of_length_le (by simp)
 have hpr:=qzz e q
 rw [qaz,qy qlr qky]
 rcases hkind with k1 | k2
 ·have hwk : qj1 e q = q:=by unfold qj1;rw [if_neg (by omega)]
  have hss : x.procs.set i q = x.procs:=by
   obtain ⟨hlt',hge⟩:=List.getElem?_eq_some_iff.1 hq
   rw [← hge,List.set_getElem_self]
  rw [hwk,hss] at hact
  have k2 : ¬ e.kind = 2:=by omega
  have k3 : ¬ (1 : Int) = 3:=by decide
  have k4 : ¬ (1 : Int) = 2:=by decide
  simp only [k1] at s0 hact ⊢
  simp only [qb5,k3,k4,h0,h1,h2,hi,hq,hal,hcl,s0,p1,hp,hact,ft,q5o,zgr,zgq,zgt,Pr.r,qcs,qap,qv,qbv,Nat.reduceLT,Nat.reduceLeDiff,qn,Ev.exec,qb,qe,qc,qqj,qd6,q4e,Ev.AV.shift,qaj,q62,Ev.evs,Ev.Opnd.ev,Ev.Env.get,Ev.Env.set,Ev.Env.unset,Ev.look,qo,qh,qad,qgp,Ev.AV.cells,Ev.AV.uc,qx,Ev.AV.plain,qam,qbn,ql,qcd,qm,qab,qak,Ev.kill,qai,qd,qax,qbe,qa3,qu,qbj,qnu,Ev.AV.obj?,qg,qf,qal,q07,qsu,qfw,qea,qfm,qd8,qf1,zgi,↓qs,↓reduceIte,zga,zgb,zgd,zge,zgc,zgo,zfe,zgf,zgg,List.drop_nil,zgm,zgl,zgn,zgj,zgk,zgh,Nat.reduceAdd,Nat.reduceEqDiff,Nat.reduceBEq,Nat.reduceLT,Nat.reduceLeDiff,reduceCtorEq,zgw,zfc,Bool.and_true,Bool.not_true,Bool.not_false,zfa,zgx,and_true,ne_eq,zfb,not_true_eq_false,zff,zfd,Nat.add_zero,zgu,Nat.le_refl,zgy,Bool.and_false]
  done
 ·have k1 : ¬ (2 : Int) = 1:=by decide
  have k3 : ¬ (2 : Int) = 3:=by decide
  have hkl:=h.key
  have hwk : qj1 e q = { q with pc:=e.arg,timer:=if q.timer = e.key then [] else q.timer }:=by unfold qj1;rw [if_pos k2]
  obtain ⟨qp,qpc,qa,qt⟩:=q
  dsimp only at *
  subst hal
  have heq:=qsj qt e.key false false (by omega) (by omega)
  have hset1 : (x.procs.map Pr.r).set i [(ii qp),(ii e.arg),(bb true),(.fsl ((qt).map qb8) false)] = (x.procs.set i ⟨qp,e.arg,true,qt⟩).map Pr.r:=by rw [List.map_set];rfl
  have hg1 : (x.procs.set i ⟨qp,e.arg,true,qt⟩)[i]? = some ⟨qp,e.arg,true,qt⟩:=by rw [List.getElem?_set_self hlt]
  have hset2 : ((x.procs.set i ⟨qp,e.arg,true,qt⟩).map Pr.r).set i [(ii qp),(ii e.arg),(bb true),.fsl [] false] = (x.procs.set i ⟨qp,e.arg,true,[]⟩).map Pr.r:=by
   have : x.procs.set i ⟨qp,e.arg,true,[]⟩ = (x.procs.set i ⟨qp,e.arg,true,qt⟩).set i ⟨qp,e.arg,true,[]⟩:=by rw [List.set_set]
   rw [this,List.map_set (l:=x.procs.set i ⟨qp,e.arg,true,qt⟩)];rfl
  have hl1 : (x.procs.set i ⟨qp,e.arg,true,qt⟩).length = x.procs.length:=by simp
  rw [hwk] at s1 hact hq2
  simp only [k2] at s0 s1 hact ⊢
  by_cases ht : qt = e.key
  ·simp only [ht,if_true] at s1 hact hq2
   simp only [ht,zgv] at heq
   simp only [ht] at hset1 hset2 hg1
   simp only [qb5,k1,k3,h0,h1,h2,hi,hq,hcl,s0,s1,p1,hp,hact,ft,heq,hset1,hset2,hg1,hq2,ht,q5o,zgr,zgq,zgt,Pr.r,qcs,qah,qap,qv,qbv,Nat.reduceLT,Nat.reduceLeDiff,qn,Ev.exec,qb,qe,qc,qa0,qqj,qd6,q4e,Ev.AV.shift,qaj,q62,Ev.evs,Ev.Opnd.ev,Ev.Env.get,Ev.Env.set,Ev.look,qo,qh,qad,qgp,Ev.AV.cells,Ev.AV.uc,qx,Ev.AV.plain,qam,qbn,ql,qcd,qm,qab,qak,Ev.kill,qai,qd,qax,qbe,qa3,qu,qbj,qnu,Ev.AV.obj?,qg,qf,qal,q07,qsu,qfw,qea,qfm,qd8,qf1,zgi,↓qs,↓reduceIte,zga,zgb,zgd,zge,zgc,zgo,zfe,zgf,zgg,List.drop_nil,zgm,zgl,zgn,zgj,zgk,zgh,Nat.reduceAdd,Nat.reduceEqDiff,Nat.reduceBEq,Nat.reduceLT,Nat.reduceLeDiff,reduceCtorEq,zgv,zgw,zfc,Bool.and_true,Bool.not_true,Bool.not_false,zfa,zgx,and_true,ne_eq,zfb,not_true_eq_false,zff,zfd,Nat.add_zero,zgu,Nat.le_refl,zgy,Bool.and_false]
   done
  ·simp only [ht,if_false] at s1 hact hq2
   simp only [ht,zgw] at heq
   simp only [qb5,k1,k3,h0,h1,h2,hi,hq,hcl,s0,s1,p1,hp,hact,ft,heq,hset1,hg1,q5o,zgr,zgq,zgt,Pr.r,qcs,qah,qap,qv,qbv,Nat.reduceLT,Nat.reduceLeDiff,qn,Ev.exec,qb,qe,qc,qa0,qqj,qd6,q4e,Ev.AV.shift,qaj,q62,Ev.evs,Ev.Opnd.ev,Ev.Env.get,Ev.Env.set,Ev.look,qo,qh,qad,qgp,Ev.AV.cells,Ev.AV.uc,qx,Ev.AV.plain,qam,qbn,ql,qcd,qm,qab,qak,Ev.kill,qai,qd,qax,qbe,qa3,qu,qbj,qnu,Ev.AV.obj?,qg,qf,qal,q07,qsu,qfw,qea,qfm,qd8,qf1,zgi,↓qs,↓reduceIte,zga,zgb,zgd,zge,zgc,zgo,zfe,zgf,zgg,List.drop_nil,zgm,zgl,zgn,zgj,zgk,zgh,Nat.reduceAdd,Nat.reduceEqDiff,Nat.reduceBEq,Nat.reduceLT,Nat.reduceLeDiff,reduceCtorEq,zgv,zgw,zfc,Bool.and_true,Bool.not_true,Bool.not_false,zfa,zgx,and_true,ne_eq,zfb,not_true_eq_false,zff,zfd,Nat.add_zero,zgu,Nat.le_refl,zgy,Bool.and_false]
   done
end
set_option maxRecDepth 10000
structure Lp.Short (x : Lp) : Prop where
 len : x.procs.length ≤ 9223372036854775807
 timer : ∀ q ∈ x.procs,q.timer.length ≤ 9223372036854775807
section
variable (a b : Lp) (cf df : Bool)
theorem q9i (h1 : a.Short) (h2 : b.Short) : qaz (evL T) qif [(.agg [(ii a.r0),(ii a.r1),(.fsl ((a.procs).map Pr.r) cf),(ii a.sum)]),(.agg [(ii b.r0),(ii b.r1),(.fsl ((b.procs).map Pr.r) df),(ii b.sum)])] = some (bb (decide (a = b))):=by
 obtain ⟨ar0,ar1,ap,as'⟩:=a
 obtain ⟨br0,br1,bp,bs'⟩:=b
 obtain ⟨l1,t1⟩:=h1
 obtain ⟨l2,t2⟩:=h2
 dsimp only at *
 simp only [Lp.mk.injEq]
 rw [qaz,qy qyy qwb]
 by_cases e1 : ar0 = br0
 case neg =>
  have e1' : (ar0 == br0) = false:=beq_false_of_ne e1
  simp only [qf5,e1,e1',false_and,zgw,Bool.false_and,qn,Ev.exec,qb,qe,qc,qaj,Ev.Opnd.ev,Ev.Env.get,Ev.Env.set,Ev.Env.unset,Ev.look,qo,qh,qad,Ev.AV.cells,qx,Ev.AV.plain,qir,qm,qab,qak,Ev.kill,qai,qd,qax,qal,↓qs,↓reduceIte,zga,zgb,zgc,zgo,zfe,zgg,Nat.reduceAdd,Nat.reduceEqDiff,Nat.reduceLeDiff,reduceCtorEq,zgw,zfc,Bool.and_true,Bool.not_false,Bool.true_eq_false,zgx,ne_eq,zfb,zff,zfd,zgy,Bool.false_and,false_and]
 by_cases e2 : ar1 = br1
 case neg =>
  have e2' : (ar1 == br1) = false:=beq_false_of_ne e2
  simp only [qf5,e1,e2,e2',false_and,and_false,zgw,Bool.and_false,beq_self_eq_true,Bool.and_true,qn,Ev.exec,qb,qe,qc,qaj,Ev.Opnd.ev,Ev.Env.get,Ev.Env.set,Ev.Env.unset,Ev.look,qo,qh,qad,Ev.AV.cells,qx,Ev.AV.plain,qir,qm,qab,qak,Ev.kill,qai,qd,qax,qal,↓qs,↓reduceIte,zga,zgb,zgc,zgo,zfe,zgg,Nat.reduceAdd,Nat.reduceEqDiff,Nat.reduceLeDiff,reduceCtorEq,zgw,zfc,Bool.and_true,Bool.not_false,Bool.true_eq_false,zgx,ne_eq,zfb,zff,zfd,zgy,beq_self_eq_true,Bool.and_false,false_and,and_false]
 subst e1
 subst e2
 by_cases e3 : as' = bs'
 case neg => simp only [qf5,e3,and_false,zgw,beq_self_eq_true,qn,Ev.exec,qb,qe,qc,qaj,Ev.Opnd.ev,Ev.Env.get,Ev.Env.set,Ev.Env.unset,Ev.look,qo,qh,qad,Ev.AV.cells,qx,Ev.AV.plain,qbn,qir,qm,qab,qak,Ev.kill,qai,qd,qax,qal,↓qs,↓reduceIte,zga,zgb,zgc,zgo,zfe,zgf,zgg,zgh,Nat.reduceAdd,Nat.reduceEqDiff,Nat.reduceLeDiff,reduceCtorEq,zgv,zgw,zfc,Bool.not_true,zfa,Bool.true_eq_false,zgx,ne_eq,zfb,zff,zfd,zgy,beq_self_eq_true,and_false]
 subst e3
 by_cases hab : ap.length = bp.length
 case neg =>
  have hab' : ¬ (ap.length : Int) = (bp.length : Int):=by omega
  have : ¬ ap = bp:=fun h => hab (by rw [h])
  simp only [qf5,hab',this,and_false,zgw,beq_self_eq_true,qn,Ev.exec,qb,qe,qc,qaj,Ev.Opnd.ev,Ev.Env.get,Ev.Env.set,Ev.look,qo,qh,qad,Ev.AV.cells,qx,Ev.AV.plain,qbn,qir,qm,qab,qak,Ev.kill,qai,qd,qax,qal,zgi,↓qs,↓reduceIte,zga,zgb,zgc,zgo,zfe,zgf,zgg,zgh,Nat.reduceAdd,Nat.reduceEqDiff,Nat.reduceLeDiff,reduceCtorEq,zgv,zgw,zfc,Bool.not_true,zfa,zgx,and_true,ne_eq,zfb,not_true_eq_false,zff,zfd,zgy,beq_self_eq_true,and_false]
 have hab' : (ap.length : Int) = (bp.length : Int):=by omega
 have hzl : (ap.zip bp).length = ap.length:=by rw [List.length_zip,← hab,Nat.min_self]
 have hL : ∃ y,itB (exec (evL T) itL none qfe) (qq [2,3,5] true 0) ⟨[(2,.fptr [(ii ar0),(ii ar1),(.fsl ((ap).map Pr.r) cf),(ii as')]),(3,.fptr [(ii ar0),(ii ar1),(.fsl ((bp).map Pr.r) df),(ii as')]),(5,(ii 0))],[]⟩ [] = some y ∧ ((ap.zip bp).all (fun z => decide (z.1 = z.2)) = true ∧ (y.1 = .exit 0 ∧ y.2.1.marks = [] ∧ y.2.2 = []) ∨
   (ap.zip bp).all (fun z => decide (z.1 = z.2)) = false ∧ ∃ x,(ap.zip bp).find? (fun z => !decide (z.1 = z.2)) = some x ∧ (y.1 = .ret ∧ y.2.1.marks = [] ∧ y.2.2 = [.row 4 [x.1.r] 0,.row 4 [x.2.r] 0] ∧ Ev.look y.2.1.vars 4 = some (bb false))):=by
  refine qh8 (ap.zip bp) (fun i => ⟨[(2,.fptr [(ii ar0),(ii ar1),(.fsl ((ap).map Pr.r) cf),(ii as')]),(3,.fptr [(ii ar0),(ii ar1),(.fsl ((bp).map Pr.r) df),(ii as')]),(5,(ii i))],[]⟩) [] (fun z => decide (z.1 = z.2)) _ (fun x y => _) ?_ ?_ ?_
  ·intro i x hi hx hp
   rw [hzl] at hi
   have hi' : (i : Int) < (ap.length : Int):=by omega
   have hw : IntKind.i64.wrap ((i : Int) + 1) = ((i + 1 : Nat) : Int):=by rw [qas (by omega) (by omega)];simp
   obtain ⟨hxa,hxb⟩:=List.getElem?_zip_eq_some.1 hx
   obtain ⟨⟨p1,p2,p3,p4⟩,q⟩:=x
   have hv:=qoe p4 p4 false false (t1 _ (List.mem_of_getElem? hxa)) (t1 _ (List.mem_of_getElem? hxa))
   simp only [zgv] at hv
   simp only [decide_eq_true_eq] at hp
   subst hp
   cases p3 <;> simp only [qfe,zgs,zgr,zgq,zgt,hxa,hxb,hi',hw,hv,qap,qah,Pr.r,Ev.exec,qb,qe,qc,qa0,qaj,Ev.evs,Ev.Opnd.ev,Ev.Env.get,Ev.Env.set,Ev.look,qh,qad,Ev.AV.cells,qx,Ev.AV.plain,qaf,qbn,ql,qq,Ev.keep,qae,qw,qd,qax,qu,qbt,qg,qf,zgi,↓qs,Ev.it1,↓reduceIte,zga,zgb,zgd,zge,zgc,zgo,zfe,zgf,zgg,List.drop_nil,zgm,zgl,zgn,zgj,zgk,zgh,Nat.reduceAdd,Nat.reduceEqDiff,zgv,zgw,zfc,Bool.not_true,zfa,zgx,ne_eq,zfb,not_true_eq_false,zff,zfd,Nat.add_zero,Nat.le_refl,zgy,beq_self_eq_true]
  ·intro i x hi hx hp
   rw [hzl] at hi
   have hi' : (i : Int) < (ap.length : Int):=by omega
   obtain ⟨hxa,hxb⟩:=List.getElem?_zip_eq_some.1 hx
   obtain ⟨⟨p1,p2,p3,p4⟩,⟨q1,q2,q3,q4⟩⟩:=x
   have hv:=qoe p4 q4 false false (t1 _ (List.mem_of_getElem? hxa)) (t2 _ (List.mem_of_getElem? hxb))
   simp only [decide_eq_false_iff_not,Pr.mk.injEq] at hp
   by_cases f1 : p1 = q1
   case neg =>
    simp only [qfe,zgs,zgr,zgq,zgt,hxa,hxb,hi',f1,Pr.r,Ev.exec,qb,qe,qc,qaj,Ev.Opnd.ev,Ev.Env.get,Ev.Env.set,Ev.Env.unset,Ev.look,qh,qad,Ev.AV.cells,qx,Ev.AV.plain,qbn,ql,zgi,↓qs,Ev.it1,↓reduceIte,zga,zgb,zgd,zge,zgc,zgo,zfe,zgf,zgg,List.drop_nil,zgm,zgl,zgn,zgj,zgk,zgh,Nat.reduceAdd,Nat.reduceEqDiff,zgv,zfc,zfa,Bool.true_eq_false,zgx,ne_eq,zfb,zff,zfd,Nat.add_zero,Nat.le_refl,zgy]
    exact ⟨_,rfl,rfl,rfl,rfl,rfl⟩
   by_cases f2 : p2 = q2
   case neg =>
    simp only [qfe,zgs,zgr,zgq,zgt,hxa,hxb,hi',f1,f2,Pr.r,Ev.exec,qb,qe,qc,qaj,Ev.Opnd.ev,Ev.Env.get,Ev.Env.set,Ev.Env.unset,Ev.look,qh,qad,Ev.AV.cells,qx,Ev.AV.plain,qbn,ql,zgi,↓qs,Ev.it1,↓reduceIte,zga,zgb,zgd,zge,zgc,zgo,zfe,zgf,zgg,List.drop_nil,zgm,zgl,zgn,zgj,zgk,zgh,Nat.reduceAdd,Nat.reduceEqDiff,zgv,zgw,zfc,zfa,Bool.true_eq_false,zgx,ne_eq,zfb,not_true_eq_false,zff,zfd,Nat.add_zero,Nat.le_refl,zgy]
    exact ⟨_,rfl,rfl,rfl,rfl,rfl⟩
   by_cases f3 : p3 = q3
   case neg =>
    cases p3 <;> cases q3 <;> first | exact absurd rfl f3 | (simp only [qfe,zgs,zgr,zgq,zgt,hxa,hxb,hi',f1,f2,Pr.r,Ev.exec,qb,qe,qc,qa0,qaj,Ev.evs,Ev.Opnd.ev,Ev.Env.get,Ev.Env.set,Ev.Env.unset,Ev.look,qh,qad,Ev.AV.cells,qx,Ev.AV.plain,qbn,ql,qq,Ev.keep,qd,zgi,↓qs,Ev.it1,↓reduceIte,zga,zgb,zgd,zge,zgc,zgo,zfe,zgf,zgg,List.drop_nil,zgm,zgl,zgn,zgj,zgk,zgh,Nat.reduceAdd,Nat.reduceEqDiff,zgv,zgw,zfc,zfa,zgx,and_true,ne_eq,zfb,not_true_eq_false,zff,zfd,Nat.add_zero,Nat.le_refl,zgy];exact ⟨_,rfl,rfl,rfl,rfl,rfl⟩)
   have f4 : ¬ p4 = q4:=fun h => hp ⟨f1,f2,f3,h⟩
   simp only [f4,zgw] at hv
   subst f3
   cases p3 <;> (simp only [qfe,zgs,zgr,zgq,zgt,hxa,hxb,hi',f1,f2,hv,qah,Pr.r,Ev.exec,qb,qe,qc,qa0,qaj,Ev.evs,Ev.Opnd.ev,Ev.Env.get,Ev.Env.set,Ev.look,qh,qad,Ev.AV.cells,qx,Ev.AV.plain,qbn,ql,qu,qg,qf,zgi,↓qs,Ev.it1,↓reduceIte,zga,zgb,zgd,zge,zgc,zgo,zfe,zgf,zgg,List.drop_nil,zgm,zgl,zgn,zgj,zgk,zgh,Nat.reduceAdd,Nat.reduceEqDiff,zgv,zgw,zfc,Bool.not_true,Bool.not_false,zfa,zgx,ne_eq,zfb,not_true_eq_false,zff,zfd,Nat.add_zero,Nat.le_refl,zgy,beq_self_eq_true];exact ⟨_,rfl,rfl,rfl,rfl,rfl⟩)
  ·rw [hzl]
   simp only [qfe,Int.lt_irrefl,Ev.exec,qb,qe,qc,qaj,Ev.Opnd.ev,Ev.Env.get,Ev.Env.set,Ev.look,qh,qad,ql,zgi,↓qs,Ev.it1,↓reduceIte,zgf,zgg,zgh,Nat.reduceEqDiff,zgw,zfa,zgy]
   exact ⟨_,rfl,rfl,rfl,rfl⟩
 obtain ⟨⟨y,e,σ⟩,k1,k2⟩:=hL
 simp only at k2
 rcases k2 with ⟨k3,rfl,k4,rfl⟩ | ⟨k3,x,_,rfl,k4,rfl,k5⟩
 ·have : ap = bp:=(qom hab).1 k3
  subst this
  simp only [qf5,k1,k4,qap,beq_self_eq_true,zgx,zgv,qn,Ev.exec,qb,qe,qc,qaj,Ev.Opnd.ev,Ev.Env.get,Ev.Env.set,Ev.look,qo,qh,qad,Ev.AV.cells,qx,Ev.AV.plain,qbn,qir,qm,qab,qak,Ev.kill,qai,qq,Ev.keep,qae,qw,qd,qax,qu,qbt,qg,qf,qal,zgi,↓qs,↓qan,↓reduceIte,zga,zgb,zgc,zgo,zfe,zgf,zgg,zgh,Nat.reduceAdd,Nat.reduceEqDiff,Nat.reduceLeDiff,reduceCtorEq,zgv,zgw,zfc,Bool.not_true,zfa,zgx,ne_eq,zfb,not_true_eq_false,zff,zfd,zgy,beq_self_eq_true]
 ·have : ¬ ap = bp:=fun h => by rw [(qom hab).2 h] at k3;cases k3
  simp only [this]
  simp only [qf5,hab',k1,k4,k5,qap,beq_self_eq_true,and_false,zgw,qn,Ev.exec,qb,qe,qc,qaj,Ev.Opnd.ev,Ev.Env.get,Ev.Env.set,Ev.look,qo,qh,qad,Ev.AV.cells,qx,Ev.AV.plain,qbn,qir,qm,qab,qak,Ev.kill,qai,qq,Ev.keep,qae,qw,qd,qax,qu,qbt,qg,qf,qal,zgi,↓qs,↓qan,↓reduceIte,zga,zgb,zgc,zgo,zfe,zgf,zgg,zgh,Nat.reduceAdd,Nat.reduceEqDiff,Nat.reduceLeDiff,reduceCtorEq,zgw,zfc,Bool.not_true,zfa,zgx,and_true,ne_eq,zfb,not_true_eq_false,zff,zfd,zgy,beq_self_eq_true,and_false]
end
def lpF (x : Lp × Bool) : List AV:=[(ii x.1.r0),(ii x.1.r1),(.fsl ((x.1.procs).map Pr.r) x.2),(ii x.1.sum)]
theorem lpF_lo (n : Nat) (x : Lp × Bool) : los n (lpF x) = true:=by simp only [lpF,qap,qax,qu,qg,qf,zfc,zgy]
theorem lpF_pl (x : Lp × Bool) : (lpF x).length = 4 ∧ qx (lpF x) = true:=⟨rfl,rfl⟩
theorem qt8 (n : Nat) (l : List (Lp × Bool)) : qhl n (l.map lpF) = true:=qmk (lpF_lo n) l
theorem lpFs_ok (l : List (Lp × Bool)) : qc5 4 (l.map lpF) = true:=qmy lpF_pl l
section
variable (a b : List (Lp × Bool)) (c d : Bool)
end
set_option maxRecDepth 10000
section
variable (a b : Lp)
end
set_option maxRecDepth 10000
theorem q2o (l : List Int) (c : Bool) (n : Int) (h : l.length ≤ 100000) : qaz (evL T) qjj [(.fsl ((l).map qb8) c),(ii n)] = some (.fsl ((l ++ [n]).map qb8) false):=by
 have h' : (l.length + 1) * 8 ≤ 140737488355328:=by omega
 have h2 : l.length * 8 ≤ 140737488355328:=by omega
 have htl : List.take l.length (l.map qb8) = l.map qb8:=List.take_of_length_le (by simp)
 have htk : ∀ e : List AV,List.take (l.length + 1) (l.map qb8 ++ [e]) = l.map qb8 ++ [e]:=fun e => List.take_of_length_le (by simp)
 have hr : (l ++ [n]).map qb8 = l.map qb8 ++ [[(ii n)]]:=by rw [List.map_append];rfl
 rw [qaz,qy q0s qx1]
 rw [hr]
 simp only [qny,h',h2,htl,htk,qkc,qacv,qah,qn,Ev.exec,qb,qe,qc,qaj,qnz,Ev.Opnd.ev,Ev.Env.get,Ev.Env.set,Ev.look,qo,qbs,qfl,Ev.AV.cells,Ev.AV.uc,qx,Ev.AV.plain,qm,qab,qak,Ev.kill,qai,qd,qax,qbj,qg,qf,qaa,qag,qbh,qa8,qfw,qea,List.replicate_one,List.replicate_zero,zgi,↓qs,↓reduceIte,zga,zgb,zgp,zgd,zgo,zgg,zgl,zgj,Nat.reduceAdd,Nat.reduceEqDiff,Nat.reduceMul,Nat.reduceLT,Nat.reduceLeDiff,Nat.reducePow,reduceCtorEq,zgv,zgw,zfc,zfa,zgx,and_true,ne_eq,zfb,not_true_eq_false,zff,zfd,zgu,Nat.le_refl,zgy,and_false]
theorem qpp (l : List (List Int)) (k : List Int) (c : Bool) (h : l.length ≤ 1000) : qaz (evL T) qfg [(.fsl ((l).map qfy) c),(.fsl ((k).map qb8) false)] = some (.fsl ((l ++ [k]).map qfy) false):=by
 have h' : (l.length + 1) * 24 ≤ 140737488355328:=by omega
 have h2 : l.length * 24 ≤ 140737488355328:=by omega
 have htl : List.take l.length (l.map qfy) = l.map qfy:=List.take_of_length_le (by simp)
 have htk : ∀ e : List AV,List.take (l.length + 1) (l.map qfy ++ [e]) = l.map qfy ++ [e]:=fun e => List.take_of_length_le (by simp)
 have hr : (l ++ [k]).map qfy = l.map qfy ++ [[(.fsl ((k).map qb8) false)]]:=by rw [List.map_append];rfl
 rw [qaz,qy qud qtm]
 rw [hr]
 simp only [qkx,h',h2,htl,htk,qkc,keys_ok,qbv,qah,qn,Ev.exec,qb,qe,qc,qaj,qnz,Ev.Opnd.ev,Ev.Env.get,Ev.Env.set,Ev.look,qo,qbs,qfl,Ev.AV.cells,Ev.AV.uc,qx,Ev.AV.plain,qm,qab,qak,Ev.kill,qai,qd,qu,qbj,qg,qf,qaa,qag,qbh,qa8,qfw,qea,List.replicate_one,List.replicate_zero,zgi,↓qs,↓reduceIte,zga,zgb,zgp,zgd,zgo,zgg,zgl,zgj,Nat.reduceAdd,Nat.reduceEqDiff,Nat.reduceMul,Nat.reduceLT,Nat.reduceLeDiff,Nat.reducePow,reduceCtorEq,zgv,zgw,zfc,zfa,zgx,and_true,ne_eq,zfb,not_true_eq_false,zff,zfd,zgu,Nat.le_refl,zgy,and_false]
section
variable (x : Ex)
theorem qep (h : x.procs.length ≤ 1000) (i : Nat) (hi : i < x.procs.length) (q : Pr) : qaz (evL T) qe1 [(.agg [(ii x.r0),(ii x.r1),(.fsl ((x.procs).map Pr.r) false),(ii x.sum),(ii x.ev.time),(.fsl ((x.ev.key).map qb8) false),(ii x.ev.lp),(ii x.ev.kind),(ii x.ev.proc),(ii x.ev.arg),(.fsl ((x.out).map Evt.r) false),(.fsl ((x.gone).map qfy) false),(ii x.n),(bb x.over)]),(ii i),(.agg [(ii q.prog),(ii q.pc),(bb q.alive),(.fsl ((q.timer).map qb8) false)])] = some (.agg [(ii ((x.setP i q).r0)),(ii ((x.setP i q).r1)),(.fsl (((x.setP i q).procs).map Pr.r) false),(ii ((x.setP i q).sum)),(ii ((x.setP i q).ev.time)),(.fsl (((x.setP i q).ev.key).map qb8) false),(ii ((x.setP i q).ev.lp)),(ii ((x.setP i q).ev.kind)),(ii ((x.setP i q).ev.proc)),(ii ((x.setP i q).ev.arg)),(.fsl (((x.setP i q).out).map Evt.r) false),(.fsl (((x.setP i q).gone).map qfy) false),(ii ((x.setP i q).n)),(bb ((x.setP i q).over))]):=by
 have h2 : x.procs.length * 48 ≤ 140737488355328:=by omega
 have htl : ∀ e : List AV,List.take x.procs.length ((x.procs.map Pr.r).set i e) = (x.procs.map Pr.r).set i e:=fun e => List.take_of_length_le (by simp)
 have hset : (x.procs.map Pr.r).set i [(ii q.prog),(ii q.pc),(bb q.alive),(.fsl ((q.timer).map qb8) false)] = (x.procs.set i q).map Pr.r:=by rw [List.map_set];rfl
 obtain ⟨q0,hq⟩ : ∃ q0,x.procs[i]? = some q0:=⟨_,List.getElem?_eq_getElem hi⟩
 have ft : ∀ {τ : Type} (l : List τ) (f : τ → List AV),List.take l.length (l.map f) = l.map f:=fun l f => List.take_of_length_le (by simp)
 have htl2 : List.take x.procs.length ((x.procs.set i q).map Pr.r) = (x.procs.set i q).map Pr.r:=List.take_of_length_le (by simp)
 unfold Ex.setP
 rw [qaz,qy q5c q3g]
 simp only [qq5,htl2,h2,hi,hq,hset,q4s,Pr.r,zgs,zgr,zgq,zgt,qah,qap,qv,qbv,Nat.reduceLT,Nat.reduceLeDiff,qn,Ev.exec,qb,qe,qc,qaj,Ev.Opnd.ev,Ev.Env.get,Ev.Env.set,Ev.look,qo,qh,qbs,qad,qfl,Ev.AV.cells,Ev.AV.uc,qx,Ev.AV.plain,qm,qab,qak,Ev.kill,qai,qd,qax,qbe,qu,qg,qf,qal,List.length_set,List.replicate_zero,zgi,↓qs,↓reduceIte,zga,zgb,zgd,zge,zgc,zgo,zfe,zgf,zgg,List.drop_nil,zgm,zgl,zgn,zgj,zgk,zgh,Nat.reduceAdd,Nat.reduceEqDiff,Nat.reduceMul,Nat.reduceLT,Nat.reduceLeDiff,Nat.reducePow,reduceCtorEq,zfc,zfa,zgx,ne_eq,zfb,not_true_eq_false,zff,zfd,Nat.add_zero,Nat.le_refl,zgy,and_false]
theorem qko (h : x.Small) (d : Int) (t0 lp k p a : Int) (ks : List Int) :
  qaz (evL T) qfi [(.agg [(ii x.r0),(ii x.r1),(.fsl ((x.procs).map Pr.r) false),(ii x.sum),(ii x.ev.time),(.fsl ((x.ev.key).map qb8) false),(ii x.ev.lp),(ii x.ev.kind),(ii x.ev.proc),(ii x.ev.arg),(.fsl ((x.out).map Evt.r) false),(.fsl ((x.gone).map qfy) false),(ii x.n),(bb x.over)]),(ii d),.agg [(ii t0),(.fsl ((ks).map qb8) false),(ii lp),(ii k),(ii p),(ii a)]] = some (.tup [(.agg [(ii ((x.create d ⟨t0,ks,lp,k,p,a⟩).r0)),(ii ((x.create d ⟨t0,ks,lp,k,p,a⟩).r1)),(.fsl (((x.create d ⟨t0,ks,lp,k,p,a⟩).procs).map Pr.r) false),(ii ((x.create d ⟨t0,ks,lp,k,p,a⟩).sum)),(ii ((x.create d ⟨t0,ks,lp,k,p,a⟩).ev.time)),(.fsl (((x.create d ⟨t0,ks,lp,k,p,a⟩).ev.key).map qb8) false),(ii ((x.create d ⟨t0,ks,lp,k,p,a⟩).ev.lp)),(ii ((x.create d ⟨t0,ks,lp,k,p,a⟩).ev.kind)),(ii ((x.create d ⟨t0,ks,lp,k,p,a⟩).ev.proc)),(ii ((x.create d ⟨t0,ks,lp,k,p,a⟩).ev.arg)),(.fsl (((x.create d ⟨t0,ks,lp,k,p,a⟩).out).map Evt.r) false),(.fsl (((x.create d ⟨t0,ks,lp,k,p,a⟩).gone).map qfy) false),(ii ((x.create d ⟨t0,ks,lp,k,p,a⟩).n)),(bb ((x.create d ⟨t0,ks,lp,k,p,a⟩).over))]),(.fsl ((x.kid).map qb8) false)]):=by
 have hk:=q2o x.ev.key false x.n h.key
 have hs : (x.out.length + 1) * 64 ≤ 140737488355328:=by have:=h.out;omega
 have hs2 : x.out.length * 64 ≤ 140737488355328:=by have:=h.out;omega
 have htl : List.take x.out.length (x.out.map Evt.r) = x.out.map Evt.r:=List.take_of_length_le (by simp)
 have htk : ∀ e : List AV,List.take (x.out.length + 1) (x.out.map Evt.r ++ [e]) = x.out.map Evt.r ++ [e]:=fun e => List.take_of_length_le (by simp)
 unfold Ex.create Ex.kid
 rw [qaz,qy qx3 qw5]
 by_cases ho : w64 (x.ev.time + d) > 1152921504606846976
 ·have ho' : IntKind.i64.wrap (x.ev.time + d) > 1152921504606846976:=ho
  simp only [ho,if_true]
  simp only [qle,hk,ho',qah,qap,qv,qbv,Nat.reduceLeDiff,qn,Ev.exec,qb,qe,qc,qa0,qaj,Ev.evs,Ev.Opnd.ev,Ev.Env.get,Ev.Env.set,Ev.look,qo,qh,qad,Ev.AV.cells,Ev.AV.uc,qx,Ev.AV.plain,qaf,qau,qm,qab,qak,Ev.kill,qai,qd,qax,qbe,qa3,qu,qnu,Ev.AV.obj?,qg,qf,qal,↓qs,↓reduceIte,zga,zgb,zgd,zge,zgc,zgo,zfe,zgf,zgg,List.drop_nil,zgm,zgl,zgn,zgj,zgk,zgh,Nat.reduceAdd,Nat.reduceEqDiff,Nat.reduceBEq,Nat.reduceLeDiff,reduceCtorEq,zgv,zfc,Bool.not_false,zfa,zgx,ne_eq,zfb,zff,zfd,Nat.add_zero,Nat.le_refl,zgy]
  done
 ·have ho' : ¬ IntKind.i64.wrap (x.ev.time + d) > 1152921504606846976:=ho
  simp only [ho,if_false]
  have hr : ∀ e : Evt,(x.out ++ [e]).map Evt.r = x.out.map Evt.r ++ [e.r]:=fun e => by rw [List.map_append];rfl
  simp only [qle,hk,ho',hs,hs2,htl,htk,hr,qkc,qem,Evt.r,qah,qap,qv,qbv,Nat.reduceLT,Nat.reduceLeDiff,qn,Ev.exec,qb,qe,qc,qa0,qaj,qnz,Ev.evs,Ev.Opnd.ev,Ev.Env.get,Ev.Env.set,Ev.look,qo,qh,qbs,qad,qfl,Ev.AV.cells,Ev.AV.uc,qx,Ev.AV.plain,qaf,qau,qm,qab,qak,Ev.kill,qai,qd,qax,qbe,qa3,qu,qnu,Ev.AV.obj?,qg,qf,qaa,qag,qbh,qa8,qal,List.replicate_one,List.replicate_zero,zgi,↓qs,↓reduceIte,zga,zgb,zgp,zgd,zge,zgc,zgo,zfe,zgf,zgg,List.drop_nil,zgm,zgl,zgn,zgj,zgk,zgh,Nat.reduceAdd,Nat.reduceEqDiff,Nat.reduceBEq,Nat.reduceMul,Nat.reduceLT,Nat.reduceLeDiff,Nat.reducePow,reduceCtorEq,zgv,zgw,zfc,Bool.not_false,zfa,zgx,ne_eq,zfb,not_true_eq_false,zff,zfd,Nat.add_zero,zgu,Nat.le_refl,zgy,and_false]
  done
end
set_option maxRecDepth 10000
def Pr.inc (q : Pr) : Pr:={ q with pc:=w64 (q.pc + 1) }
section
variable (x : Ex) (i : Nat) (op : OpI) (q : Pr)
theorem qaam (h : x.Small) (hq : x.procs[i]? = some q) (h1 : op.code = 1) :
  qaz (evL T) qds [(.agg [(ii x.r0),(ii x.r1),(.fsl ((x.procs).map Pr.r) false),(ii x.sum),(ii x.ev.time),(.fsl ((x.ev.key).map qb8) false),(ii x.ev.lp),(ii x.ev.kind),(ii x.ev.proc),(ii x.ev.arg),(.fsl ((x.out).map Evt.r) false),(.fsl ((x.gone).map qfy) false),(ii x.n),(bb x.over)]),(ii i),(.agg [(ii op.code),(ii op.a),(ii op.b),(ii op.c)])] = some (.tup [(.agg [(ii (((x.create op.a ⟨0,[],x.ev.lp,1,i,0⟩).setP i q.inc).r0)),(ii (((x.create op.a ⟨0,[],x.ev.lp,1,i,0⟩).setP i q.inc).r1)),(.fsl ((((x.create op.a ⟨0,[],x.ev.lp,1,i,0⟩).setP i q.inc).procs).map Pr.r) false),(ii (((x.create op.a ⟨0,[],x.ev.lp,1,i,0⟩).setP i q.inc).sum)),(ii (((x.create op.a ⟨0,[],x.ev.lp,1,i,0⟩).setP i q.inc).ev.time)),(.fsl ((((x.create op.a ⟨0,[],x.ev.lp,1,i,0⟩).setP i q.inc).ev.key).map qb8) false),(ii (((x.create op.a ⟨0,[],x.ev.lp,1,i,0⟩).setP i q.inc).ev.lp)),(ii (((x.create op.a ⟨0,[],x.ev.lp,1,i,0⟩).setP i q.inc).ev.kind)),(ii (((x.create op.a ⟨0,[],x.ev.lp,1,i,0⟩).setP i q.inc).ev.proc)),(ii (((x.create op.a ⟨0,[],x.ev.lp,1,i,0⟩).setP i q.inc).ev.arg)),(.fsl ((((x.create op.a ⟨0,[],x.ev.lp,1,i,0⟩).setP i q.inc).out).map Evt.r) false),(.fsl ((((x.create op.a ⟨0,[],x.ev.lp,1,i,0⟩).setP i q.inc).gone).map qfy) false),(ii (((x.create op.a ⟨0,[],x.ev.lp,1,i,0⟩).setP i q.inc).n)),(bb (((x.create op.a ⟨0,[],x.ev.lp,1,i,0⟩).setP i q.inc).over))]),(bb true)]):=by
 have hl:=(List.getElem?_eq_some_iff.1 hq).1
 have hc:=qko x h op.a 0 x.ev.lp 1 i 0 []
 have hp:=qep (x.create op.a ⟨0,[],x.ev.lp,1,i,0⟩) h.procs i hl q.inc
 simp only [List.map_nil,Pr.inc,w64] at hc hp ⊢
 rw [qaz,qy qd1 qdj]
 simp only [qd3,h1,hq,hc,hp,Pr.r,zgs,zgr,zgq,zgt,qah,qap,qv,qbv,Nat.reduceLeDiff,qn,Ev.exec,qb,qe,qc,qa0,qaj,Ev.evs,Ev.Opnd.ev,Ev.Env.get,Ev.Env.set,Ev.look,qo,qh,qad,qgp,Ev.AV.cells,Ev.AV.uc,qx,Ev.AV.plain,qaf,qam,qm,qab,qak,Ev.kill,qai,qd,qax,qbe,qa3,qu,qg,qf,qaa,qal,↓qs,↓reduceIte,zga,zgb,zgd,zge,zgc,zgo,zfe,zgf,zgg,List.drop_nil,zgm,zgl,zgn,zgj,zgk,zgh,Nat.reduceAdd,Nat.reduceEqDiff,Nat.reduceLeDiff,reduceCtorEq,zgv,zfc,zfa,zgx,ne_eq,zfb,zff,zfd,Nat.add_zero,Nat.le_refl,zgy]
theorem q93 (h : x.Small) (hq : x.procs[i]? = some q) (h1 : op.code = 2) :
  qaz (evL T) qds [(.agg [(ii x.r0),(ii x.r1),(.fsl ((x.procs).map Pr.r) false),(ii x.sum),(ii x.ev.time),(.fsl ((x.ev.key).map qb8) false),(ii x.ev.lp),(ii x.ev.kind),(ii x.ev.proc),(ii x.ev.arg),(.fsl ((x.out).map Evt.r) false),(.fsl ((x.gone).map qfy) false),(ii x.n),(bb x.over)]),(ii i),(.agg [(ii op.code),(ii op.a),(ii op.b),(ii op.c)])] = some (.tup [(.agg [(ii (((x.create op.c ⟨0,[],op.a,3,0,op.b⟩).setP i q.inc).r0)),(ii (((x.create op.c ⟨0,[],op.a,3,0,op.b⟩).setP i q.inc).r1)),(.fsl ((((x.create op.c ⟨0,[],op.a,3,0,op.b⟩).setP i q.inc).procs).map Pr.r) false),(ii (((x.create op.c ⟨0,[],op.a,3,0,op.b⟩).setP i q.inc).sum)),(ii (((x.create op.c ⟨0,[],op.a,3,0,op.b⟩).setP i q.inc).ev.time)),(.fsl ((((x.create op.c ⟨0,[],op.a,3,0,op.b⟩).setP i q.inc).ev.key).map qb8) false),(ii (((x.create op.c ⟨0,[],op.a,3,0,op.b⟩).setP i q.inc).ev.lp)),(ii (((x.create op.c ⟨0,[],op.a,3,0,op.b⟩).setP i q.inc).ev.kind)),(ii (((x.create op.c ⟨0,[],op.a,3,0,op.b⟩).setP i q.inc).ev.proc)),(ii (((x.create op.c ⟨0,[],op.a,3,0,op.b⟩).setP i q.inc).ev.arg)),(.fsl ((((x.create op.c ⟨0,[],op.a,3,0,op.b⟩).setP i q.inc).out).map Evt.r) false),(.fsl ((((x.create op.c ⟨0,[],op.a,3,0,op.b⟩).setP i q.inc).gone).map qfy) false),(ii (((x.create op.c ⟨0,[],op.a,3,0,op.b⟩).setP i q.inc).n)),(bb (((x.create op.c ⟨0,[],op.a,3,0,op.b⟩).setP i q.inc).over))]),(bb false)]):=by
 have hl:=(List.getElem?_eq_some_iff.1 hq).1
 have hc:=qko x h op.c 0 op.a 3 0 op.b []
 have hp:=qep (x.create op.c ⟨0,[],op.a,3,0,op.b⟩) h.procs i hl q.inc
 simp only [List.map_nil,Pr.inc,w64] at hc hp ⊢
 have k1 : ¬ (2 : Int) = 1:=by decide
 rw [qaz,qy qd1 qdj]
 simp only [qd3,h1,k1,hq,hc,hp,Pr.r,zgs,zgr,zgq,zgt,qah,qap,qv,qbv,Nat.reduceLeDiff,qn,Ev.exec,qb,qe,qc,qa0,qaj,Ev.evs,Ev.Opnd.ev,Ev.Env.get,Ev.Env.set,Ev.look,qo,qh,qad,qgp,Ev.AV.cells,Ev.AV.uc,qx,Ev.AV.plain,qaf,qam,qm,qab,qak,Ev.kill,qai,qd,qax,qbe,qa3,qu,qg,qf,qaa,qal,↓qs,↓reduceIte,zga,zgb,zgd,zge,zgc,zgo,zfe,zgf,zgg,List.drop_nil,zgm,zgl,zgn,zgj,zgk,zgh,Nat.reduceAdd,Nat.reduceEqDiff,Nat.reduceLeDiff,reduceCtorEq,zgv,zgw,zfc,zfa,zgx,ne_eq,zfb,zff,zfd,Nat.add_zero,Nat.le_refl,zgy]
theorem q74 (h : x.Small) (hg : x.gone.length < 1000) (hq : x.procs[i]? = some q) (h1 : op.code = 3) :
  qaz (evL T) qds [(.agg [(ii x.r0),(ii x.r1),(.fsl ((x.procs).map Pr.r) false),(ii x.sum),(ii x.ev.time),(.fsl ((x.ev.key).map qb8) false),(ii x.ev.lp),(ii x.ev.kind),(ii x.ev.proc),(ii x.ev.arg),(.fsl ((x.out).map Evt.r) false),(.fsl ((x.gone).map qfy) false),(ii x.n),(bb x.over)]),(ii i),(.agg [(ii op.code),(ii op.a),(ii op.b),(ii op.c)])] = some (.tup [(.agg [(ii (((({ x with gone:=if 0 < q.timer.length then x.gone ++ [q.timer] else x.gone } : Ex).create op.a ⟨0,[],x.ev.lp,2,i,op.b⟩).setP i { q.inc with timer:=x.kid }).r0)),(ii (((({ x with gone:=if 0 < q.timer.length then x.gone ++ [q.timer] else x.gone } : Ex).create op.a ⟨0,[],x.ev.lp,2,i,op.b⟩).setP i { q.inc with timer:=x.kid }).r1)),(.fsl ((((({ x with gone:=if 0 < q.timer.length then x.gone ++ [q.timer] else x.gone } : Ex).create op.a ⟨0,[],x.ev.lp,2,i,op.b⟩).setP i { q.inc with timer:=x.kid }).procs).map Pr.r) false),(ii (((({ x with gone:=if 0 < q.timer.length then x.gone ++ [q.timer] else x.gone } : Ex).create op.a ⟨0,[],x.ev.lp,2,i,op.b⟩).setP i { q.inc with timer:=x.kid }).sum)),(ii (((({ x with gone:=if 0 < q.timer.length then x.gone ++ [q.timer] else x.gone } : Ex).create op.a ⟨0,[],x.ev.lp,2,i,op.b⟩).setP i { q.inc with timer:=x.kid }).ev.time)),(.fsl ((((({ x with gone:=if 0 < q.timer.length then x.gone ++ [q.timer] else x.gone } : Ex).create op.a ⟨0,[],x.ev.lp,2,i,op.b⟩).setP i { q.inc with timer:=x.kid }).ev.key).map qb8) false),(ii (((({ x with gone:=if 0 < q.timer.length then x.gone ++ [q.timer] else x.gone } : Ex).create op.a ⟨0,[],x.ev.lp,2,i,op.b⟩).setP i { q.inc with timer:=x.kid }).ev.lp)),(ii (((({ x with gone:=if 0 < q.timer.length then x.gone ++ [q.timer] else x.gone } : Ex).create op.a ⟨0,[],x.ev.lp,2,i,op.b⟩).setP i { q.inc with timer:=x.kid }).ev.kind)),(ii (((({ x with gone:=if 0 < q.timer.length then x.gone ++ [q.timer] else x.gone } : Ex).create op.a ⟨0,[],x.ev.lp,2,i,op.b⟩).setP i { q.inc with timer:=x.kid }).ev.proc)),(ii (((({ x with gone:=if 0 < q.timer.length then x.gone ++ [q.timer] else x.gone } : Ex).create op.a ⟨0,[],x.ev.lp,2,i,op.b⟩).setP i { q.inc with timer:=x.kid }).ev.arg)),(.fsl ((((({ x with gone:=if 0 < q.timer.length then x.gone ++ [q.timer] else x.gone } : Ex).create op.a ⟨0,[],x.ev.lp,2,i,op.b⟩).setP i { q.inc with timer:=x.kid }).out).map Evt.r) false),(.fsl ((((({ x with gone:=if 0 < q.timer.length then x.gone ++ [q.timer] else x.gone } : Ex).create op.a ⟨0,[],x.ev.lp,2,i,op.b⟩).setP i { q.inc with timer:=x.kid }).gone).map qfy) false),(ii (((({ x with gone:=if 0 < q.timer.length then x.gone ++ [q.timer] else x.gone } : Ex).create op.a ⟨0,[],x.ev.lp,2,i,op.b⟩).setP i { q.inc with timer:=x.kid }).n)),(bb (((({ x with gone:=if 0 < q.timer.length then x.gone ++ [q.timer] else x.gone } : Ex).create op.a ⟨0,[],x.ev.lp,2,i,op.b⟩).setP i { q.inc with timer:=x.kid }).over))]),(bb false)]):=by
 have hl:=(List.getElem?_eq_some_iff.1 hq).1
 have k1 : ¬ (3 : Int) = 1:=by decide
 have k2 : ¬ (3 : Int) = 2:=by decide
 have ha:=qpp x.gone q.timer false h.gone
 by_cases ht : 0 < q.timer.length
 ·have ht' : (q.timer.length : Int) > 0:=by omega
  have hc:=qko { x with gone:=x.gone ++ [q.timer] } ⟨h.procs,h.out,by simp;omega,h.key⟩ op.a 0 x.ev.lp 2 i op.b []
  have hp:=qep (({ x with gone:=x.gone ++ [q.timer] } : Ex).create op.a ⟨0,[],x.ev.lp,2,i,op.b⟩) h.procs i hl { q.inc with timer:=x.kid }
  rw [if_pos ht]
  simp only [List.map_nil,Pr.inc,Ex.kid,w64] at hc hp ⊢
  rw [qaz,qy qd1 qdj]
  simp only [qd3,h1,k1,k2,ht',hq,hc,hp,ha,Pr.r,zgs,zgr,zgq,zgt,qah,qap,qv,qbv,Nat.reduceLeDiff,qn,Ev.exec,qb,qe,qc,qa0,qaj,Ev.evs,Ev.Opnd.ev,Ev.Env.get,Ev.Env.set,Ev.look,qo,qh,qad,qgp,Ev.AV.cells,Ev.AV.uc,qx,Ev.AV.plain,qaf,qam,qau,qm,qab,qak,Ev.kill,qai,qd,qax,qbe,qa3,qu,qg,qf,qaa,qal,zgi,↓qs,↓reduceIte,zga,zgb,zgd,zge,zgc,zgo,zfe,zgf,zgg,List.drop_nil,zgm,zgl,zgn,zgj,zgk,zgh,Nat.reduceAdd,Nat.reduceEqDiff,Nat.reduceLeDiff,reduceCtorEq,zgv,zgw,zfc,zfa,zgx,ne_eq,zfb,zff,zfd,Nat.add_zero,Nat.le_refl,zgy]
 ·have ht' : ¬ (q.timer.length : Int) > 0:=by omega
  have hc:=qko x h op.a 0 x.ev.lp 2 i op.b []
  have hp:=qep (x.create op.a ⟨0,[],x.ev.lp,2,i,op.b⟩) h.procs i hl { q.inc with timer:=x.kid }
  rw [if_neg ht]
  simp only [List.map_nil,Pr.inc,Ex.kid,w64] at hc hp ⊢
  rw [qaz,qy qd1 qdj]
  simp only [qd3,h1,k1,k2,ht',hq,hc,hp,Pr.r,zgs,zgr,zgq,zgt,qah,qap,qv,qbv,Nat.reduceLeDiff,qn,Ev.exec,qb,qe,qc,qa0,qaj,Ev.evs,Ev.Opnd.ev,Ev.Env.get,Ev.Env.set,Ev.look,qo,qh,qad,qgp,Ev.AV.cells,Ev.AV.uc,qx,Ev.AV.plain,qaf,qam,qau,qm,qab,qak,Ev.kill,qai,qd,qax,qbe,qa3,qu,qg,qf,qaa,qal,zgi,↓qs,↓reduceIte,zga,zgb,zgd,zge,zgc,zgo,zfe,zgf,zgg,List.drop_nil,zgm,zgl,zgn,zgj,zgk,zgh,Nat.reduceAdd,Nat.reduceEqDiff,Nat.reduceLeDiff,reduceCtorEq,zgv,zgw,zfc,zfa,zgx,ne_eq,zfb,zff,zfd,Nat.add_zero,Nat.le_refl,zgy]
theorem qaaj (h : x.Small) (hg : x.gone.length < 1000) (hq : x.procs[i]? = some q) (h1 : op.code = 4) :
  qaz (evL T) qds [(.agg [(ii x.r0),(ii x.r1),(.fsl ((x.procs).map Pr.r) false),(ii x.sum),(ii x.ev.time),(.fsl ((x.ev.key).map qb8) false),(ii x.ev.lp),(ii x.ev.kind),(ii x.ev.proc),(ii x.ev.arg),(.fsl ((x.out).map Evt.r) false),(.fsl ((x.gone).map qfy) false),(ii x.n),(bb x.over)]),(ii i),(.agg [(ii op.code),(ii op.a),(ii op.b),(ii op.c)])] = some (.tup [(.agg [(ii ((if 0 < q.timer.length then ({ x with gone:=x.gone ++ [q.timer] } : Ex).setP i { q.inc with timer:=[] } else x.setP i q.inc).r0)),(ii ((if 0 < q.timer.length then ({ x with gone:=x.gone ++ [q.timer] } : Ex).setP i { q.inc with timer:=[] } else x.setP i q.inc).r1)),(.fsl (((if 0 < q.timer.length then ({ x with gone:=x.gone ++ [q.timer] } : Ex).setP i { q.inc with timer:=[] } else x.setP i q.inc).procs).map Pr.r) false),(ii ((if 0 < q.timer.length then ({ x with gone:=x.gone ++ [q.timer] } : Ex).setP i { q.inc with timer:=[] } else x.setP i q.inc).sum)),(ii ((if 0 < q.timer.length then ({ x with gone:=x.gone ++ [q.timer] } : Ex).setP i { q.inc with timer:=[] } else x.setP i q.inc).ev.time)),(.fsl (((if 0 < q.timer.length then ({ x with gone:=x.gone ++ [q.timer] } : Ex).setP i { q.inc with timer:=[] } else x.setP i q.inc).ev.key).map qb8) false),(ii ((if 0 < q.timer.length then ({ x with gone:=x.gone ++ [q.timer] } : Ex).setP i { q.inc with timer:=[] } else x.setP i q.inc).ev.lp)),(ii ((if 0 < q.timer.length then ({ x with gone:=x.gone ++ [q.timer] } : Ex).setP i { q.inc with timer:=[] } else x.setP i q.inc).ev.kind)),(ii ((if 0 < q.timer.length then ({ x with gone:=x.gone ++ [q.timer] } : Ex).setP i { q.inc with timer:=[] } else x.setP i q.inc).ev.proc)),(ii ((if 0 < q.timer.length then ({ x with gone:=x.gone ++ [q.timer] } : Ex).setP i { q.inc with timer:=[] } else x.setP i q.inc).ev.arg)),(.fsl (((if 0 < q.timer.length then ({ x with gone:=x.gone ++ [q.timer] } : Ex).setP i { q.inc with timer:=[] } else x.setP i q.inc).out).map Evt.r) false),(.fsl (((if 0 < q.timer.length then ({ x with gone:=x.gone ++ [q.timer] } : Ex).setP i { q.inc with timer:=[] } else x.setP i q.inc).gone).map qfy) false),(ii ((if 0 < q.timer.length then ({ x with gone:=x.gone ++ [q.timer] } : Ex).setP i { q.inc with timer:=[] } else x.setP i q.inc).n)),(bb ((if 0 < q.timer.length then ({ x with gone:=x.gone ++ [q.timer] } : Ex).setP i { q.inc with timer:=[] } else x.setP i q.inc).over))]),(bb false)]):=by
 have hl:=(List.getElem?_eq_some_iff.1 hq).1
 have k1 : ¬ (4 : Int) = 1:=by decide
 have k2 : ¬ (4 : Int) = 2:=by decide
 have k3 : ¬ (4 : Int) = 3:=by decide
 have ha:=qpp x.gone q.timer false h.gone
 by_cases ht : 0 < q.timer.length
 ·have ht' : (q.timer.length : Int) > 0:=by omega
  have hp:=qep { x with gone:=x.gone ++ [q.timer] } h.procs i hl { q.inc with timer:=[] }
  rw [if_pos ht]
  simp only [List.map_nil,Pr.inc,w64] at hp ⊢
  rw [qaz,qy qd1 qdj]
  simp only [qd3,h1,k1,k2,k3,ht',hq,hp,ha,Pr.r,zgs,zgr,zgq,zgt,qah,qap,qv,qbv,Nat.reduceLeDiff,qn,Ev.exec,qb,qe,qc,qa0,qaj,Ev.evs,Ev.Opnd.ev,Ev.Env.get,Ev.Env.set,Ev.look,qo,qh,qad,Ev.AV.cells,Ev.AV.uc,qx,Ev.AV.plain,qaf,qam,qau,qm,qab,qak,Ev.kill,qai,qd,qax,qbe,qa3,qu,qg,qf,qaa,qal,zgi,↓qs,↓reduceIte,zga,zgb,zgd,zge,zgc,zgo,zfe,zgf,zgg,List.drop_nil,zgm,zgl,zgn,zgj,zgk,zgh,Nat.reduceAdd,Nat.reduceEqDiff,Nat.reduceLeDiff,reduceCtorEq,zgv,zgw,zfc,zfa,zgx,ne_eq,zfb,zff,zfd,Nat.add_zero,Nat.le_refl,zgy]
 ·have ht' : ¬ (q.timer.length : Int) > 0:=by omega
  have hp:=qep x h.procs i hl q.inc
  rw [if_neg ht]
  simp only [Pr.inc,w64] at hp ⊢
  rw [qaz,qy qd1 qdj]
  simp only [qd3,h1,k1,k2,k3,ht',hq,hp,Pr.r,zgs,zgr,zgq,zgt,qah,qap,qv,qbv,Nat.reduceLeDiff,qn,Ev.exec,qb,qe,qc,qa0,qaj,Ev.evs,Ev.Opnd.ev,Ev.Env.get,Ev.Env.set,Ev.look,qo,qh,qad,Ev.AV.cells,Ev.AV.uc,qx,Ev.AV.plain,qaf,qam,qau,qm,qab,qak,Ev.kill,qai,qd,qax,qbe,qa3,qu,qg,qf,qal,zgi,↓qs,↓reduceIte,zga,zgb,zgd,zge,zgc,zgo,zfe,zgf,zgg,List.drop_nil,zgm,zgl,zgn,zgj,zgk,zgh,Nat.reduceAdd,Nat.reduceEqDiff,Nat.reduceLeDiff,reduceCtorEq,zgv,zgw,zfc,zfa,zgx,ne_eq,zfb,zff,zfd,Nat.add_zero,Nat.le_refl,zgy]
theorem q7u (h : x.Small) (hq : x.procs[i]? = some q) (h1 : op.code = 5) :
  qaz (evL T) qds [(.agg [(ii x.r0),(ii x.r1),(.fsl ((x.procs).map Pr.r) false),(ii x.sum),(ii x.ev.time),(.fsl ((x.ev.key).map qb8) false),(ii x.ev.lp),(ii x.ev.kind),(ii x.ev.proc),(ii x.ev.arg),(.fsl ((x.out).map Evt.r) false),(.fsl ((x.gone).map qfy) false),(ii x.n),(bb x.over)]),(ii i),(.agg [(ii op.code),(ii op.a),(ii op.b),(ii op.c)])] = some (.tup [(.agg [(ii (((x.setP i q.inc).spawnE op).r0)),(ii (((x.setP i q.inc).spawnE op).r1)),(.fsl ((((x.setP i q.inc).spawnE op).procs).map Pr.r) false),(ii (((x.setP i q.inc).spawnE op).sum)),(ii (((x.setP i q.inc).spawnE op).ev.time)),(.fsl ((((x.setP i q.inc).spawnE op).ev.key).map qb8) false),(ii (((x.setP i q.inc).spawnE op).ev.lp)),(ii (((x.setP i q.inc).spawnE op).ev.kind)),(ii (((x.setP i q.inc).spawnE op).ev.proc)),(ii (((x.setP i q.inc).spawnE op).ev.arg)),(.fsl ((((x.setP i q.inc).spawnE op).out).map Evt.r) false),(.fsl ((((x.setP i q.inc).spawnE op).gone).map qfy) false),(ii (((x.setP i q.inc).spawnE op).n)),(bb (((x.setP i q.inc).spawnE op).over))]),(bb false)]):=by
 have hl:=(List.getElem?_eq_some_iff.1 hq).1
 have k1 : ¬ (5 : Int) = 1:=by decide
 have k2 : ¬ (5 : Int) = 2:=by decide
 have k3 : ¬ (5 : Int) = 3:=by decide
 have k4 : ¬ (5 : Int) = 4:=by decide
 have hp:=qep x h.procs i hl q.inc
 have hls : (x.procs.set i q.inc).length = x.procs.length:=by simp
 unfold Ex.spawnE
 by_cases hs : x.procs.length < 8
 ·have hs' : ¬ (x.procs.length : Int) ≥ 8:=by omega
  have h2 : x.procs.length * 48 ≤ 140737488355328:=by omega
  have h3 : (x.procs.length + 1) * 48 ≤ 140737488355328:=by omega
  rw [if_pos (by simp only [Ex.setP,hls];exact hs)]
  have hc:=qko { x with procs:=x.procs.set i q.inc ++ [⟨op.a,0,true,[]⟩] } ⟨by simp;omega,h.out,h.gone,h.key⟩ op.b 0 x.ev.lp 1 x.procs.length 0 []
  have htk : ∀ e : List AV,List.take (x.procs.length + 1) ((x.procs.set i q.inc).map Pr.r ++ [e]) = (x.procs.set i q.inc).map Pr.r ++ [e]:=fun e => List.take_of_length_le (by simp)
  have htl : List.take x.procs.length ((x.procs.set i q.inc).map Pr.r) = (x.procs.set i q.inc).map Pr.r:=List.take_of_length_le (by simp)
  simp only [Ex.setP,Ex.ownE,hls] at hp ⊢
  generalize x.procs.set i q.inc = l at *
  simp only [List.map_nil,List.map_append,List.map_cons,Pr.inc,Pr.r,w64] at hc hp ⊢
  rw [qaz,qy qd1 qdj]
  simp only [qd3,h1,k1,k2,k3,k4,h2,h3,hs',hls,hq,hc,hp,htl,htk,q4s,Pr.r,qkc,zgs,zgr,zgq,zgt,qah,qap,qv,qbv,Nat.reduceLT,Nat.reduceLeDiff,qn,Ev.exec,qb,qe,qc,qa0,qaj,qnz,Ev.evs,Ev.Opnd.ev,Ev.Env.get,Ev.Env.set,Ev.look,qo,qh,qbs,qad,qgp,qfl,Ev.AV.cells,Ev.AV.uc,qx,Ev.AV.plain,qaf,qam,qcd,qm,qab,qak,Ev.kill,qai,qd,qax,qbe,qa3,qu,qg,qf,qaa,qag,qbh,qa8,qal,List.replicate_one,List.replicate_zero,zgi,↓qs,↓reduceIte,zga,zgb,zgp,zgd,zge,zgc,zgo,zfe,zgf,zgg,List.drop_nil,zgm,zgl,zgn,zgj,zgk,zgh,Nat.reduceAdd,Nat.reduceEqDiff,Nat.reduceMul,Nat.reduceLT,Nat.reduceLeDiff,Nat.reducePow,reduceCtorEq,zgv,zgw,zfc,zfa,zgx,ne_eq,zfb,not_true_eq_false,zff,zfd,Nat.add_zero,zgu,Nat.le_refl,zgy,and_false]
 ·have hs' : (x.procs.length : Int) ≥ 8:=by omega
  rw [if_neg (by simp only [Ex.setP,hls];exact hs)]
  simp only [Ex.setP] at hp ⊢
  generalize x.procs.set i q.inc = l at *
  simp only [Pr.inc,w64] at hp ⊢
  rw [qaz,qy qd1 qdj]
  simp only [qd3,h1,k1,k2,k3,k4,hs',hls,hq,hp,Pr.r,zgs,zgr,zgq,zgt,qah,qap,qv,qbv,Nat.reduceLeDiff,qn,Ev.exec,qb,qe,qc,qa0,qaj,Ev.evs,Ev.Opnd.ev,Ev.Env.get,Ev.Env.set,Ev.look,qo,qh,qad,Ev.AV.cells,Ev.AV.uc,qx,Ev.AV.plain,qaf,qam,qcd,qm,qab,qak,Ev.kill,qai,qd,qax,qbe,qa3,qu,qg,qf,qal,zgi,↓qs,↓reduceIte,zga,zgb,zgd,zge,zgc,zgo,zfe,zgf,zgg,List.drop_nil,zgm,zgl,zgn,zgj,zgk,zgh,Nat.reduceAdd,Nat.reduceEqDiff,Nat.reduceLeDiff,reduceCtorEq,zgv,zgw,zfc,zfa,zgx,ne_eq,zfb,zff,zfd,Nat.add_zero,Nat.le_refl,zgy]
theorem qac7 (h : x.Small) (hq : x.procs[i]? = some q) (h1 : op.code = 6) (h0 : op.a = 0 ∨ op.a = 1) :
  qaz (evL T) qds [(.agg [(ii x.r0),(ii x.r1),(.fsl ((x.procs).map Pr.r) false),(ii x.sum),(ii x.ev.time),(.fsl ((x.ev.key).map qb8) false),(ii x.ev.lp),(ii x.ev.kind),(ii x.ev.proc),(ii x.ev.arg),(.fsl ((x.out).map Evt.r) false),(.fsl ((x.gone).map qfy) false),(ii x.n),(bb x.over)]),(ii i),(.agg [(ii op.code),(ii op.a),(ii op.b),(ii op.c)])] = some (.tup [(.agg [(ii (((x.setReg op.a (w64 (x.reg op.a + op.b))).setP i q.inc).r0)),(ii (((x.setReg op.a (w64 (x.reg op.a + op.b))).setP i q.inc).r1)),(.fsl ((((x.setReg op.a (w64 (x.reg op.a + op.b))).setP i q.inc).procs).map Pr.r) false),(ii (((x.setReg op.a (w64 (x.reg op.a + op.b))).setP i q.inc).sum)),(ii (((x.setReg op.a (w64 (x.reg op.a + op.b))).setP i q.inc).ev.time)),(.fsl ((((x.setReg op.a (w64 (x.reg op.a + op.b))).setP i q.inc).ev.key).map qb8) false),(ii (((x.setReg op.a (w64 (x.reg op.a + op.b))).setP i q.inc).ev.lp)),(ii (((x.setReg op.a (w64 (x.reg op.a + op.b))).setP i q.inc).ev.kind)),(ii (((x.setReg op.a (w64 (x.reg op.a + op.b))).setP i q.inc).ev.proc)),(ii (((x.setReg op.a (w64 (x.reg op.a + op.b))).setP i q.inc).ev.arg)),(.fsl ((((x.setReg op.a (w64 (x.reg op.a + op.b))).setP i q.inc).out).map Evt.r) false),(.fsl ((((x.setReg op.a (w64 (x.reg op.a + op.b))).setP i q.inc).gone).map qfy) false),(ii (((x.setReg op.a (w64 (x.reg op.a + op.b))).setP i q.inc).n)),(bb (((x.setReg op.a (w64 (x.reg op.a + op.b))).setP i q.inc).over))]),(bb false)]):=by
 have hl:=(List.getElem?_eq_some_iff.1 hq).1
 have k1 : ¬ (6 : Int) = 1:=by decide
 have k2 : ¬ (6 : Int) = 2:=by decide
 have k3 : ¬ (6 : Int) = 3:=by decide
 have k4 : ¬ (6 : Int) = 4:=by decide
 have k5 : ¬ (6 : Int) = 5:=by decide
 have k6 : ¬ (1 : Int) = 0:=by decide
 rcases h0 with h0 | h0
 ·have hp:=qep { x with r0:=w64 (x.r0 + op.b) } h.procs i hl q.inc
  simp only [Ex.setReg,Ex.reg,h0,if_true]
  simp only [Pr.inc,w64] at hp ⊢
  rw [qaz,qy qd1 qdj]
  simp only [qd3,h1,k1,k2,k3,k4,k5,hq,hp,Pr.r,zgs,zgr,zgq,zgt,qah,qap,qv,qbv,Nat.reduceLT,Nat.reduceLeDiff,qn,Ev.exec,qb,qe,qc,qa0,qaj,Ev.evs,Ev.Opnd.ev,Ev.Env.get,Ev.Env.set,Ev.look,qo,qh,qad,Ev.AV.cells,Ev.AV.uc,qx,Ev.AV.plain,qaf,qam,qm,qab,qak,Ev.kill,qai,qd,qax,qbe,qa3,qu,qg,qf,qal,↓qs,↓reduceIte,zga,zgb,zgd,zge,zgc,zgo,zfe,zgf,zgg,List.drop_nil,zgm,zgl,zgn,zgj,zgk,zgh,Nat.reduceAdd,Nat.reduceEqDiff,Nat.reduceMul,Nat.reduceLT,Nat.reduceLeDiff,Int.reduceLE,Int.reduceToNat,reduceCtorEq,zgv,zgw,zfc,zfa,zgx,ne_eq,zfb,zff,zfd,Nat.add_zero,Nat.le_refl,zgy]
 ·have hp:=qep { x with r1:=w64 (x.r1 + op.b) } h.procs i hl q.inc
  simp only [Ex.setReg,Ex.reg,h0,k6,if_false]
  simp only [Pr.inc,w64] at hp ⊢
  rw [qaz,qy qd1 qdj]
  simp only [qd3,h1,k1,k2,k3,k4,k5,hq,hp,Pr.r,zgs,zgr,zgq,zgt,qah,qap,qv,qbv,Nat.reduceLeDiff,qn,Ev.exec,qb,qe,qc,qa0,qaj,Ev.evs,Ev.Opnd.ev,Ev.Env.get,Ev.Env.set,Ev.look,qo,qh,qad,Ev.AV.cells,Ev.AV.uc,qx,Ev.AV.plain,qaf,qam,qm,qab,qak,Ev.kill,qai,qd,qax,qbe,qa3,qu,qg,qf,qal,↓qs,↓reduceIte,zga,zgb,zgd,zge,zgc,zgo,zfe,zgf,zgg,List.drop_nil,zgm,zgl,zgn,zgj,zgk,zgh,Nat.reduceAdd,Nat.reduceEqDiff,Nat.reduceMul,Nat.reduceLeDiff,Int.reduceLE,Int.reduceToNat,reduceCtorEq,zgv,zgw,zfc,zfa,zgx,ne_eq,zfb,zff,zfd,Nat.add_zero,zgu,Nat.le_refl,zgy]
theorem q99 (h : x.Small) (hq : x.procs[i]? = some q) (h1 : op.code = 7) (h0 : op.a = 0 ∨ op.a = 1) :
  qaz (evL T) qds [(.agg [(ii x.r0),(ii x.r1),(.fsl ((x.procs).map Pr.r) false),(ii x.sum),(ii x.ev.time),(.fsl ((x.ev.key).map qb8) false),(ii x.ev.lp),(ii x.ev.kind),(ii x.ev.proc),(ii x.ev.arg),(.fsl ((x.out).map Evt.r) false),(.fsl ((x.gone).map qfy) false),(ii x.n),(bb x.over)]),(ii i),(.agg [(ii op.code),(ii op.a),(ii op.b),(ii op.c)])] = some (.tup [(.agg [(ii ((x.setP i (if x.reg op.a < op.b then { q.inc with pc:=op.c } else q.inc)).r0)),(ii ((x.setP i (if x.reg op.a < op.b then { q.inc with pc:=op.c } else q.inc)).r1)),(.fsl (((x.setP i (if x.reg op.a < op.b then { q.inc with pc:=op.c } else q.inc)).procs).map Pr.r) false),(ii ((x.setP i (if x.reg op.a < op.b then { q.inc with pc:=op.c } else q.inc)).sum)),(ii ((x.setP i (if x.reg op.a < op.b then { q.inc with pc:=op.c } else q.inc)).ev.time)),(.fsl (((x.setP i (if x.reg op.a < op.b then { q.inc with pc:=op.c } else q.inc)).ev.key).map qb8) false),(ii ((x.setP i (if x.reg op.a < op.b then { q.inc with pc:=op.c } else q.inc)).ev.lp)),(ii ((x.setP i (if x.reg op.a < op.b then { q.inc with pc:=op.c } else q.inc)).ev.kind)),(ii ((x.setP i (if x.reg op.a < op.b then { q.inc with pc:=op.c } else q.inc)).ev.proc)),(ii ((x.setP i (if x.reg op.a < op.b then { q.inc with pc:=op.c } else q.inc)).ev.arg)),(.fsl (((x.setP i (if x.reg op.a < op.b then { q.inc with pc:=op.c } else q.inc)).out).map Evt.r) false),(.fsl (((x.setP i (if x.reg op.a < op.b then { q.inc with pc:=op.c } else q.inc)).gone).map qfy) false),(ii ((x.setP i (if x.reg op.a < op.b then { q.inc with pc:=op.c } else q.inc)).n)),(bb ((x.setP i (if x.reg op.a < op.b then { q.inc with pc:=op.c } else q.inc)).over))]),(bb false)]):=by
 have hl:=(List.getElem?_eq_some_iff.1 hq).1
 have k1 : ¬ (7 : Int) = 1:=by decide
 have k2 : ¬ (7 : Int) = 2:=by decide
 have k3 : ¬ (7 : Int) = 3:=by decide
 have k4 : ¬ (7 : Int) = 4:=by decide
 have k5 : ¬ (7 : Int) = 5:=by decide
 have k5' : ¬ (7 : Int) = 6:=by decide
 have k6 : ¬ (1 : Int) = 0:=by decide
 by_cases hr : x.reg op.a < op.b
 ·have hp:=qep x h.procs i hl { q.inc with pc:=op.c }
  simp only [Pr.inc,w64] at hp
  rw [if_pos hr]
  rw [qaz,qy qd1 qdj]
  rcases h0 with h0 | h0 <;> simp only [Ex.reg,h0,k6,if_true,if_false] at hr <;>
  simp only [qd3,h0,h1,k1,k2,k3,k4,k5,k5',hr,hq,hp,Pr.inc,w64,Pr.r,zgs,zgr,zgq,zgt,qah,qap,qv,qbv,Nat.reduceLT,Nat.reduceLeDiff,qn,Ev.exec,qb,qe,qc,qa0,qaj,Ev.evs,Ev.Opnd.ev,Ev.Env.get,Ev.Env.set,Ev.look,qo,qh,qad,Ev.AV.cells,Ev.AV.uc,qx,Ev.AV.plain,qaf,qam,ql,qm,qab,qak,Ev.kill,qai,qd,qax,qbe,qa3,qu,qg,qf,qal,↓qs,↓reduceIte,zga,zgb,zgd,zge,zgc,zgo,zfe,zgf,zgg,List.drop_nil,zgm,zgl,zgn,zgj,zgk,zgh,Nat.reduceAdd,Nat.reduceEqDiff,Nat.reduceMul,Nat.reduceLT,Nat.reduceLeDiff,Int.reduceLE,Int.reduceToNat,reduceCtorEq,zgv,zgw,zfc,zfa,zgx,ne_eq,zfb,zff,zfd,Nat.add_zero,zgu,Nat.le_refl,zgy]
 ·have hp:=qep x h.procs i hl q.inc
  simp only [Pr.inc,w64] at hp
  rw [if_neg hr]
  rw [qaz,qy qd1 qdj]
  rcases h0 with h0 | h0 <;> simp only [Ex.reg,h0,k6,if_true,if_false] at hr <;>
  simp only [qd3,h0,h1,k1,k2,k3,k4,k5,k5',hr,hq,hp,Pr.inc,w64,Pr.r,zgs,zgr,zgq,zgt,qah,qap,qv,qbv,Nat.reduceLT,Nat.reduceLeDiff,qn,Ev.exec,qb,qe,qc,qa0,qaj,Ev.evs,Ev.Opnd.ev,Ev.Env.get,Ev.Env.set,Ev.look,qo,qh,qad,Ev.AV.cells,Ev.AV.uc,qx,Ev.AV.plain,qaf,qam,ql,qm,qab,qak,Ev.kill,qai,qd,qax,qbe,qa3,qu,qg,qf,qal,↓qs,↓reduceIte,zga,zgb,zgd,zge,zgc,zgo,zfe,zgf,zgg,List.drop_nil,zgm,zgl,zgn,zgj,zgk,zgh,Nat.reduceAdd,Nat.reduceEqDiff,Nat.reduceMul,Nat.reduceLT,Nat.reduceLeDiff,Int.reduceLE,Int.reduceToNat,reduceCtorEq,zgv,zgw,zfc,zfa,zgx,ne_eq,zfb,zff,zfd,Nat.add_zero,zgu,Nat.le_refl,zgy]
theorem qab6 (h : x.Small) (hq : x.procs[i]? = some q) (h1 : op.code = 8) :
  qaz (evL T) qds [(.agg [(ii x.r0),(ii x.r1),(.fsl ((x.procs).map Pr.r) false),(ii x.sum),(ii x.ev.time),(.fsl ((x.ev.key).map qb8) false),(ii x.ev.lp),(ii x.ev.kind),(ii x.ev.proc),(ii x.ev.arg),(.fsl ((x.out).map Evt.r) false),(.fsl ((x.gone).map qfy) false),(ii x.n),(bb x.over)]),(ii i),(.agg [(ii op.code),(ii op.a),(ii op.b),(ii op.c)])] = some (.tup [(.agg [(ii ((x.setP i { q.inc with alive:=false }).r0)),(ii ((x.setP i { q.inc with alive:=false }).r1)),(.fsl (((x.setP i { q.inc with alive:=false }).procs).map Pr.r) false),(ii ((x.setP i { q.inc with alive:=false }).sum)),(ii ((x.setP i { q.inc with alive:=false }).ev.time)),(.fsl (((x.setP i { q.inc with alive:=false }).ev.key).map qb8) false),(ii ((x.setP i { q.inc with alive:=false }).ev.lp)),(ii ((x.setP i { q.inc with alive:=false }).ev.kind)),(ii ((x.setP i { q.inc with alive:=false }).ev.proc)),(ii ((x.setP i { q.inc with alive:=false }).ev.arg)),(.fsl (((x.setP i { q.inc with alive:=false }).out).map Evt.r) false),(.fsl (((x.setP i { q.inc with alive:=false }).gone).map qfy) false),(ii ((x.setP i { q.inc with alive:=false }).n)),(bb ((x.setP i { q.inc with alive:=false }).over))]),(bb true)]):=by
 have hl:=(List.getElem?_eq_some_iff.1 hq).1
 have k1 : ¬ (8 : Int) = 1:=by decide
 have k2 : ¬ (8 : Int) = 2:=by decide
 have k3 : ¬ (8 : Int) = 3:=by decide
 have k4 : ¬ (8 : Int) = 4:=by decide
 have k5 : ¬ (8 : Int) = 5:=by decide
 have k6 : ¬ (8 : Int) = 6:=by decide
 have k7 : ¬ (8 : Int) = 7:=by decide
 have hp:=qep x h.procs i hl { q.inc with alive:=false }
 simp only [Pr.inc,w64] at hp ⊢
 rw [qaz,qy qd1 qdj]
 simp only [qd3,h1,k1,k2,k3,k4,k5,k6,k7,hq,hp,Pr.r,zgs,zgr,zgq,zgt,qah,qap,qv,qbv,Nat.reduceLeDiff,qn,Ev.exec,qb,qe,qc,qa0,qaj,Ev.evs,Ev.Opnd.ev,Ev.Env.get,Ev.Env.set,Ev.look,qo,qh,qad,Ev.AV.cells,Ev.AV.uc,qx,Ev.AV.plain,qaf,qam,qm,qab,qak,Ev.kill,qai,qd,qax,qbe,qa3,qu,qg,qf,qal,↓qs,↓reduceIte,zga,zgb,zgd,zge,zgc,zgo,zfe,zgf,zgg,List.drop_nil,zgm,zgl,zgn,zgj,zgk,zgh,Nat.reduceAdd,Nat.reduceEqDiff,Nat.reduceLeDiff,reduceCtorEq,zgw,zfc,zfa,zgx,ne_eq,zfb,zff,zfd,Nat.add_zero,Nat.le_refl,zgy]
end
set_option maxRecDepth 10000
def stepR (x : Ex) (i : Nat) (q : Pr) (op : OpI) : Ex × Bool :=
 if (qdz (x.setP i q.inc) i q.inc op).2 = 1 then ((qdz (x.setP i q.inc) i q.inc op).1,true)
 else if (qdz (x.setP i q.inc) i q.inc op).2 = 2 then (qne (qdz (x.setP i q.inc) i q.inc op).1 i,true)
 else ((qdz (x.setP i q.inc) i q.inc op).1,false)
theorem rstep_ev (x : Ex) (i : Nat) (op : OpI) (q : Pr) (h : x.Small) (hg : x.gone.length < 1000) (hi : x.ev.proc = i) (hq : x.procs[i]? = some q) (ho : OpOk' op) :
  qaz (evL T) qds [(.agg [(ii x.r0),(ii x.r1),(.fsl ((x.procs).map Pr.r) false),(ii x.sum),(ii x.ev.time),(.fsl ((x.ev.key).map qb8) false),(ii x.ev.lp),(ii x.ev.kind),(ii x.ev.proc),(ii x.ev.arg),(.fsl ((x.out).map Evt.r) false),(.fsl ((x.gone).map qfy) false),(ii x.n),(bb x.over)]),(ii i),(.agg [(ii op.code),(ii op.a),(ii op.b),(ii op.c)])] = some (.tup [(.agg [(ii ((stepR x i q op).1.r0)),(ii ((stepR x i q op).1.r1)),(.fsl (((stepR x i q op).1.procs).map Pr.r) false),(ii ((stepR x i q op).1.sum)),(ii ((stepR x i q op).1.ev.time)),(.fsl (((stepR x i q op).1.ev.key).map qb8) false),(ii ((stepR x i q op).1.ev.lp)),(ii ((stepR x i q op).1.ev.kind)),(ii ((stepR x i q op).1.ev.proc)),(ii ((stepR x i q op).1.ev.arg)),(.fsl (((stepR x i q op).1.out).map Evt.r) false),(.fsl (((stepR x i q op).1.gone).map qfy) false),(ii ((stepR x i q op).1.n)),(bb ((stepR x i q op).1.over))]),(bb ((stepR x i q op).2))]):=by
 have hl:=(List.getElem?_eq_some_iff.1 hq).1
 have hc : op.code = 1 ∨ op.code = 2 ∨ op.code = 3 ∨ op.code = 4 ∨ op.code = 5 ∨ op.code = 6 ∨ op.code = 7 ∨ op.code = 8:=by have:=ho.code;omega
 have fin : ∀ (y : Ex) (b : Bool),stepR x i q op = (y,b) → qaz (evL T) qds [(.agg [(ii x.r0),(ii x.r1),(.fsl ((x.procs).map Pr.r) false),(ii x.sum),(ii x.ev.time),(.fsl ((x.ev.key).map qb8) false),(ii x.ev.lp),(ii x.ev.kind),(ii x.ev.proc),(ii x.ev.arg),(.fsl ((x.out).map Evt.r) false),(.fsl ((x.gone).map qfy) false),(ii x.n),(bb x.over)]),(ii i),(.agg [(ii op.code),(ii op.a),(ii op.b),(ii op.c)])] = some (.tup [(.agg [(ii y.r0),(ii y.r1),(.fsl ((y.procs).map Pr.r) false),(ii y.sum),(ii y.ev.time),(.fsl ((y.ev.key).map qb8) false),(ii y.ev.lp),(ii y.ev.kind),(ii y.ev.proc),(ii y.ev.arg),(.fsl ((y.out).map Evt.r) false),(.fsl ((y.gone).map qfy) false),(ii y.n),(bb y.over)]),(bb b)]) → qaz (evL T) qds [(.agg [(ii x.r0),(ii x.r1),(.fsl ((x.procs).map Pr.r) false),(ii x.sum),(ii x.ev.time),(.fsl ((x.ev.key).map qb8) false),(ii x.ev.lp),(ii x.ev.kind),(ii x.ev.proc),(ii x.ev.arg),(.fsl ((x.out).map Evt.r) false),(.fsl ((x.gone).map qfy) false),(ii x.n),(bb x.over)]),(ii i),(.agg [(ii op.code),(ii op.a),(ii op.b),(ii op.c)])] = some (.tup [(.agg [(ii ((stepR x i q op).1.r0)),(ii ((stepR x i q op).1.r1)),(.fsl (((stepR x i q op).1.procs).map Pr.r) false),(ii ((stepR x i q op).1.sum)),(ii ((stepR x i q op).1.ev.time)),(.fsl (((stepR x i q op).1.ev.key).map qb8) false),(ii ((stepR x i q op).1.ev.lp)),(ii ((stepR x i q op).1.ev.kind)),(ii ((stepR x i q op).1.ev.proc)),(ii ((stepR x i q op).1.ev.arg)),(.fsl (((stepR x i q op).1.out).map Evt.r) false),(.fsl (((stepR x i q op).1.gone).map qfy) false),(ii ((stepR x i q op).1.n)),(bb ((stepR x i q op).1.over))]),(bb ((stepR x i q op).2))]):=by
  intro y b e k;rw [e];exact k
 rcases hc with hc | hc | hc | hc | hc | hc | hc | hc
 ·refine fin _ _ ?_ (qaam x i op q h hq hc)
  simp [stepR,qdz,hc,Ex.setP,Ex.create,Ex.ownE,Ex.kid,hi]
 ·refine fin _ _ ?_ (q93 x i op q h hq hc)
  simp [stepR,qdz,hc,Ex.setP,Ex.create,Ex.kid]
 ·refine fin _ _ ?_ (q74 x i op q h hg hq hc)
  by_cases ht : 0 < q.timer.length
  ·simp [stepR,qdz,hc,Ex.timerE,Ex.stopE,Ex.setP,Ex.create,Ex.ownE,Ex.kid,hi,ht,Pr.inc,List.set_set]
  ·simp [stepR,qdz,hc,Ex.timerE,Ex.stopE,Ex.setP,Ex.create,Ex.ownE,Ex.kid,hi,ht,Pr.inc,List.set_set]
 ·refine fin _ _ ?_ (qaaj x i op q h hg hq hc)
  by_cases ht : 0 < q.timer.length
  ·simp [stepR,qdz,hc,Ex.stopE,Ex.setP,ht,Pr.inc,List.set_set]
  ·simp [stepR,qdz,hc,Ex.stopE,Ex.setP,ht,Pr.inc]
 ·refine fin _ _ ?_ (q7u x i op q h hq hc)
  simp [stepR,qdz,hc]
 ·refine fin _ _ ?_ (qac7 x i op q h hq hc (ho.reg (.inl hc)))
  rcases ho.reg (.inl hc) with h0 | h0 <;> simp [stepR,qdz,hc,Ex.setP,Ex.setReg,Ex.reg,h0]
 ·refine fin _ _ ?_ (q99 x i op q h hq hc (ho.reg (.inr hc)))
  have hr : (x.setP i q.inc).reg op.a = x.reg op.a:=rfl
  by_cases ht : x.reg op.a < op.b
  ·have hr2 : (x.setP i q.inc).reg op.a < op.b:=ht
   have : (qdz (x.setP i q.inc) i q.inc op) = ((x.setP i q.inc).setP i { q.inc with pc:=op.c },0):=by simp only [qdz,hc];rw [if_pos hr2];rfl
   simp only [stepR,this,ht,if_true]
   simp [Ex.setP,List.set_set]
  ·have hr2 : ¬ (x.setP i q.inc).reg op.a < op.b:=ht
   have : (qdz (x.setP i q.inc) i q.inc op) = (x.setP i q.inc,0):=by simp only [qdz,hc];rw [if_neg hr2];rfl
   simp only [stepR,this,ht,if_false]
   simp
 ·refine fin _ _ ?_ (qab6 x i op q h hq hc)
  have : (x.setP i q.inc).procs[i]? = some q.inc:=by simp only [Ex.setP];rw [List.getElem?_set_self hl]
  have hst : (qdz (x.setP i q.inc) i q.inc op) = (x.setP i q.inc,2):=by simp [qdz,hc]
  simp only [stepR,hst,qne,this]
  simp [Ex.setP,List.set_set]
theorem q03 (p : List OpI) (i n : Nat) (x : Ex) (q : Pr) (hq : x.procs[i]? = some q) : qmb p i (n + 1) x = match p[q.pc.toNat]? with
  | none => qne x i
  | some op => if (stepR x i q op).2 = true then (stepR x i q op).1 else qmb p i n (stepR x i q op).1:=by
 simp only [qmb,hq]
 cases hp : p[q.pc.toNat]? with
 | none => rfl
 | some op =>
  show (if (qdz (x.setP i q.inc) i q.inc op).2 = 1 then (qdz (x.setP i q.inc) i q.inc op).1 else if (qdz (x.setP i q.inc) i q.inc op).2 = 2 then qne (qdz (x.setP i q.inc) i q.inc op).1 i else qmb p i n (qdz (x.setP i q.inc) i q.inc op).1) = (if (stepR x i q op).2 = true then (stepR x i q op).1 else qmb p i n (stepR x i q op).1)
  unfold stepR
  by_cases h1 : (qdz (x.setP i q.inc) i q.inc op).2 = 1
  ·simp only [h1,if_true]
  by_cases h2 : (qdz (x.setP i q.inc) i q.inc op).2 = 2
  ·rw [if_neg h1,if_pos h2,if_neg h1,if_pos h2];rfl
  ·simp only [h1,h2,if_false,zfa]
set_option maxRecDepth 10000
theorem qaan (x : Ex) (i : Nat) {q : Pr} (hq : x.procs[i]? = some q) : ∃ q',(qne x i).procs[i]? = some q' ∧ q'.prog = q.prog:=by
 have hl:=(List.getElem?_eq_some_iff.1 hq).1
 refine ⟨{ q with alive:=false },?_,rfl⟩
 unfold qne;rw [hq];simp only [Ex.setP];rw [List.getElem?_set_self hl]
theorem qaad (x : Ex) (i : Nat) (q : Pr) (op : OpI) (hq : x.procs[i]? = some q) : ∃ q',(qdz x i q op).1.procs[i]? = some q' ∧ q'.prog = q.prog:=by
 have hl:=(List.getElem?_eq_some_iff.1 hq).1
 have hst : ∃ q',(x.stopE i q).procs[i]? = some q' ∧ q'.prog = q.prog:=by
  unfold Ex.stopE;split
  ·exact ⟨{ q with timer:=[] },by simp only;rw [List.getElem?_set_self hl],rfl⟩
  ·exact ⟨q,hq,rfl⟩
 unfold qdz
 split
 ·exact ⟨q,hq,rfl⟩
 split
 ·exact ⟨q,hq,rfl⟩
 split
 ·obtain ⟨q',h1,_⟩:=hst
  have hl2:=(List.getElem?_eq_some_iff.1 h1).1
  exact ⟨{ q with timer:=(x.stopE i q).kid },by show ((x.stopE i q).procs.set i _)[i]? = _;rw [List.getElem?_set_self hl2],rfl⟩
 split
 ·exact hst
 split
 ·refine ⟨q,?_,rfl⟩
  unfold Ex.spawnE;split
  ·show (x.procs ++ [_])[i]? = _
   rw [List.getElem?_append_left hl];exact hq
  ·exact hq
 split
 ·refine ⟨q,?_,rfl⟩
  unfold Ex.setReg;split <;> exact hq
 split
 ·split
  ·exact ⟨{ q with pc:=op.c },by simp only [Ex.setP];rw [List.getElem?_set_self hl],rfl⟩
  ·exact ⟨q,hq,rfl⟩
 ·exact ⟨q,hq,rfl⟩
theorem q9h (x : Ex) (i : Nat) (q : Pr) (op : OpI) (hq : x.procs[i]? = some q) : ∃ q',(stepR x i q op).1.procs[i]? = some q' ∧ q'.prog = q.prog:=by
 have hl:=(List.getElem?_eq_some_iff.1 hq).1
 have h0 : (x.setP i q.inc).procs[i]? = some q.inc:=by simp only [Ex.setP];rw [List.getElem?_set_self hl]
 obtain ⟨q',h1,h2⟩:=qaad (x.setP i q.inc) i q.inc op h0
 unfold stepR
 split
 ·exact ⟨q',h1,h2⟩
 split
 ·obtain ⟨q2,h3,h4⟩:=qaan _ i h1
  exact ⟨q2,h3,h4.trans h2⟩
 ·exact ⟨q',h1,h2⟩
theorem ActInv.stepR {e : Evt} {i n : Nat} {x : Ex} (h : ActInv e i n x) {q : Pr} (hq : x.procs[i]? = some q) (hpc : 0 ≤ q.pc ∧ q.pc + 1 ≤ 1000000) {op : OpI} (ho : OpOk' op) : ActInv e i (n + 1) (stepR x i q op).1:=by
 have hlt:=(List.getElem?_eq_some_iff.1 hq).1
 have hwq : w64 (q.pc + 1) = q.pc + 1:=qas (by omega) (by omega)
 have hz : ActInv e i n (x.setP i q.inc):=by
  have:=h.pc hq (pc:=q.pc + 1) ⟨by omega,by omega⟩ q.alive
  unfold Pr.inc;rw [hwq];exact this
 have hzq : (x.setP i q.inc).procs[i]? = some q.inc:=by simp only [Ex.setP];rw [List.getElem?_set_self hlt]
 have hn:=hz.step hzq (show 0 ≤ q.inc.pc ∧ q.inc.pc ≤ 1000000 by unfold Pr.inc;simp only [hwq];omega) ho
 unfold K.stepR
 split
 ·exact hn
 split
 ·obtain ⟨q',h1,h2⟩:=hn.has
  have:=hn.pc h1 h2 false
  unfold qne;rw [h1];exact this
 ·exact hn
section
variable (c : Cfg) (e0 : Evt) (i : Nat) (p : List OpI) (pr : Int)
def RefEnd (e0 : Evt) (i : Nat) (F : Ex) (y : CExit × Env × qac) : Prop :=
 y.2.1.marks = [] ∧ ((y.1 = .ret ∧ Ev.look y.2.1.vars 6 = some (.ptr 1 0 0 0) ∧ ∃ q : Pr,y.2.2 = [.row 14 [[(ii F.r0),(ii F.r1),(.fsl ((F.procs).map Pr.r) false),(ii F.sum),(ii F.ev.time),(.fsl ((F.ev.key).map qb8) false),(ii F.ev.lp),(ii F.ev.kind),(ii F.ev.proc),(ii F.ev.arg),(.fsl ((F.out).map Evt.r) false),(.fsl ((F.gone).map qfy) false),(ii F.n),(bb F.over)]] 0,.row 14 [[(ii F.r0),(ii F.r1),(.fsl ((F.procs).map Pr.r) false),(ii F.sum),(ii F.ev.time),(.fsl ((F.ev.key).map qb8) false),(ii F.ev.lp),(ii F.ev.kind),(ii F.ev.proc),(ii F.ev.arg),(.fsl ((F.out).map Evt.r) false),(.fsl ((F.gone).map qfy) false),(ii F.n),(bb F.over)]] 0,.row 4 [q.r] 0,.row 14 [[(ii F.r0),(ii F.r1),(.fsl ((F.procs).map Pr.r) false),(ii F.sum),(ii F.ev.time),(.fsl ((F.ev.key).map qb8) false),(ii F.ev.lp),(ii F.ev.kind),(ii F.ev.proc),(ii F.ev.arg),(.fsl ((F.out).map Evt.r) false),(.fsl ((F.gone).map qfy) false),(ii F.n),(bb F.over)]] 0]) ∨
  (y.1 = .exit 0 ∧ ∃ z : Ex,ActInv e0 i 16 z ∧ qne z i = F ∧ Ev.look y.2.1.vars 4 = some (.ptr 0 0 0 0) ∧ Ev.look y.2.1.vars 6 = some (.ptr 1 0 0 0) ∧ Ev.look y.2.1.vars 2 = some (ii i) ∧
   (y.2.2 = [.row 14 [[(ii z.r0),(ii z.r1),(.fsl ((z.procs).map Pr.r) false),(ii z.sum),(ii z.ev.time),(.fsl ((z.ev.key).map qb8) false),(ii z.ev.lp),(ii z.ev.kind),(ii z.ev.proc),(ii z.ev.arg),(.fsl ((z.out).map Evt.r) false),(.fsl ((z.gone).map qfy) false),(ii z.n),(bb z.over)]] 0,.row 14 [[(ii 0),(ii 0),.fsl [] false,(ii 0),(ii 0),.fsl [] false,(ii 0),(ii 0),(ii 0),(ii 0),.fsl [] false,.fsl [] false,(ii 0),(bb false)]] 0] ∨ ∃ q : Pr,y.2.2 = [.row 14 [[(ii z.r0),(ii z.r1),(.fsl ((z.procs).map Pr.r) false),(ii z.sum),(ii z.ev.time),(.fsl ((z.ev.key).map qb8) false),(ii z.ev.lp),(ii z.ev.kind),(ii z.ev.proc),(ii z.ev.arg),(.fsl ((z.out).map Evt.r) false),(.fsl ((z.gone).map qfy) false),(ii z.n),(bb z.over)]] 0,.row 14 [[(ii 0),(ii 0),.fsl [] false,(ii 0),(ii 0),.fsl [] false,(ii 0),(ii 0),(ii 0),(ii 0),.fsl [] false,.fsl [] false,(ii 0),(bb false)]] 0,.row 4 [q.r] 0])))
theorem qaa5 (hk : e0.key.length ≤ 100000) (hpr : e0.proc = i) (hpl : p.length ≤ 1000) (hok : ∀ op ∈ p,OpOk' op) (h0 : 0 ≤ pr) (hp : c.progs[pr.toNat]? = some p) (x : Ex) (hx : ActInv e0 i 0 x) (hxp : ∃ q,x.procs[i]? = some q ∧ q.prog = pr) :
  ∃ y,itB (exec (evL T) itL none qe0) (qq [2,3,4,6,7] true 2) ⟨[(2,(ii i)),(3,(.fptr [(.fsl ((c.lps).map lpC) false),(.fsl ((c.progs).map qcs) false),(ii c.look),(ii c.fin),(ii c.cap)])),(4,.ptr 0 0 0 0),(6,.ptr 1 0 0 0),(7,(ii 0))],[]⟩ [.row 14 [[(ii x.r0),(ii x.r1),(.fsl ((x.procs).map Pr.r) false),(ii x.sum),(ii x.ev.time),(.fsl ((x.ev.key).map qb8) false),(ii x.ev.lp),(ii x.ev.kind),(ii x.ev.proc),(ii x.ev.arg),(.fsl ((x.out).map Evt.r) false),(.fsl ((x.gone).map qfy) false),(ii x.n),(bb x.over)]] 0,.row 14 [[(ii 0),(ii 0),.fsl [] false,(ii 0),(ii 0),.fsl [] false,(ii 0),(ii 0),(ii 0),(ii 0),.fsl [] false,.fsl [] false,(ii 0),(bb false)]] 0] = some y ∧ RefEnd e0 i (qmb p i 16 x) y:=by
 have:=qen (f:=exec (evL T) itL none qe0) (s:=qq [2,3,4,6,7] true 2) (α:=Ex) (fun j _ => ⟨[(2,(ii i)),(3,(.fptr [(.fsl ((c.lps).map lpC) false),(.fsl ((c.progs).map qcs) false),(ii c.look),(ii c.fin),(ii c.cap)])),(4,.ptr 0 0 0 0),(6,.ptr 1 0 0 0),(7,(ii ((j : Int))))],[]⟩) (fun _ a => [.row 14 [[(ii a.r0),(ii a.r1),(.fsl ((a.procs).map Pr.r) false),(ii a.sum),(ii a.ev.time),(.fsl ((a.ev.key).map qb8) false),(ii a.ev.lp),(ii a.ev.kind),(ii a.ev.proc),(ii a.ev.arg),(.fsl ((a.out).map Evt.r) false),(.fsl ((a.gone).map qfy) false),(ii a.n),(bb a.over)]] 0,.row 14 [[(ii 0),(ii 0),.fsl [] false,(ii 0),(ii 0),.fsl [] false,(ii 0),(ii 0),(ii 0),(ii 0),.fsl [] false,.fsl [] false,(ii 0),(bb false)]] 0])
  (fun j a => ActInv e0 i j a ∧ (∃ q,a.procs[i]? = some q ∧ q.prog = pr) ∧ qmb p i (16 - j) a = qmb p i 16 x) 16 (RefEnd e0 i (qmb p i 16 x)) ?_ ?_ 0 x (Nat.zero_le _) ⟨hx,hxp,rfl⟩
 ·exact this
 ·rintro j y hj ⟨hi1,⟨q,hq,hqp⟩,hi2⟩
  have hpc : 0 ≤ q.pc ∧ q.pc ≤ 1000000:=by obtain ⟨q',h1,h2⟩:=hi1.has;rw [hq] at h1;cases h1;exact h2
  have hlt:=(List.getElem?_eq_some_iff.1 hq).1
  have hpr' : y.ev.proc = i:=by rw [hi1.ev];exact hpr
  have hj' : (j : Int) < 16:=by omega
  have hw : IntKind.i64.wrap ((j : Int) + 1) = ((j + 1 : Nat) : Int):=by rw [qas (by omega) (by omega)];simp
  rw [show 16 - j = (16 - (j + 1)) + 1 from by omega,q03 p i _ y q hq] at hi2
  cases hop : p[q.pc.toNat]? with
  | none =>
   rw [hop] at hi2
   simp only at hi2
   have hge : q.pc ≥ (p.length : Int):=by have:=List.getElem?_eq_none_iff.1 hop;omega
   right
   simp only [qe0,hj',hge,zgs,zgr,zgq,zgt,hq,hqp,h0,hp,Pr.r,qcs,Ev.exec,qb,qe,qc,qaj,Ev.Opnd.ev,Ev.Env.get,Ev.Env.set,Ev.look,qh,qad,Ev.AV.cells,qx,Ev.AV.plain,ql,qcd,zgi,↓qs,Ev.it1,↓reduceIte,zga,zgb,zgd,zge,zgc,zgo,zfe,zgf,zgg,List.drop_nil,zgm,zgl,zgn,zgj,zgk,zgh,Nat.reduceAdd,Nat.reduceEqDiff,reduceCtorEq,zgv,zfc,zfa,zgx,ne_eq,zfb,zff,zfd,Nat.add_zero,Nat.le_refl,zgy]
   exact ⟨_,rfl,rfl,.inr ⟨rfl,y,⟨hi1.ev,hi1.has,hi1.procs,by have:=hi1.out;omega,by have:=hi1.gone;omega⟩,hi2,rfl,rfl,rfl,.inr ⟨⟨pr,q.pc,q.alive,q.timer⟩,rfl⟩⟩⟩
  | some op =>
   rw [hop] at hi2
   simp only at hi2
   have hlp:=(List.getElem?_eq_some_iff.1 hop).1
   have hge : ¬ q.pc ≥ (p.length : Int):=by omega
   have hoo:=hok op (List.mem_of_getElem? hop)
   have hv:=rstep_ev y i op q (hi1.small (by omega) hk) (by have:=hi1.gone;omega) hpr' hq hoo
   have hn:=hi1.stepR hq ⟨by omega,by omega⟩ hoo
   have hnp:=q9h y i q op hq
   rw [hqp] at hnp
   generalize stepR y i q op = S at hi2 hn hv hnp
   obtain ⟨z,b⟩:=S
   simp only at hi2 hn hv hnp
   cases b with
   | true =>
    right
    simp only [if_true] at hi2
    simp only [qe0,hj',hge,hv,zgs,zgr,zgq,zgt,hq,hqp,h0,hp,hpc,hop,Pr.r,OpI.r,qcs,qah,qap,qv,qbv,Ev.exec,qb,qe,qc,qa0,qaj,Ev.evs,Ev.Opnd.ev,Ev.Env.get,Ev.Env.set,Ev.look,qh,qad,Ev.AV.cells,qx,Ev.AV.plain,ql,qcd,qax,qbe,qu,qg,qf,zgi,↓qs,Ev.it1,↓reduceIte,zga,zgb,zgd,zge,zgc,zgo,zfe,zgf,zgg,List.drop_nil,zgm,zgl,zgn,zgj,zgk,zgh,Nat.reduceAdd,Nat.reduceEqDiff,zgv,zgw,zfc,zfa,zgx,ne_eq,zfb,zff,zfd,Nat.add_zero,Nat.le_refl,zgy]
    exact ⟨_,rfl,rfl,.inl ⟨rfl,rfl,⟨pr,q.pc,q.alive,q.timer⟩,by rw [← hi2];rfl⟩⟩
   | false =>
    left
    simp only [zfa,if_false] at hi2
    refine ⟨z,?_,hn,hnp,hi2⟩
    simp only [qe0,hj',hge,hv,hw,zgs,zgr,zgq,zgt,hq,hqp,h0,hp,hpc,hop,Pr.r,OpI.r,qcs,qbd,qc0,qah,qap,qv,qbv,Nat.reduceLT,Ev.exec,qb,qe,qc,qa0,qaj,Ev.evs,Ev.Opnd.ev,Ev.Env.get,Ev.Env.set,Ev.look,qh,qad,Ev.AV.cells,qx,Ev.AV.plain,qaf,ql,qcd,qq,Ev.keep,qae,qw,qd,Ev.SObj.lo,qax,qbe,qu,qbt,qez,qg,qf,qaa,qag,zgi,↓qs,Ev.it1,↓reduceIte,zga,zgb,zgd,zge,zgc,zgo,zfe,zgf,zgg,List.drop_nil,zgm,zgl,zgn,zgj,zgk,zgh,Nat.reduceAdd,Nat.reduceEqDiff,Nat.reduceLT,zgv,zgw,zfc,zfa,zgx,ne_eq,zfb,zff,zfd,Nat.add_zero,zgu,Nat.le_refl,zgy]
 ·rintro y ⟨hi1,_,hi2⟩
  simp only [qe0,Int.lt_irrefl,Ev.exec,qb,qe,qc,qaj,Ev.Opnd.ev,Ev.Env.get,Ev.Env.set,Ev.look,ql,↓qs,Ev.it1,↓reduceIte,Nat.reduceEqDiff,Int.cast_ofNat_Int,zgw,zfa,zgy]
  exact ⟨_,rfl,rfl,.inr ⟨rfl,y,hi1,hi2,rfl,rfl,rfl,.inl rfl⟩⟩
theorem qwj (hk : e0.key.length ≤ 100000) (hpr : e0.proc = i) (hpl : p.length ≤ 1000) (hok : ∀ op ∈ p,OpOk' op) (h0 : 0 ≤ pr) (hp : c.progs[pr.toNat]? = some p) (x : Ex) (hx : ActInv e0 i 0 x) (hxp : ∃ q,x.procs[i]? = some q ∧ q.prog = pr) :
  qaz (evL T) qgr [(.agg [(.fsl ((c.lps).map lpC) false),(.fsl ((c.progs).map qcs) false),(ii c.look),(ii c.fin),(ii c.cap)]),(.agg [(ii x.r0),(ii x.r1),(.fsl ((x.procs).map Pr.r) false),(ii x.sum),(ii x.ev.time),(.fsl ((x.ev.key).map qb8) false),(ii x.ev.lp),(ii x.ev.kind),(ii x.ev.proc),(ii x.ev.arg),(.fsl ((x.out).map Evt.r) false),(.fsl ((x.gone).map qfy) false),(ii x.n),(bb x.over)]),(ii i)] = some (.agg [(ii ((qmb p i 16 x).r0)),(ii ((qmb p i 16 x).r1)),(.fsl (((qmb p i 16 x).procs).map Pr.r) false),(ii ((qmb p i 16 x).sum)),(ii ((qmb p i 16 x).ev.time)),(.fsl (((qmb p i 16 x).ev.key).map qb8) false),(ii ((qmb p i 16 x).ev.lp)),(ii ((qmb p i 16 x).ev.kind)),(ii ((qmb p i 16 x).ev.proc)),(ii ((qmb p i 16 x).ev.arg)),(.fsl (((qmb p i 16 x).out).map Evt.r) false),(.fsl (((qmb p i 16 x).gone).map qfy) false),(ii ((qmb p i 16 x).n)),(bb ((qmb p i 16 x).over))]):=by
 obtain ⟨⟨y,e,σ⟩,k1,k2,k3⟩:=qaa5 c e0 i p pr hk hpr hpl hok h0 hp x hx hxp
 simp only at k2 k3
 generalize qmb p i 16 x = F at k3
 rw [qaz,qy qv5 qub]
 rcases k3 with ⟨rfl,k4,q,rfl⟩ | ⟨rfl,z,kz,k4,k5,k6,k7,k8⟩
 ·simp only [qho,k1,k2,k4,qbd,qc0,qah,qap,qv,qbv,Nat.reduceLT,qn,Ev.exec,qb,qe,qc,qaj,Ev.Opnd.ev,Ev.Env.get,Ev.Env.set,Ev.look,qo,qh,qad,Ev.AV.cells,qx,Ev.AV.plain,qm,qab,qak,Ev.kill,qai,qq,Ev.keep,qae,qw,qd,Ev.SObj.lo,qax,qbe,qu,qbt,qez,qg,qf,qaa,qag,qal,↓qs,↓qan,↓reduceIte,zga,zgb,zgd,zge,zgc,zgo,zfe,zgg,zgm,zgl,Nat.reduceAdd,Nat.reduceEqDiff,Nat.reduceLT,reduceCtorEq,zgv,zfc,zgx,ne_eq,zfb,zff,zfd,zgu,Nat.le_refl,zgy]
 ·obtain ⟨q,hq,hpc⟩:=kz.has
  have hlt:=(List.getElem?_eq_some_iff.1 hq).1
  have hv:=qep z (by have:=kz.procs;omega) i hlt { q with alive:=false }
  have hkz : qne z i = z.setP i { q with alive:=false }:=by unfold qne;rw [hq]
  rw [hkz] at k4
  subst k4
  simp only at hv
  rcases k8 with rfl | ⟨q2,rfl⟩
  ·simp only [qho,k1,k2,k5,k6,k7,hq,hv,Pr.r,zgs,zgr,zgq,zgt,qbd,qc0,qah,qap,qv,qbv,Nat.reduceLT,Nat.reduceLeDiff,qn,Ev.exec,qb,qe,qc,qa0,qaj,Ev.evs,Ev.Opnd.ev,Ev.Env.get,Ev.Env.set,Ev.look,qo,qh,qad,Ev.AV.cells,Ev.AV.uc,qx,Ev.AV.plain,qm,qab,qak,Ev.kill,qai,qq,Ev.keep,qae,qw,qd,Ev.SObj.lo,qax,qbe,qu,qbt,qez,qg,qf,qaa,qag,qal,↓qs,↓qan,↓reduceIte,zga,zgb,zgd,zge,zgc,zgo,zfe,zgf,zgg,List.drop_nil,zgm,zgl,zgn,zgj,zgk,zgh,Nat.reduceAdd,Nat.reduceEqDiff,Nat.reduceLT,Nat.reduceLeDiff,reduceCtorEq,zgv,zfc,zfa,zgx,ne_eq,zfb,zff,zfd,Nat.add_zero,zgu,Nat.le_refl,zgy]
  ·simp only [qho,k1,k2,k5,k6,k7,hq,hv,Pr.r,zgs,zgr,zgq,zgt,qbd,qc0,qah,qap,qv,qbv,Nat.reduceLT,Nat.reduceLeDiff,qn,Ev.exec,qb,qe,qc,qa0,qaj,Ev.evs,Ev.Opnd.ev,Ev.Env.get,Ev.Env.set,Ev.look,qo,qh,qad,Ev.AV.cells,Ev.AV.uc,qx,Ev.AV.plain,qm,qab,qak,Ev.kill,qai,qq,Ev.keep,qae,qw,qd,Ev.SObj.lo,qax,qbe,qu,qbt,qez,qg,qf,qaa,qag,qal,↓qs,↓qan,↓reduceIte,zga,zgb,zgd,zge,zgc,zgo,zfe,zgf,zgg,List.drop_nil,zgm,zgl,zgn,zgj,zgk,zgh,Nat.reduceAdd,Nat.reduceEqDiff,Nat.reduceLT,Nat.reduceLeDiff,reduceCtorEq,zgv,zfc,zfa,zgx,ne_eq,zfb,zff,zfd,Nat.add_zero,zgu,Nat.le_refl,zgy]
end
set_option maxRecDepth 10000
section
variable (c : Cfg) (x : Lp) (e : Evt)
theorem qabj (hk : e.kind = 3) : qaz (evL T) qfv [(.agg [(.fsl ((c.lps).map lpC) false),(.fsl ((c.progs).map qcs) false),(ii c.look),(ii c.fin),(ii c.cap)]),(.agg [(ii x.r0),(ii x.r1),(.fsl ((x.procs).map Pr.r) false),(ii x.sum)]),(.agg [(ii e.time),(.fsl ((e.key).map qb8) false),(ii e.lp),(ii e.kind),(ii e.proc),(ii e.arg)])] = some (.tup [(.agg [(ii ((⟨x.r0,x.r1,x.procs,w64 (x.sum + e.arg)⟩ : Lp).r0)),(ii ((⟨x.r0,x.r1,x.procs,w64 (x.sum + e.arg)⟩ : Lp).r1)),(.fsl (((⟨x.r0,x.r1,x.procs,w64 (x.sum + e.arg)⟩ : Lp).procs).map Pr.r) false),(ii ((⟨x.r0,x.r1,x.procs,w64 (x.sum + e.arg)⟩ : Lp).sum))]),.fsl [] true,.fsl [] true,(bb false)]):=by
 rw [qaz,qy qm6 qmd]
 simp only [qck,hk,qap,Nat.reduceLeDiff,qn,Ev.exec,qb,qe,qc,qaj,Ev.Opnd.ev,Ev.Env.get,Ev.Env.set,Ev.look,qo,qh,qad,qgp,Ev.AV.cells,Ev.AV.uc,qx,Ev.AV.plain,qaf,qam,qm,qab,qak,Ev.kill,qai,qd,qax,qbe,qa3,qu,qg,qf,qaa,qal,↓qs,↓reduceIte,zga,zgb,zgd,zge,zgc,zgo,zfe,zgf,zgg,List.drop_nil,zgm,zgl,zgn,zgj,zgk,zgh,Nat.reduceAdd,Nat.reduceEqDiff,Nat.reduceLeDiff,reduceCtorEq,zgv,zfc,zfa,zgx,ne_eq,zfb,zff,zfd,Nat.add_zero,Nat.le_refl,zgy]
theorem qaab (hk : ¬ e.kind = 3) (ha : qnl x e = none) : qaz (evL T) qfv [(.agg [(.fsl ((c.lps).map lpC) false),(.fsl ((c.progs).map qcs) false),(ii c.look),(ii c.fin),(ii c.cap)]),(.agg [(ii x.r0),(ii x.r1),(.fsl ((x.procs).map Pr.r) false),(ii x.sum)]),(.agg [(ii e.time),(.fsl ((e.key).map qb8) false),(ii e.lp),(ii e.kind),(ii e.proc),(ii e.arg)])] = some (.tup [(.agg [(ii x.r0),(ii x.r1),(.fsl ((x.procs).map Pr.r) false),(ii x.sum)]),.fsl [] true,.fsl [] true,(bb false)]):=by
 rw [qaz,qy qm6 qmd]
 by_cases k1 : e.kind = 1
 case neg =>
  by_cases k2 : e.kind = 2
  case neg => simp only [qck,hk,k1,k2,qap,Nat.reduceLeDiff,qn,Ev.exec,qb,qe,qc,qaj,Ev.Opnd.ev,Ev.Env.get,Ev.Env.set,Ev.Env.unset,Ev.look,qo,qh,qad,qgp,Ev.AV.cells,qx,Ev.AV.plain,qam,qbn,qm,qab,qak,Ev.kill,qai,qd,qax,qbe,qa3,qu,qg,qf,qaa,qal,↓qs,↓reduceIte,zga,zgb,zgd,zge,zgc,zgo,zfe,zgf,zgg,List.drop_nil,zgm,zgl,zgn,zgj,zgk,zgh,Nat.reduceAdd,Nat.reduceEqDiff,Nat.reduceLeDiff,reduceCtorEq,zgv,zgw,zfc,zfa,Bool.true_eq_false,zgx,ne_eq,zfb,zff,zfd,Nat.le_refl,zgy]
  by_cases h1 : e.proc < 0
  ·simp only [qck,k2,h1,qap,Nat.reduceLeDiff,qn,Ev.exec,qb,qe,qc,qaj,Ev.Opnd.ev,Ev.Env.get,Ev.Env.set,Ev.Env.unset,Ev.look,qo,qh,qad,qgp,Ev.AV.cells,qx,Ev.AV.plain,qam,qbn,ql,qm,qab,qak,Ev.kill,qai,qd,qax,qbe,qa3,qu,qg,qf,qaa,qal,↓qs,↓reduceIte,zga,zgb,zgd,zge,zgc,zgo,zfe,zgf,zgg,List.drop_nil,zgm,zgl,zgn,zgj,zgk,zgh,Nat.reduceAdd,Nat.reduceEqDiff,Nat.reduceLeDiff,Int.reduceEq,reduceCtorEq,zgv,zgw,zfc,zfa,Bool.true_eq_false,zgx,ne_eq,zfb,not_true_eq_false,zff,zfd,Nat.le_refl,zgy]
  by_cases h2 : e.proc ≥ (x.procs.length : Int)
  ·simp only [qck,k2,h1,h2,qap,Nat.reduceLeDiff,qn,Ev.exec,qb,qe,qc,qaj,Ev.Opnd.ev,Ev.Env.get,Ev.Env.set,Ev.Env.unset,Ev.look,qo,qh,qad,qgp,Ev.AV.cells,qx,Ev.AV.plain,qam,qbn,ql,qcd,qm,qab,qak,Ev.kill,qai,qd,qax,qbe,qa3,qu,qg,qf,qaa,qal,zgi,↓qs,↓reduceIte,zga,zgb,zgd,zge,zgc,zgo,zfe,zgf,zgg,List.drop_nil,zgm,zgl,zgn,zgj,zgk,zgh,Nat.reduceAdd,Nat.reduceEqDiff,Nat.reduceLeDiff,Int.reduceEq,reduceCtorEq,zgv,zgw,zfc,zfa,Bool.true_eq_false,zgx,ne_eq,zfb,not_true_eq_false,zff,zfd,Nat.le_refl,zgy]
  obtain ⟨q,hq⟩ : ∃ q,x.procs[e.proc.toNat]? = some q:=⟨_,List.getElem?_eq_getElem (by omega)⟩
  have h0 : 0 ≤ e.proc:=by omega
  have hal : q.alive = false:=by
   unfold qnl at ha
   rw [if_pos ⟨.inr k2,h0⟩,hq] at ha
   cases h : q.alive with
   | false => rfl
   | true => simp [h] at ha
  simp only [qck,k2,h0,h1,h2,hq,hal,zgq,zgt,Pr.r,qap,Nat.reduceLeDiff,qn,Ev.exec,qb,qe,qc,qaj,Ev.Opnd.ev,Ev.Env.get,Ev.Env.set,Ev.look,qo,qh,qad,qgp,Ev.AV.cells,qx,Ev.AV.plain,qam,qbn,ql,qcd,qm,qab,qak,Ev.kill,qai,qd,qax,qbe,qa3,qu,qg,qf,qaa,qal,zgi,↓qs,↓reduceIte,zga,zgb,zgd,zge,zgc,zgo,zfe,zgf,zgg,List.drop_nil,zgm,zgl,zgn,zgj,zgk,zgh,Nat.reduceAdd,Nat.reduceEqDiff,Nat.reduceLeDiff,Int.reduceEq,reduceCtorEq,zgv,zgw,zfc,Bool.not_false,zfa,zgx,ne_eq,zfb,not_true_eq_false,zff,zfd,Nat.le_refl,zgy]
 by_cases h1 : e.proc < 0
 ·simp only [qck,k1,h1,qap,Nat.reduceLeDiff,qn,Ev.exec,qb,qe,qc,qaj,Ev.Opnd.ev,Ev.Env.get,Ev.Env.set,Ev.Env.unset,Ev.look,qo,qh,qad,qgp,Ev.AV.cells,qx,Ev.AV.plain,qam,qbn,ql,qm,qab,qak,Ev.kill,qai,qd,qax,qbe,qa3,qu,qg,qf,qaa,qal,↓qs,↓reduceIte,zga,zgb,zgd,zge,zgc,zgo,zfe,zgf,zgg,List.drop_nil,zgm,zgl,zgn,zgj,zgk,zgh,Nat.reduceAdd,Nat.reduceEqDiff,Nat.reduceLeDiff,Int.reduceEq,reduceCtorEq,zgv,zgw,zfc,zfa,Bool.true_eq_false,zgx,ne_eq,zfb,not_true_eq_false,zff,zfd,Nat.le_refl,zgy]
 by_cases h2 : e.proc ≥ (x.procs.length : Int)
 ·simp only [qck,k1,h1,h2,qap,Nat.reduceLeDiff,qn,Ev.exec,qb,qe,qc,qaj,Ev.Opnd.ev,Ev.Env.get,Ev.Env.set,Ev.Env.unset,Ev.look,qo,qh,qad,qgp,Ev.AV.cells,qx,Ev.AV.plain,qam,qbn,ql,qcd,qm,qab,qak,Ev.kill,qai,qd,qax,qbe,qa3,qu,qg,qf,qaa,qal,zgi,↓qs,↓reduceIte,zga,zgb,zgd,zge,zgc,zgo,zfe,zgf,zgg,List.drop_nil,zgm,zgl,zgn,zgj,zgk,zgh,Nat.reduceAdd,Nat.reduceEqDiff,Nat.reduceLeDiff,Int.reduceEq,reduceCtorEq,zgv,zgw,zfc,zfa,Bool.true_eq_false,zgx,ne_eq,zfb,not_true_eq_false,zff,zfd,Nat.le_refl,zgy]
 obtain ⟨q,hq⟩ : ∃ q,x.procs[e.proc.toNat]? = some q:=⟨_,List.getElem?_eq_getElem (by omega)⟩
 have h0 : 0 ≤ e.proc:=by omega
 have hal : q.alive = false:=by
  unfold qnl at ha
  rw [if_pos ⟨.inl k1,h0⟩,hq] at ha
  cases h : q.alive with
  | false => rfl
  | true => simp [h] at ha
 simp only [qck,k1,h0,h1,h2,hq,hal,zgq,zgt,Pr.r,qap,Nat.reduceLeDiff,qn,Ev.exec,qb,qe,qc,qaj,Ev.Opnd.ev,Ev.Env.get,Ev.Env.set,Ev.Env.unset,Ev.look,qo,qh,qad,qgp,Ev.AV.cells,qx,Ev.AV.plain,qam,qbn,ql,qcd,qm,qab,qak,Ev.kill,qai,qd,qax,qbe,qa3,qu,qg,qf,qaa,qal,zgi,↓qs,↓reduceIte,zga,zgb,zgd,zge,zgc,zgo,zfe,zgf,zgg,List.drop_nil,zgm,zgl,zgn,zgj,zgk,zgh,Nat.reduceAdd,Nat.reduceEqDiff,Nat.reduceLeDiff,Int.reduceEq,reduceCtorEq,zgw,zfc,Bool.not_false,zfa,zgx,ne_eq,zfb,not_true_eq_false,zff,zfd,Nat.le_refl,zgy]
theorem qabh (h : qvl c x e) {q : Pr} (ha : qnl x e = some q) :
  qaz (evL T) qfv [(.agg [(.fsl ((c.lps).map lpC) false),(.fsl ((c.progs).map qcs) false),(ii c.look),(ii c.fin),(ii c.cap)]),(.agg [(ii x.r0),(ii x.r1),(.fsl ((x.procs).map Pr.r) false),(ii x.sum)]),(.agg [(ii e.time),(.fsl ((e.key).map qb8) false),(ii e.lp),(ii e.kind),(ii e.proc),(ii e.arg)])] = some (.tup [(.agg [(ii ((q5o (qro c x e q)).r0)),(ii ((q5o (qro c x e q)).r1)),(.fsl (((q5o (qro c x e q)).procs).map Pr.r) false),(ii ((q5o (qro c x e q)).sum))]),(.fsl (((qro c x e q).out).map Evt.r) false),(.fsl (((qro c x e q).gone).map qfy) false),(bb ((qro c x e q).over))]):=by
 unfold qnl at ha
 split at ha
 case isFalse => cases ha
 rename_i hc
 obtain ⟨hkind,h0⟩:=hc
 obtain ⟨i,hi⟩ : ∃ i : Nat,e.proc = i:=⟨_,(Int.toNat_of_nonneg h0).symm⟩
 have hin : e.proc.toNat = i:=by omega
 rw [hin,Option.bind_eq_some_iff] at ha
 obtain ⟨q',hq,ha⟩:=ha
 split at ha
 case isFalse => cases ha
 rename_i hal
 cases ha
 have hlt:=(List.getElem?_eq_some_iff.1 hq).1
 obtain ⟨p1,p2,p3,p4,p5⟩:=h.proc q (List.mem_of_getElem? hq)
 obtain ⟨p,hp⟩ : ∃ p,c.progs[q.prog.toNat]? = some p:=⟨_,List.getElem?_eq_getElem (by omega)⟩
 obtain ⟨pl,pok⟩:=h.prog p (List.mem_of_getElem? hp)
 have hinv:=q0y c x e h hi hq
 have hxp : ∃ q',((qda x e).setP i (qj1 e q)).procs[i]? = some q' ∧ q'.prog = q.prog:=⟨qj1 e q,by simp only [Ex.setP,qda];rw [List.getElem?_set_self hlt],qzz e q⟩
 have hact:=qwj c e i p q.prog h.key hi pl pok p1 hp ((qda x e).setP i (qj1 e q)) hinv hxp
 have hrun : qro c x e q = qmb p i 16 ((qda x e).setP i (qj1 e q)):=by unfold qro;rw [hin,hp];rfl
 rw [hrun]
 generalize qmb p i 16 ((qda x e).setP i (qj1 e q)) = F at hact
 have h1 : ¬ e.proc < 0:=by omega
 have h2 : ¬ e.proc ≥ (x.procs.length : Int):=by omega
 have h3 : ¬ e.kind = 3:=by omega
 rw [hi] at h0 h1 h2
 rw [qaz,qy qm6 qmd]
 rcases hkind with k1 | k2
 ·have hwk : qj1 e q = q:=by unfold qj1;rw [if_neg (by omega)]
  have hss : x.procs.set i q = x.procs:=by
   obtain ⟨hlt',hge⟩:=List.getElem?_eq_some_iff.1 hq
   rw [← hge,List.set_getElem_self]
  have k3 : ¬ (1 : Int) = 3:=by decide
  have k4 : ¬ (1 : Int) = 2:=by decide
  rw [hwk] at hact
  simp only [qda,Ex.setP,hss,List.map_nil,hi,k1] at hact
  simp only [qck,k1,k3,k4,h0,h1,h2,hi,hq,hal,hact,q5o,zgr,zgq,zgt,Pr.r,qc0,qbd,qah,qap,qv,qbv,Nat.reduceLeDiff,qn,Ev.exec,qb,qe,qc,qa0,qaj,Ev.evs,Ev.Opnd.ev,Ev.Env.get,Ev.Env.set,Ev.Env.unset,Ev.look,qo,qh,qad,qgp,Ev.AV.cells,qx,Ev.AV.plain,qam,qbn,ql,qcd,qm,qab,qak,Ev.kill,qai,qd,qax,qbe,qa3,qu,qnu,Ev.AV.obj?,qg,qf,qaa,qal,zgi,↓qs,↓reduceIte,zga,zgb,zgd,zge,zgc,zgo,zfe,zgf,zgg,List.drop_nil,zgm,zgl,zgn,zgj,zgk,zgh,Nat.reduceAdd,Nat.reduceEqDiff,Nat.reduceBEq,Nat.reduceLeDiff,reduceCtorEq,zgw,zfc,Bool.not_true,Bool.not_false,zfa,zgx,ne_eq,zfb,not_true_eq_false,zff,zfd,Nat.add_zero,Nat.le_refl,zgy]
  done
 ·have k1 : ¬ (2 : Int) = 1:=by decide
  have k3 : ¬ (2 : Int) = 3:=by decide
  have hkl:=h.key
  have hwk : qj1 e q = { q with pc:=e.arg,timer:=if q.timer = e.key then [] else q.timer }:=by unfold qj1;rw [if_pos k2]
  obtain ⟨qp,qpc,qa,qt⟩:=q
  dsimp only at *
  subst hal
  have heq:=qoe qt e.key false false (by omega) (by omega)
  rw [hwk] at hact
  have hpt : ∀ q0 : Pr,qaz (evL T) qe1 [(.agg [(ii ((qda x e).r0)),(ii ((qda x e).r1)),(.fsl (((qda x e).procs).map Pr.r) false),(ii ((qda x e).sum)),(ii ((qda x e).ev.time)),(.fsl (((qda x e).ev.key).map qb8) false),(ii ((qda x e).ev.lp)),(ii ((qda x e).ev.kind)),(ii ((qda x e).ev.proc)),(ii ((qda x e).ev.arg)),(.fsl (((qda x e).out).map Evt.r) false),(.fsl (((qda x e).gone).map qfy) false),(ii ((qda x e).n)),(bb ((qda x e).over))]),(ii i),(.agg [(ii q0.prog),(ii q0.pc),(bb q0.alive),(.fsl ((q0.timer).map qb8) false)])] = some (.agg [(ii (((qda x e).setP i q0).r0)),(ii (((qda x e).setP i q0).r1)),(.fsl ((((qda x e).setP i q0).procs).map Pr.r) false),(ii (((qda x e).setP i q0).sum)),(ii (((qda x e).setP i q0).ev.time)),(.fsl ((((qda x e).setP i q0).ev.key).map qb8) false),(ii (((qda x e).setP i q0).ev.lp)),(ii (((qda x e).setP i q0).ev.kind)),(ii (((qda x e).setP i q0).ev.proc)),(ii (((qda x e).setP i q0).ev.arg)),(.fsl ((((qda x e).setP i q0).out).map Evt.r) false),(.fsl ((((qda x e).setP i q0).gone).map qfy) false),(ii (((qda x e).setP i q0).n)),(bb (((qda x e).setP i q0).over))]):=fun q0 => qep (qda x e) (by show x.procs.length ≤ 1000;have:=h.procs;omega) i hlt q0
  by_cases ht : qt = e.key
  ·have hp2:=hpt ⟨qp,e.arg,true,[]⟩
   simp only [ht,if_true] at hact
   simp only [ht,zgv] at heq
   simp only [qda,Ex.setP,List.map_nil,hi,k2] at hact hp2
   by_cases hz : e.key = []
   ·have z0 : ¬ (0 : Int) > 0:=by decide
    have hl0 : (([] : List Int).length : Int) = 0:=rfl
    rw [hz] at ht
    simp only [hz,List.map_nil] at hact hp2
    simp only [qck,k1,k2,k3,h0,h1,h2,hi,hq,hz,z0,hp2,ht,hact,List.map_nil,zgb,q5o,zgr,zgq,zgt,Pr.r,qc0,qbd,qap,qv,qbv,Nat.reduceLeDiff,qn,Ev.exec,qb,qe,qc,qa0,qaj,Ev.evs,Ev.Opnd.ev,Ev.Env.get,Ev.Env.set,Ev.Env.unset,Ev.look,qo,qh,qad,qgp,Ev.AV.cells,Ev.AV.uc,qx,Ev.AV.plain,qam,qbn,ql,qau,qcd,qm,qab,qak,Ev.kill,qai,qd,qax,qbe,qa3,qu,qnu,Ev.AV.obj?,qg,qf,qaa,qal,zgi,↓qs,↓reduceIte,zga,zgb,zgd,zge,zgc,zgo,zfe,zgf,zgg,List.drop_nil,zgm,zgl,zgn,zgj,zgk,zgh,Nat.reduceAdd,Nat.reduceEqDiff,Nat.reduceBEq,Nat.reduceLeDiff,Int.cast_ofNat_Int,reduceCtorEq,zgv,zgw,zfc,Bool.not_true,Bool.not_false,zfa,zgx,ne_eq,zfb,not_true_eq_false,zff,zfd,Nat.add_zero,Nat.le_refl,zgy]
    done
   ·have hz' : (e.key.length : Int) > 0:=by have:=List.length_pos_iff.2 hz;omega
    simp only [qck,k1,k2,k3,h0,h1,h2,hi,hq,hz',heq,hp2,ht,hact,q5o,zgr,zgq,zgt,Pr.r,qc0,qbd,qah,qap,qv,qbv,Nat.reduceLeDiff,qn,Ev.exec,qb,qe,qc,qa0,qaj,Ev.evs,Ev.Opnd.ev,Ev.Env.get,Ev.Env.set,Ev.look,qo,qh,qad,qgp,Ev.AV.cells,Ev.AV.uc,qx,Ev.AV.plain,qam,qbn,ql,qau,qcd,qm,qab,qak,Ev.kill,qai,qd,qax,qbe,qa3,qu,qnu,Ev.AV.obj?,qg,qf,qaa,qal,zgi,↓qs,↓reduceIte,zga,zgb,zgd,zge,zgc,zgo,zfe,zgf,zgg,List.drop_nil,zgm,zgl,zgn,zgj,zgk,zgh,Nat.reduceAdd,Nat.reduceEqDiff,Nat.reduceBEq,Nat.reduceLeDiff,reduceCtorEq,zgv,zgw,zfc,Bool.not_true,Bool.not_false,zfa,zgx,ne_eq,zfb,not_true_eq_false,zff,zfd,Nat.add_zero,Nat.le_refl,zgy]
    done
  ·have hp2:=hpt ⟨qp,e.arg,true,qt⟩
   simp only [ht,if_false] at hact
   simp only [ht,zgw] at heq
   simp only [qda,Ex.setP,List.map_nil,hi,k2] at hact hp2
   by_cases hz : (qt.length : Int) > 0
   ·simp only [qck,k1,k2,k3,h0,h1,h2,hi,hq,hz,heq,hp2,hact,q5o,zgr,zgq,zgt,Pr.r,qc0,qbd,qah,qap,qv,qbv,Nat.reduceLeDiff,qn,Ev.exec,qb,qe,qc,qa0,qaj,Ev.evs,Ev.Opnd.ev,Ev.Env.get,Ev.Env.set,Ev.look,qo,qh,qad,qgp,Ev.AV.cells,Ev.AV.uc,qx,Ev.AV.plain,qam,qbn,ql,qau,qcd,qm,qab,qak,Ev.kill,qai,qd,qax,qbe,qa3,qu,qnu,Ev.AV.obj?,qg,qf,qaa,qal,zgi,↓qs,↓reduceIte,zga,zgb,zgd,zge,zgc,zgo,zfe,zgf,zgg,List.drop_nil,zgm,zgl,zgn,zgj,zgk,zgh,Nat.reduceAdd,Nat.reduceEqDiff,Nat.reduceBEq,Nat.reduceLeDiff,reduceCtorEq,zgv,zgw,zfc,Bool.not_true,Bool.not_false,zfa,zgx,ne_eq,zfb,not_true_eq_false,zff,zfd,Nat.add_zero,Nat.le_refl,zgy]
    done
   ·simp only [qck,k1,k2,k3,h0,h1,h2,hi,hq,hz,hp2,hact,q5o,zgr,zgq,zgt,Pr.r,qc0,qbd,qah,qap,qv,qbv,Nat.reduceLeDiff,qn,Ev.exec,qb,qe,qc,qa0,qaj,Ev.evs,Ev.Opnd.ev,Ev.Env.get,Ev.Env.set,Ev.Env.unset,Ev.look,qo,qh,qad,qgp,Ev.AV.cells,Ev.AV.uc,qx,Ev.AV.plain,qam,qbn,ql,qau,qcd,qm,qab,qak,Ev.kill,qai,qd,qax,qbe,qa3,qu,qnu,Ev.AV.obj?,qg,qf,qaa,qal,zgi,↓qs,↓reduceIte,zga,zgb,zgd,zge,zgc,zgo,zfe,zgf,zgg,List.drop_nil,zgm,zgl,zgn,zgj,zgk,zgh,Nat.reduceAdd,Nat.reduceEqDiff,Nat.reduceBEq,Nat.reduceLeDiff,reduceCtorEq,zgv,zgw,zfc,Bool.not_true,Bool.not_false,zfa,zgx,ne_eq,zfb,not_true_eq_false,zff,zfd,Nat.add_zero,Nat.le_refl,zgy]
    done
end
end Go.Proofs.YtbhhifdhlafklaaGreat.K
