/- For every input the statement of this claim returns true: texts of its proof, joined (part 11). -/
import Derived.Test.YtbhhifdhlafklaaGreatGZM06
import Derived.Test.YtbhhifdhlafklaaGreatGZM07
import Derived.Test.YtbhhifdhlafklaaGreatGZM08
import Derived.Test.YtbhhifdhlafklaaGreatGZM09
set_option linter.unusedSectionVars false
set_option linter.unusedSimpArgs false
set_option linter.unusedVariables false
namespace Go.Proofs.YtbhhifdhlafklaaGreat.K
open Go.Ev
set_option maxRecDepth 10000
section
variable {c : Cfg} {x : Lp} {e : Evt}
theorem q48 (hp : x.procs = []) : qnl x e = none:=by
 unfold qnl
 rw [hp];simp
theorem qzm (hp : x.procs = []) : (qba c x e).lp.procs = []:=by
 unfold qba
 split
 ·exact hp
 ·rw [q48 hp];exact hp
theorem Exec_evF (h : Ready c x e) (f : Bool) (hf : f = true → x.procs = []) : qaz (evL T) qes [(.agg [(.fsl ((c.lps).map lpC) false),(.fsl ((c.progs).map qcs) false),(ii c.look),(ii c.fin),(ii c.cap)]),(.agg [(ii x.r0),(ii x.r1),(.fsl ((x.procs).map Pr.r) f),(ii x.sum)]),(.agg [(ii e.time),(.fsl ((e.key).map qb8) false),(ii e.lp),(ii e.kind),(ii e.proc),(ii e.arg)])] = some (.tup [(.agg [(ii ((qba c x e).lp.r0)),(ii ((qba c x e).lp.r1)),(.fsl (((qba c x e).lp.procs).map Pr.r) f),(ii ((qba c x e).lp.sum))]),(.fsl (((qba c x e).out).map Evt.r) (qba c x e).nil),(.fsl (((qba c x e).gone).map qfy) (qba c x e).nil),(bb ((qba c x e).over))]):=by
 cases f with
 | false => exact Exec_ev h
 | true =>
  have hp:=hf rfl
  unfold qba
  rw [qaz,qy qlr qky]
  rw [q48 hp]
  by_cases hk : e.kind = 3
  ·rw [if_pos hk]
   simp only [qb5,hk,hp,List.map_nil,qn,Ev.exec,qb,qe,qc,qaj,Ev.Opnd.ev,Ev.Env.get,Ev.Env.set,Ev.look,qo,qh,qad,Ev.AV.cells,Ev.AV.uc,qx,Ev.AV.plain,qaf,qam,qm,qab,qak,Ev.kill,qai,qd,qax,qbe,qa3,qu,qg,qf,qaa,qal,↓qs,↓reduceIte,zga,zgb,zgd,zge,zgc,zgo,zfe,zgf,zgg,List.drop_nil,zgm,zgl,zgn,zgj,zgk,zgh,Nat.reduceAdd,Nat.reduceEqDiff,reduceCtorEq,zgv,zfc,zfa,zgx,ne_eq,zfb,zff,zfd,Nat.le_refl,zgy]
  rw [if_neg hk]
  by_cases h1 : e.proc < 0
  ·by_cases k1 : e.kind = 1
   ·simp only [qb5,k1,h1,hp,List.map_nil,qn,Ev.exec,qb,qe,qc,qaj,Ev.Opnd.ev,Ev.Env.get,Ev.Env.set,Ev.Env.unset,Ev.look,qo,qh,qad,Ev.AV.cells,qx,Ev.AV.plain,qam,qbn,ql,qm,qab,qak,Ev.kill,qai,qd,qax,qbe,qa3,qu,qg,qf,qaa,qal,↓qs,↓reduceIte,zga,zgb,zgd,zge,zgc,zgo,zfe,zgf,zgg,List.drop_nil,zgm,zgl,zgn,zgj,zgk,zgh,Nat.reduceAdd,Nat.reduceEqDiff,Int.reduceEq,reduceCtorEq,zgv,zgw,zfc,zfa,zgx,ne_eq,zfb,not_true_eq_false,zff,zfd,Nat.le_refl,zgy]
   by_cases k2 : e.kind = 2
   ·simp only [qb5,k2,h1,hp,List.map_nil,qn,Ev.exec,qb,qe,qc,qaj,Ev.Opnd.ev,Ev.Env.get,Ev.Env.set,Ev.look,qo,qh,qad,Ev.AV.cells,qx,Ev.AV.plain,qam,qbn,ql,qm,qab,qak,Ev.kill,qai,qd,qax,qbe,qa3,qu,qg,qf,qaa,qal,↓qs,↓reduceIte,zga,zgb,zgd,zge,zgc,zgo,zfe,zgf,zgg,List.drop_nil,zgm,zgl,zgn,zgj,zgk,zgh,Nat.reduceAdd,Nat.reduceEqDiff,Int.reduceEq,reduceCtorEq,zgv,zgw,zfc,zfa,zgx,ne_eq,zfb,not_true_eq_false,zff,zfd,Nat.le_refl,zgy]
   ·simp only [qb5,hk,k1,k2,hp,List.map_nil,qn,Ev.exec,qb,qe,qc,qaj,Ev.Opnd.ev,Ev.Env.get,Ev.Env.set,Ev.look,qo,qh,qad,Ev.AV.cells,qx,Ev.AV.plain,qam,qbn,qm,qab,qak,Ev.kill,qai,qd,qax,qbe,qa3,qu,qg,qf,qaa,qal,↓qs,↓reduceIte,zga,zgb,zgd,zge,zgc,zgo,zfe,zgf,zgg,List.drop_nil,zgm,zgl,zgn,zgj,zgk,zgh,Nat.reduceAdd,Nat.reduceEqDiff,reduceCtorEq,zgv,zgw,zfc,zfa,zgx,ne_eq,zfb,zff,zfd,Nat.le_refl,zgy]
  have h2 : e.proc ≥ ((0 : Nat) : Int):=by omega
  have h2' : e.proc ≥ 0:=by omega
  ·by_cases k1 : e.kind = 1
   ·simp only [qb5,k1,h1,h2',hp,List.map_nil,qn,Ev.exec,qb,qe,qc,qaj,Ev.Opnd.ev,Ev.Env.get,Ev.Env.set,Ev.Env.unset,Ev.look,qo,qh,qad,Ev.AV.cells,qx,Ev.AV.plain,qam,qbn,ql,qcd,qm,qab,qak,Ev.kill,qai,qd,qax,qbe,qa3,qu,qg,qf,qaa,qal,↓qs,↓reduceIte,zga,zgb,zgd,zge,zgc,zgo,zfe,zgf,zgg,List.drop_nil,zgm,zgl,zgn,zgj,zgk,zgh,Nat.reduceAdd,Nat.reduceEqDiff,Int.reduceEq,Int.cast_ofNat_Int,reduceCtorEq,zgv,zgw,zfc,zfa,zgx,ne_eq,zfb,not_true_eq_false,zff,zfd,Nat.le_refl,zgy]
   by_cases k2 : e.kind = 2
   ·simp only [qb5,k2,h1,h2',hp,List.map_nil,qn,Ev.exec,qb,qe,qc,qaj,Ev.Opnd.ev,Ev.Env.get,Ev.Env.set,Ev.look,qo,qh,qad,Ev.AV.cells,qx,Ev.AV.plain,qam,qbn,ql,qcd,qm,qab,qak,Ev.kill,qai,qd,qax,qbe,qa3,qu,qg,qf,qaa,qal,↓qs,↓reduceIte,zga,zgb,zgd,zge,zgc,zgo,zfe,zgf,zgg,List.drop_nil,zgm,zgl,zgn,zgj,zgk,zgh,Nat.reduceAdd,Nat.reduceEqDiff,Int.reduceEq,Int.cast_ofNat_Int,reduceCtorEq,zgv,zgw,zfc,zfa,zgx,ne_eq,zfb,not_true_eq_false,zff,zfd,Nat.le_refl,zgy]
   ·simp only [qb5,hk,k1,k2,hp,List.map_nil,qn,Ev.exec,qb,qe,qc,qaj,Ev.Opnd.ev,Ev.Env.get,Ev.Env.set,Ev.look,qo,qh,qad,Ev.AV.cells,qx,Ev.AV.plain,qam,qbn,qm,qab,qak,Ev.kill,qai,qd,qax,qbe,qa3,qu,qg,qf,qaa,qal,↓qs,↓reduceIte,zga,zgb,zgd,zge,zgc,zgo,zfe,zgf,zgg,List.drop_nil,zgm,zgl,zgn,zgj,zgk,zgh,Nat.reduceAdd,Nat.reduceEqDiff,reduceCtorEq,zgv,zgw,zfc,zfa,zgx,ne_eq,zfb,zff,zfd,Nat.le_refl,zgy]
theorem q6n (h : Ready c x e) (f : Bool) (hf : f = true → x.procs = []) : qaz (evL T) qfv [(.agg [(.fsl ((c.lps).map lpC) false),(.fsl ((c.progs).map qcs) false),(ii c.look),(ii c.fin),(ii c.cap)]),(.agg [(ii x.r0),(ii x.r1),(.fsl ((x.procs).map Pr.r) f),(ii x.sum)]),(.agg [(ii e.time),(.fsl ((e.key).map qb8) false),(ii e.lp),(ii e.kind),(ii e.proc),(ii e.arg)])] = some (.tup [(.agg [(ii ((qba c x e).lp.r0)),(ii ((qba c x e).lp.r1)),(.fsl (((qba c x e).lp.procs).map Pr.r) f),(ii ((qba c x e).lp.sum))]),(.fsl (((qba c x e).out).map Evt.r) (qba c x e).nil),(.fsl (((qba c x e).gone).map qfy) (qba c x e).nil),(bb ((qba c x e).over))]):=by
 cases f with
 | false => exact RExec_ev h
 | true =>
  have hp:=hf rfl
  unfold qba
  rw [qaz,qy qm6 qmd]
  rw [q48 hp]
  by_cases hk : e.kind = 3
  ·rw [if_pos hk]
   simp only [qck,hk,hp,List.map_nil,Nat.reduceLeDiff,qn,Ev.exec,qb,qe,qc,qaj,Ev.Opnd.ev,Ev.Env.get,Ev.Env.set,Ev.look,qo,qh,qad,qgp,Ev.AV.cells,Ev.AV.uc,qx,Ev.AV.plain,qaf,qam,qm,qab,qak,Ev.kill,qai,qd,qax,qbe,qa3,qu,qg,qf,qaa,qal,↓qs,↓reduceIte,zga,zgb,zgd,zge,zgc,zgo,zfe,zgf,zgg,List.drop_nil,zgm,zgl,zgn,zgj,zgk,zgh,Nat.reduceAdd,Nat.reduceEqDiff,Nat.reduceLeDiff,reduceCtorEq,zgv,zfc,zfa,zgx,ne_eq,zfb,zff,zfd,Nat.add_zero,Nat.le_refl,zgy]
  rw [if_neg hk]
  by_cases h1 : e.proc < 0
  ·by_cases k1 : e.kind = 1
   ·simp only [qck,k1,h1,hp,List.map_nil,Nat.reduceLeDiff,qn,Ev.exec,qb,qe,qc,qaj,Ev.Opnd.ev,Ev.Env.get,Ev.Env.set,Ev.Env.unset,Ev.look,qo,qh,qad,qgp,Ev.AV.cells,qx,Ev.AV.plain,qam,qbn,ql,qm,qab,qak,Ev.kill,qai,qd,qax,qbe,qa3,qu,qg,qf,qaa,qal,↓qs,↓reduceIte,zga,zgb,zgd,zge,zgc,zgo,zfe,zgf,zgg,List.drop_nil,zgm,zgl,zgn,zgj,zgk,zgh,Nat.reduceAdd,Nat.reduceEqDiff,Nat.reduceLeDiff,Int.reduceEq,reduceCtorEq,zgv,zgw,zfc,zfa,Bool.true_eq_false,zgx,ne_eq,zfb,not_true_eq_false,zff,zfd,Nat.le_refl,zgy]
   by_cases k2 : e.kind = 2
   ·simp only [qck,k2,h1,hp,List.map_nil,Nat.reduceLeDiff,qn,Ev.exec,qb,qe,qc,qaj,Ev.Opnd.ev,Ev.Env.get,Ev.Env.set,Ev.Env.unset,Ev.look,qo,qh,qad,qgp,Ev.AV.cells,qx,Ev.AV.plain,qam,qbn,ql,qm,qab,qak,Ev.kill,qai,qd,qax,qbe,qa3,qu,qg,qf,qaa,qal,↓qs,↓reduceIte,zga,zgb,zgd,zge,zgc,zgo,zfe,zgf,zgg,List.drop_nil,zgm,zgl,zgn,zgj,zgk,zgh,Nat.reduceAdd,Nat.reduceEqDiff,Nat.reduceLeDiff,Int.reduceEq,reduceCtorEq,zgv,zgw,zfc,zfa,Bool.true_eq_false,zgx,ne_eq,zfb,not_true_eq_false,zff,zfd,Nat.le_refl,zgy]
   ·simp only [qck,hk,k1,k2,hp,List.map_nil,Nat.reduceLeDiff,qn,Ev.exec,qb,qe,qc,qaj,Ev.Opnd.ev,Ev.Env.get,Ev.Env.set,Ev.Env.unset,Ev.look,qo,qh,qad,qgp,Ev.AV.cells,qx,Ev.AV.plain,qam,qbn,qm,qab,qak,Ev.kill,qai,qd,qax,qbe,qa3,qu,qg,qf,qaa,qal,↓qs,↓reduceIte,zga,zgb,zgd,zge,zgc,zgo,zfe,zgf,zgg,List.drop_nil,zgm,zgl,zgn,zgj,zgk,zgh,Nat.reduceAdd,Nat.reduceEqDiff,Nat.reduceLeDiff,reduceCtorEq,zgv,zgw,zfc,zfa,Bool.true_eq_false,zgx,ne_eq,zfb,zff,zfd,Nat.le_refl,zgy]
  have h2 : e.proc ≥ ((0 : Nat) : Int):=by omega
  have h2' : e.proc ≥ 0:=by omega
  ·by_cases k1 : e.kind = 1
   ·simp only [qck,k1,h1,h2',hp,List.map_nil,Nat.reduceLeDiff,qn,Ev.exec,qb,qe,qc,qaj,Ev.Opnd.ev,Ev.Env.get,Ev.Env.set,Ev.Env.unset,Ev.look,qo,qh,qad,qgp,Ev.AV.cells,qx,Ev.AV.plain,qam,qbn,ql,qcd,qm,qab,qak,Ev.kill,qai,qd,qax,qbe,qa3,qu,qg,qf,qaa,qal,↓qs,↓reduceIte,zga,zgb,zgd,zge,zgc,zgo,zfe,zgf,zgg,List.drop_nil,zgm,zgl,zgn,zgj,zgk,zgh,Nat.reduceAdd,Nat.reduceEqDiff,Nat.reduceLeDiff,Int.reduceEq,Int.cast_ofNat_Int,reduceCtorEq,zgv,zgw,zfc,zfa,Bool.true_eq_false,zgx,ne_eq,zfb,not_true_eq_false,zff,zfd,Nat.le_refl,zgy]
   by_cases k2 : e.kind = 2
   ·simp only [qck,k2,h1,h2',hp,List.map_nil,Nat.reduceLeDiff,qn,Ev.exec,qb,qe,qc,qaj,Ev.Opnd.ev,Ev.Env.get,Ev.Env.set,Ev.Env.unset,Ev.look,qo,qh,qad,qgp,Ev.AV.cells,qx,Ev.AV.plain,qam,qbn,ql,qcd,qm,qab,qak,Ev.kill,qai,qd,qax,qbe,qa3,qu,qg,qf,qaa,qal,↓qs,↓reduceIte,zga,zgb,zgd,zge,zgc,zgo,zfe,zgf,zgg,List.drop_nil,zgm,zgl,zgn,zgj,zgk,zgh,Nat.reduceAdd,Nat.reduceEqDiff,Nat.reduceLeDiff,Int.reduceEq,Int.cast_ofNat_Int,reduceCtorEq,zgv,zgw,zfc,zfa,Bool.true_eq_false,zgx,ne_eq,zfb,not_true_eq_false,zff,zfd,Nat.le_refl,zgy]
   ·simp only [qck,hk,k1,k2,hp,List.map_nil,Nat.reduceLeDiff,qn,Ev.exec,qb,qe,qc,qaj,Ev.Opnd.ev,Ev.Env.get,Ev.Env.set,Ev.Env.unset,Ev.look,qo,qh,qad,qgp,Ev.AV.cells,qx,Ev.AV.plain,qam,qbn,qm,qab,qak,Ev.kill,qai,qd,qax,qbe,qa3,qu,qg,qf,qaa,qal,↓qs,↓reduceIte,zga,zgb,zgd,zge,zgc,zgo,zfe,zgf,zgg,List.drop_nil,zgm,zgl,zgn,zgj,zgk,zgh,Nat.reduceAdd,Nat.reduceEqDiff,Nat.reduceLeDiff,reduceCtorEq,zgv,zgw,zfc,zfa,Bool.true_eq_false,zgx,ne_eq,zfb,zff,zfd,Nat.le_refl,zgy]
end
set_option maxRecDepth 10000
section
variable {c : Cfg} {e : Evt} (R0 X4 X5 X6 X7 X8 X9 : SObj) (dn : List Evt) (g1 : Nat) (x : Lp) (o f : Bool)
theorem exec_l1 (h0 : R0.lo 10 = true) (h4 : X4.lo 10 = true) (h5 : X5.lo 10 = true) (h6 : X6.lo 10 = true) (h7 : X7.lo 10 = true) (h8 : X8.lo 10 = true) (h9 : X9.lo 10 = true) (out : List Evt) (co : Bool) (p : List Evt × List Evt) (g2 : Nat) (hP : PlOk p out) (v8 : AV) (hv8 : v8.lo 10 = true) :
  ∃ y,itB (exec (evL T) itL none qdm) (qq [0,5,8,50,51,52] true 10) ⟨[(0,.ptr 3 0 0 0),(5,(.fptr [(ii e.time),(.fsl ((e.key).map qb8) false),(ii e.lp),(ii e.kind),(ii e.proc),(ii e.arg)])),(8,v8),(50,(.fsl ((out).map Evt.r) co)),(51,(ii out.length)),(52,(ii ((0 : Nat))))],[]⟩ (R0 :: .row 6 ((dn).map Evt.r) g1 :: .row 6 ((p.2).map Evt.r) g2 :: .row 8 [[(ii ((x).r0)),(ii ((x).r1)),(.fsl (((x).procs).map Pr.r) f),(ii ((x).sum)),(.fsl ((p.1).map Evt.r) false),.sl 1 g1 0 (dn).length false,.sl 2 g2 0 (p.2).length false,(bb o)]] 0 :: [X4,X5,X6,X7,X8,X9]) = some y ∧
   ∃ g2' : Nat,y.1 = .exit 0 ∧ y.2.1.marks = [] ∧ y.2.2 = (R0 :: .row 6 ((dn).map Evt.r) g1 :: .row 6 (((qdq e.lp p out).2).map Evt.r) g2' :: .row 8 [[(ii ((x).r0)),(ii ((x).r1)),(.fsl (((x).procs).map Pr.r) f),(ii ((x).sum)),(.fsl (((qdq e.lp p out).1).map Evt.r) false),.sl 1 g1 0 (dn).length false,.sl 2 g2' 0 ((qdq e.lp p out).2).length false,(bb o)]] 0 :: [X4,X5,X6,X7,X8,X9]) ∧ Ev.look y.2.1.vars 0 = some (.ptr 3 0 0 0) ∧ Ev.look y.2.1.vars 8 = some v8:=by
 simp only [SObj.lo] at h0 h4 h5 h6 h7 h8 h9
 have key:=qen (f:=exec (evL T) itL none qdm) (s:=qq [0,5,8,50,51,52] true 10) (α:=(List Evt × List Evt) × Nat)
  (fun i a => ⟨[(0,.ptr 3 0 0 0),(5,(.fptr [(ii e.time),(.fsl ((e.key).map qb8) false),(ii e.lp),(ii e.kind),(ii e.proc),(ii e.arg)])),(8,v8),(50,(.fsl ((out).map Evt.r) co)),(51,(ii out.length)),(52,(ii i))],[]⟩) (fun _ a => (R0 :: .row 6 ((dn).map Evt.r) g1 :: .row 6 ((a.1.2).map Evt.r) a.2 :: .row 8 [[(ii ((x).r0)),(ii ((x).r1)),(.fsl (((x).procs).map Pr.r) f),(ii ((x).sum)),(.fsl ((a.1.1).map Evt.r) false),.sl 1 g1 0 (dn).length false,.sl 2 a.2 0 (a.1.2).length false,(bb o)]] 0 :: [X4,X5,X6,X7,X8,X9])) (fun i a => a.1 = qdq e.lp p (out.take i)) out.length
  (fun y => ∃ g2' : Nat,y.1 = .exit 0 ∧ y.2.1.marks = [] ∧ y.2.2 = (R0 :: .row 6 ((dn).map Evt.r) g1 :: .row 6 (((qdq e.lp p out).2).map Evt.r) g2' :: .row 8 [[(ii ((x).r0)),(ii ((x).r1)),(.fsl (((x).procs).map Pr.r) f),(ii ((x).sum)),(.fsl (((qdq e.lp p out).1).map Evt.r) false),.sl 1 g1 0 (dn).length false,.sl 2 g2' 0 ((qdq e.lp p out).2).length false,(bb o)]] 0 :: [X4,X5,X6,X7,X8,X9]) ∧ Ev.look y.2.1.vars 0 = some (.ptr 3 0 0 0) ∧ Ev.look y.2.1.vars 8 = some v8) ?_ ?_ 0 (p,g2) (Nat.zero_le _) rfl
 ·exact key
 ·rintro i ⟨⟨b,s⟩,g⟩ hi hbs
  simp only at hbs ⊢
  obtain ⟨n,hn⟩ : ∃ n,out[i]? = some n:=⟨_,List.getElem?_eq_getElem hi⟩
  have hA:=PlOk.at e.lp hP i
  rw [← hbs,show out.drop i = n :: out.drop (i + 1) by rw [List.drop_eq_getElem_cons hi];rw [List.getElem?_eq_getElem hi] at hn;cases hn;rfl] at hA
  have hlen:=hP.len
  simp only [zgp] at hlen
  have hi' : (i : Int) < (out.length : Int):=by omega
  have hw : IntKind.i64.wrap ((i : Int) + 1) = ((i + 1 : Nat) : Int):=by rw [qas (by omega) (by omega)];simp
  have hnx : qdq e.lp p (out.take (i + 1)) = qmr e.lp (b,s) n:=by rw [List.take_add_one,hn,hbs];exact q1u _ _ _ _
  obtain ⟨i1,i2,i3,i4,i5⟩:=hA.ins
  have hsl:=hA.len
  simp only [zgp] at hsl
  obtain ⟨et,ek,el,ei,ep,ea⟩:=e
  unfold qmr at hnx
  by_cases hlp : n.lp = el
  ·refine .inl ⟨((sortL (n :: b),s),g),?_,by simp only;rw [hnx,if_pos hlp]⟩
   have hI:=qx8 b false n i1 i2 i3 i4 i5
   obtain ⟨nt,nk,nl,ni,np,na⟩:=n
   simp only at hlp
   subst hlp
   generalize sortL (⟨nt,nk,nl,ni,np,na⟩ :: b) = B at *
   simp only at hI
   simp only [qdm,zgs,zgr,zgq,zgt,hn,hi',hw,hI,h0,h4,h5,h6,h7,h8,h9,hv8,Evt.r,qv,qah,qap,Ev.exec,qb,qe,qc,qa0,qaj,Ev.evs,Ev.Opnd.ev,Ev.Env.get,Ev.Env.set,Ev.look,qh,qad,Ev.AV.cells,Ev.AV.uc,qx,Ev.AV.plain,qaf,qam,ql,qq,Ev.keep,qae,qw,qd,Ev.SObj.lo,qax,qbe,qu,qbt,qbj,qez,qg,qf,qaa,qag,↓qs,Ev.it1,↓reduceIte,zga,zgb,zgd,zge,zgc,zgo,zfe,zgf,zgg,List.drop_nil,zgm,zgl,zgn,zgj,zgk,zgh,Nat.reduceAdd,Nat.reduceEqDiff,Nat.reduceLT,Nat.reduceLeDiff,reduceCtorEq,zgv,zfc,zfa,zgx,ne_eq,zfb,zff,zfd,Nat.le_refl,zgy]
  ·refine .inl ⟨((b,s ++ [n]),g + 1),?_,by simp only;rw [hnx,if_neg hlp]⟩
   have bd : (s.length + 1) * 64 ≤ 140737488355328:=by omega
   have tk : List.take s.length (s.map Evt.r) = s.map Evt.r:=List.take_of_length_le (by simp)
   have lo:=qv 10 (s ++ [n])
   have hle : s.length ≤ s.length:=Nat.le_refl _
   obtain ⟨nt,nk,nl,ni,np,na⟩:=n
   simp only at hlp
   rw [List.map_append] at lo
   simp only [List.map_append,zgp,List.map_cons,List.map_nil,Evt.r] at lo ⊢
   simp only [qdm,zgs,zgr,zgq,zgt,hn,hi',hw,hlp,bd,tk,lo,hle,h0,h4,h5,h6,h7,h8,h9,hv8,Evt.r,qv,qah,qap,Ev.exec,qb,qe,qc,qaj,qnz,Ev.Opnd.ev,Ev.Env.get,Ev.Env.set,Ev.look,qh,qbs,qad,qfl,Ev.AV.cells,Ev.AV.uc,qx,Ev.AV.plain,qaf,qam,ql,qq,Ev.keep,qae,qw,qd,Ev.SObj.lo,qax,qu,qbt,qbj,qez,qg,qf,qaa,qag,qbh,qa8,List.replicate_one,zgi,↓qs,Ev.it1,↓reduceIte,zga,zgb,zgd,zge,zgc,zgo,zfe,zgf,zgg,List.drop_nil,zgm,zgl,zgn,zgj,zgk,zgh,Nat.reduceAdd,Nat.reduceEqDiff,Nat.reduceMul,Nat.reduceLT,Nat.reduceLeDiff,Nat.reducePow,reduceCtorEq,zgv,zgw,zfc,zfa,zgx,ne_eq,zfb,zff,zfd,zgu,Nat.le_refl,zgy]
 ·rintro ⟨⟨b,s⟩,g⟩ hbs
  rw [List.take_length] at hbs
  simp only at hbs ⊢
  rw [← hbs]
  simp only [qdm,Int.lt_irrefl,Ev.exec,qb,qe,qc,qaj,Ev.Opnd.ev,Ev.Env.get,Ev.Env.set,Ev.look,ql,↓qs,Ev.it1,↓reduceIte,Nat.reduceEqDiff,reduceCtorEq,zgw,zfa,zgy]
  exact ⟨_,rfl,g,rfl,rfl,rfl,rfl,rfl⟩
theorem exec_l2 (h0 : R0.lo 10 = true) (h4 : X4.lo 10 = true) (h5 : X5.lo 10 = true) (h6 : X6.lo 10 = true) (h7 : X7.lo 10 = true) (h8 : X8.lo 10 = true) (h9 : X9.lo 10 = true) (G : List (List Int)) (cg : Bool) (b : List Evt) (s : List Evt) (g2 : Nat) (hb : b.length ≤ 1000000) (hk : qcj b) (hG : G.length ≤ 1000000) (hGk : ∀ k ∈ G,k.length ≤ 9223372036854775807) :
  ∃ y,itB (exec (evL T) itL none qeb) (qq [0,81,82,83] true 10) ⟨[(0,.ptr 3 0 0 0),(81,(.fsl ((G).map qfy) cg)),(82,(ii G.length)),(83,(ii ((0 : Nat))))],[]⟩ (R0 :: .row 6 ((dn).map Evt.r) g1 :: .row 6 ((s).map Evt.r) g2 :: .row 8 [[(ii ((x).r0)),(ii ((x).r1)),(.fsl (((x).procs).map Pr.r) f),(ii ((x).sum)),(.fsl ((b).map Evt.r) false),.sl 1 g1 0 (dn).length false,.sl 2 g2 0 (s).length false,(bb o)]] 0 :: [X4,X5,X6,X7,X8,X9]) = some y ∧
   (y.1 = .exit 2 ∧ y.2.1.marks = [] ∧ y.2.2 = (R0 :: .row 6 ((dn).map Evt.r) g1 :: .row 6 ((s).map Evt.r) g2 :: .row 8 [[(ii ((x).r0)),(ii ((x).r1)),(.fsl (((x).procs).map Pr.r) f),(ii ((x).sum)),(.fsl (((qsw b G)).map Evt.r) false),.sl 1 g1 0 (dn).length false,.sl 2 g2 0 (s).length false,(bb o)]] 0 :: [X4,X5,X6,X7,X8,X9])):=by
 simp only [SObj.lo] at h0 h4 h5 h6 h7 h8 h9
 have key:=qen (f:=exec (evL T) itL none qeb) (s:=qq [0,81,82,83] true 10) (α:=List Evt)
  (fun i a => ⟨[(0,.ptr 3 0 0 0),(81,(.fsl ((G).map qfy) cg)),(82,(ii G.length)),(83,(ii i))],[]⟩) (fun _ a => (R0 :: .row 6 ((dn).map Evt.r) g1 :: .row 6 ((s).map Evt.r) g2 :: .row 8 [[(ii ((x).r0)),(ii ((x).r1)),(.fsl (((x).procs).map Pr.r) f),(ii ((x).sum)),(.fsl ((a).map Evt.r) false),.sl 1 g1 0 (dn).length false,.sl 2 g2 0 (s).length false,(bb o)]] 0 :: [X4,X5,X6,X7,X8,X9])) (fun i a => a = qsw b (G.take i)) G.length
  (fun y => y.1 = .exit 2 ∧ y.2.1.marks = [] ∧ y.2.2 = (R0 :: .row 6 ((dn).map Evt.r) g1 :: .row 6 ((s).map Evt.r) g2 :: .row 8 [[(ii ((x).r0)),(ii ((x).r1)),(.fsl (((x).procs).map Pr.r) f),(ii ((x).sum)),(.fsl (((qsw b G)).map Evt.r) false),.sl 1 g1 0 (dn).length false,.sl 2 g2 0 (s).length false,(bb o)]] 0 :: [X4,X5,X6,X7,X8,X9])) ?_ ?_ 0 b (Nat.zero_le _) rfl
 ·exact key
 ·rintro i a hi ha
  obtain ⟨k,hkk⟩ : ∃ k,G[i]? = some k:=⟨_,List.getElem?_eq_getElem hi⟩
  have hi' : (i : Int) < (G.length : Int):=by omega
  have hw : IntKind.i64.wrap ((i : Int) + 1) = ((i + 1 : Nat) : Int):=by rw [qas (by omega) (by omega)];simp
  have hs : a.Sublist b:=by rw [ha];exact qoy _ _
  obtain ⟨cf,_,hC⟩:=qwn a false k false (by have:=hs.length_le;omega) (fun z hz => hk z (hs.subset hz)) (hGk k (List.mem_of_getElem? hkk)) (fun _ => rfl)
  refine .inl ⟨(qd9 a k).1,?_,by rw [List.take_add_one,hkk,ha];exact (q32 _ _ _).symm⟩
  generalize qd9 a k = ck at *
  obtain ⟨cl,cb⟩:=ck
  simp only at hC ⊢
  simp only [qeb,zgs,zgr,zgq,zgt,hkk,hi',hw,hC,qfy,h0,h4,h5,h6,h7,h8,h9,qv,qah,qbv,qap,Ev.exec,qb,qe,qc,qa0,qaj,Ev.evs,Ev.Opnd.ev,Ev.Env.get,Ev.Env.set,Ev.look,qh,qad,Ev.AV.cells,Ev.AV.uc,qx,Ev.AV.plain,qaf,ql,qq,Ev.keep,qae,qw,qd,Ev.SObj.lo,qax,qu,qbj,qez,qg,qf,qaa,qag,↓qs,Ev.it1,↓reduceIte,zga,zgb,zgd,zge,zgc,zgo,zfe,zgf,zgg,zgm,zgl,zgj,zgk,zgh,Nat.reduceAdd,Nat.reduceEqDiff,Nat.reduceLT,Nat.reduceLeDiff,reduceCtorEq,zgv,zfc,zfa,zgx,zfd,zgy]
 ·rintro a ha
  rw [List.take_length] at ha
  rw [← ha]
  simp only [qeb,Int.lt_irrefl,Ev.exec,qb,qe,qc,qaj,Ev.Opnd.ev,Ev.Env.get,Ev.Env.set,Ev.look,ql,↓qs,Ev.it1,↓reduceIte,Nat.reduceEqDiff,reduceCtorEq,zgw,zfa,zgy]
  exact ⟨_,rfl,rfl,rfl,rfl⟩
theorem q9j (h0 : R0.lo 9 = true) (h4 : X4.lo 9 = true) (h5 : X5.lo 9 = true) (h6 : X6.lo 9 = true) (h7 : X7.lo 9 = true) (h8 : X8.lo 9 = true) (w : WSt) (rest : List Evt) (g2 : Nat) (R : Ready c w.lp e) (hf : f = true → w.lp.procs = []) (hP : PlOk (rest,w.sent) (qba c w.lp e).out) (hd : w.done.length ≤ 100000) :
  ∃ g1' g2' : Nat,(evL T).call qdl [.ptr 3 0 0 0,(.agg [(.fsl ((c.lps).map lpC) false),(.fsl ((c.progs).map qcs) false),(ii c.look),(ii c.fin),(ii c.cap)]),(.agg [(ii e.time),(.fsl ((e.key).map qb8) false),(ii e.lp),(ii e.kind),(ii e.proc),(ii e.arg)])] (R0 :: .row 6 ((w.done).map Evt.r) g1 :: .row 6 ((w.sent).map Evt.r) g2 :: .row 8 [[(ii ((w.lp).r0)),(ii ((w.lp).r1)),(.fsl (((w.lp).procs).map Pr.r) f),(ii ((w.lp).sum)),(.fsl ((rest).map Evt.r) false),.sl 1 g1 0 (w.done).length false,.sl 2 g2 0 (w.sent).length false,(bb w.over)]] 0 :: [X4,X5,X6,X7,X8]) =
   some (.tup [],(R0 :: .row 6 (((w.step c e rest).done).map Evt.r) g1' :: .row 6 (((w.step c e rest).sent).map Evt.r) g2' :: .row 8 [[(ii (((w.step c e rest).lp).r0)),(ii (((w.step c e rest).lp).r1)),(.fsl ((((w.step c e rest).lp).procs).map Pr.r) f),(ii (((w.step c e rest).lp).sum)),(.fsl (((w.step c e rest).box).map Evt.r) false),.sl 1 g1' 0 ((w.step c e rest).done).length false,.sl 2 g2' 0 ((w.step c e rest).sent).length false,(bb ((w.step c e rest).over))]] 0 :: [X4,X5,X6,X7,X8])):=by
 have mono : ∀ {X : SObj},X.lo 9 = true → X.lo 10 = true:=fun h => qt6 (by omega) _ h
 have hz:=R.sizes
 have hE:=Exec_evF R f hf
 obtain ⟨wl,wb,wd,ws,wo⟩:=w
 simp only at R hP hz hE hd hf ⊢
 unfold WSt.step
 simp only
 generalize hr : qba c wl e = r at *
 obtain ⟨⟨y1,f1,σ1⟩,k1,g2',k2,k3,k4,k5,k6⟩:=exec_l1 (e:=e) R0 X4 X5 X6 X7 X8 (.row 4 [[(ii r.lp.r0),(ii r.lp.r1),(.fsl ((r.lp.procs).map Pr.r) f),(ii r.lp.sum)]] 0) (wd ++ [e]) (g1 + 1) r.lp (wo || r.over) f (mono h0) (mono h4) (mono h5) (mono h6) (mono h7) (mono h8) (by simp only [qap,Ev.SObj.lo,qax,qu,qg,qf,qaa,qag,zfc,zgy]) r.out r.nil (rest,ws) g2 hP ((.fsl ((r.gone).map qfy) r.nil)) (by simp only [qbv,qu,zgy])
 have hpl:=qoo e.lp r.out (rest,ws) []
 have hln:=hP.len
 have hkk:=hP.ok
 rw [List.append_nil,List.append_nil] at hpl
 obtain ⟨⟨y2,f2,σ2⟩,m1,m2,m3,m4⟩:=exec_l2 R0 X4 X5 X6 X7 X8 (.row 4 [[(ii r.lp.r0),(ii r.lp.r1),(.fsl ((r.lp.procs).map Pr.r) f),(ii r.lp.sum)]] 0) (wd ++ [e]) (g1 + 1) r.lp (wo || r.over) f (mono h0) (mono h4) (mono h5) (mono h6) (mono h7) (mono h8) (by simp only [qap,Ev.SObj.lo,qax,qu,qg,qf,qaa,qag,zfc,zgy]) r.gone r.nil (qdq e.lp (rest,ws) r.out).1 (qdq e.lp (rest,ws) r.out).2 g2'
  (by have:=hpl.length_eq;simp only [zgp] at this hln;omega) (fun z hz' => hkk z (hpl.mem_iff.1 (List.mem_append_left _ hz'))) (by omega) (fun k hk' => by have:=hz.2.2.2.2.1 k hk';omega)
 simp only [Int.ofNat_zero] at k1 k2 k3 k4 k5 k6 m1 m2 m3 m4
 subst k2;subst k4;subst m2;subst m4
 refine ⟨g1 + 1,g2',?_⟩
 have bd : (wd.length + 1) * 64 ≤ 140737488355328:=by omega
 have tk : List.take wd.length (wd.map Evt.r) = wd.map Evt.r:=List.take_of_length_le (by simp)
 have hle : wd.length ≤ wd.length:=Nat.le_refl _
 have j0:=mono h0
 have j4:=mono h4
 have j5:=mono h5
 have j6:=mono h6
 have j7:=mono h7
 have j8:=mono h8
 simp only [SObj.lo] at h0 h4 h5 h6 h7 h8 j0 j4 j5 j6 j7 j8
 generalize (qdq e.lp (rest,ws) r.out).2 = Z at *
 generalize (qdq e.lp (rest,ws) r.out).1 = B at *
 generalize qsw B r.gone = B' at *
 obtain ⟨et,ek,el,ei,ep,ea⟩:=e
 obtain ⟨a0,a1,ap,as'⟩:=wl
 have lo:=qv 9 (wd ++ [⟨et,ek,el,ei,ep,ea⟩])
 have lo10:=qv 10 (wd ++ [⟨et,ek,el,ei,ep,ea⟩])
 rw [List.map_append] at lo lo10 k1 m1
 simp only [List.map_append,zgp,List.map_cons,List.map_nil,zga,zgb,zfd,Evt.r] at lo lo10 k1 m1 ⊢
 rw [qy qo6 qow]
 cases wo with
 | true =>
  simp only [Bool.true_or] at k1 m1 ⊢
  simp only [qe7,hE,k1,k3,k5,k6,m1,m3,bd,tk,hle,lo,lo10,h0,h4,h5,h6,h7,h8,j0,j4,j5,j6,j7,j8,qv,qah,qbv,qap,qc0,qbd,qn,Ev.exec,qb,qe,qc,qa0,qaj,qnz,Ev.evs,Ev.Opnd.ev,Ev.Env.get,Ev.Env.set,Ev.Env.unset,Ev.look,qo,qh,qbs,qad,qfl,Ev.AV.cells,Ev.AV.uc,qx,Ev.AV.plain,qm,qak,Ev.kill,qai,qq,Ev.keep,qae,qw,qd,Ev.SObj.lo,qax,qbe,qa3,qu,qbt,qbj,qez,qg,qf,qaa,qag,qbh,qa8,List.replicate_one,zgi,↓qs,↓qan,↓reduceIte,zga,zgb,zgd,zge,zgc,zgo,zfe,zgf,zgg,List.drop_nil,zgm,zgl,zgn,zgj,zgk,zgh,Nat.reduceAdd,Nat.reduceEqDiff,Nat.reduceMul,Nat.reduceLT,Nat.reduceLeDiff,Nat.reducePow,reduceCtorEq,zgv,zfc,zfa,Bool.true_eq_false,zgx,ne_eq,zfb,zff,zfd,Nat.add_zero,zgu,Nat.le_refl,zgy]
 | false =>
  simp only [Bool.false_or] at k1 m1 ⊢
  simp only [qe7,hE,k1,k3,k5,k6,m1,m3,bd,tk,hle,lo,lo10,h0,h4,h5,h6,h7,h8,j0,j4,j5,j6,j7,j8,qv,qah,qbv,qap,qc0,qbd,qn,Ev.exec,qb,qe,qc,qa0,qaj,qnz,Ev.evs,Ev.Opnd.ev,Ev.Env.get,Ev.Env.set,Ev.look,qo,qh,qbs,qad,qfl,Ev.AV.cells,Ev.AV.uc,qx,Ev.AV.plain,qm,qak,Ev.kill,qai,qq,Ev.keep,qae,qw,qd,Ev.SObj.lo,qax,qbe,qa3,qu,qbt,qbj,qez,qg,qf,qaa,qag,qbh,qa8,List.replicate_one,zgi,↓qs,↓qan,↓reduceIte,zga,zgb,zgd,zge,zgc,zgo,zfe,zgf,zgg,List.drop_nil,zgm,zgl,zgn,zgj,zgk,zgh,Nat.reduceAdd,Nat.reduceEqDiff,Nat.reduceMul,Nat.reduceLT,Nat.reduceLeDiff,Nat.reducePow,reduceCtorEq,zgv,zfc,zfa,zgx,ne_eq,zfb,zff,zfd,Nat.add_zero,zgu,Nat.le_refl,zgy]
end
set_option maxRecDepth 10000
theorem WInv.run {c : Cfg} {i : Nat} {O : List Evt} (hor : Int) : ∀ (k : Nat) {w : WSt} {S : Sim} {H : List Evt},WInv c i w O S H → H.length + k ≤ 20000 →
  ∃ (S' : Sim) (es : List Evt),WInv c i (WSt.run c hor k w) O S' (H ++ es) ∧ (WSt.run c hor k w).done = w.done ++ es ∧ S'.lps = S.lps.set i (WSt.run c hor k w).lp ∧ es.length ≤ k
 | 0,w,S,H,h,_ => ⟨S,[],by rw [List.append_nil];exact h,(List.append_nil _).symm,(by
   have : S.lps.set i w.lp = S.lps:=List.ext_getElem? fun j => by
    by_cases e : i = j
    ·subst e;rw [List.getElem?_set_self (by rw [h.K.lpl];exact h.il),h.lp]
    ·rw [List.getElem?_set_ne e]
   exact this.symm),Nat.le_refl _⟩
 | k + 1,w,S,H,h,hk => by
  unfold WSt.run
  split
  ·obtain ⟨S',es,h1,h2,h3,h4⟩:=WInv.run hor 0 h (by omega)
   exact ⟨S',es,h1,h2,h3,by omega⟩
  next e rest hb =>
   split
   ·obtain ⟨S1,g1,g2⟩:=h.step (by omega) hb
    obtain ⟨S',es,h1,h2,h3,h4⟩:=WInv.run hor k g1 (by simp;omega)
    refine ⟨S',e :: es,by simpa using h1,by rw [h2];simp [WSt.step],?_,by simp;omega⟩
    rw [h3,g2,List.set_set]
   ·obtain ⟨S',es,h1,h2,h3,h4⟩:=WInv.run hor 0 h (by omega)
    exact ⟨S',es,h1,h2,h3,by omega⟩
def pL (c : Cfg) : SObj:=.loop ⟨[(4,(.fptr [(.fsl ((c.lps).map lpC) false),(.fsl ((c.progs).map qcs) false),(ii c.look),(ii c.fin),(ii c.cap)])),(13,.ptr 4 0 0 0)],[]⟩ [22] qe3 qe2 .ready none
def pLb (c : Cfg) : SObj:=.loop ⟨[(4,(.fptr [(.fsl ((c.lps).map lpC) false),(.fsl ((c.progs).map qcs) false),(ii c.look),(ii c.fin),(ii c.cap)])),(13,.ptr 4 0 0 0)],[]⟩ [22] qe3 qe2 .busy none
def pS (c : Cfg) (f : Bool) (w : WSt) (b : List Evt) (g1 g2 : Nat) : qac:=((.row 4 [[(ii 0),(ii 0),.fsl [] false,(ii 0)]] 0) :: .row 6 ((w.done).map Evt.r) g1 :: .row 6 ((w.sent).map Evt.r) g2 :: .row 8 [[(ii ((w.lp).r0)),(ii ((w.lp).r1)),(.fsl (((w.lp).procs).map Pr.r) f),(ii ((w.lp).sum)),(.fsl ((b).map Evt.r) false),.sl 1 g1 0 (w.done).length false,.sl 2 g2 0 (w.sent).length false,(bb w.over)]] 0 :: [.row 1 [[.ptr 3 0 0 0]] 0,.defr,(pL c)])
section
variable {c : Cfg} {f : Bool}
theorem w_round {e : Evt} (w : WSt) (rest : List Evt) (g1 g2 : Nat) (R : Ready c w.lp e) (hf : f = true → w.lp.procs = []) (hP : PlOk (rest,w.sent) (qba c w.lp e).out) (hd : w.done.length ≤ 100000) :
  ∃ g1' g2' : Nat,(evL T).round 6 [(.agg [(ii e.time),(.fsl ((e.key).map qb8) false),(ii e.lp),(ii e.kind),(ii e.proc),(ii e.arg)])] (pS c f w rest g1 g2 ++ [.row 6 [e.r] 0]) = some ((bb true),pS c f (w.step c e rest) (w.step c e rest).box g1' g2' ++ [.row 6 [e.r] 0]):=by
 obtain ⟨g1',g2',h⟩:=q9j (e:=e) (.row 4 [[(ii 0),(ii 0),.fsl [] false,(ii 0)]] 0) (.row 1 [[.ptr 3 0 0 0]] 0) .defr (pLb c) (.row 6 [e.r] 0) (.row 6 [e.r] 0) g1 f (by simp only [Ev.SObj.lo,qax,qu,qg,qf,qaa,qag,zfc,zgy]) (by simp only [Ev.SObj.lo,qez,qg,qf,qaa,qag,Nat.reduceLT,zgv,zfc,zgy]) (by simp only [Ev.SObj.lo,zgy]) (by simp only [pLb,qc0,qbd,qae,Ev.SObj.lo,qax,qu,qbt,qez,qg,qf,Nat.reduceLT,zgv,zfc,zgy]) (by simp only [Evt.r,qah,Ev.SObj.lo,qax,qu,qg,qf,qaa,qag,zfc,zgy]) (by simp only [Evt.r,qah,Ev.SObj.lo,qax,qu,qg,qf,qaa,qag,zfc,zgy]) w rest g2 R hf hP hd
 refine ⟨g1',g2',?_⟩
 rw [q6h]
 generalize w.step c e rest = w' at *
 obtain ⟨et,ek,el,ei,ep,ea⟩:=e
 simp only [pLb,Evt.r,qe3,qe2] at h
 simp only [pS,pL,qe3,qe2,zgm,zgl,Evt.r,h,qv,qah,qap,qc0,qbd,qoa,qmg,Ev.exec,qb,qe,qc,qd6,qaj,Ev.evs,Ev.Opnd.ev,Ev.Env.get,Ev.Env.set,Ev.look,qh,qad,Ev.AV.cells,qx,Ev.AV.plain,qai,qae,qd,Ev.SObj.lo,qax,qu,qbt,qbj,qez,qg,qf,qaa,qag,↓qs,↓reduceIte,zga,zgb,zgd,zge,zgc,zgo,zfe,zgf,zgg,List.drop_nil,zgm,zgl,zgn,zgj,zgk,zgh,Nat.reduceAdd,Nat.reduceEqDiff,Nat.reduceLT,zgv,zfc,zfa,zgx,ne_eq,zfb,zff,zfd,Nat.le_refl,zgy]
theorem events_L (hor : Int) : ∀ (k : Nat) {w : WSt} {i : Nat} {O : List Evt} {S : Sim} {H : List Evt} (g1 g2 : Nat),w.done.length + k = 2000 → WInv c i w O S H → (f = true → w.lp.procs = []) → H.length + k ≤ 20000 →
  ∃ y,itB (exec (evL T) itL none qb3) (qq [0,1,2] true 7) ⟨[(0,.yld 6),(1,.fptr [.ptr 3 0 0 0]),(2,.fptr [(ii hor)])],[]⟩ (pS c f w w.box g1 g2) = some y ∧
   ∃ g1' g2' : Nat,(y.1 = .exit 0 ∨ y.1 = .ret) ∧ y.2.1.marks = [] ∧ ∃ X : qac,y.2.2 = pS c f (WSt.run c hor k w) (WSt.run c hor k w).box g1' g2' ++ X:=by
 intro k
 induction k with
 | zero =>
  intro w i O S H g1 g2 hk h hf hn
  have c1 : ¬ (w.done.length : Int) < 2000:=by omega
  have hx : ∃ y,it1 (exec (evL T) itL none qb3) (qq [0,1,2] true 7) ⟨[(0,.yld 6),(1,.fptr [.ptr 3 0 0 0]),(2,.fptr [(ii hor)])],[]⟩ (pS c f w w.box g1 g2) = some (.inr y) ∧ (y.1 = .exit 0 ∨ y.1 = .ret) ∧ y.2.1.marks = [] ∧ y.2.2 = pS c f w w.box g1 g2:=by
   simp only [qb3,pS,pL,c1,Ev.exec,qb,qe,qc,qaj,Ev.Opnd.ev,Ev.Env.get,Ev.Env.set,Ev.look,qh,qad,ql,↓qs,Ev.it1,↓reduceIte,zgd,zge,zgf,zgg,zgh,reduceCtorEq,zgw,zfa,zfd,zgy]
   exact ⟨_,rfl,by simp,rfl,rfl⟩
  obtain ⟨y,h1,h2,h3,h4⟩:=hx
  exact ⟨y,qm5 h1,g1,g2,h2,h3,[],by rw [List.append_nil];exact h4⟩
 | succ k ih =>
  intro w i O S H g1 g2 hk h hf hn
  have c1 : (w.done.length : Int) < 2000:=by omega
  have hl:=h.len
  obtain ⟨cf,hT⟩:=q0n w.box false hor (by omega)
  cases hb : w.box with
  | nil =>
   have hrun : WSt.run c hor (k + 1) w = w:=by rw [WSt.run,hb]
   rw [hrun]
   rw [hb] at hT
   have hx : ∃ y,it1 (exec (evL T) itL none qb3) (qq [0,1,2] true 7) ⟨[(0,.yld 6),(1,.fptr [.ptr 3 0 0 0]),(2,.fptr [(ii hor)])],[]⟩ (pS c f w [] g1 g2) = some (.inr y) ∧ (y.1 = .exit 0 ∨ y.1 = .ret) ∧ y.2.1.marks = [] ∧ ∃ X,y.2.2 = pS c f w w.box g1 g2 ++ X:=by
    rw [hb]
    simp only [qmq,q3j,List.map_nil] at hT
    simp only [qb3,pS,pL,c1,hT,List.map_nil,Ev.exec,qb,qe,qc,qa0,qaj,Ev.evs,Ev.Opnd.ev,Ev.Env.get,Ev.Env.set,Ev.look,qh,qad,Ev.AV.cells,qx,Ev.AV.plain,ql,qax,qu,qg,qf,qaa,↓qs,Ev.it1,↓reduceIte,zga,zgb,zgd,zge,zgo,zgf,zgg,List.drop_nil,zgm,zgl,zgn,zgj,zgk,zgh,Nat.reduceAdd,Nat.reduceEqDiff,reduceCtorEq,zgv,zfc,Bool.not_false,zfa,zgx,ne_eq,zfb,zff,zfd,Nat.le_refl,zgy]
    exact ⟨_,rfl,by simp,rfl,_,rfl⟩
   obtain ⟨y,h1,h2,h3,h4⟩:=hx
   exact ⟨y,qm5 h1,g1,g2,h2,h3,h4⟩
  | cons e rest =>
   rw [hb] at hT
   by_cases ht : e.time < hor
   ·have hrun : WSt.run c hor (k + 1) w = WSt.run c hor k (w.step c e rest):=by rw [WSt.run,hb];simp only [ht,if_true]
    rw [hrun]
    obtain ⟨_,R,_⟩:=h.ready (by omega) hb
    have hP:=h.plOk (by omega) hb
    obtain ⟨S',hS,_⟩:=h.step (by omega) hb
    obtain ⟨g1',g2',hr⟩:=w_round w rest g1 g2 R hf hP (by omega)
    obtain ⟨y,k1,k2⟩:=ih (w:=w.step c e rest) (S:=S') (H:=H ++ [e]) g1' g2' (by simp [WSt.step];omega) hS (fun k => qzm (hf k)) (by simp;omega)
    refine ⟨y,qy0 ?_ k1,k2⟩
    clear k1 k2 ih hP R hS hrun
    generalize w.step c e rest = w' at *
    obtain ⟨et,ek,el,ei,ep,ea⟩:=e
    simp only at ht
    simp only [qmq,ht,if_true,List.map_cons,Evt.r] at hT
    simp only [pS,pL,zgm,zgl,Evt.r] at hr
    have hlo':=fun (w : WSt) => qap 7 w.lp.procs
    simp only [qb3,pS,pL,c1,hT,hr,List.map_cons,Evt.r,zgm,qv,qah,qap,qc0,qbd,Ev.exec,qb,qe,qc,qa0,qk9,qaj,Ev.evs,Ev.Opnd.ev,Ev.Env.get,Ev.Env.set,Ev.look,qh,qad,Ev.AV.cells,Ev.AV.uc,qx,Ev.AV.plain,ql,qq,Ev.keep,qae,qw,qd,Ev.SObj.lo,qax,qu,qbt,qbj,qez,qxr,qg,qf,qaa,qag,↓qs,Ev.it1,↓reduceIte,zga,zgb,zgd,zge,zgc,zgo,zfe,zgf,zgg,List.drop_nil,zgm,zgl,zgn,zgj,zgk,zgh,Nat.reduceAdd,Nat.reduceEqDiff,Nat.reduceLT,Nat.reduceLeDiff,reduceCtorEq,zgv,zfc,Bool.not_true,zfa,zgx,ne_eq,zfb,zff,zfd,zgu,Nat.le_refl,zgy]
   ·have hrun : WSt.run c hor (k + 1) w = w:=by rw [WSt.run,hb];simp only [ht,if_false]
    rw [hrun]
    have hx : ∃ y,it1 (exec (evL T) itL none qb3) (qq [0,1,2] true 7) ⟨[(0,.yld 6),(1,.fptr [.ptr 3 0 0 0]),(2,.fptr [(ii hor)])],[]⟩ (pS c f w (e :: rest) g1 g2) = some (.inr y) ∧ (y.1 = .exit 0 ∨ y.1 = .ret) ∧ y.2.1.marks = [] ∧ ∃ X,y.2.2 = pS c f w w.box g1 g2 ++ X:=by
     rw [hb]
     obtain ⟨et,ek,el,ei,ep,ea⟩:=e
     simp only at ht
     simp only [qmq,ht,if_false,q3j,List.map_cons,List.map_nil,Evt.r] at hT
     simp only [qb3,pS,pL,c1,hT,List.map_cons,Evt.r,qv,qah,Ev.exec,qb,qe,qc,qa0,qaj,Ev.evs,Ev.Opnd.ev,Ev.Env.get,Ev.Env.set,Ev.look,qh,qad,Ev.AV.cells,qx,Ev.AV.plain,ql,qax,qu,qg,qf,qag,↓qs,Ev.it1,↓reduceIte,zga,zgb,zgd,zge,zgo,zgf,zgg,List.drop_nil,zgm,zgl,zgn,zgj,zgk,zgh,Nat.reduceAdd,Nat.reduceEqDiff,reduceCtorEq,zgv,zfc,Bool.not_false,zfa,zgx,ne_eq,zfb,zff,zfd,Nat.le_refl,zgy]
     exact ⟨_,rfl,by simp,rfl,_,rfl⟩
    obtain ⟨y,h1,h2,h3,h4⟩:=hx
    exact ⟨y,qm5 h1,g1,g2,h2,h3,h4⟩
theorem qac9 (hor : Int) {x : Lp} {b : List Evt} {i : Nat} {O : List Evt} {S : Sim} {H : List Evt} (h : WInv c i ⟨x,b,[],[],false⟩ O S H) (hf : f = true → x.procs = []) (hn : H.length ≤ 18000) :
  ∃ g1 g2 : Nat,(evL T).call qcz [.yld 6,.fptr [.ptr 3 0 0 0],.fptr [(ii hor)]] (pS c f ⟨x,b,[],[],false⟩ b 0 0) = some (.tup [],pS c f (WSt.run c hor 2000 ⟨x,b,[],[],false⟩) (WSt.run c hor 2000 ⟨x,b,[],[],false⟩).box g1 g2):=by
 obtain ⟨⟨y,e,σ⟩,k1,g1,g2,k2,k3,X,k4⟩:=events_L hor 2000 0 0 rfl h hf (by omega)
 simp only at k1 k2 k3 k4
 subst k4
 refine ⟨g1,g2,?_⟩
 rw [qy qkm qn8]
 generalize WSt.run c hor 2000 ⟨x,b,[],[],false⟩ = w at *
 have hn1 : ∀ (w : WSt) (b : List Evt) (g1 g2 : Nat),(pS c f w b g1 g2).length = 7:=fun _ _ _ _ => rfl
 have ht : ∀ (w : WSt) (b : List Evt) (g1 g2 : Nat) (X : qac),(pS c f w b g1 g2 ++ X).take 7 = pS c f w b g1 g2:=fun _ _ _ _ _ => List.take_left' rfl
 have hlo : ∀ (w : WSt) (b : List Evt) (g1 g2 : Nat),qd 7 (pS c f w b g1 g2) = true:=fun w b g1 g2 => by simp only [pS,pL,qv,qap,qc0,qbd,qae,qd,Ev.SObj.lo,qax,qu,qbt,qbj,qez,qg,qf,qaa,qag,Nat.reduceLT,zgv,zfc,zgy]
 have ht0 : ∀ (w : WSt) (b : List Evt) (g1 g2 : Nat),(pS c f w b g1 g2).take 7 = pS c f w b g1 g2:=fun _ _ _ _ => rfl
 rcases k2 with rfl | rfl
 ·simp only [qer,hn1,ht,ht0,hlo,k1,k3,qn,Ev.exec,Ev.Env.get,Ev.look,qo,qm,qak,Ev.kill,qai,qq,Ev.keep,qae,qw,qax,qa3,qbt,qez,qxr,qg,qf,↓qs,↓qan,↓reduceIte,zga,zgb,Nat.reduceAdd,Nat.reduceEqDiff,Nat.reduceLT,reduceCtorEq,zgv,zfc,zgx,zfd,zgu,zgy]
 ·simp only [qer,hn1,ht,ht0,hlo,k1,k3,qn,Ev.exec,Ev.Env.get,Ev.look,qo,qm,qak,Ev.kill,qai,qq,Ev.keep,qae,qw,qax,qa3,qbt,qez,qxr,qg,qf,↓qs,↓qan,↓reduceIte,zga,zgb,Nat.reduceAdd,Nat.reduceEqDiff,Nat.reduceLT,reduceCtorEq,zgv,zfc,zgx,zfd,zgu,zgy]
theorem q6i (f : Bool) (w : WSt) (g1 g2 : Nat) (R0 X4 X5 X6 : SObj) (h0 : R0.lo 7 = true) (h4 : X4.lo 7 = true) (h5 : X5.lo 7 = true) (h6 : X6.lo 7 = true) : (evL T).call qdv [.ptr 3 0 0 0] (R0 :: .row 6 ((w.done).map Evt.r) g1 :: .row 6 ((w.sent).map Evt.r) g2 :: .row 8 [[(ii ((w.lp).r0)),(ii ((w.lp).r1)),(.fsl (((w.lp).procs).map Pr.r) f),(ii ((w.lp).sum)),(.fsl ((w.box).map Evt.r) false),.sl 1 g1 0 (w.done).length false,.sl 2 g2 0 (w.sent).length false,(bb w.over)]] 0 :: [X4,X5,X6]) =
  some (.tup [.agg [(ii w.lp.r0),(ii w.lp.r1),(.fsl ((w.lp.procs).map Pr.r) f),(ii w.lp.sum)],(.fsl ((w.box).map Evt.r) false),.sl 1 g1 0 w.done.length false,.sl 2 g2 0 w.sent.length false,(bb w.over)],(R0 :: .row 6 ((w.done).map Evt.r) g1 :: .row 6 ((w.sent).map Evt.r) g2 :: .row 8 [[(ii ((w.lp).r0)),(ii ((w.lp).r1)),(.fsl (((w.lp).procs).map Pr.r) f),(ii ((w.lp).sum)),(.fsl ((w.box).map Evt.r) false),.sl 1 g1 0 (w.done).length false,.sl 2 g2 0 (w.sent).length false,(bb w.over)]] 0 :: [X4,X5,X6])):=by
 simp only [SObj.lo] at h0 h4 h5 h6
 rw [qy qpz qpe]
 simp only [qgx,h0,h4,h5,h6,qv,qap,qn,Ev.exec,qb,qe,qc,qaj,Ev.Opnd.ev,Ev.Env.get,Ev.Env.set,Ev.look,qo,qh,qad,Ev.AV.cells,qx,Ev.AV.plain,qm,qab,qak,Ev.kill,qai,qd,Ev.SObj.lo,qax,qbe,qa3,qu,qbj,qnu,Ev.AV.obj?,qg,qf,qaa,qag,↓qs,↓reduceIte,zga,zgb,zgd,zge,zgc,zgo,zfe,zgf,zgg,List.drop_nil,zgm,zgl,zgn,zgj,zgk,zgh,Nat.reduceAdd,Nat.reduceEqDiff,Nat.reduceBEq,Nat.reduceLT,Nat.reduceLeDiff,reduceCtorEq,zgv,zfc,Bool.not_false,zfa,zgx,ne_eq,zfb,zff,zfd,Nat.add_zero,Nat.le_refl,zgy]
 try rfl
theorem q9t (hor : Int) {x : Lp} {b : List Evt} {cb : Bool} {i : Nat} {O : List Evt} {S : Sim} {H : List Evt} (h : WInv c i ⟨x,b,[],[],false⟩ O S H) (hf : f = true → x.procs = []) (hn : H.length ≤ 18000) :
  qaz (evL T) qfs [(.agg [(.fsl ((c.lps).map lpC) false),(.fsl ((c.progs).map qcs) false),(ii c.look),(ii c.fin),(ii c.cap)]),(.agg [(ii x.r0),(ii x.r1),(.fsl ((x.procs).map Pr.r) f),(ii x.sum)]),(.fsl ((b).map Evt.r) cb),(ii hor)] = some (.tup [(.agg [(ii ((WSt.run c hor 2000 ⟨x,b,[],[],false⟩).lp.r0)),(ii ((WSt.run c hor 2000 ⟨x,b,[],[],false⟩).lp.r1)),(.fsl (((WSt.run c hor 2000 ⟨x,b,[],[],false⟩).lp.procs).map Pr.r) f),(ii ((WSt.run c hor 2000 ⟨x,b,[],[],false⟩).lp.sum))]),(.fsl (((WSt.run c hor 2000 ⟨x,b,[],[],false⟩).box).map Evt.r) false),(.fsl (((WSt.run c hor 2000 ⟨x,b,[],[],false⟩).done).map Evt.r) false),(.fsl (((WSt.run c hor 2000 ⟨x,b,[],[],false⟩).sent).map Evt.r) false),(bb ((WSt.run c hor 2000 ⟨x,b,[],[],false⟩).over))]):=by
 obtain ⟨g1,g2,h1⟩:=qac9 hor h hf hn
 generalize WSt.run c hor 2000 ⟨x,b,[],[],false⟩ = w at *
 have h2:=q6i f w g1 g2 (.row 4 [[(ii 0),(ii 0),.fsl [] false,(ii 0)]] 0) (.row 1 [[.ptr 3 0 0 0]] 0) .dead (.loop ⟨[(4,(.fptr [(.fsl ((c.lps).map lpC) false),(.fsl ((c.progs).map qcs) false),(ii c.look),(ii c.fin),(ii c.cap)])),(13,.ptr 4 0 0 0)],[]⟩ [22] qe3 qe2 .exhausted none) (by simp only [Ev.SObj.lo,qax,qu,qg,qf,qaa,qag,zfc,zgy]) (by simp only [Ev.SObj.lo,qez,qg,qf,qaa,qag,Nat.reduceLT,zgv,zfc,zgy]) (by simp only [Ev.SObj.lo,zgy]) (by simp only [qc0,qbd,qae,Ev.SObj.lo,qax,qu,qbt,qez,qg,qf,Nat.reduceLT,zgv,zfc,zgy])
 have h2':=q6i f w g1 g2 (.row 4 [[(ii 0),(ii 0),.fsl [] false,(ii 0)]] 0) (.row 1 [[.ptr 3 0 0 0]] 0) .defr (.loop ⟨[(4,(.fptr [(.fsl ((c.lps).map lpC) false),(.fsl ((c.progs).map qcs) false),(ii c.look),(ii c.fin),(ii c.cap)])),(13,.ptr 4 0 0 0)],[]⟩ [22] qe3 qe2 .exhausted none) (by simp only [Ev.SObj.lo,qax,qu,qg,qf,qaa,qag,zfc,zgy]) (by simp only [Ev.SObj.lo,qez,qg,qf,qaa,qag,Nat.reduceLT,zgv,zfc,zgy]) (by simp only [Ev.SObj.lo,zgy]) (by simp only [qc0,qbd,qae,Ev.SObj.lo,qax,qu,qbt,qez,qg,qf,Nat.reduceLT,zgv,zfc,zgy])
 have hev : ∀ σ : qac,(evL T).call qdx [.ptr 3 0 0 0,(ii hor)] σ = some (.fn (.func qcz) [] [.fptr [.ptr 3 0 0 0],.fptr [(ii hor)]],σ):=fun σ => by
  rw [qy qp6 qo4]
  simp only [qg0,ite_self,List.take_length,qn,Ev.exec,qb,qe,qc,qaj,Ev.evs,Ev.Opnd.ev,Ev.Env.get,Ev.Env.set,Ev.look,qo,Ev.AV.cells,Ev.AV.uc,qx,Ev.AV.plain,qm,qab,qak,Ev.kill,qai,qax,qbt,qez,qfc,qg,qf,List.take_length,↓qs,↓reduceIte,zga,zgb,Nat.reduceAdd,Nat.reduceEqDiff,reduceCtorEq,zfc,Bool.and_true,Bool.true_and,zgx,ne_eq,zfb,zff,zfd,zgy]
 have tk1 : List.take w.done.length (w.done.map Evt.r) = w.done.map Evt.r:=List.take_of_length_le (by simp)
 have tk2 : List.take w.sent.length (w.sent.map Evt.r) = w.sent.map Evt.r:=List.take_of_length_le (by simp)
 have hle : ∀ n : Nat,n ≤ n:=fun n => Nat.le_refl n
 simp only [pS,pL,List.map_nil,zgb] at h1
 rw [qaz,qy qu8 qur]
 simp only [qlp,hev,h1,h2',tk1,tk2,hle,qaa2 qkm,qv,qap,qn,qqc,Ev.exec,qb,qe,qc,qd6,qaj,q62,Ev.evs,Ev.Opnd.ev,Ev.Env.get,Ev.Env.set,Ev.look,qo,qh,qad,qgp,Ev.AV.cells,Ev.AV.uc,qx,Ev.AV.plain,qm,qab,qak,Ev.kill,qai,Ev.keep,qd,qax,qbe,qa3,qu,qbj,qg,qf,qal,qsu,qfw,qea,qfm,qd8,zgi,↓qs,↓reduceIte,zga,zgb,zgd,zge,zgc,zgo,zfe,zgf,zgg,List.drop_nil,zgm,zgl,zgn,zgj,zgk,zgh,Nat.reduceAdd,Nat.reduceEqDiff,Nat.reduceLT,Nat.reduceLeDiff,reduceCtorEq,zgw,zfc,Bool.and_true,zfa,zgx,and_true,ne_eq,zfb,zff,zfd,zgy,Bool.and_false]
end
set_option maxRecDepth 10000
structure SimSt (n : Nat) (s : Sim) (L : List (Lp × Bool)) (A : qac) (O : List (List AV)) : Prop where
 len : A.length = n + 1
 lps : A[0]? = some (.row 4 (L.map lpF) 1)
 lpl : L.length = n
 lpf : L.map Prod.fst = s.lps
 flag : ∀ x ∈ L,x.2 = true → x.1.procs = []
 trl : s.trace.length = n
 ol : O.length = n
 tr : ∀ i : Nat,i < n → ∃ g,A[i + 1]? = some (.row 6 ((qrq s i).map Evt.r) g) ∧ O[i]? = some [.sl (i + 1) g 0 (qrq s i).length false]
 alo : qd (n + 1) A = true
 olo : qhl (n + 1) O = true
structure Pre (A : qac) (n : Nat) : Prop where
 len : A.length = n + 1
section
variable {A : qac} {n : Nat} (h : A.length = n + 1) (B : qac) (x : SObj)
include h
theorem pre_g1 : (A ++ B)[n + 1]? = B[0]?:=by rw [← h,List.getElem?_append_right (Nat.le_refl _),Nat.sub_self]
theorem pre_g2 : (A ++ B)[n + 2]? = B[1]?:=by rw [List.getElem?_append_right (by omega)];congr 1;omega
theorem pre_s1 : (A ++ B).set (n + 1) x = A ++ B.set 0 x:=by rw [List.set_append,if_neg (by omega)];congr 2;omega
theorem pre_s2 : (A ++ B).set (n + 2) x = A ++ B.set 1 x:=by rw [List.set_append,if_neg (by omega)];congr 2;omega
theorem pre_old (i : Nat) (hi : i < n + 1) : (A ++ B)[i]? = A[i]?:=List.getElem?_append_left (by omega)
theorem pre_oldS (i : Nat) (hi : i < n + 1) : (A ++ B).set i x = A.set i x ++ B:=by rw [List.set_append,if_pos (by omega)]
end
section
variable (c : Cfg) (n : Nat) (A : qac) (O : List (List AV)) (hA : A.length = n + 1) (rest : List Evt) (e : Evt) (k : Int) (ov : Bool)
include hA
end
set_option maxRecDepth 10000
def qiv : List Evt → List Evt → List Evt
 | [],b => b
 | x :: ax,[] => x :: ax
 | x :: ax,y :: bs => if qqr y x < 0 then y :: qiv (x :: ax) bs else x :: qiv ax (y :: bs)
termination_by a b => a.length + b.length
theorem q3r (b : List Evt) : qiv [] b = b:=by rw [qiv]
theorem q7l (a : List Evt) : qiv a [] = a:=by cases a <;> rw [qiv]
theorem qo1 : ∀ (a b : List Evt),(qiv a b).Perm (a ++ b)
 | [],b => by rw [qiv];exact List.Perm.refl _
 | x :: ax,[] => by rw [qiv,List.append_nil]
 | x :: ax,y :: bs => by
  rw [qiv]
  split
  ·exact (List.Perm.cons y (qo1 (x :: ax) bs)).trans List.perm_middle.symm
  ·exact List.Perm.cons x (qo1 ax (y :: bs))
termination_by a b => a.length + b.length
theorem qrk : ∀ (a b : List Evt),a.Pairwise leE → b.Pairwise leE → (qiv a b).Pairwise leE
 | [],b,_,hb => by rw [qiv];exact hb
 | x :: ax,[],ha,_ => by rw [qiv];exact ha
 | x :: ax,y :: bs,ha,hb => by
  rw [qiv]
  have ha':=List.pairwise_cons.1 ha
  have hb':=List.pairwise_cons.1 hb
  split
  ·rename_i h
   refine List.pairwise_cons.2 ⟨fun z hz => ?_,qrk (x :: ax) bs ha hb'.2⟩
   rcases List.mem_append.1 ((qo1 _ _).mem_iff.1 hz) with hz | hz
   ·rcases List.mem_cons.1 hz with rfl | hz
    ·exact q2h y _ h
    ·exact qlk y x z (q2h y x h) (ha'.1 z hz)
   ·exact hb'.1 z hz
  ·rename_i h
   have hxy:=qqk y x h
   refine List.pairwise_cons.2 ⟨fun z hz => ?_,qrk ax (y :: bs) ha'.2 hb⟩
   rcases List.mem_append.1 ((qo1 _ _).mem_iff.1 hz) with hz | hz
   ·exact ha'.1 z hz
   ·rcases List.mem_cons.1 hz with rfl | hz
    ·exact hxy
    ·exact qlk x y z hxy (hb'.1 z hz)
termination_by a b => a.length + b.length
def mS (a b out : List Evt) (g : Nat) : qac:=[.row 1 [[(.fsl ((a).map Evt.r) false)]] 0,.row 1 [[(.fsl ((b).map Evt.r) false)]] 0,.row 6 (out.map Evt.r) g,.row 1 [[.sl 2 g 0 out.length false]] 0,.defr,.loop ⟨[(2,.ptr 3 0 0 0)],[]⟩ [7] qcb qcc .ready none]
theorem qy8 (a b out : List Evt) (g : Nat) (x : Evt) (h : out.length ≤ 1000000) : (evL T).round 5 [(.agg [(ii x.time),(.fsl ((x.key).map qb8) false),(ii x.lp),(ii x.kind),(ii x.proc),(ii x.arg)])] (mS a b out g) = some ((bb true),mS a b (out ++ [x]) (g + 1)):=by
 rw [q6h]
 have hb : (out.length + 1) * 64 ≤ 140737488355328:=by omega
 have htk : (out.map Evt.r).take out.length = out.map Evt.r:=List.take_of_length_le (by simp)
 have hr : (out ++ [x]).map Evt.r = out.map Evt.r ++ [x.r]:=by rw [List.map_append];rfl
 have hl : (out ++ [x]).length = out.length + 1:=by simp
 rw [mS,mS,hr,hl]
 obtain ⟨xt,xk,xl,xi,xp,xa⟩:=x
 simp only [qcb,qcc,hb,htk,qkc,Evt.r,qv,qah,qoa,qmg,Ev.exec,qb,qe,qc,qaj,qnz,Ev.Opnd.ev,Ev.Env.get,Ev.Env.set,Ev.look,qh,qbs,qad,qfl,Ev.AV.cells,Ev.AV.uc,qx,Ev.AV.plain,qai,qae,qd,Ev.SObj.lo,qax,qu,qbj,qez,qg,qf,qaa,qag,qbh,qa8,List.replicate_one,zgi,↓qs,↓reduceIte,zga,zgb,zgd,zge,zgc,zgo,zfe,zgf,zgg,List.drop_nil,zgm,zgl,zgn,zgj,zgk,zgh,Nat.reduceAdd,Nat.reduceEqDiff,Nat.reduceMul,Nat.reduceLT,Nat.reduceLeDiff,Nat.reducePow,zgv,zfc,zfa,zgx,ne_eq,zfb,zff,zfd,zgu,Nat.le_refl,zgy]
section
variable (a0 b0 : List Evt)
structure MgInv (s : (List Evt × List Evt) × (List Evt × Nat)) : Prop where
 sum : s.2.1 ++ qiv s.1.1 s.1.2 = qiv a0 b0
 len : s.2.1.length + (s.1.1.length + s.1.2.length) ≤ 1000000
 ka : qcj s.1.1
 kb : qcj s.1.2
theorem mg_L (hl : (a0 ++ b0).length ≤ 1000000) (ha : qcj a0) (hb : qcj b0) :
  ∃ y,itB (exec (evL T) itL none qdu) (qq [0,1,2] true 6) ⟨[(0,.yld 5),(1,.ptr 0 0 0 0),(2,.ptr 1 0 0 0)],[]⟩ (mS a0 b0 [] 0) = some y ∧ ∃ g : Nat,y.1 = .exit 0 ∧ y.2.1.marks = [] ∧ y.2.2 = mS [] [] (qiv a0 b0) g:=by
 have key:=qhe (f:=exec (evL T) itL none qdu) (s:=qq [0,1,2] true 6) (τ:=(List Evt × List Evt) × (List Evt × Nat)) (fun _ => ⟨[(0,.yld 5),(1,.ptr 0 0 0 0),(2,.ptr 1 0 0 0)],[]⟩) (fun s => mS s.1.1 s.1.2 s.2.1 s.2.2) (fun s => s.1.1.length + s.1.2.length)
  (MgInv a0 b0) (fun y => ∃ g : Nat,y.1 = .exit 0 ∧ y.2.1.marks = [] ∧ y.2.2 = mS [] [] (qiv a0 b0) g) ?_ ((a0,b0),([],0)) ⟨rfl,by simpa using hl,ha,hb⟩
 ·exact key
 rintro ⟨⟨a,b⟩,⟨out,g⟩⟩ ⟨h1,h2,h3,h4⟩
 simp only at h1 h2 h3 h4 ⊢
 have w00 : IntKind.i64.wrap 0 = 0:=rfl
 rcases a with _ | ⟨x,ax⟩ <;> rcases b with _ | ⟨y,bs⟩
 ·right
  rw [q3r,List.append_nil] at h1
  rw [← h1]
  simp only [qdu,mS,List.map_nil,Int.add_zero,w00,Int.lt_irrefl,gt_iff_lt,Ev.exec,qb,qe,qc,qaj,Ev.Opnd.ev,Ev.Env.get,Ev.Env.set,Ev.look,qh,qad,qaf,qau,↓qs,Ev.it1,↓reduceIte,zgb,zgd,zge,zgg,zgh,Nat.reduceEqDiff,Int.cast_ofNat_Int,reduceCtorEq,zgw,zfa,zgy]
  exact ⟨_,rfl,g,rfl,rfl,rfl⟩
 ·left
  have hr:=qy8 [] (y :: bs) out g y (by omega)
  refine ⟨(([],bs),(out ++ [y],g + 1)),?_,⟨?_,by simp at h2 ⊢;omega,h3,fun z hz => h4 z (List.mem_cons_of_mem _ hz)⟩,by simp⟩
  ·have w1 : IntKind.i64.wrap ((0 : Int) + ((bs.length + 1 : Nat) : Int)) = ((bs.length + 1 : Nat) : Int):=by simp at h2;rw [qas (by omega) (by omega)];omega
   have w2 : ((bs.length + 1 : Nat) : Int) > 0:=by omega
   have w3 : (1 : Int) ≤ ((bs.length + 1 : Nat) : Int):=by omega
   have tk : (bs.map Evt.r).take bs.length = bs.map Evt.r:=List.take_of_length_le (by simp)
   have ok:=qem bs
   clear h1 h4
   obtain ⟨yt,yk,yl,yi,yp,ya⟩:=y
   simp only [mS,List.map_cons,List.map_nil,Evt.r,zgp,zga,zgb,zfd] at hr
   simp only [qdu,mS,List.map_cons,List.map_nil,Evt.r,zgr,hr,w1,w2,w3,tk,ok,Int.le_refl,Nat.add_sub_cancel,imp_self,qv,Ev.exec,qb,qe,qc,qk9,qaj,Ev.evs,Ev.Opnd.ev,Ev.Env.get,Ev.Env.set,Ev.Env.unset,Ev.look,qfx,qh,qad,Ev.AV.cells,Ev.AV.uc,qx,Ev.AV.plain,qaf,qam,qau,qq,Ev.keep,qae,qw,qd,Ev.SObj.lo,qu,qbj,qez,qxr,qg,qf,qaa,qag,qa8,zgi,↓qs,Ev.it1,↓reduceIte,zga,zgb,zgp,zgd,zge,zgc,zgo,zfe,zgf,zgg,List.drop_nil,zgl,zgn,zgj,zgk,zgh,Nat.reduceAdd,Nat.reduceEqDiff,Nat.reduceLT,Int.reduceLE,Int.reduceToNat,Int.cast_ofNat_Int,reduceCtorEq,zgv,zfc,Bool.and_true,Bool.not_true,zfa,Bool.true_eq_false,zgx,zfd,zgu,Nat.le_refl,Option.isSome_none,zgy]
  ·rw [q3r] at h1 ⊢;rw [← h1];simp
 ·left
  have hr:=qy8 (x :: ax) [] out g x (by omega)
  refine ⟨((ax,[]),(out ++ [x],g + 1)),?_,⟨?_,by simp at h2 ⊢;omega,fun z hz => h3 z (List.mem_cons_of_mem _ hz),h4⟩,by simp⟩
  ·have w1 : IntKind.i64.wrap (((ax.length + 1 : Nat) : Int) + (0 : Int)) = ((ax.length + 1 : Nat) : Int):=by simp at h2;rw [qas (by omega) (by omega)];omega
   have w2 : ((ax.length + 1 : Nat) : Int) > 0:=by omega
   have w3 : (1 : Int) ≤ ((ax.length + 1 : Nat) : Int):=by omega
   have w4 : ¬ ((ax.length + 1 : Nat) : Int) = 0:=by omega
   have tk : (ax.map Evt.r).take ax.length = ax.map Evt.r:=List.take_of_length_le (by simp)
   have ok:=qem ax
   clear h1 h3
   obtain ⟨xt,xk,xl,xi,xp,xa⟩:=x
   simp only [mS,List.map_cons,List.map_nil,Evt.r,zgp,zga,zgb,zfd] at hr
   simp only [qdu,mS,List.map_cons,List.map_nil,Evt.r,zgr,hr,w1,w2,w3,w4,tk,ok,Int.lt_irrefl,gt_iff_lt,Int.le_refl,Nat.add_sub_cancel,imp_self,qv,Ev.exec,qb,qe,qc,qk9,qaj,Ev.evs,Ev.Opnd.ev,Ev.Env.get,Ev.Env.set,Ev.Env.unset,Ev.look,qfx,qh,qad,Ev.AV.cells,Ev.AV.uc,qx,Ev.AV.plain,qaf,qam,qau,qq,Ev.keep,qae,qw,qd,Ev.SObj.lo,qu,qbj,qez,qxr,qg,qf,qaa,qag,qa8,zgi,↓qs,Ev.it1,↓reduceIte,zga,zgb,zgp,zgd,zge,zgc,zgo,zfe,zgf,zgg,List.drop_nil,zgl,zgn,zgj,zgh,Nat.reduceAdd,Nat.reduceEqDiff,Nat.reduceLT,Int.reduceLE,Int.reduceToNat,Int.cast_ofNat_Int,reduceCtorEq,zgv,zgw,zfc,Bool.and_true,Bool.not_true,zfa,zgx,zfd,zgu,Nat.le_refl,Option.isSome_none,zgy]
  ·rw [q7l] at h1 ⊢;rw [← h1];simp
 ·left
  have w1 : IntKind.i64.wrap (((ax.length + 1 : Nat) : Int) + ((bs.length + 1 : Nat) : Int)) = ((ax.length + 1 + (bs.length + 1) : Nat) : Int):=qmh (by simp at h2;omega)
  have w2 : ((ax.length + 1 + (bs.length + 1) : Nat) : Int) > 0:=by omega
  have w3 : (1 : Int) ≤ ((ax.length + 1 : Nat) : Int):=by omega
  have w4 : ¬ ((ax.length + 1 : Nat) : Int) = 0:=by omega
  have w5 : ((bs.length + 1 : Nat) : Int) > 0:=by omega
  have w6 : (1 : Int) ≤ ((bs.length + 1 : Nat) : Int):=by omega
  have hc:=qrx y x (h4 y (by simp)) (h3 x (by simp))
  by_cases hlt : qqr y x < 0
  ·have hr:=qy8 (x :: ax) (y :: bs) out g y (by omega)
   refine ⟨((x :: ax,bs),(out ++ [y],g + 1)),?_,⟨?_,by simp at h2 ⊢;omega,h3,fun z hz => h4 z (List.mem_cons_of_mem _ hz)⟩,by simp⟩
   ·have tk : (bs.map Evt.r).take bs.length = bs.map Evt.r:=List.take_of_length_le (by simp)
    have ok:=qem bs
    clear h1 h3 h4
    obtain ⟨xt,xk,xl,xi,xp,xa⟩:=x
    obtain ⟨yt,yk,yl,yi,yp,ya⟩:=y
    simp only at hc
    simp only [mS,List.map_cons,Evt.r,zgp,zga,zgb,zfd] at hr
    simp only [qdu,mS,List.map_cons,Evt.r,zgr,hr,hc,hlt,w1,w2,w4,w5,w6,tk,ok,Int.le_refl,Nat.add_sub_cancel,imp_self,qv,qah,Ev.exec,qb,qe,qc,qa0,qk9,qaj,Ev.evs,Ev.Opnd.ev,Ev.Env.get,Ev.Env.set,Ev.look,qfx,qh,qad,Ev.AV.cells,Ev.AV.uc,qx,Ev.AV.plain,qaf,qam,ql,qau,qq,Ev.keep,qae,qw,qd,Ev.SObj.lo,qax,qbe,qu,qbj,qez,qxr,qg,qf,qaa,qag,qa8,zgi,↓qs,Ev.it1,↓reduceIte,zga,zgb,zgp,zgd,zge,zgc,zgo,zfe,zgf,zgg,List.drop_nil,zgl,zgn,zgj,zgk,zgh,Nat.reduceAdd,Nat.reduceEqDiff,Nat.reduceLT,Int.reduceLE,Int.reduceToNat,reduceCtorEq,zgv,zgw,zfc,Bool.and_true,Bool.not_true,zfa,zgx,zfd,zgu,Nat.le_refl,Option.isSome_none,zgy]
   ·rw [qiv,if_pos hlt] at h1;rw [← h1];simp
  ·have hr:=qy8 (x :: ax) (y :: bs) out g x (by omega)
   refine ⟨((ax,y :: bs),(out ++ [x],g + 1)),?_,⟨?_,by simp at h2 ⊢;omega,fun z hz => h3 z (List.mem_cons_of_mem _ hz),h4⟩,by simp⟩
   ·have tk : (ax.map Evt.r).take ax.length = ax.map Evt.r:=List.take_of_length_le (by simp)
    have ok:=qem ax
    clear h1 h3 h4
    obtain ⟨xt,xk,xl,xi,xp,xa⟩:=x
    obtain ⟨yt,yk,yl,yi,yp,ya⟩:=y
    simp only at hc
    simp only [mS,List.map_cons,Evt.r,zgp,zga,zgb,zfd] at hr
    simp only [qdu,mS,List.map_cons,Evt.r,zgr,hr,hc,hlt,w1,w2,w3,w4,w5,tk,ok,Int.le_refl,Nat.add_sub_cancel,imp_self,qv,qah,Ev.exec,qb,qe,qc,qa0,qk9,qaj,Ev.evs,Ev.Opnd.ev,Ev.Env.get,Ev.Env.set,Ev.look,qfx,qh,qad,Ev.AV.cells,Ev.AV.uc,qx,Ev.AV.plain,qaf,qam,ql,qau,qq,Ev.keep,qae,qw,qd,Ev.SObj.lo,qax,qbe,qu,qbj,qez,qxr,qg,qf,qaa,qag,qa8,zgi,↓qs,Ev.it1,↓reduceIte,zga,zgb,zgp,zgd,zge,zgc,zgo,zfe,zgf,zgg,List.drop_nil,zgl,zgn,zgj,zgh,Nat.reduceAdd,Nat.reduceEqDiff,Nat.reduceLT,Int.reduceLE,Int.reduceToNat,reduceCtorEq,zgv,zgw,zfc,Bool.and_true,Bool.not_true,zfa,zgx,zfd,zgu,Nat.le_refl,Option.isSome_none,zgy]
   ·rw [qiv,if_neg hlt] at h1;rw [← h1];simp
theorem q63 (hl : (a0 ++ b0).length ≤ 1000000) (ha : qcj a0) (hb : qcj b0) : ∃ g : Nat,(evL T).call qdp [.yld 5,.ptr 0 0 0 0,.ptr 1 0 0 0] (mS a0 b0 [] 0) = some (.tup [],mS [] [] (qiv a0 b0) g):=by
 obtain ⟨⟨y,e,σ⟩,h1,g,h2,h3,h4⟩:=mg_L a0 b0 hl ha hb
 simp only at h2 h3 h4
 subst h2;subst h4
 refine ⟨g,?_⟩
 rw [qy qnq qsi]
 have hn : ∀ (a b out : List Evt) (g : Nat),(mS a b out g).length = 6:=fun _ _ _ _ => rfl
 have ht : ∀ (a b out : List Evt) (g : Nat),(mS a b out g).take 6 = mS a b out g:=fun _ _ _ _ => rfl
 have hlo : ∀ (a b out : List Evt) (g : Nat),qd 6 (mS a b out g) = true:=fun a b out g => by simp only [mS,qv,qae,qd,Ev.SObj.lo,qu,qbj,qez,qg,qf,qaa,qag,Nat.reduceLT,zgv,zfc,zgy]
 simp only [qkf,hn,ht,hlo,h1,h3,qn,Ev.exec,Ev.Env.get,Ev.look,qo,qm,qak,Ev.kill,qai,qq,Ev.keep,qae,qw,qa3,qez,qxr,qg,↓qs,↓qan,↓reduceIte,zga,zgb,Nat.reduceAdd,Nat.reduceEqDiff,Nat.reduceLT,reduceCtorEq,zgv,zfc,zgx,zfd,zgu,zgy]
theorem q6z (hl : (a0 ++ b0).length ≤ 1000000) (ha : qcj a0) (hb : qcj b0) : ∃ (g : Nat) (τ : qac),(evL T).call qa7 [.fsl [] true,.fn (.func qdp) [] [.ptr 0 0 0 0,.ptr 1 0 0 0]] [.row 1 [[(.fsl ((a0).map Evt.r) false)]] 0,.row 1 [[(.fsl ((b0).map Evt.r) false)]] 0] =
  some (.sl 2 g 0 (qiv a0 b0).length false,[.row 1 [[(.fsl (([]).map Evt.r) false)]] 0,.row 1 [[(.fsl (([]).map Evt.r) false)]] 0,.row 6 ((qiv a0 b0).map Evt.r) g] ++ τ):=by
 obtain ⟨g,h⟩:=q63 a0 b0 hl ha hb
 simp only [mS,List.map_nil,zgb] at h
 refine ⟨g,[.row 1 [[.sl 2 g 0 (qiv a0 b0).length false]] 0,.dead,.loop ⟨[(2,.ptr 3 0 0 0)],[]⟩ [7] qcb qcc .exhausted none],?_⟩
 rw [qy qib qh4]
 simp only [qco,h,qaa2 qnq,List.map_nil,qn,qqc,Ev.exec,qb,qe,qc,qaj,Ev.Opnd.ev,Ev.Env.get,Ev.Env.set,Ev.look,qo,qh,qad,qm,qab,qak,Ev.kill,qai,Ev.keep,qd,Ev.SObj.lo,qu,qbj,qg,qf,qaa,qag,↓qs,↓reduceIte,zga,zgb,zgd,zge,zgc,zgo,zgg,zgm,zgl,zgj,zgk,zgh,Nat.reduceAdd,Nat.reduceEqDiff,Nat.reduceLT,reduceCtorEq,zgw,zfc,zfa,and_true,ne_eq,zfb,zfd,zgy]
theorem qwy (c d : Bool) : (evL T).call qgu [(.fsl ((a0).map Evt.r) c),(.fsl ((b0).map Evt.r) d)] [] = some (.fn (.func qdp) [] [.ptr 0 0 0 0,.ptr 1 0 0 0],[.row 1 [[(.fsl ((a0).map Evt.r) false)]] 0,.row 1 [[(.fsl ((b0).map Evt.r) false)]] 0]):=by
 rw [qy qu9 quv]
 simp only [qlq,qn,Ev.exec,qb,qe,qc,qaj,Ev.evs,Ev.Opnd.ev,Ev.Env.get,Ev.Env.set,Ev.look,qo,Ev.AV.cells,Ev.AV.uc,qx,Ev.AV.plain,qm,qab,qak,Ev.kill,qai,qd,qez,qfc,qg,qf,↓qs,↓reduceIte,zga,zgb,zgo,zgm,zgl,Nat.reduceAdd,Nat.reduceEqDiff,Nat.reduceLT,reduceCtorEq,zgw,zfc,Bool.and_true,zfa,zgx,and_true,ne_eq,zfb,zff,zfd,zgy,Bool.and_false]
theorem q94 (hl : (a0 ++ b0).length ≤ 1000000) (ha : qcj a0) (hb : qcj b0) : ∃ (g : Nat) (τ : qac),(evL T).call qcu [.fn (.func qdp) [] [.ptr 0 0 0 0,.ptr 1 0 0 0]] [.row 1 [[(.fsl ((a0).map Evt.r) false)]] 0,.row 1 [[(.fsl ((b0).map Evt.r) false)]] 0] =
  some (.sl 2 g 0 (qiv a0 b0).length false,[.row 1 [[.fsl [] false]] 0,.row 1 [[.fsl [] false]] 0,.row 6 ((qiv a0 b0).map Evt.r) g] ++ τ):=by
 obtain ⟨g,τ,h⟩:=q6z a0 b0 hl ha hb
 refine ⟨g,τ,?_⟩
 simp only [List.map_nil,zgm,zgl] at h ⊢
 rw [qy qmt qmo]
 simp only [qey,h,qn,Ev.exec,qb,qe,qc,qd6,qaj,Ev.evs,Ev.Opnd.ev,Ev.Env.get,Ev.Env.set,Ev.look,qo,qm,qab,qak,Ev.kill,qai,qd,Ev.SObj.lo,qu,qbj,qg,qf,qaa,qag,↓qs,↓reduceIte,zga,zgb,zgc,zgo,Nat.reduceAdd,Nat.reduceLT,reduceCtorEq,zgw,zfc,zfa,and_true,zfd,zgy]
theorem qyh (c d : Bool) (hl : (a0 ++ b0).length ≤ 1000000) (hk : qcj (a0 ++ b0)) (hs : a0.Pairwise leE) (hd : qr1 (a0 ++ b0)) : qaz (evL T) qhf [(.fsl ((a0).map Evt.r) c),(.fsl ((b0).map Evt.r) d)] = some (.fsl ((sortL (a0 ++ b0)).map Evt.r) false):=by
 have ka : qcj a0:=fun z hz => hk z (List.mem_append_left _ hz)
 have kb : qcj b0:=fun z hz => hk z (List.mem_append_right _ hz)
 have hlb : b0.length ≤ 1000000:=by rw [List.length_append] at hl;omega
 have h1:=qtg b0 d hlb kb (hd.sub (List.sublist_append_right a0 b0))
 have h2:=qwy a0 (sortL b0) c false
 obtain ⟨g,τ,h3⟩:=q94 a0 (sortL b0) (by rw [List.length_append,ql3,← List.length_append];exact hl) ka kb.sortL
 have hp : (qiv a0 (sortL b0)).Perm (a0 ++ b0):=(qo1 _ _).trans (List.Perm.append_left a0 (qd0 b0))
 have he:=ql8 hd hp (qrk _ _ hs (qgc b0))
 rw [he] at h3
 generalize sortL (a0 ++ b0) = R at *
 have htk : (R.map Evt.r).take R.length = R.map Evt.r:=List.take_of_length_le (by simp)
 simp only [zgm,zgl] at h3
 have s1 : qi1 0 ([] : List AV) = []:=by simp only [qi1]
 have s2 : qi1 0 [AV.ptr 0 0 0 0,AV.ptr 1 0 0 0] = [AV.ptr 0 0 0 0,AV.ptr 1 0 0 0]:=by simp only [qi1,AV.shift,Nat.add_zero]
 rw [qaz,qy qwp qv3]
 simp only [qmn,s1,s2,h1,h2,h3,htk,qv,qn,Ev.exec,qb,qe,qc,qa0,qqj,qd6,q4e,Ev.AV.shift,qaj,Ev.evs,Ev.Opnd.ev,Ev.Env.get,Ev.Env.set,Ev.look,qo,qm,qab,qak,Ev.kill,qai,qd,qu,qbj,qg,qf,qaa,qag,qfw,qea,qfm,qd8,qf1,zgi,↓qs,↓reduceIte,zga,zgb,zgd,zge,zgo,zgg,zgl,Nat.reduceAdd,Nat.reduceEqDiff,Nat.reduceLT,reduceCtorEq,zgw,zfc,zfa,zgx,and_true,zfd,Nat.le_refl,zgy]
end
set_option maxRecDepth 10000
def qbu (bs : List (List Evt)) (l : List Evt) : List (List Evt):=bs.mapIdx fun i b => sortL (b ++ qbq l i)
structure DSt (n : Nat) (B : List (List AV)) (t : Nat → List Evt) (A : qac) (O : List (List AV)) : Prop where
 len : A.length = n + 1
 box : A[0]? = some (.row 1 B 0)
 ol : O.length = n
 tr : ∀ i : Nat,i < n → ∃ g,A[i + 1]? = some (.row 6 ((t i).map Evt.r) g) ∧ O[i]? = some [.sl (i + 1) g 0 (t i).length false]
 alo : qd (n + 1) A = true
 olo : qhl (n + 1) O = true
theorem q8w {n : Nat} : ∀ {O : List (List AV)} (i : Nat) (x : List AV),qhl n O = true → los n x = true → qhl n (O.set i x) = true
 | [],i,x,h,_ => h
 | a :: O,0,x,h,hx => by
  simp only [qag,Bool.and_eq_true] at h
  rw [List.set_cons_zero,qag,hx,h.2];rfl
 | a :: O,i + 1,x,h,hx => by
  simp only [qag,Bool.and_eq_true] at h
  rw [List.set_cons_succ,qag,h.1,q8w i x h.2 hx];rfl
theorem DSt.step {n : Nat} {B : List (List AV)} {t : Nat → List Evt} {A : qac} {O : List (List AV)} (S : DSt n B t A O) {i : Nat} (hi : i < n) (e : Evt) {g : Nat} :
  DSt n B (fun j => if i = j then t i ++ [e] else t j) (A.set (i + 1) (.row 6 ((t i ++ [e]).map Evt.r) (g + 1))) (O.set i [.sl (i + 1) (g + 1) 0 ((t i).length + 1) false]):=by
 have c1 : i + 1 < n + 1:=by omega
 refine ⟨by rw [List.length_set];exact S.len,by rw [List.getElem?_set_ne (by omega)];exact S.box,by rw [List.length_set];exact S.ol,fun j hj => ?_,qmx S.alo _ (show qhl (n + 1) _ = true from qv _ _),q8w i _ S.olo (by simp only [qf,qg,qbj,c1,zgv,zfc])⟩
 by_cases e1 : i = j
 ·subst e1
  exact ⟨g + 1,by rw [if_pos rfl,List.getElem?_set_self (by rw [S.len];omega)],by rw [if_pos rfl,List.getElem?_set_self (by rw [S.ol];omega),List.length_append];rfl⟩
 ·obtain ⟨g',h1,h2⟩:=S.tr j hj
  exact ⟨g',by rw [if_neg e1,List.getElem?_set_ne (by omega)];exact h1,by rw [if_neg e1,List.getElem?_set_ne e1];exact h2⟩
section
variable (n : Nat) (B : List (List AV)) (D : List Evt) (cd : Bool)
theorem q9p (hD : D.length ≤ 1000000) (hl : ∀ e ∈ D,0 ≤ e.lp ∧ e.lp < (n : Int)) (cb : Bool) {A : qac} {O : List (List AV)} (S : DSt n B (fun _ => []) A O) :
  ∃ y,itB (exec (evL T) itL none qhg) (qq [5,6,17,18,19] true (n + 2)) ⟨[(5,.sl 0 0 0 n cb),(6,.sl (n + 1) 0 0 n true),(17,(.fsl ((D).map Evt.r) cd)),(18,(ii D.length)),(19,(ii ((0 : Nat))))],[]⟩ (A ++ [.row 1 O 0]) = some y ∧
   ∃ (A' : qac) (O' : List (List AV)),DSt n B (fun i => qbq D i) A' O' ∧ y.1 = .exit 0 ∧ y.2.1.marks = [] ∧ y.2.2 = A' ++ [.row 1 O' 0] ∧ Ev.look y.2.1.vars 5 = some (.sl 0 0 0 n cb) ∧ Ev.look y.2.1.vars 6 = some (.sl (n + 1) 0 0 n true):=by
 have key:=qen (f:=exec (evL T) itL none qhg) (s:=qq [5,6,17,18,19] true (n + 2)) (α:=qac × List (List AV))
  (fun i a => ⟨[(5,.sl 0 0 0 n cb),(6,.sl (n + 1) 0 0 n true),(17,(.fsl ((D).map Evt.r) cd)),(18,(ii D.length)),(19,(ii i))],[]⟩) (fun _ a => a.1 ++ [.row 1 a.2 0]) (fun i a => DSt n B (fun j => qbq (D.take i) j) a.1 a.2) D.length
  (fun y => ∃ (A' : qac) (O' : List (List AV)),DSt n B (fun i => qbq D i) A' O' ∧ y.1 = .exit 0 ∧ y.2.1.marks = [] ∧ y.2.2 = A' ++ [.row 1 O' 0] ∧ Ev.look y.2.1.vars 5 = some (.sl 0 0 0 n cb) ∧ Ev.look y.2.1.vars 6 = some (.sl (n + 1) 0 0 n true)) ?_ ?_ 0 (A,O) (Nat.zero_le _) S
 ·exact key
 ·rintro k ⟨A,O⟩ hk S
  simp only at S ⊢
  obtain ⟨e,he⟩ : ∃ e,D[k]? = some e:=⟨_,List.getElem?_eq_getElem hk⟩
  have hk' : (k : Int) < (D.length : Int):=by omega
  have hw : IntKind.i64.wrap ((k : Int) + 1) = ((k + 1 : Nat) : Int):=by rw [qas (by omega) (by omega)];simp
  obtain ⟨l1,l2⟩:=hl e (List.mem_of_getElem? he)
  obtain ⟨i,hi⟩ : ∃ i : Nat,e.lp = i:=⟨_,(Int.toNat_of_nonneg l1).symm⟩
  have hin : i < n:=by omega
  obtain ⟨g,t1,t2⟩:=S.tr i hin
  have hS:=S.step hin e (g:=g)
  have ht : (fun j => if i = j then qbq (D.take k) i ++ [e] else qbq (D.take k) j) = (fun j => qbq (D.take (k + 1)) j):=by
   funext j
   rw [List.take_add_one,he]
   show _ = qbq (D.take k ++ [e]) j
   unfold qbq
   rw [List.filter_append,List.filter_cons,List.filter_nil]
   by_cases e1 : i = j
   ·subst e1;rw [if_pos rfl,if_pos (by simpa using hi)]
   ·rw [if_neg e1,if_neg (by simp only [decide_eq_true_eq];omega),List.append_nil]
  rw [ht] at hS
  refine .inl ⟨(A.set (i + 1) (.row 6 ((qbq (D.take k) i ++ [e]).map Evt.r) (g + 1)),O.set i [.sl (i + 1) (g + 1) 0 ((qbq (D.take k) i).length + 1) false]),?_,hS⟩
  simp only
  have hA:=S.len
  have hown : (qbq (D.take k) i).length ≤ 1000000:=by
   unfold qbq
   have:=List.length_filter_le (fun e : Evt => decide (e.lp = i)) (D.take k)
   have:=List.length_take_le' k D;omega
  generalize qbq (D.take k) i = t at *
  have p1:=fun B => pre_old hA B (i + 1) (by omega)
  have p2:=fun B x => pre_oldS hA B x (i + 1) (by omega)
  have b1 : ((n + 1) == (i + 1)) = false:=by rw [beq_eq_false_iff_ne];omega
  have b2 : ((n + 2) == (i + 1)) = false:=by rw [beq_eq_false_iff_ne];omega
  have b3 : ((n + 2) == n + 2) = true:=by simp
  have tk : List.take t.length (t.map Evt.r) = t.map Evt.r:=List.take_of_length_le (by simp)
  have bd : (t.length + 1) * 64 ≤ 140737488355328:=by omega
  have hA2 : ∀ v,(A.set (i + 1) v).length = n + 1:=fun v => by rw [List.length_set];exact hA
  have q1:=fun v B => pre_g1 (hA2 v) B
  have q2:=fun v B => pre_g2 (hA2 v) B
  have q4:=fun v B x => pre_s1 (hA2 v) B x
  have hle : t.length ≤ t.length:=Nat.le_refl _
  have lo1 : qd (n + 2) (A.set (i + 1) (.row 6 ((t ++ [e]).map Evt.r) (g + 1))) = true:=qma (by omega) hS.alo
  have lo2 : qhl (n + 2) (O.set i [.sl (i + 1) (g + 1) 0 (t.length + 1) false]) = true:=qlg (by omega) _ hS.olo
  have t3 : ∀ v (B : qac),(A.set (i + 1) v ++ B).take (n + 2) = A.set (i + 1) v ++ B.take 1:=fun v B => by
   rw [List.take_append,List.take_of_length_le (by rw [hA2];omega),hA2];congr 2;omega
  have d0 : 0 < n + 2:=by omega
  have d1 : n + 1 < n + 2:=by omega
  rw [List.map_append] at lo1 ⊢
  obtain ⟨et,ek,el,ei,ep,ea⟩:=e
  simp only at hi
  subst hi
  simp only [List.map_cons,List.map_nil,Evt.r] at lo1 ⊢
  simp only [qhg,zgs,zgr,zgq,zgt,he,hk',hw,pre_g1 hA,pre_g2 hA,pre_s2 hA,hA,Nat.add_assoc,List.append_assoc,p1,p2,q1,q4,t1,t2,b2,b3,tk,bd,hle,hin,lo1,lo2,t3,d0,d1,qm0,Evt.r,qv,Ev.exec,qb,qe,qc,qaas,qaj,qnz,Ev.Opnd.ev,Ev.Env.get,Ev.Env.set,Ev.look,qh,qbs,qad,qfl,Ev.AV.cells,Ev.AV.uc,qx,Ev.AV.plain,qaf,ql,qq,Ev.keep,qae,qw,qd,Ev.SObj.lo,qax,qu,qbj,qnu,Ev.AV.obj?,qbh,qa8,List.replicate_one,zgi,↓qs,Ev.it1,↓reduceIte,zga,zgb,zgp,zgd,zge,zgc,zgo,zfe,zgf,zgg,List.drop_nil,zgm,zgl,zgn,zgj,zgk,zgh,Nat.reduceAdd,Nat.reduceEqDiff,Nat.reduceMul,Nat.reduceLeDiff,Nat.reducePow,zgv,zfc,Bool.not_false,zfa,zgx,ne_eq,zfb,zff,zfd,zgu,Nat.le_refl,zgy]
 ·rintro ⟨A,O⟩ S
  simp only [List.take_length] at S
  have hA:=S.len
  have lo1 : qd (n + 2) A = true:=qma (by omega) S.alo
  have lo2 : qhl (n + 2) O = true:=qlg (by omega) _ S.olo
  have t3 : ∀ (B : qac),(A ++ B).take (n + 2) = A ++ B.take 1:=fun B => by
   rw [List.take_append,List.take_of_length_le (by omega)];congr 2;omega
  have d0 : 0 < n + 2:=by omega
  have d1 : n + 1 < n + 2:=by omega
  simp only [qhg,Int.lt_irrefl,Ev.exec,qb,qe,qc,qaj,Ev.Opnd.ev,Ev.Env.get,Ev.Env.set,Ev.look,ql,↓qs,Ev.it1,↓reduceIte,Nat.reduceEqDiff,zgw,zfa,zgy]
  exact ⟨_,rfl,A,O,S,rfl,rfl,rfl,rfl,rfl⟩
theorem q9s (D : List Evt) (bs : List (List Evt)) (hbn : bs.length = n) (hn : n ≤ 1000) (hD : (bs.flatten ++ D).length ≤ 1000000) (hk : qcj (bs.flatten ++ D)) (hs : ∀ b ∈ bs,b.Pairwise leE) (hd : ∀ i b,bs[i]? = some b → qr1 (b ++ qbq D i)) (cb : Bool) {A : qac} {O : List (List AV)} (S : DSt n (bs.map qbc) (fun i => qbq D i) A O) :
  ∃ y,itB (exec (evL T) itL none qf3) (qq [5,36,37,38] true (n + 2)) ⟨[(5,.sl 0 0 0 n cb),(36,.sl (n + 1) 0 0 n true),(37,(ii n)),(38,(ii ((0 : Nat))))],[]⟩ (A ++ [.row 1 O 0]) = some y ∧
   (y.1 = .exit 2 ∧ y.2.1.marks = [] ∧ ∃ X : qac,y.2.2 = .row 1 ((qbu bs D).map qbc) 0 :: X) ∧ Ev.look y.2.1.vars 5 = some (.sl 0 0 0 n cb):=by
 have mem : ∀ {i : Nat} {b : List Evt},bs[i]? = some b → ∀ e ∈ b,e ∈ bs.flatten:=fun h e he => List.mem_flatten.2 ⟨_,List.mem_of_getElem? h,he⟩
 have bl : ∀ {i : Nat} {b : List Evt},bs[i]? = some b → b.length ≤ bs.flatten.length:=fun h => (List.sublist_flatten_of_mem (List.mem_of_getElem? h)).length_le
 have hDl:=hD
 rw [List.length_append] at hDl
 have key:=qen (f:=exec (evL T) itL none qf3) (s:=qq [5,36,37,38] true (n + 2)) (α:=qac × List (List Evt))
  (fun i a => ⟨[(5,.sl 0 0 0 n cb),(36,.sl (n + 1) 0 0 n true),(37,(ii n)),(38,(ii i))],[]⟩) (fun _ a => .row 1 (a.2.map qbc) 0 :: a.1 ++ [.row 1 O 0])
  (fun i a => a.2.length = n ∧ (∀ j,j < n → a.2[j]? = if j < i then (qbu bs D)[j]? else bs[j]?) ∧ a.1.length = n ∧ qd (n + 1) a.1 = true ∧ ∀ j,i ≤ j → j < n → ∃ g,a.1[j]? = some (.row 6 ((qbq D j).map Evt.r) g) ∧ O[j]? = some [.sl (j + 1) g 0 (qbq D j).length false]) n
  (fun y => (y.1 = .exit 2 ∧ y.2.1.marks = [] ∧ ∃ X : qac,y.2.2 = .row 1 ((qbu bs D).map qbc) 0 :: X) ∧ Ev.look y.2.1.vars 5 = some (.sl 0 0 0 n cb)) ?_ ?_
 ·obtain ⟨A0,hA0,hAl⟩ : ∃ A0 : qac,A = .row 1 (bs.map qbc) 0 :: A0 ∧ A0.length = n:=by
   have hb:=S.box;have hl:=S.len
   cases A with
   | nil => simp at hb
   | cons a A0 => simp only [zgd,Option.some.injEq] at hb;exact ⟨A0,by rw [hb],by simpa using hl⟩
  rw [hA0]
  refine key 0 (A0,bs) (Nat.zero_le _) ⟨hbn,fun j hj => by rw [if_neg (by omega)],hAl,?_,fun j _ hj => ?_⟩
  ·have:=S.alo;rw [hA0,ql2] at this;rw [ql2];exact fun x hx => this x (List.mem_cons_of_mem _ hx)
  ·have:=S.tr j hj;rw [hA0,List.getElem?_cons_succ] at this;exact this
 ·rintro i ⟨A1,L⟩ hi ⟨h1,h2,h3,h4,h5⟩
  simp only at h1 h2 h3 h4 h5 ⊢
  obtain ⟨g,t1,t2⟩:=h5 i (Nat.le_refl _) hi
  obtain ⟨b,hb⟩ : ∃ b,bs[i]? = some b:=⟨_,List.getElem?_eq_getElem (by omega)⟩
  have hLi : L[i]? = some b:=by rw [h2 i hi,if_neg (by omega),hb]
  have hdl : (qbu bs D)[i]? = some (sortL (b ++ qbq D i)):=by unfold qbu;rw [List.getElem?_mapIdx,hb];rfl
  have hi' : (i : Int) < (n : Int):=by omega
  have hw : IntKind.i64.wrap ((i : Int) + 1) = ((i + 1 : Nat) : Int):=by rw [qas (by omega) (by omega)];simp
  have lo1 : qd (n + 2) A1 = true:=qma (by omega) h4
  have lo2 : qhl (n + 2) O = true:=qlg (by omega) _ S.olo
  have loL:=qdk (n + 2) L
  have d0 : 0 < n + 2:=by omega
  have d1 : n + 1 < n + 2:=by omega
  have g1 : ∀ x : SObj,(x :: (A1 ++ [.row 1 O 0]))[n + 1]? = some (.row 1 O 0):=fun x => by
   rw [List.getElem?_cons_succ,List.getElem?_append_right (by omega),h3];simp
  have tk0 : ∀ x : SObj,List.take (n + 2) (x :: (A1 ++ [.row 1 O 0])) = x :: (A1 ++ [.row 1 O 0]):=fun x => List.take_of_length_le (by simp;omega)
  have hnl : ∀ x : SObj,(x :: (A1 ++ [.row 1 O 0])).length = n + 2:=fun x => by simp [h3]
  by_cases ho : (qbq D i).length = 0
  ·have ho':=List.eq_nil_of_length_eq_zero ho
   have hds : sortL (b ++ qbq D i) = b:=by
    rw [ho',List.append_nil]
    have:=hd i b hb
    rw [ho',List.append_nil] at this
    exact (q39 this (hs b (List.mem_of_getElem? hb))).symm
   refine .inl ⟨(A1,L),?_,h1,fun j hj => ?_,h3,h4,fun j hj1 hj2 => h5 j (by omega) hj2⟩
   ·have c0 : ¬ ((0 : Nat) : Int) > 0:=by omega
    rw [ho] at t2
    simp only [qf3,zgs,zgr,hi',hi,hw,g1,t2,lo1,lo2,loL,d0,d1,tk0,qm0,zgm,gt_iff_lt,Int.lt_irrefl,Ev.exec,qb,qe,qc,qaj,Ev.Opnd.ev,Ev.Env.get,Ev.Env.set,Ev.look,qh,qad,qaf,ql,qau,qq,Ev.keep,qae,qw,qd,Ev.SObj.lo,qax,qbj,↓qs,Ev.it1,↓reduceIte,zgg,zgm,zgh,Nat.reduceEqDiff,Int.cast_ofNat_Int,zgv,zgw,zfc,zfa,zgx,zfd,zgy]
   ·rw [h2 j hj]
    by_cases e1 : j = i
    ·subst e1;rw [if_neg (by omega),if_pos (by omega),hb,hdl,hds]
    ·by_cases e2 : j < i
     ·rw [if_pos e2,if_pos (by omega)]
     ·rw [if_neg e2,if_neg (by omega)]
  ·have c0 : ((qbq D i).length : Int) > 0:=by omega
   have sb : (b ++ qbq D i).length ≤ 1000000:=by
    have:=bl hb
    have:=List.length_filter_le (fun e : Evt => decide (e.lp = i)) D
    rw [List.length_append];unfold qbq;omega
   have hM:=qyh (a0:=b) (b0:=qbq D i) false false sb (fun z hz => by
    rcases List.mem_append.1 hz with hz | hz
    ·exact hk z (List.mem_append_left _ (mem hb z hz))
    ·exact hk z (List.mem_append_right _ (List.mem_filter.1 hz).1)) (hs b (List.mem_of_getElem? hb)) (hd i b hb)
   have tk : List.take (qbq D i).length ((qbq D i).map Evt.r) = (qbq D i).map Evt.r:=List.take_of_length_le (by simp)
   have ok:=qem (qbq D i)
   have a1 : ∀ x : SObj,(x :: (A1 ++ [.row 1 O 0]))[i + 1]? = some (.row 6 ((qbq D i).map Evt.r) g):=fun x => by
    rw [List.getElem?_cons_succ,List.getElem?_append_left (by omega)];exact t1
   have a2 : ∀ x y : SObj,(x :: (A1 ++ [.row 1 O 0])).set (i + 1) y = x :: (A1.set i y ++ [.row 1 O 0]):=fun x y => by
    rw [List.set_cons_succ,List.set_append,if_pos (by omega)]
   have hLm : (L.map qbc)[i]? = some (qbc b):=by rw [List.getElem?_map,hLi];rfl
   have hset : (L.map qbc).set i [(.fsl (((sortL (b ++ qbq D i))).map Evt.r) false)] = (L.set i (sortL (b ++ qbq D i))).map qbc:=by rw [List.map_set];rfl
   have loL':=qdk (n + 2) (L.set i (sortL (b ++ qbq D i)))
   have lo1' : qd (n + 2) (A1.set i .dead) = true:=qmx lo1 _ rfl
   have tk1 : ∀ x : SObj,List.take (n + 2) (x :: (A1.set i .dead ++ [.row 1 O 0])) = x :: (A1.set i .dead ++ [.row 1 O 0]):=fun x => List.take_of_length_le (by simp;omega)
   refine .inl ⟨(A1.set i .dead,L.set i (sortL (b ++ qbq D i))),?_,by rw [List.length_set];exact h1,fun j hj => ?_,by rw [List.length_set];exact h3,qmx h4 _ rfl,fun j hj1 hj2 => by rw [List.getElem?_set_ne (by omega)];exact h5 j (by omega) hj2⟩
   ·have hle : (qbq D i).length ≤ (qbq D i).length:=Nat.le_refl _
    have hll : ((qbq D i).map Evt.r).length = (qbq D i).length:=List.length_map ..
    have lob : qhl 0 (b.map Evt.r) = true:=qv _ _
    have loo : qhl 0 ((qbq D i).map Evt.r) = true:=qv _ _
    simp only
    rw [← hset] at loL' ⊢
    have hLl : (L.map qbc).length = n:=by rw [List.length_map];exact h1
    clear hb hdl hd hs hk h2 h5 bl mem hset
    generalize sortL (b ++ qbq D i) = R at *
    generalize (qbq D i).map Evt.r = OR at *
    generalize (qbq D i).length = ol at *
    generalize L.map qbc = LM at *
    simp only [qbc] at hLm
    simp only [qf3,zgs,zgr,hi',hi,hw,g1,t2,c0,a1,a2,hM,tk,hle,hll,hLm,lob,loo,lo1',lo2,loL',d0,d1,tk1,qm0,zgm,Ev.exec,qb,qe,qc,Ev.item_F,qabm,qxw,qaj,qzt,Ev.evs,Ev.Opnd.ev,Ev.Env.get,Ev.Env.set,Ev.look,qh,qad,Ev.AV.cells,Ev.AV.uc,qx,Ev.AV.plain,qaf,ql,qau,qq,Ev.keep,qae,qw,qd,Ev.SObj.lo,qax,qu,qbj,qg,qf,↓qs,Ev.it1,↓reduceIte,zga,zgb,zgd,zgo,zgf,zgg,List.drop_nil,zgm,zgl,zgn,zgj,zgh,Nat.reduceEqDiff,zgv,zfc,zfa,zgx,zfd,Nat.le_refl,zgy]
   ·by_cases e1 : j = i
    ·subst e1;rw [List.getElem?_set_self (by omega),if_pos (by omega),hdl]
    ·rw [List.getElem?_set_ne (by omega),h2 j hj]
     by_cases e2 : j < i
     ·rw [if_pos e2,if_pos (by omega)]
     ·rw [if_neg e2,if_neg (by omega)]
 ·rintro ⟨A1,L⟩ ⟨h1,h2,h3,h4,h5⟩
  simp only at h1 h2 h3 h4 h5 ⊢
  have hL : L = qbu bs D:=List.ext_getElem? fun j => by
   by_cases hj : j < n
   ·rw [h2 j hj,if_pos hj]
   ·rw [List.getElem?_eq_none (by omega),List.getElem?_eq_none (by unfold qbu;rw [List.length_mapIdx];omega)]
  rw [hL]
  have lo1 : qd (n + 2) A1 = true:=qma (by omega) h4
  have lo2 : qhl (n + 2) O = true:=qlg (by omega) _ S.olo
  have d0 : 0 < n + 2:=by omega
  have d1 : n + 1 < n + 2:=by omega
  have tk0 : ∀ x : SObj,List.take (n + 2) (x :: (A1 ++ [.row 1 O 0])) = x :: (A1 ++ [.row 1 O 0]):=fun x => List.take_of_length_le (by simp;omega)
  simp only [qf3,Int.lt_irrefl,zgm,Ev.exec,qb,qe,qc,qaj,Ev.Opnd.ev,Ev.Env.get,Ev.Env.set,Ev.look,ql,↓qs,Ev.it1,↓reduceIte,zgm,Nat.reduceEqDiff,zgw,zfa,zgy]
  exact ⟨_,rfl,⟨rfl,rfl,_,rfl⟩,rfl⟩
theorem DSt.start (bs : List (List Evt)) (n : Nat) (hn : bs.length = n) : DSt n (bs.map qbc) (fun i => qbq [] i) (.row 1 (bs.map qbc) 0 :: List.replicate n (.row 6 [] 0)) ((List.range n).map fun i => [(.sl (1 + i) 0 0 0 false : AV)]):=by
 refine ⟨by simp,rfl,by simp,fun i hi => ⟨0,?_,?_⟩,?_,?_⟩
 ·rw [List.getElem?_cons_succ,List.getElem?_replicate,if_pos hi];rfl
 ·rw [List.getElem?_map,List.getElem?_range hi]
  simp only [zgt,Nat.add_comm 1 i];rfl
 ·rw [ql2]
  intro x hx
  rcases List.mem_cons.1 hx with rfl | hx
  ·exact qdk _ _
  ·rw [List.eq_of_mem_replicate hx];rfl
 ·have : ∀ (l : List Nat),(∀ i ∈ l,i < n) → qhl (n + 1) (l.map fun i => [(.sl (1 + i) 0 0 0 false : AV)]) = true:=by
   intro l
   induction l with
   | nil => intro _;rfl
   | cons a l ih =>
    intro h
    have h1 : 1 + a < n + 1:=by have:=h a (by simp);omega
    simp only [List.map_cons,qag,qf,qg,qbj,h1,zgv,zfc,Bool.true_and]
    exact ih fun i hi => h i (by simp [hi])
  exact this _ fun i hi => List.mem_range.1 hi
theorem q9o (ss : List (List Evt)) (cs : Bool) (h1 : ss.length ≤ 1000000) (h2 : ss.flatten.length ≤ 1000000) : ∃ cf : Bool,qaz (evL T) qaw [(.fsl ((ss).map qbc) cs)] = some (.fsl ((ss.flatten).map Evt.r) cf):=by
 by_cases h : ss = []
 ·subst h
  refine ⟨true,?_⟩
  have:=q9q cs
  simp only [List.map_nil] at this ⊢
  rw [qaz,this];rfl
 ·obtain ⟨g,hc⟩:=q6l ss cs h1 h2 h
  refine ⟨false,?_⟩
  have tk : List.take ss.flatten.length (ss.flatten.map Evt.r) = ss.flatten.map Evt.r:=List.take_of_length_le (by rw [List.length_map];exact Nat.le_refl _)
  rw [qaz,hc]
  have hl : ss.flatten.length ≤ (ss.flatten.map Evt.r).length:=by rw [List.length_map];exact Nat.le_refl _
  simp only [tk,qv,Nat.le_refl,qfw,qea,zgi,↓qs,↓reduceIte,zgd,zgg,zgx,zfd,Nat.le_refl,zgy]
theorem q4h (bs ss : List (List Evt)) (c1 c2 : Bool) (hn : bs.length ≤ 1000) (hs1 : ss.length ≤ 1000000) (hD : (bs.flatten ++ ss.flatten).length ≤ 1000000) (hk : qcj (bs.flatten ++ ss.flatten)) (hs : ∀ b ∈ bs,b.Pairwise leE) (hd : ∀ i b,bs[i]? = some b → qr1 (b ++ qbq ss.flatten i)) (hl : ∀ e ∈ ss.flatten,0 ≤ e.lp ∧ e.lp < (bs.length : Int)) :
  qaz (evL T) qex [(.fsl ((bs).map qbc) c1),(.fsl ((ss).map qbc) c2)] = some (.fsl (((qbu bs ss.flatten)).map qbc) false):=by
 have hDl:=hD
 rw [List.length_append] at hDl
 obtain ⟨cf,hc⟩:=q9o ss c2 hs1 (by omega)
 obtain ⟨n,hbn⟩ : ∃ n,bs.length = n:=⟨_,rfl⟩
 rw [hbn] at hl hn
 obtain ⟨⟨y,e,σ⟩,k1,A',O',S',k2,k3,k4,k5,k6⟩:=q9p n (bs.map qbc) ss.flatten cf (by omega) hl false (DSt.start bs n hbn)
 obtain ⟨⟨y2,e2,σ2⟩,m1,⟨m2,m3,X,m4⟩,m5⟩:=q9s n ss.flatten bs hbn hn hD hk hs hd false S'
 simp only [Int.ofNat_zero] at k1 k2 k3 k4 k5 k6 m1 m2 m3 m4 m5
 subst k2;subst k4;subst m2;subst m4
 have hcl : (evL T).call qb6 [(.fsl ((bs).map qbc) c1)] [] = some (.sl 0 0 0 bs.length false,[.row 1 (bs.map qbc) 0]):=by
  have h' : bs.length * 24 ≤ 140737488355328:=by omega
  rw [q4j qip]
  simp only [qss,qdk,q7x,h',zgu,qu,qg,qf,zgi,↓reduceIte,Nat.reducePow,zfc,zgx,zgu,zgy]
 rw [hbn] at hcl
 have b1 : 24 * (n : Int) ≤ 140737488355328:=by omega
 have b2 : (n : Int) ≤ 4611686018427387904:=by omega
 have hdl : (qbu bs ss.flatten).length = n:=by unfold qbu;rw [List.length_mapIdx];exact hbn
 have tk : List.take n ((qbu bs ss.flatten).map qbc) = (qbu bs ss.flatten).map qbc:=List.take_of_length_le (by simp [hdl])
 have hle : n ≤ n:=Nat.le_refl _
 have lo:=qdk 0 (qbu bs ss.flatten)
 simp only [zgm] at k1
 have hA:=S'.len
 have S0:=DSt.start bs n hbn
 have lo1 : qd (n + 2) (List.replicate n (.row 6 [] 0)) = true:=by
  rw [ql2];intro x hx;rw [List.eq_of_mem_replicate hx];rfl
 have lo2 : qhl (n + 2) ((List.range n).map fun i => [(.sl (1 + i) 0 0 0 false : AV)]) = true:=qlg (by omega) _ S0.olo
 have lo3 : qd (n + 2) A' = true:=qma (by omega) S'.alo
 have lo4 : qhl (n + 2) O' = true:=qlg (by omega) _ S'.olo
 have t1 : ∀ x : SObj,List.take (n + 1) (List.replicate n (.row 6 [] 0) ++ [x]) = List.replicate n (.row 6 [] 0) ++ [x]:=fun x => List.take_of_length_le (by simp)
 have t2 : ∀ x : SObj,List.take (n + 2) (A' ++ [x]) = A' ++ [x]:=fun x => List.take_of_length_le (by simp [hA])
 have e1 : n + 1 + 1 = n + 2:=rfl
 have d0 : 0 < n + 2:=by omega
 have d1 : n + 1 < n + 2:=by omega
 have e2 : 1 + n = n + 1:=Nat.add_comm 1 n
 rw [qaz,qy qv6 quq]
 simp only [qlo,zgs,zgr,hA,lo1,lo2,lo3,lo4,t1,t2,e1,e2,d0,d1,qm0,hcl,hc,b1,b2,k1,k3,k5,k6,m1,m3,m5,hdl,tk,hle,lo,qf1,zgm,qdk,qv,qn,Ev.exec,qb,qe,qc,qa0,qqj,q4e,Ev.AV.shift,qaj,Ev.evs,Ev.Opnd.ev,Ev.Env.get,Ev.Env.set,Ev.look,qo,qm,qab,qak,Ev.kill,qai,qq,Ev.keep,qae,qw,qd,Ev.SObj.lo,qax,qu,qbj,qg,qf,qfw,qea,qfm,qd8,qf1,List.length_replicate,zgi,↓qs,↓qan,↓reduceIte,zga,zgb,zgp,zgd,zgc,zgo,zgg,zgm,zgl,Nat.reduceAdd,Nat.reduceEqDiff,Nat.reduceLT,Int.reducePow,Int.cast_ofNat_Int,reduceCtorEq,zgv,zgw,zfc,zfa,zgx,and_true,zfd,Nat.add_zero,zgy]
end
set_option maxRecDepth 10000
section
variable (c : Cfg) (n : Nat) (A : qac) (O : List (List AV)) (hA : A.length = n + 1) (rest : List Evt) (et ei ep ea : Int) (ek : List Int) (i : Nat) (hi : i < n) (k : Int) (ov : Bool)
include hA
end
set_option maxRecDepth 10000
theorem qaca (n sz : Nat) (es : List (List AV)) (g : Nat) : SObj.lo n (.row sz es g) = qhl n es:=by simp only [SObj.lo]
section
variable (c : Cfg) (n : Nat) (A : qac) (O : List (List AV)) (hA : A.length = n + 1) (rest : List Evt) (et ei ep ea : Int) (ek : List Int) (i : Nat) (hi : i < n) (k : Int) (ov : Bool)
include hA
end
set_option maxRecDepth 10000
section
variable {c : Cfg} {s : Sim} {h : List Evt} {n : Nat} {L : List (Lp × Bool)} {A : qac} {O : List (List AV)}
theorem SimSt.lpAt (S : SimSt n s L A O) {i : Nat} (hi : i < n) : ∃ f : Bool,L[i]? = some (K.lpAt s i,f) ∧ (f = true → (K.lpAt s i).procs = []):=by
 obtain ⟨x,hx⟩ : ∃ x,L[i]? = some x:=⟨_,List.getElem?_eq_getElem (by rw [S.lpl];exact hi)⟩
 have h1 : s.lps[i]? = some x.1:=by rw [← S.lpf,List.getElem?_map,hx];rfl
 have h2 : K.lpAt s i = x.1:=by unfold K.lpAt;rw [Int.toNat_natCast,h1];rfl
 exact ⟨x.2,by rw [h2];exact hx,fun hf => by rw [h2];exact S.flag x (List.mem_of_getElem? hx) hf⟩
theorem trAt_set {s : Sim} {T' : List (List Evt)} {L' : List Lp} {P : List Evt} {m : Nat} {o : Bool} (i j : Nat) (t : List Evt) (hT : T' = s.trace.set i t) (hi : i < s.trace.length) : qrq ⟨T',L',P,m,o⟩ (j : Int) = if i = j then t else qrq s j:=by
 unfold qrq
 simp only [zgr]
 subst hT
 by_cases e : i = j
 ·subst e;rw [List.getElem?_set_self hi,if_pos rfl];rfl
 ·rw [List.getElem?_set_ne e,if_neg e]
theorem SimSt.step (S : SimSt n s L A O) {e : Evt} {i : Nat} (hi : i < n) (he : e.lp = (i : Int)) {g : Nat} {f : Bool} (rest : List Evt) (hf : f = true → (qba c (K.lpAt s i) e).lp.procs = []) :
  SimSt n (s.step c e rest) (L.set i ((qba c (K.lpAt s i) e).lp,f)) ((A.set (i + 1) (.row 6 ((qrq s i ++ [e]).map Evt.r) (g + 1))).set 0 (.row 4 ((L.set i ((qba c (K.lpAt s i) e).lp,f)).map lpF) 1)) (O.set i [.sl (i + 1) (g + 1) 0 ((qrq s i).length + 1) false]):=by
 have hin : e.lp.toNat = i:=by omega
 have c1 : i + 1 < n + 1:=by omega
 refine ⟨by rw [List.length_set,List.length_set];exact S.len,?_,by rw [List.length_set];exact S.lpl,?_,?_,?_,by rw [List.length_set];exact S.ol,?_,?_,?_⟩
 ·rw [List.getElem?_set_self (by rw [List.length_set,S.len];omega)]
 ·rw [List.map_set,S.lpf];show _ = s.lps.set e.lp.toNat (qba c (K.lpAt s e.lp) e).lp;rw [hin,he]
 ·intro x hx
  rcases List.mem_or_eq_of_mem_set hx with hx | rfl
  ·exact S.flag x hx
  ·exact hf
 ·show (s.trace.set _ _).length = n;rw [List.length_set];exact S.trl
 ·intro j hj
  obtain ⟨g',h1,h2⟩:=S.tr j hj
  have ht:=trAt_set (s:=s) (T':=(s.step c e rest).trace) (L':=(s.step c e rest).lps) (P:=(s.step c e rest).pend) (m:=(s.step c e rest).n) (o:=(s.step c e rest).over) i j (qrq s i ++ [e]) (by show s.trace.set e.lp.toNat (qrq s e.lp ++ [e]) = _;rw [hin,he]) (by rw [S.trl];exact hi)
  change qrq (s.step c e rest) (j : Int) = _ at ht
  rw [ht]
  by_cases e1 : i = j
  ·subst e1
   refine ⟨g + 1,?_,?_⟩
   ·rw [if_pos rfl,List.getElem?_set_ne (by omega),List.getElem?_set_self (by rw [S.len];omega)]
   ·rw [if_pos rfl,List.getElem?_set_self (by rw [S.ol];omega),List.length_append];rfl
  ·refine ⟨g',?_,?_⟩
   ·rw [if_neg e1,List.getElem?_set_ne (by omega),List.getElem?_set_ne (by omega)];exact h1
   ·rw [if_neg e1,List.getElem?_set_ne e1];exact h2
 ·exact qmx (qmx S.alo _ (by rw [qaca];exact qv _ _)) _ (by rw [qaca];exact qt8 _ _)
 ·have:=S.olo
  have hl : ∀ {n : Nat} {O : List (List AV)} (i : Nat) (x : List AV),qhl n O = true → los n x = true → qhl n (O.set i x) = true:=by
   intro n O
   induction O with
   | nil => intro i x h _;exact h
   | cons a O ih =>
    intro i x h hx
    simp only [qag,Bool.and_eq_true] at h
    cases i with
    | zero => rw [List.set_cons_zero,qag,hx,h.2];rfl
    | succ i => rw [List.set_cons_succ,qag,h.1,ih i x h.2 hx];rfl
  refine hl i _ this ?_
  simp only [qf,qg,qbj,c1,zgv,zfc]
end
set_option maxRecDepth 10000
section
variable {c : Cfg} {s : Sim} {h : List Evt} {n : Nat} {L : List (Lp × Bool)} {A : qac} {O : List (List AV)}
theorem SimSt.lo (S : SimSt n s L A O) : qd (n + 3) (A ++ [.row 1 O 0,(.row 10 [[(.fsl ((c.lps).map lpC) false),(.fsl ((c.progs).map qcs) false),(ii c.look),(ii c.fin),(ii c.cap),.sl (n + 1) 0 0 n false,.sl 0 1 0 n false,(.fsl ((s.pend).map Evt.r) false),(ii s.n),(bb s.over)]] 0)]) = true:=by
 have lo1 : qd (n + 3) A = true:=qma (by omega) S.alo
 have lo2 : qhl (n + 3) O = true:=qlg (by omega) _ S.olo
 have d1 : n + 1 < n + 3:=by omega
 have d0 : 0 < n + 3:=by omega
 simp only [qm0,qd,qaca,lo1,lo2,qag,qaa,qf,qg,qu,qax,qbj,qv,qc0,qbd,d1,d0,zgv,zfc]
end
set_option maxRecDepth 10000
section
variable (n ps lps look : Int) (x : OpI)
end
section
variable (p : List OpI) (c : Bool) (n ps lps look : Int)
end
set_option maxRecDepth 10000
section
variable (k : Nat) (cap : List AV) (hcap : los 0 cap = true)
include hcap
end
set_option maxRecDepth 10000
section
variable (c : Cfg)
structure CfgOk (c : Cfg) : Prop where
 lps : c.lps.length < 2 ^ 62
 progs : c.progs.length < 2 ^ 62
 prog : ∀ p ∈ c.progs,p.length < 2 ^ 62
 lp : ∀ l ∈ c.lps,l.length < 2 ^ 62
end
set_option maxRecDepth 10000
set_option maxRecDepth 10000
section
variable {c : Cfg} {s : Sim} {h : List Evt} {n : Nat} {L : List (Lp × Bool)} {A : qac} {O : List (List AV)}
end
set_option maxRecDepth 10000
theorem q6f (h : List Evt) : ∀ n : Nat,((List.range n).map fun i => qbq h i).flatten.Perm (h.filter fun e => decide (0 ≤ e.lp ∧ e.lp < (n : Int)))
 | 0 => by
  have : h.filter (fun e => decide (0 ≤ e.lp ∧ e.lp < ((0 : Nat) : Int))) = []:=List.filter_eq_nil_iff.2 (fun e _ => by simp only [decide_eq_true_eq];omega)
  rw [this];exact .refl _
 | n + 1 => by
  rw [List.range_succ,List.map_append,List.flatten_append]
  refine (List.Perm.append (q6f h n) (.refl _)).trans ?_
  have e1 : h.filter (fun e => decide (0 ≤ e.lp ∧ e.lp < (n : Int))) = (h.filter fun e => decide (0 ≤ e.lp ∧ e.lp < ((n + 1 : Nat) : Int))).filter (fun e => decide (e.lp < (n : Int))):=by
   rw [List.filter_filter]
   refine List.filter_congr (fun e _ => ?_)
   rw [← Bool.decide_and]
   refine decide_eq_decide.2 ?_
   omega
  have e2 : ([qbq h n].flatten : List Evt) = (h.filter fun e => decide (0 ≤ e.lp ∧ e.lp < ((n + 1 : Nat) : Int))).filter (fun e => !decide (e.lp < (n : Int))):=by
   rw [List.filter_filter,List.flatten_cons,List.flatten_nil,List.append_nil]
   refine List.filter_congr (fun e _ => ?_)
   rw [← decide_not,← Bool.decide_and]
   refine decide_eq_decide.2 ?_
   omega
  rw [e1,List.map_cons,List.map_nil,e2]
  exact List.filter_append_perm _ _
theorem own_perm {h : List Evt} {n : Nat} (hl : ∀ e ∈ h,0 ≤ e.lp ∧ e.lp < (n : Int)) : ((List.range n).map fun i => qbq h i).flatten.Perm h:=by
 have:=q6f h n
 rwa [List.filter_eq_self.2 (fun e he => by simpa using hl e he)] at this
section
variable {c : Cfg} {s : Sim} {h : List Evt}
theorem ran (hv : Valid c) (lim : Nat) (hl : lim ≤ 60) : ∃ h,SInv c (Sim.run c lim (start c)) h ∧ h.length ≤ lim ∧ (h.length = lim ∨ (Sim.run c lim (start c)).ready c = false):=by
 obtain ⟨h,h1,h2,h3⟩:=SInv.run lim (SInv.start hv) (by simp;omega)
 exact ⟨h,by simpa using h1,h2,h3⟩
end
set_option maxRecDepth 10000
structure Good (c : Cfg) : Prop where
 h12 : Small12 c
 v : Valid c
theorem good_of {c : Cfg} (h : okB c = true) : Good c:=by
 simp only [okB,Bool.and_eq_true,Bool.not_eq_true',decide_eq_true_eq] at h
 obtain ⟨h1,h2⟩:=h
 obtain ⟨g1,g2,g3,g4⟩:=qzv c h1
 exact ⟨⟨g1,g3⟩,valid_of h2⟩
def runS (c : Cfg) (lim : Nat) : Sim:=Sim.run c lim (start c)
structure RunF (c : Cfg) (s : Sim) (h : List Evt) : Prop where
 inv : SInv c s h
 len : h.length ≤ 60
theorem RunF.n {c : Cfg} {s : Sim} {h : List Evt} (H : RunF c s h) : s.trace.length = c.lps.length ∧ c.lps.length ≤ 8:=⟨H.inv.trl,H.inv.valid.lps.2⟩
set_option maxRecDepth 10000
section
variable (l : List Evt) (cl : Bool)
theorem q7w (out : List Evt) (x : Evt) (i : Nat) (cf : Bool) (hx : l[i]? = some x) (ho : out.length ≤ 1000000) (hk : qcj out) (hkx : x.key.length ≤ 9223372036854775807) :
  ∃ y,itB (exec (evL T) itL none qgb) (qq [0,3,4,5] true 0) ⟨[(0,(.fsl ((l).map Evt.r) cl)),(3,(.fsl ((out).map Evt.r) cf)),(4,(ii i)),(5,(ii out.length))],[]⟩ [] = some y ∧
   ∃ k : Nat,y.1 = .exit 2 ∧ y.2.1.marks = [] ∧ y.2.2 = [] ∧ Ev.look y.2.1.vars 0 = some (.fsl ((l).map Evt.r) cl) ∧ Ev.look y.2.1.vars 3 = some (.fsl ((out).map Evt.r) cf) ∧ Ev.look y.2.1.vars 4 = some (ii i) ∧ Ev.look y.2.1.vars 5 = some (ii k) ∧
    k ≤ out.length ∧ (∀ u,0 < k → out[k - 1]? = some u → leE u x) ∧ (∀ v,out[k]? = some v → leE x v):=by
 refine qhe (τ:=Nat) (fun k => ⟨[(0,(.fsl ((l).map Evt.r) cl)),(3,(.fsl ((out).map Evt.r) cf)),(4,(ii i)),(5,(ii k))],[]⟩) (fun _ => []) (fun k => k)
  (fun k => k ≤ out.length ∧ (∀ v,out[k]? = some v → leE x v)) _ ?_ out.length ⟨Nat.le_refl _,fun v hv => by simp at hv⟩
 rintro k ⟨h1,h2⟩
 cases k with
 | zero =>
  right
  simp only [qgb,Int.lt_irrefl,Ev.exec,qb,qe,qc,qaj,Ev.Opnd.ev,Ev.Env.get,Ev.Env.set,Ev.Env.unset,Ev.look,qau,↓qs,Ev.it1,↓reduceIte,Nat.reduceEqDiff,Int.cast_ofNat_Int,reduceCtorEq,zgw,zfa,zgy]
  exact ⟨_,rfl,0,rfl,rfl,rfl,rfl,rfl,rfl,rfl,Nat.zero_le _,fun u h => by omega,h2⟩
 | succ j =>
  obtain ⟨y,hy⟩ : ∃ y,out[j]? = some y:=⟨_,List.getElem?_eq_getElem (by omega)⟩
  obtain ⟨k,hk1⟩ : ∃ k,k = j + 1:=⟨_,rfl⟩
  rw [← hk1] at h1 h2 ⊢
  have c1 : (k : Int) > 0:=by omega
  have w1 : IntKind.i64.wrap ((k : Int) - 1) = (j : Int):=qs9 hk1 (by omega)
  have hc:=qms y x (hk y (List.mem_of_getElem? hy)) hkx
  by_cases hlt : qqr y x > 0
  ·left
   refine ⟨j,?_,⟨by omega,fun v hv => by rw [hy] at hv;cases hv;exact (by have:=qpk y x;unfold leE;omega)⟩,by omega⟩
   obtain ⟨xt,xk,xl,xi,xp,xa⟩:=x
   obtain ⟨yt,yk,yl,yi,yp,ya⟩:=y
   simp only at hc
   simp only [qgb,zgs,zgr,zgq,zgt,hx,hy,c1,w1,hc,hlt,Evt.r,qv,qah,Ev.exec,qb,qe,qc,qa0,qaj,Ev.evs,Ev.Opnd.ev,Ev.Env.get,Ev.Env.set,Ev.look,qh,qad,qcl,qau,qq,Ev.keep,qae,qw,qd,qax,qbe,qu,qg,qf,↓qs,Ev.it1,↓reduceIte,zga,zgb,zgc,zfe,Nat.reduceAdd,Nat.reduceEqDiff,reduceCtorEq,zgv,zfc,zgx,zfd,Nat.le_refl,zgy]
  ·right
   have hle : leE y x:=by unfold leE;omega
   have h3 : ∀ u,0 < k → out[k - 1]? = some u → leE u x:=fun u _ hu => by
    rw [hk1,Nat.add_sub_cancel,hy] at hu;cases hu;exact hle
   clear hle
   obtain ⟨xt,xk,xl,xi,xp,xa⟩:=x
   obtain ⟨yt,yk,yl,yi,yp,ya⟩:=y
   simp only at hc
   simp only [qgb,zgs,zgr,zgq,zgt,hx,hy,c1,w1,hc,hlt,Evt.r,qah,Ev.exec,qb,qe,qc,qa0,qaj,Ev.evs,Ev.Opnd.ev,Ev.Env.get,Ev.Env.set,Ev.look,qh,qad,qcl,qau,qax,qbe,qu,qg,qf,↓qs,Ev.it1,↓reduceIte,zga,zgb,zgc,zfe,Nat.reduceAdd,Nat.reduceEqDiff,reduceCtorEq,zgv,zgw,zfc,zfa,zfd,Nat.le_refl,zgy]
   exact ⟨_,rfl,k,rfl,rfl,rfl,rfl,rfl,rfl,rfl,h1,h3,h2⟩
theorem q7n (hl : l.length ≤ 1000000) (hk : qcj l) :
  ∃ y,itB (exec (evL T) itL none qdt) (qq [0,3,4] true 0) ⟨[(0,(.fsl ((l).map Evt.r) cl)),(3,.fsl [] true),(4,(ii 0))],[]⟩ [] = some y ∧
   ∃ (l' : List Evt) (cf : Bool),y.1 = .exit 0 ∧ y.2.1.marks = [] ∧ y.2.2 = [] ∧ Ev.look y.2.1.vars 3 = some (.fsl ((l').map Evt.r) cf) ∧ l'.Perm l ∧ l'.Pairwise leE ∧ (l ≠ [] → cf = false):=by
 have key:=qen (f:=exec (evL T) itL none qdt) (s:=qq [0,3,4] true 0) (α:=List Evt × Bool)
  (fun i a => ⟨[(0,(.fsl ((l).map Evt.r) cl)),(3,(.fsl ((a.1).map Evt.r) a.2)),(4,(ii i))],[]⟩) (fun i a => [])
  (fun i a => a.1.Perm (l.take i) ∧ a.1.Pairwise leE ∧ (i ≠ 0 → a.2 = false)) l.length
  (fun y => ∃ (l' : List Evt) (cf : Bool),y.1 = .exit 0 ∧ y.2.1.marks = [] ∧ y.2.2 = [] ∧ Ev.look y.2.1.vars 3 = some (.fsl ((l').map Evt.r) cf) ∧ l'.Perm l ∧ l'.Pairwise leE ∧ (l ≠ [] → cf = false)) ?_ ?_ 0 ([],true) (Nat.zero_le _) ⟨by simp,.nil,fun h => absurd rfl h⟩
 ·exact key
 ·rintro i ⟨out,cf⟩ hi ⟨hp,hs,_⟩
  simp only at hp hs ⊢
  obtain ⟨x,hx⟩ : ∃ x,l[i]? = some x:=⟨_,List.getElem?_eq_getElem hi⟩
  have hi' : (i : Int) < (l.length : Int):=by omega
  have hw : IntKind.i64.wrap ((i : Int) + 1) = ((i + 1 : Nat) : Int):=by rw [qas (by omega) (by omega)];simp
  have hol : out.length ≤ 1000000:=by have:=hp.length_eq;rw [List.length_take] at this;omega
  obtain ⟨⟨y,e,σ⟩,k1,k,k2,k3,k4,k5,k6,k7,k8,k9,k10,k11⟩:=q7w l cl out x i cf hx hol (fun z hz => hk z (List.mem_of_mem_take (hp.mem_iff.1 hz))) (hk x (List.mem_of_getElem? hx))
  simp only at k1 k2 k3 k4 k5 k6 k7 k8
  subst k2;subst k4
  obtain ⟨A,B,rfl,hA⟩ : ∃ A B,out = A ++ B ∧ A.length = k:=⟨out.take k,out.drop k,(List.take_append_drop _ _).symm,by simp;omega⟩
  subst hA
  have c1 : (A.length : Int) ≤ ((A ++ B).length : Int):=by rw [List.length_append];omega
  have c2 : (0 : Int) ≤ (A.length : Int):=by omega
  have tk : List.take A.length ((A ++ B).map Evt.r) = A.map Evt.r:=by rw [List.map_append];exact List.take_left' (by simp)
  have dr : List.drop A.length ((A ++ B).map Evt.r) = B.map Evt.r:=by rw [List.map_append];exact List.drop_left' (by simp)
  have hlen : A.length + B.length ≤ 1000000:=by rw [List.length_append] at hol;exact hol
  have new : (A ++ x :: B).Perm (l.take (i + 1)) ∧ (A ++ x :: B).Pairwise leE:=by
   constructor
   ·rw [qim hx]
    exact (List.perm_middle.trans ((List.Perm.cons x hp))).trans (List.perm_append_singleton x _).symm
   ·refine qnd qlk hs (fun u hu => ?_) (fun v hv => ?_)
    ·have hlt : A.length - 1 < A.length:=(List.getElem?_eq_some_iff.1 hu).1
     refine k10 u (by omega) ?_
     rw [List.getElem?_append_left hlt];exact hu
    ·refine k11 v ?_
     rw [List.getElem?_append_right (Nat.le_refl _),Nat.sub_self];exact hv
  refine .inl ⟨(A ++ x :: B,false),?_,new.1,new.2,fun _ => rfl⟩
  have b1 : A.length * 64 ≤ 140737488355328:=by omega
  have b2 : (A.length + 1) * 64 ≤ 140737488355328:=by omega
  have b3 : (A.length + 1 + B.length) * 64 ≤ 140737488355328:=by omega
  have tb : List.take ((A ++ B).length - A.length) (B.map Evt.r) = B.map Evt.r:=List.take_of_length_le (by simp)
  have ta : List.take A.length (A.map Evt.r) = A.map Evt.r:=List.take_of_length_le (by simp)
  have ta2 : ∀ e : List AV,List.take (A.length + 1) (A.map Evt.r ++ [e]) = A.map Evt.r ++ [e]:=fun e => List.take_of_length_le (by simp)
  have ta3 : ∀ e : List AV,List.take (A.length + 1 + B.length) (A.map Evt.r ++ e :: B.map Evt.r) = A.map Evt.r ++ e :: B.map Evt.r:=fun e => List.take_of_length_le (by simp;omega)
  have okAB : qc5 6 ((A ++ B).map Evt.r) = true:=qem _
  have goal' : (AV.fsl ((A ++ x :: B).map Evt.r) false) = AV.fsl (A.map Evt.r ++ x.r :: B.map Evt.r) false:=by rw [List.map_append,List.map_cons]
  have n1 : ∀ p q : Nat,p + 1 + q ≤ p + (q + 1):=fun p q => by omega
  have n2 : ∀ q : Nat,1 + q ≤ q + 1:=fun q => by omega
  simp only
  rw [goal']
  rcases A with _ | ⟨a,A⟩ <;> rcases B with _ | ⟨b,B⟩
  ·obtain ⟨xt,xk,xl,xi,xp,xa⟩:=x
   simp only [zgl,zgb,List.map_nil,Int.ofNat_zero] at *
   simp only [qdt,zgs,zgr,zgq,zgt,hx,hi',hw,k1,k3,k5,k6,k7,k8,c1,tk,dr,b1,b2,ta2,okAB,imp_self,Nat.sub_zero,Int.toNat_zero,Evt.r,qv,qah,Ev.exec,qb,qe,qc,qaj,qnz,Ev.Opnd.ev,Ev.Env.get,Ev.Env.set,Ev.look,qfx,qh,qbs,qad,qfl,Ev.AV.cells,qx,Ev.AV.plain,qaf,ql,qq,Ev.keep,qae,qw,qd,qax,qu,qg,qf,qaa,qag,qa8,List.replicate_one,zgi,↓qs,↓qan,Ev.it1,↓reduceIte,zga,zgb,zgd,zgc,zgo,zfe,zgg,zgl,zgj,Nat.reduceAdd,Nat.reduceEqDiff,Nat.reduceMul,Nat.reduceLT,Nat.reduceLeDiff,Nat.reducePow,Int.cast_ofNat_Int,reduceCtorEq,zgv,zfc,Bool.and_true,zfa,zgx,ne_eq,zfb,zff,zfd,Nat.add_zero,zgu,Nat.le_refl,Option.isSome_some,Option.isSome_none,zgy,implies_true]
  ·generalize hRB : List.map Evt.r (b :: B) = RB at *
   have nB : ¬ RB = []:=by rw [← hRB];simp
   have lB : RB.length = (b :: B).length:=by rw [← hRB];simp
   have oB : qc5 6 RB = true:=by rw [← hRB];exact qem _
   have loB : ∀ n,qhl n RB = true:=fun n => by rw [← hRB];exact qv n _
   obtain ⟨xt,xk,xl,xi,xp,xa⟩:=x
   simp only [zgl,zgb,List.map_nil,Int.ofNat_zero,hRB,Nat.sub_zero,zgg] at *
   generalize hrb : (b :: B).length = nb at *
   simp only [qdt,zgs,zgr,zgq,zgt,hx,hi',hw,k1,k3,k5,k6,k7,k8,c1,c2,tk,b1,b2,b3,ta,ta2,ta3,tb,okAB,imp_self,n2,Int.le_refl,Nat.sub_zero,nB,lB,loB,qbh,Int.toNat_zero,Evt.r,qv,qah,Ev.exec,qb,qe,qc,qaj,qnz,Ev.Opnd.ev,Ev.Env.get,Ev.Env.set,Ev.look,qfx,qh,qbs,qad,qfl,Ev.AV.cells,qx,Ev.AV.plain,qaf,ql,qq,Ev.keep,qae,qw,qd,qax,qu,qg,qf,qag,qbh,qa8,List.replicate_one,zgi,↓qs,↓qan,Ev.it1,↓reduceIte,zga,zgb,zgd,zgc,zgo,zfe,zgg,zgm,zgl,zgj,Nat.reduceAdd,Nat.reduceEqDiff,Nat.reduceMul,Nat.reduceLT,Nat.reduceLeDiff,Nat.reducePow,reduceCtorEq,zgv,zfc,Bool.and_true,zfa,zgx,ne_eq,zfb,zff,zfd,Nat.add_zero,zgu,Nat.le_refl,Option.isSome_some,Option.isSome_none,zgy,implies_true]
  ·generalize hRA : List.map Evt.r (a :: A) = RA at *
   have nA : ¬ RA = []:=by rw [← hRA];simp
   have lA : RA.length = (a :: A).length:=by rw [← hRA];simp
   have oA : qc5 6 RA = true:=by rw [← hRA];exact qem _
   have loA : ∀ n,qhl n RA = true:=fun n => by rw [← hRA];exact qv n _
   obtain ⟨xt,xk,xl,xi,xp,xa⟩:=x
   simp only [zgn,zgb,List.map_nil,hRA,Nat.add_zero,Nat.sub_self] at *
   generalize hra : (a :: A).length = na at *
   simp only [qdt,zgs,zgr,zgq,zgt,hx,hi',hw,k1,k3,k5,k6,k7,k8,c1,c2,tk,dr,b1,b2,ta2,tb,okAB,imp_self,Int.le_refl,Nat.sub_zero,nA,lA,loA,qbh,zfe,qkc,Evt.r,qv,qah,Ev.exec,qb,qe,qc,qaj,qnz,Ev.Opnd.ev,Ev.Env.get,Ev.Env.set,Ev.look,qfx,qh,qbs,qad,qfl,Ev.AV.cells,qx,Ev.AV.plain,qaf,ql,qq,Ev.keep,qae,qw,qd,qax,qu,qg,qf,qaa,qag,qbh,qa8,List.replicate_one,zgi,↓qs,↓qan,Ev.it1,↓reduceIte,zga,zgb,zgp,zgd,zgc,zgo,zfe,zgg,zgl,zgj,Nat.reduceAdd,Nat.reduceEqDiff,Nat.reduceMul,Nat.reduceLT,Nat.reduceLeDiff,Nat.reducePow,Int.reduceToNat,reduceCtorEq,zgv,zfc,Bool.and_true,zfa,zgx,ne_eq,zfb,zff,zfd,Nat.add_zero,zgu,Nat.le_refl,Option.isSome_some,Option.isSome_none,zgy,implies_true]
  ·generalize hRA : List.map Evt.r (a :: A) = RA at *
   generalize hRB : List.map Evt.r (b :: B) = RB at *
   have nA : ¬ RA = []:=by rw [← hRA];simp
   have nB : ¬ RB = []:=by rw [← hRB];simp
   have lA : RA.length = (a :: A).length:=by rw [← hRA];simp
   have lB : RB.length = (b :: B).length:=by rw [← hRB];simp
   have oA : qc5 6 RA = true:=by rw [← hRA];exact qem _
   have oB : qc5 6 RB = true:=by rw [← hRB];exact qem _
   have loA : ∀ n,qhl n RA = true:=fun n => by rw [← hRA];exact qv n _
   have loB : ∀ n,qhl n RB = true:=fun n => by rw [← hRB];exact qv n _
   generalize hra : (a :: A).length = na at *
   generalize hrb : (b :: B).length = nb at *
   generalize (a :: A) ++ (b :: B) = AB at *
   obtain ⟨xt,xk,xl,xi,xp,xa⟩:=x
   simp only [qdt,zgs,zgr,zgq,zgt,hx,hi',hw,k1,k3,k5,k6,k7,k8,c1,c2,tk,dr,b1,b2,b3,ta,ta2,ta3,tb,okAB,imp_self,n1,List.append_assoc,Int.le_refl,Nat.sub_zero,nA,nB,lA,lB,oA,oB,loA,loB,qkc,Evt.r,qv,qah,Ev.exec,qb,qe,qc,qaj,qnz,Ev.Opnd.ev,Ev.Env.get,Ev.Env.set,Ev.look,qfx,qh,qbs,qad,qfl,Ev.AV.cells,qx,Ev.AV.plain,qaf,ql,qq,Ev.keep,qae,qw,qd,qax,qu,qg,qf,qag,qbh,qa8,List.replicate_one,zgi,↓qs,↓qan,Ev.it1,↓reduceIte,zga,zgb,zgp,zgd,zgc,zgo,zfe,zgg,zgm,zgl,zgj,Nat.reduceAdd,Nat.reduceEqDiff,Nat.reduceMul,Nat.reduceLT,Nat.reduceLeDiff,Nat.reducePow,Int.reduceToNat,reduceCtorEq,zgv,zfc,Bool.and_true,zfa,zgx,ne_eq,zfb,zff,zfd,zgu,Nat.le_refl,Option.isSome_some,Option.isSome_none,zgy,implies_true]
 ·rintro ⟨out,cf⟩ ⟨hp,hs,hc⟩
  rw [List.take_length] at hp
  simp only at hp hs hc ⊢
  simp only [qdt,Int.lt_irrefl,Ev.exec,qb,qe,qc,qaj,Ev.Opnd.ev,Ev.Env.get,Ev.Env.set,Ev.look,ql,zgi,↓qs,Ev.it1,↓reduceIte,Nat.reduceEqDiff,reduceCtorEq,zgw,zfa,ne_eq,zgy]
  exact ⟨_,rfl,out,cf,rfl,rfl,rfl,rfl,hp,hs,fun h => hc (by intro e;exact h (List.eq_nil_of_length_eq_zero e))⟩
theorem quz (hl : l.length ≤ 1000000) (hk : qcj l) : ∃ (l' : List Evt) (cf : Bool),l'.Perm l ∧ l'.Pairwise leE ∧ (l ≠ [] → cf = false) ∧ qaz (evL T) qd5 [(.fsl ((l).map Evt.r) cl)] = some (.fsl ((l').map Evt.r) cf):=by
 obtain ⟨⟨y,e,σ⟩,k1,l',cf,k2,k3,k4,k5,k6,k7,k8⟩:=q7n l cl hl hk
 simp only at k1 k2 k3 k4 k5
 subst k2;subst k4
 refine ⟨l',cf,k6,k7,k8,?_⟩
 rw [qaz,qy qtr qsr]
 simp only [qka,k1,k3,k5,qv,qn,Ev.exec,qb,qe,qc,qaj,Ev.Opnd.ev,Ev.Env.get,Ev.Env.set,Ev.look,qo,qm,qab,qak,Ev.kill,qai,qq,Ev.keep,qae,qw,qd,qax,qu,qaa,qal,↓qs,↓qan,↓reduceIte,zga,zgb,zfe,Nat.reduceEqDiff,reduceCtorEq,zfc,zgx,zfd,zgy]
theorem qnp (hl : l.length ≤ 1000000) (hk : qcj l) (hd : qr1 l) : ∃ cf : Bool,(l ≠ [] → cf = false) ∧ qaz (evL T) qd5 [(.fsl ((l).map Evt.r) cl)] = some (.fsl ((sortL l).map Evt.r) cf):=by
 obtain ⟨l',cf,h1,h2,h3,h4⟩:=quz l cl hl hk
 rw [← ql8 hd h1 h2];exact ⟨cf,h3,h4⟩
end
set_option maxRecDepth 10000
section
variable (c : Cfg)
theorem q7c (k : Nat) (l : List Start) (hkl : c.lps[k]? = some l) (o0 : List Evt) (g0 : Nat) (hl : l.length ≤ 12) (hk : k ≤ 12) (ho : o0.length ≤ 1000) :
  ∃ y,itB (exec (evL T) itL none qh3) (qq [1,3,4,5] true 1) ⟨[(1,(.fptr [(.fsl ((c.lps).map lpC) false),(.fsl ((c.progs).map qcs) false),(ii c.look),(ii c.fin),(ii c.cap)])),(3,.sl 0 g0 0 o0.length false),(4,(ii k)),(5,(ii 0))],[]⟩ [.row 6 (o0.map Evt.r) g0] = some y ∧
   ∃ g : Nat,y.1 = .exit 2 ∧ y.2.1.marks = [] ∧ y.2.2 = [.row 6 ((o0 ++ qll k l).map Evt.r) g] ∧ Ev.look y.2.1.vars 3 = some (.sl 0 g 0 (o0 ++ qll k l).length false) ∧ Ev.look y.2.1.vars 1 = some (.fptr [(.fsl ((c.lps).map lpC) false),(.fsl ((c.progs).map qcs) false),(ii c.look),(ii c.fin),(ii c.cap)]) ∧ Ev.look y.2.1.vars 4 = some (ii k):=by
 have key:=qen (f:=exec (evL T) itL none qh3) (s:=qq [1,3,4,5] true 1) (α:=List Evt × Nat)
  (fun i a => ⟨[(1,(.fptr [(.fsl ((c.lps).map lpC) false),(.fsl ((c.progs).map qcs) false),(ii c.look),(ii c.fin),(ii c.cap)])),(3,.sl 0 a.2 0 a.1.length false),(4,(ii k)),(5,(ii i))],[]⟩) (fun i a => [.row 6 (a.1.map Evt.r) a.2])
  (fun i a => a.1 = o0 ++ qll k (l.take i)) l.length
  (fun y => ∃ g : Nat,y.1 = .exit 2 ∧ y.2.1.marks = [] ∧ y.2.2 = [.row 6 ((o0 ++ qll k l).map Evt.r) g] ∧ Ev.look y.2.1.vars 3 = some (.sl 0 g 0 (o0 ++ qll k l).length false) ∧ Ev.look y.2.1.vars 1 = some (.fptr [(.fsl ((c.lps).map lpC) false),(.fsl ((c.progs).map qcs) false),(ii c.look),(ii c.fin),(ii c.cap)]) ∧ Ev.look y.2.1.vars 4 = some (ii k)) ?_ ?_ 0 (o0,g0) (Nat.zero_le _) (by simp [qll])
 ·exact key
 ·rintro i ⟨out,g⟩ hi hout
  simp only at hout ⊢
  obtain ⟨x,hx⟩ : ∃ x,l[i]? = some x:=⟨_,List.getElem?_eq_getElem hi⟩
  have hi' : (i : Int) < (l.length : Int):=by omega
  have hw : IntKind.i64.wrap ((i : Int) + 1) = ((i + 1 : Nat) : Int):=by rw [qas (by omega) (by omega)];simp
  have ho2 : out.length ≤ 1012:=by rw [hout,List.length_append,q3u];have:=List.length_take_le i l;omega
  have hb : (out.length + 1) * 64 ≤ 140737488355328:=by omega
  obtain ⟨t1,t2⟩:=qxi out (qkd k i x).r
  have hr : (out ++ [qkd k i x]).map Evt.r = out.map Evt.r ++ [(qkd k i x).r]:=by rw [List.map_append];rfl
  refine .inl ⟨(out ++ [qkd k i x],g + 1),?_,by simp only;rw [q72 hx,hout,List.append_assoc]⟩
  have hlo:=qv 1 (out ++ [qkd k i x])
  simp only
  rw [hr,List.length_append]
  rw [hr] at hlo
  have hrep : ∀ v : List AV,List.replicate 2 v = [v,v]:=fun _ => rfl
  simp only [qkd,Evt.r,List.map_cons,List.map_nil,qb8] at t2 hlo ⊢
  simp only [qh3,zgs,zgr,zgq,zgt,hx,hkl,hi',hw,hb,t1,hlo,hrep,lpC,Start.r,qc0,qbd,Ev.exec,qb,qe,qc,qaj,qnz,Ev.Opnd.ev,Ev.Env.get,Ev.Env.set,Ev.look,qh,qbs,qad,qgp,qfl,Ev.AV.cells,Ev.AV.uc,qx,Ev.AV.plain,qaf,ql,qq,Ev.keep,qae,qw,qd,Ev.SObj.lo,qax,qu,qbt,qbj,qg,qf,qbh,qa8,List.replicate_one,zgi,↓qs,Ev.it1,↓reduceIte,zga,zgb,zgd,zgc,zgo,zfe,zgf,zgg,zgm,zgl,zgj,zgk,zgh,Nat.reduceAdd,Nat.reduceEqDiff,Nat.reduceMul,Nat.reduceLT,Nat.reduceLeDiff,Nat.reducePow,zgv,zfc,zfa,zgx,ne_eq,zfb,zff,zfd,zgu,Nat.le_refl,zgy]
 ·rintro ⟨out,g⟩ hout
  rw [List.take_length] at hout
  simp only at hout ⊢
  simp only [qh3,zgs,zgr,zgq,zgt,hkl,lpC,Int.lt_irrefl,Ev.exec,qb,qe,qc,qaj,Ev.Opnd.ev,Ev.Env.get,Ev.Env.set,Ev.look,qh,qad,ql,zgi,↓qs,Ev.it1,↓reduceIte,zga,zgb,zgp,zgg,zgh,Nat.reduceEqDiff,zgw,zfa,zfd,zgy]
  exact ⟨_,rfl,g,rfl,rfl,by rw [hout],by rw [hout,List.length_append];rfl,rfl,rfl⟩
theorem q7m (h : Small12 c) :
  ∃ y,itB (exec (evL T) itL none qhz) (qq [1,3,4] true 1) ⟨[(1,(.fptr [(.fsl ((c.lps).map lpC) false),(.fsl ((c.progs).map qcs) false),(ii c.look),(ii c.fin),(ii c.cap)])),(3,.sl 0 0 0 0 false),(4,(ii 0))],[]⟩ [.row 6 [] 0] = some y ∧
   ∃ g : Nat,y.1 = .exit 0 ∧ y.2.1.marks = [] ∧ y.2.2 = [.row 6 ((qk4 c.lps).map Evt.r) g] ∧ Ev.look y.2.1.vars 3 = some (.sl 0 g 0 (qk4 c.lps).length false):=by
 have key:=qen (f:=exec (evL T) itL none qhz) (s:=qq [1,3,4] true 1) (α:=List Evt × Nat)
  (fun i a => ⟨[(1,(.fptr [(.fsl ((c.lps).map lpC) false),(.fsl ((c.progs).map qcs) false),(ii c.look),(ii c.fin),(ii c.cap)])),(3,.sl 0 a.2 0 a.1.length false),(4,(ii i))],[]⟩) (fun i a => [.row 6 (a.1.map Evt.r) a.2])
  (fun i a => a.1 = qk4 (c.lps.take i)) c.lps.length
  (fun y => ∃ g : Nat,y.1 = .exit 0 ∧ y.2.1.marks = [] ∧ y.2.2 = [.row 6 ((qk4 c.lps).map Evt.r) g] ∧ Ev.look y.2.1.vars 3 = some (.sl 0 g 0 (qk4 c.lps).length false)) ?_ ?_ 0 ([],0) (Nat.zero_le _) (by simp [qk4])
 ·exact key
 ·rintro i ⟨out,g⟩ hi hout
  simp only at hout ⊢
  obtain ⟨x,hx⟩ : ∃ x,c.lps[i]? = some x:=⟨_,List.getElem?_eq_getElem hi⟩
  have hlps:=h.lps
  have hi' : (i : Int) < (c.lps.length : Int):=by omega
  have hw : IntKind.i64.wrap ((i : Int) + 1) = ((i + 1 : Nat) : Int):=by rw [qas (by omega) (by omega)];simp
  have hl:=h.len i
  obtain ⟨⟨y,e,σ⟩,k1,g',k2,k3,k4,k5,k6,k7⟩:=q7c c i x hx out g (h.lp _ (List.mem_of_getElem? hx)) (by omega) (by rw [hout];omega)
  simp only at k1 k2 k3 k4 k5 k6 k7
  subst k2;subst k4
  refine .inl ⟨(out ++ qll i x,g'),?_,by simp only;rw [q4f hx,hout]⟩
  simp only [zgp] at k5 ⊢
  simp only [qhz,hi',hw,k1,k3,k5,k6,k7,qv,qc0,qbd,Ev.exec,qb,qe,qc,qaj,Ev.Opnd.ev,Ev.Env.get,Ev.Env.set,Ev.look,qh,qad,qaf,ql,qq,Ev.keep,qae,qw,qd,Ev.SObj.lo,qax,qu,qbt,qbj,qg,qf,zgi,↓qs,↓qan,Ev.it1,↓reduceIte,zga,zgb,zgc,zfe,zgg,zgh,Nat.reduceEqDiff,zgv,zfc,zfa,zgx,zfd,zgu,zgy]
 ·rintro ⟨out,g⟩ hout
  rw [List.take_length] at hout
  simp only at hout ⊢
  simp only [qhz,Int.lt_irrefl,Ev.exec,qb,qe,qc,qaj,Ev.Opnd.ev,Ev.Env.get,Ev.Env.set,Ev.look,qh,qad,ql,zgi,↓qs,Ev.it1,↓reduceIte,zgg,zgh,Nat.reduceEqDiff,zgw,zfa,zgy]
  exact ⟨_,rfl,g,rfl,rfl,by rw [hout],by rw [hout];rfl⟩
theorem qyf (h : Small12 c) : ∃ cf : Bool,qaz (evL T) qgd [(.agg [(.fsl ((c.lps).map lpC) false),(.fsl ((c.progs).map qcs) false),(ii c.look),(ii c.fin),(ii c.cap)])] = some (.fsl ((sortL (qk4 c.lps)).map Evt.r) cf):=by
 obtain ⟨⟨y,e,σ⟩,k1,g,k2,k3,k4,k5⟩:=q7m c h
 simp only at k1 k2 k3 k4 k5
 subst k2;subst k4
 have hl:=h.len c.lps.length
 rw [List.take_length] at hl
 obtain ⟨cf,_,hs⟩:=qnp (qk4 c.lps) false (by omega) (q9b _) (qaal _)
 refine ⟨cf,?_⟩
 have t1:=(qxi (qk4 c.lps) []).1
 rw [qaz,qy qv9 qvg]
 simp only [qmm,k1,k3,k5,hs,t1,qv,qc0,qbd,qn,Ev.exec,qb,qe,qc,qa0,qaj,Ev.evs,Ev.Opnd.ev,Ev.Env.get,Ev.Env.set,Ev.look,qo,Ev.AV.cells,qx,Ev.AV.plain,qm,qab,qak,Ev.kill,qai,qq,Ev.keep,qae,qw,qd,Ev.SObj.lo,qax,qu,qbt,qbj,qg,qf,qaa,qal,zgi,↓qs,↓qan,↓reduceIte,zga,zgb,zgd,zgc,zgo,zfe,zgg,zgl,zgj,Nat.reduceEqDiff,Nat.reduceLT,zgv,zfc,zgx,ne_eq,zfb,zff,zfd,zgu,Nat.le_refl,zgy]
end
set_option maxRecDepth 10000
section
variable (D : List Evt) (G : List (List Int)) (cd cg : Bool)
theorem q70 (o : List Evt) (g i : Nat) (x : Evt) (hx : D[i]? = some x) (hG : G.length ≤ 1000) (hk : ∀ k ∈ G,k.length ≤ 9223372036854775807) (hxk : x.key.length ≤ 9223372036854775807) :
  ∃ y,itB (exec (evL T) itL none qh5) (qq [0,1,5,6,7,8] true 1) ⟨[(0,(.fsl ((D).map Evt.r) cd)),(1,(.fsl ((G).map qfy) cg)),(5,.sl 0 g 0 o.length false),(6,(ii i)),(7,(bb false)),(8,(ii ((0 : Nat))))],[]⟩ [.row 6 (o.map Evt.r) g] = some y ∧
   (y.1 = .exit 2 ∧ y.2.1.marks = [] ∧ y.2.2 = [.row 6 (o.map Evt.r) g] ∧ Ev.look y.2.1.vars 0 = some (.fsl ((D).map Evt.r) cd) ∧ Ev.look y.2.1.vars 1 = some (.fsl ((G).map qfy) cg) ∧ Ev.look y.2.1.vars 5 = some (.sl 0 g 0 o.length false) ∧ Ev.look y.2.1.vars 6 = some (ii i) ∧ Ev.look y.2.1.vars 7 = some (bb (!qk7 G x))):=by
 have hb : (!qk7 G x) = G.any fun k => decide (x.key = k):=by
  unfold qk7
  rw [Bool.not_not]
  congr 1;funext k;exact decide_eq_decide.2 eq_comm
 rw [hb]
 have key:=qen (f:=exec (evL T) itL none qh5) (s:=qq [0,1,5,6,7,8] true 1) (α:=Unit)
  (fun j _ => ⟨[(0,(.fsl ((D).map Evt.r) cd)),(1,(.fsl ((G).map qfy) cg)),(5,.sl 0 g 0 o.length false),(6,(ii i)),(7,(bb (((G.take j).any fun k => decide (x.key = k))))),(8,(ii j))],[]⟩) (fun _ _ => [.row 6 (o.map Evt.r) g])
  (fun _ _ => True) G.length
  (fun y => y.1 = .exit 2 ∧ y.2.1.marks = [] ∧ y.2.2 = [.row 6 (o.map Evt.r) g] ∧ Ev.look y.2.1.vars 0 = some (.fsl ((D).map Evt.r) cd) ∧ Ev.look y.2.1.vars 1 = some (.fsl ((G).map qfy) cg) ∧ Ev.look y.2.1.vars 5 = some (.sl 0 g 0 o.length false) ∧ Ev.look y.2.1.vars 6 = some (ii i) ∧ Ev.look y.2.1.vars 7 = some (bb ((G.any fun k => decide (x.key = k))))) ?_ ?_ 0 () (Nat.zero_le _) trivial
 ·exact key
 ·rintro j _ hj _
  obtain ⟨z,hz⟩ : ∃ z,G[j]? = some z:=⟨_,List.getElem?_eq_getElem hj⟩
  have hj' : (j : Int) < (G.length : Int):=by omega
  have hw : IntKind.i64.wrap ((j : Int) + 1) = ((j + 1 : Nat) : Int):=by rw [qas (by omega) (by omega)];simp
  have e1 : ((G.take (j + 1)).any fun k => decide (x.key = k)) = (((G.take j).any fun k => decide (x.key = k)) || decide (x.key = z)):=by rw [qim hz,List.any_append];simp
  have sk:=qoe x.key z false false hxk (hk z (List.mem_of_getElem? hz))
  refine .inl ⟨(),?_,trivial⟩
  rw [e1]
  generalize ((G.take j).any fun k => decide (x.key = k)) = f
  generalize decide (x.key = z) = f2 at *
  obtain ⟨xt,xk,xl,xi,xp,xa⟩:=x
  cases f <;> simp only [qh5,zgs,zgr,zgq,zgt,hx,hz,hj',hw,sk,Evt.r,qfy,qbv,qv,qah,Ev.exec,qb,qe,qc,qa0,qaj,Ev.evs,Ev.Opnd.ev,Ev.Env.get,Ev.Env.set,Ev.Env.unset,Ev.look,qh,qad,qaf,ql,qq,Ev.keep,qae,qw,qd,Ev.SObj.lo,qax,qu,qbj,qg,qf,zgi,↓qs,Ev.it1,↓reduceIte,zga,zgb,zgc,zfe,zgf,zgg,zgh,Nat.reduceAdd,Nat.reduceEqDiff,reduceCtorEq,zgv,zfc,Bool.true_or,Bool.false_or,zfa,Bool.true_eq_false,zgx,zfd,zgu,zgy]
 ·rintro _ _
  simp only [List.take_length]
  simp only [qh5,Int.lt_irrefl,Ev.exec,qb,qe,qc,qaj,Ev.Opnd.ev,Ev.Env.get,Ev.Env.set,Ev.look,ql,zgi,↓qs,Ev.it1,↓reduceIte,Nat.reduceEqDiff,reduceCtorEq,zgw,zfa,zgy]
  exact ⟨_,rfl,rfl,rfl,rfl,rfl,rfl,rfl,rfl,rfl⟩
theorem q9r (hD : D.length ≤ 1000000) (hDk : qcj D) (hG : G.length ≤ 1000) (hk : ∀ k ∈ G,k.length ≤ 9223372036854775807) :
  qaz (evL T) qhi [(.fsl ((D).map Evt.r) cd),(.fsl ((G).map qfy) cg)] = some (.fsl (((D.filter (qk7 G))).map Evt.r) false):=by
 have hL : ∃ y,itB (exec (evL T) itL none qgg) (qq [0,1,5,6] true 1) ⟨[(0,(.fsl ((D).map Evt.r) cd)),(1,(.fsl ((G).map qfy) cg)),(5,.sl 0 0 0 0 false),(6,(ii ((0 : Nat))))],[]⟩ [.row 6 [] 0] = some y ∧
   ∃ g : Nat,y.1 = .exit 0 ∧ y.2.1.marks = [] ∧ y.2.2 = [.row 6 ((D.filter (qk7 G)).map Evt.r) g] ∧ Ev.look y.2.1.vars 5 = some (.sl 0 g 0 (D.filter (qk7 G)).length false):=by
  have key:=qen (f:=exec (evL T) itL none qgg) (s:=qq [0,1,5,6] true 1) (α:=Nat)
   (fun i g => ⟨[(0,(.fsl ((D).map Evt.r) cd)),(1,(.fsl ((G).map qfy) cg)),(5,.sl 0 g 0 ((D.take i).filter (qk7 G)).length false),(6,(ii i))],[]⟩) (fun i g => [.row 6 (((D.take i).filter (qk7 G)).map Evt.r) g])
   (fun _ _ => True) D.length
   (fun y => ∃ g : Nat,y.1 = .exit 0 ∧ y.2.1.marks = [] ∧ y.2.2 = [.row 6 ((D.filter (qk7 G)).map Evt.r) g] ∧ Ev.look y.2.1.vars 5 = some (.sl 0 g 0 (D.filter (qk7 G)).length false)) ?_ ?_ 0 0 (Nat.zero_le _) trivial
  ·exact key
  ·rintro i g hi _
   obtain ⟨x,hx⟩ : ∃ z,D[i]? = some z:=⟨_,List.getElem?_eq_getElem hi⟩
   have hi' : (i : Int) < (D.length : Int):=by omega
   have hw : IntKind.i64.wrap ((i : Int) + 1) = ((i + 1 : Nat) : Int):=by rw [qas (by omega) (by omega)];simp
   obtain ⟨⟨y,e,σ⟩,k1,k2,k3,k4,k5,k6,k7,k8,k9⟩:=q70 D G cd cg ((D.take i).filter (qk7 G)) g i x hx hG hk (hDk x (List.mem_of_getElem? hx))
   simp only [Int.ofNat_zero] at k1 k2 k3 k4 k5 k6 k7 k8 k9
   subst k2;subst k4
   have hle : ((D.take i).filter (qk7 G)).length ≤ 1000000:=by
    have h1:=List.length_filter_le (qk7 G) (D.take i)
    have h2:=List.length_take_le' i D
    omega
   cases hb : qk7 G x with
   | true =>
    rw [hb] at k9
    have e1 : (D.take (i + 1)).filter (qk7 G) = (D.take i).filter (qk7 G) ++ [x]:=by rw [qim hx,List.filter_append];simp [hb]
    refine .inl ⟨g + 1,?_,trivial⟩
    rw [e1]
    generalize (D.take i).filter (qk7 G) = W at *
    have tk : List.take W.length (W.map Evt.r) = W.map Evt.r:=List.take_of_length_le (by simp)
    have b : (W.length + 1) * 64 ≤ 140737488355328:=by omega
    have hm : (W ++ [x]).map Evt.r = W.map Evt.r ++ [x.r]:=by rw [List.map_append];rfl
    have hlo : qhl 1 (W.map Evt.r ++ [x.r]) = true:=by rw [← hm];exact qv _ _
    rw [hm,List.length_append]
    obtain ⟨xt,xk,xl,xi,xp,xa⟩:=x
    simp only [Evt.r] at hlo
    simp only [qgg,zgs,zgr,zgq,zgt,hx,hi',hw,k1,k3,k5,k6,k7,k8,k9,tk,b,hlo,Evt.r,qbv,qv,Ev.exec,qb,qe,qc,qaj,qnz,Ev.Opnd.ev,Ev.Env.get,Ev.Env.set,Ev.look,qh,qbs,qad,qfl,Ev.AV.cells,qx,Ev.AV.plain,qaf,ql,qq,Ev.keep,qae,qw,qd,Ev.SObj.lo,qax,qu,qbj,qbh,qa8,List.replicate_one,zgi,↓qs,↓qan,Ev.it1,↓reduceIte,zga,zgb,zgd,zgc,zfe,zgj,Nat.reduceAdd,Nat.reduceEqDiff,Nat.reduceMul,Nat.reduceLeDiff,Nat.reducePow,reduceCtorEq,zgv,zfc,Bool.not_true,Bool.not_false,zgx,ne_eq,zfb,zff,zfd,zgu,Nat.le_refl,zgy]
   | false =>
    rw [hb] at k9
    have e1 : (D.take (i + 1)).filter (qk7 G) = (D.take i).filter (qk7 G):=by rw [qim hx,List.filter_append];simp [hb]
    refine .inl ⟨g,?_,trivial⟩
    rw [e1]
    generalize (D.take i).filter (qk7 G) = W at *
    simp only [qgg,hi',hw,k1,k3,k5,k6,k7,k8,k9,qbv,qv,Ev.exec,qb,qe,qc,qaj,Ev.Opnd.ev,Ev.Env.get,Ev.Env.set,Ev.look,qaf,ql,qq,Ev.keep,qae,qw,qd,Ev.SObj.lo,qax,qu,qbj,zgi,↓qs,↓qan,Ev.it1,↓reduceIte,zga,zgb,zgc,zfe,Nat.reduceEqDiff,reduceCtorEq,zgv,zfc,Bool.not_true,Bool.not_false,zfa,zgx,zfd,zgu,zgy]
  ·rintro g _
   simp only [List.take_length]
   simp only [qgg,Int.lt_irrefl,Ev.exec,qb,qe,qc,qaj,Ev.Opnd.ev,Ev.Env.get,Ev.Env.set,Ev.look,ql,zgi,↓qs,Ev.it1,↓reduceIte,Nat.reduceEqDiff,reduceCtorEq,zgw,zfa,zgy]
   exact ⟨_,rfl,g,rfl,rfl,rfl,rfl⟩
 obtain ⟨⟨y,e,σ⟩,k1,g,k2,k3,k4,k5⟩:=hL
 simp only [Int.ofNat_zero] at k1 k2 k3 k4 k5
 subst k2;subst k4
 have tk : List.take (D.filter (qk7 G)).length ((D.filter (qk7 G)).map Evt.r) = (D.filter (qk7 G)).map Evt.r:=List.take_of_length_le (by simp)
 generalize D.filter (qk7 G) = W at *
 rw [qaz,qy qww qvr]
 simp only [qmc,k1,k3,k5,tk,qbv,qv,qn,Ev.exec,qb,qe,qc,qaj,Ev.Opnd.ev,Ev.Env.get,Ev.Env.set,Ev.look,qo,qm,qab,qak,Ev.kill,qai,qq,Ev.keep,qae,qw,qd,Ev.SObj.lo,qax,qu,qbj,qaa,qfw,qea,zgi,↓qs,↓qan,↓reduceIte,zga,zgb,zgd,zgc,zgo,zfe,zgg,zgl,Nat.reduceAdd,Nat.reduceEqDiff,Nat.reduceLT,reduceCtorEq,zgv,zgw,zfc,zfa,zgx,and_true,zfd,zgu,Nat.le_refl,zgy]
end
theorem q4w (a : List (List Evt)) (ca cb : Bool) (hal : a.length ≤ 1000000) (hs : ∀ x ∈ a,x.length ≤ 1000000) (hk : ∀ x ∈ a,∀ e ∈ x,e.key.length ≤ 9223372036854775807) :
  qaz (evL T) qfj [(.fsl ((a).map qbc) ca),(.fsl ((a).map qbc) cb)] = some (bb true):=by
 have hL : ∃ y,itB (exec (evL T) itL none qh6) (qq [0,1,5] true 0) ⟨[(0,(.fsl ((a).map qbc) ca)),(1,(.fsl ((a).map qbc) cb)),(5,(ii ((0 : Nat))))],[]⟩ [] = some y ∧ (y.1 = .exit 0 ∧ y.2.1.marks = [] ∧ y.2.2 = []):=by
  refine itB_each a (fun i => ⟨[(0,(.fsl ((a).map qbc) ca)),(1,(.fsl ((a).map qbc) cb)),(5,(ii i))],[]⟩) [] _ ?_ ?_
  ·intro i x hi hx
   have hi' : (i : Int) < (a.length : Int):=by omega
   have hw : IntKind.i64.wrap ((i : Int) + 1) = ((i + 1 : Nat) : Int):=by rw [qas (by omega) (by omega)];simp
   have hxl:=hs _ (List.mem_of_getElem? hx)
   have hxk:=hk _ (List.mem_of_getElem? hx)
   have he:=qod x x false false (by omega) (by omega) hxk hxk
   rw [decide_eq_true rfl] at he
   simp only [qh6,zgs,zgr,zgq,zgt,hx,hi',hw,he,qbc,qdk,qv,Ev.exec,qb,qe,qc,qa0,qaj,Ev.evs,Ev.Opnd.ev,Ev.Env.get,Ev.Env.set,Ev.look,qh,qad,qaf,ql,qq,Ev.keep,qae,qw,qd,qax,qu,qg,qf,zgi,↓qs,Ev.it1,↓reduceIte,zga,zgb,zfe,zgh,Nat.reduceEqDiff,reduceCtorEq,zgv,zfc,Bool.not_true,zfa,zgx,zfd,zgy]
  ·simp only [qh6,Int.lt_irrefl,Ev.exec,qb,qe,qc,qaj,Ev.Opnd.ev,Ev.Env.get,Ev.Env.set,Ev.look,ql,zgi,↓qs,Ev.it1,↓reduceIte,Nat.reduceEqDiff,reduceCtorEq,zgw,zfa,zgy]
   exact ⟨_,rfl,rfl,rfl,rfl⟩
 obtain ⟨⟨y,e,σ⟩,k1,k2,k3,k4⟩:=hL
 simp only [Int.ofNat_zero] at k1 k2 k3 k4
 subst k2;subst k4
 rw [qaz,qy qth qsm]
 simp only [qke,k1,k3,qdk,qn,Ev.exec,qb,qe,qc,qaj,Ev.Opnd.ev,Ev.Env.get,Ev.Env.set,Ev.look,qo,qbn,qm,qab,qak,Ev.kill,qai,qq,Ev.keep,qae,qw,qd,qax,qu,qal,zgi,↓qs,↓qan,↓reduceIte,zga,zgb,zfe,Nat.reduceAdd,Nat.reduceEqDiff,reduceCtorEq,zgw,zfc,zfa,zgx,ne_eq,not_true_eq_false,zfd,zgy]
set_option maxRecDepth 10000
theorem qac3 (c : Cfg) (h : Small12 c) (h1 : 1 ≤ c.lps.length) : qaz (evL T) qjo [(.agg [(.fsl ((c.lps).map lpC) false),(.fsl ((c.progs).map qcs) false),(ii c.look),(ii c.fin),(ii c.cap)])] = some (.agg [(.fsl (((start c).trace).map qbc) false),(.fsl (((ql1 c.lps)).map lpF) false),(.fsl (((start c).pend).map Evt.r) false),(ii ((start c).n)),(bb ((start c).over))]):=by
 have hs:=q2e c h
 obtain ⟨cf,hi⟩:=qyf c h
 have hlps:=h.lps
 have hL : ∃ y,itB (exec (evL T) itL none qhn) (qq [1,2,3,4] false 2) ⟨[(1,(.fptr [(.fsl ((c.lps).map lpC) false),(.fsl ((c.progs).map qcs) false),(ii c.look),(ii c.fin),(ii c.cap)])),(2,.ptr 0 0 0 0),(3,.ptr 1 0 0 0),(4,(ii ((0 : Nat))))],[]⟩ (.row 5 [[.fsl [] false,.fsl [] false,.fsl [] false,(ii 0),(bb false)]] 0 :: .row 5 [[.fsl [] true,(.fsl (((ql1 c.lps)).map lpF) false),(.fsl (((sortL (qk4 c.lps))).map Evt.r) false),(ii 0),(bb false)]] 0 :: []) = some y ∧
   ∃ g : Nat,y.1 = .exit 0 ∧ y.2.1.marks = [] ∧ y.2.2 = [.row 5 [[.fsl [] false,.fsl [] false,.fsl [] false,(ii 0),(bb false)]] 0,.row 5 [[.sl 2 g 0 c.lps.length false,(.fsl (((ql1 c.lps)).map lpF) false),(.fsl (((sortL (qk4 c.lps))).map Evt.r) false),(ii 0),(bb false)]] 0,.row 1 (List.replicate c.lps.length (qbc [])) g] ∧ Ev.look y.2.1.vars 2 = some (.ptr 0 0 0 0) ∧ Ev.look y.2.1.vars 3 = some (.ptr 1 0 0 0):=by
  have key:=qen (f:=exec (evL T) itL none qhn) (s:=qq [1,2,3,4] false 2) (α:=AV × qac)
   (fun i a => ⟨[(1,(.fptr [(.fsl ((c.lps).map lpC) false),(.fsl ((c.progs).map qcs) false),(ii c.look),(ii c.fin),(ii c.cap)])),(2,.ptr 0 0 0 0),(3,.ptr 1 0 0 0),(4,(ii i))],[]⟩) (fun i a => .row 5 [[.fsl [] false,.fsl [] false,.fsl [] false,(ii 0),(bb false)]] 0 :: .row 5 [[a.1,(.fsl (((ql1 c.lps)).map lpF) false),(.fsl (((sortL (qk4 c.lps))).map Evt.r) false),(ii 0),(bb false)]] 0 :: a.2)
   (fun i a => i = 0 ∧ a = (.fsl [] true,[]) ∨ 0 < i ∧ ∃ g : Nat,a = (.sl 2 g 0 i false,[.row 1 (List.replicate i (qbc [])) g])) c.lps.length
   (fun y => ∃ g : Nat,y.1 = .exit 0 ∧ y.2.1.marks = [] ∧ y.2.2 = [.row 5 [[.fsl [] false,.fsl [] false,.fsl [] false,(ii 0),(bb false)]] 0,.row 5 [[.sl 2 g 0 c.lps.length false,(.fsl (((ql1 c.lps)).map lpF) false),(.fsl (((sortL (qk4 c.lps))).map Evt.r) false),(ii 0),(bb false)]] 0,.row 1 (List.replicate c.lps.length (qbc [])) g] ∧ Ev.look y.2.1.vars 2 = some (.ptr 0 0 0 0) ∧ Ev.look y.2.1.vars 3 = some (.ptr 1 0 0 0)) ?_ ?_ 0 (.fsl [] true,[]) (Nat.zero_le _) (.inl ⟨rfl,rfl⟩)
  ·exact key
  ·rintro i a hi ha
   have hi' : (i : Int) < (c.lps.length : Int):=by omega
   have hw : IntKind.i64.wrap ((i : Int) + 1) = ((i + 1 : Nat) : Int):=by rw [qas (by omega) (by omega)];simp
   rcases ha with ⟨h0,rfl⟩ | ⟨h0,g,rfl⟩
   ·refine .inl ⟨(.sl 2 0 0 (i + 1) false,[.row 1 (List.replicate (i + 1) (qbc [])) 0]),?_,.inr ⟨by omega,0,rfl⟩⟩
    have e1 : i + 1 = 1:=by omega
    have e2 : List.replicate (i + 1) (qbc []) = [[.fsl [] false]]:=by rw [e1];rfl
    rw [e2]
    have e3 : (AV.sl 2 0 0 (i + 1) false) = .sl 2 0 0 1 false:=by rw [e1]
    simp only [e3]
    simp only [qhn,hi',hw,Ev.exec,qb,qe,qc,qaj,qnz,Ev.Opnd.ev,Ev.Env.get,Ev.Env.set,Ev.look,qh,qbs,qad,qfl,Ev.AV.cells,Ev.AV.uc,qx,Ev.AV.plain,qaf,ql,qq,Ev.keep,qbh,qa8,List.replicate_one,zgi,↓qs,Ev.it1,↓reduceIte,zga,zgb,zgd,zge,zgo,zgf,zgg,zgm,zgl,zgj,zgk,zgh,Nat.reduceAdd,Nat.reduceEqDiff,Nat.reduceMul,Nat.reduceLeDiff,Nat.reducePow,zgv,zfc,zfa,zgx,ne_eq,zfb,not_true_eq_false,zff,zfd,Nat.add_zero,zgu,zgy]
   ·refine .inl ⟨(.sl 2 (g + 1) 0 (i + 1) false,[.row 1 (List.replicate (i + 1) (qbc [])) (g + 1)]),?_,.inr ⟨by omega,g + 1,rfl⟩⟩
    have e1 : List.replicate (i + 1) (qbc []) = List.replicate i (qbc []) ++ [[.fsl [] false]]:=by rw [List.replicate_succ'];rfl
    have b : (i + 1) * 24 ≤ 140737488355328:=by omega
    have hl : (List.replicate i (qbc [])).length = i:=List.length_replicate
    have tk : List.take i (List.replicate i (qbc [])) = List.replicate i (qbc []):=List.take_of_length_le (by simp)
    rw [e1]
    generalize List.replicate i (qbc []) = RR at *
    have hle : i ≤ i:=Nat.le_refl _
    simp only [qhn,hi',hw,b,hl,tk,hle,Ev.exec,qb,qe,qc,qaj,qnz,Ev.Opnd.ev,Ev.Env.get,Ev.Env.set,Ev.look,qh,qbs,qad,qfl,Ev.AV.cells,Ev.AV.uc,qx,Ev.AV.plain,qaf,ql,qq,Ev.keep,qbh,qa8,List.replicate_one,zgi,↓qs,Ev.it1,↓reduceIte,zga,zgb,zgd,zge,zgo,zgf,zgg,zgm,zgl,zgj,zgk,zgh,Nat.reduceAdd,Nat.reduceEqDiff,Nat.reduceMul,Nat.reduceLeDiff,Nat.reducePow,zgv,zfc,zfa,zgx,ne_eq,zfb,zff,zfd,Nat.add_zero,zgu,zgy]
  ·rintro a ha
   rcases ha with ⟨h0,rfl⟩ | ⟨h0,g,rfl⟩
   ·omega
   ·simp only [qhn,Int.lt_irrefl,Ev.exec,qb,qe,qc,qaj,Ev.Opnd.ev,Ev.Env.get,Ev.Env.set,Ev.look,qh,qad,ql,zgi,↓qs,Ev.it1,↓reduceIte,zgg,zgh,Nat.reduceEqDiff,zgw,zfa,zgy]
    exact ⟨_,rfl,g,rfl,rfl,rfl,rfl,rfl⟩
 obtain ⟨⟨y,e,σ⟩,k1,g,k2,k3,k4,k5,k6⟩:=hL
 simp only [Int.ofNat_zero] at k1 k2 k3 k4 k5 k6
 subst k2;subst k4
 have e1 : (start c).trace.map qbc = List.replicate c.lps.length (qbc []):=by simp [K.start]
 have e2 : (start c).pend = sortL (qk4 c.lps):=rfl
 have e3 : (start c).n = 0:=rfl
 have e4 : (start c).over = false:=rfl
 rw [e1,e2,e3,e4]
 have tk : List.take c.lps.length (List.replicate c.lps.length (qbc [])) = List.replicate c.lps.length (qbc []):=List.take_of_length_le (by simp)
 have hlo : qhl 0 (List.replicate c.lps.length (qbc [])) = true:=qty _ _ _ (q8u _ _)
 have hl : (List.replicate c.lps.length (qbc [])).length = c.lps.length:=List.length_replicate
 generalize List.replicate c.lps.length (qbc []) = RR at *
 have hle : c.lps.length ≤ c.lps.length:=Nat.le_refl _
 rw [qaz,qy qzy qyx]
 simp only [qns,hs,hi,k1,k3,k5,k6,tk,hlo,hl,hle,qc0,qbd,qv,qt8,qn,Ev.exec,qb,qe,qc,qa0,qaj,Ev.evs,Ev.Opnd.ev,Ev.Env.get,Ev.Env.set,Ev.look,qo,qh,qad,qgp,Ev.AV.cells,Ev.AV.uc,qx,Ev.AV.plain,qm,qab,qak,Ev.kill,qai,qq,Ev.keep,qd,qax,qbe,qu,qbj,qg,qf,qal,q07,qfw,qea,qfm,qd8,↓qs,↓qan,↓reduceIte,zga,zgb,zgd,zge,zgc,zgo,zfe,zgf,zgg,List.drop_nil,zgm,zgl,zgn,zgj,zgk,Nat.reduceAdd,Nat.reduceEqDiff,Nat.reduceLT,Nat.reduceLeDiff,Int.cast_ofNat_Int,zgw,zfc,Bool.and_true,zfa,zgx,and_true,ne_eq,zfb,zff,zfd,Nat.le_refl,zgy]
section
variable {c : Cfg} {s : Sim} {h : List Evt}
theorem q9w (H : SInv c s h) {e : Evt} {rest : List Evt} (hp : s.pend = e :: rest) (hh : h.length ≤ 60) (L : List (Lp × Bool)) (hL : L.map Prod.fst = s.lps) (hfl : ∀ x ∈ L,x.2 = true → x.1.procs = []) :
  ∃ L' : List (Lp × Bool),L'.map Prod.fst = (s.step c e rest).lps ∧ (∀ x ∈ L',x.2 = true → x.1.procs = []) ∧
   qaz (evL T) qig [(.agg [(.fsl ((c.lps).map lpC) false),(.fsl ((c.progs).map qcs) false),(ii c.look),(ii c.fin),(ii c.cap)]),(.agg [(.fsl ((s.trace).map qbc) false),(.fsl ((L).map lpF) false),(.fsl ((s.pend).map Evt.r) false),(ii s.n),(bb s.over)])] = some (.agg [(.fsl (((s.step c e rest).trace).map qbc) false),(.fsl ((L').map lpF) false),(.fsl (((s.step c e rest).pend).map Evt.r) false),(ii ((s.step c e rest).n)),(bb ((s.step c e rest).over))]):=by
 obtain ⟨x,hx,hlx,R⟩:=H.head hp (by omega)
 have ge:=H.ev e (by rw [hp];simp)
 obtain ⟨i,hi⟩ : ∃ i : Nat,e.lp = i:=⟨_,(Int.toNat_of_nonneg ge.lp.1).symm⟩
 have hin : i < c.lps.length:=by have:=ge.lp;omega
 rw [hi,Int.toNat_natCast] at hx
 obtain ⟨z,hz⟩ : ∃ z,L[i]? = some z:=⟨_,List.getElem?_eq_getElem (by have:=congrArg List.length hL;rw [List.length_map,H.lpl] at this;omega)⟩
 have hz1 : z.1 = x:=by
  have : s.lps[i]? = some z.1:=by rw [← hL,List.getElem?_map,hz];rfl
  rw [hx] at this;exact (Option.some.inj this).symm
 obtain ⟨z1,f⟩:=z
 simp only at hz1
 subst hz1
 have hf:=hfl _ (List.mem_of_getElem? hz)
 simp only at hf
 have hsz:=R.sizes
 have hkn:=H.keyNe hp (by omega)
 rw [hlx] at hkn
 obtain ⟨q1,_,q3,q4,q5,q6⟩:=hsz
 have hlen:=H.len
 rw [hp] at hlen
 have ht : s.trace[i]? = some (qrq s i):=by unfold qrq;rw [Int.toNat_natCast,List.getElem?_eq_getElem (by rw [H.trl];exact hin)];rfl
 have htl : (qrq s i).length ≤ 1000:=by
  have h1:=H.tr i hin
  have : qrq s i = qbq h i:=by unfold qrq;rw [Int.toNat_natCast,h1];rfl
  rw [this]
  have:=List.length_filter_le (fun e : Evt => decide (e.lp = i)) h
  unfold qbq;omega
 have hE:=q6n R f hf
 have hkr : qlb (rest ++ (qba c z1 e).out):=(List.pairwise_append.1 hkn).2.1
 have hko : qcj (rest ++ (qba c z1 e).out):=by
  intro y hy
  rcases List.mem_append.1 hy with hy | hy
  ·have:=(H.ev y (by rw [hp];simp [hy])).key;omega
  ·have:=q4 y hy;omega
 have hsub : ((rest ++ (qba c z1 e).out).filter (qk7 (qba c z1 e).gone)).Sublist (rest ++ (qba c z1 e).out):=List.filter_sublist
 have hDl : (rest ++ (qba c z1 e).out).length ≤ 1000000:=by simp only [zgp,zga] at hlen ⊢;omega
 have hW:=q9r (rest ++ (qba c z1 e).out) (qba c z1 e).gone false (qba c z1 e).nil hDl hko (by omega) (fun k hk => by have:=q5 k hk;omega)
 obtain ⟨cf,_,hS⟩:=qnp ((rest ++ (qba c z1 e).out).filter (qk7 (qba c z1 e).gone)) false (by have:=hsub.length_le;omega) (fun x hx => hko x (hsub.subset hx)) (List.Pairwise.sublist hsub hkr.dist)
 have hstep : s.step c e rest = ⟨s.trace.set i (qrq s i ++ [e]),s.lps.set i (qba c z1 e).lp,sortL ((rest ++ (qba c z1 e).out).filter (qk7 (qba c z1 e).gone)),s.n + 1,s.over || (qba c z1 e).over⟩:=by
  unfold Sim.step;rw [hlx,hi,Int.toNat_natCast]
 refine ⟨L.set i ((qba c z1 e).lp,f),by rw [hstep,List.map_set,hL],fun y hy hyf => ?_,?_⟩
 ·rcases List.mem_or_eq_of_mem_set hy with hy | rfl
  ·exact hfl y hy hyf
  ·exact qzm (hf hyf)
 rw [hstep,hp]
 have hw : IntKind.i64.wrap ((s.n : Int) + 1) = ((s.n + 1 : Nat) : Int):=by
  have:=H.n;rw [qas (by omega) (by omega)];simp
 have htr:=H.trl
 have hLl : L.length = c.lps.length:=by have:=congrArg List.length hL;rw [List.length_map,H.lpl] at this;exact this
 have hn8:=H.valid.lps.2
 have hnz : 1 ≤ c.lps.length:=H.valid.lps.1
 simp only
 generalize hr : qba c z1 e = r at *
 rw [List.map_set,List.map_set]
 have g1 : (s.trace.map qbc)[i]? = some (qbc (qrq s i)):=by rw [List.getElem?_map,ht];rfl
 have g2 : (L.map lpF)[i]? = some (lpF (z1,f)):=by rw [List.getElem?_map,hz];rfl
 have ok1:=q7x s.trace
 have ok2:=lpFs_ok L
 have ok3:=qem (qrq s i)
 have ok4:=qem rest
 have ok5:=qem (e :: rest)
 have ok6:=qem r.out
 have lo1:=qdk 0 (s.trace.set i (qrq s i ++ [e]))
 have lo2:=qt8 0 (L.set i (r.lp,f))
 rw [List.map_set] at lo1 lo2
 have b1 : c.lps.length * 24 ≤ 140737488355328:=by omega
 have b2 : c.lps.length * 48 ≤ 140737488355328:=by omega
 have b3 : (qrq s i).length * 64 ≤ 140737488355328:=by omega
 have b4 : ((qrq s i).length + 1) * 64 ≤ 140737488355328:=by omega
 have b5 : rest.length * 64 ≤ 140737488355328:=by simp only [zga] at hlen;omega
 have b6 : (rest.length + r.out.length) * 64 ≤ 140737488355328:=by simp only [zga] at hlen;omega
 have n1 : (s.trace.map qbc) ≠ []:=by intro k;have:=congrArg List.length k;simp at this;rw [this] at htr;simp at htr;omega
 have l1 : (s.trace.map qbc).length = c.lps.length:=by rw [List.length_map,htr]
 have l2 : (L.map lpF).length = c.lps.length:=by rw [List.length_map,hLl]
 have tk1 : ∀ v,List.take c.lps.length ((s.trace.map qbc).set i v) = (s.trace.map qbc).set i v:=fun v => List.take_of_length_le (by rw [List.length_set,l1];exact Nat.le_refl _)
 have tk2 : ∀ v,List.take c.lps.length ((L.map lpF).set i v) = (L.map lpF).set i v:=fun v => List.take_of_length_le (by rw [List.length_set,l2];exact Nat.le_refl _)
 have tk3 : List.take (qrq s i).length ((qrq s i).map Evt.r) = (qrq s i).map Evt.r:=List.take_of_length_le (by simp)
 have tk4 : List.take rest.length (rest.map Evt.r) = rest.map Evt.r:=List.take_of_length_le (by simp)
 have tk5 : ∀ v,List.take ((qrq s i).length + 1) ((qrq s i).map Evt.r ++ [v]) = (qrq s i).map Evt.r ++ [v]:=fun v => List.take_of_length_le (by simp)
 have tk6 : List.take (rest.length + r.out.length) (rest.map Evt.r ++ r.out.map Evt.r) = rest.map Evt.r ++ r.out.map Evt.r:=List.take_of_length_le (by simp)
 have hle : c.lps.length ≤ c.lps.length:=Nat.le_refl _
 have c1 : (1 : Int) ≤ ((rest.length + 1 : Nat) : Int):=by omega
 have c2 : (((rest.length + 1 : Nat) : Int)).toNat - 1 = rest.length:=by omega
 have hm : (qrq s i ++ [e]).map Evt.r = (qrq s i).map Evt.r ++ [e.r]:=by rw [List.map_append];rfl
 have lo3 : qhl 0 ((qrq s i).map Evt.r ++ [e.r]) = true:=by rw [← hm];exact qv _ _
 have hmo : (rest ++ r.out).map Evt.r = rest.map Evt.r ++ r.out.map Evt.r:=List.map_append
 have ev1 : qbc (qrq s i ++ [e]) = [.fsl ((qrq s i).map Evt.r ++ [e.r]) false]:=by unfold qbc;rw [hm]
 have ev2 : qbc (qrq s i) = [(.fsl (((qrq s i)).map Evt.r) false)]:=rfl
 rw [hmo] at hW
 generalize (rest ++ r.out).filter (qk7 r.gone) = F at hW hS ⊢
 rw [ev1] at lo1 ⊢
 rw [ev2] at g1
 obtain ⟨et,ek,el,ei,ep,ea⟩:=e
 simp only at hi
 subst hi
 simp only [List.map_cons] at ok5 ⊢
 simp only [Evt.r] at lo1 lo3 tk5 ok5 ⊢
 simp only [lpF] at g2 lo2
 rw [qaz,qy qyk qw0]
 have hrep : List.replicate 1 ([(ii 0),.fsl [] false,(ii 0),(ii 0),(ii 0),(ii 0)] : List AV) = [[(ii 0),.fsl [] false,(ii 0),(ii 0),(ii 0),(ii 0)]]:=rfl
 by_cases ho : r.out = []
 ·have ho1 : r.out.map Evt.r = []:=by rw [ho];rfl
  have ho2 : r.out.length = 0:=by rw [ho];rfl
  rw [ho1] at hW hE tk6
  simp only [zgn,ho2,Nat.add_zero] at hW b6 tk6
  cases hov : s.over <;> simp only [qlj,hrep,g1,g2,ok1,ok2,ok3,ok4,ok5,b1,b2,b3,b4,b5,n1,l1,l2,tk1,tk2,tk3,tk4,tk5,hle,c1,lo1,lo2,hE,hW,hS,hw,hin,lpF,zgs,zgr,Int.toNat_zero,Int.toNat_one,Int.le_refl,imp_self,Nat.zero_mul,Nat.zero_le,Nat.add_sub_cancel,qv,qc0,qbd,qap,qah,qbv,qn,Ev.exec,qb,qe,qc,qa0,qaj,qnz,Ev.evs,Ev.Opnd.ev,Ev.Env.get,Ev.Env.set,Ev.Env.unset,Ev.look,qo,qfx,qh,qbs,qad,qfl,Ev.AV.cells,Ev.AV.uc,qx,Ev.AV.plain,qaf,qm,qab,qak,Ev.kill,qai,qd,qax,qbe,qu,qg,qf,qbh,qa8,qal,List.length_set,List.replicate_zero,zgi,↓qs,↓reduceIte,zga,zgb,zgp,zgd,zge,zgc,zgo,zfe,zgf,zgg,List.drop_nil,zgm,zgl,zgn,zgj,zgk,zgh,Nat.reduceAdd,Nat.reduceEqDiff,Nat.reduceMul,Nat.reduceLT,Nat.reduceLeDiff,Nat.reducePow,Int.reduceLE,reduceCtorEq,zgv,zfc,Bool.and_true,Bool.true_or,Bool.false_or,zfa,Bool.true_eq_false,zgx,ne_eq,zfb,not_true_eq_false,zff,zfd,Nat.add_zero,zgu,Nat.le_refl,Option.isSome_none,zgy,and_false]
  all_goals done
 ·have ho1 : ¬ r.out.map Evt.r = []:=by simpa using ho
  cases hov : s.over <;> simp only [qlj,hrep,g1,g2,ok1,ok2,ok3,ok4,ok5,ok6,b1,b2,b3,b4,b5,b6,n1,l1,l2,tk1,tk2,tk3,tk4,tk5,tk6,hle,c1,lo1,lo2,hE,hW,hS,hw,hin,ho1,lpF,zgs,zgr,Int.toNat_zero,Int.toNat_one,Int.le_refl,imp_self,Nat.zero_mul,Nat.zero_le,Nat.add_sub_cancel,qkc,qv,qc0,qbd,qap,qah,qbv,qn,Ev.exec,qb,qe,qc,qa0,qaj,qnz,Ev.evs,Ev.Opnd.ev,Ev.Env.get,Ev.Env.set,Ev.Env.unset,Ev.look,qo,qfx,qh,qbs,qad,qfl,Ev.AV.cells,Ev.AV.uc,qx,Ev.AV.plain,qaf,qm,qab,qak,Ev.kill,qai,qd,qax,qbe,qu,qg,qf,qbh,qa8,qal,List.length_set,List.replicate_zero,zgi,↓qs,↓reduceIte,zga,zgb,zgp,zgd,zge,zgc,zgo,zfe,zgf,zgg,List.drop_nil,zgm,zgl,zgn,zgj,zgk,zgh,Nat.reduceAdd,Nat.reduceEqDiff,Nat.reduceMul,Nat.reduceLT,Nat.reduceLeDiff,Nat.reducePow,Int.reduceLE,reduceCtorEq,zgv,zfc,Bool.and_true,Bool.true_or,Bool.false_or,zfa,Bool.true_eq_false,zgx,ne_eq,zfb,not_true_eq_false,zff,zfd,Nat.add_zero,zgu,Nat.le_refl,Option.isSome_none,zgy,and_false]
  all_goals done
end
set_option maxRecDepth 10000
section
variable {c : Cfg} {s : Sim} {h : List Evt}
def LOk (L : List (Lp × Bool)) (s : Sim) : Prop:=L.map Prod.fst = s.lps ∧ ∀ x ∈ L,x.2 = true → x.1.procs = []
theorem rsim_L (lim : Nat) (hlim : lim ≤ 60) : ∀ (k : Nat) {s : Sim} {h : List Evt} {L : List (Lp × Bool)},s.n + k = lim → SInv c s h → LOk L s →
  ∃ y,itB (exec (evL T) itL none qec) (qq [1,2,4,5] true 2) ⟨[(1,(ii lim)),(2,(.fptr [(.fsl ((c.lps).map lpC) false),(.fsl ((c.progs).map qcs) false),(ii c.look),(ii c.fin),(ii c.cap)])),(4,.ptr 0 0 0 0),(5,.ptr 1 0 0 0)],[]⟩ [.row 5 [[.fsl [] false,.fsl [] false,.fsl [] false,(ii 0),(bb false)]] 0,.row 5 [[(.fsl ((s.trace).map qbc) false),(.fsl ((L).map lpF) false),(.fsl ((s.pend).map Evt.r) false),(ii s.n),(bb s.over)]] 0] = some y ∧
   ∃ L' : List (Lp × Bool),LOk L' (Sim.run c k s) ∧ y.1 = .exit 0 ∧ y.2.1.marks = [] ∧ y.2.2 = [.row 5 [[.fsl [] false,.fsl [] false,.fsl [] false,(ii 0),(bb false)]] 0,.row 5 [[(.fsl (((Sim.run c k s).trace).map qbc) false),(.fsl ((L').map lpF) false),(.fsl (((Sim.run c k s).pend).map Evt.r) false),(ii ((Sim.run c k s).n)),(bb ((Sim.run c k s).over))]] 0] ∧ Ev.look y.2.1.vars 4 = some (.ptr 0 0 0 0) ∧ Ev.look y.2.1.vars 5 = some (.ptr 1 0 0 0):=by
 intro k
 induction k with
 | zero =>
  intro s h L hk H hL
  have c1 : ¬ (s.n : Int) < (lim : Int):=by omega
  have hx : ∃ y,it1 (exec (evL T) itL none qec) (qq [1,2,4,5] true 2) ⟨[(1,(ii lim)),(2,(.fptr [(.fsl ((c.lps).map lpC) false),(.fsl ((c.progs).map qcs) false),(ii c.look),(ii c.fin),(ii c.cap)])),(4,.ptr 0 0 0 0),(5,.ptr 1 0 0 0)],[]⟩ [.row 5 [[.fsl [] false,.fsl [] false,.fsl [] false,(ii 0),(bb false)]] 0,.row 5 [[(.fsl ((s.trace).map qbc) false),(.fsl ((L).map lpF) false),(.fsl ((s.pend).map Evt.r) false),(ii s.n),(bb s.over)]] 0] = some (.inr y) ∧ y.1 = .exit 0 ∧ y.2.1.marks = [] ∧ y.2.2 = [.row 5 [[.fsl [] false,.fsl [] false,.fsl [] false,(ii 0),(bb false)]] 0,.row 5 [[(.fsl ((s.trace).map qbc) false),(.fsl ((L).map lpF) false),(.fsl ((s.pend).map Evt.r) false),(ii s.n),(bb s.over)]] 0] ∧ Ev.look y.2.1.vars 4 = some (.ptr 0 0 0 0) ∧ Ev.look y.2.1.vars 5 = some (.ptr 1 0 0 0):=by
   simp only [qec,c1,Ev.exec,qb,qe,qc,qaj,Ev.Opnd.ev,Ev.Env.get,Ev.Env.set,Ev.Env.unset,Ev.look,qh,qad,ql,↓qs,Ev.it1,↓reduceIte,zgd,zge,zgf,zgg,zgh,Nat.reduceEqDiff,zgw,zfa,zfd,zgy]
   exact ⟨_,rfl,rfl,rfl,rfl,rfl,rfl⟩
  obtain ⟨y,h1,h2,h3,h4,h5,h6⟩:=hx
  exact ⟨y,qm5 h1,L,hL,h2,h3,h4,h5,h6⟩
 | succ k ih =>
  intro s h L hk H hL
  have c1 : (s.n : Int) < (lim : Int):=by omega
  have c2 : (s.n : Int) < 2000:=by omega
  by_cases hb : s.ready c = true
  ·obtain ⟨e,rest,hp,hf⟩:=q3v hb
   have hhl : h.length ≤ 60:=by have:=H.n;omega
   obtain ⟨L1,l1,l2,hc⟩:=q9w H hp hhl L hL.1 hL.2
   obtain ⟨y,g1,g2⟩:=ih (s:=s.step c e rest) (h:=h ++ [e]) (by show s.n + 1 + k = lim;omega) (H.step hp (by omega) hf) ⟨l1,l2⟩
   have hrun : Sim.run c (k + 1) s = Sim.run c k (s.step c e rest):=by rw [Sim.run,if_pos hb,go_eq hp]
   rw [hrun]
   refine ⟨y,qy0 ?_ g1,g2⟩
   have c3 : ((rest.length + 1 : Nat) : Int) > 0:=by omega
   rw [hp] at hc ⊢
   obtain ⟨et,ek,el,ei,ep,ea⟩:=e
   simp only at hf
   simp only [List.map_cons,Evt.r] at hc ⊢
   simp only [qec,c1,c2,c3,hf,hc,Int.le_refl,Int.toNat_zero,qdk,qt8,qv,qc0,qbd,qah,Ev.exec,qb,qe,qc,qa0,qaj,Ev.evs,Ev.Opnd.ev,Ev.Env.get,Ev.Env.set,Ev.look,qh,qad,Ev.AV.cells,qx,Ev.AV.plain,ql,qau,qq,Ev.keep,qae,qw,qd,Ev.SObj.lo,qax,qbe,qu,qbt,qez,qg,qf,qaa,qag,zgi,↓qs,Ev.it1,↓reduceIte,zga,zgb,zgd,zge,zgc,zgo,zfe,zgf,zgg,List.drop_nil,zgl,zgn,zgj,zgk,zgh,Nat.reduceAdd,Nat.reduceEqDiff,Nat.reduceLT,zgv,zfc,zfa,zgx,zfd,zgu,Nat.le_refl,zgy]
  ·have hb' : s.ready c = false:=by simpa using hb
   have hrun : Sim.run c (k + 1) s = s:=by rw [Sim.run,if_neg hb]
   rw [hrun]
   have hx : ∃ y,it1 (exec (evL T) itL none qec) (qq [1,2,4,5] true 2) ⟨[(1,(ii lim)),(2,(.fptr [(.fsl ((c.lps).map lpC) false),(.fsl ((c.progs).map qcs) false),(ii c.look),(ii c.fin),(ii c.cap)])),(4,.ptr 0 0 0 0),(5,.ptr 1 0 0 0)],[]⟩ [.row 5 [[.fsl [] false,.fsl [] false,.fsl [] false,(ii 0),(bb false)]] 0,.row 5 [[(.fsl ((s.trace).map qbc) false),(.fsl ((L).map lpF) false),(.fsl ((s.pend).map Evt.r) false),(ii s.n),(bb s.over)]] 0] = some (.inr y) ∧ y.1 = .exit 0 ∧ y.2.1.marks = [] ∧ y.2.2 = [.row 5 [[.fsl [] false,.fsl [] false,.fsl [] false,(ii 0),(bb false)]] 0,.row 5 [[(.fsl ((s.trace).map qbc) false),(.fsl ((L).map lpF) false),(.fsl ((s.pend).map Evt.r) false),(ii s.n),(bb s.over)]] 0] ∧ Ev.look y.2.1.vars 4 = some (.ptr 0 0 0 0) ∧ Ev.look y.2.1.vars 5 = some (.ptr 1 0 0 0):=by
    unfold Sim.ready at hb'
    cases hp : s.pend with
    | nil =>
     simp only [List.map_nil]
     simp only [qec,c1,c2,gt_iff_lt,Int.lt_irrefl,Ev.exec,qb,qe,qc,qaj,Ev.Opnd.ev,Ev.Env.get,Ev.Env.set,Ev.Env.unset,Ev.look,qh,qad,ql,qau,↓qs,Ev.it1,↓reduceIte,zgb,zgd,zge,zgf,zgg,zgh,Nat.reduceEqDiff,Int.cast_ofNat_Int,zgv,zgw,zfa,zfd,zgy]
     exact ⟨_,rfl,rfl,rfl,rfl,rfl,rfl⟩
    | cons e rest =>
     rw [hp] at hb'
     simp only [decide_eq_false_iff_not] at hb'
     have c3 : ((rest.length + 1 : Nat) : Int) > 0:=by omega
     obtain ⟨et,ek,el,ei,ep,ea⟩:=e
     simp only at hb'
     simp only [List.map_cons,Evt.r]
     simp only [qec,c1,c2,c3,hb',Int.le_refl,Int.toNat_zero,Ev.exec,qb,qe,qc,qaj,Ev.Opnd.ev,Ev.Env.get,Ev.Env.set,Ev.look,qh,qad,ql,qau,zgi,↓qs,Ev.it1,↓reduceIte,zga,zgb,zgd,zge,zgf,zgg,zgh,Nat.reduceAdd,Nat.reduceEqDiff,zgv,zgw,zfa,zfd,zgy]
     exact ⟨_,rfl,rfl,rfl,rfl,rfl,rfl⟩
   obtain ⟨y,h1,h2,h3,h4,h5,h6⟩:=hx
   exact ⟨y,qm5 h1,L,hL,h2,h3,h4,h5,h6⟩
theorem LOk.start (c : Cfg) : LOk (ql1 c.lps) (start c):=by
 refine ⟨rfl,fun x hx hf => ?_⟩
 simp only [ql1,qaap,List.mem_map] at hx
 obtain ⟨ps,⟨l,_,rfl⟩,rfl⟩:=hx
 simpa [stLp] using hf
theorem q79 (G : Good c) (lim : Nat) (hlim : lim ≤ 60) : ∃ L : List (Lp × Bool),LOk L (runS c lim) ∧ qaz (evL T) qgq [(.agg [(.fsl ((c.lps).map lpC) false),(.fsl ((c.progs).map qcs) false),(ii c.look),(ii c.fin),(ii c.cap)]),(ii lim)] = some (.agg [(.fsl (((runS c lim).trace).map qbc) false),(.fsl ((L).map lpF) false),(.fsl (((runS c lim).pend).map Evt.r) false),(ii ((runS c lim).n)),(bb ((runS c lim).over))]):=by
 have hs:=qac3 c G.h12 G.v.lps.1
 obtain ⟨⟨y,e,σ⟩,k1,L,hL,k2,k3,k4,k5,k6⟩:=rsim_L (c:=c) lim hlim lim (by show 0 + lim = lim;omega) (SInv.start G.v) (LOk.start c)
 simp only at k2 k3 k4 k5 k6
 subst k2;subst k4
 refine ⟨L,hL,?_⟩
 unfold runS
 generalize start c = s0 at *
 rw [qaz,qy qvx qum]
 simp only [qln,hs,k1,k3,k5,k6,qdk,qt8,qv,qc0,qbd,qn,Ev.exec,qb,qe,qc,qa0,qaj,Ev.evs,Ev.Opnd.ev,Ev.Env.get,Ev.Env.set,Ev.look,qo,qh,qad,Ev.AV.cells,qx,Ev.AV.plain,qm,qab,qak,Ev.kill,qai,qq,Ev.keep,qae,qw,qd,Ev.SObj.lo,qax,qbe,qu,qbt,qez,qg,qf,qaa,qag,qal,↓qs,↓qan,↓reduceIte,zga,zgb,zgd,zge,zgc,zgo,zfe,zgf,zgg,List.drop_nil,zgm,zgl,zgn,zgj,zgk,Nat.reduceAdd,Nat.reduceEqDiff,Nat.reduceLT,reduceCtorEq,zgv,zfc,zgx,ne_eq,zfb,zff,zfd,zgu,Nat.le_refl,zgy]
end
end Go.Proofs.YtbhhifdhlafklaaGreat.K
