/- For every input the statement of this claim returns true: texts of its proof, joined (part 9). -/
import Derived.Test.YtpgdfkciinankaaGreatGM04
import Derived.Test.YtpgdfkciinankaaGreatGM06
import Derived.Test.YtpgdfkciinankaaGreatGM07
set_option linter.unusedSectionVars false
set_option linter.unusedSimpArgs false
set_option linter.unusedVariables false
open Nat renaming reduceEqDiff → wa, reduceLeDiff → wc, reduceAdd → wf, zero_le → ws, reducePow → wt, le_refl → wv, reduceMul → wE, reduceLT → wI
open _root_ renaming reduceIte → wb, reduceCtorEq → wh
open Go.Ev.AV renaming cells → wd, plain → we, uc → wK
open Go.Ev renaming ev1 → wg, look → wj, stP → wG
open List renaming getElem?_append_left → wi, take_length → wk, length_append → wm, mem_iff_getElem? → wn, mem_append_right → wo, map_nil → wp, append_assoc → wr, getElem?_set_self → wu, replicate → ww, mem_append → wx, getElem?_cons_succ → wy, pairwise_iff_getElem → wz, getElem?_set_ne → wA, mem_append_left → wB, eq_nil_of_length_eq_zero → wC, map_cons → wD, all_eq_true → wF, take → wH, mem_singleton → wJ, getElem?_mapIdx → wO, getElem_mapIdx → wP, map_append → wQ, append_nil → wR
open Int renaming lt_irrefl → wl, le_refl → wN, reduceEq → wS
open Bool renaming and_eq_true → wq, and_false → wT
open List.cons renaming injEq → wL
open List.Pairwise renaming sublist → wM
open Go.Ev.SObj renaming lo → wU
namespace Go.Proofs.YtpgdfkciinankaaGreat.K
open Go.Ev
set_option maxRecDepth 10000
section
variable (c:Cfg) (x:Lp) (e:Evt)
theorem qao6 (hk:e.kind=3):qm (evL T) qhw [(.agg [(.fsl ((c.lps).map lpC) false),(.fsl ((c.progs).map qau) false),(ii c.look),(ii c.fin),(ii c.cap)]),(.agg [(ii x.r0),(ii x.r1),(.fsl ((x.procs).map Pr.r) false),(ii x.sum)]),(.agg [(ii e.time),(.fsl ((e.key).map qy) false),(ii e.lp),(ii e.kind),(ii e.proc),(ii e.arg)])]=some (.tup [(.agg [(ii ((⟨x.r0,x.r1,x.procs,w64 (x.sum+e.arg)⟩:Lp).r0)),(ii ((⟨x.r0,x.r1,x.procs,w64 (x.sum+e.arg)⟩:Lp).r1)),(.fsl (((⟨x.r0,x.r1,x.procs,w64 (x.sum+e.arg)⟩:Lp).procs).map Pr.r) false),(ii ((⟨x.r0,x.r1,x.procs,w64 (x.sum+e.arg)⟩:Lp).sum))]),.fsl [] true,.fsl [] true,(bb false)]):=by
 rw[qm,qd qrf qp9]
 simp only[qbz,hk,qr,wc,wg,wG,qb,wd,wK,we,qk,ne_eq,zgy,↓qc,↓wb,wf,wa,wc,wh]
theorem qal9 (hk:¬e.kind=3) (ha:qr6 x e=none):qm (evL T) qhw [(.agg [(.fsl ((c.lps).map lpC) false),(.fsl ((c.progs).map qau) false),(ii c.look),(ii c.fin),(ii c.cap)]),(.agg [(ii x.r0),(ii x.r1),(.fsl ((x.procs).map Pr.r) false),(ii x.sum)]),(.agg [(ii e.time),(.fsl ((e.key).map qy) false),(ii e.lp),(ii e.kind),(ii e.proc),(ii e.arg)])]=some (.tup [(.agg [(ii x.r0),(ii x.r1),(.fsl ((x.procs).map Pr.r) false),(ii x.sum)]),.fsl [] true,.fsl [] true,(bb false)]):=by
 rw[qm,qd qrf qp9]
 by_cases k1:e.kind=1
 case neg=>
  by_cases k2:e.kind=2
  case neg=>simp only[qbz,hk,k1,k2,qr,wc,wg,wG,qb,wd,we,qk,ne_eq,zgy,↓qc,↓wb,wf,wa,wc,wh]
  by_cases h1:e.proc<0
  ·simp only[qbz,k2,h1,qr,wc,wg,wG,qb,wd,we,qk,ne_eq,zgy,↓qc,↓wb,wf,wa,wc,wS,wh]
  by_cases h2:e.proc≥(x.procs.length:Int)
  ·simp only[qbz,k2,h1,h2,qr,wc,wg,wG,qb,wd,we,qk,ne_eq,zgy,↓qc,↓wb,wf,wa,wc,wS,wh]
  obtain⟨q,hq⟩ : ∃q,x.procs[e.proc.toNat]? = some q:=⟨_,zgE (by omega)⟩
  have h0:0≤e.proc:=by omega
  have hal:q.alive=false:=by
   unfold qr6 at ha
   rw[if_pos ⟨.inr k2,h0⟩,hq]at ha
   cases h:q.alive with
   |false=>rfl
   |true=>simp[h]at ha
  simp only[qbz,k2,h0,h1,h2,hq,hal,zgq,zgt,Pr.r,qr,wc,wg,wG,qb,wd,we,qk,ne_eq,zgy,↓qc,↓wb,wf,wa,wc,wS,wh]
 by_cases h1:e.proc<0
 ·simp only[qbz,k1,h1,qr,wc,wg,wG,qb,wd,we,qk,ne_eq,zgy,↓qc,↓wb,wf,wa,wc,wS,wh]
 by_cases h2:e.proc≥(x.procs.length:Int)
 ·simp only[qbz,k1,h1,h2,qr,wc,wg,wG,qb,wd,we,qk,ne_eq,zgy,↓qc,↓wb,wf,wa,wc,wS,wh]
 obtain⟨q,hq⟩ : ∃q,x.procs[e.proc.toNat]? = some q:=⟨_,zgE (by omega)⟩
 have h0:0≤e.proc:=by omega
 have hal:q.alive=false:=by
  unfold qr6 at ha
  rw[if_pos ⟨.inl k1,h0⟩,hq]at ha
  cases h:q.alive with
  |false=>rfl
  |true=>simp[h]at ha
 simp only[qbz,k1,h0,h1,h2,hq,hal,zgq,zgt,Pr.r,qr,wc,wg,wG,qb,wd,we,qk,ne_eq,zgy,↓qc,↓wb,wf,wa,wc,wS,wh]
theorem qan4 (h:q5m c x e) {q:Pr} (ha:qr6 x e=some q) :
  qm (evL T) qhw [(.agg [(.fsl ((c.lps).map lpC) false),(.fsl ((c.progs).map qau) false),(ii c.look),(ii c.fin),(ii c.cap)]),(.agg [(ii x.r0),(ii x.r1),(.fsl ((x.procs).map Pr.r) false),(ii x.sum)]),(.agg [(ii e.time),(.fsl ((e.key).map qy) false),(ii e.lp),(ii e.kind),(ii e.proc),(ii e.arg)])]=some (.tup [(.agg [(ii ((qagv (qyq c x e q)).r0)),(ii ((qagv (qyq c x e q)).r1)),(.fsl (((qagv (qyq c x e q)).procs).map Pr.r) false),(ii ((qagv (qyq c x e q)).sum))]),(.fsl (((qyq c x e q).out).map Evt.r) false),(.fsl (((qyq c x e q).gone).map qh7) false),(bb ((qyq c x e q).over))]):=by
 unfold qr6 at ha
 split at ha
 case isFalse=>cases ha
 rename_i hc
 obtain⟨hkind,h0⟩:=hc
 obtain⟨i,hi⟩ : ∃i:Nat,e.proc=i:=⟨_,(Int.toNat_of_nonneg h0).symm⟩
 have hin:e.proc.toNat=i:=by omega
 rw[hin,zob]at ha
 obtain⟨q',hq,ha⟩:=ha
 split at ha
 case isFalse=>cases ha
 rename_i hal
 cases ha
 have hlt:=(zei.1 hq).1
 obtain⟨p1,p2,p3,p4,p5⟩:=h.proc q (zmg hq)
 obtain⟨p,hp⟩ : ∃p,c.progs[q.prog.toNat]? = some p:=⟨_,zgE (by omega)⟩
 obtain⟨pl,pok⟩:=h.prog p (zmg hp)
 have hinv:=qabn c x e h hi hq
 have hxp : ∃q',((qcw x e).setP i (qmp e q)).procs[i]? = some q'∧q'.prog=q.prog:=⟨qmp e q,by simp only[Ex.setP,qcw];rw[wu hlt],qacg e q⟩
 have hact:=q62 c e i p q.prog h.key hi pl pok p1 hp ((qcw x e).setP i (qmp e q)) hinv hxp
 have hrun:qyq c x e q=qpu p i 16 ((qcw x e).setP i (qmp e q)):=by unfold qyq;rw[hin,hp];rfl
 rw[hrun]
 generalize qpu p i 16 ((qcw x e).setP i (qmp e q))=F at hact
 have h1:¬e.proc<0:=by omega
 have h2:¬e.proc≥(x.procs.length:Int):=by omega
 have h3:¬e.kind=3:=by omega
 rw[hi]at h0 h1 h2
 rw[qm,qd qrf qp9]
 rcases hkind with k1|k2
 ·have hwk:qmp e q=q:=by unfold qmp;rw[if_neg (by omega)]
  have hss:x.procs.set i q=x.procs:=by
   obtain⟨hlt',hge⟩:=zei.1 hq
   rw[←hge,List.set_getElem_self]
  have k3:¬(1:Int)=3:=by decide
  have k4:¬(1:Int)=2:=by decide
  rw[hwk]at hact
  simp only[qcw,Ex.setP,hss,wp,hi,k1]at hact
  simp only[qbz,k1,k3,k4,h0,h1,h2,hi,hq,hal,hact,qagv,zgr,zgq,zgt,Pr.r,qax,qv,qg,qr,qh,qbj,wc,wg,wG,qb,wd,we,qk,Ev.AV.obj?,ne_eq,zgy,↓qc,↓wb,wf,wa,Nat.reduceBEq,wc,wh]
  done
 ·have k1:¬(2:Int)=1:=by decide
  have k3:¬(2:Int)=3:=by decide
  have hkl:=h.key
  have hwk:qmp e q = { q with pc:=e.arg,timer:=if q.timer=e.key then []else q.timer }:=by unfold qmp;rw[if_pos k2]
  obtain⟨qp,qpc,qa,qt⟩:=q
  dsimp only at *
  subst hal
  have heq:=qxh qt e.key false false (by omega) (by omega)
  rw[hwk]at hact
  have hpt : ∀q0:Pr,qm (evL T) qf2 [(.agg [(ii ((qcw x e).r0)),(ii ((qcw x e).r1)),(.fsl (((qcw x e).procs).map Pr.r) false),(ii ((qcw x e).sum)),(ii ((qcw x e).ev.time)),(.fsl (((qcw x e).ev.key).map qy) false),(ii ((qcw x e).ev.lp)),(ii ((qcw x e).ev.kind)),(ii ((qcw x e).ev.proc)),(ii ((qcw x e).ev.arg)),(.fsl (((qcw x e).out).map Evt.r) false),(.fsl (((qcw x e).gone).map qh7) false),(ii ((qcw x e).n)),(bb ((qcw x e).over))]),(ii i),(.agg [(ii q0.prog),(ii q0.pc),(bb q0.alive),(.fsl ((q0.timer).map qy) false)])]=some (.agg [(ii (((qcw x e).setP i q0).r0)),(ii (((qcw x e).setP i q0).r1)),(.fsl ((((qcw x e).setP i q0).procs).map Pr.r) false),(ii (((qcw x e).setP i q0).sum)),(ii (((qcw x e).setP i q0).ev.time)),(.fsl ((((qcw x e).setP i q0).ev.key).map qy) false),(ii (((qcw x e).setP i q0).ev.lp)),(ii (((qcw x e).setP i q0).ev.kind)),(ii (((qcw x e).setP i q0).ev.proc)),(ii (((qcw x e).setP i q0).ev.arg)),(.fsl ((((qcw x e).setP i q0).out).map Evt.r) false),(.fsl ((((qcw x e).setP i q0).gone).map qh7) false),(ii (((qcw x e).setP i q0).n)),(bb (((qcw x e).setP i q0).over))]):=fun q0=>qe6 (qcw x e) (by show x.procs.length≤1000;have:=h.procs;omega) i hlt q0
  by_cases ht:qt=e.key
  ·have hp2:=hpt ⟨qp,e.arg,true,[]⟩
   simp only[ht,if_true]at hact
   simp only[ht,zgv]at heq
   simp only[qcw,Ex.setP,wp,hi,k2]at hact hp2
   by_cases hz:e.key=[]
   ·have z0:¬(0:Int)>0:=by decide
    have hl0:(([]:List Int).length:Int)=0:=rfl
    rw[hz]at ht
    simp only[hz,wp]at hact hp2
    simp only[qbz,k1,k2,k3,h0,h1,h2,hi,hq,hz,z0,hp2,ht,hact,wp,zgb,qagv,zgr,zgq,zgt,Pr.r,qax,qv,qr,qh,qbj,wc,wg,wG,qb,wd,wK,we,qk,Ev.AV.obj?,ne_eq,zgy,↓qc,↓wb,wf,wa,Nat.reduceBEq,wc,wh]
    done
   ·have hz':(e.key.length:Int)>0:=by have:=List.length_pos_iff.2 hz;omega
    simp only[qbz,k1,k2,k3,h0,h1,h2,hi,hq,hz',heq,hp2,ht,hact,qagv,zgr,zgq,zgt,Pr.r,qax,qv,qg,qr,qh,qbj,wc,wg,wG,qb,wd,wK,we,qk,Ev.AV.obj?,ne_eq,zgy,↓qc,↓wb,wf,wa,Nat.reduceBEq,wc,wh]
    done
  ·have hp2:=hpt ⟨qp,e.arg,true,qt⟩
   simp only[ht,if_false]at hact
   simp only[ht,zgw]at heq
   simp only[qcw,Ex.setP,wp,hi,k2]at hact hp2
   by_cases hz:(qt.length:Int)>0
   ·simp only[qbz,k1,k2,k3,h0,h1,h2,hi,hq,hz,heq,hp2,hact,qagv,zgr,zgq,zgt,Pr.r,qax,qv,qg,qr,qh,qbj,wc,wg,wG,qb,wd,wK,we,qk,Ev.AV.obj?,ne_eq,zgy,↓qc,↓wb,wf,wa,Nat.reduceBEq,wc,wh]
    done
   ·simp only[qbz,k1,k2,k3,h0,h1,h2,hi,hq,hz,hp2,hact,qagv,zgr,zgq,zgt,Pr.r,qax,qv,qg,qr,qh,qbj,wc,wg,wG,qb,wd,wK,we,qk,Ev.AV.obj?,ne_eq,zgy,↓qc,↓wb,wf,wa,Nat.reduceBEq,wc,wh]
    done
end
set_option maxRecDepth 10000
def qxe {τ:Type} (f:τ→Int) (l:List τ):Int:=match l.find? (fun x => !decide (f x=0))with
 |some x=>f x
 |none=>0
theorem q0w {τ:Type} {f:τ→Int} {l:List τ} (h:l.all (fun x=>decide (f x=0))=true):qxe f l=0:=by
 unfold qxe
 have:l.find? (fun x => !decide (f x=0))=none:=by
  rw[List.find?_eq_none];intro x hx;rw[wF]at h;simp[of_decide_eq_true (h x hx)]
 rw[this]
theorem qtd {τ:Type} {f:τ→Int} {l:List τ} {x:τ} (h:l.find? (fun x => !decide (f x=0))=some x):qxe f l=f x:=by unfold qxe;rw[h]
theorem q3s {τ:Type} {f:τ→Int} {l:List τ}:qxe f l=0 ↔ ∀x∈l,f x=0:=by
 cases h:l.find? (fun x => !decide (f x=0))with
 |none=>
  rw[List.find?_eq_none]at h
  have h1 : ∀x∈l,f x=0:=fun x hx=>by simpa using h x hx
  exact⟨fun _=>h1,fun _=>q0w (by rw[wF];intro x hx;simp[h1 x hx])⟩
 |some x=>
  have h1:=List.find?_some h
  have h2:=List.mem_of_find?_eq_some h
  rw[qtd h]
  exact⟨fun k=>by simp[k]at h1,fun k=>k x h2⟩
section
variable (c:Cfg)
def len8 (l:List Start):Bool:=!decide ((l.length:Int)>8)
def qx0 (c:Cfg):Bool:=decide (1≤c.lps.length∧c.lps.length≤8∧c.progs.length≤8)&&(c.lps.all len8&&decide (1≤c.cap∧c.cap≤64∧0≤c.fin∧c.fin≤1152921504606846976))
theorem qadg:qm (evL T) qmm [(.agg [(.fsl ((c.lps).map lpC) false),(.fsl ((c.progs).map qau) false),(ii c.look),(ii c.fin),(ii c.cap)])]=some (bb (qx0 c)):=by
 unfold qx0
 rw[qm,qd qab6 q8s]
 by_cases h1:(c.lps.length:Int)<1
 ·have:¬(1≤c.lps.length∧c.lps.length≤8∧c.progs.length≤8):=by omega
  simp only[qfo,h1,this,zgw,Bool.false_and,wg,qb,wd,we,qk,ne_eq,zgy,↓qc,↓wb,wa]
 by_cases h2:(c.lps.length:Int)>8
 ·have:¬(1≤c.lps.length∧c.lps.length≤8∧c.progs.length≤8):=by omega
  simp only[qfo,h1,h2,this,zgw,Bool.false_and,wg,qb,wd,we,qk,ne_eq,zgy,↓qc,↓wb,wa]
 by_cases h3:(c.progs.length:Int)>8
 ·have:¬(1≤c.lps.length∧c.lps.length≤8∧c.progs.length≤8):=by omega
  simp only[qfo,h1,h2,h3,this,zgw,Bool.false_and,wg,qb,wd,we,qk,ne_eq,zgy,↓qc,↓wb,wa]
 have h4:(1≤c.lps.length∧c.lps.length≤8∧c.progs.length≤8):=by omega
 have hL : ∃y,itB (exec (evL T) itL none qm2) (qu [1,3] true 0) ⟨[(1,(.fptr [(.fsl ((c.lps).map lpC) false),(.fsl ((c.progs).map qau) false),(ii c.look),(ii c.fin),(ii c.cap)])),(3,(ii 0))],[]⟩ []=some y∧(c.lps.all len8=true∧(y.1 = .exit 0∧y.2.1.marks=[]∧y.2.2=[]∧wj y.2.1.vars 1=some (.fptr [(.fsl ((c.lps).map lpC) false),(.fsl ((c.progs).map qau) false),(ii c.look),(ii c.fin),(ii c.cap)])) ∨
   c.lps.all len8=false ∧ ∃x,c.lps.find? (fun x => !len8 x)=some x∧(y.1 = .ret∧y.2.1.marks=[]∧y.2.2=[]∧wj y.2.1.vars 2=some (bb false))):=by
  refine qgo c.lps (fun i=>⟨[(1,(.fptr [(.fsl ((c.lps).map lpC) false),(.fsl ((c.progs).map qau) false),(ii c.look),(ii c.fin),(ii c.cap)])),(3,(ii i))],[]⟩) [] len8 _ (fun _ y => _) ?_ ?_ ?_
  ·intro i x hi hx hp
   have hi':(i:Int)<(c.lps.length:Int):=by omega
   have hw:IntKind.i64.wrap ((i:Int)+1)=((i+1:Nat):Int):=by rw[qi (by omega) (by omega)];simp
   have h1:¬(x.length:Int)>8:=by simpa[len8]using hp
   simp only[qm2,zgs,zgr,zgq,zgt,hx,hi',hw,h1,qax,qv,lpC,wg,qb,zgy,↓qc,↓wb,wa]
  ·intro i x hi hx hp
   have hi':(i:Int)<(c.lps.length:Int):=by omega
   have h1:(x.length:Int)>8:=by simpa[len8]using hp
   simp only[qm2,zgs,zgr,zgq,zgt,hx,hi',h1,lpC,wg,qb,zgy,↓qc,↓wb,wa]
   exact⟨_,rfl,rfl,rfl,rfl,rfl⟩
  ·simp only[qm2,wl,wg,qb,zgy,↓qc,↓wb,wa]
   exact⟨_,rfl,rfl,rfl,rfl,rfl⟩
 obtain⟨⟨y,e,σ⟩,k1,k2⟩:=hL
 simp only at k2
 rcases k2 with ⟨k3,rfl,k4,rfl,k5⟩|⟨k3,x,_,rfl,k4,rfl,k5⟩
 ·by_cases g1:c.cap≥1
  case neg=>
   have:¬(1≤c.cap∧c.cap≤64∧0≤c.fin∧c.fin≤1152921504606846976):=by omega
   simp only[qfo,h1,h2,h3,h4,k1,k3,k4,k5,g1,qax,qv,zgw,wT,wg,qb,wd,we,qk,ne_eq,zgy,↓qc,↓qq,↓wb,wa]
  by_cases g2:c.cap≤64
  case neg=>
   have:¬(1≤c.cap∧c.cap≤64∧0≤c.fin∧c.fin≤1152921504606846976):=by omega
   simp only[qfo,h1,h2,h3,h4,k1,k3,k4,k5,g1,g2,qax,qv,zgw,wT,wg,qb,wd,we,qk,ne_eq,zgy,↓qc,↓qq,↓wb,wa]
  by_cases g3:c.fin≥0
  case neg=>
   have:¬(1≤c.cap∧c.cap≤64∧0≤c.fin∧c.fin≤1152921504606846976):=by omega
   simp only[qfo,h1,h2,h3,h4,k1,k3,k4,k5,g1,g2,g3,qax,qv,zgw,wT,wg,qb,wd,we,qk,ne_eq,zgy,↓qc,↓qq,↓wb,wa]
  by_cases g4:c.fin≤1152921504606846976
  case neg=>
   have:¬(1≤c.cap∧c.cap≤64∧0≤c.fin∧c.fin≤1152921504606846976):=by omega
   simp only[qfo,h1,h2,h3,h4,k1,k3,k4,k5,g1,g2,g3,g4,qax,qv,zgw,wT,wg,qb,wd,we,qk,ne_eq,zgy,↓qc,↓qq,↓wb,wa]
  have:(1≤c.cap∧c.cap≤64∧0≤c.fin∧c.fin≤1152921504606846976):=by omega
  simp only[qfo,h1,h2,h3,h4,k1,k3,k4,k5,g1,g2,g3,g4,qax,qv,zgx,zgv,wg,qb,wd,we,qk,ne_eq,zgy,↓qc,↓qq,↓wb,wa]
 ·simp only[qfo,h1,h2,h3,h4,k1,k3,k4,k5,qax,qv,zgv,wT,Bool.false_and,wg,qb,wd,we,qk,ne_eq,zgy,↓qc,↓qq,↓wb,wa]
def q2e (c:Cfg) (p:List OpI):Int:=qsc p c.progs.length c.lps.length c.look
def qnw (c:Cfg) (s:Start):Int:=if s.prog<0∨s.prog≥c.progs.length then 22 else if s.time<0∨s.time>1152921504606846976 then 11 else 0
def rlpZ (c:Cfg) (l:List Start):Int:=qxe (qnw c) l
def q9e (c:Cfg):Int:=if qx0 c=false then 1 else if c.look<1 then 20 else if qxe (q2e c) c.progs≠0 then qxe (q2e c) c.progs else qxe (rlpZ c) c.lps
theorem qaog (hl:c.progs.length≤8) :
  ∃y,itB (exec (evL T) itL none qmt) (qu [1,3] true 0) ⟨[(1,(.fptr [(.fsl ((c.lps).map lpC) false),(.fsl ((c.progs).map qau) false),(ii c.look),(ii c.fin),(ii c.cap)])),(3,(ii 0))],[]⟩ []=some y∧(c.progs.all (fun p=>decide (q2e c p=0))=true∧(y.1 = .exit 0∧y.2.1.marks=[]∧y.2.2=[]∧wj y.2.1.vars 1=some (.fptr [(.fsl ((c.lps).map lpC) false),(.fsl ((c.progs).map qau) false),(ii c.look),(ii c.fin),(ii c.cap)])) ∨
   c.progs.all (fun p=>decide (q2e c p=0))=false ∧ ∃x,c.progs.find? (fun p => !decide (q2e c p=0))=some x∧(y.1 = .ret∧y.2.1.marks=[]∧y.2.2=[]∧wj y.2.1.vars 2=some (ii (q2e c x)))):=by
 refine qgo c.progs (fun i=>⟨[(1,(.fptr [(.fsl ((c.lps).map lpC) false),(.fsl ((c.progs).map qau) false),(ii c.look),(ii c.fin),(ii c.cap)])),(3,(ii i))],[]⟩) [] (fun p=>decide (q2e c p=0)) _ (fun x y => _) ?_ ?_ ?_
 ·intro i x hi hx hp
  have hi':(i:Int)<(c.progs.length:Int):=by omega
  have hw:IntKind.i64.wrap ((i:Int)+1)=((i+1:Nat):Int):=by rw[qi (by omega) (by omega)];simp
  have hv:=q2a x false c.progs.length c.lps.length c.look
  rw[show qsc x c.progs.length c.lps.length c.look=0 from of_decide_eq_true hp]at hv
  simp only[qmt,zgs,zgr,zgq,zgt,hx,hi',hw,hv,qax,qv,qij,qau,wg,qb,ne_eq,zgy,↓qc,↓wb,wa]
 ·intro i x hi hx hp
  have hi':(i:Int)<(c.progs.length:Int):=by omega
  have hv:=q2a x false c.progs.length c.lps.length c.look
  have hz:¬qsc x c.progs.length c.lps.length c.look=0:=of_decide_eq_false hp
  simp only[qmt,zgs,zgr,zgq,zgt,hx,hi',hv,hz,qij,qau,wg,qb,ne_eq,zgy,↓qc,↓wb,wa]
  exact⟨_,rfl,rfl,rfl,rfl,rfl⟩
 ·simp only[qmt,wl,wg,qb,zgy,↓qc,↓wb,wa]
  exact⟨_,rfl,rfl,rfl,rfl,rfl⟩
theorem qaib (i:Nat) (l:List Start) (hx:c.lps[i]? = some l) (hl:l.length≤8) :
  ∃y,itB (exec (evL T) itL none qg0) (qu [1,5,6] true 0) ⟨[(1,(.fptr [(.fsl ((c.lps).map lpC) false),(.fsl ((c.progs).map qau) false),(ii c.look),(ii c.fin),(ii c.cap)])),(5,(ii i)),(6,(ii 0))],[]⟩ []=some y∧(l.all (fun s=>decide (qnw c s=0))=true∧(y.1 = .exit 4∧y.2.1.marks=[]∧y.2.2=[]∧wj y.2.1.vars 1=some (.fptr [(.fsl ((c.lps).map lpC) false),(.fsl ((c.progs).map qau) false),(ii c.look),(ii c.fin),(ii c.cap)])∧wj y.2.1.vars 5=some (ii i)) ∨
   l.all (fun s=>decide (qnw c s=0))=false ∧ ∃x,l.find? (fun s => !decide (qnw c s=0))=some x∧(y.1 = .ret∧y.2.1.marks=[]∧y.2.2=[.row 2 [x.r] 0]∧wj y.2.1.vars 2=some (ii (qnw c x)))):=by
 refine qgo l (fun k=>⟨[(1,(.fptr [(.fsl ((c.lps).map lpC) false),(.fsl ((c.progs).map qau) false),(ii c.look),(ii c.fin),(ii c.cap)])),(5,(ii i)),(6,(ii k))],[]⟩) [] (fun s=>decide (qnw c s=0)) _ (fun x y => _) ?_ ?_ ?_
 ·intro k s hk hs hp
  have hk':(k:Int)<(l.length:Int):=by omega
  have hw:IntKind.i64.wrap ((k:Int)+1)=((k+1:Nat):Int):=by rw[qi (by omega) (by omega)];simp
  have hz:qnw c s=0:=of_decide_eq_true hp
  unfold qnw at hz
  by_cases g1:s.prog<0
  ·rw[if_pos (.inl g1)]at hz;cases hz
  by_cases g2:s.prog≥(c.progs.length:Int)
  ·rw[if_pos (.inr g2)]at hz;cases hz
  by_cases g3:s.time<0
  ·rw[if_neg (by omega),if_pos (.inl g3)]at hz;cases hz
  by_cases g4:s.time>1152921504606846976
  ·rw[if_neg (by omega),if_pos (.inr g4)]at hz;cases hz
  simp only[qg0,zgs,zgr,zgq,zgt,hx,hs,hk',hw,g1,g2,g3,g4,qax,qv,lpC,Start.r,wg,wG,qb,wd,we,ne_eq,zgy,↓qc,↓wb,wf,wa]
 ·intro k s hk hs hp
  have hk':(k:Int)<(l.length:Int):=by omega
  have hz:¬qnw c s=0:=of_decide_eq_false hp
  unfold qnw at hz⊢
  by_cases g1:s.prog<0
  ·rw[if_pos (.inl g1)]
   simp only[qg0,zgs,zgr,zgq,zgt,hx,hs,hk',g1,lpC,Start.r,wg,wG,qb,wd,we,ne_eq,zgy,↓qc,↓wb,wf,wa]
   exact⟨_,rfl,rfl,rfl,rfl,rfl⟩
  by_cases g2:s.prog≥(c.progs.length:Int)
  ·rw[if_pos (.inr g2)]
   simp only[qg0,zgs,zgr,zgq,zgt,hx,hs,hk',g1,g2,lpC,Start.r,wg,wG,qb,wd,we,ne_eq,zgy,↓qc,↓wb,wf,wa]
   exact⟨_,rfl,rfl,rfl,rfl,rfl⟩
  rw[if_neg (by omega)]at hz⊢
  by_cases g3:s.time<0
  ·rw[if_pos (.inl g3)]
   simp only[qg0,zgs,zgr,zgq,zgt,hx,hs,hk',g1,g2,g3,lpC,Start.r,wg,wG,qb,wd,we,ne_eq,zgy,↓qc,↓wb,wf,wa]
   exact⟨_,rfl,rfl,rfl,rfl,rfl⟩
  by_cases g4:s.time>1152921504606846976
  ·rw[if_pos (.inr g4)]
   simp only[qg0,zgs,zgr,zgq,zgt,hx,hs,hk',g1,g2,g3,g4,lpC,Start.r,wg,wG,qb,wd,we,ne_eq,zgy,↓qc,↓wb,wf,wa]
   exact⟨_,rfl,rfl,rfl,rfl,rfl⟩
  ·exact absurd (by rw[if_neg (by omega)]) hz
 ·simp only[qg0,zgs,zgr,zgq,zgt,hx,wl,lpC,wg,qb,zgy,↓qc,↓wb,wa]
  exact⟨_,rfl,rfl,rfl,rfl,rfl,rfl⟩
theorem qam7 (hl:c.lps.length≤8) (hll : ∀l∈c.lps,l.length≤8) :
  ∃y,itB (exec (evL T) itL none qmq) (qu [1,5] true 0) ⟨[(1,(.fptr [(.fsl ((c.lps).map lpC) false),(.fsl ((c.progs).map qau) false),(ii c.look),(ii c.fin),(ii c.cap)])),(5,(ii 0))],[]⟩ []=some y∧(c.lps.all (fun l=>decide (rlpZ c l=0))=true∧(y.1 = .exit 2∧y.2.1.marks=[]∧y.2.2=[]) ∨
   c.lps.all (fun l=>decide (rlpZ c l=0))=false ∧ ∃x,c.lps.find? (fun l => !decide (rlpZ c l=0))=some x∧(y.1 = .ret∧y.2.1.marks=[]∧(∃s:Start,y.2.2=[.row 2 [s.r] 0])∧wj y.2.1.vars 2=some (ii (rlpZ c x)))):=by
 refine qgo c.lps (fun i=>⟨[(1,(.fptr [(.fsl ((c.lps).map lpC) false),(.fsl ((c.progs).map qau) false),(ii c.look),(ii c.fin),(ii c.cap)])),(5,(ii i))],[]⟩) [] (fun l=>decide (rlpZ c l=0)) _ (fun x y => _) ?_ ?_ ?_
 ·intro i l hi hx hp
  have hi':(i:Int)<(c.lps.length:Int):=by omega
  have hw:IntKind.i64.wrap ((i:Int)+1)=((i+1:Nat):Int):=by rw[qi (by omega) (by omega)];simp
  have hz:rlpZ c l=0:=of_decide_eq_true hp
  obtain⟨⟨y,e,σ⟩,k1,k2⟩:=qaib c i l hx (hll l (zmg hx))
  simp only at k2
  rcases k2 with ⟨k3,rfl,k4,rfl,k5,k6⟩|⟨k3,x,k7,rfl,k4,rfl,k5⟩
  ·simp only[qmq,hi',hw,k1,k4,k5,k6,qax,qv,wg,qb,zgy,↓qc,↓qq,↓wb,wa]
  ·have h1:=List.find?_some k7
   have h2:qnw c x=0:=by rw[←qtd k7];exact hz
   simp[h2]at h1
 ·intro i l hi hx hp
  have hi':(i:Int)<(c.lps.length:Int):=by omega
  have hz:¬rlpZ c l=0:=of_decide_eq_false hp
  obtain⟨⟨y,e,σ⟩,k1,k2⟩:=qaib c i l hx (hll l (zmg hx))
  simp only at k2
  rcases k2 with ⟨k3,rfl,k4,rfl,k5,k6⟩|⟨k3,x,k7,rfl,k4,rfl,k5⟩
  ·exact absurd (q0w k3) hz
  ·rw[show rlpZ c l=qnw c x from qtd k7]
   simp only[qmq,hi',k1,qax,qv,wg,qb,zgy,↓qc,↓qq,↓wb,wa]
   exact⟨_,rfl,rfl,k4,⟨x,rfl⟩,k5⟩
 ·simp only[qmq,wl,wg,qb,zgy,↓qc,↓wb,wa]
  exact⟨_,rfl,rfl,rfl,rfl⟩
theorem q1w:qm (evL T) qez [(.agg [(.fsl ((c.lps).map lpC) false),(.fsl ((c.progs).map qau) false),(ii c.look),(ii c.fin),(ii c.cap)])]=some (ii (q9e c)):=by
 have hs:=qadg c
 unfold q9e
 rw[qm,qd qaap q9s]
 cases h1:qx0 c with
 |false=>
  rw[h1]at hs
  simp only[qks,hs,qax,qv,wg,qb,wd,we,qk,ne_eq,zgy,↓qc,↓wb,wf,wa]
 |true=>
  rw[h1]at hs
  have h2:=h1
  simp only[qx0,wq,decide_eq_true_eq,wF]at h2
  obtain⟨⟨s1,s2,s3⟩,s4,s5⟩:=h2
  have s6 : ∀l∈c.lps,l.length≤8:=fun l hl=>by have:=s4 l hl;simp[len8]at this;omega
  simp only[Bool.true_eq_false,if_false]
  by_cases hk:c.look<1
  ·simp only[qks,hs,hk,qax,qv,wg,qb,wd,we,qk,ne_eq,zgy,↓qc,↓wb,wf,wa]
  rw[if_neg hk]
  obtain⟨⟨y,e,σ⟩,k1,k2⟩:=qaog c s3
  obtain⟨⟨y',e',σ'⟩,m1,m2⟩:=qam7 c s2 s6
  simp only at k2 m2
  rcases k2 with ⟨k3,rfl,k4,rfl,k5⟩|⟨k3,x,k7,rfl,k4,rfl,k5⟩
  ·rw[q0w k3,if_neg (by simp)]
   rcases m2 with ⟨m3,rfl,m4,rfl⟩|⟨m3,x,m7,rfl,m4,⟨s,rfl⟩,m5⟩
   ·rw[q0w m3]
    simp only[qks,hs,hk,k1,k4,k5,m1,m4,qax,qv,wg,qb,wd,we,qk,ne_eq,zgy,↓qc,↓qq,↓wb,wf,wa]
   ·rw[qtd m7]
    simp only[qks,hs,hk,k1,k4,k5,m1,m4,m5,qax,qv,wg,qb,wd,we,qk,ne_eq,zgy,↓qc,↓qq,↓wb,wf,wa]
  ·have hz:=List.find?_some k7
   have hz':¬q2e c x=0:=by simpa using hz
   rw[qtd k7,if_pos hz']
   simp only[qks,hs,hk,k1,k4,k5,qax,qv,wg,qb,wd,we,qk,ne_eq,zgy,↓qc,↓qq,↓wb,wf,wa]
end
set_option maxRecDepth 10000
section
variable (c:Cfg)
def l12 (l:List Start):Bool:=!decide ((l.length:Int)>12)
def l30 (p:List OpI):Bool:=!decide ((p.length:Int)>30)
def qyn (c:Cfg):Bool:=decide ((c.lps.length:Int)>12)||(decide ((c.progs.length:Int)>12)||(!(c.lps.all l12) || !(c.progs.all l30)))
theorem great_l1 (hl:c.lps.length≤12) :
  ∃y,itB (exec (evL T) itL none qms) (qu [1,3] true 0) ⟨[(1,(.fptr [(.fsl ((c.lps).map lpC) false),(.fsl ((c.progs).map qau) false),(ii c.look),(ii c.fin),(ii c.cap)])),(3,(ii 0))],[]⟩ []=some y∧(c.lps.all l12=true∧(y.1 = .exit 0∧y.2.1.marks=[]∧y.2.2=[]∧wj y.2.1.vars 1=some (.fptr [(.fsl ((c.lps).map lpC) false),(.fsl ((c.progs).map qau) false),(ii c.look),(ii c.fin),(ii c.cap)])) ∨
   c.lps.all l12=false ∧ ∃x,c.lps.find? (fun x => !l12 x)=some x∧(y.1 = .ret∧y.2.1.marks=[]∧y.2.2=[]∧wj y.2.1.vars 2=some (bb true))):=by
 refine qgo c.lps (fun i=>⟨[(1,(.fptr [(.fsl ((c.lps).map lpC) false),(.fsl ((c.progs).map qau) false),(ii c.look),(ii c.fin),(ii c.cap)])),(3,(ii i))],[]⟩) [] l12 _ (fun _ y => _) ?_ ?_ ?_
 ·intro i x hi hx hp
  have hi':(i:Int)<(c.lps.length:Int):=by omega
  have hw:IntKind.i64.wrap ((i:Int)+1)=((i+1:Nat):Int):=by rw[qi (by omega) (by omega)];simp
  have h1:¬(x.length:Int)>12:=by simpa[l12]using hp
  simp only[qms,zgs,zgr,zgq,zgt,hx,hi',hw,h1,qax,qv,lpC,wg,qb,zgy,↓qc,↓wb,wa]
 ·intro i x hi hx hp
  have hi':(i:Int)<(c.lps.length:Int):=by omega
  have h1:(x.length:Int)>12:=by simpa[l12]using hp
  simp only[qms,zgs,zgr,zgq,zgt,hx,hi',h1,lpC,wg,qb,zgy,↓qc,↓wb,wa]
  exact⟨_,rfl,rfl,rfl,rfl,rfl⟩
 ·simp only[qms,wl,wg,qb,zgy,↓qc,↓wb,wa]
  exact⟨_,rfl,rfl,rfl,rfl,rfl⟩
theorem great_l2 (hl:c.progs.length≤12) :
  ∃y,itB (exec (evL T) itL none qm0) (qu [1,4] true 0) ⟨[(1,(.fptr [(.fsl ((c.lps).map lpC) false),(.fsl ((c.progs).map qau) false),(ii c.look),(ii c.fin),(ii c.cap)])),(4,(ii 0))],[]⟩ []=some y∧(c.progs.all l30=true∧(y.1 = .exit 2∧y.2.1.marks=[]∧y.2.2=[]) ∨
   c.progs.all l30=false ∧ ∃x,c.progs.find? (fun x => !l30 x)=some x∧(y.1 = .ret∧y.2.1.marks=[]∧y.2.2=[]∧wj y.2.1.vars 2=some (bb true))):=by
 refine qgo c.progs (fun i=>⟨[(1,(.fptr [(.fsl ((c.lps).map lpC) false),(.fsl ((c.progs).map qau) false),(ii c.look),(ii c.fin),(ii c.cap)])),(4,(ii i))],[]⟩) [] l30 _ (fun _ y => _) ?_ ?_ ?_
 ·intro i x hi hx hp
  have hi':(i:Int)<(c.progs.length:Int):=by omega
  have hw:IntKind.i64.wrap ((i:Int)+1)=((i+1:Nat):Int):=by rw[qi (by omega) (by omega)];simp
  have h1:¬(x.length:Int)>30:=by simpa[l30]using hp
  simp only[qm0,zgs,zgr,zgq,zgt,hx,hi',hw,h1,qax,qv,qau,wg,qb,zgy,↓qc,↓wb,wa]
 ·intro i x hi hx hp
  have hi':(i:Int)<(c.progs.length:Int):=by omega
  have h1:(x.length:Int)>30:=by simpa[l30]using hp
  simp only[qm0,zgs,zgr,zgq,zgt,hx,hi',h1,qau,wg,qb,zgy,↓qc,↓wb,wa]
  exact⟨_,rfl,rfl,rfl,rfl,rfl⟩
 ·simp only[qm0,wl,wg,qb,zgy,↓qc,↓wb,wa]
  exact⟨_,rfl,rfl,rfl,rfl⟩
theorem q1z:qm (evL T) qj6 [(.agg [(.fsl ((c.lps).map lpC) false),(.fsl ((c.progs).map qau) false),(ii c.look),(ii c.fin),(ii c.cap)])]=some (bb (qyn c)):=by
 rw[qm,qd qab1 q9k]
 by_cases h1:(c.lps.length:Int)>12
 ·simp only[qke,qyn,h1,wg,qb,wd,we,qk,ne_eq,zgy,↓qc,↓wb,wa]
 by_cases h2:(c.progs.length:Int)>12
 ·simp only[qke,qyn,h1,h2,wg,qb,wd,we,qk,ne_eq,zgy,↓qc,↓wb,wa]
 obtain⟨⟨y,e,σ⟩,k1,k2⟩:=great_l1 c (by omega)
 obtain⟨⟨y',e',σ'⟩,m1,m2⟩:=great_l2 c (by omega)
 simp only at k2 m2
 rcases k2 with ⟨k3,rfl,k4,rfl,k5⟩|⟨k3,x,_,rfl,k4,rfl,k5⟩
 ·rcases m2 with ⟨m3,rfl,m4,rfl⟩|⟨m3,x,_,rfl,m4,rfl,m5⟩
  ·simp only[qke,qyn,h1,h2,k1,k3,k4,k5,m1,m3,m4,qax,qv,Bool.or_self,wg,qb,wd,we,qk,ne_eq,zgy,↓qc,↓qq,↓wb,wa]
  ·simp only[qke,qyn,h1,h2,k1,k3,k4,k5,m1,m3,m4,m5,qax,qv,Bool.or_true,wg,qb,wd,we,qk,ne_eq,zgy,↓qc,↓qq,↓wb,wa]
 ·simp only[qke,qyn,h1,h2,k1,k3,k4,k5,qax,qv,Bool.or_true,Bool.true_or,wg,qb,wd,we,qk,ne_eq,zgy,↓qc,↓qq,↓wb,wa]
theorem q3j (h:qyn c=false):c.lps.length≤12∧c.progs.length≤12∧(∀l∈c.lps,l.length≤12) ∧ ∀p∈c.progs,p.length≤30:=by
 simp only[qyn,Bool.or_eq_false_iff,decide_eq_false_iff_not,Bool.not_eq_false',wF]at h
 obtain⟨h1,h2,h3,h4⟩:=h
 exact⟨by omega,by omega,fun l hl=>by have:=h3 l hl;simp[l12]at this;omega,fun p hp=>by have:=h4 p hp;simp[l30]at this;omega⟩
def okB (c:Cfg):Bool:=!qyn c&&decide (q9e c=0)
end
structure OpFull (c:Cfg) (p:List OpI) (op:OpI):Prop where
 code:1≤op.code∧op.code≤8
 hold:op.code=1→1≤op.a∧op.a≤1099511627776
 send:op.code=2→0≤op.a∧op.a<c.lps.length∧1≤op.c∧op.c≤1099511627776∧c.look≤op.c
 timer:op.code=3→1≤op.a∧op.a≤1099511627776∧0≤op.b∧op.b<p.length
 spawn:op.code=5→0≤op.a∧op.a<c.progs.length∧1≤op.b∧op.b≤1099511627776
 reg:op.code=6∨op.code=7→op.a=0∨op.a=1
 to:op.code=7→0≤op.c∧op.c<p.length
theorem qah5 {p:List OpI} {ps lps look:Int} (h:qsc p ps lps look=0):qyj p=true∧p.all (fun x=>q3n x p.length ps)=true∧p.all (qair lps)=true∧p.all (qtp look)=true:=by
 unfold qsc at h
 cases h1:qyj p with
 |false=>rw[if_pos h1]at h;cases h
 |true=>
  rw[if_neg (by simp[h1])]at h
  cases h2:p.all (fun x=>q3n x p.length ps)with
  |false=>rw[if_pos h2]at h;cases h
  |true=>
   rw[if_neg (by simp[h2])]at h
   cases h3:p.all (qair lps)with
   |false=>rw[if_pos h3]at h;cases h
   |true=>
    rw[if_neg (by simp[h3])]at h
    cases h4:p.all (qtp look)with
    |false=>rw[if_pos h4]at h;cases h
    |true=>exact⟨rfl,rfl,rfl,rfl⟩
theorem q0z {n:Int}:qyk n=true↔1≤n∧n≤1099511627776:=by simp[qyk]
structure Valid (c:Cfg):Prop where
 lps:1≤c.lps.length∧c.lps.length≤8
 progs:c.progs.length≤8
 lp : ∀l∈c.lps,l.length≤8
 cap:1≤c.cap∧c.cap≤64
 fin:0≤c.fin∧c.fin≤1152921504606846976
 look:1≤c.look
 prog : ∀p∈c.progs,1≤p.length∧p.length≤16 ∧ ∀op∈p,OpFull c p op
 start : ∀l∈c.lps,∀s∈l,0≤s.prog∧s.prog<c.progs.length∧0≤s.time∧s.time≤1152921504606846976
theorem qano {c:Cfg} {p:List OpI} (h:qsc p c.progs.length c.lps.length c.look=0):1≤p.length∧p.length≤16 ∧ ∀op∈p,OpFull c p op:=by
 obtain⟨h1,h2,h3,h4⟩:=qah5 h
 simp only[qyj,wq,decide_eq_true_eq,wF]at h1 h2 h3 h4
 obtain⟨⟨h5,h6⟩,h7⟩:=h1
 refine⟨h5,h6,fun op ho => ?_⟩
 have g1:=h7 op ho
 have g2:=h2 op ho
 have g3:=h3 op ho
 have g4:=h4 op ho
 simp only[q87,wq,decide_eq_true_eq]at g1
 simp only[qair,qtp,Bool.not_eq_true',Bool.and_eq_false_iff,decide_eq_false_iff_not]at g3 g4
 unfold q3n at g2
 refine⟨⟨by omega,by omega⟩,?_,?_,?_,?_,?_,?_⟩
 ·intro k;rw[if_pos k]at g2
  simp only[wq,q0z,decide_eq_true_eq]at g2;exact g2.1
 ·intro k
  rw[if_neg (by omega),if_pos k]at g2
  simp only[wq,q0z,decide_eq_true_eq]at g2
  refine⟨g2.1,?_,g2.2.2.1,g2.2.2.2,?_⟩
  ·rcases g3 with g3|g3
   ·exact absurd k g3
   ·omega
  ·rcases g4 with g4|g4
   ·exact absurd k g4
   ·omega
 ·intro k
  rw[if_neg (by omega),if_neg (by omega),if_pos k]at g2
  simp only[wq,q0z,decide_eq_true_eq]at g2
  exact⟨g2.1.1,g2.1.2,g2.2.1,g2.2.2.1⟩
 ·intro k
  rw[if_neg (by omega),if_neg (by omega),if_neg (by omega),if_pos k]at g2
  simp only[wq,q0z,decide_eq_true_eq]at g2
  exact⟨g2.1,g2.2.1,g2.2.2.1.1,g2.2.2.1.2⟩
 ·rintro(k|k)
  ·rw[if_neg (by omega),if_neg (by omega),if_neg (by omega),if_neg (by omega),if_pos k]at g2
   simp only[wq,decide_eq_true_eq]at g2
   obtain⟨q1,q2,_⟩:=g2
   omega
  ·rw[if_neg (by omega),if_neg (by omega),if_neg (by omega),if_neg (by omega),if_neg (by omega),if_pos k]at g2
   simp only[wq,decide_eq_true_eq]at g2
   obtain⟨q1,q2,_⟩:=g2
   omega
 ·intro k
  rw[if_neg (by omega),if_neg (by omega),if_neg (by omega),if_neg (by omega),if_neg (by omega),if_pos k]at g2
  simp only[wq,decide_eq_true_eq]at g2
  exact⟨g2.2.2.2.1,g2.2.2.2.2⟩
theorem valid_of {c:Cfg} (h:q9e c=0):Valid c:=by
 unfold q9e at h
 cases h1:qx0 c with
 |false=>rw[if_pos h1]at h;cases h
 |true=>
  rw[if_neg (by simp[h1])]at h
  by_cases h2:c.look<1
  ·rw[if_pos h2]at h;cases h
  rw[if_neg h2]at h
  by_cases h3:qxe (q2e c) c.progs≠0
  ·rw[if_pos h3]at h;exact absurd h h3
  rw[if_neg h3]at h
  have h4:=q3s.1 (Decidable.of_not_not h3)
  have h5:=q3s.1 h
  simp only[qx0,wq,decide_eq_true_eq,wF]at h1
  obtain⟨⟨s1,s2,s3⟩,s4,s5⟩:=h1
  refine⟨⟨s1,s2⟩,s3,fun l hl=>by have:=s4 l hl;simp[len8]at this;omega,⟨s5.1,s5.2.1⟩,⟨s5.2.2.1,s5.2.2.2⟩,by omega,fun p hp=>qano (h4 p hp),fun l hl s hs => ?_⟩
  have h6:=q3s.1 (h5 l hl) s hs
  unfold qnw at h6
  split at h6
  ·cases h6
  split at h6
  ·cases h6
  ·omega
def qyo (t0:List Int) (x:Ex) (g:List Int):Prop:=g.length≤40000∧(x.over=true∨g=t0 ∨ ∃ev∈x.out,ev.kind=2∧ev.key=g)
structure EvOk (c:Cfg) (e:Evt) (x:Ex) (k:Nat) (ev:Evt):Prop where
 time:e.time<ev.time∧ev.time≤1152921504606846976
 key : ∃m:Int,ev.key=e.key++[m]∧(k:Int)≤m∧m<x.n
 msg:ev.kind=3→0≤ev.lp∧ev.lp<c.lps.length∧e.time+c.look≤ev.time∧c.look≤1099511627776
 own:ev.kind≠3→ev.lp=e.lp∧0≤ev.proc∧ev.proc<x.procs.length∧(ev.kind=1∨ev.kind=2)
structure EInv (c:Cfg) (e:Evt) (i:Nat) (X:List Pr) (pr:Int) (p:List OpI) (t0:List Int) (n:Nat) (x:Ex):Prop where
 ev:x.ev=e
 len:X.length≤x.procs.length∧x.procs.length≤8
 own : ∃q,x.procs[i]? = some q∧q.prog=pr∧0≤q.pc∧q.pc≤p.length∧(q.timer=[]∨qyo t0 x q.timer)
 old : ∀j,j≠i→j<X.length→x.procs[j]? = X[j]?
 new : ∀j q,X.length≤j→x.procs[j]? = some q→q.alive=true∧q.pc=0∧q.timer=[]∧0≤q.prog∧q.prog<c.progs.length
 cnt:0≤x.n∧x.n≤n∧(x.out.length:Int)≤x.n
 outs : ∀k ev,x.out[k]? = some ev→EvOk c e x k ev
 inc : ∀k ev ev',x.out[k]? = some ev→x.out[k+1]? = some ev' → ∃m m',ev.key=e.key++[m]∧ev'.key=e.key++[m']∧m<m'
 gone : ∀g∈x.gone,qyo t0 x g
section
variable {c:Cfg} {e:Evt} {i:Nat} {X:List Pr} {pr:Int} {p:List OpI} {t0:List Int} {n:Nat} {x:Ex}
theorem EInv.lt (h:EInv c e i X pr p t0 n x):i<x.procs.length:=by
 obtain⟨q,h1,_⟩:=h.own;exact(zei.1 h1).1
theorem EInv.more (h:EInv c e i X pr p t0 n x):EInv c e i X pr p t0 (n+1) x:=
 ⟨h.ev,h.len,h.own,h.old,h.new,by have:=h.cnt;omega,h.outs,h.inc,h.gone⟩
theorem EInv.setP (h:EInv c e i X pr p t0 n x) (hiX:i<X.length) {q:Pr} (h1:q.prog=pr) (h2:0≤q.pc∧q.pc≤p.length) (h3:q.timer=[]∨qyo t0 x q.timer):EInv c e i X pr p t0 n (x.setP i q):=by
 have hlt:=h.lt
 refine⟨h.ev,by simp only[Ex.setP,List.length_set];exact h.len,⟨q,by simp only[Ex.setP];rw[wu hlt],h1,h2.1,h2.2,h3⟩,?_,?_,h.cnt,?_,h.inc,h.gone⟩
 ·intro j hj hl;simp only[Ex.setP];rw[wA (Ne.symm hj)];exact h.old j hj hl
 ·intro j q' hl hq;simp only[Ex.setP]at hq;rw[wA (by omega)]at hq;exact h.new j q' hl hq
 ·intro k ev hk
  obtain⟨a,b,d,f⟩:=h.outs k ev hk
  exact⟨a,b,d,by simpa only[Ex.setP,List.length_set]using f⟩
theorem EInv.push (h:EInv c e i X pr p t0 n x) {g:List Int} (hg:qyo t0 x g):EInv c e i X pr p t0 n { x with gone:=x.gone++[g] }:=by
 refine⟨h.ev,h.len,h.own,h.old,h.new,h.cnt,fun k ev hk => ?_,h.inc,?_⟩
 ·obtain⟨a,b,d,f⟩:=h.outs k ev hk;exact⟨a,b,d,f⟩
 ·intro g' hg'
  rcases wx.1 hg' with hg'|hg'
  ·exact h.gone g' hg'
  ·simp at hg';subst hg';exact hg
theorem EInv.reg (h:EInv c e i X pr p t0 n x) (k v:Int):EInv c e i X pr p t0 n (x.setReg k v):=by
 unfold Ex.setReg
 split
 ·exact⟨h.ev,h.len,h.own,h.old,h.new,h.cnt,fun k ev hk=>by obtain⟨a,b,d,f⟩:=h.outs k ev hk;exact⟨a,b,d,f⟩,h.inc,h.gone⟩
 ·exact⟨h.ev,h.len,h.own,h.old,h.new,h.cnt,fun k ev hk=>by obtain⟨a,b,d,f⟩:=h.outs k ev hk;exact⟨a,b,d,f⟩,h.inc,h.gone⟩
theorem EInv.spawn (h:EInv c e i X pr p t0 n x) (hiX:i<X.length) (hl:x.procs.length<8) {a:Int} (ha:0≤a∧a<c.progs.length):EInv c e i X pr p t0 n { x with procs:=x.procs++[⟨a,0,true,[]⟩] }:=by
 have hlt:=h.lt
 have hln:=h.len
 refine⟨h.ev,by simp;omega,?_,?_,?_,h.cnt,?_,h.inc,h.gone⟩
 ·obtain⟨q,h1,h2⟩:=h.own
  exact⟨q,by show (x.procs ++ _)[i]? = _;rw[wi hlt];exact h1,h2⟩
 ·intro j hj hl';show (x.procs ++ _)[j]? = _;rw[wi (by omega)];exact h.old j hj hl'
 ·intro j q hj hq
  change (x.procs++[⟨a,0,true,[]⟩])[j]? = some q at hq
  by_cases hjl:j<x.procs.length
  ·rw[wi hjl]at hq;exact h.new j q hj hq
  ·have hj2:=(zei.1 hq).1
   simp at hj2
   have hje:j=x.procs.length:=by omega
   subst hje
   simp at hq
   subst hq
   exact⟨rfl,rfl,rfl,ha⟩
 ·intro k ev hk
  obtain⟨a,b,d,f⟩:=h.outs k ev hk
  exact⟨a,b,d,fun hk'=>by obtain⟨f1,f2,f3,f4⟩:=f hk';exact⟨f1,f2,by simp;omega,f4⟩⟩
theorem create_over {d:Int} {s:Evt} (h:x.over=true):(x.create d s).over=true:=by unfold Ex.create;simp only;split<;>first|rfl|exact h
theorem qamq {d:Int} {s ev:Evt} (h:ev∈x.out):ev∈(x.create d s).out:=by unfold Ex.create;simp only;split<;>first|exact h|exact wB _ h
theorem qyo.create {g:List Int} (h:qyo t0 x g) (d:Int) (s:Evt):qyo t0 (x.create d s) g:=by
 refine⟨h.1,?_⟩
 rcases h.2 with h|h|⟨ev,h1,h2⟩
 ·exact .inl (create_over h)
 ·exact .inr (.inl h)
 ·exact .inr (.inr ⟨ev,qamq h1,h2⟩)
theorem EInv.create (h:EInv c e i X pr p t0 n x) (hn:n≤90) (he:0≤e.time∧e.time≤1152921504606846976) (hk:e.key.length≤30000) {d:Int} (hd:1≤d∧d≤1099511627776) {s:Evt}
  (hm:s.kind=3→0≤s.lp∧s.lp<c.lps.length∧c.look≤d) (ho:s.kind≠3→s.lp=e.lp∧0≤s.proc∧s.proc<x.procs.length∧(s.kind=1∨s.kind=2)) :
  EInv c e i X pr p t0 (n+1) (x.create d s)∧(s.kind=2→qyo t0 (x.create d s) x.kid):=by
 obtain⟨c1,c2,c3⟩:=h.cnt
 have hw:w64 (x.n+1)=x.n+1:=qi (by omega) (by omega)
 have ht:w64 (x.ev.time+d)=e.time+d:=by rw[h.ev];exact qi (by omega) (by omega)
 have hown : ∃q,(x.create d s).procs[i]? = some q∧q.prog=pr∧0≤q.pc∧q.pc≤p.length∧(q.timer=[]∨qyo t0 (x.create d s) q.timer):=by
  obtain⟨q,h1,h2,h3,h4,h5⟩:=h.own
  exact⟨q,h1,h2,h3,h4,h5.imp id fun g=>g.create d s⟩
 have hgone : ∀g∈(x.create d s).gone,qyo t0 (x.create d s) g:=fun g hg=>(h.gone g hg).create d s
 have hkid:x.kid.length≤40000:=by unfold Ex.kid;rw[h.ev];simp;omega
 by_cases hov:e.time+d>1152921504606846976
 ·have hx:x.create d s = { x with n:=x.n+1,over:=true }:=by unfold Ex.create;rw[hw,ht,if_pos hov,if_pos hov]
  rw[hx]at hown hgone⊢
  refine⟨⟨h.ev,h.len,hown,h.old,h.new,⟨by show 0≤x.n+1;omega,by show x.n+1≤((n+1:Nat):Int);omega,by show (x.out.length:Int)≤x.n+1;omega⟩,fun k ev hk' => ?_,h.inc,hgone⟩,fun _=>⟨hkid,.inl rfl⟩⟩
  obtain⟨a,⟨m,b1,b2,b3⟩,d,f⟩:=h.outs k ev hk'
  exact⟨a,⟨m,b1,b2,by show m<x.n+1;omega⟩,d,f⟩
 ·have hx:x.create d s = { x with n:=x.n+1,out:=x.out++[⟨e.time+d,e.key++[x.n],s.lp,s.kind,s.proc,s.arg⟩] }:=by unfold Ex.create Ex.kid;rw[hw,ht,if_neg hov,if_neg hov,h.ev]
  rw[hx]at hown hgone⊢
  refine⟨⟨h.ev,h.len,hown,h.old,h.new,⟨by show 0≤x.n+1;omega,by show x.n+1≤((n+1:Nat):Int);omega,by show ((x.out ++ _).length:Int)≤x.n+1;simp;omega⟩,fun k ev hk' => ?_,?_,hgone⟩,fun hs=>⟨hkid,.inr (.inr ⟨_,wo _ (wJ.2 rfl),hs,by unfold Ex.kid;rw[h.ev]⟩)⟩⟩
  ·change (x.out++[_])[k]? = some ev at hk'
   by_cases hkl:k<x.out.length
   ·rw[wi hkl]at hk'
    obtain⟨a,⟨m,b1,b2,b3⟩,d,f⟩:=h.outs k ev hk'
    exact⟨a,⟨m,b1,b2,by show m<x.n+1;omega⟩,d,f⟩
   ·have hk2:=(zei.1 hk').1
    simp at hk2
    have hke:k=x.out.length:=by omega
    subst hke
    simp at hk'
    subst hk'
    refine⟨⟨by show e.time<e.time+d;omega,by show e.time+d ≤ _;omega⟩,⟨x.n,rfl,c3,by show x.n<x.n+1;omega⟩,fun hs => ?_,fun hs=>ho hs⟩
    obtain⟨m1,m2,m3⟩:=hm hs
    exact⟨m1,m2,by show e.time+c.look≤e.time+d;omega,by omega⟩
  ·intro k ev ev' h1 h2
   change (x.out++[_])[k]? = some ev at h1
   change (x.out++[_])[k+1]? = some ev' at h2
   have hk2:=(zei.1 h2).1
   simp at hk2
   rw[wi (by omega)]at h1
   by_cases hkl:k+1<x.out.length
   ·rw[wi hkl]at h2;exact h.inc k ev ev' h1 h2
   ·have hke:k+1=x.out.length:=by omega
    rw[hke]at h2
    simp at h2
    subst h2
    obtain⟨m,b1,b2,b3⟩:=(h.outs k ev h1).key
    exact⟨m,x.n,b1,rfl,b3⟩
theorem EInv.stop (h:EInv c e i X pr p t0 n x) (hiX:i<X.length) {q:Pr} (hq:x.procs[i]? = some q):EInv c e i X pr p t0 n (x.stopE i q):=by
 obtain⟨q',h1,h2,h3,h4,h5⟩:=h.own
 rw[hq]at h1;cases h1
 unfold Ex.stopE
 split
 next hl=>
  have hg:qyo t0 x q.timer:=by
   rcases h5 with h5|h5
   ·rw[h5]at hl;simp at hl
   ·exact h5
  exact(h.push hg).setP (q:={ q with timer:=[] }) hiX h2 ⟨h3,h4⟩ (.inl rfl)
 next=>exact h
theorem EInv.step (h:EInv c e i X pr p t0 n x) (hiX:i<X.length) (hn:n≤90) (he:0≤e.time∧e.time≤1152921504606846976) (hk:e.key.length≤30000) (hpr:e.proc=i) {q:Pr} (hq:x.procs[i]? = some q) {op:OpI} (ho:OpFull c p op) :
  EInv c e i X pr p t0 (n+1) (qd8 x i q op).1:=by
 have hlt:=h.lt
 obtain⟨q',h1,h2,h3,h4,h5⟩:=h.own
 rw[hq]at h1;cases h1
 unfold qd8
 split
 next k=>exact(h.create hn he hk (ho.hold k) (fun hs=>absurd hs (by show ¬(1:Int)=3;decide)) (fun _=>⟨by show x.ev.lp=e.lp;rw[h.ev],by show 0≤x.ev.proc;rw[h.ev,hpr];omega,by show x.ev.proc < _;rw[h.ev,hpr];omega,.inl rfl⟩)).1
 split
 next k=>
  obtain⟨s1,s2,s3,s4,s5⟩:=ho.send k
  exact(h.create hn he hk ⟨s3,s4⟩ (s:=⟨0,[],op.a,3,0,op.b⟩) (fun _=>⟨s1,s2,s5⟩) (fun hs=>absurd rfl hs)).1
 split
 next k=>
  obtain⟨s1,s2,s3,s4⟩:=ho.timer k
  have hst:=h.stop hiX hq
  obtain⟨g1,g2⟩:=hst.create hn he hk ⟨s1,s2⟩ (s:=x.ownE 2 x.ev.proc op.b) (fun hs=>absurd hs (by show ¬(2:Int)=3;decide)) (fun _=>⟨by show x.ev.lp=e.lp;rw[h.ev],by show 0≤x.ev.proc;rw[h.ev,hpr];omega,by show x.ev.proc < _;rw[h.ev,hpr];have:=hst.lt;omega,.inr rfl⟩)
  exact g1.setP (q:={ q with timer:=(x.stopE i q).kid }) hiX h2 ⟨h3,h4⟩ (.inr (g2 rfl))
 split
 next k=>exact(h.stop hiX hq).more
 split
 next k=>
  obtain⟨s1,s2,s3,s4⟩:=ho.spawn k
  unfold Ex.spawnE
  split
  next hl=>exact((h.spawn hiX hl ⟨s1,s2⟩).create hn he hk ⟨s3,s4⟩ (s:=x.ownE 1 x.procs.length 0) (fun hs=>absurd hs (by show ¬(1:Int)=3;decide)) (fun _=>⟨by show x.ev.lp=e.lp;rw[h.ev],by show (0:Int)≤(x.procs.length:Int);omega,by show (x.procs.length:Int) < _;simp;omega,.inl rfl⟩)).1
  next=>exact h.more
 split
 next k=>exact(h.reg _ _).more
 split
 next k=>
  obtain⟨s1,s2⟩:=ho.to k
  split
  ·exact(h.setP (q:={ q with pc:=op.c }) hiX h2 ⟨s1,by show op.c ≤ _;omega⟩ h5).more
  ·exact h.more
 next=>exact h.more
theorem EInv.kill (h:EInv c e i X pr p t0 n x) (hiX:i<X.length):EInv c e i X pr p t0 n (qrv x i):=by
 obtain⟨q,h1,h2,h3,h4,h5⟩:=h.own
 unfold qrv;rw[h1]
 exact h.setP (q:={ q with alive:=false }) hiX h2 ⟨h3,h4⟩ h5
theorem EInv.stepR (h:EInv c e i X pr p t0 n x) (hiX:i<X.length) (hn:n≤90) (he:0≤e.time∧e.time≤1152921504606846976) (hk:e.key.length≤30000) (hpl:p.length≤1000) (hpr:e.proc=i) {q:Pr} (hq:x.procs[i]? = some q) {op:OpI} (hop:p[q.pc.toNat]? = some op) (ho:OpFull c p op) :
  EInv c e i X pr p t0 (n+1) (stepR x i q op).1:=by
 have hlt:=h.lt
 obtain⟨q',h1,h2,h3,h4,h5⟩:=h.own
 rw[hq]at h1;cases h1
 have hpc:=(zei.1 hop).1
 have hw:w64 (q.pc+1)=q.pc+1:=qi (by omega) (by omega)
 have hz:=h.setP (q:=q.inc) hiX h2 ⟨by show 0≤w64 (q.pc+1);rw[hw];omega,by show w64 (q.pc+1) ≤ _;rw[hw];omega⟩ h5
 have hzq:(x.setP i q.inc).procs[i]? = some q.inc:=by simp only[Ex.setP];rw[wu hlt]
 have hs:=hz.step hiX hn he hk hpr hzq ho
 unfold K.stepR
 split
 ·exact hs
 split
 ·exact hs.kill hiX
 ·exact hs
theorem EInv.act (hiX:i<X.length) (he:0≤e.time∧e.time≤1152921504606846976) (hk:e.key.length≤30000) (hpl:p.length≤1000) (hpr:e.proc=i) (ho : ∀op∈p,OpFull c p op) :
  ∀(m n:Nat) (x:Ex),n+m≤90→EInv c e i X pr p t0 n x→EInv c e i X pr p t0 (n+m) (qpu p i m x)
 | 0,n,x,_,h=>h.kill hiX
 |m+1,n,x,hnm,h=>by
  obtain⟨q,h1,h2⟩:=h.own
  have mono : ∀ {k:Nat} {y:Ex},EInv c e i X pr p t0 k y → ∀l,k≤l→EInv c e i X pr p t0 l y:=by
   intro k y hy l hl
   exact⟨hy.ev,hy.len,hy.own,hy.old,hy.new,by have:=hy.cnt;omega,hy.outs,hy.inc,hy.gone⟩
  rw[qaam p i m x q h1]
  cases hop:p[q.pc.toNat]? with
  |none=>exact mono (h.kill hiX) _ (by omega)
  |some op=>
   have hs:=h.stepR hiX (by omega) he hk hpl hpr h1 hop (ho op (zmg hop))
   simp only
   split
   ·exact mono hs _ (by omega)
   ·have:=EInv.act hiX he hk hpl hpr ho m (n+1) _ (by omega) hs
    rw[show n+(m+1)=n+1+m from by omega];exact this
end
set_option maxRecDepth 10000
def badP (c:Cfg) (q:Pr):Bool:=!(decide (0≤q.prog)&&(decide (q.prog<c.progs.length)&&(decide (0≤q.pc)&&decide (q.pc≤(((c.progs[q.prog.toNat]?).getD []).length:Int)))))
theorem not_lt_zero {x:Int} (h:¬x<0):0≤x:=by omega
set_option maxRecDepth 10000
set_option maxRecDepth 10000
structure Ready (c:Cfg) (x:Lp) (e:Evt):Prop where
 valid:Valid c
 len:x.procs.length≤8
 proc : ∀q∈x.procs,0≤q.prog∧q.prog<c.progs.length∧0≤q.pc∧q.pc≤((c.progs[q.prog.toNat]?).getD []).length∧q.timer.length≤30000
 time:0≤e.time∧e.time≤1152921504606846976
 key:e.key.length≤30000
 arg : ∀q,qr6 x e=some q→e.kind=2→0≤e.arg∧e.arg≤((c.progs[q.prog.toNat]?).getD []).length
theorem qaom {c:Cfg} {p:List OpI} {op:OpI} (h:OpFull c p op) (hp:p.length≤16):OpOk' op:=⟨h.code,h.reg,fun k=>by have:=h.to k;omega⟩
section
variable {c:Cfg} {x:Lp} {e:Evt}
theorem qahi {q:Pr} (h:qr6 x e=some q):(e.kind=1∨e.kind=2)∧0≤e.proc∧x.procs[e.proc.toNat]? = some q∧q.alive=true:=by
 unfold qr6 at h
 split at h
 case isFalse=>cases h
 rename_i hc
 rw[zob]at h
 obtain⟨q',hq,ha⟩:=h
 split at ha
 case isFalse=>cases ha
 rename_i hal
 cases ha
 exact⟨hc.1,hc.2,hq,hal⟩
theorem Ready.ops (h:Ready c x e) {p:List OpI} (hp:p∈c.progs):p.length≤16 ∧ ∀op∈p,OpFull c p op:=⟨(h.valid.prog p hp).2.1,(h.valid.prog p hp).2.2⟩
theorem Ready.plen (h:Ready c x e) (k:Nat):((c.progs[k]?).getD []).length≤16:=by
 cases hk:c.progs[k]? with
 |none=>simp
 |some p=>simpa using (h.ops (zmg hk)).1
theorem Ready.execOk (h:Ready c x e) {q:Pr} (ha:qr6 x e=some q):q5m c x e:=
 ⟨by have:=h.len;omega,by have:=h.key;omega,fun q hq=>by obtain⟨a,b,d,f,g⟩:=h.proc q hq;have:=h.plen q.prog.toNat;exact⟨a,b,d,by omega,by omega⟩,
  fun p hp=>⟨by have:=(h.ops hp).1;omega,fun op ho=>qaom ((h.ops hp).2 op ho) (h.ops hp).1⟩,fun k=>by have:=h.arg q ha k;have:=h.plen q.prog.toNat;omega⟩
theorem Ready.inv (h:Ready c x e) {q:Pr} (ha:qr6 x e=some q) : ∃(i:Nat) (p:List OpI),e.proc=i∧x.procs[i]? = some q∧p∈c.progs∧c.progs[q.prog.toNat]? = some p∧EInv c e i x.procs q.prog p q.timer 16 (qyq c x e q):=by
 obtain⟨a1,a2,a3,a4⟩:=qahi ha
 obtain⟨i,hi⟩ : ∃i:Nat,e.proc=i:=⟨_,(Int.toNat_of_nonneg a2).symm⟩
 have hin:e.proc.toNat=i:=by omega
 rw[hin]at a3
 obtain⟨p1,p2,p3,p4,p5⟩:=h.proc q (zmg a3)
 obtain⟨p,hp⟩ : ∃p,c.progs[q.prog.toNat]? = some p:=⟨_,zgE (by omega)⟩
 have hpm:=zmg hp
 have hlt:=(zei.1 a3).1
 have hgd:((c.progs[q.prog.toNat]?).getD []).length=p.length:=by rw[hp];rfl
 rw[hgd]at p4
 refine⟨i,p,hi,a3,hpm,hp,?_⟩
 have hrun:qyq c x e q=qpu p i 16 ((qcw x e).setP i (qmp e q)):=by unfold qyq;rw[hin,hp];rfl
 rw[hrun]
 have hg:q.timer=[]∨qyo q.timer (qcw x e) q.timer:=.inr ⟨by omega,.inr (.inl rfl)⟩
 have h0:EInv c e i x.procs q.prog p q.timer 0 (qcw x e):=by
  refine⟨rfl,⟨wv _,h.len⟩,⟨q,a3,rfl,p3,p4,hg⟩,fun j _ _=>rfl,fun j q' hj hq' => ?_,⟨wN 0,wN 0,wN 0⟩,fun k ev hk=>by simp[qcw]at hk,fun k ev ev' hk=>by simp[qcw]at hk,fun g hg=>by simp[qcw]at hg⟩
  have:=(zei.1 hq').1
  change j<x.procs.length at this
  omega
 have h1:EInv c e i x.procs q.prog p q.timer 0 ((qcw x e).setP i (qmp e q)):=by
  refine h0.setP hlt (qacg e q) ?_ ?_
  ·unfold qmp;split
   next k=>have:=h.arg q ha k;rw[hgd]at this;exact this
   next=>exact⟨p3,p4⟩
  ·unfold qmp;split
   ·by_cases ht:q.timer=e.key
    ·simp[ht]
    ·simp only[ht,if_false];exact hg
   ·exact hg
 have:=EInv.act hlt h.time (by have:=h.key;omega) (by have:=(h.ops hpm).1;omega) hi (h.ops hpm).2 16 0 _ (by omega) h1
 exact this
theorem ActInv.act {i:Nat} {p:List OpI} (hpl:p.length≤1000) (ho : ∀op∈p,OpOk' op) : ∀(m n:Nat) (y:Ex),ActInv e i n y→ActInv e i (n+m) (qpu p i m y)
 | 0,n,y,h=>by
  obtain⟨q,h1,h2⟩:=h.has
  show ActInv e i n (qrv y i)
  unfold qrv;rw[h1];exact h.pc h1 h2 false
 |m+1,n,y,h=>by
  have mono : ∀ {k:Nat} {z:Ex},ActInv e i k z → ∀l,k≤l→ActInv e i l z:=fun hz l hl=>⟨hz.ev,hz.has,hz.procs,by have:=hz.out;omega,by have:=hz.gone;omega⟩
  obtain⟨q,h1,h2⟩:=h.has
  rw[qaam p i m y q h1]
  cases hop:p[q.pc.toNat]? with
  |none=>
   refine mono (k:=n) ?_ _ (by omega)
   show ActInv e i n (qrv y i)
   unfold qrv;rw[h1];exact h.pc h1 h2 false
  |some op=>
   have hlp:=(zei.1 hop).1
   have hs:=h.stepR h1 ⟨by omega,by omega⟩ (ho op (zmg hop))
   simp only
   split
   ·exact mono hs _ (by omega)
   ·have:=ActInv.act hpl ho m (n+1) _ hs
    rw[show n+(m+1)=n+1+m from by omega];exact this
theorem Ready.goneLen (h:Ready c x e) {q:Pr} (ha:qr6 x e=some q):(qyq c x e q).gone.length≤16:=by
 obtain⟨i,p,hi,hq,hpm,hp,_⟩:=h.inv ha
 have hin:e.proc.toNat=i:=by omega
 have hrun:qyq c x e q=qpu p i 16 ((qcw x e).setP i (qmp e q)):=by unfold qyq;rw[hin,hp];rfl
 have h0:=qabn c x e (h.execOk ha) hi hq
 have:=ActInv.act (by have:=(h.ops hpm).1;omega) (fun op ho=>qaom ((h.ops hpm).2 op ho) (h.ops hpm).1) 16 0 _ h0
 rw[hrun];have:=this.gone;omega
structure XRes where
 lp:Lp
 out:List Evt
 gone:List (List Int)
 over:Bool
 nil:Bool
def qa4 (c:Cfg) (x:Lp) (e:Evt):XRes:=
 if e.kind=3 then ⟨⟨x.r0,x.r1,x.procs,w64 (x.sum+e.arg)⟩,[],[],false,true⟩
 else match qr6 x e with
  |none=>⟨x,[],[],false,true⟩
  |some q=>⟨qagv (qyq c x e q),(qyq c x e q).out,(qyq c x e q).gone,(qyq c x e q).over,false⟩
theorem Exec_ev (h:Ready c x e):qm (evL T) qfl [(.agg [(.fsl ((c.lps).map lpC) false),(.fsl ((c.progs).map qau) false),(ii c.look),(ii c.fin),(ii c.cap)]),(.agg [(ii x.r0),(ii x.r1),(.fsl ((x.procs).map Pr.r) false),(ii x.sum)]),(.agg [(ii e.time),(.fsl ((e.key).map qy) false),(ii e.lp),(ii e.kind),(ii e.proc),(ii e.arg)])]=some (.tup [(.agg [(ii ((qa4 c x e).lp.r0)),(ii ((qa4 c x e).lp.r1)),(.fsl (((qa4 c x e).lp.procs).map Pr.r) false),(ii ((qa4 c x e).lp.sum))]),(.fsl (((qa4 c x e).out).map Evt.r) (qa4 c x e).nil),(.fsl (((qa4 c x e).gone).map qh7) (qa4 c x e).nil),(bb ((qa4 c x e).over))]):=by
 unfold qa4
 by_cases hk:e.kind=3
 ·rw[if_pos hk];exact Exec_msg c x e hk
 rw[if_neg hk]
 cases ha:qr6 x e with
 |none=>exact qaor c x e hk ha
 |some q=>exact Exec_run c x e (h.execOk ha) ha
theorem RExec_ev (h:Ready c x e):qm (evL T) qhw [(.agg [(.fsl ((c.lps).map lpC) false),(.fsl ((c.progs).map qau) false),(ii c.look),(ii c.fin),(ii c.cap)]),(.agg [(ii x.r0),(ii x.r1),(.fsl ((x.procs).map Pr.r) false),(ii x.sum)]),(.agg [(ii e.time),(.fsl ((e.key).map qy) false),(ii e.lp),(ii e.kind),(ii e.proc),(ii e.arg)])]=some (.tup [(.agg [(ii ((qa4 c x e).lp.r0)),(ii ((qa4 c x e).lp.r1)),(.fsl (((qa4 c x e).lp.procs).map Pr.r) false),(ii ((qa4 c x e).lp.sum))]),(.fsl (((qa4 c x e).out).map Evt.r) (qa4 c x e).nil),(.fsl (((qa4 c x e).gone).map qh7) (qa4 c x e).nil),(bb ((qa4 c x e).over))]):=by
 unfold qa4
 by_cases hk:e.kind=3
 ·rw[if_pos hk];exact qao6 c x e hk
 rw[if_neg hk]
 cases ha:qr6 x e with
 |none=>exact qal9 c x e hk ha
 |some q=>exact qan4 c x e (h.execOk ha) ha
theorem Ready.sizes (h:Ready c x e):(qa4 c x e).lp.procs.length≤8∧(∀q∈(qa4 c x e).lp.procs,q.timer.length≤40000)∧(qa4 c x e).out.length≤16∧(∀ev∈(qa4 c x e).out,ev.key.length≤40000)∧(∀g∈(qa4 c x e).gone,g.length≤40000)∧(qa4 c x e).gone.length≤16:=by
 unfold qa4
 by_cases hk:e.kind=3
 ·rw[if_pos hk]
  exact⟨h.len,fun q hq=>by have:=(h.proc q hq).2.2.2.2;omega,by simp,fun _ h=>by simp at h,fun _ h=>by simp at h,by simp⟩
 rw[if_neg hk]
 cases ha:qr6 x e with
 |none=>exact⟨h.len,fun q hq=>by have:=(h.proc q hq).2.2.2.2;omega,by simp,fun _ h=>by simp at h,fun _ h=>by simp at h,by simp⟩
 |some q=>
  obtain⟨i,p,hi,hq,hpm,hp,hI⟩:=h.inv ha
  refine⟨hI.len.2,fun q' hq' => ?_,by have:=hI.cnt;show (qyq c x e q).out.length≤16;omega,fun ev hev => ?_,fun g hg=>(hI.gone g hg).1,h.goneLen ha⟩
  ·obtain⟨j,hj⟩:=wn.1 hq'
   change (qyq c x e q).procs[j]? = some q' at hj
   by_cases hji:j=i
   ·obtain⟨q2,b1,_,_,_,b5⟩:=hI.own
    subst hji
    rw[hj]at b1;cases b1
    rcases b5 with b5|b5
    ·rw[b5];simp
    ·exact b5.1
   ·by_cases hjl:j<x.procs.length
    ·rw[hI.old j hji hjl]at hj
     have:=(h.proc q' (zmg hj)).2.2.2.2;omega
    ·rw[(hI.new j q' (by omega) hj).2.2.1];simp
  ·obtain⟨k,hk'⟩:=wn.1 hev
   obtain⟨m,hm,_⟩:=(hI.outs k ev hk').key
   rw[hm];have:=h.key;simp;omega
end
set_option maxRecDepth 10000
theorem q94 {f:Env→qj→R3} {s:Env→qj→Option (Env×qj)} {τ:Type} (l:List τ) (E:Nat→Env) (σ:qj) (Q:CExit×Env×qj→Prop)
  (good : ∀(i:Nat) (x:τ),i<l.length→l[i]? = some x→it1 f s (E i) σ=some (.inl (E (i+1),σ)))
  (last : ∃y,it1 f s (E l.length) σ=some (.inr y)∧Q y) : ∃y,itB f s (E 0) σ=some y∧Q y:=by
 have H:=qgo l E σ (fun _=>true) Q (fun _ _=>False) (fun i x h1 h2 _=>good i x h1 h2) (fun i x _ _ h=>by cases h) last
 obtain⟨y,h1,h2|⟨h2,_⟩⟩:=H
 ·exact⟨y,h1,h2.2⟩
 ·simp at h2
section
variable {c:Cfg} {x:Lp} {e:Evt}
theorem Ready.cases (h:Ready c x e):(e.kind=3∧qa4 c x e=⟨⟨x.r0,x.r1,x.procs,w64 (x.sum+e.arg)⟩,[],[],false,true⟩)∨(¬e.kind=3∧qr6 x e=none∧qa4 c x e=⟨x,[],[],false,true⟩) ∨
  ∃q,¬e.kind=3∧qr6 x e=some q∧qa4 c x e=⟨qagv (qyq c x e q),(qyq c x e q).out,(qyq c x e q).gone,(qyq c x e q).over,false⟩:=by
 unfold qa4
 by_cases hk:e.kind=3
 ·exact .inl ⟨hk,if_pos hk⟩
 ·rw[if_neg hk]
  cases ha:qr6 x e with
  |none=>exact .inr (.inl ⟨hk,rfl,rfl⟩)
  |some q=>exact .inr (.inr ⟨q,hk,rfl,rfl⟩)
theorem Ready.outs (h:Ready c x e) : ∃X:Ex,X.procs=(qa4 c x e).lp.procs∧(∀k ev,(qa4 c x e).out[k]? = some ev→EvOk c e X k ev) ∧
  ∀k ev ev',(qa4 c x e).out[k]? = some ev→(qa4 c x e).out[k+1]? = some ev' → ∃m m',ev.key=e.key++[m]∧ev'.key=e.key++[m']∧m<m':=by
 rcases h.cases with ⟨_,hx⟩|⟨_,_,hx⟩|⟨q,_,ha,hx⟩
 ·rw[hx];exact⟨qcw x e,rfl,fun k ev hk=>by simp at hk,fun k ev ev' hk=>by simp at hk⟩
 ·rw[hx];exact⟨qcw x e,rfl,fun k ev hk=>by simp at hk,fun k ev ev' hk=>by simp at hk⟩
 ·rw[hx]
  obtain⟨i,p,hi,hq,hpm,hp,hI⟩:=h.inv ha
  exact⟨qyq c x e q,rfl,hI.outs,hI.inc⟩
theorem Ready.state (h:Ready c x e):x.procs.length≤(qa4 c x e).lp.procs.length ∧ ∀(j:Nat) (q':Pr),(qa4 c x e).lp.procs[j]? = some q' →
  (badP c q'=false∧(x.procs.length≤j→q'.alive=true∧q'.pc=0) ∧ ∀q,x.procs[j]? = some q→q'.prog=q.prog∧((j:Int)≠e.proc→q'=q)):=by
 have old : ∀q∈x.procs,badP c q=false:=by
  intro q hq
  obtain⟨a,b,d,f,g⟩:=h.proc q hq
  simp only[badP,a,b,d,f,zgv,zfc,Bool.not_true]
 rcases h.cases with ⟨_,hx⟩|⟨_,_,hx⟩|⟨q0,_,ha,hx⟩
 ·rw[hx]
  refine⟨wv _,fun j q' hj=>⟨old q' (zmg hj),fun hl => ?_,fun q hq => ?_⟩⟩
  ·have:=(zei.1 hj).1;simp only at this;omega
  ·simp only at hj;rw[hq]at hj;cases hj;exact⟨rfl,fun _=>rfl⟩
 ·rw[hx]
  refine⟨wv _,fun j q' hj=>⟨old q' (zmg hj),fun hl => ?_,fun q hq => ?_⟩⟩
  ·have:=(zei.1 hj).1;simp only at this;omega
  ·simp only at hj;rw[hq]at hj;cases hj;exact⟨rfl,fun _=>rfl⟩
 ·rw[hx]
  obtain⟨i,p,hi,hq0,hpm,hp,hI⟩:=h.inv ha
  have hlt:=(zei.1 hq0).1
  obtain⟨p1,p2,p3,p4,p5⟩:=h.proc q0 (zmg hq0)
  refine⟨hI.len.1,fun j q' hj => ?_⟩
  change (qyq c x e q0).procs[j]? = some q' at hj
  by_cases hji:j=i
  ·subst hji
   obtain⟨q2,b1,b2,b3,b4,b5⟩:=hI.own
   rw[hj]at b1;cases b1
   refine⟨?_,fun hl=>by omega,fun q hq => ?_⟩
   ·simp only[badP,b2,b3,b4,hp,p1,p2,Option.getD_some,zgv,zfc,Bool.not_true]
   ·rw[hq0]at hq;cases hq;exact⟨b2,fun hne=>absurd hi.symm hne⟩
  ·by_cases hjl:j<x.procs.length
   ·rw[hI.old j hji hjl]at hj
    refine⟨old q' (zmg hj),fun hl=>by omega,fun q hq => ?_⟩
    rw[hq]at hj;cases hj;exact⟨rfl,fun _=>rfl⟩
   ·obtain⟨n1,n2,n3,n4,n5⟩:=hI.new j q' (by omega) hj
    refine⟨?_,fun _=>⟨n1,n2⟩,fun q hq => ?_⟩
    ·simp[badP,n2,n4,n5]
    ·have:=(zei.1 hq).1;omega
end
set_option maxRecDepth 10000
structure TOk (e:Evt) (L:Nat) (ev:Evt):Prop where
 tim:ev.kind=2→ev.proc=e.proc∧0≤ev.arg∧ev.arg<L
 msg:ev.kind=3→ev.proc=0
def qzk (e:Evt) (L B:Nat) (x:Ex):Prop:=x.ev=e∧(∀ev∈x.out,TOk e L ev) ∧ ∀q∈x.procs,q.timer.length≤B
section
variable {e:Evt} {L B:Nat} {x:Ex}
theorem qzk.same (h:qzk e L B x) {y:Ex} (h1:y.ev=x.ev) (h2:y.out=x.out) (h3:y.procs=x.procs):qzk e L B y:=⟨by rw[h1];exact h.1,by rw[h2];exact h.2.1,by rw[h3];exact h.2.2⟩
theorem qzk.setP (h:qzk e L B x) (i:Nat) {q:Pr} (hq:q.timer.length≤B):qzk e L B (x.setP i q):=by
 refine⟨h.1,h.2.1,fun q' hq' => ?_⟩
 rcases List.mem_or_eq_of_mem_set hq' with hq'|rfl
 ·exact h.2.2 q' hq'
 ·exact hq
theorem qzk.at (h:qzk e L B x) {i:Nat} {q:Pr} (hq:x.procs[i]? = some q):q.timer.length≤B:=h.2.2 q (zmg hq)
theorem qzk.create (h:qzk e L B x) (d:Int) {s:Evt} (hs:s.kind=2→s.proc=e.proc∧0≤s.arg∧s.arg<L) (hm:s.kind=3→s.proc=0):qzk e L B (x.create d s):=by
 refine⟨h.1,fun ev hev => ?_,h.2.2⟩
 unfold Ex.create at hev
 simp only at hev
 split at hev
 ·exact h.2.1 ev hev
 ·rcases wx.1 hev with hev|hev
  ·exact h.2.1 ev hev
  ·rw[wJ]at hev;subst hev;exact⟨hs,hm⟩
theorem qzk.stop (h:qzk e L B x) (i:Nat) (q:Pr):qzk e L B (x.stopE i q):=by
 unfold Ex.stopE;split
 ·exact qzk.same (h.setP i (q:={ q with timer:=[] }) (ws _)) rfl rfl rfl
 ·exact h
theorem qzk.kill (h:qzk e L B x) (i:Nat):qzk e L B (qrv x i):=by
 unfold qrv;split
 next q hq=>exact h.setP i (q:={ q with alive:=false }) (show q.timer.length≤B from h.at hq)
 ·exact h
theorem qzk.step (h:qzk e L B x) (i:Nat) (q:Pr) (op:OpI) (hq:q.timer.length≤B) (hB:e.key.length+1≤B) (ho:op.code=3→0≤op.b∧op.b<L):qzk e L B (qd8 x i q op).1:=by
 have he:=h.1
 unfold qd8
 split
 ·exact h.create _ (fun k=>absurd k (by show ¬(1:Int)=2;decide)) (fun k=>absurd k (by show ¬(1:Int)=3;decide))
 split
 ·exact h.create _ (fun k=>absurd k (by show ¬(3:Int)=2;decide)) (fun _=>rfl)
 split
 next k=>
  show qzk e L B (x.timerE i q op)
  unfold Ex.timerE
  refine qzk.setP ((h.stop i q).create op.a (s:=x.ownE 2 x.ev.proc op.b) (fun _=>⟨by show x.ev.proc=e.proc;rw[he],ho k⟩) (fun k=>absurd k (by show ¬(2:Int)=3;decide))) i ?_
  show (x.stopE i q).kid.length≤B
  unfold Ex.kid
  rw[(h.stop i q).1];simp;exact hB
 split
 ·exact h.stop i q
 split
 ·show qzk e L B (x.spawnE op)
  unfold Ex.spawnE;split
  ·have h2:qzk e L B ({ x with procs:=x.procs++[⟨op.a,0,true,[]⟩] }:Ex):=by
    refine⟨h.1,h.2.1,fun q' hq' => ?_⟩
    rcases wx.1 hq' with hq'|hq'
    ·exact h.2.2 q' hq'
    ·rw[wJ]at hq';subst hq';exact ws _
   exact h2.create _ (fun k=>absurd k (by show ¬(1:Int)=2;decide)) (fun k=>absurd k (by show ¬(1:Int)=3;decide))
  ·exact h
 split
 ·show qzk e L B (x.setReg _ _)
  unfold Ex.setReg;split<;>exact h.same rfl rfl rfl
 split
 ·show qzk e L B (if _ then _ else _)
  split
  ·exact h.setP i (q:={ q with pc:=op.c }) hq
  ·exact h
 ·exact h
theorem qzk.act {p:List OpI} (hB:e.key.length+1≤B) (ho : ∀op∈p,op.code=3→0≤op.b∧op.b<L) (i:Nat) : ∀(m:Nat) {x:Ex},qzk e L B x→qzk e L B (qpu p i m x)
 | 0,x,h=>h.kill i
 |m+1,x,h=>by
  unfold qpu
  split
  ·exact h
  rename_i q hq
  split
  ·exact h.kill i
  rename_i op hop
  have h0:qzk e L B (x.setP i { q with pc:=w64 (q.pc+1) }):=h.setP i (show q.timer.length≤B from h.at hq)
  have hs:=h0.step i { q with pc:=w64 (q.pc+1) } op (show q.timer.length≤B from h.at hq) hB (ho op (zmg hop))
  split
  ·exact hs
  split
  ·exact hs.kill i
  ·exact qzk.act hB ho i m hs
end
theorem Ready.tims {c:Cfg} {x:Lp} {e:Evt} (h:Ready c x e) {B:Nat} (hB:e.key.length+1≤B) (hx : ∀q∈x.procs,q.timer.length≤B):(∀ev∈(qa4 c x e).out,(ev.kind=3→ev.proc=0)∧(ev.kind=2 → ∃q p,x.procs[e.proc.toNat]? = some q∧c.progs[q.prog.toNat]? = some p∧ev.proc=e.proc∧0≤ev.arg∧ev.arg<p.length)) ∧ ∀q∈(qa4 c x e).lp.procs,q.timer.length≤B:=by
 rcases h.cases with ⟨_,hx'⟩|⟨_,_,hx'⟩|⟨q,_,ha,hx'⟩
 ·rw[hx'];exact⟨fun ev hev=>by simp at hev,hx⟩
 ·rw[hx'];exact⟨fun ev hev=>by simp at hev,hx⟩
 ·rw[hx']
  obtain⟨i,p,hi,hq,hpm,hp,_⟩:=h.inv ha
  have hw:(qmp e q).timer.length≤B:=by
   have:=hx q (zmg hq)
   unfold qmp;split
   ·show (if q.timer=e.key then []else q.timer).length≤B
    split
    ·exact ws _
    ·exact this
   ·exact this
  have h0:qzk e p.length B (qcw x e):=⟨rfl,fun ev hev=>(by cases hev),hx⟩
  have hT:qzk e p.length B (qyq c x e q):=by
   unfold qyq
   rw[hp]
   exact qzk.act hB (fun op ho k=>by have:=((h.ops hpm).2 op ho).timer k;exact⟨this.2.2.1,this.2.2.2⟩) _ 16 (h0.setP e.proc.toNat hw)
  refine⟨fun ev hev => ?_,hT.2.2⟩
  have:=hT.2.1 ev hev
  exact⟨this.msg,fun k=>⟨q,p,by rw[hi,Int.toNat_natCast];exact hq,hp,this.tim k⟩⟩
set_option maxRecDepth 10000
def qjy (k i:Nat) (s:Start):Evt:=⟨s.time,[(k:Int),(i:Int)],k,1,i,0⟩
def qk7 (k:Nat) (l:List Start):List Evt:=l.mapIdx (fun i s=>qjy k i s)
def qg6 (lps:List (List Start)):List Evt:=(lps.mapIdx (fun k l=>qk7 k l)).flatten
theorem qajj (k:Nat) (l:List Start) (s:Start):qk7 k (l++[s])=qk7 k l++[qjy k l.length s]:=by simp[qk7,List.mapIdx_append]
theorem qak2 (lps:List (List Start)) (l:List Start):qg6 (lps++[l])=qg6 lps++qk7 lps.length l:=by simp[qg6,List.mapIdx_append]
theorem q7q (k:Nat) (l:List Start):(qk7 k l).length=l.length:=by simp[qk7]
theorem qwi {k:Nat} {l:List Start} {x:Evt} (h:x∈qk7 k l) : ∃i s,l[i]? = some s∧x=qjy k i s:=by
 simp only[qk7]at h
 obtain⟨i,hi⟩:=wn.1 h
 rw[wO]at hi
 cases hl:l[i]? with
 |none=>rw[hl]at hi;cases hi
 |some s=>rw[hl]at hi;cases hi;exact⟨i,s,hl,rfl⟩
theorem q5g {lps:List (List Start)} {x:Evt} (h:x∈qg6 lps) : ∃k l i s,lps[k]? = some l∧l[i]? = some s∧x=qjy k i s:=by
 simp only[qg6,List.mem_flatten]at h
 obtain⟨r,hr,hx⟩:=h
 obtain⟨k,hk⟩:=wn.1 hr
 rw[wO]at hk
 cases hl:lps[k]? with
 |none=>rw[hl]at hk;cases hk
 |some l=>
  rw[hl]at hk;cases hk
  obtain⟨i,s,h1,h2⟩:=qwi hx
  exact⟨k,l,i,s,hl,h1,h2⟩
theorem qae4 (lps:List (List Start)):qb0 (qg6 lps):=by
 intro x hx
 obtain⟨k,l,i,s,_,_,rfl⟩:=q5g hx
 simp[qjy]
theorem qahh {k k' i i':Nat} {s s':Start} (h:qxm (qjy k i s) (qjy k' i' s')=0):k=k'∧i=i':=by
 have:=((qah1 _ _).1 h).2
 simp only[qjy,wL,and_true]at this
 omega
theorem qaez (lps:List (List Start)):qys (qg6 lps):=by
 unfold qys qg6
 rw[List.pairwise_flatten]
 constructor
 ·intro r hr
  obtain⟨k,hk⟩:=wn.1 hr
  rw[wO]at hk
  cases hl:lps[k]? with
  |none=>rw[hl]at hk;cases hk
  |some l=>
   rw[hl]at hk;cases hk
   rw[wz]
   intro i j hi hj hij h
   simp only[qk7,wP]at h
   have:=(qahh h).2;omega
 ·rw[wz]
  intro k k' hk hk' hkk x hx y hy h
  simp only[wP]at hx hy
  obtain⟨i,s,_,rfl⟩:=qwi hx
  obtain⟨i',s',_,rfl⟩:=qwi hy
  have:=(qahh h).1;omega
theorem qaax {k i:Nat} {l:List Start} {s:Start} (h:l[i]? = some s):qk7 k (l.take (i+1))=qk7 k (l.take i)++[qjy k i s]:=by
 have hi:i<l.length:=(zei.1 h).1
 rw[qjg h,qajj,List.length_take,Nat.min_eq_left (by omega)]
theorem q65 {k:Nat} {lps:List (List Start)} {l:List Start} (h:lps[k]? = some l):qg6 (lps.take (k+1))=qg6 (lps.take k)++qk7 k l:=by
 have hi:k<lps.length:=(zei.1 h).1
 rw[qjg h,qak2,List.length_take,Nat.min_eq_left (by omega)]
theorem qaii : ∀ {lps:List (List Start)} {m:Nat},(∀l∈lps,l.length≤m)→(qg6 lps).length≤lps.length*m:=by
 intro lps m h
 have : ∀n,n≤lps.length→(qg6 (lps.take n)).length≤n*m:=by
  intro n
  induction n with
  |zero=>intro _;simp[qg6]
  |succ n ih=>
   intro hn
   obtain⟨l,hl⟩ : ∃l,lps[n]? = some l:=⟨_,zgE (by omega)⟩
   rw[q65 hl,wm,q7q,Nat.succ_mul]
   have:=ih (by omega)
   have:=h l (zmg hl)
   omega
 have:=this lps.length (wv _)
 rwa[wk]at this
section
variable (c:Cfg)
theorem qvh (out:List Evt) (e:List AV):wH out.length (out.map Evt.r)=out.map Evt.r∧wH (out.length+1) (out.map Evt.r++[e])=out.map Evt.r++[e]:=⟨ztl (by simp),ztl (by simp)⟩
theorem qalt (k:Nat) (l:List Start) (o0:List Evt) (g0:Nat) (hl:l.length≤12) (hk:k≤12) (ho:o0.length≤1000) (n:Int) :
  ∃y,itB (exec (evL T) itL none qjn) (qu [3,4,9,10,11,16,17,18] true 1) ⟨[(3,.sl 0 g0 0 o0.length false),(4,(ii k)),(9,(.fsl ((c.lps).map lpC) false)),(10,(ii n)),(11,(ii k)),(16,(.fsl ((l).map Start.r) false)),(17,(ii l.length)),(18,(ii 0))],[]⟩ [.row 6 (o0.map Evt.r) g0]=some y ∧
   ∃g:Nat,y.1 = .exit 2∧y.2.1.marks=[]∧y.2.2=[.row 6 ((o0++qk7 k l).map Evt.r) g]∧wj y.2.1.vars 3=some (.sl 0 g 0 (o0++qk7 k l).length false)∧wj y.2.1.vars 9=some (.fsl ((c.lps).map lpC) false)∧wj y.2.1.vars 10=some (ii n)∧wj y.2.1.vars 11=some (ii k):=by
 have key:=qcq (f:=exec (evL T) itL none qjn) (s:=qu [3,4,9,10,11,16,17,18] true 1) (α:=List Evt×Nat)
  (fun i a=>⟨[(3,.sl 0 a.2 0 a.1.length false),(4,(ii k)),(9,(.fsl ((c.lps).map lpC) false)),(10,(ii n)),(11,(ii k)),(16,(.fsl ((l).map Start.r) false)),(17,(ii l.length)),(18,(ii i))],[]⟩) (fun i a=>[.row 6 (a.1.map Evt.r) a.2])
  (fun i a=>a.1=o0++qk7 k (l.take i)) l.length
  (fun y => ∃g:Nat,y.1 = .exit 2∧y.2.1.marks=[]∧y.2.2=[.row 6 ((o0++qk7 k l).map Evt.r) g]∧wj y.2.1.vars 3=some (.sl 0 g 0 (o0++qk7 k l).length false)∧wj y.2.1.vars 9=some (.fsl ((c.lps).map lpC) false)∧wj y.2.1.vars 10=some (ii n)∧wj y.2.1.vars 11=some (ii k)) ?_ ?_ 0 (o0,g0) (ws _) (by simp[qk7])
 ·exact key
 ·rintro i ⟨out,g⟩ hi hout
  simp only at hout⊢
  obtain⟨x,hx⟩ : ∃x,l[i]? = some x:=⟨_,zgE hi⟩
  have hi':(i:Int)<(l.length:Int):=by omega
  have hw:IntKind.i64.wrap ((i:Int)+1)=((i+1:Nat):Int):=by rw[qi (by omega) (by omega)];simp
  have ho2:out.length≤1012:=by rw[hout,wm,q7q];have:=List.length_take_le i l;omega
  have hb:(out.length+1)*64≤140737488355328:=by omega
  have hcd:=q2c [(k:Int)] true i (by simp)
  simp only[wD,wp,qy]at hcd
  obtain⟨t1,t2⟩:=qvh out (qjy k i x).r
  have hr:(out++[qjy k i x]).map Evt.r=out.map Evt.r++[(qjy k i x).r]:=by rw[wQ];rfl
  refine .inl ⟨(out++[qjy k i x],g+1),?_,by simp only;rw[qaax hx,hout,wr]⟩
  have hlo:=qh 1 (out++[qjy k i x])
  simp only
  rw[hr,wm]
  rw[hr]at hlo
  have hil : ∀n,qb4 n ([(k:Int),(i:Int)].map qy)=true:=fun n=>qg n _
  simp only[qjy,Evt.r]at t2 hlo⊢
  have hcd2:([(k:Int)]++[(i:Int)]).map qy=[(k:Int),(i:Int)].map qy:=rfl
  rw[hcd2]at hcd
  generalize [(k:Int),(i:Int)].map qy=kl at hcd hlo t2 hil⊢
  simp only[qjn,zgs,zgr,zgq,zgt,hx,hi',hw,hcd,hb,t1,hlo,Start.r,qax,qt0,wg,wG,qqk,qb,qaw,wd,wK,we,wU,ne_eq,zgy,↓qc,↓wb,wf,wa,wE,wc,wt]
 ·rintro⟨out,g⟩ hout
  rw[wk]at hout
  simp only at hout⊢
  simp only[qjn,wl,wg,zgy,↓qc,↓wb,wa]
  exact⟨_,rfl,g,rfl,rfl,by rw[hout],by rw[hout,wm];rfl,rfl,rfl,rfl⟩
end
set_option maxRecDepth 10000
section
variable (c:Cfg)
structure Small12 (c:Cfg):Prop where
 lps:c.lps.length≤12
 lp : ∀l∈c.lps,l.length≤12
theorem Small12.len {c:Cfg} (h:Small12 c) (k:Nat):(qg6 (c.lps.take k)).length≤144:=by
 have:=qaii (lps:=c.lps.take k) (m:=12) (fun l hl=>h.lp l (List.mem_of_mem_take hl))
 have:=List.length_take_le k c.lps
 have:=List.length_take_le' k c.lps
 have:=h.lps
 omega
theorem qalj (h:Small12 c) :
  ∃y,itB (exec (evL T) itL none qje) (qu [3,9,10,11] true 1) ⟨[(3,.sl 0 0 0 0 false),(9,(.fsl ((c.lps).map lpC) false)),(10,(ii c.lps.length)),(11,(ii 0))],[]⟩ [.row 6 [] 0]=some y ∧
   ∃g:Nat,y.1 = .exit 0∧y.2.1.marks=[]∧y.2.2=[.row 6 ((qg6 c.lps).map Evt.r) g]∧wj y.2.1.vars 3=some (.sl 0 g 0 (qg6 c.lps).length false):=by
 have key:=qcq (f:=exec (evL T) itL none qje) (s:=qu [3,9,10,11] true 1) (α:=List Evt×Nat)
  (fun i a=>⟨[(3,.sl 0 a.2 0 a.1.length false),(9,(.fsl ((c.lps).map lpC) false)),(10,(ii c.lps.length)),(11,(ii i))],[]⟩) (fun i a=>[.row 6 (a.1.map Evt.r) a.2])
  (fun i a=>a.1=qg6 (c.lps.take i)) c.lps.length
  (fun y => ∃g:Nat,y.1 = .exit 0∧y.2.1.marks=[]∧y.2.2=[.row 6 ((qg6 c.lps).map Evt.r) g]∧wj y.2.1.vars 3=some (.sl 0 g 0 (qg6 c.lps).length false)) ?_ ?_ 0 ([],0) (ws _) (by simp[qg6])
 ·exact key
 ·rintro i ⟨out,g⟩ hi hout
  simp only at hout⊢
  obtain⟨x,hx⟩ : ∃x,c.lps[i]? = some x:=⟨_,zgE hi⟩
  have hlps:=h.lps
  have hi':(i:Int)<(c.lps.length:Int):=by omega
  have hw:IntKind.i64.wrap ((i:Int)+1)=((i+1:Nat):Int):=by rw[qi (by omega) (by omega)];simp
  have hl:=h.len i
  obtain⟨⟨y,e,σ⟩,k1,g',k2,k3,k4,k5,k6,k7,k8⟩:=qalt c i x out g (h.lp _ (zmg hx)) (by omega) (by rw[hout];omega) c.lps.length
  simp only at k1 k2 k3 k4 k5 k6 k7 k8
  subst k2;subst k4
  refine .inl ⟨(out++qk7 i x,g'),?_,by simp only;rw[q65 hx,hout]⟩
  simp only[zgp]at k5⊢
  simp only[qje,zgs,zgr,zgq,zgt,hx,hi',hw,k1,k3,k5,k6,k7,k8,lpC,qh,qax,qt0,wg,qb,wU,zgy,↓qc,↓qq,↓wb,wa]
 ·rintro⟨out,g⟩ hout
  rw[wk]at hout
  simp only at hout⊢
  simp only[qje,wl,wg,zgy,↓qc,↓wb,wa]
  exact⟨_,rfl,g,rfl,rfl,by rw[hout],by rw[hout];rfl⟩
theorem q7e (h:Small12 c):qm (evL T) qie [(.agg [(.fsl ((c.lps).map lpC) false),(.fsl ((c.progs).map qau) false),(ii c.look),(ii c.fin),(ii c.cap)])]=some (.fsl ((sortL (qg6 c.lps)).map Evt.r) false):=by
 obtain⟨⟨y,e,σ⟩,k1,g,k2,k3,k4,k5⟩:=qalj c h
 simp only at k1 k2 k3 k4 k5
 subst k2;subst k4
 have hl:=h.len c.lps.length
 rw[wk]at hl
 have hs:=qsa (qg6 c.lps) false (by omega) (qae4 _) (qaez _)
 have t1:=(qvh (qg6 c.lps) []).1
 have h0:(0:Int)=((0:Nat):Int):=rfl
 rw[qm,qd q41 q2x]
 simp only[qoz,k1,k3,k5,hs,t1,qh,qax,wg,qb,wd,we,qk,wU,ne_eq,zgy,↓qc,↓qq,↓wb,wa,wI]
end
set_option maxRecDepth 10000
def stP (s:Start):Pr:=⟨s.prog,0,true,[]⟩
def stLp (ps:List Pr):Lp×Bool:=(⟨0,0,ps,0⟩,decide (ps=[]))
def qafe (σ:qj) (lim:Nat) (row:List AV) (ps:List Pr):Prop:=
 ps=[]∧row=[(ii 0),(ii 0),.fsl [] true,(ii 0)]∨ps ≠ [] ∧ ∃o g,0<o∧o<lim∧row=[(ii 0),(ii 0),.sl o g 0 ps.length false,(ii 0)]∧σ[o]? = some (.row 4 (ps.map Pr.r) g)
theorem qafe.frz {σ:qj} {lim d:Nat} {row:List AV} {ps:List Pr} (h:qafe σ lim row ps):qjv (Ev.frz σ (d+1)) row=some (lpF (stLp ps)):=by
 rcases h with ⟨rfl,rfl⟩|⟨h1,o,g,_,_,rfl,h2⟩
 ·rfl
 ·have t1:wH ps.length (ps.map Pr.r)=ps.map Pr.r:=ztl (by simp)
  simp only[q0o,qafn,qan0,h2,t1,qagc,qr,lpF,stLp,h1,wg,zgy,↓qc,↓wb]
def qn0 (σ:qj) (lim:Nat):List (List AV)→List (List Pr)→Prop
 | [],[]=>True
 |r::rs,p::ps=>qafe σ lim r p∧qn0 σ lim rs ps
 | _,_=>False
theorem qafe.mono {σ σ':qj} {lim lim':Nat} {row:List AV} {ps:List Pr} (h:qafe σ lim row ps) (hl:lim≤lim') (hσ : ∀o,0<o→o<lim→σ'[o]? = σ[o]?):qafe σ' lim' row ps:=by
 rcases h with h|⟨h1,o,g,h2,h3,h4,h5⟩
 ·exact .inl h
 ·exact .inr ⟨h1,o,g,h2,by omega,h4,by rw[hσ o h2 h3];exact h5⟩
theorem qn0.mono {σ σ':qj} {lim lim':Nat} (hl:lim≤lim') (hσ : ∀o,0<o→o<lim→σ'[o]? = σ[o]?) : ∀ {rs:List (List AV)} {ps:List (List Pr)},qn0 σ lim rs ps→qn0 σ' lim' rs ps
 | [],[],h=>trivial
 |r::rs,p::ps,h=>⟨h.1.mono hl hσ,qn0.mono hl hσ h.2⟩
 | [],_ :: _,h=>h.elim
 | _ :: _,[],h=>h.elim
theorem qn0.snoc {σ:qj} {lim:Nat} {r:List AV} {p:List Pr} (hr:qafe σ lim r p) : ∀ {rs:List (List AV)} {ps:List (List Pr)},qn0 σ lim rs ps→qn0 σ lim (rs++[r]) (ps++[p])
 | [],[],h=>⟨hr,trivial⟩
 |r'::rs,p'::ps,h=>⟨h.1,qn0.snoc hr h.2⟩
 | [],_ :: _,h=>h.elim
 | _ :: _,[],h=>h.elim
theorem qn0.frz {σ:qj} {lim d:Nat} : ∀ {rs:List (List AV)} {ps:List (List Pr)},qn0 σ lim rs ps→qjv (qjv (Ev.frz σ (d+1))) rs=some ((ps.map stLp).map lpF)
 | [],[],h=>rfl
 |r::rs,p::ps,h=>by rw[q0o,h.1.frz,qn0.frz h.2];rfl
 | [],_ :: _,h=>h.elim
 | _ :: _,[],h=>h.elim
theorem qn0.len {σ:qj} {lim:Nat} : ∀ {rs:List (List AV)} {ps:List (List Pr)},qn0 σ lim rs ps→rs.length=ps.length
 | [],[],h=>rfl
 |r::rs,p::ps,h=>by rw[List.length_cons,List.length_cons,qn0.len h.2]
 | [],_ :: _,h=>h.elim
 | _ :: _,[],h=>h.elim
section
variable (c:Cfg)
def Part (τ0 τ:qj) (i:Nat) (l:List Start) (rk:List AV):Prop:=
 τ0.length≤τ.length∧(∀j,j<τ0.length→τ[j]? = τ0[j]?) ∧
 (i=0∧rk=[(ii 0),(ii 0),.fsl [] true,(ii 0)]∨0<i ∧ ∃o g,τ0.length≤o∧o<τ.length∧rk=[(ii 0),(ii 0),.sl (o+1) g 0 i false,(ii 0)]∧τ[o]? = some (.row 4 (((l.take i).map stP).map Pr.r) g))
theorem Part.rowOk {τ0 τ:qj} {l:List Start} {rk:List AV} (h:Part τ0 τ l.length l rk) (x:SObj):qafe (x::τ) (τ.length+1) rk (l.map stP):=by
 obtain⟨_,_,h⟩:=h
 rcases h with ⟨h1,h2⟩|⟨h1,o,g,h2,h3,h4,h5⟩
 ·exact .inl ⟨by rw[wC h1];rfl,h2⟩
 ·refine .inr ⟨fun e=>by rw[List.map_eq_nil_iff]at e;subst e;simp at h1,o+1,g,by omega,by omega,by rw[h4,List.length_map],?_⟩
  rw[wk]at h5
  rw[wy];exact h5
theorem qaih (k n:Nat) (l:List Start) (R1 R2:List (List AV)) (hk:k=R1.length) (hn:n=R1.length+1+R2.length) (hl:l.length≤12) (τ0:qj) :
  ∃y,itB (exec (evL T) itL none qh9) (qu [3,4,13,14,15,20,21,22] false (τ0.length+1)) ⟨[(3,.sl 0 0 0 n true),(4,(ii k)),(13,(.fsl ((c.lps).map lpC) false)),(14,(ii n)),(15,(ii k)),(20,(.fsl ((l).map Start.r) false)),(21,(ii l.length)),(22,(ii 0))],[]⟩ (.row 4 (R1++[(ii 0),(ii 0),.fsl [] true,(ii 0)]::R2) 0::τ0)=some y ∧
   ∃(rk:List AV) (τ:qj),y.1 = .exit 2∧y.2.1.marks=[]∧y.2.2 = .row 4 (R1++rk::R2) 0::τ∧Part τ0 τ l.length l rk∧wj y.2.1.vars 3=some (.sl 0 0 0 n true)∧wj y.2.1.vars 13=some (.fsl ((c.lps).map lpC) false)∧wj y.2.1.vars 14=some (ii n)∧wj y.2.1.vars 15=some (ii k):=by
 have key:=qcq (f:=exec (evL T) itL none qh9) (s:=qu [3,4,13,14,15,20,21,22] false (τ0.length+1)) (α:=List AV×qj)
  (fun i a=>⟨[(3,.sl 0 0 0 n true),(4,(ii k)),(13,(.fsl ((c.lps).map lpC) false)),(14,(ii n)),(15,(ii k)),(20,(.fsl ((l).map Start.r) false)),(21,(ii l.length)),(22,(ii i))],[]⟩) (fun i a => .row 4 (R1++a.1::R2) 0::a.2)
  (fun i a=>Part τ0 a.2 i l a.1) l.length
  (fun y => ∃(rk:List AV) (τ:qj),y.1 = .exit 2∧y.2.1.marks=[]∧y.2.2 = .row 4 (R1++rk::R2) 0::τ∧Part τ0 τ l.length l rk∧wj y.2.1.vars 3=some (.sl 0 0 0 n true)∧wj y.2.1.vars 13=some (.fsl ((c.lps).map lpC) false)∧wj y.2.1.vars 14=some (ii n)∧wj y.2.1.vars 15=some (ii k)) ?_ ?_ 0 ([(ii 0),(ii 0),.fsl [] true,(ii 0)],τ0) (ws _) ⟨wv _,fun _ _=>rfl,.inl ⟨rfl,rfl⟩⟩
 ·exact key
 ·rintro i ⟨rk,τ⟩ hi ⟨h1,h2,h3⟩
  simp only at h1 h2 h3⊢
  obtain⟨x,hx⟩ : ∃x,l[i]? = some x:=⟨_,zgE hi⟩
  have hi':(i:Int)<(l.length:Int):=by omega
  have hw:IntKind.i64.wrap ((i:Int)+1)=((i+1:Nat):Int):=by rw[qi (by omega) (by omega)];simp
  have rg : ∀r:List AV,(R1++r::R2)[k]? = some r:=fun r=>by rw[hk];simp
  have rs : ∀r v:List AV,(R1++r::R2).set k v=R1++v::R2:=fun r v=>by rw[hk];simp[]
  have rk':k<n:=by omega
  have tg : ∀v:SObj,(τ++[v])[τ.length]? = some v:=fun v=>by simp
  have ts : ∀v w:SObj,(τ++[v]).set τ.length w=τ++[w]:=fun v w=>by simp[]
  obtain⟨xp,xt⟩:=x
  rcases h3 with ⟨hi0,rfl⟩|⟨h3,o,g,h4,h5,rfl,h6⟩
  ·refine .inl ⟨([(ii 0),(ii 0),.sl (τ.length+1+1) 0 0 1 false,(ii 0)],τ++[.row 2 [[(ii xp),(ii xt)]] 0,.row 4 [(stP ⟨xp,xt⟩).r] 0]),?_,?_⟩
   ·simp only[qh9,zgs,zgr,zgq,zgt,hx,hi',hw,rg,rs,rk',tg,ts,wr,wp,Start.r,stP,Pr.r,wg,wG,qqk,qb,qaw,wd,wK,we,ne_eq,zgy,↓qc,↓wb,wf,wa,wE,wI,wc,wt]
   ·refine⟨by simp;omega,fun j hj=>by rw[wi (by omega)];exact h2 j hj,.inr ⟨by omega,τ.length+1,0,by omega,by simp,by rw[hi0],?_⟩⟩
    rw[qjg hx,hi0]
    simp
  ·have og : ∀v:SObj,(τ++[v])[o]? = some (.row 4 (((l.take i).map stP).map Pr.r) g):=fun v=>by rw[wi h5];exact h6
   have ln:(((l.take i).map stP).map Pr.r).length=i:=by simp;omega
   have tk:wH i (((l.take i).map stP).map Pr.r)=((l.take i).map stP).map Pr.r:=ztl (by simp;omega)
   have bd:(i+1)*48≤140737488355328:=by omega
   have il:i≤i:=wv _
   have nx:((l.take (i+1)).map stP).map Pr.r=((l.take i).map stP).map Pr.r++[(stP ⟨xp,xt⟩).r]:=by rw[qjg hx];simp
   refine .inl ⟨([(ii 0),(ii 0),.sl (o+1) (g+1) 0 (i+1) false,(ii 0)],(τ++[SObj.row 2 [[(ii xp),(ii xt)]] 0]:List SObj).set o (.row 4 (((l.take (i+1)).map stP).map Pr.r) (g+1))),?_,?_⟩
   ·simp only
    rw[nx]
    generalize ((l.take i).map stP).map Pr.r=PR at og ln tk⊢
    simp only[qh9,zgs,zgr,zgq,zgt,hx,hi',hw,rg,rs,rk',tg,ts,og,ln,tk,bd,il,wp,Start.r,stP,Pr.r,wg,wG,qqk,qb,qaw,wd,wK,we,ne_eq,zgy,↓qc,↓wb,wf,wa,wE,wc,wt]
   ·refine⟨by simp;omega,fun j hj => ?_,.inr ⟨by omega,o,g+1,h4,by simp;omega,rfl,?_⟩⟩
    ·rw[wA (by omega),wi (by omega)];exact h2 j hj
    ·rw[wu (by simp;omega)]
 ·rintro⟨rk,τ⟩ hP
  simp only at hP⊢
  simp only[qh9,wl,wg,zgy,↓qc,↓wb,wa]
  exact⟨_,rfl,rk,τ,rfl,rfl,rfl,hP,rfl,rfl,rfl,rfl⟩
end
set_option maxRecDepth 10000
def qaan (lps:List (List Start)):List (List Pr):=lps.map fun l=>l.map stP
def qhf (lps:List (List Start)):List (Lp×Bool):=(qaan lps).map stLp
section
variable (c:Cfg)
theorem qahn (h:Small12 c) :
  ∃y,itB (exec (evL T) itL none qj9) (qu [3,13,14,15] false 1) ⟨[(3,.sl 0 0 0 c.lps.length true),(13,(.fsl ((c.lps).map lpC) false)),(14,(ii c.lps.length)),(15,(ii 0))],[]⟩ [.row 4 (ww c.lps.length [(ii 0),(ii 0),.fsl [] true,(ii 0)]) 0]=some y ∧
   ∃(R:List (List AV)) (τ:qj),y.1 = .exit 0∧y.2.1.marks=[]∧y.2.2 = .row 4 R 0::τ∧qn0 y.2.2 (τ.length+1) R (qaan c.lps)∧wj y.2.1.vars 3=some (.sl 0 0 0 c.lps.length true):=by
 have key:=qcq (f:=exec (evL T) itL none qj9) (s:=qu [3,13,14,15] false 1) (α:=List (List AV)×qj)
  (fun i a=>⟨[(3,.sl 0 0 0 c.lps.length true),(13,(.fsl ((c.lps).map lpC) false)),(14,(ii c.lps.length)),(15,(ii i))],[]⟩) (fun i a => .row 4 (a.1++ww (c.lps.length-i) [(ii 0),(ii 0),.fsl [] true,(ii 0)]) 0::a.2)
  (fun i a => ∀x:SObj,qn0 (x::a.2) (a.2.length+1) a.1 (qaan (c.lps.take i))) c.lps.length
  (fun y => ∃(R:List (List AV)) (τ:qj),y.1 = .exit 0∧y.2.1.marks=[]∧y.2.2 = .row 4 R 0::τ∧qn0 y.2.2 (τ.length+1) R (qaan c.lps)∧wj y.2.1.vars 3=some (.sl 0 0 0 c.lps.length true)) ?_ ?_ 0 ([],[]) (ws _) (fun _=>trivial)
 ·exact key
 ·rintro i ⟨R,τ⟩ hi hR
  simp only at hR⊢
  obtain⟨x,hx⟩ : ∃x,c.lps[i]? = some x:=⟨_,zgE hi⟩
  have hlps:=h.lps
  have hi':(i:Int)<(c.lps.length:Int):=by omega
  have hw:IntKind.i64.wrap ((i:Int)+1)=((i+1:Nat):Int):=by rw[qi (by omega) (by omega)];simp
  have hRl:i=R.length:=by rw[(hR .dead).len];simp[qaan];omega
  have hrep:ww (c.lps.length-i) ([(ii 0),(ii 0),.fsl [] true,(ii 0)]:List AV)=([(ii 0),(ii 0),.fsl [] true,(ii 0)]:List AV)::ww (c.lps.length-(i+1)) ([(ii 0),(ii 0),.fsl [] true,(ii 0)]:List AV):=by
   rw[show c.lps.length-i=(c.lps.length-(i+1))+1 by omega];rfl
  obtain⟨⟨y,e,σ⟩,k1,rk,τ',k2,k3,k4,k5,k6,k7,k8,k9⟩:=qaih c i c.lps.length x R (ww (c.lps.length-(i+1)) [(ii 0),(ii 0),.fsl [] true,(ii 0)]) hRl (by simp;omega) (h.lp _ (zmg hx)) τ
  simp only at k1 k2 k3 k4 k6 k7 k8 k9
  subst k2;subst k4
  refine .inl ⟨(R++[rk],τ'),?_,fun z => ?_⟩
  ·simp only[wr,zgm,zgl]
   rw[hrep]
   generalize ww (c.lps.length-(i+1)) ([(ii 0),(ii 0),.fsl [] true,(ii 0)]:List AV)=RR at k1⊢
   simp only[qj9,zgs,zgr,zgq,zgt,hx,hi',hw,k1,k3,k6,k7,k8,k9,lpC,wg,qb,zgy,↓qc,↓qq,↓wb,wa]
  ·have:qaan (c.lps.take (i+1))=qaan (c.lps.take i)++[x.map stP]:=by rw[qjg hx];simp[qaan]
   simp only
   rw[this]
   refine qn0.snoc (k5.rowOk z) ((hR z).mono (by have:=k5.1;omega) (fun o h1 h2 => ?_))
   obtain⟨o,rfl⟩ : ∃p,o=p+1:=⟨o-1,by omega⟩
   rw[wy,wy]
   exact k5.2.1 o (by omega)
 ·rintro⟨R,τ⟩ hR
  rw[wk]at hR
  simp only at hR⊢
  rw[Nat.sub_self,List.replicate_zero,wR]
  simp only[qj9,wl,wg,zgy,↓qc,↓wb,wa]
  exact⟨_,rfl,R,τ,rfl,rfl,rfl,hR _,rfl⟩
theorem q80 (h:Small12 c):qm (evL T) qji [(.agg [(.fsl ((c.lps).map lpC) false),(.fsl ((c.progs).map qau) false),(ii c.look),(ii c.fin),(ii c.cap)])]=some (.fsl ((qhf c.lps).map lpF) false):=by
 obtain⟨⟨y,e,σ⟩,k1,R,τ,k2,k3,k4,k5,k6⟩:=qahn c h
 simp only at k1 k2 k3 k4 k5 k6
 subst k2;subst k4
 have hlps:=h.lps
 have b1:(c.lps.length:Int)*48≤140737488355328:=by omega
 have b1':48*(c.lps.length:Int)≤140737488355328:=by omega
 have b2:(c.lps.length:Int)≤4611686018427387904:=by omega
 have hR:=k5.len
 have hRl:R.length=c.lps.length:=by rw[hR];simp[qaan]
 have tk:wH c.lps.length R=R:=ztl (by omega)
 have hf:=fun d=>k5.frz (d:=d)
 have hle:c.lps.length≤c.lps.length:=wv _
 rw[qm,qd q68 q4v]
 simp only[qp4,zgs,zgr,b1',b2,k1,k3,k6,wN,hRl,hle,tk,wg,qb,wd,we,qk,ne_eq,zgy,↓qc,↓qq,↓wb,wf,wa,wI,Int.reducePow]
 rw[show (5:Nat)=4+1 from rfl,hf 4]
 rfl
end
set_option maxRecDepth 10000
section
variable (c:Cfg)
def qaoi (b i:Nat) (l:List Start) (W:qj):Prop:=
 i=0∧W=[.row 4 [[(ii 0),(ii 0),.fsl [] true,(ii 0)]] 0]∨0<i ∧ ∃g,W=[.row 4 [[(ii 0),(ii 0),.sl (b+1+1) g 0 i false,(ii 0)]] 0,.row 4 (((l.take i).map stP).map Pr.r) g]
theorem qaoi.row {b:Nat} {l:List Start} {τ0 W:qj} (hb:b=τ0.length) (h:qaoi b l.length l W) :
  ∃rk,(∃w:List SObj,W = .row 4 [rk] 0::w)∧rk.length=4∧qfb rk=true ∧ ∀x:SObj,qafe (x::(τ0++W)) ((τ0++W).length+1) rk (l.map stP):=by
 rcases h with ⟨h1,rfl⟩|⟨h1,g,rfl⟩
 ·refine⟨[(ii 0),(ii 0),.fsl [] true,(ii 0)],⟨[],rfl⟩,rfl,rfl,fun x => .inl ⟨?_,rfl⟩⟩
  rw[wC h1];rfl
 ·refine⟨_,⟨_,rfl⟩,rfl,rfl,fun x => .inr ⟨fun e=>by rw[List.map_eq_nil_iff]at e;subst e;simp at h1,b+1+1,g,by omega,by simp;omega,by rw[List.length_map],?_⟩⟩
  rw[wk,wy,hb,List.getElem?_append_right (by omega)]
  simp
theorem qafj (k g b:Nat) (l:List Start) (R:List (List AV)) (hkl:c.lps[k]? = some l) (hl:l.length≤12) (τ0:qj) (hb:b=τ0.length) :
  ∃y,itB (exec (evL T) itL none qja) (qu [1,3,4,5,6] false (b+1+1)) ⟨[(1,(.fptr [(.fsl ((c.lps).map lpC) false),(.fsl ((c.progs).map qau) false),(ii c.look),(ii c.fin),(ii c.cap)])),(3,.sl 0 g 0 R.length false),(4,(ii k)),(5,.ptr (b+1) 0 0 0),(6,(ii 0))],[]⟩ (.row 4 R g::(τ0++[.row 4 [[(ii 0),(ii 0),.fsl [] true,(ii 0)]] 0]))=some y ∧
   ∃W:List SObj,y.1 = .exit 2∧y.2.1.marks=[]∧y.2.2 = .row 4 R g::(τ0++W)∧qaoi b l.length l W∧wj y.2.1.vars 1=some (.fptr [(.fsl ((c.lps).map lpC) false),(.fsl ((c.progs).map qau) false),(ii c.look),(ii c.fin),(ii c.cap)])∧wj y.2.1.vars 3=some (.sl 0 g 0 R.length false)∧wj y.2.1.vars 4=some (ii k)∧wj y.2.1.vars 5=some (.ptr (b+1) 0 0 0):=by
 have key:=qcq (f:=exec (evL T) itL none qja) (s:=qu [1,3,4,5,6] false (b+1+1)) (α:=List SObj)
  (fun i a=>⟨[(1,(.fptr [(.fsl ((c.lps).map lpC) false),(.fsl ((c.progs).map qau) false),(ii c.look),(ii c.fin),(ii c.cap)])),(3,.sl 0 g 0 R.length false),(4,(ii k)),(5,.ptr (b+1) 0 0 0),(6,(ii i))],[]⟩) (fun i a => .row 4 R g::(τ0++a))
  (fun i a=>qaoi b i l a) l.length
  (fun y => ∃W:List SObj,y.1 = .exit 2∧y.2.1.marks=[]∧y.2.2 = .row 4 R g::(τ0++W)∧qaoi b l.length l W∧wj y.2.1.vars 1=some (.fptr [(.fsl ((c.lps).map lpC) false),(.fsl ((c.progs).map qau) false),(ii c.look),(ii c.fin),(ii c.cap)])∧wj y.2.1.vars 3=some (.sl 0 g 0 R.length false)∧wj y.2.1.vars 4=some (ii k)∧wj y.2.1.vars 5=some (.ptr (b+1) 0 0 0)) ?_ ?_ 0 [.row 4 [[(ii 0),(ii 0),.fsl [] true,(ii 0)]] 0] (ws _) (.inl ⟨rfl,rfl⟩)
 ·exact key
 ·rintro i W hi h
  obtain⟨x,hx⟩ : ∃x,l[i]? = some x:=⟨_,zgE hi⟩
  have hi':(i:Int)<(l.length:Int):=by omega
  have hw:IntKind.i64.wrap ((i:Int)+1)=((i+1:Nat):Int):=by rw[qi (by omega) (by omega)];simp
  have tg : ∀(v:SObj) (w:List SObj),(τ0++v::w)[b]? = some v:=fun v w=>by rw[hb];simp
  have tg2 : ∀v w:SObj,(τ0++[v,w])[b+1]? = some w:=fun v w=>by rw[hb,List.getElem?_append_right (by omega)];simp
  have ts : ∀(v u:SObj) (w:List SObj),(τ0++v::w).set b u=τ0++u::w:=fun v u w=>by rw[hb];simp[]
  have ts2 : ∀v w u:SObj,(τ0++[v,w]).set (b+1) u=τ0++[v,u]:=fun v w u=>by rw[hb,List.set_append,if_neg (by omega)];simp
  obtain⟨xp,xt⟩:=x
  have hbl:List.length τ0=b:=hb.symm
  rcases h with ⟨hi0,rfl⟩|⟨h3,g',rfl⟩
  ·refine .inl ⟨[.row 4 [[(ii 0),(ii 0),.sl (b+1+1) 0 0 1 false,(ii 0)]] 0,.row 4 [(stP ⟨xp,xt⟩).r] 0],?_,.inr ⟨by omega,0,?_⟩⟩
   ·simp only[qja,zgs,zgr,zgq,zgt,hkl,hx,hi',hw,tg,ts,hbl,wr,wp,Start.r,stP,Pr.r,lpC,wg,wG,qqk,qb,qaw,wd,wK,we,ne_eq,zgy,↓qc,↓wb,wf,wa,wE,wI,wc,wt]
   ·rw[qjg hx,hi0];simp
  ·have ln:(((l.take i).map stP).map Pr.r).length=i:=by simp;omega
   have tk:wH i (((l.take i).map stP).map Pr.r)=((l.take i).map stP).map Pr.r:=ztl (by simp;omega)
   have bd:(i+1)*48≤140737488355328:=by omega
   have il:i≤i:=wv _
   have nx:((l.take (i+1)).map stP).map Pr.r=((l.take i).map stP).map Pr.r++[(stP ⟨xp,xt⟩).r]:=by rw[qjg hx];simp
   refine .inl ⟨[.row 4 [[(ii 0),(ii 0),.sl (b+1+1) (g'+1) 0 (i+1) false,(ii 0)]] 0,.row 4 (((l.take (i+1)).map stP).map Pr.r) (g'+1)],?_,.inr ⟨by omega,g'+1,rfl⟩⟩
   rw[nx]
   generalize ((l.take i).map stP).map Pr.r=PR at ln tk⊢
   simp only[qja,zgs,zgr,zgq,zgt,hkl,hx,hi',hw,tg,tg2,ts,ts2,ln,tk,bd,il,wp,Start.r,stP,Pr.r,lpC,wg,wG,qqk,qb,qaw,wd,wK,we,ne_eq,zgy,↓qc,↓wb,wf,wa,wE,wc,wt]
 ·rintro W h
  simp only[qja,zgs,zgr,zgq,zgt,hkl,lpC,wl,wg,qb,zgy,↓qc,↓wb,wa]
  exact⟨_,rfl,W,rfl,rfl,rfl,h,rfl,rfl,rfl,rfl⟩
theorem qaf5 (h:Small12 c) :
  ∃y,itB (exec (evL T) itL none qi8) (qu [1,3,4] false 1) ⟨[(1,(.fptr [(.fsl ((c.lps).map lpC) false),(.fsl ((c.progs).map qau) false),(ii c.look),(ii c.fin),(ii c.cap)])),(3,.sl 0 0 0 0 false),(4,(ii 0))],[]⟩ [.row 4 [] 0]=some y ∧
   ∃(R:List (List AV)) (g:Nat) (τ:qj),y.1 = .exit 0∧y.2.1.marks=[]∧y.2.2 = .row 4 R g::τ∧qn0 y.2.2 (τ.length+1) R (qaan c.lps)∧wj y.2.1.vars 3=some (.sl 0 g 0 R.length false):=by
 have key:=qcq (f:=exec (evL T) itL none qi8) (s:=qu [1,3,4] false 1) (α:=List (List AV)×Nat×qj)
  (fun i a=>⟨[(1,(.fptr [(.fsl ((c.lps).map lpC) false),(.fsl ((c.progs).map qau) false),(ii c.look),(ii c.fin),(ii c.cap)])),(3,.sl 0 a.2.1 0 a.1.length false),(4,(ii i))],[]⟩) (fun i a => .row 4 a.1 a.2.1::a.2.2)
  (fun i a => ∀x:SObj,qn0 (x::a.2.2) (a.2.2.length+1) a.1 (qaan (c.lps.take i))) c.lps.length
  (fun y => ∃(R:List (List AV)) (g:Nat) (τ:qj),y.1 = .exit 0∧y.2.1.marks=[]∧y.2.2 = .row 4 R g::τ∧qn0 y.2.2 (τ.length+1) R (qaan c.lps)∧wj y.2.1.vars 3=some (.sl 0 g 0 R.length false)) ?_ ?_ 0 ([],0,[]) (ws _) (fun _=>trivial)
 ·exact key
 ·rintro i ⟨R,g,τ⟩ hi hR
  simp only at hR⊢
  obtain⟨x,hx⟩ : ∃x,c.lps[i]? = some x:=⟨_,zgE hi⟩
  have hlps:=h.lps
  have hi':(i:Int)<(c.lps.length:Int):=by omega
  have hw:IntKind.i64.wrap ((i:Int)+1)=((i+1:Nat):Int):=by rw[qi (by omega) (by omega)];simp
  have hRl:R.length=i:=by rw[(hR .dead).len];simp[qaan];omega
  obtain⟨b,hb⟩ : ∃b,b=τ.length:=⟨_,rfl⟩
  have hbl:List.length τ=b:=hb.symm
  obtain⟨⟨y,e,σ⟩,k1,W,k2,k3,k4,k5,k6,k7,k8,k9⟩:=qafj c i g b x R hx (h.lp _ (zmg hx)) τ hb
  simp only at k1 k2 k3 k4 k6 k7 k8 k9
  subst k2;subst k4
  obtain⟨rk,⟨w,hW⟩,_,_,hrow⟩:=k5.row hb
  have tg : ∀(v:SObj) (w:List SObj),(τ++v::w)[b]? = some v:=fun v w=>by rw[hb];simp
  have bd:(i+1)*48≤140737488355328:=by omega
  have il:i≤i:=wv _
  have tk:wH i R=R:=ztl (by omega)
  refine .inl ⟨(R++[rk],g+1,τ++W),?_,fun z => ?_⟩
  ·simp only[zgp,zga,zgb,hRl]at k1 k7⊢
   rcases k5 with ⟨_,rfl⟩|⟨_,g',rfl⟩
   ·simp only[wL,SObj.row.injEq,true_and,and_true]at hW
    obtain⟨rfl,rfl⟩:=hW
    simp only[qi8,hi',hw,hbl,hRl,k1,k3,k6,k7,k8,k9,tg,bd,il,tk,wg,qqk,qb,qaw,wd,we,ne_eq,zgy,↓qc,↓qq,↓wb,wf,wa,wE,wc,wt]
   ·simp only[wL,SObj.row.injEq,true_and,and_true]at hW
    obtain⟨rfl,rfl⟩:=hW
    simp only[qi8,hi',hw,hbl,hRl,k1,k3,k6,k7,k8,k9,tg,bd,il,tk,wg,qqk,qb,qaw,wd,we,ne_eq,zgy,↓qc,↓qq,↓wb,wf,wa,wE,wc,wt]
  ·have:qaan (c.lps.take (i+1))=qaan (c.lps.take i)++[x.map stP]:=by rw[qjg hx];simp[qaan]
   simp only
   rw[this]
   refine qn0.snoc (hrow z) ((hR z).mono (by simp) (fun o h1 h2 => ?_))
   obtain⟨o,rfl⟩ : ∃p,o=p+1:=⟨o-1,by omega⟩
   rw[wy,wy]
   exact wi (by omega)
 ·rintro⟨R,g,τ⟩ hR
  rw[wk]at hR
  simp only at hR⊢
  simp only[qi8,wl,wg,qb,zgy,↓qc,↓wb,wa]
  exact⟨_,rfl,R,g,τ,rfl,rfl,rfl,hR _,rfl⟩
theorem qacz (h:Small12 c):qm (evL T) qk3 [(.agg [(.fsl ((c.lps).map lpC) false),(.fsl ((c.progs).map qau) false),(ii c.look),(ii c.fin),(ii c.cap)])]=some (.fsl ((qhf c.lps).map lpF) false):=by
 obtain⟨⟨y,e,σ⟩,k1,R,g,τ,k2,k3,k4,k5,k6⟩:=qaf5 c h
 simp only at k1 k2 k3 k4 k5 k6
 subst k2;subst k4
 have tk:wH R.length R=R:=wk
 have hf:=fun d=>k5.frz (d:=d)
 have hle:R.length≤R.length:=wv _
 rw[qm,qd q8f q5w]
 simp only[qrd,k1,k3,k6,hle,tk,wg,wd,we,qk,ne_eq,zgy,↓qc,↓qq,↓wb,wa,wI]
 rw[show (5:Nat)=4+1 from rfl,hf 4]
 rfl
end
set_option maxRecDepth 10000
structure Sim where
 trace:List (List Evt)
 lps:List Lp
 pend:List Evt
 n:Nat
 over:Bool
def qn1 (s:Sim) (i:Int):Lp:=(s.lps[i.toNat]?).getD ⟨0,0,[],0⟩
def qjx (s:Sim) (i:Int):List Evt:=(s.trace[i.toNat]?).getD []
def qwc (gone:List (List Int)) (x:Evt):Bool:=!(gone.any fun g=>decide (g=x.key))
def start (c:Cfg):Sim:=⟨ww c.lps.length [],(qhf c.lps).map Prod.fst,sortL (qg6 c.lps),0,false⟩
structure EvG (c:Cfg) (n:Nat) (e:Evt):Prop where
 lp:0≤e.lp∧e.lp<c.lps.length
 time:0≤e.time∧e.time≤1152921504606846976
 key:2≤e.key.length∧e.key.length≤2+n
 proc:0≤e.proc∧e.proc<8
 arg:e.kind=2→0≤e.arg∧e.arg<16
theorem EvG.mono {c:Cfg} {n m:Nat} {e:Evt} (h:EvG c n e) (hm:n≤m):EvG c m e:=⟨h.lp,h.time,⟨h.key.1,by have:=h.key.2;omega⟩,h.proc,h.arg⟩
def LpG (c:Cfg) (n:Nat) (x:Lp):Prop:=x.procs.length≤8 ∧ ∀q∈x.procs,0≤q.prog∧q.prog<c.progs.length∧0≤q.pc∧q.pc≤((c.progs[q.prog.toNat]?).getD []).length∧q.timer.length≤2+n
def qqp (l:List Evt):Prop:=l.Pairwise (fun a b=>¬a.key=b.key)
def qan5 (c:Cfg) (x:Lp) (l:List Evt):Lp:=l.foldl (fun x e=>(qa4 c x e).lp) x
def qao (h:List Evt) (i:Nat):List Evt:=h.filter fun e=>decide (e.lp=i)
structure SInvK (c:Cfg) (s:Sim) (h:List Evt):Prop where
 valid:Valid c
 n:s.n=h.length
 trl:s.trace.length=c.lps.length
 tr : ∀i,i<c.lps.length→s.trace[i]? = some (qao h i)
 lpl:s.lps.length=c.lps.length
 lp : ∀x∈s.lps,LpG c h.length x
 keys:qqp (h++s.pend)
 ev : ∀e∈h++s.pend,EvG c h.length e
 tim : ∀e∈s.pend,e.kind=2 → ∃x q p,s.lps[e.lp.toNat]? = some x∧x.procs[e.proc.toNat]? = some q∧c.progs[q.prog.toNat]? = some p∧0≤e.arg∧e.arg<p.length
 par : ∀e∈h++s.pend,e.key.length=2 ∨ ∃p∈h,∃m,e.key=p.key++[m]∧p.time<e.time
 len:s.pend.length≤64+16*h.length
 rep : ∀i,i<c.lps.length→s.lps[i]? = some (qan5 c ((((qhf c.lps).map Prod.fst)[i]?).getD ⟨0,0,[],0⟩) (qao h i))
 rdy : ∀i,i<c.lps.length → ∀k e,(qao h i)[k]? = some e→Ready c (qan5 c ((((qhf c.lps).map Prod.fst)[i]?).getD ⟨0,0,[],0⟩) ((qao h i).take k)) e
structure SInv (c:Cfg) (s:Sim) (h:List Evt):Prop extends SInvK c s h where
 sorted:s.pend.Pairwise leE
 ord:h.Pairwise leE
 ord2 : ∀a∈h,∀b∈s.pend,leE a b
 fin : ∀e∈h,e.time<c.fin
theorem qqp.dist {l:List Evt} (h:qqp l):qys l:=h.imp fun hk hc=>hk ((qah1 _ _).1 hc).2
theorem qqp.perm {l l':List Evt} (h:qqp l) (p:l'.Perm l):qqp l':=(p.pairwise_iff (fun {x y} hxy hyx=>hxy hyx.symm)).2 h
theorem qac1 {a b:Evt} (h:leE a b):a.time≤b.time:=by
 have:=qn2 a.time b.time
 unfold leE qxm at h
 by_cases e:qwh a.time b.time=0
 ·omega
 ·rw[if_neg e]at h;omega
section
variable {c:Cfg} {s:Sim} {h:List Evt}
theorem SInvK.headM (H:SInvK c s h) {e:Evt} (hm:e∈s.pend) (hn:h.length≤20000) : ∃x,s.lps[e.lp.toNat]? = some x∧qn1 s e.lp=x∧Ready c x e:=by
 have he:e∈h++s.pend:=wo _ hm
 have g:=H.ev e he
 obtain⟨x,hx⟩ : ∃x,s.lps[e.lp.toNat]? = some x:=⟨_,zgE (by rw[H.lpl];have:=g.lp;omega)⟩
 have hl:=H.lp x (zmg hx)
 refine⟨x,hx,by unfold qn1;rw[hx];rfl,H.valid,hl.1,fun q hq => ?_,g.time,by have:=g.key;omega,fun q ha hk => ?_⟩
 ·obtain⟨a,b,d,f,k⟩:=hl.2 q hq;exact⟨a,b,d,f,by omega⟩
 ·obtain⟨_,_,hq,_⟩:=qahi ha
  obtain⟨x',q',p,h1,h2,h3,h4,h5⟩:=H.tim e hm hk
  rw[hx]at h1;cases h1
  rw[hq]at h2;cases h2
  rw[h3];exact⟨h4,by show e.arg≤(p.length:Int);omega⟩
theorem SInv.head (H:SInv c s h) {e:Evt} {rest:List Evt} (hp:s.pend=e::rest) (hn:h.length≤20000) : ∃x,s.lps[e.lp.toNat]? = some x∧qn1 s e.lp=x∧Ready c x e:=
 H.toSInvK.headM (by rw[hp];simp) hn
theorem qaks {e:Evt} {out:List Evt} (h : ∀k ev ev',out[k]? = some ev→out[k+1]? = some ev' → ∃m m':Int,ev.key=e.key++[m]∧ev'.key=e.key++[m']∧m<m') :
  ∀(d i:Nat) (a b:Evt),out[i]? = some a→out[i+d+1]? = some b → ∃m m':Int,a.key=e.key++[m]∧b.key=e.key++[m']∧m<m'
 | 0,i,a,b,ha,hb=>h i a b ha hb
 |d+1,i,a,b,ha,hb=>by
  have hlt:=(zei.1 hb).1
  obtain⟨x,hx⟩ : ∃x,out[i+d+1]? = some x:=⟨_,zgE (by omega)⟩
  obtain⟨m,m1,h1,h2,h3⟩:=qaks h d i a x ha hx
  obtain⟨m2,m3,h4,h5,h6⟩:=h (i+d+1) x b hx hb
  rw[h2]at h4
  have:=List.append_cancel_left h4
  simp only[wL,and_true]at this
  exact⟨m,m3,h1,h5,by omega⟩
theorem qamh {e:Evt} {out:List Evt} (h : ∀k ev ev',out[k]? = some ev→out[k+1]? = some ev' → ∃m m':Int,ev.key=e.key++[m]∧ev'.key=e.key++[m']∧m<m'):qqp out:=by
 unfold qqp
 rw[wz]
 intro i j hi hj hij hk
 obtain⟨m,m',h1,h2,h3⟩:=qaks h (j-i-1) i out[i] out[j] (zgE hi) (by rw[show i+(j-i-1)+1=j by omega];exact zgE hj)
 rw[hk,h2]at h1
 have:=List.append_cancel_left h1
 simp only[wL,and_true]at this
 omega
theorem SInvK.keyNeP (H:SInvK c s h) {e:Evt} {rest:List Evt} (hp:s.pend.Perm (e::rest)) (hn:h.length≤20000):qqp ((h++[e])++(rest++(qa4 c (qn1 s e.lp) e).out)):=by
 have hme:e∈s.pend:=hp.mem_iff.2 (by simp)
 obtain⟨x,hx,hlx,R⟩:=H.headM hme hn
 rw[hlx]
 obtain⟨X,_,o1,o2⟩:=R.outs
 have hk:qqp (h++e::rest):=qqp.perm H.keys (hp.symm.append_left h)
 have e1:(h++[e])++(rest++(qa4 c x e).out)=(h++e::rest)++(qa4 c x e).out:=by simp
 rw[e1]
 unfold qqp at hk⊢
 rw[List.pairwise_append]
 refine⟨hk,qamh o2,fun a ha b hb hab => ?_⟩
 obtain⟨k,hkb⟩:=wn.1 hb
 obtain⟨m,hm,_⟩:=(o1 k b hkb).key
 have ha':a∈h++s.pend:=by
  rcases wx.1 ha with ha|ha
  ·exact wB _ ha
  ·exact wo _ (hp.mem_iff.2 ha)
 have ge:=H.ev e (wo _ hme)
 rw[hm]at hab
 rcases H.par a ha' with h2|⟨p,hp1,m',h2,_⟩
 ·rw[hab]at h2;simp at h2;have:=ge.key;omega
 ·rw[hab]at h2
  have hlen:=congrArg List.length h2
  simp at hlen
  have:=(List.append_inj h2 hlen).1
  rw[List.pairwise_append]at hk
  exact hk.2.2 p hp1 e (by simp) this.symm
end
set_option maxRecDepth 10000
section
variable (G:List (List Int)) (c:Bool) (x:Evt)
end
set_option maxRecDepth 10000
section
variable (σ:qj) (p o g:Nat) (G:List (List Int)) (D:List Evt)
def zEvt:Evt:=⟨0,[],0,0,0,0⟩
theorem zEvt_r:zEvt.r=[(ii 0),.fsl [] false,(ii 0),(ii 0),(ii 0),(ii 0)]:=rfl
structure DelInv (G:List (List Int)) (D:List Evt) (j:Nat) (E:List Evt):Prop where
 len:E.length=D.length
 kept:E.take ((D.take j).filter (qwc G)).length=(D.take j).filter (qwc G)
 rest:E.drop j=D.drop j
 lt:((D.take j).filter (qwc G)).length<j
theorem DelInv.first {G:List (List Int)} {D:List Evt} {j:Nat} {z:Evt} (hz:D[j]? = some z) (hb:qwc G z=false) (ha:(D.take j).all (qwc G)=true):DelInv G D (j+1) D∧((D.take (j+1)).filter (qwc G)).length=j:=by
 have hlt:=(zei.1 hz).1
 have e0:(D.take j).filter (qwc G)=D.take j:=List.filter_eq_self.2 (fun x hx=>wF.1 ha x hx)
 have e1:(D.take (j+1)).filter (qwc G)=D.take j:=by rw[qjg hz,List.filter_append,e0];simp[hb]
 have e2:(D.take j).length=j:=by rw[List.length_take];omega
 exact⟨⟨rfl,by rw[e1,e2],rfl,by rw[e1,e2];omega⟩,by rw[e1,e2]⟩
end
set_option maxRecDepth 10000
section
variable (σ:qj) (p o g n:Nat) (G:List (List Int)) (D:List Evt)
structure Grown (τ:qj) (n o:Nat) (R:List (List AV)) (g:Nat):Prop where
 len:τ.length=n
 lt:o<n
 at_:τ[o]? = some (.row 6 R g)
 lo:qel n τ=true
theorem Grown.new {τ:qj} {R:List (List AV)} (h:Grown τ n o R g) (x:SObj):(τ++[x])[n]? = some x:=by rw[←h.len];simp
theorem Grown.old {τ:qj} {R:List (List AV)} (h:Grown τ n o R g) (x:SObj):(τ++[x])[o]? = some (.row 6 R g):=by rw[wi (by rw[h.len];exact h.lt)];exact h.at_
theorem Grown.cut {τ:qj} {R:List (List AV)} (h:Grown τ n o R g) (x:SObj):(τ++[x]).take n=τ:=by rw[←h.len];simp
end
set_option maxRecDepth 10000
def qf (l:List Evt):List AV:=[(.fsl ((l).map Evt.r) false)]
theorem qmi (n:Nat) (l:List Evt):los n (qf l)=true:=by simp only[qf,los,AV.lo,qh,zfc]
theorem evtsC_pl (l:List Evt):(qf l).length=1∧qfb (qf l)=true:=⟨rfl,rfl⟩
theorem qan (n:Nat) (l:List (List Evt)):qb4 n (l.map qf)=true:=qjs (qmi n) l
theorem qaaj (l:List (List Evt)):qbs 1 (l.map qf)=true:=qpn evtsC_pl l
theorem grow_ev (n:Nat) (h:n≤1000000):(evL T).call qas [.fsl [] true,(ii n)] [] =
  if n=0 then some (.fsl [] true,[])else some (.sl 0 0 0 0 false,[.row 6 ((ww n zEvt).map Evt.r) 0]):=by
 have c1:¬(n:Int)<0:=by omega
 have w:IntKind.i64.wrap ((n:Int)-((0:Nat):Int))=n:=by rw[qi (by omega) (by omega)];omega
 have w0:IntKind.i64.wrap 0=0:=rfl
 have w1:IntKind.i64.wrap ((n:Int)-0)=n:=by rw[qi (by omega) (by omega)];omega
 have ok:=qgi (ww n zEvt)
 rw[List.map_replicate]at ok⊢
 have b:n*64≤140737488355328:=by omega
 rw[qd qmw qmf]
 by_cases h0:n=0
 ·subst h0
  rw[if_pos rfl]
  simp only[qbt,wl,w0,Int.sub_zero,gt_iff_lt,wg,qk,zgy,↓qc,↓wb,wf,wa,wh]
 ·have c2:(n:Int)>0:=by omega
  rw[if_neg h0]
  simp only[zEvt_r]at ok⊢
  simp only[qbt,zgr,c1,c2,w0,w1,ok,b,zgs,Nat.sub_zero,wN,wg,qk,zgy,implies_true,↓qc,↓wb,wf,wa,wI,wt,Int.reduceSub,Int.reduceToNat,wh]
set_option maxRecDepth 10000
section
variable (xs:List (List Evt)) (cl:Bool)
theorem qtk {xs:List (List Evt)} {i:Nat} {x:List Evt} (h:xs[i]? = some x):(xs.take (i+1)).flatten=(xs.take i).flatten++x:=by rw[qjg h,List.flatten_append];simp
theorem qaf7 (xs:List (List Evt)) (i:Nat):(xs.take i).flatten.length≤xs.flatten.length:=by
 have:xs.flatten=(xs.take i).flatten++(xs.drop i).flatten:=by rw[←List.flatten_append,List.take_append_drop]
 rw[this,wm];omega
theorem qaov (hx:xs.length≤1000000) (hT:xs.flatten.length≤1000000) :
  ∃y,itB (exec (evL T) itL none qa9) (qu [0,3,9,10,11] true 0) ⟨[(0,(.fsl ((xs).map qf) cl)),(3,(ii 0)),(9,(.fsl ((xs).map qf) cl)),(10,(ii xs.length)),(11,(ii 0))],[]⟩ []=some y ∧
   y.1 = .exit 0∧y.2.1.marks=[]∧y.2.2=[]∧wj y.2.1.vars 0=some (.fsl ((xs).map qf) cl)∧wj y.2.1.vars 3=some (ii xs.flatten.length):=by
 have key:=qcq (f:=exec (evL T) itL none qa9) (s:=qu [0,3,9,10,11] true 0) (α:=Unit)
  (fun i _=>⟨[(0,(.fsl ((xs).map qf) cl)),(3,(ii ((xs.take i).flatten.length))),(9,(.fsl ((xs).map qf) cl)),(10,(ii xs.length)),(11,(ii i))],[]⟩) (fun _ _=>[])
  (fun _ _=>True) xs.length (fun y=>y.1 = .exit 0∧y.2.1.marks=[]∧y.2.2=[]∧wj y.2.1.vars 0=some (.fsl ((xs).map qf) cl)∧wj y.2.1.vars 3=some (ii xs.flatten.length)) ?_ ?_ 0 () (ws _) trivial
 ·exact key
 ·rintro i _ hi _
  obtain⟨x,hx'⟩ : ∃x,xs[i]? = some x:=⟨_,zgE hi⟩
  have hi':(i:Int)<(xs.length:Int):=by omega
  have hw:IntKind.i64.wrap ((i:Int)+1)=((i+1:Nat):Int):=by rw[qi (by omega) (by omega)];simp
  have h1:=qaf7 xs (i+1)
  rw[qtk hx',wm]at h1
  have h2:IntKind.i64.wrap (((xs.take i).flatten.length:Int)+(x.length:Int))=(((xs.take i).flatten.length+x.length:Nat):Int):=qph (by omega)
  refine .inl ⟨(),?_,trivial⟩
  rw[qtk hx',wm]
  generalize (xs.take i).flatten.length=m at h2 h1⊢
  have h3:¬((m+x.length:Nat):Int)<0:=by omega
  simp only[qa9,zgs,zgr,zgq,zgt,hx',hi',hw,h2,h3,qf,qan,wg,qb,zgy,↓qc,↓wb,wa,wh]
 ·rintro _ _
  simp only[qa9,wl,wk,wg,zgy,↓qc,↓wb,wa,wh]
  exact⟨_,rfl,rfl,rfl,rfl,rfl,rfl⟩
def CInv (xs:List (List Evt)) (i:Nat) (a:AV×qj):Prop:=
 (i=0∧xs.flatten.length=0∧a=(.fsl [] true,[])) ∨
 ∃(g:Nat) (W:List Evt),a=(.sl 0 g 0 (xs.take i).flatten.length false,[.row 6 (W.map Evt.r) g])∧(W=(xs.take i).flatten∨(xs.take i).flatten=[]∧0<xs.flatten.length)
theorem qaou (hx:xs.length≤1000000) (hT:xs.flatten.length≤1000000) (a:AV×qj) (ha:CInv xs 0 a) (n:Nat) :
  ∃y,itB (exec (evL T) itL none qap) (qu [6,25,26,27] false n) ⟨[(6,a.1),(25,(.fsl ((xs).map qf) cl)),(26,(ii xs.length)),(27,(ii 0))],[]⟩ a.2=some y ∧
   ∃b,CInv xs xs.length b∧y.1 = .exit 2∧y.2.1.marks=[]∧y.2.2=b.2∧wj y.2.1.vars 6=some b.1:=by
 have key:=qcq (f:=exec (evL T) itL none qap) (s:=qu [6,25,26,27] false n) (α:=AV×qj)
  (fun i a=>⟨[(6,a.1),(25,(.fsl ((xs).map qf) cl)),(26,(ii xs.length)),(27,(ii i))],[]⟩) (fun _ a=>a.2)
  (fun i a=>CInv xs i a) xs.length (fun y => ∃b,CInv xs xs.length b∧y.1 = .exit 2∧y.2.1.marks=[]∧y.2.2=b.2∧wj y.2.1.vars 6=some b.1) ?_ ?_ 0 a (ws _) ha
 ·exact key
 ·rintro i a hi ha
  obtain⟨x,hx'⟩ : ∃x,xs[i]? = some x:=⟨_,zgE hi⟩
  have hi':(i:Int)<(xs.length:Int):=by omega
  have hw:IntKind.i64.wrap ((i:Int)+1)=((i+1:Nat):Int):=by rw[qi (by omega) (by omega)];simp
  have h1:=qaf7 xs (i+1)
  have hfl:=qtk hx'
  rw[hfl,wm]at h1
  have ok:=qgi x
  rcases ha with ⟨hi0,h0,rfl⟩|⟨g,W,rfl,hW⟩
  ·have hfi:(xs.take i).flatten=[]:=by rw[hi0];rfl
   have hx0:x=[]:=wC (by omega)
   subst hx0
   refine .inl ⟨(.sl 0 0 0 0 false,[.row 6 [] 0]),?_,.inr ⟨0,[],?_,.inl ?_⟩⟩
   ·simp only[qap,zgs,zgr,zgq,zgt,hx',hi',hw,qf,wp,Nat.zero_mul,ws,wg,qqk,qb,qaw,ne_eq,zgy,↓qc,↓wb,wa,wI,wt]
   ·rw[hfl,hfi];simp
   ·rw[hfl,hfi];simp
  ·by_cases hx0:x=[]
   ·subst hx0
    rw[wR]at hfl
    refine .inl ⟨(.sl 0 g 0 (xs.take i).flatten.length false,[.row 6 (W.map Evt.r) g]),?_,.inr ⟨g,W,by rw[hfl],by rw[hfl];exact hW⟩⟩
    have hWl:(xs.take i).flatten.length≤W.length:=by
     rcases hW with rfl|⟨h,_⟩
     ·exact wv _
     ·rw[h];exact ws _
    have b:(xs.take i).flatten.length*64≤140737488355328:=by have:=h1;simp at this;omega
    simp only[qap,zgs,zgr,zgq,zgt,hx',hi',hw,qf,wp,hWl,b,wg,qqk,qb,qaw,zgy,↓qc,↓wb,wa,wt]
   ·have hWl:(xs.take i).flatten.length≤W.length∧W.take (xs.take i).flatten.length=(xs.take i).flatten:=by
     rcases hW with rfl|⟨h,_⟩
     ·exact⟨wv _,wk⟩
     ·rw[h];exact⟨ws _,rfl⟩
    obtain⟨w1,w2⟩:=hWl
    have hm:x.map Evt.r ≠ []:=by simpa using hx0
    have w3:(W.map Evt.r).take (xs.take i).flatten.length=((xs.take i).flatten).map Evt.r:=by rw[←List.map_take,w2]
    have b:((xs.take i).flatten.length+x.length)*64≤140737488355328:=by omega
    refine .inl ⟨(.sl 0 (g+1) 0 ((xs.take i).flatten.length+x.length) false,[.row 6 (((xs.take i).flatten++x).map Evt.r) (g+1)]),?_,.inr ⟨g+1,_,by rw[hfl,wm],.inl hfl.symm⟩⟩
    rw[wQ]
    generalize (xs.take i).flatten=F at *
    simp only[qap,zgs,zgr,zgq,zgt,hx',hi',hw,qf,ok,hm,w1,w3,b,wg,qqk,qb,qaw,zgy,↓qc,↓wb,wa,wt]
 ·rintro a ha
  simp only[qap,wl,wg,zgy,↓qc,↓wb,wa]
  exact⟨_,rfl,a,ha,rfl,rfl,rfl,rfl⟩
theorem q5q (hx:xs.length≤1000000) (hT:xs.flatten.length≤1000000) (hne:xs ≠ []) :
  ∃g:Nat,(evL T).call qn [(.fsl ((xs).map qf) cl)] []=some (.sl 0 g 0 xs.flatten.length false,[.row 6 (xs.flatten.map Evt.r) g]):=by
 obtain⟨⟨y,e,σ⟩,k1,k2,k3,k4,k5,k6⟩:=qaov xs cl hx hT
 simp only at k1 k2 k3 k4 k5 k6
 subst k2;subst k4
 have hg:=grow_ev xs.flatten.length hT
 obtain⟨a,n,ha,hc,hn⟩ : ∃(a:AV×qj) (n:Nat),CInv xs 0 a∧(evL T).call qas [.fsl [] true,(ii xs.flatten.length)] []=some a∧a.2.length=n:=by
  by_cases h0:xs.flatten.length=0
  ·exact⟨_,_,.inl ⟨rfl,h0,rfl⟩,by rw[hg,if_pos h0],rfl⟩
  ·exact⟨(.sl 0 0 0 0 false,[.row 6 ((ww xs.flatten.length zEvt).map Evt.r) 0]),_,.inr ⟨0,_,rfl,.inr ⟨rfl,by omega⟩⟩,by rw[hg,if_neg h0],rfl⟩
 obtain⟨⟨y',e',σ'⟩,l1,b,hb,l2,l3,l4,l5⟩:=qaou xs cl hx hT a ha n
 simp only at l1 l2 l3 l4 l5
 subst l2;subst l4
 have hb' : ∃g:Nat,b=(.sl 0 g 0 xs.flatten.length false,[.row 6 (xs.flatten.map Evt.r) g]):=by
  rcases hb with ⟨h,_⟩|⟨g,W,rfl,hW⟩
  ·exact absurd (wC h) hne
  ·rw[wk]at hW⊢
   rcases hW with rfl|⟨h,h2⟩
   ·exact⟨g,rfl⟩
   ·rw[h]at h2;simp at h2
 obtain⟨g,rfl⟩:=hb'
 refine⟨g,?_⟩
 have himp:qjv (q3y 0) a.2=some a.2∧a.1.shift 0=a.1:=by
  rcases ha with ⟨_,_,rfl⟩|⟨g,W,rfl,_⟩
  ·exact⟨rfl,rfl⟩
  ·refine⟨?_,rfl⟩
   simp only[q3y,q0o,qafn,qle,qh,q3y,zgy,↓qc]
 obtain⟨i1,i2⟩:=himp
 rw[qd qls qlr]
 simp only[qcp,k1,k3,k5,k6,hc,hn,i1,i2,l1,l3,l5,qan,wg,qk,zgy,↓qc,↓qq,↓wb,wa,wI,wh]
theorem qami (cl:Bool):(evL T).call qn [.fsl [] cl] []=some (.fsl [] true,[]):=by
 cases cl
 ·exact q42 6 (by kernel_rfl)
 ·exact q42 6 (by kernel_rfl)
end
set_option maxRecDepth 10000
section
variable (l:List Evt) (c:Bool) (k:List Int) (d:Bool)
theorem qaly (x:Evt) (kx:x.key.length≤9223372036854775807) (kk:k.length≤9223372036854775807):(evL T).call qdo [(.agg [(ii x.time),(.fsl ((x.key).map qy) false),(ii x.lp),(ii x.kind),(ii x.proc),(ii x.arg)]),(.fptr [(.fsl ((k).map qy) d)])] []=some ((bb (decide (x.key=k))),[]):=by
 have h:=qz4 x.key k false d kx kk
 obtain⟨xt,xk,xl,xi,xp,xa⟩:=x
 simp only at h
 rw[qd q1k q0l]
 simp only[qnc,h,qg,wg,qb,wd,we,qk,ne_eq,zgy,↓qc,↓wb,wf,wa,wh]
theorem canIdx_L (hl:l.length≤1000000) (hk:qb0 l) (kk:k.length≤9223372036854775807) :
  ∃y,itB (exec (evL T) itL none qav) (qu [0,1,7,8] true 0) ⟨[(0,(.fsl ((l).map Evt.r) c)),(1,(.fn (.func qdo) [] [(.fptr [(.fsl ((k).map qy) d)])])),(7,(ii l.length)),(8,(ii 0))],[]⟩ []=some y ∧
   ((y.1 = .exit 0∧y.2.1.marks=[]∧y.2.2=[]∧qem l k=(l,false)) ∨
    ∃(i:Nat) (x:Evt),y.1 = .ret∧y.2.1.marks=[]∧y.2.2=[]∧wj y.2.1.vars 4=some (ii i)∧l[i]? = some x∧qem l k=(l.take i++l.drop (i+1),true)):=by
 have key:=qcq (f:=exec (evL T) itL none qav) (s:=qu [0,1,7,8] true 0) (α:=Unit)
  (fun i a=>⟨[(0,(.fsl ((l).map Evt.r) c)),(1,(.fn (.func qdo) [] [(.fptr [(.fsl ((k).map qy) d)])])),(7,(ii l.length)),(8,(ii i))],[]⟩) (fun i a=>[])
  (fun i a => ∀(j:Nat) (z:Evt),j<i→l[j]? = some z→¬z.key=k) l.length
  (fun y=>((y.1 = .exit 0∧y.2.1.marks=[]∧y.2.2=[]∧qem l k=(l,false)) ∨
    ∃(i:Nat) (x:Evt),y.1 = .ret∧y.2.1.marks=[]∧y.2.2=[]∧wj y.2.1.vars 4=some (ii i)∧l[i]? = some x∧qem l k=(l.take i++l.drop (i+1),true))) ?_ ?_ 0 () (ws _) (fun j z h=>by omega)
 ·exact key
 ·rintro i _ hi hinv
  obtain⟨x,hx⟩ : ∃x,l[i]? = some x:=⟨_,zgE hi⟩
  have hi':(i:Int)<(l.length:Int):=by omega
  have hw:IntKind.i64.wrap ((i:Int)+1)=((i+1:Nat):Int):=qqh (by omega)
  have hc:=qaly k d x (hk x (zmg hx)) kk
  by_cases hxk:x.key=k
  ·have hE:=qaij l k hx hxk hinv
   rw[decide_eq_true hxk]at hc
   refine .inr ?_
   generalize qem l k=R at *
   have hx':=hx
   clear hinv hxk
   obtain⟨xt,xk,xl,xi,xp,xa⟩:=x
   simp only at hc
   simp only[qav,zgs,zgr,zgq,zgt,hx,hi',hc,Evt.r,wg,qb,zgy,↓qc,↓wb,wf,wa,wh]
   exact⟨_,rfl,.inr ⟨i,_,rfl,rfl,rfl,rfl,hx',hE⟩⟩
  ·refine .inl ⟨(),?_,fun j z hj hz => ?_⟩
   ·rw[decide_eq_false hxk]at hc
    clear hinv
    obtain⟨xt,xk,xl,xi,xp,xa⟩:=x
    simp only at hc
    simp only[qav,zgs,zgr,zgq,zgt,hx,hi',hw,hc,Evt.r,qh,qg,wg,qb,zgy,↓qc,↓wb,wf,wa,wh]
   ·rcases Nat.lt_or_ge j i with h1|h1
    ·exact hinv j z h1 hz
    ·have:j=i:=by omega
     subst this
     rw[hx]at hz;cases hz;exact hxk
 ·rintro _ hinv
  have hE:=qac0 l k fun x hx=>by
   obtain⟨j,hj⟩:=wn.1 hx
   exact hinv j x (zei.1 hj).1 hj
  generalize qem l k=R at *
  simp only[qav,wl,wg,zgy,↓qc,↓wb,wa,wh]
  exact⟨_,rfl,.inl ⟨rfl,rfl,rfl,hE⟩⟩
theorem qanq (hl:l.length≤1000000) (hk:qb0 l) (kk:k.length≤9223372036854775807) :
  ∃z:Int,(evL T).call qaq [(.fsl ((l).map Evt.r) c),(.fn (.func qdo) [] [(.fptr [(.fsl ((k).map qy) d)])])] []=some ((ii z),[])∧((z = -1∧qem l k=(l,false)) ∨ ∃(i:Nat) (x:Evt),z=i∧l[i]? = some x∧qem l k=(l.take i++l.drop (i+1),true)):=by
 obtain⟨⟨y,e,σ⟩,h1,h⟩:=canIdx_L l c k d hl hk kk
 rw[qd qkv qka]
 rcases h with ⟨h2,h3,h4,h5⟩|⟨i,x,h2,h3,h4,h5,h6,h7⟩<;>simp only at h2 h3 h4<;>subst h2<;>subst h4
 ·refine⟨-1,?_,.inl ⟨rfl,h5⟩⟩
  simp only[qbb,h1,h3,qh,qg,wg,qk,zgy,↓qc,↓qq,↓wb,wf,wa,Int.reduceNeg,wh]
 ·refine⟨i,?_,.inr ⟨i,x,rfl,h6,h7⟩⟩
  simp only at h5
  simp only[qbb,h1,h3,h5,qh,qg,wg,qk,zgy,↓qc,↓qq,↓wb,wf,wa,Int.reduceNeg,wh]
theorem q7m (hl:l.length≤1000000) (hk:qb0 l) (kk:k.length≤9223372036854775807) (hc0:l ≠ []→c=false) :
  ∃cf:Bool,((qem l k).1 ≠ []→cf=false)∧qm (evL T) qig [(.fsl ((l).map Evt.r) c),(.fsl ((k).map qy) d)]=some (.tup [(.fsl (((qem l k).1).map Evt.r) cf),(bb ((qem l k).2))]):=by
 obtain⟨z,h1,h⟩:=qanq l c k false hl hk kk
 rcases h with ⟨rfl,h2⟩|⟨i,x,rfl,hx,h2⟩
 ·rw[h2]
  refine⟨c,hc0,?_⟩
  rw[qm,qd qvd qt7]
  simp only[qmz,h1,qh,wg,wd,wK,we,qk,ne_eq,zgy,↓qc,↓wb,wf,wa,Int.reduceLT,Int.reduceNeg,wh]
 ·rw[h2]
  obtain⟨hi,_⟩:=zei.1 hx
  obtain rfl:c=false:=hc0 (by intro h;subst h;simp at hi)
  refine⟨false,fun _=>rfl,?_⟩
  have c0:¬(i:Int)<0:=by omega
  have c1:(i:Int)≤(l.length:Int):=by omega
  have c2:(0:Int)≤(i:Int):=by omega
  have c3:((i+1:Nat):Int)≤(l.length:Int):=by omega
  have c4:(0:Int)≤((i+1:Nat):Int):=by omega
  have hw:IntKind.i64.wrap ((i:Int)+1)=((i+1:Nat):Int):=qqh (by omega)
  obtain⟨g,hcc⟩:=q5q [l.take i,l.drop (i+1)] true (by simp) (by simp;omega) (by simp)
  simp only[List.flatten_cons,List.flatten_nil,zgn,wD,wp,qf]at hcc
  have tk:wH i (l.map Evt.r)=(l.take i).map Evt.r:=by rw[List.map_take]
  have dr:List.drop (i+1) (l.map Evt.r)=(l.drop (i+1)).map Evt.r:=by rw[List.map_drop]
  have tb:wH (l.length-(i+1)) ((l.drop (i+1)).map Evt.r)=(l.drop (i+1)).map Evt.r:=ztl (by simp)
  have okl:=qgi l
  have htk : ∀R:List Evt,(R.map Evt.r).take R.length=R.map Evt.r:=fun R=>ztl (by simp)
  have htk2:wH ((l.take i).length+(l.drop (i+1)).length) ((l.take i++l.drop (i+1)).map Evt.r)=(l.take i++l.drop (i+1)).map Evt.r:=ztl (by rw[List.length_map,wm];exact wv _)
  rw[qm,qd qvd qt7]
  simp only[qmz,zgr,h1,htk2,c0,c1,c2,c3,c4,hw,hcc,tk,dr,tb,okl,wN,Nat.sub_zero,zgg,imp_self,show ∀v:List AV,ww 2 v=[v,v] from fun _=>rfl,Int.toNat_zero,qh,wg,q3y,wd,wK,we,qk,ne_eq,zgy,implies_true,↓qc,↓wb,wf,wa,wE,wI,wc,wt,wh]
end
set_option maxRecDepth 10000
section
variable {c:Cfg} {s:Sim} {h:List Evt}
theorem qq0 (h:List Evt) (e:Evt) (i:Nat):qao (h++[e]) i=if e.lp=i then qao h i++[e]else qao h i:=by
 unfold qao
 rw[List.filter_append,List.filter_cons,List.filter_nil]
 by_cases k:e.lp=i
 ·rw[if_pos k,if_pos (by simpa using k)]
 ·rw[if_neg k,if_neg (by simpa using k),wR]
theorem badP_iff {c:Cfg} {q:Pr} (h:badP c q=false):0≤q.prog∧q.prog<c.progs.length∧0≤q.pc∧q.pc≤((c.progs[q.prog.toNat]?).getD []).length:=by
 simp only[badP,Bool.not_eq_false',wq,decide_eq_true_eq]at h
 omega
theorem SInvK.stepP (H:SInvK c s h) {e:Evt} {rest P T:List Evt} (ov:Bool) (hp:s.pend.Perm (e::rest)) (hn:h.length≤20000) (hP:(P++T).Perm (rest++(qa4 c (qn1 s e.lp) e).out)) :
  SInvK c ⟨s.trace.set e.lp.toNat (qjx s e.lp++[e]),s.lps.set e.lp.toNat (qa4 c (qn1 s e.lp) e).lp,P,s.n+1,ov⟩ (h++[e]):=by
 have hme:e∈s.pend:=hp.mem_iff.2 (by simp)
 obtain⟨x,hx,hlx,R⟩:=H.headM hme hn
 have hkn:=H.keyNeP hp hn
 have ge:=H.ev e (wo _ hme)
 have hxl:=H.lp x (zmg hx)
 obtain⟨X,oX,o1,o2⟩:=R.outs
 obtain⟨z1,_,z3,_,_,_⟩:=R.sizes
 obtain⟨t1,t2⟩:=R.tims (B:=2+(h.length+1)) (by have:=ge.key;omega) (fun q hq=>by have:=(hxl.2 q hq).2.2.2.2;omega)
 obtain⟨st1,st2⟩:=R.state
 rw[hlx]at hkn hP
 have hmem : ∀b,b∈P→b∈rest∨b∈(qa4 c x e).out:=fun b hb=>wx.1 (hP.mem_iff.1 (wB _ hb))
 have hlpn:e.lp.toNat<c.lps.length:=by have:=ge.lp;omega
 have hout : ∀b∈(qa4 c x e).out,∃k,EvOk c e X k b:=fun b hb=>by
  obtain⟨k,hk⟩:=wn.1 hb
  exact⟨k,o1 k b hk⟩
 have rpe : ∀b∈rest,b∈s.pend:=fun b hb=>hp.mem_iff.2 (List.mem_cons_of_mem _ hb)
 have rev : ∀b∈rest,b∈h++s.pend:=fun b hb=>wo _ (rpe b hb)
 have evOut : ∀b∈(qa4 c x e).out,EvG c (h.length+1) b:=fun b hb=>by
  obtain⟨k,a1,⟨m,hm,_⟩,a3,a4⟩:=hout b hb
  obtain⟨u1,u2⟩:=t1 b hb
  have hkl:b.key.length=e.key.length+1:=by rw[hm];simp
  by_cases k3:b.kind=3
  ·obtain⟨c1,c2,_⟩:=a3 k3
   exact⟨⟨c1,c2⟩,by have:=ge.time;omega,by have:=ge.key;omega,by rw[u1 k3];omega,fun k2=>by omega⟩
  ·obtain⟨c1,c2,c3,c4⟩:=a4 k3
   rw[oX]at c3
   refine⟨by rw[c1];exact ge.lp,by have:=ge.time;omega,by have:=ge.key;omega,by omega,fun k2 => ?_⟩
   obtain⟨q,p,_,hpp,_,d1,d2⟩:=u2 k2
   have:=(H.valid.prog p (zmg hpp)).2.1
   omega
 have newProg : ∀(j:Nat) (q:Pr),x.procs[j]? = some q → ∃q',(qa4 c x e).lp.procs[j]? = some q'∧q'.prog=q.prog:=fun j q hq=>by
  have hj:=(zei.1 hq).1
  obtain⟨q',hq'⟩ : ∃q',(qa4 c x e).lp.procs[j]? = some q':=⟨_,zgE (by omega)⟩
  exact⟨q',hq',((st2 j q' hq').2.2 q hq).1⟩
 have setSelf:(s.lps.set e.lp.toNat (qa4 c x e).lp)[e.lp.toNat]? = some (qa4 c x e).lp:=wu (by rw[H.lpl];exact hlpn)
 rw[hlx]
 refine⟨H.valid,by show s.n+1 = _;rw[H.n];simp,by show (s.trace.set _ _).length = _;rw[List.length_set];exact H.trl,?_,by show (s.lps.set _ _).length = _;rw[List.length_set];exact H.lpl,?_,?_,?_,?_,?_,?_,?_,?_⟩
 ·intro i hi
  show (s.trace.set e.lp.toNat (qjx s e.lp++[e]))[i]? = _
  rw[qq0]
  by_cases k:e.lp=i
  ·have:e.lp.toNat=i:=by omega
   rw[if_pos k,this,wu (by rw[H.trl];exact hi)]
   unfold qjx
   rw[this,H.tr i hi];rfl
  ·rw[if_neg k,wA (by have:=ge.lp;omega)];exact H.tr i hi
 ·intro y hy
  rw[wm]
  rcases List.mem_or_eq_of_mem_set hy with hy|rfl
  ·have:=H.lp y hy
   exact⟨this.1,fun q hq=>by obtain⟨a,b,d,f,g⟩:=this.2 q hq;exact⟨a,b,d,f,by omega⟩⟩
  ·refine⟨z1,fun q hq => ?_⟩
   obtain⟨j,hj⟩:=wn.1 hq
   obtain⟨a,b,d,f⟩:=badP_iff (st2 j q hj).1
   exact⟨a,b,d,f,t2 q hq⟩
 ·show qqp ((h++[e])++P)
  have:=qqp.perm hkn (hP.append_left (h++[e]))
  exact wM ((List.sublist_append_left P T).append_left _) this
 ·intro b hb
  rw[wm]
  rcases wx.1 hb with hb|hb
  ·refine(H.ev b ?_).mono (by simp)
   rcases wx.1 hb with hb|hb
   ·exact wB _ hb
   ·rw[wJ]at hb;subst hb;exact wo _ hme
  ·rcases hmem b hb with hb|hb
   ·exact(H.ev b (rev b hb)).mono (by simp)
   ·exact evOut b hb
 ·intro b hb hk
  show ∃x' q p,(s.lps.set e.lp.toNat (qa4 c x e).lp)[b.lp.toNat]? = some x' ∧ _
  rcases hmem b hb with hb|hb
  ·obtain⟨x',q,p,h1,h2,h3,h4⟩:=H.tim b (rpe b hb) hk
   by_cases k:e.lp.toNat=b.lp.toNat
   ·rw[←k]at h1;rw[hx]at h1;cases h1
    obtain⟨q',g1,g2⟩:=newProg _ q h2
    exact⟨_,q',p,by rw[←k];exact setSelf,g1,by rw[g2];exact h3,h4⟩
   ·exact⟨x',q,p,by rw[wA k];exact h1,h2,h3,h4⟩
  ·obtain⟨k,_,_,_,a4⟩:=hout b hb
   obtain⟨c1,_⟩:=a4 (by omega)
   obtain⟨q,p,g1,g2,g3,g4⟩:=(t1 b hb).2 hk
   obtain⟨q',g5,g6⟩:=newProg _ q g1
   exact⟨_,q',p,by rw[c1];exact setSelf,by rw[g3];exact g5,by rw[g6];exact g2,g4⟩
 ·intro b hb
  have old:b∈h++s.pend→b.key.length=2 ∨ ∃p∈h++[e],∃m,b.key=p.key++[m]∧p.time<b.time:=fun hb=>by
   rcases H.par b hb with g|⟨p,g1,g2⟩
   ·exact .inl g
   ·exact .inr ⟨p,wB _ g1,g2⟩
  rcases wx.1 hb with hb|hb
  ·refine old ?_
   rcases wx.1 hb with hb|hb
   ·exact wB _ hb
   ·rw[wJ]at hb;subst hb;exact wo _ hme
  ·rcases hmem b hb with hb|hb
   ·exact old (rev b hb)
   ·obtain⟨k,a1,⟨m,hm,_⟩,_⟩:=hout b hb
    exact .inr ⟨e,by simp,m,hm,a1.1⟩
 ·show P.length ≤ _
  have h1:=hP.length_eq
  have h2:=H.len
  rw[hp.length_eq]at h2
  simp only[zgp,zga,zgb]at h1 h2⊢
  omega
 ·intro i hi
  show (s.lps.set e.lp.toNat (qa4 c x e).lp)[i]? = _
  rw[qq0]
  by_cases k:e.lp=i
  ·have hki:e.lp.toNat=i:=by omega
   have hr:=H.rep i hi
   rw[←hki,hx,hki]at hr
   rw[if_pos k]
   unfold qan5 at hr⊢
   rw[List.foldl_append,List.foldl_cons,List.foldl_nil,←Option.some.inj hr]
   have:=setSelf;rw[hki]at this ⊢;exact this
  ·rw[if_neg k,wA (by have:=ge.lp;omega)];exact H.rep i hi
 ·intro i hi k b hb
  rw[qq0]at hb⊢
  by_cases hl:e.lp=i
  ·rw[if_pos hl]at hb⊢
   by_cases hk:k<(qao h i).length
   ·rw[wi hk]at hb
    rw[List.take_append_of_le_length (by omega)]
    exact H.rdy i hi k b hb
   ·have hk2:=(zei.1 hb).1
    simp at hk2
    obtain rfl:k=(qao h i).length:=by omega
    simp at hb
    subst hb
    rw[List.take_append_of_le_length (wv _),wk]
    have hr:=H.rep i hi
    have hki:e.lp.toNat=i:=by omega
    rw[←hki,hx,hki]at hr
    rw[←Option.some.inj hr]
    exact R
  ·rw[if_neg hl]at hb⊢
   exact H.rdy i hi k b hb
end
set_option maxRecDepth 10000
theorem qaj1 (lps:List (List Start)):qqp (qg6 lps):=by
 have ne : ∀ {k k' i i':Nat} {s s':Start},(qjy k i s).key=(qjy k' i' s').key→k=k'∧i=i':=by
  intro k k' i i' s s' h
  simp only[qjy,wL,and_true]at h
  omega
 unfold qqp qg6
 rw[List.pairwise_flatten]
 constructor
 ·intro r hr
  obtain⟨k,hk⟩:=wn.1 hr
  rw[wO]at hk
  cases hl:lps[k]? with
  |none=>rw[hl]at hk;cases hk
  |some l=>
   rw[hl]at hk;cases hk
   rw[wz]
   intro i j hi hj hij h
   simp only[qk7,wP]at h
   have:=(ne h).2;omega
 ·rw[wz]
  intro k k' hk hk' hkk x hx y hy h
  simp only[wP]at hx hy
  obtain⟨i,s,_,rfl⟩:=qwi hx
  obtain⟨i',s',_,rfl⟩:=qwi hy
  have:=(ne h).1;omega
section
variable {c:Cfg}
theorem qagy (c:Cfg):(start c).lps=(qaan c.lps).map fun ps=>(⟨0,0,ps,0⟩:Lp):=by
 simp only[start,qhf,List.map_map];rfl
theorem SInv.start (hv:Valid c):SInv c (start c) []:=by
 have hm : ∀e∈sortL (qg6 c.lps),e∈qg6 c.lps:=fun e he=>(qc8 _).mem_iff.1 he
 have hv1:=hv.lps
 refine⟨⟨hv,rfl,by simp[K.start],fun i hi => ?_,by rw[qagy];simp[qaan],?_,?_,?_,?_,?_,?_,?_,fun i hi k e he=>by simp[qao]at he⟩,qg5 _,.nil,fun a ha=>by simp at ha,fun e he=>by simp at he⟩
 ·simp[K.start,qao,hi]
 ·intro x hx
  rw[qagy,List.mem_map]at hx
  obtain⟨ps,hps,rfl⟩:=hx
  simp only[qaan,List.mem_map]at hps
  obtain⟨l,hl,rfl⟩:=hps
  refine⟨by have:=hv.lp l hl;simp;omega,fun q hq => ?_⟩
  simp only[List.mem_map]at hq
  obtain⟨st,hst,rfl⟩:=hq
  obtain⟨a,b,_⟩:=hv.start l hl st hst
  exact⟨a,b,by simp[stP],by simp[stP],by simp[stP]⟩
 ·rw[List.nil_append];exact qqp.perm (qaj1 _) (qc8 _)
 ·intro e he
  rw[List.nil_append]at he
  obtain⟨k,l,i,s,h1,h2,rfl⟩:=q5g (hm e he)
  have k1:=(zei.1 h1).1
  have k2:=(zei.1 h2).1
  have k3:=hv.lp l (zmg h1)
  obtain⟨a,b,d,f⟩:=hv.start l (zmg h1) s (zmg h2)
  exact⟨by simp only[qjy];omega,⟨d,f⟩,by simp[qjy],by simp only[qjy];omega,fun hk=>by simp[qjy]at hk⟩
 ·intro e he hk
  obtain⟨k,l,i,s,h1,h2,rfl⟩:=q5g (hm e he)
  simp[qjy]at hk
 ·intro e he
  rw[List.nil_append]at he
  obtain⟨k,l,i,s,h1,h2,rfl⟩:=q5g (hm e he)
  exact .inl (by simp[qjy])
 ·show (sortL _).length ≤ _
  rw[(qc8 _).length_eq]
  have:=qaii (lps:=c.lps) (m:=8) (fun l hl=>hv.lp l hl)
  simp only[zgb];omega
 ·intro i hi
  show ((qhf c.lps).map Prod.fst)[i]? = _
  have:i<((qhf c.lps).map Prod.fst).length:=by simp[qhf,qaan];exact hi
  rw[zgE this];rfl
variable {s:Sim} {h:List Evt}
end
set_option maxRecDepth 10000
structure WSt where
 lp:Lp
 box:List Evt
 done:List Evt
 sent:List Evt
 over:Bool
def qqu (i:Int) (p:List Evt×List Evt) (n:Evt):List Evt×List Evt:=if n.lp=i then (sortL (n::p.1),p.2)else (p.1,p.2++[n])
def qdq (i:Int) (p:List Evt×List Evt) (l:List Evt):List Evt×List Evt:=l.foldl (qqu i) p
def q0r (b:List Evt) (g:List (List Int)):List Evt:=g.foldl (fun b k=>(qem b k).1) b
def WSt.step (c:Cfg) (w:WSt) (e:Evt) (rest:List Evt):WSt:=
 ⟨(qa4 c w.lp e).lp,q0r (qdq e.lp (rest,w.sent) (qa4 c w.lp e).out).1 (qa4 c w.lp e).gone,w.done++[e],(qdq e.lp (rest,w.sent) (qa4 c w.lp e).out).2,w.over||(qa4 c w.lp e).over⟩
def WSt.run (c:Cfg) (hor:Int):Nat→WSt→WSt
 | 0,w=>w
 |k+1,w=>match w.box with
  | []=>w
  |e::rest=>if e.time<hor then WSt.run c hor k (w.step c e rest)else w
theorem qaix (l:List Evt) (k:List Int):(qem l k).1.Sublist l:=List.eraseP_sublist
theorem qali (b:List Evt) (k:List Int) (g:List (List Int)):q0r b (k::g)=q0r (qem b k).1 g:=rfl
theorem qaew (b:List Evt) (k:List Int) (g:List (List Int)):q0r b (g++[k])=(qem (q0r b g) k).1:=by unfold q0r;rw[List.foldl_append];rfl
theorem qtg : ∀(g:List (List Int)) (b:List Evt),(q0r b g).Sublist b
 | [],b=>List.Sublist.refl _
 |k::g,b=>by rw[qali];exact(qtg g _).trans (qaix b k)
theorem qajk (i:Int) (p:List Evt×List Evt) (n:Evt) (l:List Evt):qdq i p (n::l)=qdq i (qqu i p n) l:=rfl
theorem qacd (i:Int) (p:List Evt×List Evt) (n:Evt) (l:List Evt):qdq i p (l++[n])=qqu i (qdq i p l) n:=by unfold qdq;rw[List.foldl_append];rfl
theorem qabm (i:Int) (p:List Evt×List Evt) (n:Evt) (l:List Evt):((qqu i p n).1++((qqu i p n).2++l)).Perm (p.1++(p.2++n::l)):=by
 unfold qqu
 split
 ·refine((qc8 (n::p.1)).append_right _).trans ?_
  have h:=(List.perm_middle (a:=n) (l₁:=p.1++p.2) (l₂:=l)).symm
  rw[wr,wr]at h
  rw[List.cons_append];exact h
 ·show (p.1++((p.2++[n])++l)).Perm _
  rw[wr];exact .refl _
theorem qt6 (i:Int) : ∀(l:List Evt) (p:List Evt×List Evt) (m:List Evt),((qdq i p l).1++((qdq i p l).2++m)).Perm (p.1++(p.2++(l++m)))
 | [],p,m => .refl _
 |n::l,p,m=>(qt6 i l (qqu i p n) m).trans (qabm i p n (l++m))
theorem q4f (i:Int) : ∀(l:List Evt) (p:List Evt×List Evt),p.1.Pairwise leE→(qdq i p l).1.Pairwise leE
 | [],p,h=>h
 |n::l,p,h=>q4f i l _ (by unfold qqu;split;exact qg5 _;exact h)
theorem qaes (i:Int) : ∀(l:List Evt) (p:List Evt×List Evt),(∀b∈p.1,b.lp=i) → ∀b∈(qdq i p l).1,b.lp=i
 | [],p,h=>h
 |n::l,p,h=>qaes i l _ (by
  unfold qqu;split
  ·intro b hb
   rcases List.mem_cons.1 ((qc8 _).mem_iff.1 hb)with rfl|hb
   ·assumption
   ·exact h b hb
  ·exact h)
theorem q3v (i:Int) : ∀(l:List Evt) (p:List Evt×List Evt),(qdq i p l).2=p.2++l.filter (fun n => !decide (n.lp=i))
 | [],p=>by simp[qdq]
 |n::l,p=>by
  rw[qajk,q3v i l]
  unfold qqu
  by_cases h:n.lp=i
  ·rw[if_pos h,List.filter_cons,if_neg (by simp[h])]
  ·rw[if_neg h,List.filter_cons,if_pos (by simp[h])];simp
structure PlOk (p:List Evt×List Evt) (l:List Evt):Prop where
 sorted:p.1.Pairwise leE
 keys:qqp (p.1++(p.2++l))
 len:(p.1++(p.2++l)).length≤1000000
 ok:qb0 (p.1++(p.2++l))
theorem PlOk.next {p:List Evt×List Evt} {n:Evt} {l:List Evt} (i:Int) (h:PlOk p (n::l)):PlOk (qqu i p n) l:=by
 have hp:=qabm i p n l
 refine⟨?_,qqp.perm h.keys hp,by rw[hp.length_eq];exact h.len,fun x hx=>h.ok x (hp.mem_iff.1 hx)⟩
 unfold qqu;split
 ·exact qg5 _
 ·exact h.sorted
theorem PlOk.at (i:Int) : ∀ {l:List Evt} {p:List Evt×List Evt} (h:PlOk p l) (j:Nat),PlOk (qdq i p (l.take j)) (l.drop j)
 | [],p,h,j=>by simpa[qdq]using h
 |n::l,p,h,0=>h
 |n::l,p,h,j+1=>PlOk.at i (h.next i) j
theorem PlOk.ins {p:List Evt×List Evt} {n:Evt} {l:List Evt} (h:PlOk p (n::l)):p.1.length≤1000000∧qb0 p.1∧n.key.length≤9223372036854775807∧p.1.Pairwise leE∧qys (n::p.1):=by
 refine⟨by have:=h.len;rw[wm]at this;omega,fun x hx=>h.ok x (by simp[hx]),h.ok n (by simp),h.sorted,?_⟩
 have hs:(p.1++[n]).Sublist (p.1++(p.2++n::l)):=List.Sublist.append_left ((List.singleton_sublist.2 (by simp))) p.1
 exact(qqp.dist (wM hs h.keys)).perm (List.perm_append_singleton n p.1).symm
structure WInv (c:Cfg) (i:Nat) (w:WSt) (O:List Evt) (S:Sim) (H:List Evt):Prop where
 K:SInvK c S H
 il:i<c.lps.length
 lp:S.lps[i]? = some w.lp
 sub : ∃T,(w.box++(w.sent++(O++T))).Perm S.pend
 sorted:w.box.Pairwise leE
 own : ∀b∈w.box,b.lp=i
section
variable {c:Cfg} {i:Nat} {w:WSt} {O:List Evt} {S:Sim} {H:List Evt}
theorem WInv.mem (h:WInv c i w O S H) {e:Evt} (he:e∈w.box∨e∈w.sent∨e∈O):e∈S.pend:=by
 obtain⟨T,hT⟩:=h.sub
 refine hT.mem_iff.1 ?_
 rcases he with he|he|he<;>simp[he]
theorem WInv.ready (h:WInv c i w O S H) (hn:H.length≤20000) {e:Evt} {rest:List Evt} (hb:w.box=e::rest):e.lp=i∧Ready c w.lp e∧qn1 S e.lp=w.lp:=by
 have h1:=h.own e (by rw[hb];simp)
 obtain⟨x,hx,hl,R⟩:=h.K.headM (h.mem (e:=e) (.inl (by rw[hb];simp))) hn
 rw[h1,Int.toNat_natCast,h.lp]at hx
 cases hx
 exact⟨h1,R,hl⟩
theorem WInv.len (h:WInv c i w O S H):w.box.length+(w.sent.length+O.length)≤64+16*H.length:=by
 obtain⟨T,hT⟩:=h.sub
 have:=hT.length_eq
 have:=h.K.len
 simp only[zgp]at *
 omega
theorem WInv.keyLen (h:WInv c i w O S H) {e:Evt} (he:e∈w.box∨e∈w.sent∨e∈O):e.key.length≤2+H.length:=(h.K.ev e (wo _ (h.mem he))).key.2
theorem WInv.plOk (h:WInv c i w O S H) (hn:H.length≤20000) {e:Evt} {rest:List Evt} (hb:w.box=e::rest):PlOk (rest,w.sent) (qa4 c w.lp e).out:=by
 obtain⟨h1,R,hl⟩:=h.ready hn hb
 obtain⟨T,hT⟩:=h.sub
 rw[hb]at hT
 have hk:=h.K.keyNeP hT.symm hn
 rw[hl]at hk
 have hk2:=(List.pairwise_append.1 hk).2.1
 have hsub:(rest++(w.sent++(qa4 c w.lp e).out)).Sublist (rest++(w.sent++(O++T))++(qa4 c w.lp e).out):=by
  rw[wr]
  refine List.Sublist.append_left ?_ rest
  rw[wr]
  exact List.Sublist.append_left (List.sublist_append_right _ _) _
 have hl1:=h.len
 have hz:=R.sizes
 rw[hb]at hl1
 refine⟨?_,wM hsub hk2,?_,?_⟩
 ·have:=h.sorted;rw[hb,List.pairwise_cons]at this;exact this.2
 ·simp only[zgp,zga]at hl1 ⊢;omega
 ·intro x hx
  simp only[wx]at hx
  rcases hx with hx|hx|hx
  ·have:=h.keyLen (e:=x) (.inl (by rw[hb];simp[hx]));omega
  ·have:=h.keyLen (e:=x) (.inr (.inl hx));omega
  ·have:=hz.2.2.2.1 x hx;omega
theorem WInv.step2 (h:WInv c i w O S H) (hn:H.length≤20000) {e:Evt} {rest:List Evt} (hb:w.box=e::rest) {T:List Evt} (hp:S.pend.Perm (e::(rest++(w.sent++(O++T))))) :
  ∃S':Sim,WInv c i (w.step c e rest) O S' (H++[e])∧S'.lps=S.lps.set i (w.step c e rest).lp∧S'.pend=rest++(w.sent++(O++T))++(qa4 c w.lp e).out:=by
 obtain⟨h1,R,hl⟩:=h.ready hn hb
 have hK:=h.K.stepP (P:=rest++(w.sent++(O++T))++(qa4 c w.lp e).out) (T:=[]) false hp hn (by rw[hl,wR])
 rw[hl]at hK
 have hi:e.lp.toNat=i:=by omega
 refine⟨_,⟨hK,h.il,?_,?_,?_,?_⟩,by rw[hi];rfl,rfl⟩
 ·show (S.lps.set e.lp.toNat (qa4 c w.lp e).lp)[i]? = _
  rw[hi,wu (by rw[h.K.lpl];exact h.il)];rfl
 ·show ∃T',(q0r (qdq e.lp (rest,w.sent) (qa4 c w.lp e).out).1 (qa4 c w.lp e).gone++((qdq e.lp (rest,w.sent) (qa4 c w.lp e).out).2++(O++T'))).Perm (rest++(w.sent++(O++T))++(qa4 c w.lp e).out)
  have hs:=qtg (qa4 c w.lp e).gone (qdq e.lp (rest,w.sent) (qa4 c w.lp e).out).1
  have hpl:=qt6 e.lp (qa4 c w.lp e).out (rest,w.sent) (O++T)
  generalize (qdq e.lp (rest,w.sent) (qa4 c w.lp e).out).1=B at *
  generalize (qdq e.lp (rest,w.sent) (qa4 c w.lp e).out).2=Z at *
  generalize q0r B (qa4 c w.lp e).gone=B' at *
  obtain⟨D,hD⟩ : ∃D,(B'++D).Perm B:=by
   clear hpl hK
   induction hs with
   |slnil=>exact⟨[],.refl _⟩
   |cons a _ ih=>obtain⟨D,hD⟩:=ih;exact⟨a::D,List.perm_middle.trans (hD.cons a)⟩
   |cons_cons a _ ih=>obtain⟨D,hD⟩:=ih;exact⟨D,hD.cons a⟩
  refine⟨D++T,?_⟩
  have e1:(B'++(Z++(O++(D++T)))).Perm ((B'++D)++(Z++(O++T))):=by
   rw[wr]
   refine List.Perm.append_left B' ?_
   have:(Z++(O++(D++T)))=(Z++O)++(D++T):=by simp
   rw[this]
   refine(List.perm_append_comm_assoc (Z++O) D T).trans ?_
   simp
  refine e1.trans ((hD.append_right _).trans (hpl.trans ?_))
  simp only[wr]
  refine List.Perm.append_left rest (List.Perm.append_left w.sent ?_)
  refine(List.perm_append_comm (l₁:=(qa4 c w.lp e).out) (l₂:=O++T)).trans ?_
  simp
 ·have hs:=qtg (qa4 c w.lp e).gone (qdq e.lp (rest,w.sent) (qa4 c w.lp e).out).1
  refine wM hs (q4f _ _ _ ?_)
  have:=h.sorted;rw[hb,List.pairwise_cons]at this;exact this.2
 ·intro b hbm
  have hs:=qtg (qa4 c w.lp e).gone (qdq e.lp (rest,w.sent) (qa4 c w.lp e).out).1
  have:=qaes e.lp (qa4 c w.lp e).out (rest,w.sent) (fun b hb'=>by rw[h1];exact h.own b (by rw[hb];simp[hb'])) b (hs.subset hbm)
  rw[this,h1]
theorem WInv.step (h:WInv c i w O S H) (hn:H.length≤20000) {e:Evt} {rest:List Evt} (hb:w.box=e::rest) :
  ∃S':Sim,WInv c i (w.step c e rest) O S' (H++[e])∧S'.lps=S.lps.set i (w.step c e rest).lp:=by
 obtain⟨T,hT⟩:=h.sub
 obtain⟨S',g1,g2,_⟩:=h.step2 hn hb (T:=T) (by rw[hb]at hT;exact hT.symm)
 exact⟨S',g1,g2⟩
end
set_option maxRecDepth 10000
def q5s (a b:Int):Int:=if b<a then b else a
def qrp (bs:List (List Evt)):List Int:=(bs.filterMap List.head?).map Evt.time
def qrr (bs:List (List Evt)):Option Int:=match qrp bs with
 | []=>none
 |x::r=>some (r.foldl q5s x)
theorem qaja (bs:List (List Evt)) (b:List Evt):qrp (bs++[b])=qrp bs++(b.head?.map Evt.time).toList:=by
 unfold qrp
 rw[List.filterMap_append,wQ]
 cases b<;>simp
theorem qaei (bs:List (List Evt)):(qrp bs).length≤bs.length:=by
 unfold qrp;rw[List.length_map];exact List.length_filterMap_le _ _
theorem min_ev (x:Int) (r:List Int) (c:Bool) (h:r.length≤1000):qm (evL T) qep [(.fsl ((x::r).map qy) c)]=some (ii (r.foldl q5s x)):=by
 have hL : ∃y,itB (exec (evL T) itL none qf8) (qu [0,3,4] true 0) ⟨[(0,(.fsl ((x::r).map qy) c)),(3,(ii x)),(4,(ii ((1:Nat))))],[]⟩ []=some y∧(y.1 = .exit 0∧y.2.1.marks=[]∧y.2.2=[]∧wj y.2.1.vars 3=some (ii (r.foldl q5s x))):=by
  have key:=qcq (f:=exec (evL T) itL none qf8) (s:=qu [0,3,4] true 0) (α:=Int)
   (fun i a=>⟨[(0,(.fsl ((x::r).map qy) c)),(3,(ii a)),(4,(ii (i+1:Nat)))],[]⟩) (fun _ _=>[]) (fun i a=>a=(r.take i).foldl q5s x) r.length
   (fun y=>y.1 = .exit 0∧y.2.1.marks=[]∧y.2.2=[]∧wj y.2.1.vars 3=some (ii (r.foldl q5s x))) ?_ ?_ 0 x (ws _) rfl
  ·exact key
  ·rintro i a hi rfl
   obtain⟨v,hv⟩ : ∃v,r[i]? = some v:=⟨_,zgE hi⟩
   have hi':((i+1:Nat):Int)<((r.length+1:Nat):Int):=by omega
   have hw:IntKind.i64.wrap (((i+1:Nat):Int)+1)=((i+1+1:Nat):Int):=by rw[qi (by omega) (by omega)];simp
   refine .inl ⟨q5s ((r.take i).foldl q5s x) v,?_,?_⟩
   ·simp only[qf8,zgs,zgr,zgq,zgt,q5s,qy,wD,hv,hi',hw,qg,wg,qb,zgy,↓qc,↓wb,wa,wh]
   ·rw[List.take_add_one,hv,List.foldl_append];rfl
  ·rintro a rfl
   rw[wk]
   simp only[qf8,qy,wD,wl,wg,zgy,↓qc,↓wb,wa,wh]
   exact⟨_,rfl,rfl,rfl,rfl,rfl⟩
 obtain⟨⟨y,e,σ⟩,k1,k2,k3,k4,k5⟩:=hL
 simp only at k2 k3 k4 k5
 subst k2;subst k4
 simp only[wD,qy]at k1
 have c0:¬((r.length+1:Nat):Int)<1:=by omega
 have e1:((1:Nat):Int)=1:=rfl
 rw[e1]at k1
 rw[qm,qd qyh qxb]
 simp only[qkb,qy,wD,c0,k1,k3,k5,qg,wN,Int.toNat_zero,wg,qb,qk,zgy,↓qc,↓qq,↓wb,wa,wh]
theorem qaj5 (bs:List (List Evt)) (c:Bool) (h:bs.length≤1000):qm (evL T) qk1 [(.fsl ((bs).map qf) c)]=some (.tup [(ii (((qrr bs).getD 0))),(bb (((qrr bs).isSome)))]):=by
 have hL : ∃y,itB (exec (evL T) itL none qi5) (qu [4,7,8,9] true 1) ⟨[(4,.sl 0 0 0 0 false),(7,(.fsl ((bs).map qf) c)),(8,(ii bs.length)),(9,(ii ((0:Nat))))],[]⟩ [.row 1 [] 0]=some y ∧
   ∃g:Nat,y.1 = .exit 0∧y.2.1.marks=[]∧y.2.2=[.row 1 ((qrp bs).map qy) g]∧wj y.2.1.vars 4=some (.sl 0 g 0 (qrp bs).length false):=by
  have key:=qcq (f:=exec (evL T) itL none qi5) (s:=qu [4,7,8,9] true 1) (α:=List Int×Nat)
   (fun i a=>⟨[(4,.sl 0 a.2 0 a.1.length false),(7,(.fsl ((bs).map qf) c)),(8,(ii bs.length)),(9,(ii i))],[]⟩) (fun _ a=>[.row 1 (a.1.map qy) a.2]) (fun i a=>a.1=qrp (bs.take i)) bs.length
   (fun y => ∃g:Nat,y.1 = .exit 0∧y.2.1.marks=[]∧y.2.2=[.row 1 ((qrp bs).map qy) g]∧wj y.2.1.vars 4=some (.sl 0 g 0 (qrp bs).length false)) ?_ ?_ 0 ([],0) (ws _) rfl
  ·exact key
  ·rintro i ⟨l,g⟩ hi hl
   simp only at hl⊢
   obtain⟨v,hv⟩ : ∃v,bs[i]? = some v:=⟨_,zgE hi⟩
   have hi':(i:Int)<(bs.length:Int):=by omega
   have hw:IntKind.i64.wrap ((i:Int)+1)=((i+1:Nat):Int):=by rw[qi (by omega) (by omega)];simp
   have hf:qrp (bs.take (i+1))=qrp (bs.take i)++(v.head?.map Evt.time).toList:=by rw[List.take_add_one,hv];exact qaja _ _
   have hll:l.length≤1000:=by rw[hl];have:=qaei (bs.take i);have:=List.length_take_le i bs;omega
   cases v with
   |nil=>
    refine .inl ⟨(l,g),?_,by simp only;rw[hf,hl];exact(wR _).symm⟩
    simp only[qi5,zgs,zgr,zgq,zgt,hv,hi',hw,qf,wp,gt_iff_lt,wl,qan,qg,wg,qb,wU,zgy,↓qc,↓wb,wa]
   |cons e r=>
    refine .inl ⟨(l++[e.time],g+1),?_,by simp only;rw[hf,hl];rfl⟩
    have c1:((r.length+1:Nat):Int)>0:=by omega
    have b:(l.length+1)*8≤140737488355328:=by omega
    have tk:wH l.length (l.map qy)=l.map qy:=ztl (by simp)
    have lo:=qg 1 (l++[e.time])
    have hle:l.length≤l.length:=wv _
    rw[wQ]at lo
    simp only[wD,wp,qy]at lo
    obtain⟨et,ek,el,ei,ep,ea⟩:=e
    simp only[wQ,zgp,wD,wp,qy]at lo⊢
    simp only[qi5,zgs,zgr,zgq,zgt,hv,hi',hw,c1,b,tk,lo,hle,qf,Evt.r,wD,wN,Int.toNat_zero,qan,wg,qqk,qb,qaw,wd,wK,we,wU,ne_eq,zgy,↓qc,↓wb,wf,wa,wE,wc,wt]
  ·rintro⟨l,g⟩ hl
   rw[wk]at hl
   simp only at hl⊢
   simp only[qi5,wl,wg,zgy,↓qc,↓wb,wa]
   exact⟨_,rfl,g,rfl,rfl,by rw[hl],by rw[hl];rfl⟩
 obtain⟨⟨y,e,σ⟩,k1,g,k2,k3,k4,k5⟩:=hL
 simp only[Int.ofNat_zero]at k1 k2 k3 k4 k5
 subst k2;subst k4
 have hfl:=qaei bs
 unfold qrr
 rw[qm,qd q8w q6y]
 cases hf:qrp bs with
 |nil=>
  rw[hf]at k1 k5
  simp only[wp,zgb]at k1 k5
  simp only[qor,k1,k3,k5,qan,Option.getD_none,wg,qk,wU,zgy,↓qc,↓qq,↓wb,wa,wh]
 |cons x r=>
  rw[hf]at k1 k5 hfl
  have hm:=min_ev x r false (by simp at hfl;omega)
  have c0:¬((r.length+1:Nat):Int)=0:=by omega
  have tk:wH (r.length+1) ((x::r).map qy)=(x::r).map qy:=ztl (by simp)
  have hln:((x::r).map qy).length=r.length+1:=by simp
  have hlo:qb4 0 ((x::r).map qy)=true:=qg _ _
  simp only[zga]at k1 k5
  generalize (x::r).map qy=R at *
  simp only[qor,k1,k3,k5,c0,tk,hln,hlo,hm,qan,Option.getD_some,wg,qk,wU,zgy,↓qc,↓qq,↓wb,wa,wh]
theorem qame (c:Cfg) (f:Int) (hf:0≤f∧f≤1152921504606846976) (hl:0≤c.look∧c.look≤9223372036854775807) (hF:0≤c.fin∧c.fin≤1152921504606846976):qm (evL T) qg3 [(.agg [(.fsl ((c.lps).map lpC) false),(.fsl ((c.progs).map qau) false),(ii c.look),(ii c.fin),(ii c.cap)]),(ii f)]=some (ii (f+q5s c.look (c.fin-f))):=by
 have w1:IntKind.i64.wrap (c.fin-f)=c.fin-f:=qi (by omega) (by omega)
 have w2:IntKind.i64.wrap (f+q5s c.look (c.fin-f))=f+q5s c.look (c.fin-f):=by
  unfold q5s;split<;>exact qi (by omega) (by omega)
 unfold q5s at w2⊢
 rw[qm,qd q5e q22]
 simp only[qo7,w1,w2,wg,qb,wd,we,qk,ne_eq,zgy,↓qc,↓wb,wf,wa,wh]
theorem qait (c:Cfg) (f:Int) (hf:0≤f∧f≤1152921504606846976) (hl:0≤c.look∧c.look≤9223372036854775807) (hF:0≤c.fin∧c.fin≤1152921504606846976):qm (evL T) qht [(.agg [(.fsl ((c.lps).map lpC) false),(.fsl ((c.progs).map qau) false),(ii c.look),(ii c.fin),(ii c.cap)]),(ii f)]=some (ii (f+q5s c.look (c.fin-f))):=by
 have w1:IntKind.i64.wrap (c.fin-f)=c.fin-f:=qi (by omega) (by omega)
 unfold q5s
 rw[qm,qd q6v q4z]
 by_cases h:c.look≥c.fin-f
 ·have e:f+(if c.fin-f<c.look then c.fin-f else c.look)=c.fin:=by split<;>omega
  rw[e]
  simp only[qnx,w1,h,wg,qb,wd,we,qk,ne_eq,zgy,↓qc,↓wb,wf,wa,wh]
 ·have e:f+(if c.fin-f<c.look then c.fin-f else c.look)=f+c.look:=by split<;>omega
  have w2:IntKind.i64.wrap (f+c.look)=f+c.look:=qi (by omega) (by omega)
  rw[e]
  simp only[qnx,w1,w2,h,wg,qb,wd,we,qk,ne_eq,zgy,↓qc,↓wb,wf,wa,wh]
end Go.Proofs.YtpgdfkciinankaaGreat.K
