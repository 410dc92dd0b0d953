/- For every input the statement of this claim returns true: texts of its proof, joined (part 9). -/
import Derived.Test.YtfdoelhnnmcppaaGreatGT04
import Derived.Test.YtfdoelhnnmcppaaGreatGT06
import Derived.Test.YtfdoelhnnmcppaaGreatGT07
set_option linter.unusedSectionVars false
set_option linter.unusedSimpArgs false
set_option linter.unusedVariables false
open Nat renaming reduceEqDiff → wa, reduceAdd → wd, le_refl → wq, zero_le → wD
open _root_ renaming reduceIte → wb, reduceCtorEq → wc
open Go.Ev renaming look → we, ev1 → wf
open List renaming length_append → wg, eq_nil_of_length_eq_zero → wh, append_assoc → wk, getElem?_append_left → wm, mem_iff_getElem? → wo, take_length → wp, take_append_drop → wr, getElem?_set_ne → wu, mem_append → wv, all_eq_true → ww, pairwise_iff_getElem → wy, getElem?_cons_succ → wz, replicate → wA, getElem?_set_self → wB, mem_append_right → wC, pairwise_append → wE, length_cons → wF, append_nil → wG, map_set → wJ
open Go.Ev.AV renaming cells → wi, plain → wj
open Go.Ev.SObj renaming lo → wl
open Bool renaming and_eq_true → wn, false_and → wH, and_false → wI
open Int renaming lt_irrefl → wt
open List.Perm renaming append_left → wx
namespace Go.Proofs.YtfdoelhnnmcppaaGreat.K
open Go.Ev
set_option maxRecDepth 10000
def qwi {τ:Type} (f:τ→Int) (l:List τ):Int:=match l.find? (fun x => !decide (f x=0))with
 |some x=>f x
 |none=>0
theorem qzo {τ:Type} {f:τ→Int} {l:List τ} (h:l.all (fun x=>decide (f x=0))=true):qwi f l=0:=by
 unfold qwi
 have:l.find? (fun x => !decide (f x=0))=none:=by
  rw[List.find?_eq_none];intro x hx;rw[ww]at h;simp[of_decide_eq_true (h x hx)]
 rw[this]
theorem qsl {τ:Type} {f:τ→Int} {l:List τ} {x:τ} (h:l.find? (fun x => !decide (f x=0))=some x):qwi f l=f x:=by unfold qwi;rw[h]
theorem q1u {τ:Type} {f:τ→Int} {l:List τ}:qwi f l=0 ↔ ∀x∈l,f x=0:=by
 cases h:l.find? (fun x => !decide (f x=0))with
 |none=>
  rw[List.find?_eq_none]at h
  have h1 : ∀x∈l,f x=0:=fun x hx=>by simpa using h x hx
  exact⟨fun _=>h1,fun _=>qzo (by rw[ww];intro x hx;simp[h1 x hx])⟩
 |some x=>
  have h1:=List.find?_some h
  have h2:=List.mem_of_find?_eq_some h
  rw[qsl h]
  exact⟨fun k=>by simp[k]at h1,fun k=>k x h2⟩
section
variable (c:Cfg)
def len8 (l:List Start):Bool:=!decide ((l.length:Int)>8)
def qw1 (c:Cfg):Bool:=decide (1≤c.lps.length∧c.lps.length≤8∧c.progs.length≤8)&&(c.lps.all len8&&decide (1≤c.cap∧c.cap≤64∧0≤c.fin∧c.fin≤1152921504606846976))
theorem qaah:qaz (evL T) qk8 [(.agg [(.fsl ((c.lps).map lpC) false),(.fsl ((c.progs).map qbu) false),(ii c.look),(ii c.fin),(ii c.cap)])]=some (bb (qw1 c)):=by
 unfold qw1
 rw[qaz,qg q84 q54]
 by_cases h1:(c.lps.length:Int)<1
 ·have:¬(1≤c.lps.length∧c.lps.length≤8∧c.progs.length≤8):=by omega
  simp only[qfs,h1,this,zgw,wH,wf,qb,wi,wj,ql,ne_eq,zgy,↓qc,↓wb,wa]
 by_cases h2:(c.lps.length:Int)>8
 ·have:¬(1≤c.lps.length∧c.lps.length≤8∧c.progs.length≤8):=by omega
  simp only[qfs,h1,h2,this,zgw,wH,wf,qb,wi,wj,ql,ne_eq,zgy,↓qc,↓wb,wa]
 by_cases h3:(c.progs.length:Int)>8
 ·have:¬(1≤c.lps.length∧c.lps.length≤8∧c.progs.length≤8):=by omega
  simp only[qfs,h1,h2,h3,this,zgw,wH,wf,qb,wi,wj,ql,ne_eq,zgy,↓qc,↓wb,wa]
 have h4:(1≤c.lps.length∧c.lps.length≤8∧c.progs.length≤8):=by omega
 have hL : ∃y,itB (exec (evL T) itL none qll) (qao [1,3] true 0) ⟨[(1,(.fptr [(.fsl ((c.lps).map lpC) false),(.fsl ((c.progs).map qbu) false),(ii c.look),(ii c.fin),(ii c.cap)])),(3,(ii 0))],[]⟩ []=some y∧(c.lps.all len8=true∧(y.1 = .exit 0∧y.2.1.marks=[]∧y.2.2=[]∧we y.2.1.vars 1=some (.fptr [(.fsl ((c.lps).map lpC) false),(.fsl ((c.progs).map qbu) false),(ii c.look),(ii c.fin),(ii c.cap)])) ∨
   c.lps.all len8=false ∧ ∃x,c.lps.find? (fun x => !len8 x)=some x∧(y.1 = .ret∧y.2.1.marks=[]∧y.2.2=[]∧we y.2.1.vars 2=some (bb false))):=by
  refine qib c.lps (fun i=>⟨[(1,(.fptr [(.fsl ((c.lps).map lpC) false),(.fsl ((c.progs).map qbu) false),(ii c.look),(ii c.fin),(ii c.cap)])),(3,(ii i))],[]⟩) [] len8 _ (fun _ y => _) ?_ ?_ ?_
  ·intro i x hi hx hp
   have hi':(i:Int)<(c.lps.length:Int):=by omega
   have hw:IntKind.i64.wrap ((i:Int)+1)=((i+1:Nat):Int):=by rw[qk (by omega) (by omega)];simp
   have h1:¬(x.length:Int)>8:=by simpa[len8]using hp
   simp only[qll,zgs,zgr,zgq,zgt,hx,hi',hw,h1,qc8,qa7,lpC,wf,qb,zgy,↓qc,↓wb,wa]
  ·intro i x hi hx hp
   have hi':(i:Int)<(c.lps.length:Int):=by omega
   have h1:(x.length:Int)>8:=by simpa[len8]using hp
   simp only[qll,zgs,zgr,zgq,zgt,hx,hi',h1,lpC,wf,qb,zgy,↓qc,↓wb,wa]
   exact⟨_,rfl,rfl,rfl,rfl,rfl⟩
  ·simp only[qll,wt,wf,qb,zgy,↓qc,↓wb,wa]
   exact⟨_,rfl,rfl,rfl,rfl,rfl⟩
 obtain⟨⟨y,e,σ⟩,k1,k2⟩:=hL
 simp only at k2
 rcases k2 with ⟨k3,rfl,k4,rfl,k5⟩|⟨k3,x,_,rfl,k4,rfl,k5⟩
 ·by_cases g1:c.cap≥1
  case neg=>
   have:¬(1≤c.cap∧c.cap≤64∧0≤c.fin∧c.fin≤1152921504606846976):=by omega
   simp only[qfs,h1,h2,h3,h4,k1,k3,k4,k5,g1,qc8,qa7,zgw,wI,wf,qb,wi,wj,ql,ne_eq,zgy,↓qc,↓qx,↓wb,wa]
  by_cases g2:c.cap≤64
  case neg=>
   have:¬(1≤c.cap∧c.cap≤64∧0≤c.fin∧c.fin≤1152921504606846976):=by omega
   simp only[qfs,h1,h2,h3,h4,k1,k3,k4,k5,g1,g2,qc8,qa7,zgw,wI,wf,qb,wi,wj,ql,ne_eq,zgy,↓qc,↓qx,↓wb,wa]
  by_cases g3:c.fin≥0
  case neg=>
   have:¬(1≤c.cap∧c.cap≤64∧0≤c.fin∧c.fin≤1152921504606846976):=by omega
   simp only[qfs,h1,h2,h3,h4,k1,k3,k4,k5,g1,g2,g3,qc8,qa7,zgw,wI,wf,qb,wi,wj,ql,ne_eq,zgy,↓qc,↓qx,↓wb,wa]
  by_cases g4:c.fin≤1152921504606846976
  case neg=>
   have:¬(1≤c.cap∧c.cap≤64∧0≤c.fin∧c.fin≤1152921504606846976):=by omega
   simp only[qfs,h1,h2,h3,h4,k1,k3,k4,k5,g1,g2,g3,g4,qc8,qa7,zgw,wI,wf,qb,wi,wj,ql,ne_eq,zgy,↓qc,↓qx,↓wb,wa]
  have:(1≤c.cap∧c.cap≤64∧0≤c.fin∧c.fin≤1152921504606846976):=by omega
  simp only[qfs,h1,h2,h3,h4,k1,k3,k4,k5,g1,g2,g3,g4,qc8,qa7,zgx,zgv,wf,qb,wi,wj,ql,ne_eq,zgy,↓qc,↓qx,↓wb,wa]
 ·simp only[qfs,h1,h2,h3,h4,k1,k3,k4,k5,qc8,qa7,zgv,wI,wH,wf,qb,wi,wj,ql,ne_eq,zgy,↓qc,↓qx,↓wb,wa]
def q0x (c:Cfg) (p:List OpI):Int:=qrn p c.progs.length c.lps.length c.look
def qmp (c:Cfg) (s:Start):Int:=if s.prog<0∨s.prog≥c.progs.length then 22 else if s.time<0∨s.time>1152921504606846976 then 11 else 0
def rlpZ (c:Cfg) (l:List Start):Int:=qwi (qmp c) l
def qafh (c:Cfg):Int:=if qw1 c=false then 1 else if c.look<1 then 20 else if qwi (q0x c) c.progs≠0 then qwi (q0x c) c.progs else qwi (rlpZ c) c.lps
theorem qamj (hl:c.progs.length≤8) :
  ∃y,itB (exec (evL T) itL none qld) (qao [1,3] true 0) ⟨[(1,(.fptr [(.fsl ((c.lps).map lpC) false),(.fsl ((c.progs).map qbu) false),(ii c.look),(ii c.fin),(ii c.cap)])),(3,(ii 0))],[]⟩ []=some y∧(c.progs.all (fun p=>decide (q0x c p=0))=true∧(y.1 = .exit 0∧y.2.1.marks=[]∧y.2.2=[]∧we y.2.1.vars 1=some (.fptr [(.fsl ((c.lps).map lpC) false),(.fsl ((c.progs).map qbu) false),(ii c.look),(ii c.fin),(ii c.cap)])) ∨
   c.progs.all (fun p=>decide (q0x c p=0))=false ∧ ∃x,c.progs.find? (fun p => !decide (q0x c p=0))=some x∧(y.1 = .ret∧y.2.1.marks=[]∧y.2.2=[]∧we y.2.1.vars 2=some (ii (q0x c x)))):=by
 refine qib c.progs (fun i=>⟨[(1,(.fptr [(.fsl ((c.lps).map lpC) false),(.fsl ((c.progs).map qbu) false),(ii c.look),(ii c.fin),(ii c.cap)])),(3,(ii i))],[]⟩) [] (fun p=>decide (q0x c p=0)) _ (fun x y => _) ?_ ?_ ?_
 ·intro i x hi hx hp
  have hi':(i:Int)<(c.progs.length:Int):=by omega
  have hw:IntKind.i64.wrap ((i:Int)+1)=((i+1:Nat):Int):=by rw[qk (by omega) (by omega)];simp
  have hv:=q0t x false c.progs.length c.lps.length c.look
  rw[show qrn x c.progs.length c.lps.length c.look=0 from of_decide_eq_true hp]at hv
  simp only[qld,zgs,zgr,zgq,zgt,hx,hi',hw,hv,qc8,qa7,qh6,qbu,wf,qb,ne_eq,zgy,↓qc,↓wb,wa]
 ·intro i x hi hx hp
  have hi':(i:Int)<(c.progs.length:Int):=by omega
  have hv:=q0t x false c.progs.length c.lps.length c.look
  have hz:¬qrn x c.progs.length c.lps.length c.look=0:=of_decide_eq_false hp
  simp only[qld,zgs,zgr,zgq,zgt,hx,hi',hv,hz,qh6,qbu,wf,qb,ne_eq,zgy,↓qc,↓wb,wa]
  exact⟨_,rfl,rfl,rfl,rfl,rfl⟩
 ·simp only[qld,wt,wf,qb,zgy,↓qc,↓wb,wa]
  exact⟨_,rfl,rfl,rfl,rfl,rfl⟩
theorem qafk (i:Nat) (l:List Start) (hx:c.lps[i]? = some l) (hl:l.length≤8) :
  ∃y,itB (exec (evL T) itL none qgv) (qao [1,5,6] true 0) ⟨[(1,(.fptr [(.fsl ((c.lps).map lpC) false),(.fsl ((c.progs).map qbu) false),(ii c.look),(ii c.fin),(ii c.cap)])),(5,(ii i)),(6,(ii 0))],[]⟩ []=some y∧(l.all (fun s=>decide (qmp c s=0))=true∧(y.1 = .exit 4∧y.2.1.marks=[]∧y.2.2=[]∧we y.2.1.vars 1=some (.fptr [(.fsl ((c.lps).map lpC) false),(.fsl ((c.progs).map qbu) false),(ii c.look),(ii c.fin),(ii c.cap)])∧we y.2.1.vars 5=some (ii i)) ∨
   l.all (fun s=>decide (qmp c s=0))=false ∧ ∃x,l.find? (fun s => !decide (qmp c s=0))=some x∧(y.1 = .ret∧y.2.1.marks=[]∧y.2.2=[.row 2 [x.r] 0]∧we y.2.1.vars 2=some (ii (qmp c x)))):=by
 refine qib l (fun k=>⟨[(1,(.fptr [(.fsl ((c.lps).map lpC) false),(.fsl ((c.progs).map qbu) false),(ii c.look),(ii c.fin),(ii c.cap)])),(5,(ii i)),(6,(ii k))],[]⟩) [] (fun s=>decide (qmp c s=0)) _ (fun x y => _) ?_ ?_ ?_
 ·intro k s hk hs hp
  have hk':(k:Int)<(l.length:Int):=by omega
  have hw:IntKind.i64.wrap ((k:Int)+1)=((k+1:Nat):Int):=by rw[qk (by omega) (by omega)];simp
  have hz:qmp c s=0:=of_decide_eq_true hp
  unfold qmp at hz
  by_cases g1:s.prog<0
  ·rw[if_pos (.inl g1)]at hz;cases hz
  by_cases g2:s.prog≥(c.progs.length:Int)
  ·rw[if_pos (.inr g2)]at hz;cases hz
  by_cases g3:s.time<0
  ·rw[if_neg (by omega),if_pos (.inl g3)]at hz;cases hz
  by_cases g4:s.time>1152921504606846976
  ·rw[if_neg (by omega),if_pos (.inr g4)]at hz;cases hz
  simp only[qgv,zgs,zgr,zgq,zgt,hx,hs,hk',hw,g1,g2,g3,g4,qc8,qa7,lpC,Start.r,wf,Ev.stP,qb,wi,wj,ne_eq,zgy,↓qc,↓wb,wd,wa]
 ·intro k s hk hs hp
  have hk':(k:Int)<(l.length:Int):=by omega
  have hz:¬qmp c s=0:=of_decide_eq_false hp
  unfold qmp at hz⊢
  by_cases g1:s.prog<0
  ·rw[if_pos (.inl g1)]
   simp only[qgv,zgs,zgr,zgq,zgt,hx,hs,hk',g1,lpC,Start.r,wf,Ev.stP,qb,wi,wj,ne_eq,zgy,↓qc,↓wb,wd,wa]
   exact⟨_,rfl,rfl,rfl,rfl,rfl⟩
  by_cases g2:s.prog≥(c.progs.length:Int)
  ·rw[if_pos (.inr g2)]
   simp only[qgv,zgs,zgr,zgq,zgt,hx,hs,hk',g1,g2,lpC,Start.r,wf,Ev.stP,qb,wi,wj,ne_eq,zgy,↓qc,↓wb,wd,wa]
   exact⟨_,rfl,rfl,rfl,rfl,rfl⟩
  rw[if_neg (by omega)]at hz⊢
  by_cases g3:s.time<0
  ·rw[if_pos (.inl g3)]
   simp only[qgv,zgs,zgr,zgq,zgt,hx,hs,hk',g1,g2,g3,lpC,Start.r,wf,Ev.stP,qb,wi,wj,ne_eq,zgy,↓qc,↓wb,wd,wa]
   exact⟨_,rfl,rfl,rfl,rfl,rfl⟩
  by_cases g4:s.time>1152921504606846976
  ·rw[if_pos (.inr g4)]
   simp only[qgv,zgs,zgr,zgq,zgt,hx,hs,hk',g1,g2,g3,g4,lpC,Start.r,wf,Ev.stP,qb,wi,wj,ne_eq,zgy,↓qc,↓wb,wd,wa]
   exact⟨_,rfl,rfl,rfl,rfl,rfl⟩
  ·exact absurd (by rw[if_neg (by omega)]) hz
 ·simp only[qgv,zgs,zgr,zgq,zgt,hx,wt,lpC,wf,qb,zgy,↓qc,↓wb,wa]
  exact⟨_,rfl,rfl,rfl,rfl,rfl,rfl⟩
theorem qak6 (hl:c.lps.length≤8) (hll : ∀l∈c.lps,l.length≤8) :
  ∃y,itB (exec (evL T) itL none qlb) (qao [1,5] true 0) ⟨[(1,(.fptr [(.fsl ((c.lps).map lpC) false),(.fsl ((c.progs).map qbu) false),(ii c.look),(ii c.fin),(ii c.cap)])),(5,(ii 0))],[]⟩ []=some y∧(c.lps.all (fun l=>decide (rlpZ c l=0))=true∧(y.1 = .exit 2∧y.2.1.marks=[]∧y.2.2=[]) ∨
   c.lps.all (fun l=>decide (rlpZ c l=0))=false ∧ ∃x,c.lps.find? (fun l => !decide (rlpZ c l=0))=some x∧(y.1 = .ret∧y.2.1.marks=[]∧(∃s:Start,y.2.2=[.row 2 [s.r] 0])∧we y.2.1.vars 2=some (ii (rlpZ c x)))):=by
 refine qib c.lps (fun i=>⟨[(1,(.fptr [(.fsl ((c.lps).map lpC) false),(.fsl ((c.progs).map qbu) false),(ii c.look),(ii c.fin),(ii c.cap)])),(5,(ii i))],[]⟩) [] (fun l=>decide (rlpZ c l=0)) _ (fun x y => _) ?_ ?_ ?_
 ·intro i l hi hx hp
  have hi':(i:Int)<(c.lps.length:Int):=by omega
  have hw:IntKind.i64.wrap ((i:Int)+1)=((i+1:Nat):Int):=by rw[qk (by omega) (by omega)];simp
  have hz:rlpZ c l=0:=of_decide_eq_true hp
  obtain⟨⟨y,e,σ⟩,k1,k2⟩:=qafk c i l hx (hll l (zmg hx))
  simp only at k2
  rcases k2 with ⟨k3,rfl,k4,rfl,k5,k6⟩|⟨k3,x,k7,rfl,k4,rfl,k5⟩
  ·simp only[qlb,hi',hw,k1,k4,k5,k6,qc8,qa7,wf,qb,zgy,↓qc,↓qx,↓wb,wa]
  ·have h1:=List.find?_some k7
   have h2:qmp c x=0:=by rw[←qsl k7];exact hz
   simp[h2]at h1
 ·intro i l hi hx hp
  have hi':(i:Int)<(c.lps.length:Int):=by omega
  have hz:¬rlpZ c l=0:=of_decide_eq_false hp
  obtain⟨⟨y,e,σ⟩,k1,k2⟩:=qafk c i l hx (hll l (zmg hx))
  simp only at k2
  rcases k2 with ⟨k3,rfl,k4,rfl,k5,k6⟩|⟨k3,x,k7,rfl,k4,rfl,k5⟩
  ·exact absurd (qzo k3) hz
  ·rw[show rlpZ c l=qmp c x from qsl k7]
   simp only[qlb,hi',k1,qc8,qa7,wf,qb,zgy,↓qc,↓qx,↓wb,wa]
   exact⟨_,rfl,rfl,k4,⟨x,rfl⟩,k5⟩
 ·simp only[qlb,wt,wf,qb,zgy,↓qc,↓wb,wa]
  exact⟨_,rfl,rfl,rfl,rfl⟩
theorem q90:qaz (evL T) qkt [(.agg [(.fsl ((c.lps).map lpC) false),(.fsl ((c.progs).map qbu) false),(ii c.look),(ii c.fin),(ii c.cap)])]=some (ii (qafh c)):=by
 have hs:=qaah c
 unfold qafh
 rw[qaz,qg q7p q6v]
 cases h1:qw1 c with
 |false=>
  rw[h1]at hs
  simp only[qjq,hs,qc8,qa7,wf,qb,wi,wj,ql,ne_eq,zgy,↓qc,↓wb,wd,wa]
 |true=>
  rw[h1]at hs
  have h2:=h1
  simp only[qw1,wn,decide_eq_true_eq,ww]at h2
  obtain⟨⟨s1,s2,s3⟩,s4,s5⟩:=h2
  have s6 : ∀l∈c.lps,l.length≤8:=fun l hl=>by have:=s4 l hl;simp[len8]at this;omega
  simp only[Bool.true_eq_false,if_false]
  by_cases hk:c.look<1
  ·simp only[qjq,hs,hk,qc8,qa7,wf,qb,wi,wj,ql,ne_eq,zgy,↓qc,↓wb,wd,wa]
  rw[if_neg hk]
  obtain⟨⟨y,e,σ⟩,k1,k2⟩:=qamj c s3
  obtain⟨⟨y',e',σ'⟩,m1,m2⟩:=qak6 c s2 s6
  simp only at k2 m2
  rcases k2 with ⟨k3,rfl,k4,rfl,k5⟩|⟨k3,x,k7,rfl,k4,rfl,k5⟩
  ·rw[qzo k3,if_neg (by simp)]
   rcases m2 with ⟨m3,rfl,m4,rfl⟩|⟨m3,x,m7,rfl,m4,⟨s,rfl⟩,m5⟩
   ·rw[qzo m3]
    simp only[qjq,hs,hk,k1,k4,k5,m1,m4,qc8,qa7,wf,qb,wi,wj,ql,ne_eq,zgy,↓qc,↓qx,↓wb,wd,wa]
   ·rw[qsl m7]
    simp only[qjq,hs,hk,k1,k4,k5,m1,m4,m5,qc8,qa7,wf,qb,wi,wj,ql,ne_eq,zgy,↓qc,↓qx,↓wb,wd,wa]
  ·have hz:=List.find?_some k7
   have hz':¬q0x c x=0:=by simpa using hz
   rw[qsl k7,if_pos hz']
   simp only[qjq,hs,hk,k1,k4,k5,qc8,qa7,wf,qb,wi,wj,ql,ne_eq,zgy,↓qc,↓qx,↓wb,wd,wa]
end
set_option maxRecDepth 10000
section
variable (c:Cfg)
def l12 (l:List Start):Bool:=!decide ((l.length:Int)>12)
def l30 (p:List OpI):Bool:=!decide ((p.length:Int)>30)
def q0y (c:Cfg):Bool:=decide ((c.lps.length:Int)>12)||(decide ((c.progs.length:Int)>12)||(!(c.lps.all l12) || !(c.progs.all l30)))
theorem great_l1 (hl:c.lps.length≤12) :
  ∃y,itB (exec (evL T) itL none qlc) (qao [1,3] true 0) ⟨[(1,(.fptr [(.fsl ((c.lps).map lpC) false),(.fsl ((c.progs).map qbu) false),(ii c.look),(ii c.fin),(ii c.cap)])),(3,(ii 0))],[]⟩ []=some y∧(c.lps.all l12=true∧(y.1 = .exit 0∧y.2.1.marks=[]∧y.2.2=[]∧we y.2.1.vars 1=some (.fptr [(.fsl ((c.lps).map lpC) false),(.fsl ((c.progs).map qbu) false),(ii c.look),(ii c.fin),(ii c.cap)])) ∨
   c.lps.all l12=false ∧ ∃x,c.lps.find? (fun x => !l12 x)=some x∧(y.1 = .ret∧y.2.1.marks=[]∧y.2.2=[]∧we y.2.1.vars 2=some (bb true))):=by
 refine qib c.lps (fun i=>⟨[(1,(.fptr [(.fsl ((c.lps).map lpC) false),(.fsl ((c.progs).map qbu) false),(ii c.look),(ii c.fin),(ii c.cap)])),(3,(ii i))],[]⟩) [] l12 _ (fun _ y => _) ?_ ?_ ?_
 ·intro i x hi hx hp
  have hi':(i:Int)<(c.lps.length:Int):=by omega
  have hw:IntKind.i64.wrap ((i:Int)+1)=((i+1:Nat):Int):=by rw[qk (by omega) (by omega)];simp
  have h1:¬(x.length:Int)>12:=by simpa[l12]using hp
  simp only[qlc,zgs,zgr,zgq,zgt,hx,hi',hw,h1,qc8,qa7,lpC,wf,qb,zgy,↓qc,↓wb,wa]
 ·intro i x hi hx hp
  have hi':(i:Int)<(c.lps.length:Int):=by omega
  have h1:(x.length:Int)>12:=by simpa[l12]using hp
  simp only[qlc,zgs,zgr,zgq,zgt,hx,hi',h1,lpC,wf,qb,zgy,↓qc,↓wb,wa]
  exact⟨_,rfl,rfl,rfl,rfl,rfl⟩
 ·simp only[qlc,wt,wf,qb,zgy,↓qc,↓wb,wa]
  exact⟨_,rfl,rfl,rfl,rfl,rfl⟩
theorem great_l2 (hl:c.progs.length≤12) :
  ∃y,itB (exec (evL T) itL none qlj) (qao [1,4] true 0) ⟨[(1,(.fptr [(.fsl ((c.lps).map lpC) false),(.fsl ((c.progs).map qbu) false),(ii c.look),(ii c.fin),(ii c.cap)])),(4,(ii 0))],[]⟩ []=some y∧(c.progs.all l30=true∧(y.1 = .exit 2∧y.2.1.marks=[]∧y.2.2=[]) ∨
   c.progs.all l30=false ∧ ∃x,c.progs.find? (fun x => !l30 x)=some x∧(y.1 = .ret∧y.2.1.marks=[]∧y.2.2=[]∧we y.2.1.vars 2=some (bb true))):=by
 refine qib c.progs (fun i=>⟨[(1,(.fptr [(.fsl ((c.lps).map lpC) false),(.fsl ((c.progs).map qbu) false),(ii c.look),(ii c.fin),(ii c.cap)])),(4,(ii i))],[]⟩) [] l30 _ (fun _ y => _) ?_ ?_ ?_
 ·intro i x hi hx hp
  have hi':(i:Int)<(c.progs.length:Int):=by omega
  have hw:IntKind.i64.wrap ((i:Int)+1)=((i+1:Nat):Int):=by rw[qk (by omega) (by omega)];simp
  have h1:¬(x.length:Int)>30:=by simpa[l30]using hp
  simp only[qlj,zgs,zgr,zgq,zgt,hx,hi',hw,h1,qc8,qa7,qbu,wf,qb,zgy,↓qc,↓wb,wa]
 ·intro i x hi hx hp
  have hi':(i:Int)<(c.progs.length:Int):=by omega
  have h1:(x.length:Int)>30:=by simpa[l30]using hp
  simp only[qlj,zgs,zgr,zgq,zgt,hx,hi',h1,qbu,wf,qb,zgy,↓qc,↓wb,wa]
  exact⟨_,rfl,rfl,rfl,rfl,rfl⟩
 ·simp only[qlj,wt,wf,qb,zgy,↓qc,↓wb,wa]
  exact⟨_,rfl,rfl,rfl,rfl⟩
theorem qaad:qaz (evL T) qkq [(.agg [(.fsl ((c.lps).map lpC) false),(.fsl ((c.progs).map qbu) false),(ii c.look),(ii c.fin),(ii c.cap)])]=some (bb (q0y c)):=by
 rw[qaz,qg q81 q6n]
 by_cases h1:(c.lps.length:Int)>12
 ·simp only[qjh,q0y,h1,wf,qb,wi,wj,ql,ne_eq,zgy,↓qc,↓wb,wa]
 by_cases h2:(c.progs.length:Int)>12
 ·simp only[qjh,q0y,h1,h2,wf,qb,wi,wj,ql,ne_eq,zgy,↓qc,↓wb,wa]
 obtain⟨⟨y,e,σ⟩,k1,k2⟩:=great_l1 c (by omega)
 obtain⟨⟨y',e',σ'⟩,m1,m2⟩:=great_l2 c (by omega)
 simp only at k2 m2
 rcases k2 with ⟨k3,rfl,k4,rfl,k5⟩|⟨k3,x,_,rfl,k4,rfl,k5⟩
 ·rcases m2 with ⟨m3,rfl,m4,rfl⟩|⟨m3,x,_,rfl,m4,rfl,m5⟩
  ·simp only[qjh,q0y,h1,h2,k1,k3,k4,k5,m1,m3,m4,qc8,qa7,Bool.or_self,wf,qb,wi,wj,ql,ne_eq,zgy,↓qc,↓qx,↓wb,wa]
  ·simp only[qjh,q0y,h1,h2,k1,k3,k4,k5,m1,m3,m4,m5,qc8,qa7,Bool.or_true,wf,qb,wi,wj,ql,ne_eq,zgy,↓qc,↓qx,↓wb,wa]
 ·simp only[qjh,q0y,h1,h2,k1,k3,k4,k5,qc8,qa7,Bool.or_true,Bool.true_or,wf,qb,wi,wj,ql,ne_eq,zgy,↓qc,↓qx,↓wb,wa]
theorem q80 (h:q0y c=false):c.lps.length≤12∧c.progs.length≤12∧(∀l∈c.lps,l.length≤12) ∧ ∀p∈c.progs,p.length≤30:=by
 simp only[q0y,Bool.or_eq_false_iff,decide_eq_false_iff_not,Bool.not_eq_false',ww]at h
 obtain⟨h1,h2,h3,h4⟩:=h
 exact⟨by omega,by omega,fun l hl=>by have:=h3 l hl;simp[l12]at this;omega,fun p hp=>by have:=h4 p hp;simp[l30]at this;omega⟩
def okB (c:Cfg):Bool:=!q0y c&&decide (qafh c=0)
end
structure OpFull (c:Cfg) (p:List OpI) (op:OpI):Prop where
 code:1≤op.code∧op.code≤8
 hold:op.code=1→1≤op.a∧op.a≤1099511627776
 send:op.code=2→0≤op.a∧op.a<c.lps.length∧1≤op.c∧op.c≤1099511627776∧c.look≤op.c
 timer:op.code=3→1≤op.a∧op.a≤1099511627776∧0≤op.b∧op.b<p.length
 spawn:op.code=5→0≤op.a∧op.a<c.progs.length∧1≤op.b∧op.b≤1099511627776
 reg:op.code=6∨op.code=7→op.a=0∨op.a=1
 to:op.code=7→0≤op.c∧op.c<p.length
theorem qafa {p:List OpI} {ps lps look:Int} (h:qrn p ps lps look=0):qxr p=true∧p.all (fun x=>q1s x p.length ps)=true∧p.all (qagc lps)=true∧p.all (qs0 look)=true:=by
 unfold qrn at h
 cases h1:qxr p with
 |false=>rw[if_pos h1]at h;cases h
 |true=>
  rw[if_neg (by simp[h1])]at h
  cases h2:p.all (fun x=>q1s x p.length ps)with
  |false=>rw[if_pos h2]at h;cases h
  |true=>
   rw[if_neg (by simp[h2])]at h
   cases h3:p.all (qagc lps)with
   |false=>rw[if_pos h3]at h;cases h
   |true=>
    rw[if_neg (by simp[h3])]at h
    cases h4:p.all (qs0 look)with
    |false=>rw[if_pos h4]at h;cases h
    |true=>exact⟨rfl,rfl,rfl,rfl⟩
theorem qzs {n:Int}:qxs n=true↔1≤n∧n≤1099511627776:=by simp[qxs]
structure Valid (c:Cfg):Prop where
 lps:1≤c.lps.length∧c.lps.length≤8
 progs:c.progs.length≤8
 lp : ∀l∈c.lps,l.length≤8
 cap:1≤c.cap∧c.cap≤64
 fin:0≤c.fin∧c.fin≤1152921504606846976
 look:1≤c.look
 prog : ∀p∈c.progs,1≤p.length∧p.length≤16 ∧ ∀op∈p,OpFull c p op
 start : ∀l∈c.lps,∀s∈l,0≤s.prog∧s.prog<c.progs.length∧0≤s.time∧s.time≤1152921504606846976
theorem qalm {c:Cfg} {p:List OpI} (h:qrn p c.progs.length c.lps.length c.look=0):1≤p.length∧p.length≤16 ∧ ∀op∈p,OpFull c p op:=by
 obtain⟨h1,h2,h3,h4⟩:=qafa h
 simp only[qxr,wn,decide_eq_true_eq,ww]at h1 h2 h3 h4
 obtain⟨⟨h5,h6⟩,h7⟩:=h1
 refine⟨h5,h6,fun op ho => ?_⟩
 have g1:=h7 op ho
 have g2:=h2 op ho
 have g3:=h3 op ho
 have g4:=h4 op ho
 simp only[q6c,wn,decide_eq_true_eq]at g1
 simp only[qagc,qs0,Bool.not_eq_true',Bool.and_eq_false_iff,decide_eq_false_iff_not]at g3 g4
 unfold q1s at g2
 refine⟨⟨by omega,by omega⟩,?_,?_,?_,?_,?_,?_⟩
 ·intro k;rw[if_pos k]at g2
  simp only[wn,qzs,decide_eq_true_eq]at g2;exact g2.1
 ·intro k
  rw[if_neg (by omega),if_pos k]at g2
  simp only[wn,qzs,decide_eq_true_eq]at g2
  refine⟨g2.1,?_,g2.2.2.1,g2.2.2.2,?_⟩
  ·rcases g3 with g3|g3
   ·exact absurd k g3
   ·omega
  ·rcases g4 with g4|g4
   ·exact absurd k g4
   ·omega
 ·intro k
  rw[if_neg (by omega),if_neg (by omega),if_pos k]at g2
  simp only[wn,qzs,decide_eq_true_eq]at g2
  exact⟨g2.1.1,g2.1.2,g2.2.1,g2.2.2.1⟩
 ·intro k
  rw[if_neg (by omega),if_neg (by omega),if_neg (by omega),if_pos k]at g2
  simp only[wn,qzs,decide_eq_true_eq]at g2
  exact⟨g2.1,g2.2.1,g2.2.2.1.1,g2.2.2.1.2⟩
 ·rintro(k|k)
  ·rw[if_neg (by omega),if_neg (by omega),if_neg (by omega),if_neg (by omega),if_pos k]at g2
   simp only[wn,decide_eq_true_eq]at g2
   obtain⟨q1,q2,_⟩:=g2
   omega
  ·rw[if_neg (by omega),if_neg (by omega),if_neg (by omega),if_neg (by omega),if_neg (by omega),if_pos k]at g2
   simp only[wn,decide_eq_true_eq]at g2
   obtain⟨q1,q2,_⟩:=g2
   omega
 ·intro k
  rw[if_neg (by omega),if_neg (by omega),if_neg (by omega),if_neg (by omega),if_neg (by omega),if_pos k]at g2
  simp only[wn,decide_eq_true_eq]at g2
  exact⟨g2.2.2.2.1,g2.2.2.2.2⟩
theorem valid_of {c:Cfg} (h:qafh c=0):Valid c:=by
 unfold qafh at h
 cases h1:qw1 c with
 |false=>rw[if_pos h1]at h;cases h
 |true=>
  rw[if_neg (by simp[h1])]at h
  by_cases h2:c.look<1
  ·rw[if_pos h2]at h;cases h
  rw[if_neg h2]at h
  by_cases h3:qwi (q0x c) c.progs≠0
  ·rw[if_pos h3]at h;exact absurd h h3
  rw[if_neg h3]at h
  have h4:=q1u.1 (Decidable.of_not_not h3)
  have h5:=q1u.1 h
  simp only[qw1,wn,decide_eq_true_eq,ww]at h1
  obtain⟨⟨s1,s2,s3⟩,s4,s5⟩:=h1
  refine⟨⟨s1,s2⟩,s3,fun l hl=>by have:=s4 l hl;simp[len8]at this;omega,⟨s5.1,s5.2.1⟩,⟨s5.2.2.1,s5.2.2.2⟩,by omega,fun p hp=>qalm (h4 p hp),fun l hl s hs => ?_⟩
  have h6:=q1u.1 (h5 l hl) s hs
  unfold qmp at h6
  split at h6
  ·cases h6
  split at h6
  ·cases h6
  ·omega
def qxv (t0:List Int) (x:Ex) (g:List Int):Prop:=g.length≤40000∧(x.over=true∨g=t0 ∨ ∃ev∈x.out,ev.kind=2∧ev.key=g)
structure EvOk (c:Cfg) (e:Evt) (x:Ex) (k:Nat) (ev:Evt):Prop where
 time:e.time<ev.time∧ev.time≤1152921504606846976
 key : ∃m:Int,ev.key=e.key++[m]∧(k:Int)≤m∧m<x.n
 msg:ev.kind=3→0≤ev.lp∧ev.lp<c.lps.length∧e.time+c.look≤ev.time∧c.look≤1099511627776
 own:ev.kind≠3→ev.lp=e.lp∧0≤ev.proc∧ev.proc<x.procs.length∧(ev.kind=1∨ev.kind=2)
structure EInv (c:Cfg) (e:Evt) (i:Nat) (X:List Pr) (pr:Int) (p:List OpI) (t0:List Int) (n:Nat) (x:Ex):Prop where
 ev:x.ev=e
 len:X.length≤x.procs.length∧x.procs.length≤8
 own : ∃q,x.procs[i]? = some q∧q.prog=pr∧0≤q.pc∧q.pc≤p.length∧(q.timer=[]∨qxv t0 x q.timer)
 old : ∀j,j≠i→j<X.length→x.procs[j]? = X[j]?
 new : ∀j q,X.length≤j→x.procs[j]? = some q→q.alive=true∧q.pc=0∧q.timer=[]∧0≤q.prog∧q.prog<c.progs.length
 cnt:0≤x.n∧x.n≤n∧(x.out.length:Int)≤x.n
 outs : ∀k ev,x.out[k]? = some ev→EvOk c e x k ev
 inc : ∀k ev ev',x.out[k]? = some ev→x.out[k+1]? = some ev' → ∃m m',ev.key=e.key++[m]∧ev'.key=e.key++[m']∧m<m'
 gone : ∀g∈x.gone,qxv t0 x g
section
variable {c:Cfg} {e:Evt} {i:Nat} {X:List Pr} {pr:Int} {p:List OpI} {t0:List Int} {n:Nat} {x:Ex}
theorem EInv.lt (h:EInv c e i X pr p t0 n x):i<x.procs.length:=by
 obtain⟨q,h1,_⟩:=h.own;exact(zei.1 h1).1
theorem EInv.more (h:EInv c e i X pr p t0 n x):EInv c e i X pr p t0 (n+1) x:=
 ⟨h.ev,h.len,h.own,h.old,h.new,by have:=h.cnt;omega,h.outs,h.inc,h.gone⟩
theorem EInv.setP (h:EInv c e i X pr p t0 n x) (hiX:i<X.length) {q:Pr} (h1:q.prog=pr) (h2:0≤q.pc∧q.pc≤p.length) (h3:q.timer=[]∨qxv t0 x q.timer):EInv c e i X pr p t0 n (x.setP i q):=by
 have hlt:=h.lt
 refine⟨h.ev,by simp only[Ex.setP,List.length_set];exact h.len,⟨q,by simp only[Ex.setP];rw[wB hlt],h1,h2.1,h2.2,h3⟩,?_,?_,h.cnt,?_,h.inc,h.gone⟩
 ·intro j hj hl;simp only[Ex.setP];rw[wu (Ne.symm hj)];exact h.old j hj hl
 ·intro j q' hl hq;simp only[Ex.setP]at hq;rw[wu (by omega)]at hq;exact h.new j q' hl hq
 ·intro k ev hk
  obtain⟨a,b,d,f⟩:=h.outs k ev hk
  exact⟨a,b,d,by simpa only[Ex.setP,List.length_set]using f⟩
theorem EInv.push (h:EInv c e i X pr p t0 n x) {g:List Int} (hg:qxv t0 x g):EInv c e i X pr p t0 n { x with gone:=x.gone++[g] }:=by
 refine⟨h.ev,h.len,h.own,h.old,h.new,h.cnt,fun k ev hk => ?_,h.inc,?_⟩
 ·obtain⟨a,b,d,f⟩:=h.outs k ev hk;exact⟨a,b,d,f⟩
 ·intro g' hg'
  rcases wv.1 hg' with hg'|hg'
  ·exact h.gone g' hg'
  ·simp at hg';subst hg';exact hg
theorem EInv.reg (h:EInv c e i X pr p t0 n x) (k v:Int):EInv c e i X pr p t0 n (x.setReg k v):=by
 unfold Ex.setReg
 split
 ·exact⟨h.ev,h.len,h.own,h.old,h.new,h.cnt,fun k ev hk=>by obtain⟨a,b,d,f⟩:=h.outs k ev hk;exact⟨a,b,d,f⟩,h.inc,h.gone⟩
 ·exact⟨h.ev,h.len,h.own,h.old,h.new,h.cnt,fun k ev hk=>by obtain⟨a,b,d,f⟩:=h.outs k ev hk;exact⟨a,b,d,f⟩,h.inc,h.gone⟩
theorem EInv.spawn (h:EInv c e i X pr p t0 n x) (hiX:i<X.length) (hl:x.procs.length<8) {a:Int} (ha:0≤a∧a<c.progs.length):EInv c e i X pr p t0 n { x with procs:=x.procs++[⟨a,0,true,[]⟩] }:=by
 have hlt:=h.lt
 have hln:=h.len
 refine⟨h.ev,by simp;omega,?_,?_,?_,h.cnt,?_,h.inc,h.gone⟩
 ·obtain⟨q,h1,h2⟩:=h.own
  exact⟨q,by show (x.procs ++ _)[i]? = _;rw[wm hlt];exact h1,h2⟩
 ·intro j hj hl';show (x.procs ++ _)[j]? = _;rw[wm (by omega)];exact h.old j hj hl'
 ·intro j q hj hq
  change (x.procs++[⟨a,0,true,[]⟩])[j]? = some q at hq
  by_cases hjl:j<x.procs.length
  ·rw[wm hjl]at hq;exact h.new j q hj hq
  ·have hj2:=(zei.1 hq).1
   simp at hj2
   have hje:j=x.procs.length:=by omega
   subst hje
   simp at hq
   subst hq
   exact⟨rfl,rfl,rfl,ha⟩
 ·intro k ev hk
  obtain⟨a,b,d,f⟩:=h.outs k ev hk
  exact⟨a,b,d,fun hk'=>by obtain⟨f1,f2,f3,f4⟩:=f hk';exact⟨f1,f2,by simp;omega,f4⟩⟩
theorem create_over {d:Int} {s:Evt} (h:x.over=true):(x.create d s).over=true:=by unfold Ex.create;simp only;split<;>first|rfl|exact h
theorem qakp {d:Int} {s ev:Evt} (h:ev∈x.out):ev∈(x.create d s).out:=by unfold Ex.create;simp only;split<;>first|exact h|exact List.mem_append_left _ h
theorem qxv.create {g:List Int} (h:qxv t0 x g) (d:Int) (s:Evt):qxv t0 (x.create d s) g:=by
 refine⟨h.1,?_⟩
 rcases h.2 with h|h|⟨ev,h1,h2⟩
 ·exact .inl (create_over h)
 ·exact .inr (.inl h)
 ·exact .inr (.inr ⟨ev,qakp h1,h2⟩)
theorem EInv.create (h:EInv c e i X pr p t0 n x) (hn:n≤90) (he:0≤e.time∧e.time≤1152921504606846976) (hk:e.key.length≤30000) {d:Int} (hd:1≤d∧d≤1099511627776) {s:Evt}
  (hm:s.kind=3→0≤s.lp∧s.lp<c.lps.length∧c.look≤d) (ho:s.kind≠3→s.lp=e.lp∧0≤s.proc∧s.proc<x.procs.length∧(s.kind=1∨s.kind=2)) :
  EInv c e i X pr p t0 (n+1) (x.create d s)∧(s.kind=2→qxv t0 (x.create d s) x.kid):=by
 obtain⟨c1,c2,c3⟩:=h.cnt
 have hw:w64 (x.n+1)=x.n+1:=qk (by omega) (by omega)
 have ht:w64 (x.ev.time+d)=e.time+d:=by rw[h.ev];exact qk (by omega) (by omega)
 have hown : ∃q,(x.create d s).procs[i]? = some q∧q.prog=pr∧0≤q.pc∧q.pc≤p.length∧(q.timer=[]∨qxv t0 (x.create d s) q.timer):=by
  obtain⟨q,h1,h2,h3,h4,h5⟩:=h.own
  exact⟨q,h1,h2,h3,h4,h5.imp id fun g=>g.create d s⟩
 have hgone : ∀g∈(x.create d s).gone,qxv t0 (x.create d s) g:=fun g hg=>(h.gone g hg).create d s
 have hkid:x.kid.length≤40000:=by unfold Ex.kid;rw[h.ev];simp;omega
 by_cases hov:e.time+d>1152921504606846976
 ·have hx:x.create d s = { x with n:=x.n+1,over:=true }:=by unfold Ex.create;rw[hw,ht,if_pos hov,if_pos hov]
  rw[hx]at hown hgone⊢
  refine⟨⟨h.ev,h.len,hown,h.old,h.new,⟨by show 0≤x.n+1;omega,by show x.n+1≤((n+1:Nat):Int);omega,by show (x.out.length:Int)≤x.n+1;omega⟩,fun k ev hk' => ?_,h.inc,hgone⟩,fun _=>⟨hkid,.inl rfl⟩⟩
  obtain⟨a,⟨m,b1,b2,b3⟩,d,f⟩:=h.outs k ev hk'
  exact⟨a,⟨m,b1,b2,by show m<x.n+1;omega⟩,d,f⟩
 ·have hx:x.create d s = { x with n:=x.n+1,out:=x.out++[⟨e.time+d,e.key++[x.n],s.lp,s.kind,s.proc,s.arg⟩] }:=by unfold Ex.create Ex.kid;rw[hw,ht,if_neg hov,if_neg hov,h.ev]
  rw[hx]at hown hgone⊢
  refine⟨⟨h.ev,h.len,hown,h.old,h.new,⟨by show 0≤x.n+1;omega,by show x.n+1≤((n+1:Nat):Int);omega,by show ((x.out ++ _).length:Int)≤x.n+1;simp;omega⟩,fun k ev hk' => ?_,?_,hgone⟩,fun hs=>⟨hkid,.inr (.inr ⟨_,wC _ (List.mem_singleton.2 rfl),hs,by unfold Ex.kid;rw[h.ev]⟩)⟩⟩
  ·change (x.out++[_])[k]? = some ev at hk'
   by_cases hkl:k<x.out.length
   ·rw[wm hkl]at hk'
    obtain⟨a,⟨m,b1,b2,b3⟩,d,f⟩:=h.outs k ev hk'
    exact⟨a,⟨m,b1,b2,by show m<x.n+1;omega⟩,d,f⟩
   ·have hk2:=(zei.1 hk').1
    simp at hk2
    have hke:k=x.out.length:=by omega
    subst hke
    simp at hk'
    subst hk'
    refine⟨⟨by show e.time<e.time+d;omega,by show e.time+d ≤ _;omega⟩,⟨x.n,rfl,c3,by show x.n<x.n+1;omega⟩,fun hs => ?_,fun hs=>ho hs⟩
    obtain⟨m1,m2,m3⟩:=hm hs
    exact⟨m1,m2,by show e.time+c.look≤e.time+d;omega,by omega⟩
  ·intro k ev ev' h1 h2
   change (x.out++[_])[k]? = some ev at h1
   change (x.out++[_])[k+1]? = some ev' at h2
   have hk2:=(zei.1 h2).1
   simp at hk2
   rw[wm (by omega)]at h1
   by_cases hkl:k+1<x.out.length
   ·rw[wm hkl]at h2;exact h.inc k ev ev' h1 h2
   ·have hke:k+1=x.out.length:=by omega
    rw[hke]at h2
    simp at h2
    subst h2
    obtain⟨m,b1,b2,b3⟩:=(h.outs k ev h1).key
    exact⟨m,x.n,b1,rfl,b3⟩
theorem EInv.stop (h:EInv c e i X pr p t0 n x) (hiX:i<X.length) {q:Pr} (hq:x.procs[i]? = some q):EInv c e i X pr p t0 n (x.stopE i q):=by
 obtain⟨q',h1,h2,h3,h4,h5⟩:=h.own
 rw[hq]at h1;cases h1
 unfold Ex.stopE
 split
 next hl=>
  have hg:qxv t0 x q.timer:=by
   rcases h5 with h5|h5
   ·rw[h5]at hl;simp at hl
   ·exact h5
  exact(h.push hg).setP (q:={ q with timer:=[] }) hiX h2 ⟨h3,h4⟩ (.inl rfl)
 next=>exact h
theorem EInv.step (h:EInv c e i X pr p t0 n x) (hiX:i<X.length) (hn:n≤90) (he:0≤e.time∧e.time≤1152921504606846976) (hk:e.key.length≤30000) (hpr:e.proc=i) {q:Pr} (hq:x.procs[i]? = some q) {op:OpI} (ho:OpFull c p op) :
  EInv c e i X pr p t0 (n+1) (qgh x i q op).1:=by
 have hlt:=h.lt
 obtain⟨q',h1,h2,h3,h4,h5⟩:=h.own
 rw[hq]at h1;cases h1
 unfold qgh
 split
 next k=>exact(h.create hn he hk (ho.hold k) (fun hs=>absurd hs (by show ¬(1:Int)=3;decide)) (fun _=>⟨by show x.ev.lp=e.lp;rw[h.ev],by show 0≤x.ev.proc;rw[h.ev,hpr];omega,by show x.ev.proc < _;rw[h.ev,hpr];omega,.inl rfl⟩)).1
 split
 next k=>
  obtain⟨s1,s2,s3,s4,s5⟩:=ho.send k
  exact(h.create hn he hk ⟨s3,s4⟩ (s:=⟨0,[],op.a,3,0,op.b⟩) (fun _=>⟨s1,s2,s5⟩) (fun hs=>absurd rfl hs)).1
 split
 next k=>
  obtain⟨s1,s2,s3,s4⟩:=ho.timer k
  have hst:=h.stop hiX hq
  obtain⟨g1,g2⟩:=hst.create hn he hk ⟨s1,s2⟩ (s:=x.ownE 2 x.ev.proc op.b) (fun hs=>absurd hs (by show ¬(2:Int)=3;decide)) (fun _=>⟨by show x.ev.lp=e.lp;rw[h.ev],by show 0≤x.ev.proc;rw[h.ev,hpr];omega,by show x.ev.proc < _;rw[h.ev,hpr];have:=hst.lt;omega,.inr rfl⟩)
  exact g1.setP (q:={ q with timer:=(x.stopE i q).kid }) hiX h2 ⟨h3,h4⟩ (.inr (g2 rfl))
 split
 next k=>exact(h.stop hiX hq).more
 split
 next k=>
  obtain⟨s1,s2,s3,s4⟩:=ho.spawn k
  unfold Ex.spawnE
  split
  next hl=>exact((h.spawn hiX hl ⟨s1,s2⟩).create hn he hk ⟨s3,s4⟩ (s:=x.ownE 1 x.procs.length 0) (fun hs=>absurd hs (by show ¬(1:Int)=3;decide)) (fun _=>⟨by show x.ev.lp=e.lp;rw[h.ev],by show (0:Int)≤(x.procs.length:Int);omega,by show (x.procs.length:Int) < _;simp;omega,.inl rfl⟩)).1
  next=>exact h.more
 split
 next k=>exact(h.reg _ _).more
 split
 next k=>
  obtain⟨s1,s2⟩:=ho.to k
  split
  ·exact(h.setP (q:={ q with pc:=op.c }) hiX h2 ⟨s1,by show op.c ≤ _;omega⟩ h5).more
  ·exact h.more
 next=>exact h.more
theorem EInv.kill (h:EInv c e i X pr p t0 n x) (hiX:i<X.length):EInv c e i X pr p t0 n (qwa x i):=by
 obtain⟨q,h1,h2,h3,h4,h5⟩:=h.own
 unfold qwa;rw[h1]
 exact h.setP (q:={ q with alive:=false }) hiX h2 ⟨h3,h4⟩ h5
theorem EInv.stepR (h:EInv c e i X pr p t0 n x) (hiX:i<X.length) (hn:n≤90) (he:0≤e.time∧e.time≤1152921504606846976) (hk:e.key.length≤30000) (hpl:p.length≤1000) (hpr:e.proc=i) {q:Pr} (hq:x.procs[i]? = some q) {op:OpI} (hop:p[q.pc.toNat]? = some op) (ho:OpFull c p op) :
  EInv c e i X pr p t0 (n+1) (stepR x i q op).1:=by
 have hlt:=h.lt
 obtain⟨q',h1,h2,h3,h4,h5⟩:=h.own
 rw[hq]at h1;cases h1
 have hpc:=(zei.1 hop).1
 have hw:w64 (q.pc+1)=q.pc+1:=qk (by omega) (by omega)
 have hz:=h.setP (q:=q.inc) hiX h2 ⟨by show 0≤w64 (q.pc+1);rw[hw];omega,by show w64 (q.pc+1) ≤ _;rw[hw];omega⟩ h5
 have hzq:(x.setP i q.inc).procs[i]? = some q.inc:=by simp only[Ex.setP];rw[wB hlt]
 have hs:=hz.step hiX hn he hk hpr hzq ho
 unfold K.stepR
 split
 ·exact hs
 split
 ·exact hs.kill hiX
 ·exact hs
theorem EInv.act (hiX:i<X.length) (he:0≤e.time∧e.time≤1152921504606846976) (hk:e.key.length≤30000) (hpl:p.length≤1000) (hpr:e.proc=i) (ho : ∀op∈p,OpFull c p op) :
  ∀(m n:Nat) (x:Ex),n+m≤90→EInv c e i X pr p t0 n x→EInv c e i X pr p t0 (n+m) (qxe p i m x)
 | 0,n,x,_,h=>h.kill hiX
 |m+1,n,x,hnm,h=>by
  obtain⟨q,h1,h2⟩:=h.own
  have mono : ∀ {k:Nat} {y:Ex},EInv c e i X pr p t0 k y → ∀l,k≤l→EInv c e i X pr p t0 l y:=by
   intro k y hy l hl
   exact⟨hy.ev,hy.len,hy.own,hy.old,hy.new,by have:=hy.cnt;omega,hy.outs,hy.inc,hy.gone⟩
  rw[qaed p i m x q h1]
  cases hop:p[q.pc.toNat]? with
  |none=>exact mono (h.kill hiX) _ (by omega)
  |some op=>
   have hs:=h.stepR hiX (by omega) he hk hpl hpr h1 hop (ho op (zmg hop))
   simp only
   split
   ·exact mono hs _ (by omega)
   ·have:=EInv.act hiX he hk hpl hpr ho m (n+1) _ (by omega) hs
    rw[show n+(m+1)=n+1+m from by omega];exact this
end
set_option maxRecDepth 10000
def badP (c:Cfg) (q:Pr):Bool:=!(decide (0≤q.prog)&&(decide (q.prog<c.progs.length)&&(decide (0≤q.pc)&&decide (q.pc≤(((c.progs[q.prog.toNat]?).getD []).length:Int)))))
theorem not_lt_zero {x:Int} (h:¬x<0):0≤x:=by omega
set_option maxRecDepth 10000
set_option maxRecDepth 10000
structure Ready (c:Cfg) (x:Lp) (e:Evt):Prop where
 valid:Valid c
 len:x.procs.length≤8
 proc : ∀q∈x.procs,0≤q.prog∧q.prog<c.progs.length∧0≤q.pc∧q.pc≤((c.progs[q.prog.toNat]?).getD []).length∧q.timer.length≤30000
 time:0≤e.time∧e.time≤1152921504606846976
 key:e.key.length≤30000
 arg : ∀q,qxg x e=some q→e.kind=2→0≤e.arg∧e.arg≤((c.progs[q.prog.toNat]?).getD []).length
theorem qamp {c:Cfg} {p:List OpI} {op:OpI} (h:OpFull c p op) (hp:p.length≤16):OpOk' op:=⟨h.code,h.reg,fun k=>by have:=h.to k;omega⟩
section
variable {c:Cfg} {x:Lp} {e:Evt}
theorem qaep {q:Pr} (h:qxg x e=some q):(e.kind=1∨e.kind=2)∧0≤e.proc∧x.procs[e.proc.toNat]? = some q∧q.alive=true:=by
 unfold qxg at h
 split at h
 case isFalse=>cases h
 rename_i hc
 rw[zob]at h
 obtain⟨q',hq,ha⟩:=h
 split at ha
 case isFalse=>cases ha
 rename_i hal
 cases ha
 exact⟨hc.1,hc.2,hq,hal⟩
theorem Ready.ops (h:Ready c x e) {p:List OpI} (hp:p∈c.progs):p.length≤16 ∧ ∀op∈p,OpFull c p op:=⟨(h.valid.prog p hp).2.1,(h.valid.prog p hp).2.2⟩
theorem Ready.plen (h:Ready c x e) (k:Nat):((c.progs[k]?).getD []).length≤16:=by
 cases hk:c.progs[k]? with
 |none=>simp
 |some p=>simpa using (h.ops (zmg hk)).1
theorem Ready.execOk (h:Ready c x e) {q:Pr} (ha:qxg x e=some q):q5n c x e:=
 ⟨by have:=h.len;omega,by have:=h.key;omega,fun q hq=>by obtain⟨a,b,d,f,g⟩:=h.proc q hq;have:=h.plen q.prog.toNat;exact⟨a,b,d,by omega,by omega⟩,
  fun p hp=>⟨by have:=(h.ops hp).1;omega,fun op ho=>qamp ((h.ops hp).2 op ho) (h.ops hp).1⟩,fun k=>by have:=h.arg q ha k;have:=h.plen q.prog.toNat;omega⟩
theorem Ready.inv (h:Ready c x e) {q:Pr} (ha:qxg x e=some q) : ∃(i:Nat) (p:List OpI),e.proc=i∧x.procs[i]? = some q∧p∈c.progs∧c.progs[q.prog.toNat]? = some p∧EInv c e i x.procs q.prog p q.timer 16 (q3h c x e q):=by
 obtain⟨a1,a2,a3,a4⟩:=qaep ha
 obtain⟨i,hi⟩ : ∃i:Nat,e.proc=i:=⟨_,(Int.toNat_of_nonneg a2).symm⟩
 have hin:e.proc.toNat=i:=by omega
 rw[hin]at a3
 obtain⟨p1,p2,p3,p4,p5⟩:=h.proc q (zmg a3)
 obtain⟨p,hp⟩ : ∃p,c.progs[q.prog.toNat]? = some p:=⟨_,zgE (by omega)⟩
 have hpm:=zmg hp
 have hlt:=(zei.1 a3).1
 have hgd:((c.progs[q.prog.toNat]?).getD []).length=p.length:=by rw[hp];rfl
 rw[hgd]at p4
 refine⟨i,p,hi,a3,hpm,hp,?_⟩
 have hrun:q3h c x e q=qxe p i 16 ((qmh x e).setP i (qo3 e q)):=by unfold q3h;rw[hin,hp];rfl
 rw[hrun]
 have hg:q.timer=[]∨qxv q.timer (qmh x e) q.timer:=.inr ⟨by omega,.inr (.inl rfl)⟩
 have h0:EInv c e i x.procs q.prog p q.timer 0 (qmh x e):=by
  refine⟨rfl,⟨wq _,h.len⟩,⟨q,a3,rfl,p3,p4,hg⟩,fun j _ _=>rfl,fun j q' hj hq' => ?_,⟨Int.le_refl 0,Int.le_refl 0,Int.le_refl 0⟩,fun k ev hk=>by simp[qmh]at hk,fun k ev ev' hk=>by simp[qmh]at hk,fun g hg=>by simp[qmh]at hg⟩
  have:=(zei.1 hq').1
  change j<x.procs.length at this
  omega
 have h1:EInv c e i x.procs q.prog p q.timer 0 ((qmh x e).setP i (qo3 e q)):=by
  refine h0.setP hlt (qafl e q) ?_ ?_
  ·unfold qo3;split
   next k=>have:=h.arg q ha k;rw[hgd]at this;exact this
   next=>exact⟨p3,p4⟩
  ·unfold qo3;split
   ·by_cases ht:q.timer=e.key
    ·simp[ht]
    ·simp only[ht,if_false];exact hg
   ·exact hg
 have:=EInv.act hlt h.time (by have:=h.key;omega) (by have:=(h.ops hpm).1;omega) hi (h.ops hpm).2 16 0 _ (by omega) h1
 exact this
theorem ActInv.act {i:Nat} {p:List OpI} (hpl:p.length≤1000) (ho : ∀op∈p,OpOk' op) : ∀(m n:Nat) (y:Ex),ActInv e i n y→ActInv e i (n+m) (qxe p i m y)
 | 0,n,y,h=>by
  obtain⟨q,h1,h2⟩:=h.has
  show ActInv e i n (qwa y i)
  unfold qwa;rw[h1];exact h.pc h1 h2 false
 |m+1,n,y,h=>by
  have mono : ∀ {k:Nat} {z:Ex},ActInv e i k z → ∀l,k≤l→ActInv e i l z:=fun hz l hl=>⟨hz.ev,hz.has,hz.procs,by have:=hz.out;omega,by have:=hz.gone;omega⟩
  obtain⟨q,h1,h2⟩:=h.has
  rw[qaed p i m y q h1]
  cases hop:p[q.pc.toNat]? with
  |none=>
   refine mono (k:=n) ?_ _ (by omega)
   show ActInv e i n (qwa y i)
   unfold qwa;rw[h1];exact h.pc h1 h2 false
  |some op=>
   have hlp:=(zei.1 hop).1
   have hs:=h.stepR h1 ⟨by omega,by omega⟩ (ho op (zmg hop))
   simp only
   split
   ·exact mono hs _ (by omega)
   ·have:=ActInv.act hpl ho m (n+1) _ hs
    rw[show n+(m+1)=n+1+m from by omega];exact this
theorem Ready.goneLen (h:Ready c x e) {q:Pr} (ha:qxg x e=some q):(q3h c x e q).gone.length≤16:=by
 obtain⟨i,p,hi,hq,hpm,hp,_⟩:=h.inv ha
 have hin:e.proc.toNat=i:=by omega
 have hrun:q3h c x e q=qxe p i 16 ((qmh x e).setP i (qo3 e q)):=by unfold q3h;rw[hin,hp];rfl
 have h0:=qae7 c x e (h.execOk ha) hi hq
 have:=ActInv.act (by have:=(h.ops hpm).1;omega) (fun op ho=>qamp ((h.ops hpm).2 op ho) (h.ops hpm).1) 16 0 _ h0
 rw[hrun];have:=this.gone;omega
structure XRes where
 lp:Lp
 out:List Evt
 gone:List (List Int)
 over:Bool
 nil:Bool
def qee (c:Cfg) (x:Lp) (e:Evt):XRes:=
 if e.kind=3 then ⟨⟨x.r0,x.r1,x.procs,w64 (x.sum+e.arg)⟩,[],[],false,true⟩
 else match qxg x e with
  |none=>⟨x,[],[],false,true⟩
  |some q=>⟨endE (q3h c x e q),(q3h c x e q).out,(q3h c x e q).gone,(q3h c x e q).over,false⟩
theorem Exec_ev (h:Ready c x e):qaz (evL T) qeh [(.agg [(.fsl ((c.lps).map lpC) false),(.fsl ((c.progs).map qbu) false),(ii c.look),(ii c.fin),(ii c.cap)]),(.agg [(ii x.r0),(ii x.r1),(.fsl ((x.procs).map Pr.r) false),(ii x.sum)]),(.agg [(ii e.time),(.fsl ((e.key).map qgg) false),(ii e.lp),(ii e.kind),(ii e.proc),(ii e.arg)])]=some (.tup [(.agg [(ii ((qee c x e).lp.r0)),(ii ((qee c x e).lp.r1)),(.fsl (((qee c x e).lp.procs).map Pr.r) false),(ii ((qee c x e).lp.sum))]),(.fsl (((qee c x e).out).map Evt.r) (qee c x e).nil),(.fsl (((qee c x e).gone).map qnv) (qee c x e).nil),(bb ((qee c x e).over))]):=by
 unfold qee
 by_cases hk:e.kind=3
 ·rw[if_pos hk];exact Exec_msg c x e hk
 rw[if_neg hk]
 cases ha:qxg x e with
 |none=>exact qamt c x e hk ha
 |some q=>exact Exec_run c x e (h.execOk ha) ha
theorem Ready.sizes (h:Ready c x e):(qee c x e).lp.procs.length≤8∧(∀q∈(qee c x e).lp.procs,q.timer.length≤40000)∧(qee c x e).out.length≤16∧(∀ev∈(qee c x e).out,ev.key.length≤40000)∧(∀g∈(qee c x e).gone,g.length≤40000)∧(qee c x e).gone.length≤16:=by
 unfold qee
 by_cases hk:e.kind=3
 ·rw[if_pos hk]
  exact⟨h.len,fun q hq=>by have:=(h.proc q hq).2.2.2.2;omega,by simp,fun _ h=>by simp at h,fun _ h=>by simp at h,by simp⟩
 rw[if_neg hk]
 cases ha:qxg x e with
 |none=>exact⟨h.len,fun q hq=>by have:=(h.proc q hq).2.2.2.2;omega,by simp,fun _ h=>by simp at h,fun _ h=>by simp at h,by simp⟩
 |some q=>
  obtain⟨i,p,hi,hq,hpm,hp,hI⟩:=h.inv ha
  refine⟨hI.len.2,fun q' hq' => ?_,by have:=hI.cnt;show (q3h c x e q).out.length≤16;omega,fun ev hev => ?_,fun g hg=>(hI.gone g hg).1,h.goneLen ha⟩
  ·obtain⟨j,hj⟩:=wo.1 hq'
   change (q3h c x e q).procs[j]? = some q' at hj
   by_cases hji:j=i
   ·obtain⟨q2,b1,_,_,_,b5⟩:=hI.own
    subst hji
    rw[hj]at b1;cases b1
    rcases b5 with b5|b5
    ·rw[b5];simp
    ·exact b5.1
   ·by_cases hjl:j<x.procs.length
    ·rw[hI.old j hji hjl]at hj
     have:=(h.proc q' (zmg hj)).2.2.2.2;omega
    ·rw[(hI.new j q' (by omega) hj).2.2.1];simp
  ·obtain⟨k,hk'⟩:=wo.1 hev
   obtain⟨m,hm,_⟩:=(hI.outs k ev hk').key
   rw[hm];have:=h.key;simp;omega
end
set_option maxRecDepth 10000
section
variable {c:Cfg} {x:Lp} {e:Evt}
theorem Ready.cases (h:Ready c x e):(e.kind=3∧qee c x e=⟨⟨x.r0,x.r1,x.procs,w64 (x.sum+e.arg)⟩,[],[],false,true⟩)∨(¬e.kind=3∧qxg x e=none∧qee c x e=⟨x,[],[],false,true⟩) ∨
  ∃q,¬e.kind=3∧qxg x e=some q∧qee c x e=⟨endE (q3h c x e q),(q3h c x e q).out,(q3h c x e q).gone,(q3h c x e q).over,false⟩:=by
 unfold qee
 by_cases hk:e.kind=3
 ·exact .inl ⟨hk,if_pos hk⟩
 ·rw[if_neg hk]
  cases ha:qxg x e with
  |none=>exact .inr (.inl ⟨hk,rfl,rfl⟩)
  |some q=>exact .inr (.inr ⟨q,hk,rfl,rfl⟩)
theorem Ready.outs (h:Ready c x e) : ∃X:Ex,X.procs=(qee c x e).lp.procs∧(∀k ev,(qee c x e).out[k]? = some ev→EvOk c e X k ev) ∧
  ∀k ev ev',(qee c x e).out[k]? = some ev→(qee c x e).out[k+1]? = some ev' → ∃m m',ev.key=e.key++[m]∧ev'.key=e.key++[m']∧m<m':=by
 rcases h.cases with ⟨_,hx⟩|⟨_,_,hx⟩|⟨q,_,ha,hx⟩
 ·rw[hx];exact⟨qmh x e,rfl,fun k ev hk=>by simp at hk,fun k ev ev' hk=>by simp at hk⟩
 ·rw[hx];exact⟨qmh x e,rfl,fun k ev hk=>by simp at hk,fun k ev ev' hk=>by simp at hk⟩
 ·rw[hx]
  obtain⟨i,p,hi,hq,hpm,hp,hI⟩:=h.inv ha
  exact⟨q3h c x e q,rfl,hI.outs,hI.inc⟩
theorem Ready.state (h:Ready c x e):x.procs.length≤(qee c x e).lp.procs.length ∧ ∀(j:Nat) (q':Pr),(qee c x e).lp.procs[j]? = some q' →
  (badP c q'=false∧(x.procs.length≤j→q'.alive=true∧q'.pc=0) ∧ ∀q,x.procs[j]? = some q→q'.prog=q.prog∧((j:Int)≠e.proc→q'=q)):=by
 have old : ∀q∈x.procs,badP c q=false:=by
  intro q hq
  obtain⟨a,b,d,f,g⟩:=h.proc q hq
  simp only[badP,a,b,d,f,zgv,zfc,Bool.not_true]
 rcases h.cases with ⟨_,hx⟩|⟨_,_,hx⟩|⟨q0,_,ha,hx⟩
 ·rw[hx]
  refine⟨wq _,fun j q' hj=>⟨old q' (zmg hj),fun hl => ?_,fun q hq => ?_⟩⟩
  ·have:=(zei.1 hj).1;simp only at this;omega
  ·simp only at hj;rw[hq]at hj;cases hj;exact⟨rfl,fun _=>rfl⟩
 ·rw[hx]
  refine⟨wq _,fun j q' hj=>⟨old q' (zmg hj),fun hl => ?_,fun q hq => ?_⟩⟩
  ·have:=(zei.1 hj).1;simp only at this;omega
  ·simp only at hj;rw[hq]at hj;cases hj;exact⟨rfl,fun _=>rfl⟩
 ·rw[hx]
  obtain⟨i,p,hi,hq0,hpm,hp,hI⟩:=h.inv ha
  have hlt:=(zei.1 hq0).1
  obtain⟨p1,p2,p3,p4,p5⟩:=h.proc q0 (zmg hq0)
  refine⟨hI.len.1,fun j q' hj => ?_⟩
  change (q3h c x e q0).procs[j]? = some q' at hj
  by_cases hji:j=i
  ·subst hji
   obtain⟨q2,b1,b2,b3,b4,b5⟩:=hI.own
   rw[hj]at b1;cases b1
   refine⟨?_,fun hl=>by omega,fun q hq => ?_⟩
   ·simp only[badP,b2,b3,b4,hp,p1,p2,Option.getD_some,zgv,zfc,Bool.not_true]
   ·rw[hq0]at hq;cases hq;exact⟨b2,fun hne=>absurd hi.symm hne⟩
  ·by_cases hjl:j<x.procs.length
   ·rw[hI.old j hji hjl]at hj
    refine⟨old q' (zmg hj),fun hl=>by omega,fun q hq => ?_⟩
    rw[hq]at hj;cases hj;exact⟨rfl,fun _=>rfl⟩
   ·obtain⟨n1,n2,n3,n4,n5⟩:=hI.new j q' (by omega) hj
    refine⟨?_,fun _=>⟨n1,n2⟩,fun q hq => ?_⟩
    ·simp[badP,n2,n4,n5]
    ·have:=(zei.1 hq).1;omega
end
set_option maxRecDepth 10000
structure TOk (e:Evt) (L:Nat) (ev:Evt):Prop where
 tim:ev.kind=2→ev.proc=e.proc∧0≤ev.arg∧ev.arg<L
 msg:ev.kind=3→ev.proc=0
def qyi (e:Evt) (L B:Nat) (x:Ex):Prop:=x.ev=e∧(∀ev∈x.out,TOk e L ev) ∧ ∀q∈x.procs,q.timer.length≤B
section
variable {e:Evt} {L B:Nat} {x:Ex}
theorem qyi.same (h:qyi e L B x) {y:Ex} (h1:y.ev=x.ev) (h2:y.out=x.out) (h3:y.procs=x.procs):qyi e L B y:=⟨by rw[h1];exact h.1,by rw[h2];exact h.2.1,by rw[h3];exact h.2.2⟩
theorem qyi.setP (h:qyi e L B x) (i:Nat) {q:Pr} (hq:q.timer.length≤B):qyi e L B (x.setP i q):=by
 refine⟨h.1,h.2.1,fun q' hq' => ?_⟩
 rcases List.mem_or_eq_of_mem_set hq' with hq'|rfl
 ·exact h.2.2 q' hq'
 ·exact hq
theorem qyi.at (h:qyi e L B x) {i:Nat} {q:Pr} (hq:x.procs[i]? = some q):q.timer.length≤B:=h.2.2 q (zmg hq)
theorem qyi.create (h:qyi e L B x) (d:Int) {s:Evt} (hs:s.kind=2→s.proc=e.proc∧0≤s.arg∧s.arg<L) (hm:s.kind=3→s.proc=0):qyi e L B (x.create d s):=by
 refine⟨h.1,fun ev hev => ?_,h.2.2⟩
 unfold Ex.create at hev
 simp only at hev
 split at hev
 ·exact h.2.1 ev hev
 ·rcases wv.1 hev with hev|hev
  ·exact h.2.1 ev hev
  ·rw[List.mem_singleton]at hev;subst hev;exact⟨hs,hm⟩
theorem qyi.stop (h:qyi e L B x) (i:Nat) (q:Pr):qyi e L B (x.stopE i q):=by
 unfold Ex.stopE;split
 ·exact qyi.same (h.setP i (q:={ q with timer:=[] }) (wD _)) rfl rfl rfl
 ·exact h
theorem qyi.kill (h:qyi e L B x) (i:Nat):qyi e L B (qwa x i):=by
 unfold qwa;split
 next q hq=>exact h.setP i (q:={ q with alive:=false }) (show q.timer.length≤B from h.at hq)
 ·exact h
theorem qyi.step (h:qyi e L B x) (i:Nat) (q:Pr) (op:OpI) (hq:q.timer.length≤B) (hB:e.key.length+1≤B) (ho:op.code=3→0≤op.b∧op.b<L):qyi e L B (qgh x i q op).1:=by
 have he:=h.1
 unfold qgh
 split
 ·exact h.create _ (fun k=>absurd k (by show ¬(1:Int)=2;decide)) (fun k=>absurd k (by show ¬(1:Int)=3;decide))
 split
 ·exact h.create _ (fun k=>absurd k (by show ¬(3:Int)=2;decide)) (fun _=>rfl)
 split
 next k=>
  show qyi e L B (x.timerE i q op)
  unfold Ex.timerE
  refine qyi.setP ((h.stop i q).create op.a (s:=x.ownE 2 x.ev.proc op.b) (fun _=>⟨by show x.ev.proc=e.proc;rw[he],ho k⟩) (fun k=>absurd k (by show ¬(2:Int)=3;decide))) i ?_
  show (x.stopE i q).kid.length≤B
  unfold Ex.kid
  rw[(h.stop i q).1];simp;exact hB
 split
 ·exact h.stop i q
 split
 ·show qyi e L B (x.spawnE op)
  unfold Ex.spawnE;split
  ·have h2:qyi e L B ({ x with procs:=x.procs++[⟨op.a,0,true,[]⟩] }:Ex):=by
    refine⟨h.1,h.2.1,fun q' hq' => ?_⟩
    rcases wv.1 hq' with hq'|hq'
    ·exact h.2.2 q' hq'
    ·rw[List.mem_singleton]at hq';subst hq';exact wD _
   exact h2.create _ (fun k=>absurd k (by show ¬(1:Int)=2;decide)) (fun k=>absurd k (by show ¬(1:Int)=3;decide))
  ·exact h
 split
 ·show qyi e L B (x.setReg _ _)
  unfold Ex.setReg;split<;>exact h.same rfl rfl rfl
 split
 ·show qyi e L B (if _ then _ else _)
  split
  ·exact h.setP i (q:={ q with pc:=op.c }) hq
  ·exact h
 ·exact h
theorem qyi.act {p:List OpI} (hB:e.key.length+1≤B) (ho : ∀op∈p,op.code=3→0≤op.b∧op.b<L) (i:Nat) : ∀(m:Nat) {x:Ex},qyi e L B x→qyi e L B (qxe p i m x)
 | 0,x,h=>h.kill i
 |m+1,x,h=>by
  unfold qxe
  split
  ·exact h
  rename_i q hq
  split
  ·exact h.kill i
  rename_i op hop
  have h0:qyi e L B (x.setP i { q with pc:=w64 (q.pc+1) }):=h.setP i (show q.timer.length≤B from h.at hq)
  have hs:=h0.step i { q with pc:=w64 (q.pc+1) } op (show q.timer.length≤B from h.at hq) hB (ho op (zmg hop))
  split
  ·exact hs
  split
  ·exact hs.kill i
  ·exact qyi.act hB ho i m hs
end
theorem Ready.tims {c:Cfg} {x:Lp} {e:Evt} (h:Ready c x e) {B:Nat} (hB:e.key.length+1≤B) (hx : ∀q∈x.procs,q.timer.length≤B):(∀ev∈(qee c x e).out,(ev.kind=3→ev.proc=0)∧(ev.kind=2 → ∃q p,x.procs[e.proc.toNat]? = some q∧c.progs[q.prog.toNat]? = some p∧ev.proc=e.proc∧0≤ev.arg∧ev.arg<p.length)) ∧ ∀q∈(qee c x e).lp.procs,q.timer.length≤B:=by
 rcases h.cases with ⟨_,hx'⟩|⟨_,_,hx'⟩|⟨q,_,ha,hx'⟩
 ·rw[hx'];exact⟨fun ev hev=>by simp at hev,hx⟩
 ·rw[hx'];exact⟨fun ev hev=>by simp at hev,hx⟩
 ·rw[hx']
  obtain⟨i,p,hi,hq,hpm,hp,_⟩:=h.inv ha
  have hw:(qo3 e q).timer.length≤B:=by
   have:=hx q (zmg hq)
   unfold qo3;split
   ·show (if q.timer=e.key then []else q.timer).length≤B
    split
    ·exact wD _
    ·exact this
   ·exact this
  have h0:qyi e p.length B (qmh x e):=⟨rfl,fun ev hev=>(by cases hev),hx⟩
  have hT:qyi e p.length B (q3h c x e q):=by
   unfold q3h
   rw[hp]
   exact qyi.act hB (fun op ho k=>by have:=((h.ops hpm).2 op ho).timer k;exact⟨this.2.2.1,this.2.2.2⟩) _ 16 (h0.setP e.proc.toNat hw)
  refine⟨fun ev hev => ?_,hT.2.2⟩
  have:=hT.2.1 ev hev
  exact⟨this.msg,fun k=>⟨q,p,by rw[hi,Int.toNat_natCast];exact hq,hp,this.tim k⟩⟩
set_option maxRecDepth 10000
section
variable (g:Nat) (cl:Bool) (n:Nat)
def qjn (D:List Evt):Prop:=∀x∈D,x.key.length≤9223372036854775807
theorem q9n (P S Q:List Evt) (x:Evt) (hn:n=(P++(S++x::Q)).length) (hb:n<2^61) (hk:qjn (P++(S++x::Q))) (hS:S.Pairwise leE) (a:Nat) (ha:a=P.length) (b i:Int) :
  ∃y,itB (exec (evL T) itL none qbl) (qao [0,1,2,3,8,9] true 1) ⟨[(0,.sl 0 g 0 n cl),(1,(ii a)),(2,(ii b)),(3,(.fn (.func qd) [] [])),(8,(ii i)),(9,(ii ((a+S.length:Nat))))],[]⟩ [.row 6 ((P++(S++x::Q)).map Evt.r) g]=some y ∧
   (y.1 = .exit 2∧y.2.1.marks=[]∧we y.2.1.vars 0=some (.sl 0 g 0 n cl)∧we y.2.1.vars 1=some (ii a)∧we y.2.1.vars 2=some (ii b)∧we y.2.1.vars 3=some (.fn (.func qd) [] [])∧we y.2.1.vars 8=some (ii i) ∧ ∃S':List Evt,S'.Perm (x::S)∧S'.Pairwise leE∧y.2.2=[.row 6 ((P++(S'++Q)).map Evt.r) g]):=by
 refine qe1 (τ:=List Evt×Nat) (fun s=>⟨[(0,.sl 0 g 0 n cl),(1,(ii a)),(2,(ii b)),(3,(.fn (.func qd) [] [])),(8,(ii i)),(9,(ii s.2))],[]⟩) (fun s=>[.row 6 ((s.1).map Evt.r) g]) (fun s=>s.2)
  (fun s => ∃A B,s.1=P++(A++x::(B++Q))∧s.2=a+A.length∧A++B=S ∧ ∀v,B[0]? = some v→leE x v) _ ?_ (P++(S++x::Q),a+S.length) ⟨S,[],by simp,rfl,by simp,by simp⟩
 rintro⟨D,j⟩ ⟨A,B,hD,hj,hAB,hB⟩
 simp only at hD hj⊢
 have hlen:n=P.length+(S.length+(Q.length+1)):=by rw[hn];simp
 have hSl:S.length=A.length+B.length:=by rw[←hAB];simp
 have fin:(∀u,A[A.length-1]? = some u→leE u x) → ∃S':List Evt,S'.Perm (x::S)∧S'.Pairwise leE∧([.row 6 ((D).map Evt.r) g]:qf)=[.row 6 ((P++(S'++Q)).map Evt.r) g]:=fun h=>by
  refine⟨A++x::B,?_,qou qwn (by rw[hAB];exact hS) h hB,by rw[hD];simp⟩
  rw[←hAB];exact List.perm_middle
 rcases List.eq_nil_or_concat A with rfl|⟨A0,y,rfl⟩
 ·have h1:¬(j:Int)>(a:Int):=by simp at hj;omega
  refine .inr ?_
  simp only[qbl,h1,wf,zgy,↓qc,↓wb,wa,wc]
  exact⟨_,rfl,rfl,rfl,rfl,rfl,rfl,rfl,rfl,fin (by simp)⟩
 ·simp only[List.concat_eq_append,zgp,zga,zgb]at hD hj hSl hAB fin
  obtain⟨k,hk1⟩ : ∃k,k=a+A0.length:=⟨_,rfl⟩
  have hjk:j=k+1:=by omega
  have h1:(j:Int)>(a:Int):=by omega
  have e1:D=(P++A0)++y::x::(B++Q):=by rw[hD];simp
  have l1:k=(P++A0).length:=by simp;omega
  have gy:D[k]? = some y:=qkj e1 l1
  have gx:D[j]? = some x:=qkj (L:=P++A0++[y]) (M:=B++Q) (by rw[e1];simp) (by simp;omega)
  have ge:D.length=n:=by rw[e1,hlen];simp;omega
  have ws:IntKind.i64.wrap ((j:Int)-1)=(k:Int):=qpq hjk (by omega)
  have rj:j<n:=by omega
  have rk:k<n:=by omega
  have kx:x.key.length≤9223372036854775807:=hk x (by simp)
  have ky:y.key.length≤9223372036854775807:=hk y (by rw[←hAB];simp)
  have hc:=qm4 x y kx ky 6 (D.map Evt.r) g
  have sw:=q3f e1 l1 hjk
  have hne:¬(j=k):=by omega
  by_cases hlt:q65 x y<0
  ·left
   have hle:=qaie x y hlt
   obtain⟨x',rfl⟩ : ∃z,x=z:=⟨x,rfl⟩
   have hlo:=qa1 1 ((D.set j y).set k x)
   refine⟨((D.set j y).set k x,k),?_,⟨A0,y::B,by rw[sw];simp,hk1,by rw[←hAB];simp,fun v hv=>by simp at hv;rw[←hv];exact hle⟩,by simp only;omega⟩
   obtain⟨xt,xk,xl,xi,xp,xa⟩:=x
   obtain⟨yt,yk,yl,yi,yp,ya⟩:=y
   have hs : ∀v,((D.map Evt.r).set j v)[k]? = some (Evt.r ⟨yt,yk,yl,yi,yp,ya⟩):=fun v=>by rw[wu hne,List.getElem?_map,gy];rfl
   simp only[wJ,Evt.r]at hlo
   simp only at hc
   simp only[qbl,zgs,zgr,zgq,zgt,gx,gy,hs,h1,ws,rj,rk,hc,hlt,hlo,wJ,Evt.r,wf,Ev.stP,qb,wi,wj,wl,zgy,↓qc,↓wb,wd,wa,wc]
  ·right
   have hf:=fin (fun u hu=>by simp at hu;rw[←hu];exact qz0 x y hlt)
   obtain⟨xt,xk,xl,xi,xp,xa⟩:=x
   obtain⟨yt,yk,yl,yi,yp,ya⟩:=y
   simp only at hc
   simp only[qbl,zgs,zgr,zgq,zgt,gx,gy,h1,ws,rj,rk,hc,hlt,Evt.r,wf,qb,zgy,↓qc,↓wb,wd,wa,wc]
   exact⟨_,rfl,rfl,rfl,rfl,rfl,rfl,rfl,rfl,hf⟩
theorem q5l (P S Q:List Evt) (hn:n=(P++(S++Q)).length) (hb:n<2^61) (hk:qjn (P++(S++Q))) (a b:Nat) (ha:a=P.length) (hbb:b=a+S.length) :
  ∃S':List Evt,S'.Perm S∧S'.Pairwise leE∧(evL T).call qab [.sl 0 g 0 n cl,(ii a),(ii b),(.fn (.func qd) [] [])] [.row 6 ((P++(S++Q)).map Evt.r) g]=some (.tup [],[.row 6 ((P++(S'++Q)).map Evt.r) g]):=by
 have hlen:n=P.length+(S.length+Q.length):=by rw[hn];simp
 have key:=qe1 (f:=exec (evL T) itL none qbk) (s:=qao [0,1,2,3,8] true 1) (τ:=List Evt×Nat)
  (fun s=>⟨[(0,.sl 0 g 0 n cl),(1,(ii a)),(2,(ii b)),(3,(.fn (.func qd) [] [])),(8,(ii s.2))],[]⟩) (fun s=>[.row 6 ((s.1).map Evt.r) g]) (fun s=>b-s.2)
  (fun s=>(∃A B,s.1=P++(A++(B++Q))∧s.2=a+A.length∧(A++B).Perm S∧A.Pairwise leE)∨S=[]∧s.1=P++Q∧s.2=a+1)
  (fun y=>y.1 = .exit 0∧y.2.1.marks=[] ∧ ∃S':List Evt,S'.Perm S∧S'.Pairwise leE∧y.2.2=[.row 6 ((P++(S'++Q)).map Evt.r) g]) ?_ (P++(S++Q),a+1) ?_
 ·obtain⟨⟨y,e,σ⟩,k1,k2,k3,S',k4,k5,k6⟩:=key
  simp only at k1 k2 k3 k6
  subst k2;subst k6
  refine⟨S',k4,k5,?_⟩
  have w1:IntKind.i64.wrap ((a:Int)+1)=((a+1:Nat):Int):=qge (by omega)
  rw[qg qkp qj9]
  simp only[qcz,w1,k1,k3,qa1,wf,ql,wl,zgy,↓qc,↓qx,↓wb,wd,wa,wc]
 ·rintro⟨D,i⟩ (⟨A,B,hD,hi,hAB,hA⟩|⟨hS,hD,hi⟩)
  ·simp only at hD hi⊢
   have hl:=hAB.length_eq
   rw[wg]at hl
   cases B with
   |nil=>
    have h1:¬(i:Int)<(b:Int):=by simp at hl;omega
    right
    simp only[qbk,h1,wf,zgy,↓qc,↓wb,wa,wc]
    exact⟨_,rfl,rfl,rfl,A,by simpa using hAB,hA,by rw[hD];simp⟩
   |cons x B=>
    rw[wF]at hl
    have h1:(i:Int)<(b:Int):=by omega
    have hkD:qjn (P++(A++x::(B++Q))):=by
     intro z hz
     refine hk z ?_
     simp only[wv,List.mem_cons]at hz⊢
     have:=hAB.mem_iff (a:=z)
     simp only[wv,List.mem_cons]at this
     rcases hz with h|h|h|h|h
     ·exact .inl h
     ·exact .inr (.inl (this.1 (.inl h)))
     ·exact .inr (.inl (this.1 (.inr (.inl h))))
     ·exact .inr (.inl (this.1 (.inr (.inr h))))
     ·exact .inr (.inr h)
    obtain⟨⟨y,e,σ⟩,k1,k2,k3,k4,k5,k6,k7,k8,S',k9,k10,k11⟩:=q9n g cl n P A (B++Q) x (by rw[hlen];simp;omega) hb hkD hA a ha b i
    simp only at k1 k2 k3 k4 k5 k6 k7 k8 k11
    subst k2;subst k11
    have w1:IntKind.i64.wrap ((i:Int)+1)=((i+1:Nat):Int):=qge (by omega)
    left
    refine⟨(P++(S'++(B++Q)),i+1),?_,.inl ⟨S',B,rfl,?_,?_,k10⟩,?_⟩
    ·rw[←hi]at k1
     rw[hD]
     simp only[zgm]at k1⊢
     simp only[qbk,h1,w1,k1,k3,k4,k5,k6,k7,k8,qa1,wf,wl,zgy,↓qc,↓qx,↓wb,wa,wc]
    ·have:=k9.length_eq;rw[wF]at this;simp only;omega
    ·exact((k9.append_right B).trans List.perm_middle.symm).trans hAB
    ·simp only;omega
  ·simp only at hD hi⊢
   subst hS
   have h1:¬(i:Int)<(b:Int):=by simp at hbb;omega
   right
   simp only[qbk,h1,wf,zgy,↓qc,↓wb,wa,wc]
   exact⟨_,rfl,rfl,rfl,[],List.Perm.nil,List.Pairwise.nil,by rw[hD];simp⟩
 ·cases S with
  |nil=>exact .inr ⟨rfl,by simp,rfl⟩
  |cons x S=>exact .inl ⟨[x],S,by simp,by simp,by simp,List.pairwise_singleton _ _⟩
end
set_option maxRecDepth 10000
section
variable (g:Nat) (cl:Bool) (n:Nat)
theorem qakz (L X Y N:List Evt) (hX:0<X.length) (hY:0<Y.length) (hn:n=(L++(X++(Y++N))).length) (hb:n<2^61) (a m b:Nat) (ha:a=L.length) (hm:m=a+X.length) (hbb:b=m+Y.length) :
  (evL T).call qax [.sl 0 g 0 n cl,(ii a),(ii m),(ii b),(.fn (.func qd) [] [])] [.row 6 ((L++(X++(Y++N))).map Evt.r) g]=some (.tup [],[.row 6 ((L++(Y++(X++N))).map Evt.r) g]):=by
 have hlen:n=L.length+(X.length+(Y.length+N.length)):=by rw[hn];simp
 have key:=qe1 (f:=exec (evL T) itL none qce) (s:=qao [0,2,4,10,11] true 1) (τ:=List Evt×Nat×Nat)
  (fun s=>⟨[(0,.sl 0 g 0 n cl),(2,(ii m)),(4,(.fn (.func qd) [] [])),(10,(ii s.2.1)),(11,(ii s.2.2))],[]⟩) (fun s=>[.row 6 ((s.1).map Evt.r) g]) (fun s=>s.2.1+s.2.2)
  (fun s => ∃L' X' Y' N',s.1=L'++(X'++(Y'++N'))∧s.2.1=X'.length∧s.2.2=Y'.length∧0<X'.length∧0<Y'.length∧m=L'.length+X'.length∧L'++(Y'++(X'++N'))=L++(Y++(X++N)))
  (fun y => ∃i:Nat,y.1 = .exit 0∧y.2.1.marks=[]∧we y.2.1.vars 0=some (.sl 0 g 0 n cl)∧we y.2.1.vars 2=some (ii m)∧we y.2.1.vars 4=some (.fn (.func qd) [] [])∧we y.2.1.vars 10=some (ii i) ∧
   ∃L' X' Y' N':List Evt,y.2.2=[.row 6 ((L'++(X'++(Y'++N'))).map Evt.r) g]∧i=X'.length∧i=Y'.length∧m=L'.length+X'.length∧L'++(Y'++(X'++N'))=L++(Y++(X++N))) ?_ (L++(X++(Y++N)),X.length,Y.length) ⟨L,X,Y,N,rfl,rfl,rfl,hX,hY,by omega,rfl⟩
 ·obtain⟨⟨y,e,σ⟩,k1,i,k2,k3,k4,k5,k6,k7,L',X',Y',N',k8,k9,k10,k11,k12⟩:=key
  simp only at k1 k2 k3 k4 k5 k6 k7 k8
  subst k2;subst k8
  have hl2:=congrArg List.length k12
  simp only[zgp]at hl2
  have w1:IntKind.i64.wrap ((m:Int)-(a:Int))=(X.length:Int):=qgz hm (by omega)
  have w2:IntKind.i64.wrap ((b:Int)-(m:Int))=(Y.length:Int):=qgz hbb (by omega)
  have w3:IntKind.i64.wrap ((m:Int)-(i:Int))=(L'.length:Int):=qgz (by omega) (by omega)
  have sw:=qym g cl n L' X' [] Y' N' (by omega) (by simp;omega) hb L'.length m rfl (by simp;omega)
  simp only[zgl]at sw
  rw[←k9,k12]at sw
  rw[qg qnj qmz]
  simp only[qd7,w1,w2,w3,k1,k3,k4,k5,k6,k7,sw,qa1,wf,ql,wl,zgy,↓qc,↓qx,↓wb,wd,wa,wc]
 ·rintro⟨D,i,j⟩ ⟨L',X',Y',N',hD,hi,hj,hX',hY',hm',heq⟩
  simp only at hD hi hj⊢
  have hl2:=congrArg List.length heq
  simp only[zgp]at hl2
  by_cases hij:i=j
  ·right
   have h1:(i:Int)=(j:Int):=by omega
   subst hij
   simp only[qce,wf,ne_eq,zgy,↓qc,↓wb,wa,wc]
   exact⟨_,rfl,i,rfl,rfl,rfl,rfl,rfl,rfl,L',X',Y',N',by rw[hD],hi,hj,hm',heq⟩
  have h1:¬(i:Int)=(j:Int):=by omega
  left
  by_cases hgt:j<i
  ·have h2:(i:Int)>(j:Int):=by omega
   obtain⟨X1,X2,rfl,hX1⟩ : ∃X1 X2,X'=X1++X2∧X1.length=j:=⟨X'.take j,X'.drop j,(wr _ _).symm,by simp;omega⟩
   rw[wg]at hi hX' hm' hl2
   have sw:=qym g cl n L' X1 X2 Y' N' (by omega) (by simp;omega) hb L'.length m rfl (by omega)
   rw[show L'++(X1++(X2++(Y'++N')))=D by rw[hD];simp,hX1]at sw
   have w3:IntKind.i64.wrap ((m:Int)-(i:Int))=(L'.length:Int):=qgz (by omega) (by omega)
   have w4:IntKind.i64.wrap ((i:Int)-(j:Int))=(X2.length:Int):=qgz (by omega) (by omega)
   refine⟨(L'++(Y'++(X2++(X1++N'))),X2.length,j),?_,⟨L'++Y',X2,X1,N',by simp,rfl,hX1.symm,by omega,by omega,by simp;omega,by rw[←heq];simp⟩,by first|omega|(simp only;omega)⟩
   simp only[qce,h1,h2,w3,w4,sw,qa1,wf,wl,ne_eq,zgy,↓qc,↓wb,wa,wc]
  ·have h2:¬(i:Int)>(j:Int):=by omega
   obtain⟨Y1,Y2,rfl,hY2⟩ : ∃Y1 Y2,Y'=Y1++Y2∧Y2.length=i:=⟨Y'.take (j-i),Y'.drop (j-i),(wr _ _).symm,by simp;omega⟩
   rw[wg]at hj hY' hl2
   have sw:=qym g cl n L' X' Y1 Y2 N' (by omega) (by simp;omega) hb L'.length (m+Y1.length) rfl (by omega)
   rw[show L'++(X'++(Y1++(Y2++N')))=D by rw[hD];simp,←hi]at sw
   have w3:IntKind.i64.wrap ((m:Int)-(i:Int))=(L'.length:Int):=qgz (by omega) (by omega)
   have w4:IntKind.i64.wrap ((m:Int)+(j:Int))=((m+j:Nat):Int):=qg4 (by omega)
   have w5:IntKind.i64.wrap (((m+j:Nat):Int)-(i:Int))=((m+Y1.length:Nat):Int):=qgz (by omega) (by omega)
   have w6:IntKind.i64.wrap ((j:Int)-(i:Int))=(Y1.length:Int):=qgz (by omega) (by omega)
   refine⟨(L'++(Y2++(Y1++(X'++N'))),i,Y1.length),?_,⟨L',Y2,Y1,X'++N',rfl,hY2.symm,rfl,by omega,by omega,by omega,by rw[←heq];simp⟩,by first|omega|(simp only;omega)⟩
   simp only[qce,h1,h2,w3,w4,w5,w6,sw,qa1,wf,wl,ne_eq,zgy,↓qc,↓wb,wa,wc]
end
set_option maxRecDepth 10000
theorem q7g (s h:Nat) (hh:h=s / 2):qn2 .shr (.v (.int .u64 (s:Int))) (.v (.int .u64 1))=some (.v (.int .u64 (h:Int))):=by
 subst hh
 show (if (1:Int)<0 then none else some (AV.v (.int .u64 ((s:Int).fdiv (2^(min (1:Int).toNat IntKind.u64.bits)))))) = _
 rw[if_neg (by omega),show (2:Int)^(min (1:Int).toNat IntKind.u64.bits)=2 from rfl,Int.fdiv_eq_ediv_of_nonneg _ (by omega)]
 rw[show (s:Int) / 2=((s / 2:Nat):Int) by omega]
theorem q2w {n:Nat} (h:n<2^63):IntKind.u64.wrap (n:Int)=(n:Int):=by
 have h3:IntKind.u64.bits=64:=rfl
 have h4:IntKind.u64.signed=false:=rfl
 simp only[IntKind.wrap,h3,h4,wH,zfa,if_false]
 omega
theorem q2k {n:Nat} (h:n<2^63):IntKind.i64.wrap (n:Int)=(n:Int):=qk (by omega) (by omega)
section
variable (g:Nat) (cl:Bool) (n:Nat)
theorem qagi (D:List Evt) (x:Evt) (hn:n=D.length) (hb:n<2^61) (hk:qjn D) (a m b:Nat) (ha:D[a]? = some x) (hmb:m≤b) (hbn:b≤n) (han:a<n) :
  ∃y,itB (exec (evL T) itL none qb1) (qao [0,1,4,10,11] true 1) ⟨[(0,.sl 0 g 0 n cl),(1,(ii a)),(4,(.fn (.func qd) [] [])),(10,(ii m)),(11,(ii b))],[]⟩ [.row 6 ((D).map Evt.r) g]=some y ∧
   ∃i:Nat,y.1 = .exit 0∧y.2.1.marks=[]∧y.2.2=[.row 6 ((D).map Evt.r) g]∧we y.2.1.vars 0=some (.sl 0 g 0 n cl)∧we y.2.1.vars 1=some (ii a)∧we y.2.1.vars 10=some (ii i)∧m≤i∧i≤b∧(i=m ∨ ∀v,D[i-1]? = some v→leE v x)∧(i=b ∨ ∀v,D[i]? = some v→leE x v):=by
 refine qe1 (τ:=Nat×Nat) (fun s=>⟨[(0,.sl 0 g 0 n cl),(1,(ii a)),(4,(.fn (.func qd) [] [])),(10,(ii s.1)),(11,(ii s.2))],[]⟩) (fun _=>[.row 6 ((D).map Evt.r) g]) (fun s=>s.2-s.1)
  (fun s=>m≤s.1∧s.1≤s.2∧s.2≤b∧(s.1=m ∨ ∀v,D[s.1-1]? = some v→leE v x)∧(s.2=b ∨ ∀v,D[s.2]? = some v→leE x v)) _ ?_ (m,b) ⟨wq _,hmb,wq _,.inl rfl,.inl rfl⟩
 rintro⟨i,j⟩ ⟨h1,h2,h3,h4,h5⟩
 simp only at h1 h2 h3 h4 h5⊢
 by_cases hij:i<j
 case neg=>
  have c1:¬(i:Int)<(j:Int):=by omega
  right
  simp only[qb1,c1,wf,zgy,↓qc,↓wb,wa,wc]
  refine⟨_,rfl,i,rfl,rfl,rfl,rfl,rfl,rfl,h1,by omega,h4,?_⟩
  obtain rfl:i=j:=by omega
  exact h5
 obtain⟨h,hh⟩ : ∃h,h=(i+j) / 2:=⟨_,rfl⟩
 have c1:(i:Int)<(j:Int):=by omega
 obtain⟨y,hy⟩ : ∃y,D[h]? = some y:=⟨_,zgE (by omega)⟩
 have w1:IntKind.i64.wrap ((i:Int)+(j:Int))=((i+j:Nat):Int):=qg4 (by omega)
 have w2:IntKind.u64.wrap ((i+j:Nat):Int)=((i+j:Nat):Int):=q2w (by omega)
 have w3:=q7g (i+j) h hh
 have w4:IntKind.i64.wrap (h:Int)=(h:Int):=q2k (by omega)
 have w5:IntKind.i64.wrap ((h:Int)+1)=((h+1:Nat):Int):=qge (by omega)
 have rh:h<n:=by omega
 have kx:x.key.length≤9223372036854775807:=hk x (zmg ha)
 have ky:y.key.length≤9223372036854775807:=hk y (zmg hy)
 have hc:=qm4 y x ky kx 6 (D.map Evt.r) g
 left
 by_cases hlt:q65 y x<0
 ·refine⟨(h+1,j),?_,⟨by simp only;omega,by simp only;omega,h3,.inr fun v hv => ?_,h5⟩,by simp only;omega⟩
  ·obtain⟨xt,xk,xl,xi,xp,xa⟩:=x
   obtain⟨yt,yk,yl,yi,yp,ya⟩:=y
   simp only at hc
   simp only[qb1,zgs,zgr,zgq,zgt,ha,hy,c1,w1,w2,w3,w4,w5,rh,han,hc,hlt,Evt.r,qa1,wf,qb,wl,zgy,↓qc,↓wb,wd,wa,wc]
  ·simp only[Nat.add_sub_cancel]at hv
   rw[hy]at hv;cases hv;exact qaie y x hlt
 ·refine⟨(i,h),?_,⟨h1,by simp only;omega,by simp only;omega,h4,.inr fun v hv => ?_⟩,by simp only;omega⟩
  ·obtain⟨xt,xk,xl,xi,xp,xa⟩:=x
   obtain⟨yt,yk,yl,yi,yp,ya⟩:=y
   simp only at hc
   simp only[qb1,zgs,zgr,zgq,zgt,ha,hy,c1,w1,w2,w3,w4,rh,han,hc,hlt,Evt.r,qa1,wf,qb,wl,zgy,↓qc,↓wb,wd,wa,wc]
  ·simp only at hv
   rw[hy]at hv;cases hv;exact qz0 y x hlt
theorem qag2 (D:List Evt) (x:Evt) (hn:n=D.length) (hb:n<2^61) (hk:qjn D) (a m:Nat) (hm:D[m]? = some x) (ham:a≤m) (hmn:m<n) :
  ∃y,itB (exec (evL T) itL none qb2) (qao [0,2,4,14,15] true 1) ⟨[(0,.sl 0 g 0 n cl),(2,(ii m)),(4,(.fn (.func qd) [] [])),(14,(ii a)),(15,(ii m))],[]⟩ [.row 6 ((D).map Evt.r) g]=some y ∧
   ∃i:Nat,y.1 = .exit 4∧y.2.1.marks=[]∧y.2.2=[.row 6 ((D).map Evt.r) g]∧we y.2.1.vars 0=some (.sl 0 g 0 n cl)∧we y.2.1.vars 2=some (ii m)∧we y.2.1.vars 14=some (ii i)∧a≤i∧i≤m∧(i=a ∨ ∀v,D[i-1]? = some v→leE v x)∧(i=m ∨ ∀v,D[i]? = some v→leE x v):=by
 refine qe1 (τ:=Nat×Nat) (fun s=>⟨[(0,.sl 0 g 0 n cl),(2,(ii m)),(4,(.fn (.func qd) [] [])),(14,(ii s.1)),(15,(ii s.2))],[]⟩) (fun _=>[.row 6 ((D).map Evt.r) g]) (fun s=>s.2-s.1)
  (fun s=>a≤s.1∧s.1≤s.2∧s.2≤m∧(s.1=a ∨ ∀v,D[s.1-1]? = some v→leE v x)∧(s.2=m ∨ ∀v,D[s.2]? = some v→leE x v)) _ ?_ (a,m) ⟨wq _,ham,wq _,.inl rfl,.inl rfl⟩
 rintro⟨i,j⟩ ⟨h1,h2,h3,h4,h5⟩
 simp only at h1 h2 h3 h4 h5⊢
 by_cases hij:i<j
 case neg=>
  have c1:¬(i:Int)<(j:Int):=by omega
  right
  simp only[qb2,c1,wf,zgy,↓qc,↓wb,wa,wc]
  refine⟨_,rfl,i,rfl,rfl,rfl,rfl,rfl,rfl,h1,by omega,h4,?_⟩
  obtain rfl:i=j:=by omega
  exact h5
 obtain⟨h,hh⟩ : ∃h,h=(i+j) / 2:=⟨_,rfl⟩
 have c1:(i:Int)<(j:Int):=by omega
 obtain⟨y,hy⟩ : ∃y,D[h]? = some y:=⟨_,zgE (by omega)⟩
 have w1:IntKind.i64.wrap ((i:Int)+(j:Int))=((i+j:Nat):Int):=qg4 (by omega)
 have w2:IntKind.u64.wrap ((i+j:Nat):Int)=((i+j:Nat):Int):=q2w (by omega)
 have w3:=q7g (i+j) h hh
 have w4:IntKind.i64.wrap (h:Int)=(h:Int):=q2k (by omega)
 have w5:IntKind.i64.wrap ((h:Int)+1)=((h+1:Nat):Int):=qge (by omega)
 have rh:h<n:=by omega
 have kx:x.key.length≤9223372036854775807:=hk x (zmg hm)
 have ky:y.key.length≤9223372036854775807:=hk y (zmg hy)
 have hc:=qm4 x y kx ky 6 (D.map Evt.r) g
 left
 by_cases hlt:q65 x y<0
 ·refine⟨(i,h),?_,⟨h1,by simp only;omega,by simp only;omega,h4,.inr fun v hv => ?_⟩,by simp only;omega⟩
  ·obtain⟨xt,xk,xl,xi,xp,xa⟩:=x
   obtain⟨yt,yk,yl,yi,yp,ya⟩:=y
   simp only at hc
   simp only[qb2,zgs,zgr,zgq,zgt,hm,hy,c1,w1,w2,w3,w4,rh,hmn,hc,hlt,Evt.r,qa1,wf,qb,wl,zgy,↓qc,↓wb,wd,wa,wc]
  ·simp only at hv
   rw[hy]at hv;cases hv;exact qaie x y hlt
 ·refine⟨(h+1,j),?_,⟨by simp only;omega,by simp only;omega,h3,.inr fun v hv => ?_,h5⟩,by simp only;omega⟩
  ·obtain⟨xt,xk,xl,xi,xp,xa⟩:=x
   obtain⟨yt,yk,yl,yi,yp,ya⟩:=y
   simp only at hc
   simp only[qb2,zgs,zgr,zgq,zgt,hm,hy,c1,w1,w2,w3,w4,w5,rh,hmn,hc,hlt,Evt.r,qa1,wf,qb,wl,zgy,↓qc,↓wb,wd,wa,wc]
  ·simp only[Nat.add_sub_cancel]at hv
   rw[hy]at hv;cases hv;exact qz0 x y hlt
theorem qaha (D:List Evt) (hn:n=D.length) (hb:n<2^61) (hk:qjn D) (a m b mid nn p lo hi:Nat) (hp:nn=p+1) (hlh:lo≤hi) (hdom : ∀c,lo≤c→c<hi→c<n∧c≤p∧p-c<n) (hnn:nn<2^62) (hhn:hi≤n) :
  ∃y,itB (exec (evL T) itL none qa9) (qao [0,1,2,3,4,18,19,20,21,22] true 1) ⟨[(0,.sl 0 g 0 n cl),(1,(ii a)),(2,(ii m)),(3,(ii b)),(4,(.fn (.func qd) [] [])),(18,(ii mid)),(19,(ii nn)),(20,(ii lo)),(21,(ii hi)),(22,(ii p))],[]⟩ [.row 6 ((D).map Evt.r) g]=some y ∧
   ∃i:Nat,y.1 = .exit 8∧y.2.1.marks=[]∧y.2.2=[.row 6 ((D).map Evt.r) g]∧we y.2.1.vars 0=some (.sl 0 g 0 n cl)∧we y.2.1.vars 1=some (ii a)∧we y.2.1.vars 2=some (ii m)∧we y.2.1.vars 3=some (ii b)∧we y.2.1.vars 4=some (.fn (.func qd) [] [])∧we y.2.1.vars 18=some (ii mid) ∧
    we y.2.1.vars 19=some (ii nn)∧we y.2.1.vars 20=some (ii i)∧lo≤i∧i≤hi∧(i=lo ∨ ∀u v,D[i-1]? = some u→D[p-(i-1)]? = some v→leE u v)∧(i=hi ∨ ∀u v,D[p-i]? = some u→D[i]? = some v→leE u v):=by
 refine qe1 (τ:=Nat×Nat) (fun s=>⟨[(0,.sl 0 g 0 n cl),(1,(ii a)),(2,(ii m)),(3,(ii b)),(4,(.fn (.func qd) [] [])),(18,(ii mid)),(19,(ii nn)),(20,(ii s.1)),(21,(ii s.2)),(22,(ii p))],[]⟩) (fun _=>[.row 6 ((D).map Evt.r) g]) (fun s=>s.2-s.1)
  (fun s=>lo≤s.1∧s.1≤s.2∧s.2≤hi∧(s.1=lo ∨ ∀u v,D[s.1-1]? = some u→D[p-(s.1-1)]? = some v→leE u v)∧(s.2=hi ∨ ∀u v,D[p-s.2]? = some u→D[s.2]? = some v→leE u v)) _ ?_ (lo,hi) ⟨wq _,hlh,wq _,.inl rfl,.inl rfl⟩
 rintro⟨i,j⟩ ⟨h1,h2,h3,h4,h5⟩
 simp only at h1 h2 h3 h4 h5⊢
 by_cases hij:i<j
 case neg=>
  have c1:¬(i:Int)<(j:Int):=by omega
  right
  simp only[qa9,c1,wf,zgy,↓qc,↓wb,wa,wc]
  refine⟨_,rfl,i,rfl,rfl,rfl,rfl,rfl,rfl,rfl,rfl,rfl,rfl,rfl,h1,by omega,h4,?_⟩
  obtain rfl:i=j:=by omega
  exact h5
 obtain⟨h,hh⟩ : ∃h,h=(i+j) / 2:=⟨_,rfl⟩
 have c1:(i:Int)<(j:Int):=by omega
 obtain⟨d1,d2,d3⟩:=hdom h (by omega) (by omega)
 obtain⟨q,hq⟩ : ∃q,q=p-h:=⟨_,rfl⟩
 obtain⟨y,hy⟩ : ∃y,D[h]? = some y:=⟨_,zgE (by omega)⟩
 obtain⟨x,hx⟩ : ∃x,D[q]? = some x:=⟨_,zgE (by omega)⟩
 have w1:IntKind.i64.wrap ((i:Int)+(j:Int))=((i+j:Nat):Int):=qg4 (by omega)
 have w2:IntKind.u64.wrap ((i+j:Nat):Int)=((i+j:Nat):Int):=q2w (by omega)
 have w3:=q7g (i+j) h hh
 have w4:IntKind.i64.wrap (h:Int)=(h:Int):=q2k (by omega)
 have w5:IntKind.i64.wrap ((h:Int)+1)=((h+1:Nat):Int):=qge (by omega)
 have w6:IntKind.i64.wrap ((p:Int)-(h:Int))=(q:Int):=qgz (by omega) (by omega)
 have rq:q<n:=by omega
 have kx:x.key.length≤9223372036854775807:=hk x (zmg hx)
 have ky:y.key.length≤9223372036854775807:=hk y (zmg hy)
 have hc:=qm4 x y kx ky 6 (D.map Evt.r) g
 left
 by_cases hlt:q65 x y<0
 ·refine⟨(i,h),?_,⟨h1,by simp only;omega,by simp only;omega,h4,.inr fun u v hu hv => ?_⟩,by simp only;omega⟩
  ·obtain⟨xt,xk,xl,xi,xp,xa⟩:=x
   obtain⟨yt,yk,yl,yi,yp,ya⟩:=y
   simp only at hc
   simp only[qa9,zgs,zgr,zgq,zgt,hx,hy,c1,w1,w2,w3,w4,w6,d1,rq,hc,hlt,Evt.r,qa1,wf,qb,wl,zgy,↓qc,↓wb,wd,wa,wc]
  ·simp only at hu hv
   rw[←hq,hx]at hu;cases hu
   rw[hy]at hv;cases hv;exact qaie x y hlt
 ·refine⟨(h+1,j),?_,⟨by simp only;omega,by simp only;omega,h3,.inr fun u v hu hv => ?_,h5⟩,by simp only;omega⟩
  ·obtain⟨xt,xk,xl,xi,xp,xa⟩:=x
   obtain⟨yt,yk,yl,yi,yp,ya⟩:=y
   simp only at hc
   simp only[qa9,zgs,zgr,zgq,zgt,hx,hy,c1,w1,w2,w3,w4,w5,w6,d1,rq,hc,hlt,Evt.r,qa1,wf,qb,wl,zgy,↓qc,↓wb,wd,wa,wc]
  ·simp only[Nat.add_sub_cancel]at hu hv
   rw[←hq,hx]at hv;cases hv
   rw[hy]at hu;cases hu;exact qz0 x y hlt
end
set_option maxRecDepth 10000
section
variable (g:Nat) (cl:Bool) (n:Nat)
theorem qagb (P S Q:List Evt) (x:Evt) (hn:n=(P++x::(S++Q)).length) (hb:n<2^61) (a i:Nat) (ha:a=P.length) (hi:i=a+S.length+1) :
  ∃y,itB (exec (evL T) itL none qdd) (qao [0,10,13] true 1) ⟨[(0,.sl 0 g 0 n cl),(10,(ii i)),(13,(ii a))],[]⟩ [.row 6 ((P++x::(S++Q)).map Evt.r) g]=some y ∧
   (y.1 = .exit 2∧y.2.1.marks=[]∧y.2.2=[.row 6 ((P++(S++x::Q)).map Evt.r) g]):=by
 refine qe1 (τ:=List Evt×Nat) (fun s=>⟨[(0,.sl 0 g 0 n cl),(10,(ii i)),(13,(ii s.2))],[]⟩) (fun s=>[.row 6 ((s.1).map Evt.r) g]) (fun s=>i-s.2)
  (fun s => ∃A B,s.1=P++(A++x::(B++Q))∧s.2=a+A.length∧A++B=S) _ ?_ (P++x::(S++Q),a) ⟨[],S,by simp,rfl,by simp⟩
 rintro⟨D,k⟩ ⟨A,B,hD,hk,hAB⟩
 simp only at hD hk⊢
 have hlen:n=P.length+(S.length+(Q.length+1)):=by rw[hn];simp;omega
 have hSl:S.length=A.length+B.length:=by rw[←hAB];simp
 obtain⟨i',hi'⟩ : ∃i',i'=a+S.length:=⟨_,rfl⟩
 have w1:IntKind.i64.wrap ((i:Int)-1)=(i':Int):=qpq (by omega) (by omega)
 cases B with
 |nil=>
  have h1:¬(k:Int)<(i':Int):=by simp at hSl;omega
  right
  simp only[qdd,w1,h1,wf,zgy,↓qc,↓wb,wa,wc]
  refine⟨_,rfl,rfl,rfl,?_⟩
  rw[hD,←hAB];simp
 |cons y B=>
  rw[wF]at hSl
  have h1:(k:Int)<(i':Int):=by omega
  have e1:D=(P++A)++x::y::(B++Q):=by rw[hD];simp
  have l1:k=(P++A).length:=by simp;omega
  obtain⟨j,hj⟩ : ∃j,j=k+1:=⟨_,rfl⟩
  have gx:D[k]? = some x:=qkj e1 l1
  have gy:D[j]? = some y:=qkj (L:=P++A++[x]) (M:=B++Q) (by rw[e1];simp) (by simp;omega)
  have ge:D.length=n:=by rw[e1,hlen];simp;omega
  have w2:IntKind.i64.wrap ((k:Int)+1)=(j:Int):=by rw[hj];exact qge (by omega)
  have rj:j<n:=by omega
  have rk:k<n:=by omega
  have sw:=qabi e1 l1 hj
  have hne:¬(k=j):=by omega
  left
  have hlo:=qa1 1 ((D.set k y).set j x)
  refine⟨((D.set k y).set j x,j),?_,⟨A++[y],B,by rw[sw];simp,by simp;omega,by rw[←hAB];simp⟩,by simp only;omega⟩
  obtain⟨xt,xk,xl,xi,xp,xa⟩:=x
  obtain⟨yt,yk,yl,yi,yp,ya⟩:=y
  have hs : ∀v,((D.map Evt.r).set k v)[j]? = some (Evt.r ⟨yt,yk,yl,yi,yp,ya⟩):=fun v=>by rw[wu hne,List.getElem?_map,gy];rfl
  simp only[wJ,Evt.r]at hlo
  simp only[qdd,zgs,zgr,zgq,zgt,gx,gy,hs,h1,w1,w2,rj,rk,hlo,wJ,Evt.r,wf,Ev.stP,qb,wi,wj,wl,zgy,↓qc,↓wb,wd,wa,wc]
theorem qag9 (P S Q:List Evt) (x:Evt) (hn:n=(P++(S++x::Q)).length) (hb:n<2^61) (m i:Nat) (hi:i=P.length) (hm:m=i+S.length) :
  ∃y,itB (exec (evL T) itL none qde) (qao [0,14,17] true 1) ⟨[(0,.sl 0 g 0 n cl),(14,(ii i)),(17,(ii m))],[]⟩ [.row 6 ((P++(S++x::Q)).map Evt.r) g]=some y ∧
   (y.1 = .exit 6∧y.2.1.marks=[]∧y.2.2=[.row 6 ((P++x::(S++Q)).map Evt.r) g]):=by
 refine qe1 (τ:=List Evt×Nat) (fun s=>⟨[(0,.sl 0 g 0 n cl),(14,(ii i)),(17,(ii s.2))],[]⟩) (fun s=>[.row 6 ((s.1).map Evt.r) g]) (fun s=>s.2)
  (fun s => ∃A B,s.1=P++(A++x::(B++Q))∧s.2=i+A.length∧A++B=S) _ ?_ (P++(S++x::Q),m) ⟨S,[],by simp,hm,by simp⟩
 rintro⟨D,j⟩ ⟨A,B,hD,hj,hAB⟩
 simp only at hD hj⊢
 have hlen:n=P.length+(S.length+(Q.length+1)):=by rw[hn];simp
 have hSl:S.length=A.length+B.length:=by rw[←hAB];simp
 rcases List.eq_nil_or_concat A with rfl|⟨A0,y,rfl⟩
 ·have h1:¬(j:Int)>(i:Int):=by simp at hj;omega
  right
  simp only[qde,h1,wf,zgy,↓qc,↓wb,wa,wc]
  refine⟨_,rfl,rfl,rfl,?_⟩
  rw[hD,←hAB];simp
 ·simp only[List.concat_eq_append,zgp,zga,zgb]at hD hj hSl hAB
  obtain⟨k,hk1⟩ : ∃k,k=i+A0.length:=⟨_,rfl⟩
  have hjk:j=k+1:=by omega
  have h1:(j:Int)>(i:Int):=by omega
  have e1:D=(P++A0)++y::x::(B++Q):=by rw[hD];simp
  have l1:k=(P++A0).length:=by simp;omega
  have gy:D[k]? = some y:=qkj e1 l1
  have gx:D[j]? = some x:=qkj (L:=P++A0++[y]) (M:=B++Q) (by rw[e1];simp) (by simp;omega)
  have ge:D.length=n:=by rw[e1,hlen];simp;omega
  have ws:IntKind.i64.wrap ((j:Int)-1)=(k:Int):=qpq hjk (by omega)
  have rj:j<n:=by omega
  have rk:k<n:=by omega
  have sw:=q3f e1 l1 hjk
  have hne:¬(j=k):=by omega
  left
  have hlo:=qa1 1 ((D.set j y).set k x)
  refine⟨((D.set j y).set k x,k),?_,⟨A0,y::B,by rw[sw];simp,hk1,by rw[←hAB];simp⟩,by simp only;omega⟩
  obtain⟨xt,xk,xl,xi,xp,xa⟩:=x
  obtain⟨yt,yk,yl,yi,yp,ya⟩:=y
  have hs : ∀v,((D.map Evt.r).set j v)[k]? = some (Evt.r ⟨yt,yk,yl,yi,yp,ya⟩):=fun v=>by rw[wu hne,List.getElem?_map,gy];rfl
  simp only[wJ,Evt.r]at hlo
  simp only[qde,zgs,zgr,zgq,zgt,gx,gy,hs,h1,ws,rj,rk,hlo,wJ,Evt.r,wf,Ev.stP,qb,wi,wj,wl,zgy,↓qc,↓wb,wd,wa,wc]
theorem qjn.perm {D E:List Evt} (h:qjn D) (p:E.Perm D):qjn E:=fun x hx=>h x (p.mem_iff.1 hx)
theorem qajj (P Y Q:List Evt) (x:Evt) (hY:Y.Pairwise leE) (hY0:0<Y.length) (hn:n=(P++x::(Y++Q)).length) (hb:n<2^61) (hk:qjn (P++x::(Y++Q))) (a m b:Nat) (ha:a=P.length) (hm:m=a+1) (hbb:b=m+Y.length) :
  ∃Z:List Evt,Z.Perm (x::Y)∧Z.Pairwise leE∧(evL T).call qm [.sl 0 g 0 n cl,(ii a),(ii m),(ii b),(.fn (.func qd) [] [])] [.row 6 ((P++x::(Y++Q)).map Evt.r) g]=some (.tup [],[.row 6 ((P++(Z++Q)).map Evt.r) g]):=by
 have hlen:n=P.length+(1+(Y.length+Q.length)):=by rw[hn];simp;omega
 obtain⟨⟨y,e,σ⟩,k1,i,k2,k3,k4,k5,k6,k7,k8,k9,k10,k11⟩:=qagi g cl n (P++x::(Y++Q)) x hn hb hk a m b (qkj rfl ha) (by omega) (by omega) (by omega)
 simp only at k1 k2 k3 k4 k5 k6 k7
 subst k2;subst k4
 obtain⟨Y1,Y2,rfl,hY1⟩ : ∃Y1 Y2,Y=Y1++Y2∧Y1.length=i-m:=⟨Y.take (i-m),Y.drop (i-m),(wr _ _).symm,by simp;omega⟩
 rw[wg]at hbb hlen hY0
 obtain⟨⟨y',e',σ'⟩,l1,l2,l3,l4⟩:=qagb g cl n P Y1 (Y2++Q) x (by rw[hlen];simp;omega) hb a i ha (by omega)
 simp only at l1 l2 l3 l4
 subst l2;subst l4
 rw[wk]at hk
 refine⟨Y1++x::Y2,List.perm_middle,qou qwn hY ?_ ?_,?_⟩
 ·intro u hu
  rcases k10 with h|h
  ·rw[show Y1=[] from wh (by omega)]at hu;simp at hu
  ·have hlt:Y1.length-1<Y1.length:=(zei.1 hu).1
   refine h u ?_
   rw[←hu]
   exact qrl (L:=P++[x]) (X:=Y1) (M:=Y2++Q) (by simp) hlt (by simp;omega)
 ·intro v hv
  rcases k11 with h|h
  ·rw[show Y2=[] from wh (by omega)]at hv;simp at hv
  ·have hlt:0<Y2.length:=(zei.1 hv).1
   refine h v ?_
   rw[←hv]
   exact qrl (L:=P++x::Y1) (X:=Y2) (M:=Q) (by simp) hlt (by simp;omega)
 ·have c1:(m:Int)-(a:Int)=1:=by omega
  have w1:IntKind.i64.wrap ((m:Int)-(a:Int))=1:=by rw[c1];exact qk (by omega) (by omega)
  rw[wk]at k1⊢
  rw[qg qey qeq]
  simp only[wk,zgm]
  simp only[qa5,w1,k1,k3,k5,k6,k7,l1,l3,qa1,wf,ql,wl,zgy,↓qc,↓qx,↓wb,wd,wa,wc]
theorem qakn (P X Q:List Evt) (x:Evt) (hX:X.Pairwise leE) (hX0:1<X.length) (hn:n=(P++(X++x::Q)).length) (hb:n<2^61) (hk:qjn (P++(X++x::Q))) (a m b:Nat) (ha:a=P.length) (hm:m=a+X.length) (hbb:b=m+1) :
  ∃Z:List Evt,Z.Perm (X++[x])∧Z.Pairwise leE∧(evL T).call qm [.sl 0 g 0 n cl,(ii a),(ii m),(ii b),(.fn (.func qd) [] [])] [.row 6 ((P++(X++x::Q)).map Evt.r) g]=some (.tup [],[.row 6 ((P++(Z++Q)).map Evt.r) g]):=by
 have hlen:n=P.length+(X.length+(Q.length+1)):=by rw[hn];simp
 obtain⟨⟨y,e,σ⟩,k1,i,k2,k3,k4,k5,k6,k7,k8,k9,k10,k11⟩:=qag2 g cl n (P++(X++x::Q)) x hn hb hk a m (qkj (L:=P++X) (M:=Q) (by simp) (by simp;omega)) (by omega) (by omega)
 simp only at k1 k2 k3 k4 k5 k6 k7
 subst k2;subst k4
 obtain⟨X1,X2,rfl,hX1⟩ : ∃X1 X2,X=X1++X2∧X1.length=i-a:=⟨X.take (i-a),X.drop (i-a),(wr _ _).symm,by simp;omega⟩
 rw[wg]at hm hlen hX0
 obtain⟨⟨y',e',σ'⟩,l1,l2,l3,l4⟩:=qag9 g cl n (P++X1) X2 Q x (by rw[hlen];simp;omega) hb m i (by simp;omega) (by omega)
 simp only at l1 l2 l3 l4
 subst l2;subst l4
 refine⟨X1++x::X2,?_,qou qwn hX ?_ ?_,?_⟩
 ·rw[wk]
  exact wx X1 (List.perm_append_singleton x X2).symm
 ·intro u hu
  rcases k10 with h|h
  ·rw[show X1=[] from wh (by omega)]at hu;simp at hu
  ·have hlt:X1.length-1<X1.length:=(zei.1 hu).1
   refine h u ?_
   rw[←hu]
   exact qrl (L:=P) (X:=X1) (M:=X2++x::Q) (by simp) hlt (by omega)
 ·intro v hv
  rcases k11 with h|h
  ·rw[show X2=[] from wh (by omega)]at hv;simp at hv
  ·have hlt:0<X2.length:=(zei.1 hv).1
   refine h v ?_
   rw[←hv]
   exact qrl (L:=P++X1) (X:=X2) (M:=x::Q) (by simp) hlt (by simp;omega)
 ·have w1:IntKind.i64.wrap ((m:Int)-(a:Int))=((X1.length+X2.length:Nat):Int):=qgz hm (by omega)
  have h1:¬((X1.length+X2.length:Nat):Int)=1:=by omega
  have w2:IntKind.i64.wrap ((b:Int)-(m:Int))=1:=by rw[show (b:Int)-(m:Int)=1 by omega];exact qk (by omega) (by omega)
  rw[qg qey qeq]
  simp only[wk,zgm]at k1 l1⊢
  simp only[qa5,w1,w2,h1,k1,k3,k5,k6,k7,l1,l3,qa1,wf,ql,wl,zgy,↓qc,↓qx,↓wb,wd,wa,wc]
end
set_option maxRecDepth 10000
section
variable (g:Nat) (cl:Bool) (n:Nat)
def qxm (a m b:Nat) (D D':List Evt):Prop:=(evL T).call qm [.sl 0 g 0 n cl,(ii a),(ii m),(ii b),(.fn (.func qd) [] [])] [.row 6 ((D).map Evt.r) g]=some (.tup [],[.row 6 ((D').map Evt.r) g])
structure Nums (x1 x2 y1 y2 a m b mid nn lo hi p start fin:Nat):Prop where
 hX1:1<x1+x2
 hY1:1<y1+y2
 hb:n<2^61
 hmid:mid=(a+b) / 2
 hnn:nn=mid+m
 hp:nn=p+1
 hfin:nn=start+fin
 hm:m=a+(x1+x2)
 hbb:b=m+(y1+y2)
 hbn:b≤n
 hst:start=a+x1
 hfi:fin=m+y1
structure Wraps (x1 x2 y1 y2 a m b mid nn p start fin:Nat):Prop where
 w1:IntKind.i64.wrap ((m:Int)-(a:Int))=((x1+x2:Nat):Int)
 h1:¬((x1+x2:Nat):Int)=1
 w2:IntKind.i64.wrap ((b:Int)-(m:Int))=((y1+y2:Nat):Int)
 h2:¬((y1+y2:Nat):Int)=1
 w3:IntKind.i64.wrap ((a:Int)+(b:Int))=((a+b:Nat):Int)
 w4:IntKind.u64.wrap ((a+b:Nat):Int)=((a+b:Nat):Int)
 w5:qn2 .shr (.v (.int .u64 ((a+b:Nat):Int))) (.v (.int .u64 1))=some (.v (.int .u64 (mid:Int)))
 w6:IntKind.i64.wrap (mid:Int)=(mid:Int)
 w7:IntKind.i64.wrap ((mid:Int)+(m:Int))=(nn:Int)
 w8:IntKind.i64.wrap ((nn:Int)-1)=(p:Int)
 w9:IntKind.i64.wrap ((nn:Int)-(start:Int))=(fin:Int)
 c5:mid<fin↔start<m
 c6:start<mid↔m<fin
theorem Nums.wraps {n x1 x2 y1 y2 a m b mid nn lo hi p start fin:Nat} (N:Nums n x1 x2 y1 y2 a m b mid nn lo hi p start fin):Wraps x1 x2 y1 y2 a m b mid nn p start fin:=by
 obtain⟨hX1,hY1,hb,hmid,hnn,hp,hfin,hm,hbb,hbn,hst,hfi⟩:=N
 refine⟨qgz hm (by omega),by omega,qgz hbb (by omega),by omega,qg4 (by omega),q2w (by omega),q7g (a+b) mid hmid,q2k (by omega),?_,qpq hp (by omega),qgz hfin (by omega),by omega,by omega⟩
 rw[hnn];exact qg4 (by omega)
set_option maxHeartbeats 8000000 in
theorem qalf (x1 x2 y1 y2 a m b mid nn lo hi p start fin:Nat) (D D2 D3 D4:List Evt) (N:Nums n x1 x2 y1 y2 a m b mid nn lo hi p start fin) (hlo:mid<m∧nn=b+lo∧hi=mid∨¬mid<m∧lo=a∧hi=m)
  (hfind : ∃y,itB (exec (evL T) itL none qa9) (qao [0,1,2,3,4,18,19,20,21,22] true 1) ⟨[(0,.sl 0 g 0 n cl),(1,(ii a)),(2,(ii m)),(3,(ii b)),(4,(.fn (.func qd) [] [])),(18,(ii mid)),(19,(ii nn)),(20,(ii lo)),(21,(ii hi)),(22,(ii p))],[]⟩ [.row 6 ((D).map Evt.r) g]=some y ∧
   (y.1 = .exit 8∧y.2.1.marks=[]∧y.2.2=[.row 6 ((D).map Evt.r) g]∧we y.2.1.vars 0=some (.sl 0 g 0 n cl)∧we y.2.1.vars 1=some (ii a)∧we y.2.1.vars 2=some (ii m)∧we y.2.1.vars 3=some (ii b)∧we y.2.1.vars 4=some (.fn (.func qd) [] [])∧we y.2.1.vars 18=some (ii mid) ∧
    we y.2.1.vars 19=some (ii nn)∧we y.2.1.vars 20=some (ii start)))
  (s1:start<m→m<fin→(evL T).call qax [.sl 0 g 0 n cl,(ii start),(ii m),(ii fin),(.fn (.func qd) [] [])] [.row 6 ((D).map Evt.r) g]=some (.tup [],[.row 6 ((D2).map Evt.r) g])) (n1:¬(start<m∧m<fin)→D2=D)
  (s2:a<start→start<mid→qxm g cl n a start mid D2 D3) (n2:¬(a<start∧start<mid)→D3=D2)
  (s3:mid<fin→fin<b→qxm g cl n mid fin b D3 D4) (n3:¬(mid<fin∧fin<b)→D4=D3):qxm g cl n a m b D D4:=by
 obtain⟨⟨y,e,σ⟩,k1,k2,k3,k4,k5,k6,k7,k8,k9,k10,k11,k12⟩:=hfind
 obtain⟨w1,h1,w2,h2,w3,w4,w5,w6,w7,w8,w9,c5,c6⟩:=N.wraps
 simp only at k1 k2 k3 k4 k5 k6 k7 k8 k9 k10 k11 k12
 subst k2;subst k4
 unfold qxm at *
 rw[qg qey qeq]
 have g5:mid<m→IntKind.i64.wrap ((nn:Int)-(b:Int))=(lo:Int):=fun g=>by
  rcases hlo with ⟨_,g2,_⟩|⟨g1,_⟩
  ·exact qgz g2 (by have:=N.hnn;have:=N.hmid;have:=N.hb;have:=N.hbn;have:=N.hm;have:=N.hbb;omega)
  ·exact absurd g g1
 have l1:¬mid<m→lo=a:=fun g=>hlo.elim (fun h=>absurd h.1 g) fun h=>h.2.1
 have l2:¬mid<m→hi=m:=fun g=>hlo.elim (fun h=>absurd h.1 g) fun h=>h.2.2
 have l3:mid<m→hi=mid:=fun g=>hlo.elim (fun h=>h.2.2) fun h=>absurd g h.1
 clear hlo N
 rcases Classical.em (start<m)with d1|d1<;>rcases Classical.em (m<fin)with d2|d2<;>rcases Classical.em (a<start)with d3|d3<;>rcases Classical.em (fin<b)with d4|d4
 all_goals
  try (have r:=n1 (by first|exact fun h=>d1 h.1|exact fun h=>d2 h.2);subst r)
  try (have r:=n2 (by first|exact fun h=>d3 h.1|exact fun h=>d2 (c6.1 h.2));subst r)
  try (have r:=n3 (by first|exact fun h=>d4 h.2|exact fun h=>d1 (c5.1 h.1));subst r)
  try replace s1:=s1 d1 d2
  try replace s2:=s2 d3 (c6.2 d2)
  try replace s3:=s3 (c5.2 d1) d4
  rcases Classical.em (mid<m)with g1|g1
  ·have g:=g5 g1
   have l:=l3 g1
   subst l
   simp only[qa5,w1,w2,w3,w4,w5,w6,w7,w8,w9,h1,h2,gt_iff_lt,Int.ofNat_lt,g1,g,k1,k3,k5,k6,k7,k8,k9,k10,k11,k12,c5,c6,d1,d2,d3,d4,s1,s2,s3,qa1,wf,ql,wl,zgy,↓qc,↓qx,↓wb,wd,wa,wc]
  ·have l:=l1 g1
   have l':=l2 g1
   subst l;subst l'
   simp only[qa5,w1,w2,w3,w4,w5,w6,w7,w8,w9,h1,h2,gt_iff_lt,Int.ofNat_lt,g1,k1,k3,k5,k6,k7,k8,k9,k10,k11,k12,c5,c6,d1,d2,d3,d4,s1,s2,s3,qa1,wf,ql,wl,zgy,↓qc,↓qx,↓wb,wd,wa,wc]
end
set_option maxRecDepth 10000
section
variable (g:Nat) (cl:Bool) (n:Nat)
theorem q89 (hb:n<2^61) : ∀(k:Nat) (P X Y Q:List Evt),X.length+Y.length≤k→0<X.length→0<Y.length→X.Pairwise leE→Y.Pairwise leE→n=(P++(X++(Y++Q))).length→qjn (P++(X++(Y++Q))) →
  ∀a m b:Nat,a=P.length→m=a+X.length→b=m+Y.length → ∃Z:List Evt,Z.Perm (X++Y)∧Z.Pairwise leE∧qxm g cl n a m b (P++(X++(Y++Q))) (P++(Z++Q)):=by
 intro k
 induction k with
 |zero=>intro P X Y Q h1 h2 h3;omega
 |succ k ih=>
  intro P X Y Q hk hX0 hY0 hX hY hn hkeys a m b ha hm hbb
  by_cases hx:X.length=1
  ·obtain⟨x,rfl⟩:=List.length_eq_one_iff.1 hx
   simp only[zgm,zgl,zga,zgb]at hn hkeys hm⊢
   exact qajj g cl n P Y Q x hY hY0 hn hb hkeys a m b ha hm hbb
  by_cases hy:Y.length=1
  ·obtain⟨y,rfl⟩:=List.length_eq_one_iff.1 hy
   simp only[zgm,zgl,zga,zgb]at hn hkeys hbb⊢
   exact qakn g cl n P X Q y hX (by omega) hn hb hkeys a m b ha hm hbb
  have hlen:n=P.length+(X.length+(Y.length+Q.length)):=by rw[hn];simp
  obtain⟨mid,hmid⟩ : ∃mid,mid=(a+b) / 2:=⟨_,rfl⟩
  obtain⟨nn,hnn⟩ : ∃nn,nn=mid+m:=⟨_,rfl⟩
  obtain⟨p,hp⟩ : ∃p,nn=p+1:=⟨nn-1,by omega⟩
  obtain⟨lo,hi,hlo⟩ : ∃lo hi,mid<m∧nn=b+lo∧hi=mid∨¬mid<m∧lo=a∧hi=m:=by
   by_cases c:mid<m
   ·exact⟨nn-b,mid,.inl ⟨c,by omega,rfl⟩⟩
   ·exact⟨a,m,.inr ⟨c,rfl,rfl⟩⟩
  obtain⟨y,f1,start,f2,f3,f4,f5,f6,f7,f8,f9,f10,f11,f12,f13,f14,f15,f16⟩:=qaha g cl n (P++(X++(Y++Q))) hn hb hkeys a m b mid nn p lo hi hp (by omega) (fun c h1 h2=>by omega) (by omega) (by omega)
  obtain⟨fin,hfin⟩ : ∃fin,nn=start+fin:=⟨nn-start,by omega⟩
  obtain⟨X1,X2,rfl,hX1⟩ : ∃X1 X2,X=X1++X2∧X1.length=start-a:=⟨X.take (start-a),X.drop (start-a),(wr _ _).symm,by simp;omega⟩
  obtain⟨Y1,Y2,rfl,hY1⟩ : ∃Y1 Y2,Y=Y1++Y2∧Y1.length=fin-m:=⟨Y.take (fin-m),Y.drop (fin-m),(wr _ _).symm,by simp;omega⟩
  simp only[zgp]at hk hX0 hY0 hx hy hm hbb hlen
  obtain⟨x1,x2,x3⟩:=wE.1 hX
  obtain⟨y1,y2,y3⟩:=wE.1 hY
  have hst:start=a+X1.length:=by omega
  have hfi:fin=m+Y1.length:=by omega
  have N:Nums n X1.length X2.length Y1.length Y2.length a m b mid nn lo hi p start fin:=⟨by omega,by omega,hb,hmid,hnn,hp,hfin,hm,hbb,by omega,hst,hfi⟩
  simp only[wk]at f1 f4 f15 f16 hn hkeys⊢
  have hk2:qjn (P++(X1++(Y1++(X2++(Y2++Q))))):=by
   intro z hz;refine hkeys z ?_
   simp only[wv]at hz⊢
   rcases hz with h|h|h|h|h|h
   ·exact .inl h
   ·exact .inr (.inl h)
   ·exact .inr (.inr (.inr (.inl h)))
   ·exact .inr (.inr (.inl h))
   ·exact .inr (.inr (.inr (.inr (.inl h))))
   ·exact .inr (.inr (.inr (.inr (.inr h))))
  obtain⟨Z1,p1,q1,s2,n2⟩ : ∃Z1:List Evt,Z1.Perm (X1++Y1)∧Z1.Pairwise leE∧(a<start→start<mid→qxm g cl n a start mid (P++(X1++(Y1++(X2++(Y2++Q))))) (P++(Z1++(X2++(Y2++Q)))))∧(¬(a<start∧start<mid)→P++(Z1++(X2++(Y2++Q)))=P++(X1++(Y1++(X2++(Y2++Q))))):=by
   by_cases c:a<start∧start<mid
   ·obtain⟨Z,p1,q1,r1⟩:=ih P X1 Y1 (X2++(Y2++Q)) (by omega) (by omega) (by omega) x1 y1 (by rw[hlen];simp;omega) hk2 a start mid ha hst (by omega)
    exact⟨Z,p1,q1,fun _ _=>r1,fun h=>absurd c h⟩
   ·refine⟨X1++Y1,.refl _,?_,fun h1 h2=>absurd ⟨h1,h2⟩ c,fun _=>by simp⟩
    by_cases c1:a<start
    ·rw[show Y1=[] from wh (by omega),wG];exact x1
    ·rw[show X1=[] from wh (by omega),List.nil_append];exact y1
  have lz:=p1.length_eq
  rw[wg]at lz
  have hk3:qjn (P++Z1++(X2++(Y2++Q))):=by
   intro z hz;refine hk2 z ?_
   have:=p1.mem_iff (a:=z)
   simp only[wv]at hz this⊢
   rcases hz with (h|h)|h
   ·exact .inl h
   ·rcases this.1 h with h|h
    ·exact .inr (.inl h)
    ·exact .inr (.inr (.inl h))
   ·exact .inr (.inr (.inr h))
  obtain⟨Z2,p2,q2,s3,n3⟩ : ∃Z2:List Evt,Z2.Perm (X2++Y2)∧Z2.Pairwise leE∧(mid<fin→fin<b→qxm g cl n mid fin b (P++(Z1++(X2++(Y2++Q)))) (P++(Z1++(Z2++Q))))∧(¬(mid<fin∧fin<b)→P++(Z1++(Z2++Q))=P++(Z1++(X2++(Y2++Q)))):=by
   by_cases c:mid<fin∧fin<b
   ·obtain⟨Z,p2,q2,r2⟩:=ih (P++Z1) X2 Y2 Q (by omega) (by omega) (by omega) x2 y2 (by rw[hlen];simp;omega) hk3 mid fin b (by simp;omega) (by omega) (by omega)
    simp only[wk]at r2
    exact⟨Z,p2,q2,fun _ _=>r2,fun h=>absurd c h⟩
   ·refine⟨X2++Y2,.refl _,?_,fun h1 h2=>absurd ⟨h1,h2⟩ c,fun _=>by simp⟩
    by_cases c1:mid<fin
    ·rw[show Y2=[] from wh (by omega),wG];exact x2
    ·rw[show X2=[] from wh (by omega),List.nil_append];exact y2
  have ms:=q9g qwn hX hY (Z1:=Z1) (Z2:=Z2) ?_ ?_ p1 p2 q1 q2
  ·refine⟨Z1++Z2,by simpa using ms.1,ms.2,?_⟩
   simp only[wk]
   refine qalf g cl n X1.length X2.length Y1.length Y2.length a m b mid nn lo hi p start fin _ _ _ _ N hlo ⟨y,f1,f2,f3,f4,f5,f6,f7,f8,f9,f10,f11,f12⟩ ?_ ?_ s2 n2 s3 n3
   ·intro c1 c2
    have r:=qakz g cl n (P++X1) X2 Y1 (Y2++Q) (by omega) (by omega) (by rw[hlen];simp;omega) hb start m fin (by simp;omega) (by omega) (by omega)
    simpa only[wk]using r
   ·intro c
    by_cases c1:start<m
    ·rw[show Y1=[] from wh (by omega)];simp
    ·rw[show X2=[] from wh (by omega)];simp
  ·intro u v hu hv
   have hlt:X1.length-1<X1.length:=(zei.1 hu).1
   have hlt2:0<Y2.length:=(zei.1 hv).1
   rcases f15 with h|h
   ·omega
   ·refine h u v ?_ ?_
    ·rw[←hu];exact qrl (L:=P) (X:=X1) (M:=X2++(Y1++(Y2++Q))) rfl hlt (by omega)
    ·rw[←hv];exact qrl (L:=P++(X1++(X2++Y1))) (X:=Y2) (M:=Q) (by simp) hlt2 (by simp;omega)
  ·intro u v hu hv
   have hlt:Y1.length-1<Y1.length:=(zei.1 hu).1
   have hlt2:0<X2.length:=(zei.1 hv).1
   rcases f16 with h|h
   ·omega
   ·refine h u v ?_ ?_
    ·rw[←hu];exact qrl (L:=P++(X1++X2)) (X:=Y1) (M:=Y2++Q) (by simp) hlt (by simp;omega)
    ·rw[←hv];exact qrl (L:=P++X1) (X:=X2) (M:=Y1++(Y2++Q)) (by simp) hlt2 (by simp;omega)
end
set_option maxRecDepth 10000
theorem qaip {a:Nat} (h:a<2^61):IntKind.i64.wrap (2*(a:Int))=((2*a:Nat):Int):=by rw[qk (by omega) (by omega)];omega
theorem qak1 {a:Nat} (h:a<2^61):IntKind.i64.wrap ((a:Int)*2)=((2*a:Nat):Int):=by rw[qk (by omega) (by omega)];omega
section
variable (g:Nat) (cl:Bool) (n:Nat)
theorem qalb (l:List Evt) (hn:n=l.length) (hb:n<2^58) (hk:qjn l) :
  ∃y,itB (exec (evL T) itL none qca) (qao [0,1,2,6,7,8] true 1) ⟨[(0,.sl 0 g 0 n cl),(1,(ii n)),(2,(.fn (.func qd) [] [])),(6,(ii 20)),(7,(ii 0)),(8,(ii 20))],[]⟩ [.row 6 ((l).map Evt.r) g]=some y ∧
   ∃a:Nat,y.1 = .exit 0∧y.2.1.marks=[]∧we y.2.1.vars 0=some (.sl 0 g 0 n cl)∧we y.2.1.vars 1=some (ii n)∧we y.2.1.vars 2=some (.fn (.func qd) [] [])∧we y.2.1.vars 6=some (ii 20)∧we y.2.1.vars 7=some (ii a) ∧
    ∃Dn Rs:List Evt,y.2.2=[.row 6 ((Dn++Rs).map Evt.r) g]∧a=Dn.length∧(Dn++Rs).Perm l∧Rs.length<20 ∧ ∀t,Blk leE 20 t→Blk leE 20 (Dn++t):=by
 have key:=qe1 (f:=exec (evL T) itL none qca) (s:=qao [0,1,2,6,7,8] true 1) (τ:=List Evt×Nat)
  (fun s=>⟨[(0,.sl 0 g 0 n cl),(1,(ii n)),(2,(.fn (.func qd) [] [])),(6,(ii 20)),(7,(ii s.2)),(8,(ii ((s.2+20:Nat))))],[]⟩) (fun s=>[.row 6 ((s.1).map Evt.r) g]) (fun s=>n+20-s.2)
  (fun s => ∃Dn Rs,s.1=Dn++Rs∧s.2=Dn.length∧(Dn++Rs).Perm l ∧ ∀t,Blk leE 20 t→Blk leE 20 (Dn++t))
  (fun y => ∃a:Nat,y.1 = .exit 0∧y.2.1.marks=[]∧we y.2.1.vars 0=some (.sl 0 g 0 n cl)∧we y.2.1.vars 1=some (ii n)∧we y.2.1.vars 2=some (.fn (.func qd) [] [])∧we y.2.1.vars 6=some (ii 20)∧we y.2.1.vars 7=some (ii a) ∧
    ∃Dn Rs:List Evt,y.2.2=[.row 6 ((Dn++Rs).map Evt.r) g]∧a=Dn.length∧(Dn++Rs).Perm l∧Rs.length<20 ∧ ∀t,Blk leE 20 t→Blk leE 20 (Dn++t)) ?_ (l,0) ⟨[],l,rfl,rfl,.refl _,fun t h=>h⟩
 ·exact key
 rintro⟨D,a⟩ ⟨Dn,Rs,hD,ha,hp,hB⟩
 simp only at hD ha⊢
 have hl:=hp.length_eq
 rw[wg]at hl
 by_cases c:a+20≤n
 case neg=>
  have h1:¬((a+20:Nat):Int)≤(n:Int):=by omega
  right
  simp only[qca,h1,wf,zgy,↓qc,↓wb,wa,wc]
  exact⟨_,rfl,a,rfl,rfl,rfl,rfl,rfl,rfl,rfl,Dn,Rs,by rw[hD],ha,hp,by omega,hB⟩
 have h1:((a+20:Nat):Int)≤(n:Int):=by omega
 obtain⟨S,Q,rfl,hS⟩ : ∃S Q,Rs=S++Q∧S.length=20:=⟨Rs.take 20,Rs.drop 20,(wr _ _).symm,by simp;omega⟩
 rw[wg]at hl
 have hkD:qjn (Dn++(S++Q)):=hk.perm hp
 obtain⟨S',p1,q1,r1⟩:=q5l g cl n Dn S Q (by simp;omega) (by omega) hkD a (a+20) ha (by omega)
 have w1:IntKind.i64.wrap (((a+20:Nat):Int)+20)=((a+20+20:Nat):Int):=by rw[qk (by omega) (by omega)];omega
 rw[←hD]at r1
 left
 refine⟨(Dn++(S'++Q),a+20),?_,⟨Dn++S',Q,by simp,?_,?_,?_⟩,by simp only;omega⟩
 ·simp only[qca,h1,w1,r1,qa1,wf,wl,zgy,↓qc,↓wb,wa,wc]
 ·have:=p1.length_eq;simp;omega
 ·rw[wk];exact(wx Dn (p1.append_right Q)).trans hp
 ·intro t ht
  rw[wk]
  exact hB _ (.more (by rw[p1.length_eq];exact hS) q1 ht)
theorem qak9 (l D0:List Evt) (hn:n=l.length) (hb:n<2^58) (hk:qjn l) (s:Nat) (hs:0<s) (hsn:s<n) (hp0:D0.Perm l) (hB0:Blk leE s D0) :
  ∃y,itB (exec (evL T) itL none qcg) (qao [0,1,2,6,7,8] true 1) ⟨[(0,.sl 0 g 0 n cl),(1,(ii n)),(2,(.fn (.func qd) [] [])),(6,(ii s)),(7,(ii 0)),(8,(ii ((2*s:Nat))))],[]⟩ [.row 6 ((D0).map Evt.r) g]=some y ∧
   ∃a:Nat,y.1 = .exit 4∧y.2.1.marks=[]∧we y.2.1.vars 0=some (.sl 0 g 0 n cl)∧we y.2.1.vars 1=some (ii n)∧we y.2.1.vars 2=some (.fn (.func qd) [] [])∧we y.2.1.vars 6=some (ii s)∧we y.2.1.vars 7=some (ii a) ∧
    ∃Dn Rs:List Evt,y.2.2=[.row 6 ((Dn++Rs).map Evt.r) g]∧a=Dn.length∧(Dn++Rs).Perm l∧Rs.length<2*s∧Blk leE s Rs ∧ ∀t,Blk leE (2*s) t→Blk leE (2*s) (Dn++t):=by
 have key:=qe1 (f:=exec (evL T) itL none qcg) (s:=qao [0,1,2,6,7,8] true 1) (τ:=List Evt×Nat)
  (fun z=>⟨[(0,.sl 0 g 0 n cl),(1,(ii n)),(2,(.fn (.func qd) [] [])),(6,(ii s)),(7,(ii z.2)),(8,(ii ((z.2+2*s:Nat))))],[]⟩) (fun z=>[.row 6 ((z.1).map Evt.r) g]) (fun z=>n+2*s-z.2)
  (fun z => ∃Dn Rs,z.1=Dn++Rs∧z.2=Dn.length∧(Dn++Rs).Perm l∧Blk leE s Rs ∧ ∀t,Blk leE (2*s) t→Blk leE (2*s) (Dn++t))
  (fun y => ∃a:Nat,y.1 = .exit 4∧y.2.1.marks=[]∧we y.2.1.vars 0=some (.sl 0 g 0 n cl)∧we y.2.1.vars 1=some (ii n)∧we y.2.1.vars 2=some (.fn (.func qd) [] [])∧we y.2.1.vars 6=some (ii s)∧we y.2.1.vars 7=some (ii a) ∧
    ∃Dn Rs:List Evt,y.2.2=[.row 6 ((Dn++Rs).map Evt.r) g]∧a=Dn.length∧(Dn++Rs).Perm l∧Rs.length<2*s∧Blk leE s Rs ∧ ∀t,Blk leE (2*s) t→Blk leE (2*s) (Dn++t)) ?_ (D0,0) ⟨[],D0,rfl,rfl,hp0,hB0,fun t h=>h⟩
 ·simp only[zfd]at key;exact key
 rintro⟨D,a⟩ ⟨Dn,Rs,hD,ha,hp,hR,hB⟩
 simp only at hD ha⊢
 have hl:=hp.length_eq
 rw[wg]at hl
 by_cases c:a+2*s≤n
 case neg=>
  have h1:¬((a+2*s:Nat):Int)≤(n:Int):=by omega
  right
  simp only[qcg,h1,wf,zgy,↓qc,↓wb,wa,wc]
  exact⟨_,rfl,a,rfl,rfl,rfl,rfl,rfl,rfl,rfl,Dn,Rs,by rw[hD],ha,hp,by omega,hR,hB⟩
 have h1:((a+2*s:Nat):Int)≤(n:Int):=by omega
 obtain⟨X,Y,Q,rfl,hX,hY,qX,qY,hQ⟩ : ∃X Y Q,Rs=X++(Y++Q)∧X.length=s∧Y.length=s∧X.Pairwise leE∧Y.Pairwise leE∧Blk leE s Q:=by
  obtain⟨X,R1,rfl,h2,h3,h4⟩:=hR.split (by omega)
  rw[wg]at hl
  by_cases c2:R1.length≤s
  ·exact⟨X,R1,[],by simp,h2,by omega,h3,h4.sorted c2,.nil⟩
  ·obtain⟨Y,Q,rfl,h5,h6,h7⟩:=h4.split (by omega)
   exact⟨X,Y,Q,rfl,h2,h5,h3,h6,h7⟩
 rw[wg,wg]at hl
 have hkD:qjn (Dn++(X++(Y++Q))):=hk.perm hp
 obtain⟨Z,p1,q1,r1⟩:=q89 g cl n (by omega) _ Dn X Y Q (wq _) (by omega) (by omega) qX qY (by simp;omega) hkD a (a+s) (a+2*s) ha (by omega) (by omega)
 have w1:IntKind.i64.wrap ((a:Int)+(s:Int))=((a+s:Nat):Int):=qg4 (by omega)
 have w2:IntKind.i64.wrap (2*(s:Int))=((2*s:Nat):Int):=qaip (by omega)
 have w3:IntKind.i64.wrap (((a+2*s:Nat):Int)+((2*s:Nat):Int))=((a+2*s+2*s:Nat):Int):=qg4 (by omega)
 unfold qxm at r1
 rw[←hD]at r1
 have hz:=p1.length_eq
 rw[wg]at hz
 left
 refine⟨(Dn++(Z++Q),a+2*s),?_,⟨Dn++Z,Q,by simp,?_,?_,hQ,?_⟩,by simp only;omega⟩
 ·simp only[qcg,h1,w1,w2,w3,r1,qa1,wf,wl,zgy,↓qc,↓wb,wa,wc]
 ·simp;omega
 ·rw[wk]
  refine(wx Dn (p1.append_right Q)).trans ?_
  rw[wk];exact hp
 ·intro t ht
  rw[wk]
  exact hB _ (.more (by omega) q1 ht)
theorem qalu (l D0:List Evt) (hn:n=l.length) (hb:n<2^58) (hk:qjn l) (hp0:D0.Perm l) (hB0:Blk leE 20 D0) :
  ∃y,itB (exec (evL T) itL none qbn) (qao [0,1,2,6] true 1) ⟨[(0,.sl 0 g 0 n cl),(1,(ii n)),(2,(.fn (.func qd) [] [])),(6,(ii 20))],[]⟩ [.row 6 ((D0).map Evt.r) g]=some y ∧
   (y.1 = .exit 2∧y.2.1.marks=[] ∧ ∃l':List Evt,y.2.2=[.row 6 ((l').map Evt.r) g]∧l'.Perm l∧l'.Pairwise leE):=by
 have key:=qe1 (f:=exec (evL T) itL none qbn) (s:=qao [0,1,2,6] true 1) (τ:=List Evt×Nat)
  (fun z=>⟨[(0,.sl 0 g 0 n cl),(1,(ii n)),(2,(.fn (.func qd) [] [])),(6,(ii z.2))],[]⟩) (fun z=>[.row 6 ((z.1).map Evt.r) g]) (fun z=>n-z.2)
  (fun z=>z.1.Perm l∧0<z.2∧Blk leE z.2 z.1)
  (fun y=>y.1 = .exit 2∧y.2.1.marks=[] ∧ ∃l':List Evt,y.2.2=[.row 6 ((l').map Evt.r) g]∧l'.Perm l∧l'.Pairwise leE) ?_ (D0,20) ⟨hp0,by simp,hB0⟩
 ·exact key
 rintro⟨D,s⟩ ⟨hp,hs,hB⟩
 simp only at hp hs hB⊢
 have hl:=hp.length_eq
 by_cases c:s<n
 case neg=>
  have h1:¬(s:Int)<(n:Int):=by omega
  right
  simp only[qbn,h1,wf,zgy,↓qc,↓wb,wa,wc]
  exact⟨_,rfl,rfl,rfl,D,rfl,hp,hB.sorted (by omega)⟩
 have h1:(s:Int)<(n:Int):=by omega
 obtain⟨⟨y,e,σ⟩,k1,a,k2,k3,k4,k5,k6,k7,k8,Dn,Rs,k9,k10,k11,k12,k13,k14⟩:=qak9 g cl n l D hn hb hk s hs c hp hB
 simp only at k1 k2 k3 k4 k5 k6 k7 k8 k9
 subst k2;subst k9
 have hl2:=k11.length_eq
 rw[wg]at hl2
 have w1:IntKind.i64.wrap ((a:Int)+(s:Int))=((a+s:Nat):Int):=qg4 (by omega)
 have w2:IntKind.i64.wrap (2*(s:Int))=((2*s:Nat):Int):=qaip (by omega)
 have w3:IntKind.i64.wrap ((s:Int)*2)=((2*s:Nat):Int):=qak1 (by omega)
 left
 by_cases c2:a+s<n
 ·have h2:((a+s:Nat):Int)<(n:Int):=by omega
  obtain⟨X,Y,rfl,hX,qX,hY⟩:=k13.split (by omega)
  rw[wg]at hl2 k12
  have hkD:qjn (Dn++(X++(Y++[]))):=by rw[wG];exact hk.perm k11
  obtain⟨Z,p1,q1,r1⟩:=q89 g cl n (by omega) _ Dn X Y [] (wq _) (by omega) (by omega) qX (hY.sorted (by omega)) (by simp;omega) hkD a (a+s) n k10 (by omega) (by omega)
  unfold qxm at r1
  simp only[zgn]at r1
  have hz:=p1.length_eq
  rw[wg]at hz
  refine⟨(Dn++Z,2*s),?_,⟨(wx Dn p1).trans k11,by simp only;omega,k14 _ (.last (by omega) q1)⟩,by simp only;omega⟩
  simp only[qbn,h1,h2,w1,w2,w3,k1,k3,k4,k5,k6,k7,k8,r1,qa1,wf,wl,zgy,↓qc,↓qx,↓wb,wa,wc]
 ·have h2:¬((a+s:Nat):Int)<(n:Int):=by omega
  refine⟨(Dn++Rs,2*s),?_,⟨k11,by simp only;omega,k14 _ (.last (by omega) (k13.sorted (by omega)))⟩,by simp only;omega⟩
  simp only[qbn,h1,h2,w1,w2,w3,k1,k3,k4,k5,k6,k7,k8,qa1,wf,wl,zgy,↓qc,↓qx,↓wb,wa,wc]
theorem qanf (l:List Evt) (hn:n=l.length) (hb:n<2^58) (hk:qjn l) :
  ∃l':List Evt,l'.Perm l∧l'.Pairwise leE∧(evL T).call qbc [.sl 0 g 0 n cl,(ii n),(.fn (.func qd) [] [])] [.row 6 ((l).map Evt.r) g]=some (.tup [],[.row 6 ((l').map Evt.r) g]):=by
 obtain⟨⟨y,e,σ⟩,k1,a,k2,k3,k4,k5,k6,k7,k8,Dn,Rs,k9,k10,k11,k12,k13⟩:=qalb g cl n l hn hb hk
 simp only at k1 k2 k3 k4 k5 k6 k7 k8 k9
 subst k2;subst k9
 have hl:=k11.length_eq
 rw[wg]at hl
 obtain⟨R',p1,q1,r1⟩:=q5l g cl n Dn Rs [] (by simp;omega) (by omega) (by rw[wG];exact hk.perm k11) a n k10 (by omega)
 simp only[zgn]at r1
 obtain⟨⟨y',e',σ'⟩,l1,l2,l3,l',l4,l5,l6⟩:=qalu g cl n l (Dn++R') hn hb hk ((wx Dn p1).trans k11) (k13 _ (.last (by rw[p1.length_eq];omega) q1))
 simp only at l1 l2 l3 l4
 subst l2;subst l4
 refine⟨l',l5,l6,?_⟩
 rw[qg qnf qm1]
 simp only[qd6,k1,k3,k4,k5,k6,k7,k8,r1,l1,l3,qa1,wf,ql,wl,zgy,↓qc,↓qx,↓wb,wd,wa,wc]
theorem qab7 (l:List Evt) (hn:n=l.length) (hb:n<2^58) (hk:qjn l) :
  ∃l':List Evt,l'.Perm l∧l'.Pairwise leE∧(evL T).call qw [.sl 0 g 0 n cl,(.fn (.func qd) [] [])] [.row 6 ((l).map Evt.r) g]=some (.tup [],[.row 6 ((l').map Evt.r) g]):=by
 obtain⟨l',h1,h2,h3⟩:=qanf g cl n l hn hb hk
 refine⟨l',h1,h2,?_⟩
 rw[qg qim qig]
 simp only[qbr,h3,qa1,wf,ql,wl,zgy,↓qc,↓wb,wd,wa,wc]
end
set_option maxRecDepth 10000
def q45 (l:List Evt):List Evt:=l.mergeSort (fun a b=>decide (q65 a b≤0))
def qaf7 (l:List Evt):Prop:=l.Pairwise (fun a b=>¬q65 a b=0)
theorem qsi (l:List Evt):(q45 l).Perm l:=List.mergeSort_perm _ _
theorem qzf (l:List Evt):(q45 l).Pairwise leE:=by
 have:=List.pairwise_mergeSort (le:=fun a b=>decide (q65 a b≤0)) (fun a b c h1 h2=>by simp only[decide_eq_true_eq]at h1 h2 ⊢;exact qwn a b c h1 h2) (fun a b=>by
  have:=q2v a b
  by_cases h:q65 a b≤0
  ·simp[h]
  ·have:q65 b a≤0:=by omega
   simp[this]) l
 exact this.imp (fun h=>of_decide_eq_true h)
theorem qaf7.eq {l:List Evt} (h:qaf7 l) {a b:Evt} (ha:a∈l) (hb:b∈l) (hc:q65 a b=0):a=b:=by
 obtain⟨i,hi⟩:=wo.1 ha
 obtain⟨j,hj⟩:=wo.1 hb
 obtain⟨hi',rfl⟩:=zei.1 hi
 obtain⟨hj',rfl⟩:=zei.1 hj
 rw[qaf7,wy]at h
 rcases Nat.lt_trichotomy i j with c|c|c
 ·exact absurd hc (h i j hi' hj' c)
 ·subst c;rfl
 ·exact absurd (by rw[q2v];omega) (h j i hj' hi' c)
theorem qaer {l l':List Evt} (hd:qaf7 l) (hp:l'.Perm l) (hs:l'.Pairwise leE):l'=q45 l:=by
 refine List.Perm.eq_of_pairwise (le:=leE) (fun a b ha hb h1 h2 => ?_) hs (qzf l) (hp.trans (qsi l).symm)
 refine hd.eq (hp.mem_iff.1 ha) ((qsi l).mem_iff.1 hb) ?_
 have:=q2v a b
 unfold leE at h1 h2;omega
theorem qaf7.perm {l l':List Evt} (h:qaf7 l) (p:l'.Perm l):qaf7 l':=(p.pairwise_iff (fun {x y} hxy hyx=>hxy (by rw[q2v];omega))).2 h
theorem qab4 (l:List Evt) (c:Bool) (h:l.length≤1000000):(evL T).call qat [(.fsl ((l).map Evt.r) c)] []=some (.sl 0 0 0 l.length false,[.row 6 (l.map Evt.r) 0]):=by
 have h':l.length*64≤140737488355328:=by omega
 rw[q4g qk0]
 simp only[qqp,qa1,q8d,h',wf,zgy,↓wb,Nat.reduceLT,Nat.reducePow]
theorem qsv (l:List Evt) (c:Bool) (h:l.length≤1000000) (hk:qjn l) : ∃l':List Evt,l'.Perm l∧l'.Pairwise leE∧qaz (evL T) qdg [(.fsl ((l).map Evt.r) c)]=some (.fsl ((l').map Evt.r) false):=by
 have hcl:=qab4 l c h
 obtain⟨l',h1,h2,h3⟩:=qab7 0 false l.length l rfl (by omega) hk
 refine⟨l',h1,h2,?_⟩
 have hlen:=h1.length_eq
 rw[qaz,qg q0f qyj]
 rw[←hlen]at hcl h3
 simp only[ql2,hcl,h3,qa1,wf,q2m,ql,zgy,↓qc,↓wb,wa,Nat.reduceLT,wc]
theorem qrm (l:List Evt) (c:Bool) (h:l.length≤1000000) (hk:qjn l) (hd:qaf7 l):qaz (evL T) qdg [(.fsl ((l).map Evt.r) c)]=some (.fsl ((q45 l).map Evt.r) false):=by
 obtain⟨l',h1,h2,h3⟩:=qsv l c h hk
 rw[←qaer hd h1 h2];exact h3
set_option maxRecDepth 10000
def ql3 (k i:Nat) (s:Start):Evt:=⟨s.time,[(k:Int),(i:Int)],k,1,i,0⟩
def qnm (k:Nat) (l:List Start):List Evt:=l.mapIdx (fun i s=>ql3 k i s)
def qo7 (lps:List (List Start)):List Evt:=(lps.mapIdx (fun k l=>qnm k l)).flatten
theorem qag3 (k:Nat) (l:List Start) (s:Start):qnm k (l++[s])=qnm k l++[ql3 k l.length s]:=by simp[qnm,List.mapIdx_append]
theorem qai0 (lps:List (List Start)) (l:List Start):qo7 (lps++[l])=qo7 lps++qnm lps.length l:=by simp[qo7,List.mapIdx_append]
theorem qabu (k:Nat) (l:List Start):(qnm k l).length=l.length:=by simp[qnm]
theorem qvo {k:Nat} {l:List Start} {x:Evt} (h:x∈qnm k l) : ∃i s,l[i]? = some s∧x=ql3 k i s:=by
 simp only[qnm]at h
 obtain⟨i,hi⟩:=wo.1 h
 rw[List.getElem?_mapIdx]at hi
 cases hl:l[i]? with
 |none=>rw[hl]at hi;cases hi
 |some s=>rw[hl]at hi;cases hi;exact⟨i,s,hl,rfl⟩
theorem q3i {lps:List (List Start)} {x:Evt} (h:x∈qo7 lps) : ∃k l i s,lps[k]? = some l∧l[i]? = some s∧x=ql3 k i s:=by
 simp only[qo7,List.mem_flatten]at h
 obtain⟨r,hr,hx⟩:=h
 obtain⟨k,hk⟩:=wo.1 hr
 rw[List.getElem?_mapIdx]at hk
 cases hl:lps[k]? with
 |none=>rw[hl]at hk;cases hk
 |some l=>
  rw[hl]at hk;cases hk
  obtain⟨i,s,h1,h2⟩:=qvo hx
  exact⟨k,l,i,s,hl,h1,h2⟩
theorem qako (lps:List (List Start)):qjn (qo7 lps):=by
 intro x hx
 obtain⟨k,l,i,s,_,_,rfl⟩:=q3i hx
 simp[ql3]
theorem qaeo {k k' i i':Nat} {s s':Start} (h:q65 (ql3 k i s) (ql3 k' i' s')=0):k=k'∧i=i':=by
 have:=((qae6 _ _).1 h).2
 simp only[ql3,List.cons.injEq,and_true]at this
 omega
theorem qakd (lps:List (List Start)):qaf7 (qo7 lps):=by
 unfold qaf7 qo7
 rw[List.pairwise_flatten]
 constructor
 ·intro r hr
  obtain⟨k,hk⟩:=wo.1 hr
  rw[List.getElem?_mapIdx]at hk
  cases hl:lps[k]? with
  |none=>rw[hl]at hk;cases hk
  |some l=>
   rw[hl]at hk;cases hk
   rw[wy]
   intro i j hi hj hij h
   simp only[qnm,List.getElem_mapIdx]at h
   have:=(qaeo h).2;omega
 ·rw[wy]
  intro k k' hk hk' hkk x hx y hy h
  simp only[List.getElem_mapIdx]at hx hy
  obtain⟨i,s,_,rfl⟩:=qvo hx
  obtain⟨i',s',_,rfl⟩:=qvo hy
  have:=(qaeo h).1;omega
theorem qagj {k i:Nat} {l:List Start} {s:Start} (h:l[i]? = some s):qnm k (l.take (i+1))=qnm k (l.take i)++[ql3 k i s]:=by
 have hi:i<l.length:=(zei.1 h).1
 rw[qf6 h,qag3,List.length_take,Nat.min_eq_left (by omega)]
theorem qabm {k:Nat} {lps:List (List Start)} {l:List Start} (h:lps[k]? = some l):qo7 (lps.take (k+1))=qo7 (lps.take k)++qnm k l:=by
 have hi:k<lps.length:=(zei.1 h).1
 rw[qf6 h,qai0,List.length_take,Nat.min_eq_left (by omega)]
theorem qafx : ∀ {lps:List (List Start)} {m:Nat},(∀l∈lps,l.length≤m)→(qo7 lps).length≤lps.length*m:=by
 intro lps m h
 have : ∀n,n≤lps.length→(qo7 (lps.take n)).length≤n*m:=by
  intro n
  induction n with
  |zero=>intro _;simp[qo7]
  |succ n ih=>
   intro hn
   obtain⟨l,hl⟩ : ∃l,lps[n]? = some l:=⟨_,zgE (by omega)⟩
   rw[qabm hl,wg,qabu,Nat.succ_mul]
   have:=ih (by omega)
   have:=h l (zmg hl)
   omega
 have:=this lps.length (wq _)
 rwa[wp]at this
section
variable (c:Cfg)
theorem q5q (out:List Evt) (e:List AV):List.take out.length (out.map Evt.r)=out.map Evt.r∧List.take (out.length+1) (out.map Evt.r++[e])=out.map Evt.r++[e]:=⟨ztl (by simp),ztl (by simp)⟩
theorem qajr (k:Nat) (l:List Start) (o0:List Evt) (g0:Nat) (hl:l.length≤12) (hk:k≤12) (ho:o0.length≤1000) (n:Int) :
  ∃y,itB (exec (evL T) itL none qis) (qao [3,4,9,10,11,16,17,18] true 1) ⟨[(3,.sl 0 g0 0 o0.length false),(4,(ii k)),(9,(.fsl ((c.lps).map lpC) false)),(10,(ii n)),(11,(ii k)),(16,(.fsl ((l).map Start.r) false)),(17,(ii l.length)),(18,(ii 0))],[]⟩ [.row 6 (o0.map Evt.r) g0]=some y ∧
   ∃g:Nat,y.1 = .exit 2∧y.2.1.marks=[]∧y.2.2=[.row 6 ((o0++qnm k l).map Evt.r) g]∧we y.2.1.vars 3=some (.sl 0 g 0 (o0++qnm k l).length false)∧we y.2.1.vars 9=some (.fsl ((c.lps).map lpC) false)∧we y.2.1.vars 10=some (ii n)∧we y.2.1.vars 11=some (ii k):=by
 have key:=qh5 (f:=exec (evL T) itL none qis) (s:=qao [3,4,9,10,11,16,17,18] true 1) (α:=List Evt×Nat)
  (fun i a=>⟨[(3,.sl 0 a.2 0 a.1.length false),(4,(ii k)),(9,(.fsl ((c.lps).map lpC) false)),(10,(ii n)),(11,(ii k)),(16,(.fsl ((l).map Start.r) false)),(17,(ii l.length)),(18,(ii i))],[]⟩) (fun i a=>[.row 6 (a.1.map Evt.r) a.2])
  (fun i a=>a.1=o0++qnm k (l.take i)) l.length
  (fun y => ∃g:Nat,y.1 = .exit 2∧y.2.1.marks=[]∧y.2.2=[.row 6 ((o0++qnm k l).map Evt.r) g]∧we y.2.1.vars 3=some (.sl 0 g 0 (o0++qnm k l).length false)∧we y.2.1.vars 9=some (.fsl ((c.lps).map lpC) false)∧we y.2.1.vars 10=some (ii n)∧we y.2.1.vars 11=some (ii k)) ?_ ?_ 0 (o0,g0) (wD _) (by simp[qnm])
 ·exact key
 ·rintro i ⟨out,g⟩ hi hout
  simp only at hout⊢
  obtain⟨x,hx⟩ : ∃x,l[i]? = some x:=⟨_,zgE hi⟩
  have hi':(i:Int)<(l.length:Int):=by omega
  have hw:IntKind.i64.wrap ((i:Int)+1)=((i+1:Nat):Int):=by rw[qk (by omega) (by omega)];simp
  have ho2:out.length≤1012:=by rw[hout,wg,qabu];have:=List.length_take_le i l;omega
  have hb:(out.length+1)*64≤140737488355328:=by omega
  have hcd:=q0w [(k:Int)] true i (by simp)
  simp only[List.map_cons,List.map_nil,qgg]at hcd
  obtain⟨t1,t2⟩:=q5q out (ql3 k i x).r
  have hr:(out++[ql3 k i x]).map Evt.r=out.map Evt.r++[(ql3 k i x).r]:=by rw[List.map_append];rfl
  refine .inl ⟨(out++[ql3 k i x],g+1),?_,by simp only;rw[qagj hx,hout,wk]⟩
  have hlo:=qa1 1 (out++[ql3 k i x])
  simp only
  rw[hr,wg]
  rw[hr]at hlo
  have hil : ∀n,qk9 n ([(k:Int),(i:Int)].map qgg)=true:=fun n=>qcs n _
  simp only[ql3,Evt.r]at t2 hlo⊢
  have hcd2:([(k:Int)]++[(i:Int)]).map qgg=[(k:Int),(i:Int)].map qgg:=rfl
  rw[hcd2]at hcd
  generalize [(k:Int),(i:Int)].map qgg=kl at hcd hlo t2 hil⊢
  simp only[qis,zgs,zgr,zgq,zgt,hx,hi',hw,hcd,hb,t1,hlo,Start.r,qc8,qte,wf,Ev.stP,q6o,qb,qdr,wi,Ev.AV.uc,wj,wl,ne_eq,zgy,↓qc,↓wb,wd,wa,Nat.reduceMul,Nat.reduceLeDiff,Nat.reducePow]
 ·rintro⟨out,g⟩ hout
  rw[wp]at hout
  simp only at hout⊢
  simp only[qis,wt,wf,zgy,↓qc,↓wb,wa]
  exact⟨_,rfl,g,rfl,rfl,by rw[hout],by rw[hout,wg];rfl,rfl,rfl,rfl⟩
end
set_option maxRecDepth 10000
section
variable (c:Cfg)
structure Small12 (c:Cfg):Prop where
 lps:c.lps.length≤12
 lp : ∀l∈c.lps,l.length≤12
theorem Small12.len {c:Cfg} (h:Small12 c) (k:Nat):(qo7 (c.lps.take k)).length≤144:=by
 have:=qafx (lps:=c.lps.take k) (m:=12) (fun l hl=>h.lp l (List.mem_of_mem_take hl))
 have:=List.length_take_le k c.lps
 have:=List.length_take_le' k c.lps
 have:=h.lps
 omega
theorem qajg (h:Small12 c) :
  ∃y,itB (exec (evL T) itL none qiq) (qao [3,9,10,11] true 1) ⟨[(3,.sl 0 0 0 0 false),(9,(.fsl ((c.lps).map lpC) false)),(10,(ii c.lps.length)),(11,(ii 0))],[]⟩ [.row 6 [] 0]=some y ∧
   ∃g:Nat,y.1 = .exit 0∧y.2.1.marks=[]∧y.2.2=[.row 6 ((qo7 c.lps).map Evt.r) g]∧we y.2.1.vars 3=some (.sl 0 g 0 (qo7 c.lps).length false):=by
 have key:=qh5 (f:=exec (evL T) itL none qiq) (s:=qao [3,9,10,11] true 1) (α:=List Evt×Nat)
  (fun i a=>⟨[(3,.sl 0 a.2 0 a.1.length false),(9,(.fsl ((c.lps).map lpC) false)),(10,(ii c.lps.length)),(11,(ii i))],[]⟩) (fun i a=>[.row 6 (a.1.map Evt.r) a.2])
  (fun i a=>a.1=qo7 (c.lps.take i)) c.lps.length
  (fun y => ∃g:Nat,y.1 = .exit 0∧y.2.1.marks=[]∧y.2.2=[.row 6 ((qo7 c.lps).map Evt.r) g]∧we y.2.1.vars 3=some (.sl 0 g 0 (qo7 c.lps).length false)) ?_ ?_ 0 ([],0) (wD _) (by simp[qo7])
 ·exact key
 ·rintro i ⟨out,g⟩ hi hout
  simp only at hout⊢
  obtain⟨x,hx⟩ : ∃x,c.lps[i]? = some x:=⟨_,zgE hi⟩
  have hlps:=h.lps
  have hi':(i:Int)<(c.lps.length:Int):=by omega
  have hw:IntKind.i64.wrap ((i:Int)+1)=((i+1:Nat):Int):=by rw[qk (by omega) (by omega)];simp
  have hl:=h.len i
  obtain⟨⟨y,e,σ⟩,k1,g',k2,k3,k4,k5,k6,k7,k8⟩:=qajr c i x out g (h.lp _ (zmg hx)) (by omega) (by rw[hout];omega) c.lps.length
  simp only at k1 k2 k3 k4 k5 k6 k7 k8
  subst k2;subst k4
  refine .inl ⟨(out++qnm i x,g'),?_,by simp only;rw[qabm hx,hout]⟩
  simp only[zgp]at k5⊢
  simp only[qiq,zgs,zgr,zgq,zgt,hx,hi',hw,k1,k3,k5,k6,k7,k8,lpC,qa1,qc8,qte,wf,qb,wl,zgy,↓qc,↓qx,↓wb,wa]
 ·rintro⟨out,g⟩ hout
  rw[wp]at hout
  simp only at hout⊢
  simp only[qiq,wt,wf,zgy,↓qc,↓wb,wa]
  exact⟨_,rfl,g,rfl,rfl,by rw[hout],by rw[hout];rfl⟩
theorem q4z (h:Small12 c):qaz (evL T) qgw [(.agg [(.fsl ((c.lps).map lpC) false),(.fsl ((c.progs).map qbu) false),(ii c.look),(ii c.fin),(ii c.cap)])]=some (.fsl ((q45 (qo7 c.lps)).map Evt.r) false):=by
 obtain⟨⟨y,e,σ⟩,k1,g,k2,k3,k4,k5⟩:=qajg c h
 simp only at k1 k2 k3 k4 k5
 subst k2;subst k4
 have hl:=h.len c.lps.length
 rw[wp]at hl
 have hs:=qrm (qo7 c.lps) false (by omega) (qako _) (qakd _)
 have t1:=(q5q (qo7 c.lps) []).1
 have h0:(0:Int)=((0:Nat):Int):=rfl
 rw[qaz,qg q28 q1d]
 simp only[qnu,k1,k3,k5,hs,t1,qa1,qc8,wf,qb,wi,wj,ql,wl,ne_eq,zgy,↓qc,↓qx,↓wb,wa,Nat.reduceLT]
end
set_option maxRecDepth 10000
def stP (s:Start):Pr:=⟨s.prog,0,true,[]⟩
def stLp (ps:List Pr):Lp×Bool:=(⟨0,0,ps,0⟩,decide (ps=[]))
def qaca (σ:qf) (lim:Nat) (row:List AV) (ps:List Pr):Prop:=
 ps=[]∧row=[(ii 0),(ii 0),.fsl [] true,(ii 0)]∨ps ≠ [] ∧ ∃o g,0<o∧o<lim∧row=[(ii 0),(ii 0),.sl o g 0 ps.length false,(ii 0)]∧σ[o]? = some (.row 4 (ps.map Pr.r) g)
theorem qaca.frz {σ:qf} {lim d:Nat} {row:List AV} {ps:List Pr} (h:qaca σ lim row ps):qil (Ev.frz σ (d+1)) row=some (lpF (stLp ps)):=by
 rcases h with ⟨rfl,rfl⟩|⟨h1,o,g,_,_,rfl,h2⟩
 ·rfl
 ·have t1:List.take ps.length (ps.map Pr.r)=ps.map Pr.r:=ztl (by simp)
  simp only[qwl,q62,qalv,h2,t1,q7e,qc4,lpF,stLp,h1,wf,zgy,↓qc,↓wb]
def qpr (σ:qf) (lim:Nat):List (List AV)→List (List Pr)→Prop
 | [],[]=>True
 |r::rs,p::ps=>qaca σ lim r p∧qpr σ lim rs ps
 | _,_=>False
theorem qaca.mono {σ σ':qf} {lim lim':Nat} {row:List AV} {ps:List Pr} (h:qaca σ lim row ps) (hl:lim≤lim') (hσ : ∀o,0<o→o<lim→σ'[o]? = σ[o]?):qaca σ' lim' row ps:=by
 rcases h with h|⟨h1,o,g,h2,h3,h4,h5⟩
 ·exact .inl h
 ·exact .inr ⟨h1,o,g,h2,by omega,h4,by rw[hσ o h2 h3];exact h5⟩
theorem qpr.mono {σ σ':qf} {lim lim':Nat} (hl:lim≤lim') (hσ : ∀o,0<o→o<lim→σ'[o]? = σ[o]?) : ∀ {rs:List (List AV)} {ps:List (List Pr)},qpr σ lim rs ps→qpr σ' lim' rs ps
 | [],[],h=>trivial
 |r::rs,p::ps,h=>⟨h.1.mono hl hσ,qpr.mono hl hσ h.2⟩
 | [],_ :: _,h=>h.elim
 | _ :: _,[],h=>h.elim
theorem qpr.snoc {σ:qf} {lim:Nat} {r:List AV} {p:List Pr} (hr:qaca σ lim r p) : ∀ {rs:List (List AV)} {ps:List (List Pr)},qpr σ lim rs ps→qpr σ lim (rs++[r]) (ps++[p])
 | [],[],h=>⟨hr,trivial⟩
 |r'::rs,p'::ps,h=>⟨h.1,qpr.snoc hr h.2⟩
 | [],_ :: _,h=>h.elim
 | _ :: _,[],h=>h.elim
theorem qpr.frz {σ:qf} {lim d:Nat} : ∀ {rs:List (List AV)} {ps:List (List Pr)},qpr σ lim rs ps→qil (qil (Ev.frz σ (d+1))) rs=some ((ps.map stLp).map lpF)
 | [],[],h=>rfl
 |r::rs,p::ps,h=>by rw[qwl,h.1.frz,qpr.frz h.2];rfl
 | [],_ :: _,h=>h.elim
 | _ :: _,[],h=>h.elim
theorem qpr.len {σ:qf} {lim:Nat} : ∀ {rs:List (List AV)} {ps:List (List Pr)},qpr σ lim rs ps→rs.length=ps.length
 | [],[],h=>rfl
 |r::rs,p::ps,h=>by rw[wF,wF,qpr.len h.2]
 | [],_ :: _,h=>h.elim
 | _ :: _,[],h=>h.elim
section
variable (c:Cfg)
def Part (τ0 τ:qf) (i:Nat) (l:List Start) (rk:List AV):Prop:=
 τ0.length≤τ.length∧(∀j,j<τ0.length→τ[j]? = τ0[j]?) ∧
 (i=0∧rk=[(ii 0),(ii 0),.fsl [] true,(ii 0)]∨0<i ∧ ∃o g,τ0.length≤o∧o<τ.length∧rk=[(ii 0),(ii 0),.sl (o+1) g 0 i false,(ii 0)]∧τ[o]? = some (.row 4 (((l.take i).map stP).map Pr.r) g))
theorem Part.rowOk {τ0 τ:qf} {l:List Start} {rk:List AV} (h:Part τ0 τ l.length l rk) (x:SObj):qaca (x::τ) (τ.length+1) rk (l.map stP):=by
 obtain⟨_,_,h⟩:=h
 rcases h with ⟨h1,h2⟩|⟨h1,o,g,h2,h3,h4,h5⟩
 ·exact .inl ⟨by rw[wh h1];rfl,h2⟩
 ·refine .inr ⟨fun e=>by rw[List.map_eq_nil_iff]at e;subst e;simp at h1,o+1,g,by omega,by omega,by rw[h4,List.length_map],?_⟩
  rw[wp]at h5
  rw[wz];exact h5
theorem qaft (k n:Nat) (l:List Start) (R1 R2:List (List AV)) (hk:k=R1.length) (hn:n=R1.length+1+R2.length) (hl:l.length≤12) (τ0:qf) :
  ∃y,itB (exec (evL T) itL none qhv) (qao [3,4,13,14,15,20,21,22] false (τ0.length+1)) ⟨[(3,.sl 0 0 0 n true),(4,(ii k)),(13,(.fsl ((c.lps).map lpC) false)),(14,(ii n)),(15,(ii k)),(20,(.fsl ((l).map Start.r) false)),(21,(ii l.length)),(22,(ii 0))],[]⟩ (.row 4 (R1++[(ii 0),(ii 0),.fsl [] true,(ii 0)]::R2) 0::τ0)=some y ∧
   ∃(rk:List AV) (τ:qf),y.1 = .exit 2∧y.2.1.marks=[]∧y.2.2 = .row 4 (R1++rk::R2) 0::τ∧Part τ0 τ l.length l rk∧we y.2.1.vars 3=some (.sl 0 0 0 n true)∧we y.2.1.vars 13=some (.fsl ((c.lps).map lpC) false)∧we y.2.1.vars 14=some (ii n)∧we y.2.1.vars 15=some (ii k):=by
 have key:=qh5 (f:=exec (evL T) itL none qhv) (s:=qao [3,4,13,14,15,20,21,22] false (τ0.length+1)) (α:=List AV×qf)
  (fun i a=>⟨[(3,.sl 0 0 0 n true),(4,(ii k)),(13,(.fsl ((c.lps).map lpC) false)),(14,(ii n)),(15,(ii k)),(20,(.fsl ((l).map Start.r) false)),(21,(ii l.length)),(22,(ii i))],[]⟩) (fun i a => .row 4 (R1++a.1::R2) 0::a.2)
  (fun i a=>Part τ0 a.2 i l a.1) l.length
  (fun y => ∃(rk:List AV) (τ:qf),y.1 = .exit 2∧y.2.1.marks=[]∧y.2.2 = .row 4 (R1++rk::R2) 0::τ∧Part τ0 τ l.length l rk∧we y.2.1.vars 3=some (.sl 0 0 0 n true)∧we y.2.1.vars 13=some (.fsl ((c.lps).map lpC) false)∧we y.2.1.vars 14=some (ii n)∧we y.2.1.vars 15=some (ii k)) ?_ ?_ 0 ([(ii 0),(ii 0),.fsl [] true,(ii 0)],τ0) (wD _) ⟨wq _,fun _ _=>rfl,.inl ⟨rfl,rfl⟩⟩
 ·exact key
 ·rintro i ⟨rk,τ⟩ hi ⟨h1,h2,h3⟩
  simp only at h1 h2 h3⊢
  obtain⟨x,hx⟩ : ∃x,l[i]? = some x:=⟨_,zgE hi⟩
  have hi':(i:Int)<(l.length:Int):=by omega
  have hw:IntKind.i64.wrap ((i:Int)+1)=((i+1:Nat):Int):=by rw[qk (by omega) (by omega)];simp
  have rg : ∀r:List AV,(R1++r::R2)[k]? = some r:=fun r=>by rw[hk];simp
  have rs : ∀r v:List AV,(R1++r::R2).set k v=R1++v::R2:=fun r v=>by rw[hk];simp[]
  have rk':k<n:=by omega
  have tg : ∀v:SObj,(τ++[v])[τ.length]? = some v:=fun v=>by simp
  have ts : ∀v w:SObj,(τ++[v]).set τ.length w=τ++[w]:=fun v w=>by simp[]
  obtain⟨xp,xt⟩:=x
  rcases h3 with ⟨hi0,rfl⟩|⟨h3,o,g,h4,h5,rfl,h6⟩
  ·refine .inl ⟨([(ii 0),(ii 0),.sl (τ.length+1+1) 0 0 1 false,(ii 0)],τ++[.row 2 [[(ii xp),(ii xt)]] 0,.row 4 [(stP ⟨xp,xt⟩).r] 0]),?_,?_⟩
   ·simp only[qhv,zgs,zgr,zgq,zgt,hx,hi',hw,rg,rs,rk',tg,ts,wk,List.map_nil,Start.r,stP,Pr.r,wf,Ev.stP,q6o,qb,qdr,wi,Ev.AV.uc,wj,ne_eq,zgy,↓qc,↓wb,wd,wa,Nat.reduceMul,Nat.reduceLT,Nat.reduceLeDiff,Nat.reducePow]
   ·refine⟨by simp;omega,fun j hj=>by rw[wm (by omega)];exact h2 j hj,.inr ⟨by omega,τ.length+1,0,by omega,by simp,by rw[hi0],?_⟩⟩
    rw[qf6 hx,hi0]
    simp
  ·have og : ∀v:SObj,(τ++[v])[o]? = some (.row 4 (((l.take i).map stP).map Pr.r) g):=fun v=>by rw[wm h5];exact h6
   have ln:(((l.take i).map stP).map Pr.r).length=i:=by simp;omega
   have tk:List.take i (((l.take i).map stP).map Pr.r)=((l.take i).map stP).map Pr.r:=ztl (by simp;omega)
   have bd:(i+1)*48≤140737488355328:=by omega
   have il:i≤i:=wq _
   have nx:((l.take (i+1)).map stP).map Pr.r=((l.take i).map stP).map Pr.r++[(stP ⟨xp,xt⟩).r]:=by rw[qf6 hx];simp
   refine .inl ⟨([(ii 0),(ii 0),.sl (o+1) (g+1) 0 (i+1) false,(ii 0)],(τ++[SObj.row 2 [[(ii xp),(ii xt)]] 0]:List SObj).set o (.row 4 (((l.take (i+1)).map stP).map Pr.r) (g+1))),?_,?_⟩
   ·simp only
    rw[nx]
    generalize ((l.take i).map stP).map Pr.r=PR at og ln tk⊢
    simp only[qhv,zgs,zgr,zgq,zgt,hx,hi',hw,rg,rs,rk',tg,ts,og,ln,tk,bd,il,List.map_nil,Start.r,stP,Pr.r,wf,Ev.stP,q6o,qb,qdr,wi,Ev.AV.uc,wj,ne_eq,zgy,↓qc,↓wb,wd,wa,Nat.reduceMul,Nat.reduceLeDiff,Nat.reducePow]
   ·refine⟨by simp;omega,fun j hj => ?_,.inr ⟨by omega,o,g+1,h4,by simp;omega,rfl,?_⟩⟩
    ·rw[wu (by omega),wm (by omega)];exact h2 j hj
    ·rw[wB (by simp;omega)]
 ·rintro⟨rk,τ⟩ hP
  simp only at hP⊢
  simp only[qhv,wt,wf,zgy,↓qc,↓wb,wa]
  exact⟨_,rfl,rk,τ,rfl,rfl,rfl,hP,rfl,rfl,rfl,rfl⟩
end
set_option maxRecDepth 10000
def qahs (lps:List (List Start)):List (List Pr):=lps.map fun l=>l.map stP
def qp0 (lps:List (List Start)):List (Lp×Bool):=(qahs lps).map stLp
section
variable (c:Cfg)
theorem qaev (h:Small12 c) :
  ∃y,itB (exec (evL T) itL none qjf) (qao [3,13,14,15] false 1) ⟨[(3,.sl 0 0 0 c.lps.length true),(13,(.fsl ((c.lps).map lpC) false)),(14,(ii c.lps.length)),(15,(ii 0))],[]⟩ [.row 4 (wA c.lps.length [(ii 0),(ii 0),.fsl [] true,(ii 0)]) 0]=some y ∧
   ∃(R:List (List AV)) (τ:qf),y.1 = .exit 0∧y.2.1.marks=[]∧y.2.2 = .row 4 R 0::τ∧qpr y.2.2 (τ.length+1) R (qahs c.lps)∧we y.2.1.vars 3=some (.sl 0 0 0 c.lps.length true):=by
 have key:=qh5 (f:=exec (evL T) itL none qjf) (s:=qao [3,13,14,15] false 1) (α:=List (List AV)×qf)
  (fun i a=>⟨[(3,.sl 0 0 0 c.lps.length true),(13,(.fsl ((c.lps).map lpC) false)),(14,(ii c.lps.length)),(15,(ii i))],[]⟩) (fun i a => .row 4 (a.1++wA (c.lps.length-i) [(ii 0),(ii 0),.fsl [] true,(ii 0)]) 0::a.2)
  (fun i a => ∀x:SObj,qpr (x::a.2) (a.2.length+1) a.1 (qahs (c.lps.take i))) c.lps.length
  (fun y => ∃(R:List (List AV)) (τ:qf),y.1 = .exit 0∧y.2.1.marks=[]∧y.2.2 = .row 4 R 0::τ∧qpr y.2.2 (τ.length+1) R (qahs c.lps)∧we y.2.1.vars 3=some (.sl 0 0 0 c.lps.length true)) ?_ ?_ 0 ([],[]) (wD _) (fun _=>trivial)
 ·exact key
 ·rintro i ⟨R,τ⟩ hi hR
  simp only at hR⊢
  obtain⟨x,hx⟩ : ∃x,c.lps[i]? = some x:=⟨_,zgE hi⟩
  have hlps:=h.lps
  have hi':(i:Int)<(c.lps.length:Int):=by omega
  have hw:IntKind.i64.wrap ((i:Int)+1)=((i+1:Nat):Int):=by rw[qk (by omega) (by omega)];simp
  have hRl:i=R.length:=by rw[(hR .dead).len];simp[qahs];omega
  have hrep:wA (c.lps.length-i) ([(ii 0),(ii 0),.fsl [] true,(ii 0)]:List AV)=([(ii 0),(ii 0),.fsl [] true,(ii 0)]:List AV)::wA (c.lps.length-(i+1)) ([(ii 0),(ii 0),.fsl [] true,(ii 0)]:List AV):=by
   rw[show c.lps.length-i=(c.lps.length-(i+1))+1 by omega];rfl
  obtain⟨⟨y,e,σ⟩,k1,rk,τ',k2,k3,k4,k5,k6,k7,k8,k9⟩:=qaft c i c.lps.length x R (wA (c.lps.length-(i+1)) [(ii 0),(ii 0),.fsl [] true,(ii 0)]) hRl (by simp;omega) (h.lp _ (zmg hx)) τ
  simp only at k1 k2 k3 k4 k6 k7 k8 k9
  subst k2;subst k4
  refine .inl ⟨(R++[rk],τ'),?_,fun z => ?_⟩
  ·simp only[wk,zgm,zgl]
   rw[hrep]
   generalize wA (c.lps.length-(i+1)) ([(ii 0),(ii 0),.fsl [] true,(ii 0)]:List AV)=RR at k1⊢
   simp only[qjf,zgs,zgr,zgq,zgt,hx,hi',hw,k1,k3,k6,k7,k8,k9,lpC,wf,qb,zgy,↓qc,↓qx,↓wb,wa]
  ·have:qahs (c.lps.take (i+1))=qahs (c.lps.take i)++[x.map stP]:=by rw[qf6 hx];simp[qahs]
   simp only
   rw[this]
   refine qpr.snoc (k5.rowOk z) ((hR z).mono (by have:=k5.1;omega) (fun o h1 h2 => ?_))
   obtain⟨o,rfl⟩ : ∃p,o=p+1:=⟨o-1,by omega⟩
   rw[wz,wz]
   exact k5.2.1 o (by omega)
 ·rintro⟨R,τ⟩ hR
  rw[wp]at hR
  simp only at hR⊢
  rw[Nat.sub_self,List.replicate_zero,wG]
  simp only[qjf,wt,wf,zgy,↓qc,↓wb,wa]
  exact⟨_,rfl,R,τ,rfl,rfl,rfl,hR _,rfl⟩
end
set_option maxRecDepth 10000
section
variable (c:Cfg)
def RPart (b i:Nat) (l:List Start) (W:qf):Prop:=
 i=0∧W=[.row 4 [[(ii 0),(ii 0),.fsl [] true,(ii 0)]] 0]∨0<i ∧ ∃g,W=[.row 4 [[(ii 0),(ii 0),.sl (b+1+1) g 0 i false,(ii 0)]] 0,.row 4 (((l.take i).map stP).map Pr.r) g]
theorem RPart.row {b:Nat} {l:List Start} {τ0 W:qf} (hb:b=τ0.length) (h:RPart b l.length l W) :
  ∃rk,(∃w:List SObj,W = .row 4 [rk] 0::w)∧rk.length=4∧qfk rk=true ∧ ∀x:SObj,qaca (x::(τ0++W)) ((τ0++W).length+1) rk (l.map stP):=by
 rcases h with ⟨h1,rfl⟩|⟨h1,g,rfl⟩
 ·refine⟨[(ii 0),(ii 0),.fsl [] true,(ii 0)],⟨[],rfl⟩,rfl,rfl,fun x => .inl ⟨?_,rfl⟩⟩
  rw[wh h1];rfl
 ·refine⟨_,⟨_,rfl⟩,rfl,rfl,fun x => .inr ⟨fun e=>by rw[List.map_eq_nil_iff]at e;subst e;simp at h1,b+1+1,g,by omega,by simp;omega,by rw[List.length_map],?_⟩⟩
  rw[wp,wz,hb,List.getElem?_append_right (by omega)]
  simp
end
set_option maxRecDepth 10000
structure Sim where
 trace:List (List Evt)
 lps:List Lp
 pend:List Evt
 n:Nat
 over:Bool
def lpAt (s:Sim) (i:Int):Lp:=(s.lps[i.toNat]?).getD ⟨0,0,[],0⟩
def qwb (s:Sim) (i:Int):List Evt:=(s.trace[i.toNat]?).getD []
def qe2 (gone:List (List Int)) (x:Evt):Bool:=!(gone.any fun g=>decide (g=x.key))
def Sim.step (c:Cfg) (s:Sim) (e:Evt) (rest:List Evt):Sim:=
 ⟨s.trace.set e.lp.toNat (qwb s e.lp++[e]),s.lps.set e.lp.toNat (qee c (lpAt s e.lp) e).lp,q45 ((rest++(qee c (lpAt s e.lp) e).out).filter (qe2 (qee c (lpAt s e.lp) e).gone)),s.n+1,s.over||(qee c (lpAt s e.lp) e).over⟩
def Sim.ready (c:Cfg) (s:Sim):Bool:=match s.pend with
 | []=>false
 |e :: _=>decide (e.time<c.fin)
def Sim.go (c:Cfg) (s:Sim):Sim:=match s.pend with
 | []=>s
 |e::rest=>s.step c e rest
def Sim.run (c:Cfg):Nat→Sim→Sim
 | 0,s=>s
 |k+1,s=>if s.ready c=true then Sim.run c k (s.go c)else s
def start (c:Cfg):Sim:=⟨wA c.lps.length [],(qp0 c.lps).map Prod.fst,q45 (qo7 c.lps),0,false⟩
structure EvG (c:Cfg) (n:Nat) (e:Evt):Prop where
 lp:0≤e.lp∧e.lp<c.lps.length
 time:0≤e.time∧e.time≤1152921504606846976
 key:2≤e.key.length∧e.key.length≤2+n
 proc:0≤e.proc∧e.proc<8
 arg:e.kind=2→0≤e.arg∧e.arg<16
theorem EvG.mono {c:Cfg} {n m:Nat} {e:Evt} (h:EvG c n e) (hm:n≤m):EvG c m e:=⟨h.lp,h.time,⟨h.key.1,by have:=h.key.2;omega⟩,h.proc,h.arg⟩
def LpG (c:Cfg) (n:Nat) (x:Lp):Prop:=x.procs.length≤8 ∧ ∀q∈x.procs,0≤q.prog∧q.prog<c.progs.length∧0≤q.pc∧q.pc≤((c.progs[q.prog.toNat]?).getD []).length∧q.timer.length≤2+n
def qvl (l:List Evt):Prop:=l.Pairwise (fun a b=>¬a.key=b.key)
def qal2 (c:Cfg) (x:Lp) (l:List Evt):Lp:=l.foldl (fun x e=>(qee c x e).lp) x
def qu3 (h:List Evt) (i:Nat):List Evt:=h.filter fun e=>decide (e.lp=i)
structure SInvK (c:Cfg) (s:Sim) (h:List Evt):Prop where
 valid:Valid c
 n:s.n=h.length
 trl:s.trace.length=c.lps.length
 tr : ∀i,i<c.lps.length→s.trace[i]? = some (qu3 h i)
 lpl:s.lps.length=c.lps.length
 lp : ∀x∈s.lps,LpG c h.length x
 keys:qvl (h++s.pend)
 ev : ∀e∈h++s.pend,EvG c h.length e
 tim : ∀e∈s.pend,e.kind=2 → ∃x q p,s.lps[e.lp.toNat]? = some x∧x.procs[e.proc.toNat]? = some q∧c.progs[q.prog.toNat]? = some p∧0≤e.arg∧e.arg<p.length
 par : ∀e∈h++s.pend,e.key.length=2 ∨ ∃p∈h,∃m,e.key=p.key++[m]∧p.time<e.time
 len:s.pend.length≤64+16*h.length
 rep : ∀i,i<c.lps.length→s.lps[i]? = some (qal2 c ((((qp0 c.lps).map Prod.fst)[i]?).getD ⟨0,0,[],0⟩) (qu3 h i))
 rdy : ∀i,i<c.lps.length → ∀k e,(qu3 h i)[k]? = some e→Ready c (qal2 c ((((qp0 c.lps).map Prod.fst)[i]?).getD ⟨0,0,[],0⟩) ((qu3 h i).take k)) e
structure SInv (c:Cfg) (s:Sim) (h:List Evt):Prop extends SInvK c s h where
 sorted:s.pend.Pairwise leE
 ord:h.Pairwise leE
 ord2 : ∀a∈h,∀b∈s.pend,leE a b
 fin : ∀e∈h,e.time<c.fin
theorem qvl.dist {l:List Evt} (h:qvl l):qaf7 l:=h.imp fun hk hc=>hk ((qae6 _ _).1 hc).2
theorem qvl.perm {l l':List Evt} (h:qvl l) (p:l'.Perm l):qvl l':=(p.pairwise_iff (fun {x y} hxy hyx=>hxy hyx.symm)).2 h
theorem leE_time {a b:Evt} (h:a.time<b.time):leE a b:=by
 have:=qj8 a.time b.time
 unfold leE q65
 rw[if_neg (by omega)];omega
section
variable {c:Cfg} {s:Sim} {h:List Evt}
theorem SInvK.headM (H:SInvK c s h) {e:Evt} (hm:e∈s.pend) (hn:h.length≤20000) : ∃x,s.lps[e.lp.toNat]? = some x∧lpAt s e.lp=x∧Ready c x e:=by
 have he:e∈h++s.pend:=wC _ hm
 have g:=H.ev e he
 obtain⟨x,hx⟩ : ∃x,s.lps[e.lp.toNat]? = some x:=⟨_,zgE (by rw[H.lpl];have:=g.lp;omega)⟩
 have hl:=H.lp x (zmg hx)
 refine⟨x,hx,by unfold lpAt;rw[hx];rfl,H.valid,hl.1,fun q hq => ?_,g.time,by have:=g.key;omega,fun q ha hk => ?_⟩
 ·obtain⟨a,b,d,f,k⟩:=hl.2 q hq;exact⟨a,b,d,f,by omega⟩
 ·obtain⟨_,_,hq,_⟩:=qaep ha
  obtain⟨x',q',p,h1,h2,h3,h4,h5⟩:=H.tim e hm hk
  rw[hx]at h1;cases h1
  rw[hq]at h2;cases h2
  rw[h3];exact⟨h4,by show e.arg≤(p.length:Int);omega⟩
theorem SInv.head (H:SInv c s h) {e:Evt} {rest:List Evt} (hp:s.pend=e::rest) (hn:h.length≤20000) : ∃x,s.lps[e.lp.toNat]? = some x∧lpAt s e.lp=x∧Ready c x e:=
 H.toSInvK.headM (by rw[hp];simp) hn
theorem qain {e:Evt} {out:List Evt} (h : ∀k ev ev',out[k]? = some ev→out[k+1]? = some ev' → ∃m m':Int,ev.key=e.key++[m]∧ev'.key=e.key++[m']∧m<m') :
  ∀(d i:Nat) (a b:Evt),out[i]? = some a→out[i+d+1]? = some b → ∃m m':Int,a.key=e.key++[m]∧b.key=e.key++[m']∧m<m'
 | 0,i,a,b,ha,hb=>h i a b ha hb
 |d+1,i,a,b,ha,hb=>by
  have hlt:=(zei.1 hb).1
  obtain⟨x,hx⟩ : ∃x,out[i+d+1]? = some x:=⟨_,zgE (by omega)⟩
  obtain⟨m,m1,h1,h2,h3⟩:=qain h d i a x ha hx
  obtain⟨m2,m3,h4,h5,h6⟩:=h (i+d+1) x b hx hb
  rw[h2]at h4
  have:=List.append_cancel_left h4
  simp only[List.cons.injEq,and_true]at this
  exact⟨m,m3,h1,h5,by omega⟩
theorem qakh {e:Evt} {out:List Evt} (h : ∀k ev ev',out[k]? = some ev→out[k+1]? = some ev' → ∃m m':Int,ev.key=e.key++[m]∧ev'.key=e.key++[m']∧m<m'):qvl out:=by
 unfold qvl
 rw[wy]
 intro i j hi hj hij hk
 obtain⟨m,m',h1,h2,h3⟩:=qain h (j-i-1) i out[i] out[j] (zgE hi) (by rw[show i+(j-i-1)+1=j by omega];exact zgE hj)
 rw[hk,h2]at h1
 have:=List.append_cancel_left h1
 simp only[List.cons.injEq,and_true]at this
 omega
theorem SInvK.keyNeP (H:SInvK c s h) {e:Evt} {rest:List Evt} (hp:s.pend.Perm (e::rest)) (hn:h.length≤20000):qvl ((h++[e])++(rest++(qee c (lpAt s e.lp) e).out)):=by
 have hme:e∈s.pend:=hp.mem_iff.2 (by simp)
 obtain⟨x,hx,hlx,R⟩:=H.headM hme hn
 rw[hlx]
 obtain⟨X,_,o1,o2⟩:=R.outs
 have hk:qvl (h++e::rest):=qvl.perm H.keys (hp.symm.append_left h)
 have e1:(h++[e])++(rest++(qee c x e).out)=(h++e::rest)++(qee c x e).out:=by simp
 rw[e1]
 unfold qvl at hk⊢
 rw[wE]
 refine⟨hk,qakh o2,fun a ha b hb hab => ?_⟩
 obtain⟨k,hkb⟩:=wo.1 hb
 obtain⟨m,hm,_⟩:=(o1 k b hkb).key
 have ha':a∈h++s.pend:=by
  rcases wv.1 ha with ha|ha
  ·exact List.mem_append_left _ ha
  ·exact wC _ (hp.mem_iff.2 ha)
 have ge:=H.ev e (wC _ hme)
 rw[hm]at hab
 rcases H.par a ha' with h2|⟨p,hp1,m',h2,_⟩
 ·rw[hab]at h2;simp at h2;have:=ge.key;omega
 ·rw[hab]at h2
  have hlen:=congrArg List.length h2
  simp at hlen
  have:=(List.append_inj h2 hlen).1
  rw[wE]at hk
  exact hk.2.2 p hp1 e (by simp) this.symm
theorem SInv.keyNe (H:SInv c s h) {e:Evt} {rest:List Evt} (hp:s.pend=e::rest) (hn:h.length≤20000):qvl ((h++[e])++(rest++(qee c (lpAt s e.lp) e).out)):=
 H.toSInvK.keyNeP (by rw[hp]) hn
end
set_option maxRecDepth 10000
theorem qahy (k:List Int) (x:Evt) (hk:k.length≤9223372036854775807) (hx:x.key.length≤9223372036854775807) :
  (evL T).call qap [(.fsl ((k).map qgg) false),.fptr x.r] []=some ((bb (decide (k=x.key))),[]):=by
 have h:=qy1 k x.key false false hk hx
 rw[qg qp8 qpv]
 simp only[qfu,h,Evt.r,qcs,wf,qb,ql,zgy,↓qc,↓wb,wd,wa,wc]
section
variable (G:List (List Int)) (c:Bool) (x:Evt)
theorem qag5 (hG:G.length≤1000) (hk : ∀k∈G,k.length≤9223372036854775807) (hx:x.key.length≤9223372036854775807) :
  ∃y,itB (exec (evL T) itL none qdw) (qao [0,1,7,8] true 0) ⟨[(0,(.fsl ((G).map qnv) c)),(1,.fn (.func qap) [] [.fptr x.r]),(7,(ii G.length)),(8,(ii 0))],[]⟩ []=some y ∧
   (G.all (fun k => !decide (k=x.key))=true∧(y.1 = .exit 0∧y.2.1.marks=[]∧y.2.2=[]) ∨
   G.all (fun k => !decide (k=x.key))=false ∧ ∃z,G.find? (fun k => !(!decide (k=x.key)))=some z∧(y.1 = .ret∧y.2.1.marks=[]∧y.2.2=[] ∧ ∃i:Nat,we y.2.1.vars 4=some (ii i))):=by
 have hr:los 0 x.r=true:=qaiz 0 x
 refine qib G (fun i=>⟨[(0,(.fsl ((G).map qnv) c)),(1,.fn (.func qap) [] [.fptr x.r]),(7,(ii G.length)),(8,(ii i))],[]⟩) [] (fun k => !decide (k=x.key)) _ (fun _ y => _) ?_ ?_ ?_
 ·intro i z hi hz hp
  have hi':(i:Int)<(G.length:Int):=by omega
  have hw:IntKind.i64.wrap ((i:Int)+1)=((i+1:Nat):Int):=by rw[qk (by omega) (by omega)];simp
  have he:=qahy z x (hk z (zmg hz)) hx
  simp only[Bool.not_eq_true',decide_eq_false_iff_not]at hp
  simp only[hp,zgw]at he
  simp only[qdw,zgs,zgr,zgq,zgt,hz,hi',hw,he,hr,qnv,qfz,wf,qb,zgy,↓qc,↓wb,wa,wc]
 ·intro i z hi hz hp
  have hi':(i:Int)<(G.length:Int):=by omega
  have he:=qahy z x (hk z (zmg hz)) hx
  simp only[Bool.not_eq_false',decide_eq_true_eq]at hp
  simp only[hp,zgv]at he
  simp only[qdw,zgs,zgr,zgq,zgt,hz,hi',hp,he,qnv,wf,qb,zgy,↓qc,↓wb,wa,wc]
  exact⟨_,rfl,rfl,rfl,rfl,i,rfl⟩
 ·simp only[qdw,wt,wf,zgy,↓qc,↓wb,wa,wc]
  exact⟨_,rfl,rfl,rfl,rfl⟩
theorem qaml:qe2 G x=G.all (fun k => !decide (k=x.key)):=by
 unfold qe2
 induction G with
 |nil=>rfl
 |cons a G ih=>rw[List.any_cons,List.all_cons,Bool.not_or,ih]
theorem gone_ev (hG:G.length≤1000) (hk : ∀k∈G,k.length≤9223372036854775807) (hx:x.key.length≤9223372036854775807) :
  qaz (evL T) qbt [(.fsl ((G).map qnv) c),.fn (.func qap) [] [.fptr x.r]]=some (bb (!qe2 G x)):=by
 have hr:los 0 x.r=true:=qaiz 0 x
 have hI : ∃i:Int,qaz (evL T) qcj [(.fsl ((G).map qnv) c),.fn (.func qap) [] [.fptr x.r]]=some (ii i)∧(decide (i≥0) = !qe2 G x):=by
  rw[qaml]
  obtain⟨⟨y,e,σ⟩,k1,k2⟩:=qag5 G c x hG hk hx
  simp only at k2
  rw[qaz,qg qqf qpu]
  rcases k2 with ⟨k3,rfl,k4,rfl⟩|⟨k3,z,_,rfl,k4,rfl,i,k5⟩
  ·refine⟨-1,?_,by rw[k3];rfl⟩
   simp only[qeb,k1,k4,hr,qfz,wf,ql,zgy,↓qc,↓qx,↓wb,wd,wa,Int.reduceNeg,wc]
  ·refine⟨i,?_,by rw[k3];simp⟩
   simp only[qeb,k1,k4,k5,hr,qfz,wf,ql,zgy,↓qc,↓qx,↓wb,wd,wa,Int.reduceNeg,wc]
 obtain⟨i,h1,h2⟩:=hI
 rw[qaz,qg qoz qn8]
 simp only[qeu,h1,h2,hr,qfz,wf,ql,zgy,↓qc,↓wb,wd,wa,wc]
theorem qahq (σ:qf) (p:Nat) (hp:σ[p]? = some (.row 1 [[(.fsl ((G).map qnv) false)]] 1)) (hG:G.length≤1000) (hk : ∀k∈G,k.length≤9223372036854775807) (hx:x.key.length≤9223372036854775807) :
  (evL T).call qs [(.agg [(ii x.time),(.fsl ((x.key).map qgg) false),(ii x.lp),(ii x.kind),(ii x.proc),(ii x.arg)]),.ptr p 1 0 0] σ=some ((bb (!qe2 G x)),σ):=by
 have h:=gone_ev G false x hG hk hx
 simp only[Evt.r]at h
 rw[qg qre qqt]
 simp only[qgp,h,hp,qfz,qcs,ite_self,wf,qb,wi,wj,ql,ne_eq,zgy,↓qc,↓wb,wd,wa,wc]
end
set_option maxRecDepth 10000
structure GoneAt (σ:qf) (p:Nat) (G:List (List Int)):Prop where
 at_:σ[p]? = some (.row 1 [[(.fsl ((G).map qnv) false)]] 1)
 len:G.length≤1000
 key : ∀k∈G,k.length≤9223372036854775807
section
variable (σ:qf) (p o g:Nat) (G:List (List Int)) (D:List Evt)
theorem qaj5 (H:GoneAt σ p G) (hl:qer σ.length σ=true) (hp:p<σ.length) (ho:σ[o]? = some (.row 6 (D.map Evt.r) g)) (hol:o<σ.length) (hD:D.length≤1000000) (hk : ∀x∈D,x.key.length≤9223372036854775807) :
  ∃y,itB (exec (evL T) itL none qan) (qao [0,1,7,8] true σ.length) ⟨[(0,.sl o g 0 D.length false),(1,(.fn (.func qs) [] [.ptr p 1 0 0])),(7,(ii D.length)),(8,(ii 0))],[]⟩ σ=some y ∧
   ((D.all (qe2 G)=true∧(y.1 = .exit 0∧y.2.1.marks=[]∧y.2.2=σ)) ∨
   ∃(i:Nat) (z:Evt),D[i]? = some z∧qe2 G z=false∧(D.take i).all (qe2 G)=true∧y.1 = .ret∧y.2.1.marks=[]∧y.2.2=σ∧we y.2.1.vars 4=some (ii i)):=by
 have tl:List.take σ.length σ=σ:=wp
 have key:=qh5 (f:=exec (evL T) itL none qan) (s:=qao [0,1,7,8] true σ.length) (α:=Unit)
  (fun i _=>⟨[(0,.sl o g 0 D.length false),(1,(.fn (.func qs) [] [.ptr p 1 0 0])),(7,(ii D.length)),(8,(ii i))],[]⟩) (fun i _=>σ)
  (fun i _=>(D.take i).all (qe2 G)=true) D.length
  (fun y=>((D.all (qe2 G)=true∧(y.1 = .exit 0∧y.2.1.marks=[]∧y.2.2=σ)) ∨
   ∃(i:Nat) (z:Evt),D[i]? = some z∧qe2 G z=false∧(D.take i).all (qe2 G)=true∧y.1 = .ret∧y.2.1.marks=[]∧y.2.2=σ∧we y.2.1.vars 4=some (ii i))) ?_ ?_ 0 () (wD _) (by simp)
 ·exact key
 ·rintro i _ hi hall
  obtain⟨z,hz⟩ : ∃x,D[i]? = some x:=⟨_,zgE hi⟩
  have hi':(i:Int)<(D.length:Int):=by omega
  have hw:IntKind.i64.wrap ((i:Int)+1)=((i+1:Nat):Int):=by rw[qk (by omega) (by omega)];simp
  have he:=qahq G z σ p H.at_ H.len H.key (hk z (zmg hz))
  cases hb:qe2 G z with
  |true=>
   rw[hb]at he
   refine .inl ⟨(),?_,by rw[qf6 hz,List.all_append,hall];simp[hb]⟩
   simp only[qan,zgs,zgr,zgq,zgt,ho,hz,hi,hi',hw,he,hl,tl,hp,hol,Evt.r,wf,qb,zgy,↓qc,↓wb,wd,wa,wc]
  |false=>
   rw[hb]at he
   right
   simp only[qan,zgs,zgr,zgq,zgt,ho,hz,hi,hi',he,Evt.r,wf,qb,zgy,↓qc,↓wb,wd,wa,wc]
   exact⟨_,rfl,.inr ⟨i,z,hz,hb,hall,rfl,rfl,rfl,rfl⟩⟩
 ·rintro _ hall
  rw[wp]at hall
  simp only[qan,wt,wf,zgy,↓qc,↓wb,wa,wc]
  exact⟨_,rfl,.inl ⟨hall,rfl,rfl,rfl⟩⟩
theorem qaf9 (H:GoneAt σ p G) (hl:qer σ.length σ=true) (hp:p<σ.length) (ho:σ[o]? = some (.row 6 (D.map Evt.r) g)) (hol:o<σ.length) (hD:D.length≤1000000) (hk : ∀x∈D,x.key.length≤9223372036854775807) :
  ∃i:Int,(evL T).call qu [.sl o g 0 D.length false,(.fn (.func qs) [] [.ptr p 1 0 0])] σ=some ((ii i),σ) ∧
   (i = -1∧D.all (qe2 G)=true ∨ ∃(j:Nat) (z:Evt),i=j∧D[j]? = some z∧qe2 G z=false∧(D.take j).all (qe2 G)=true):=by
 have tl:List.take σ.length σ=σ:=wp
 obtain⟨⟨y,e,τ⟩,k1,k2⟩:=qaj5 σ p o g G D H hl hp ho hol hD hk
 simp only at k2
 rw[qg qjt qjg]
 rcases k2 with ⟨k3,rfl,k4,rfl⟩|⟨j,z,k3,k5,k6,rfl,k4,rfl,k7⟩
 ·refine⟨-1,?_,.inl ⟨rfl,k3⟩⟩
  simp only[qbj,k1,k4,hl,tl,hp,hol,wf,ql,zgy,↓qc,↓qx,↓wb,wd,wa,Int.reduceNeg,wc]
 ·refine⟨j,?_,.inr ⟨j,z,rfl,k3,k5,k6⟩⟩
  simp only[qbj,k1,k4,k7,hl,tl,hp,hol,wf,ql,zgy,↓qc,↓qx,↓wb,wd,wa,Int.reduceNeg,wc]
def zEvt:Evt:=⟨0,[],0,0,0,0⟩
theorem zEvt_r:zEvt.r=[(ii 0),.fsl [] false,(ii 0),(ii 0),(ii 0),(ii 0)]:=rfl
structure DelInv (G:List (List Int)) (D:List Evt) (j:Nat) (E:List Evt):Prop where
 len:E.length=D.length
 kept:E.take ((D.take j).filter (qe2 G)).length=(D.take j).filter (qe2 G)
 rest:E.drop j=D.drop j
 lt:((D.take j).filter (qe2 G)).length<j
theorem DelInv.mem {G:List (List Int)} {D E:List Evt} {j:Nat} (h:DelInv G D j E) (hj:j<D.length):E[j]? = D[j]?:=by
 have:=congrArg (fun l=>l[0]?) h.rest
 simpa[List.getElem?_drop]using this
theorem DelInv.keep {G:List (List Int)} {D E:List Evt} {j:Nat} {z:Evt} (h:DelInv G D j E) (hz:D[j]? = some z) (hb:qe2 G z=true):DelInv G D (j+1) (E.set ((D.take j).filter (qe2 G)).length z):=by
 have hlt:=(zei.1 hz).1
 have hl:=h.lt
 have e1:(D.take (j+1)).filter (qe2 G)=(D.take j).filter (qe2 G)++[z]:=by rw[qf6 hz,List.filter_append];simp[hb]
 refine⟨by rw[List.length_set];exact h.len,?_,?_,?_⟩
 ·rw[e1,wg,List.length_singleton,qf6 (x:=z) (by rw[wB (by rw[h.len];omega)]),List.take_set_of_le (wq _),h.kept]
 ·rw[List.drop_set_of_lt (by omega)]
  have:=congrArg (List.drop 1) h.rest
  rw[List.drop_drop,List.drop_drop]at this
  exact this
 ·rw[e1,wg,List.length_singleton];omega
theorem DelInv.drop {G:List (List Int)} {D E:List Evt} {j:Nat} {z:Evt} (h:DelInv G D j E) (hz:D[j]? = some z) (hb:qe2 G z=false):DelInv G D (j+1) E:=by
 have e1:(D.take (j+1)).filter (qe2 G)=(D.take j).filter (qe2 G):=by rw[qf6 hz,List.filter_append];simp[hb]
 refine⟨h.len,by rw[e1];exact h.kept,?_,by rw[e1];have:=h.lt;omega⟩
 have:=congrArg (List.drop 1) h.rest
 rw[List.drop_drop,List.drop_drop]at this
 exact this
theorem DelInv.first {G:List (List Int)} {D:List Evt} {j:Nat} {z:Evt} (hz:D[j]? = some z) (hb:qe2 G z=false) (ha:(D.take j).all (qe2 G)=true):DelInv G D (j+1) D∧((D.take (j+1)).filter (qe2 G)).length=j:=by
 have hlt:=(zei.1 hz).1
 have e0:(D.take j).filter (qe2 G)=D.take j:=List.filter_eq_self.2 (fun x hx=>ww.1 ha x hx)
 have e1:(D.take (j+1)).filter (qe2 G)=D.take j:=by rw[qf6 hz,List.filter_append,e0];simp[hb]
 have e2:(D.take j).length=j:=by rw[List.length_take];omega
 exact⟨⟨rfl,by rw[e1,e2],rfl,by rw[e1,e2];omega⟩,by rw[e1,e2]⟩
end
end Go.Proofs.YtfdoelhnnmcppaaGreat.K
