/- For every input the statement of this claim returns true: texts of its proof, joined (part 12). -/
import Derived.ChangeShapes
import Derived.ChangeOld
import Derived.ChangeArms
import Derived.DataReads
import Derived.Carry
import Derived.ChangeSame
import Derived.OpenShut
import Derived.Handed
import Derived.RowKit3
import Derived.ChangeAt
import Derived.Test.YtpgdfkciinankaaGreatRows
import Derived.WalkKit
import Derived.ProofKit
import Derived.Test.YtpgdfkciinankaaGreatEM3
import Derived.Test.YtpgdfkciinankaaGreatGM04
import Derived.Test.YtpgdfkciinankaaGreatGM09
import Derived.Test.YtpgdfkciinankaaGreatGM10
set_option linter.unusedSectionVars false
set_option linter.unusedSimpArgs false
set_option linter.unusedVariables false
open List renaming replicate → wc, length_map → wn, getElem?_map → wu, mem_append_right → wz, take → wD, length_set → wK, eq_of_mem_replicate → wL, getElem?_set_self → wM, take_length → wN, length_replicate → wO, map_append → wP, getElem?_mapIdx → wQ, mem_append_left → wR, map_nil → wS, take_add_one → wT, replicate_succ' → wV, length_append → wX
open Nat renaming reduceEqDiff → we, reduceAdd → wg, reduceLeDiff → wr, reduceLT → wx, reducePow → wC, zero_le → wG, le_refl → wH, reduceMul → wJ
open _root_ renaming reduceIte → wh, reduceCtorEq → wi
open Go.Ev.AV renaming cells → wj, plain → wl, uc → wE
open Go.Ev renaming look → wp, ev1 → wq, stP → wF
open Go.Ev.SObj renaming lo → wy
open Int renaming reduceEq → wA, ofNat_zero → wB, lt_irrefl → wI, tmod_eq_emod_of_nonneg → wU, reduceToNat → wW
namespace Go.Proofs.YtpgdfkciinankaaGreat.K
open Go.Ev
set_option maxRecDepth 10000
def flR (p:Int×Bool) (e:Evt):Int×Bool:=if p.2=false∨e.time<p.1 then (e.time,true)else p
theorem qakd : ∀(l:List Evt) (p:Int×Bool),p.2=true→(l.foldl flR p).2=true∧(l.foldl flR p).1≤p.1∧(∀e∈l,(l.foldl flR p).1≤e.time)∧((l.foldl flR p).1=p.1 ∨ ∃e∈l,e.time=(l.foldl flR p).1)
 | [],p,h=>⟨h,Int.le_refl _,fun e he=>(by cases he),.inl rfl⟩
 |a::l,p,h=>by
  have hp:(flR p a).2=true∧(flR p a).1≤p.1∧(flR p a).1≤a.time∧((flR p a).1=p.1∨(flR p a).1=a.time):=by
   unfold flR
   split
   next hc=>exact⟨rfl,by rcases hc with hc|hc;rw[h]at hc;cases hc;simp only;omega,Int.le_refl _,.inr rfl⟩
   next hc=>exact⟨h,Int.le_refl _,by have:=not_or.1 hc;omega,.inl rfl⟩
  obtain⟨h1,h2,h3,h4⟩:=qakd l (flR p a) hp.1
  rw[List.foldl_cons]
  refine⟨h1,by omega,fun e he => ?_,?_⟩
  ·rcases List.mem_cons.1 he with rfl|he
   ·omega
   ·exact h3 e he
  ·rcases h4 with h4|⟨e,he,h4⟩
   ·rcases hp.2.2.2 with h5|h5
    ·exact .inl (by omega)
    ·exact .inr ⟨a,by simp,by omega⟩
   ·exact .inr ⟨e,List.mem_cons_of_mem _ he,h4⟩
theorem qapk (bs:List (List Evt)) (hs : ∀b∈bs,b.Pairwise leE):bs.flatten.foldl flR (0,false)=((qrr bs).getD 0,(qrr bs).isSome):=by
 cases hf:qrr bs with
 |none=>
  have h:=qaio hf
  have:bs.flatten=[]:=by rw[List.flatten_eq_nil_iff];exact h
  rw[this];rfl
 |some f=>
  obtain⟨h1,b,hb,e,r,rfl,h2⟩:=q2n hf hs
  have hne:bs.flatten ≠ []:=fun h=>by rw[List.flatten_eq_nil_iff]at h;exact absurd (h _ hb) (by simp)
  cases hl:bs.flatten with
  |nil=>exact absurd hl hne
  |cons a l=>
   rw[List.foldl_cons]
   have hp:flR (0,false) a=(a.time,true):=by unfold flR;rw[if_pos (.inl rfl)]
   rw[hp]
   obtain⟨k1,k2,k3,k4⟩:=qakd l (a.time,true) rfl
   have all : ∀x∈a::l,f≤x.time:=fun x hx=>by
    rw[←hl]at hx
    obtain⟨q,hq,hx⟩:=List.mem_flatten.1 hx
    exact h1 q hq x hx
   have hin:e∈a::l:=by rw[←hl];exact List.mem_flatten.2 ⟨_,hb,by simp⟩
   have e1:(l.foldl flR (a.time,true)).1=f:=by
    have le1:(l.foldl flR (a.time,true)).1≤f:=by
     rcases List.mem_cons.1 hin with rfl|hin
     ·simp only at k2;omega
     ·have:=k3 e hin;omega
    have ge1:f≤(l.foldl flR (a.time,true)).1:=by
     rcases k4 with k4|⟨x,hx,k4⟩
     ·have:=all a (by simp);omega
     ·have:=all x (List.mem_cons_of_mem _ hx);omega
    omega
   exact Prod.ext e1 k1
theorem qail (bs:List (List Evt)) (c:Bool) (hs : ∀b∈bs,b.Pairwise leE) (h:bs.length≤1000) (hl:bs.flatten.length≤1000000):qm (evL T) qmo [(.fsl ((bs).map qf) c)]=some (.tup [(ii (((qrr bs).getD 0))),(bb (((qrr bs).isSome)))]):=by
 have hL : ∃y,itB (exec (evL T) itL none qmy) (qu [0,4,5,6] true 0) ⟨[(0,(.fsl ((bs).map qf) c)),(4,(ii 0)),(5,(bb false)),(6,(ii ((0:Nat))))],[]⟩ []=some y∧(y.1 = .exit 0∧y.2.1.marks=[]∧y.2.2=[]∧wp y.2.1.vars 4=some (ii ((bs.flatten.foldl flR (0,false)).1))∧wp y.2.1.vars 5=some (bb ((bs.flatten.foldl flR (0,false)).2))):=by
  have key:=qcq (f:=exec (evL T) itL none qmy) (s:=qu [0,4,5,6] true 0) (α:=Int×Bool)
   (fun i a=>⟨[(0,(.fsl ((bs).map qf) c)),(4,(ii a.1)),(5,(bb a.2)),(6,(ii i))],[]⟩) (fun _ _=>[]) (fun i a=>a=(bs.take i).flatten.foldl flR (0,false)) bs.length
   (fun y=>y.1 = .exit 0∧y.2.1.marks=[]∧y.2.2=[]∧wp y.2.1.vars 4=some (ii ((bs.flatten.foldl flR (0,false)).1))∧wp y.2.1.vars 5=some (bb ((bs.flatten.foldl flR (0,false)).2))) ?_ ?_ 0 (0,false) (wG _) rfl
  ·exact key
  ·rintro i p hi hp
   obtain⟨x,hx⟩ : ∃x,bs[i]? = some x:=⟨_,zgE hi⟩
   have hi':(i:Int)<(bs.length:Int):=by omega
   have hw:IntKind.i64.wrap ((i:Int)+1)=((i+1:Nat):Int):=by rw[qi (by omega) (by omega)];simp
   have hxl:x.length≤1000000:=by have:=(List.sublist_flatten_of_mem (zmg hx)).length_le;omega
   have hin : ∃y,itB (exec (evL T) itL none qif) (qu [0,4,5,6,7] true 0) ⟨[(0,(.fsl ((bs).map qf) c)),(4,(ii p.1)),(5,(bb p.2)),(6,(ii i)),(7,(ii ((0:Nat))))],[]⟩ []=some y∧(y.1 = .exit 2∧y.2.1.marks=[]∧y.2.2=[]∧wp y.2.1.vars 0=some (.fsl ((bs).map qf) c)∧wp y.2.1.vars 4=some (ii ((x.foldl flR p).1))∧wp y.2.1.vars 5=some (bb ((x.foldl flR p).2))∧wp y.2.1.vars 6=some (ii i)):=by
    have key:=qcq (f:=exec (evL T) itL none qif) (s:=qu [0,4,5,6,7] true 0) (α:=Int×Bool)
     (fun k a=>⟨[(0,(.fsl ((bs).map qf) c)),(4,(ii a.1)),(5,(bb a.2)),(6,(ii i)),(7,(ii k))],[]⟩) (fun _ _=>[]) (fun k a=>a=(x.take k).foldl flR p) x.length
     (fun y=>y.1 = .exit 2∧y.2.1.marks=[]∧y.2.2=[]∧wp y.2.1.vars 0=some (.fsl ((bs).map qf) c)∧wp y.2.1.vars 4=some (ii ((x.foldl flR p).1))∧wp y.2.1.vars 5=some (bb ((x.foldl flR p).2))∧wp y.2.1.vars 6=some (ii i)) ?_ ?_ 0 p (wG _) rfl
    ·exact key
    ·rintro k ⟨m,fd⟩ hk hm
     obtain⟨e,he⟩ : ∃e,x[k]? = some e:=⟨_,zgE hk⟩
     have hk':(k:Int)<(x.length:Int):=by omega
     have hw:IntKind.i64.wrap ((k:Int)+1)=((k+1:Nat):Int):=by rw[qi (by omega) (by omega)];simp
     have hnx:(x.take (k+1)).foldl flR p=flR (m,fd) e:=by rw[wT,he,List.foldl_append,←hm];rfl
     refine .inl ⟨flR (m,fd) e,?_,hnx.symm⟩
     obtain⟨et,ek,el,ei,ep,ea⟩:=e
     cases fd with
     |false=>
      have:flR (m,false) ⟨et,ek,el,ei,ep,ea⟩=(et,true):=by unfold flR;rw[if_pos (.inl rfl)]
      rw[this]
      simp only[qif,zgs,zgr,zgq,zgt,hx,he,hk',hw,qf,Evt.r,qan,wq,qb,zgy,↓qc,↓wh,wg,we,wi]
     |true=>
      by_cases ht:et<m
      ·have:flR (m,true) ⟨et,ek,el,ei,ep,ea⟩=(et,true):=by unfold flR;rw[if_pos (.inr ht)]
       rw[this]
       simp only[qif,zgs,zgr,zgq,zgt,hx,he,hk',hw,ht,qf,Evt.r,qan,wq,qb,zgy,↓qc,↓wh,wg,we,wi]
      ·have:flR (m,true) ⟨et,ek,el,ei,ep,ea⟩=(m,true):=by unfold flR;rw[if_neg (by simp[ht])]
       rw[this]
       simp only[qif,zgs,zgr,zgq,zgt,hx,he,hk',hw,ht,qf,Evt.r,qan,wq,qb,zgy,↓qc,↓wh,wg,we,wi]
    ·rintro⟨m,fd⟩ hm
     rw[wN]at hm
     rw[←hm]
     simp only[qif,zgs,zgr,zgq,zgt,hx,wI,qf,wq,qb,zgy,↓qc,↓wh,we,wi]
     exact⟨_,rfl,rfl,rfl,rfl,rfl,rfl,rfl,rfl⟩
   obtain⟨⟨y,e,σ⟩,k1,k2,k3,k4,k5,k6,k7,k8⟩:=hin
   simp only[wB]at k1 k2 k3 k4 k5 k6 k7 k8
   subst k2;subst k4
   refine .inl ⟨x.foldl flR p,?_,by rw[qtk hx,List.foldl_append,←hp]⟩
   simp only[qmy,hi',hw,k1,k3,k5,k6,k7,k8,qan,wq,zgy,↓qc,↓qq,↓wh,we,wi]
  ·rintro p hp
   rw[wN]at hp
   rw[←hp]
   simp only[qmy,wI,wq,zgy,↓qc,↓wh,we,wi]
   exact⟨_,rfl,rfl,rfl,rfl,rfl,rfl⟩
 obtain⟨⟨y,e,σ⟩,k1,k2,k3,k4,k5,k6⟩:=hL
 simp only[wB]at k1 k2 k3 k4 k5 k6
 subst k2;subst k4
 rw[qapk bs hs]at k5 k6
 rw[qm,qd qab2 q9q]
 simp only[qsh,k1,k3,k5,k6,qan,wq,qk,zgy,↓qc,↓qq,↓wh,we,wi]
theorem Boxes_ev (n:Nat) (hn:n≤8) (l:List Evt) (cl:Bool) (hl:l.length≤1000000) (hk:qb0 l) (hd:qys l) (hr : ∀e∈l,0≤e.lp∧e.lp<(n:Int)):qm (evL T) qky [(ii n),(.fsl ((l).map Evt.r) cl)]=some (.fsl (((qab n l)).map qf) false):=by
 have hrep:(wc n ([]:List Evt)).map qf=wc n [.fsl [] false]:=by rw[List.map_replicate];rfl
 have hfl:(wc n ([]:List Evt)).flatten=[]:=by rw[List.flatten_eq_nil_iff];exact fun b hb=>wL hb
 have hD:=qael (wc n []) [l] false true (by simp;omega) (by simp) (by rw[hfl];simpa using hl) (by rw[hfl];simpa using hk) (fun b hb=>by rw[wL hb];exact .nil) (fun i b hb=>by
  rw[wL (zmg hb),List.nil_append]
  simp only[List.flatten_cons,List.flatten_nil,zgn]
  exact qaey hd i) (fun e he=>by simp at he;simpa using hr e he)
 have hdl:qbl (wc n []) [l].flatten=qab n l:=by
  unfold qbl qab
  refine List.ext_getElem (by simp) (fun i h1 h2 => ?_)
  simp[List.getElem_mapIdx]
 rw[hdl,hrep]at hD
 simp only[List.map_cons,wS,qf]at hD
 have b1:24*(n:Int)≤140737488355328:=by omega
 have b2:(n:Int)≤4611686018427387904:=by omega
 have lr : ∀k,qb4 k (wc n ([.fsl [] false]:List AV))=true:=fun k=>qfe _ _ _ rfl
 have tk:wD n (wc n ([.fsl [] false]:List AV))=wc n [.fsl [] false]:=ztl (by simp)
 have hlr:(wc n ([.fsl [] false]:List AV)).length=n:=wO
 have hle:n≤n:=wH _
 rw[qm,qd q82 q7l]
 simp only[qrb,hD,b1,b2,lr,tk,hlr,hle,zgs,zgr,Int.le_refl,qh,qan,wq,qalv,q6c,wj,wE,wl,qk,ne_eq,zgy,↓qc,↓wh,wg,we,wJ,wr,wC,Int.reducePow,wi]
theorem qaie (bs:List (List Evt)) (D:List Evt) (e:Evt) {i:Nat} {b:List Evt} (hb:bs[i]? = some b) (he:e.lp=i):qbl bs (D++[e])=(qbl bs D).set i (sortL (b++(qao D i++[e]))):=by
 refine List.ext_getElem? fun j => ?_
 unfold qbl
 by_cases h:i=j
 ·subst h
  rw[wM (by rw[List.length_mapIdx];exact(zei.1 hb).1),wQ,hb,qq0,if_pos he];rfl
 ·rw[List.getElem?_set_ne h,wQ,wQ]
  cases bs[j]? with
  |none=>rfl
  |some q=>simp only[zgt];rw[qq0,if_neg (by omega)]
section
variable (bs ss:List (List Evt)) (cs:Bool)
theorem qaj0 (c1:Bool) (hn:bs.length≤1000) (h1:1≤bs.length) (hs1:ss.length≤1000000) (hD:(bs.flatten++ss.flatten).length≤1000000) (hk:qb0 (bs.flatten++ss.flatten)) (hs : ∀b∈bs,b.Pairwise leE) (hd : ∀i b,bs[i]? = some b→qys (b++qao ss.flatten i)) (hl : ∀e∈ss.flatten,0≤e.lp∧e.lp<(bs.length:Int)) :
  qm (evL T) qhu [(.fsl ((bs).map qf) c1),(.fsl ((ss).map qf) cs)]=some (.fsl (((qbl bs ss.flatten)).map qf) false):=by
 have hDl:=hD
 rw[wX]at hDl
 have dlen : ∀D,(qbl bs D).length=bs.length:=fun D=>by unfold qbl;rw[List.length_mapIdx]
 have d0:qbl bs []=bs:=by
  unfold qbl
  refine List.ext_getElem? fun i => ?_
  rw[wQ]
  cases hb:bs[i]? with
  |none=>rfl
  |some b=>
   have hdb:=hd i b hb
   have:qys b:=hdb.sub (List.sublist_append_left _ _)
   simp only[zgt,qao,List.filter_nil,zgn]
   rw[←qaem this (hs b (zmg hb))]
 have hL : ∃y,itB (exec (evL T) itL none qku) (qu [1,5,6] true 1) ⟨[(1,(.fsl ((ss).map qf) cs)),(5,.sl 0 0 0 bs.length false),(6,(ii ((0:Nat))))],[]⟩ [.row 1 (bs.map qf) 0]=some y ∧
   (y.1 = .exit 0∧y.2.1.marks=[]∧y.2.2=[.row 1 ((qbl bs ss.flatten).map qf) 0]∧wp y.2.1.vars 5=some (.sl 0 0 0 bs.length false)):=by
  have key:=qcq (f:=exec (evL T) itL none qku) (s:=qu [1,5,6] true 1) (α:=Unit)
   (fun i _=>⟨[(1,(.fsl ((ss).map qf) cs)),(5,.sl 0 0 0 bs.length false),(6,(ii i))],[]⟩) (fun i _=>[.row 1 ((qbl bs (ss.take i).flatten).map qf) 0]) (fun _ _=>True) ss.length
   (fun y=>y.1 = .exit 0∧y.2.1.marks=[]∧y.2.2=[.row 1 ((qbl bs ss.flatten).map qf) 0]∧wp y.2.1.vars 5=some (.sl 0 0 0 bs.length false)) ?_ ?_ 0 () (wG _) trivial
  ·simp only[zgo,List.flatten_nil,d0]at key;exact key
  ·rintro i _ hi _
   obtain⟨l,hll⟩ : ∃l,ss[i]? = some l:=⟨_,zgE hi⟩
   have hi':(i:Int)<(ss.length:Int):=by omega
   have hw:IntKind.i64.wrap ((i:Int)+1)=((i+1:Nat):Int):=by rw[qi (by omega) (by omega)];simp
   have hflat:=qtk hll
   have hle1:=qaf7 ss (i+1)
   rw[hflat,wX]at hle1
   have hpre:((ss.take i).flatten++l).Sublist ss.flatten:=by
    rw[←hflat]
    have:ss.flatten=(ss.take (i+1)).flatten++(ss.drop (i+1)).flatten:=by rw[←List.flatten_append,List.take_append_drop]
    rw[this];exact List.sublist_append_left _ _
   have hin : ∃y,itB (exec (evL T) itL none qkk) (qu [1,5,6,7] true 1) ⟨[(1,(.fsl ((ss).map qf) cs)),(5,.sl 0 0 0 bs.length false),(6,(ii i)),(7,(ii ((0:Nat))))],[]⟩ [.row 1 ((qbl bs (ss.take i).flatten).map qf) 0]=some y ∧
     (y.1 = .exit 2∧y.2.1.marks=[]∧y.2.2=[.row 1 ((qbl bs ((ss.take i).flatten++l)).map qf) 0]∧wp y.2.1.vars 1=some (.fsl ((ss).map qf) cs)∧wp y.2.1.vars 5=some (.sl 0 0 0 bs.length false)∧wp y.2.1.vars 6=some (ii i)):=by
    have key:=qcq (f:=exec (evL T) itL none qkk) (s:=qu [1,5,6,7] true 1) (α:=Unit)
     (fun k _=>⟨[(1,(.fsl ((ss).map qf) cs)),(5,.sl 0 0 0 bs.length false),(6,(ii i)),(7,(ii k))],[]⟩) (fun k _=>[.row 1 ((qbl bs ((ss.take i).flatten++l.take k)).map qf) 0]) (fun _ _=>True) l.length
     (fun y=>y.1 = .exit 2∧y.2.1.marks=[]∧y.2.2=[.row 1 ((qbl bs ((ss.take i).flatten++l)).map qf) 0]∧wp y.2.1.vars 1=some (.fsl ((ss).map qf) cs)∧wp y.2.1.vars 5=some (.sl 0 0 0 bs.length false)∧wp y.2.1.vars 6=some (ii i)) ?_ ?_ 0 () (wG _) trivial
    ·simp only[zgo,zgn]at key;exact key
    ·rintro k _ hkl _
     obtain⟨e,he⟩ : ∃e,l[k]? = some e:=⟨_,zgE hkl⟩
     have hk':(k:Int)<(l.length:Int):=by omega
     have hw:IntKind.i64.wrap ((k:Int)+1)=((k+1:Nat):Int):=by rw[qi (by omega) (by omega)];simp
     have hem:e∈ss.flatten:=List.mem_flatten.2 ⟨l,zmg hll,zmg he⟩
     obtain⟨r1,r2⟩:=hl e hem
     obtain⟨j,hj⟩ : ∃j:Nat,e.lp=j:=⟨_,(Int.toNat_of_nonneg r1).symm⟩
     have hjn:j<bs.length:=by omega
     obtain⟨b,hb⟩ : ∃b,bs[j]? = some b:=⟨_,zgE hjn⟩
     generalize hDD:(ss.take i).flatten++l.take k=D at *
     have hDs:(D++[e]).Sublist ss.flatten:=by
      refine List.Sublist.trans ?_ hpre
      rw[←hDD,List.append_assoc]
      refine List.Sublist.append_left ?_ _
      have:l.take k++[e]=l.take (k+1):=by rw[wT,he];rfl
      rw[this];exact List.take_sublist _ _
     have hnx:(ss.take i).flatten++l.take (k+1)=D++[e]:=by rw[←hDD,List.append_assoc,wT,he];rfl
     have hdist:qys (b++(qao D j++[e])):=by
      refine(hd j b hb).sub (List.Sublist.append_left ?_ b)
      have:qao D j++[e]=qao (D++[e]) j:=by rw[qq0,if_pos hj]
      rw[this];exact hDs.filter _
     have pb:=qc8 (b++qao D j)
     have pe:(e::sortL (b++qao D j)).Perm (b++(qao D j++[e])):=by
      refine(pb.cons e).trans ?_
      rw[←List.append_assoc];exact(List.perm_append_singleton e _).symm
     have bl:b.length≤bs.flatten.length:=(List.sublist_flatten_of_mem (zmg hb)).length_le
     have ol:(qao D j).length≤ss.flatten.length:=by
      have h1:=List.length_filter_le (fun e:Evt=>decide (e.lp=j)) D
      have h2:=hDs.length_le
      rw[wX]at h2
      unfold qao;omega
     have hI:=qvu (sortL (b++qao D j)) false e (by rw[qz7,wX];omega) (fun z hz=>by
      rcases List.mem_append.1 (pb.mem_iff.1 hz)with hz|hz
      ·exact hk z (wR _ (List.mem_flatten.2 ⟨_,zmg hb,hz⟩))
      ·exact hk z (wz _ (hDs.subset (wR _ (List.mem_filter.1 hz).1)))) (hk e (wz _ hem)) (qg5 _) (hdist.perm pe)
     rw[q5k hdist pe]at hI
     have hget:((qbl bs D).map qf)[j]? = some (qf (sortL (b++qao D j))):=by rw[wu];unfold qbl;rw[wQ,hb];rfl
     have hset:((qbl bs D).map qf).set j [(.fsl (((sortL (b++(qao D j++[e])))).map Evt.r) false)]=(qbl bs (D++[e])).map qf:=by rw[qaie bs D e hb hj,List.map_set];rfl
     have lo:=qan 1 (qbl bs (D++[e]))
     have hlen:((qbl bs D).map qf).length=bs.length:=by rw[wn,dlen]
     refine .inl ⟨(),?_,trivial⟩
     rw[hnx]
     rw[←hset]at lo⊢
     have hsg:(ss.map qf)[i]? = some (qf l):=by rw[wu,hll];rfl
     have los:=qan 1 ss
     have lol : ∀n,qb4 n (l.map Evt.r)=true:=fun n=>qh _ _
     have lob : ∀n,qb4 n ((sortL (b++qao D j)).map Evt.r)=true:=fun n=>qh _ _
     have hj0:(j:Int)≥0:=by omega
     have hjn':(j:Int)<(bs.length:Int):=by omega
     have heg:(l.map Evt.r)[k]? = some e.r:=by rw[wu,he];rfl
     have hllen:(l.map Evt.r).length=l.length:=wn ..
     clear hset hnx hDs hDD hdist pb pe hem hll he hb bl ol hd hk hs hl
     generalize sortL (b++(qao D j++[e]))=B2 at *
     generalize sortL (b++qao D j)=B1 at *
     generalize (qbl bs D).map qf=DM at *
     generalize ss.map qf=SM at *
     simp only[qf]at hget hsg
     obtain⟨et,ek,el,ei,ep,ea⟩:=e
     simp only at hj
     subst hj
     simp only[Evt.r]at heg
     simp only[qkk,zgs,zgr,hsg,heg,hllen,hk',hw,hI,hget,hj0,hjn,hjn',lo,los,lob,qg,wq,wF,qb,wj,wE,wl,wy,ne_eq,zgy,↓qc,↓wh,wg,we]
    ·rintro _ _
     rw[wN]
     have hsg:(ss.map qf)[i]? = some (qf l):=by rw[wu,hll];rfl
     have lod:=qan 1 (qbl bs ((ss.take i).flatten++l))
     simp only[qf]at hsg
     simp only[qkk,zgs,zgr,zgq,zgt,hll,qf,wI,wq,qb,zgy,↓qc,↓wh,we]
     exact⟨_,rfl,rfl,rfl,rfl,rfl,rfl,rfl⟩
   obtain⟨⟨y,e,σ⟩,k1,k2,k3,k4,k5,k6,k7⟩:=hin
   simp only[wB]at k1 k2 k3 k4 k5 k6 k7
   subst k2;subst k4
   refine .inl ⟨(),?_,trivial⟩
   rw[hflat]
   have los:=qan 1 ss
   have lod:=qan 1 (qbl bs ((ss.take i).flatten++l))
   have lod0:=qan 1 (qbl bs (ss.take i).flatten)
   simp only[qku,hi',hw,k1,k3,k5,k6,k7,los,lod,lod0,zgi,wq,wy,zgy,↓qc,↓qq,↓wh,we]
  ·rintro _ _
   rw[wN]
   have lod:=qan 1 (qbl bs ss.flatten)
   simp only[qku,wI,wq,zgy,↓qc,↓wh,we]
   exact⟨_,rfl,rfl,rfl,rfl,rfl⟩
 obtain⟨⟨y,e,σ⟩,k1,k2,k3,k4,k5⟩:=hL
 simp only[wB]at k1 k2 k3 k4 k5
 subst k2;subst k4
 have hle:bs.length≤bs.length:=wH _
 have tk:wD bs.length ((qbl bs ss.flatten).map qf)=(qbl bs ss.flatten).map qf:=ztl (by rw[wn,dlen];exact hle)
 have lod:=qan 0 (qbl bs ss.flatten)
 have ok:=qaaj bs
 have bd:bs.length*24≤140737488355328:=by omega
 have hlm:=dlen ss.flatten
 have nb:¬bs.map qf=[]:=by intro h;have:=congrArg List.length h;simp at this;rw[this]at h1;simp at h1
 rw[qm,qd q6e q5f]
 simp only[qp5,k1,k3,k5,tk,hle,lod,ok,bd,hlm,nb,zgi,zfd,qan,wq,qaw,qk,wy,ne_eq,zgy,↓qc,↓qq,↓wh,wg,we,wJ,wx,wr,wC,wi]
end
set_option maxRecDepth 10000
section
variable {c:Cfg} {W:Nat} {picks:List Nat} {lim n:Nat} (cp:Bool)
theorem qabd:(start c).trace.map qf=wc c.lps.length [.fsl [] false]:=by
 show (wc c.lps.length ([]:List Evt)).map qf = _
 rw[List.map_replicate];rfl
theorem qajq (I:RunIn c W picks lim n) {K:Nat} {er:Int} (hS:Stop c c.cap lim K er) :
  qm (evL T) qkl [(.agg [(.fsl ((c.lps).map lpC) false),(.fsl ((c.progs).map qau) false),(ii c.look),(ii c.fin),(ii c.cap)]),(ii W),(.fsl (((qqj picks)).map qy) cp),(ii lim)]=some (.tup [(.agg [(.fsl ((((qbp c K)).trace).map qf) false),(.fsl (((qhe c (qbp c K))).map lpF) false),(.fsl (((qab (c).lps.length ((qbp c K)).pend)).map qf) false),(bb (((qbp c K)).over)),(.fsl (((qcb c K)).map qy) false),(.fsl (((wc K (qeh c W picks n))).map plC) false)]),(ii er)]):=by
 have hv8:=I.v.lps
 obtain⟨⟨y,e,σ⟩,k1,k2,k3,k4,k5,k6,k7⟩:=run_L2 cp I hS
 simp only at k1 k2 k3 k4 k5 k6 k7
 subst k2;subst k4
 have H0:=SInv.start I.v
 have hst:=q80 c I.h12
 have hin:=q7e c I.h12
 have hk:qb0 (sortL (qg6 c.lps)):=fun x hx=>by have:=(H0.ev x (wz _ hx)).key;simp at this;omega
 have hd:qys (sortL (qg6 c.lps)):=qqp.dist (List.pairwise_append.1 H0.keys).2.1
 have hl:=H0.len
 have hB:=Boxes_ev c.lps.length hv8.2 (sortL (qg6 c.lps)) false (by show (start c).pend.length ≤ _;simp at hl;omega) hk hd (fun e he=>(H0.ev e (wz _ he)).lp)
 have hlm:(c.lps.map lpC).length=c.lps.length:=wn ..
 have b3:24*(c.lps.length:Int)≤140737488355328:=by omega
 have b4:(c.lps.length:Int)≤4611686018427387904:=by omega
 have e1:(qbp c 0).trace.map qf=wc c.lps.length [.fsl [] false]:=qabd
 have e2:qhe c (qbp c 0)=qhf c.lps:=qaeb
 have e3:(qbp c 0).pend=sortL (qg6 c.lps):=rfl
 have e4:(qbp c 0).over=false:=rfl
 rw[e1,e2,e3,e4]at k1
 simp only[qcb,List.range_zero,wS,List.replicate_zero]at k1
 change itB _ _ _ _=some (_,_,([.row 6 [[.fsl [] false,.fsl [] false,.fsl [] false,.v (.bool false),.fsl [] false,.fsl [] false]] 0,.row 6 [[(.fsl ((((qbp c K)).trace).map qf) false),(.fsl (((qhe c (qbp c K))).map lpF) false),(.fsl (((qab (c).lps.length ((qbp c K)).pend)).map qf) false),(bb (((qbp c K)).over)),(.fsl (((qcb c K)).map qy) false),(.fsl (((wc K (qeh c W picks n))).map plC) false)]] 0]:qj))at k1
 have lo0 : ∀m,qb4 m (wc c.lps.length [(.fsl [] false:AV)])=true:=fun m=>qfe _ _ _ rfl
 have lo1 : ∀m,qb4 m ((qbp c K).trace.map qf)=true:=fun m=>qan _ _
 have lo2 : ∀m,qb4 m ((qhe c (qbp c K)).map lpF)=true:=fun m=>qhl _ _
 have lo3 : ∀m,qb4 m ((qab c.lps.length (qbp c K).pend).map qf)=true:=fun m=>qan _ _
 have lo4 : ∀m,qb4 m ((qcb c K).map qy)=true:=fun m=>qg _ _
 have lo5 : ∀m,qb4 m ((wc K (qeh c W picks n)).map plC)=true:=fun m=>qoe _ _
 have lo6 : ∀m,qb4 m ((qhf c.lps).map lpF)=true:=fun m=>qhl _ _
 have lo7 : ∀m,qb4 m ((qab c.lps.length (sortL (qg6 c.lps))).map qf)=true:=fun m=>qan _ _
 have lo8 : ∀m,qb4 m ((sortL (qg6 c.lps)).map Evt.r)=true:=fun m=>qh _ _
 rw[qm,qd qada qace]
 generalize (qbp c K).trace.map qf=TM' at *
 generalize (qhe c (qbp c K)).map lpF=LM' at *
 generalize (qab c.lps.length (qbp c K).pend).map qf=BM' at *
 generalize (qcb c K).map qy=FM' at *
 generalize (wc K (qeh c W picks n)).map plC=QM' at *
 generalize (qbp c K).over=OV' at *
 generalize (qhf c.lps).map lpF=SM at *
 generalize (qab c.lps.length (sortL (qg6 c.lps))).map qf=IM at *
 generalize (sortL (qg6 c.lps)).map Evt.r=EM at *
 simp only[qvg,hst,hin,hB,k1,k3,k5,k6,k7,hlm,b3,b4,lo0,lo1,lo2,lo3,lo4,lo5,lo6,lo7,lo8,zgs,zgr,qg,qax,qv,wq,wF,qb,wj,wE,wl,qk,wy,ne_eq,zgy,↓qc,↓qq,↓wh,wg,we,wx,wr,Int.reducePow,wi]
theorem PRun_ev (I:RunIn c W picks lim n) (hc:qm (evL T) qdn [(.agg [(.fsl ((c.lps).map lpC) false),(.fsl ((c.progs).map qau) false),(ii c.look),(ii c.fin),(ii c.cap)])]=some (ii 0)) {K:Nat} {er:Int} (hS:Stop c c.cap lim K er) :
  qm (evL T) qi0 [(.agg [(.fsl ((c.lps).map lpC) false),(.fsl ((c.progs).map qau) false),(ii c.look),(ii c.fin),(ii c.cap)]),(ii W),(.fsl (((qqj picks)).map qy) cp),(ii lim)]=some (.tup [(.fsl (((qbp c K).trace).map qf) false),(.fsl (((qhe c (qbp c K))).map lpF) false),(ii er)]):=by
 have hr:=qajq cp I hS
 have lo1 : ∀m,qb4 m ((qbp c K).trace.map qf)=true:=fun m=>qan _ _
 have lo2 : ∀m,qb4 m ((qhe c (qbp c K)).map lpF)=true:=fun m=>qhl _ _
 have lo3 : ∀m,qb4 m ((qab c.lps.length (qbp c K).pend).map qf)=true:=fun m=>qan _ _
 have lo4 : ∀m,qb4 m ((qcb c K).map qy)=true:=fun m=>qg _ _
 have lo5 : ∀m,qb4 m ((wc K (qeh c W picks n)).map plC)=true:=fun m=>qoe _ _
 rw[qm,qd q2d qzu]
 simp only[qrs,hc,hr,lo1,lo2,qg,qax,qv,wq,wF,qb,wj,wl,qk,ne_eq,zgy,↓qc,↓wh,wg,we,wi]
theorem qal6 (I:RunIn c W picks lim n) (hc:qm (evL T) qdn [(.agg [(.fsl ((c.lps).map lpC) false),(.fsl ((c.progs).map qau) false),(ii c.look),(ii c.fin),(ii c.cap)])]=some (ii 0)) {K:Nat} {er:Int} (hS:Stop c c.cap lim K er) :
  qm (evL T) qgn [(.agg [(.fsl ((c.lps).map lpC) false),(.fsl ((c.progs).map qau) false),(ii c.look),(ii c.fin),(ii c.cap)]),(ii W),(.fsl (((qqj picks)).map qy) cp),(ii lim)]=some (.fsl (((qcb c K)).map qy) false):=by
 have hr:=qajq cp I hS
 have lo1 : ∀m,qb4 m ((qbp c K).trace.map qf)=true:=fun m=>qan _ _
 have lo2 : ∀m,qb4 m ((qhe c (qbp c K)).map lpF)=true:=fun m=>qhl _ _
 have lo3 : ∀m,qb4 m ((qab c.lps.length (qbp c K).pend).map qf)=true:=fun m=>qan _ _
 have lo4 : ∀m,qb4 m ((qcb c K).map qy)=true:=fun m=>qg _ _
 have lo5 : ∀m,qb4 m ((wc K (qeh c W picks n)).map plC)=true:=fun m=>qoe _ _
 rw[qm,qd qw0 qu2]
 simp only[qnf,hc,hr,lo4,qg,qax,qv,wq,wF,qb,wj,wl,qk,ne_eq,zgy,↓qc,↓wh,wg,we,wi]
theorem qamd (I:RunIn c W picks lim n) (hc:qm (evL T) qdn [(.agg [(.fsl ((c.lps).map lpC) false),(.fsl ((c.progs).map qau) false),(ii c.look),(ii c.fin),(ii c.cap)])]=some (ii 0)) {K:Nat} {er:Int} (hS:Stop c c.cap lim K er) :
  qm (evL T) qdg [(.agg [(.fsl ((c.lps).map lpC) false),(.fsl ((c.progs).map qau) false),(ii c.look),(ii c.fin),(ii c.cap)]),(ii W),(.fsl (((qqj picks)).map qy) cp),(ii lim)]=some (.fsl (((wc K (qeh c W picks n))).map plC) false):=by
 have hr:=qajq cp I hS
 have lo1 : ∀m,qb4 m ((qbp c K).trace.map qf)=true:=fun m=>qan _ _
 have lo2 : ∀m,qb4 m ((qhe c (qbp c K)).map lpF)=true:=fun m=>qhl _ _
 have lo3 : ∀m,qb4 m ((qab c.lps.length (qbp c K).pend).map qf)=true:=fun m=>qan _ _
 have lo4 : ∀m,qb4 m ((qcb c K).map qy)=true:=fun m=>qg _ _
 have lo5 : ∀m,qb4 m ((wc K (qeh c W picks n)).map plC)=true:=fun m=>qoe _ _
 rw[qm,qd qqs qqg]
 generalize (wc K (qeh c W picks n)).map plC=QM' at *
 simp only[qin,hc,hr,lo5,qg,qax,qv,wq,wF,qb,wj,wl,qk,ne_eq,zgy,↓qc,↓wh,wg,we,wi]
theorem PRun_bad (z:Int) (hz:z≠0) (W lim:Int) (l:List Int) (hc:qm (evL T) qdn [(.agg [(.fsl ((c.lps).map lpC) false),(.fsl ((c.progs).map qau) false),(ii c.look),(ii c.fin),(ii c.cap)])]=some (ii z)) :
  qm (evL T) qi0 [(.agg [(.fsl ((c.lps).map lpC) false),(.fsl ((c.progs).map qau) false),(ii c.look),(ii c.fin),(ii c.cap)]),(ii W),(.fsl ((l).map qy) cp),(ii lim)]=some (.tup [.fsl [] true,.fsl [] true,(ii z)])∧qm (evL T) qgn [(.agg [(.fsl ((c.lps).map lpC) false),(.fsl ((c.progs).map qau) false),(ii c.look),(ii c.fin),(ii c.cap)]),(ii W),(.fsl ((l).map qy) cp),(ii lim)]=some (.fsl [] true)∧qm (evL T) qdg [(.agg [(.fsl ((c.lps).map lpC) false),(.fsl ((c.progs).map qau) false),(ii c.look),(ii c.fin),(ii c.cap)]),(ii W),(.fsl ((l).map qy) cp),(ii lim)]=some (.fsl [] true):=by
 refine⟨?_,?_,?_⟩
 ·rw[qm,qd q2d qzu]
  simp only[qrs,hc,hz,qax,qv,wq,qb,wj,wl,qk,ne_eq,zgy,↓qc,↓wh,wg,we]
 ·rw[qm,qd qw0 qu2]
  simp only[qnf,hc,hz,qax,qv,wq,qb,wj,wl,qk,ne_eq,zgy,↓qc,↓wh,wg,we]
 ·rw[qm,qd qqs qqg]
  simp only[qin,hc,hz,qax,qv,wq,qb,wj,wl,qk,ne_eq,zgy,↓qc,↓wh,wg,we]
end
set_option maxRecDepth 100000
def u8C (x:Int):List AV:=[.v (.int .u8 x)]
theorem u8C_lo (n:Nat) (x:Int):los n (u8C x)=true:=rfl
theorem qaky (n:Nat) (l:List Int):qb4 n (l.map u8C)=true:=qjs (u8C_lo n) l
theorem qafv:qm (evL T) qng []=some (bb true):=qal7 70 (by kernel_rfl)
theorem qai7 (c:Cfg) : ∃b:Bool,qm (evL T) qq1 [(.agg [(.fsl ((c.lps).map lpC) false),(.fsl ((c.progs).map qau) false),(ii c.look),(ii c.fin),(ii c.cap)])]=some (bb b)∧(b=true→Good c∧c.look≤8∧c.lps.length≤4):=by
 obtain⟨b,h1,h2⟩:=Quick_ev c
 refine⟨b,?_,fun hb=>by
  obtain⟨k1,k2,k3⟩:=h2 hb
  exact⟨good_of k1,k2,k3⟩⟩
 rw[qm,qd qaia qagp]
 simp only[q03,h1,qax,qv,wq,qb,wj,wl,qk,ne_eq,zgy,↓qc,↓wh,wg,we]
theorem small_ev (a:Int) (ha:0≤a∧a≤255) : ∃k:Nat,k<30∧qm (evL T) qmk [.v (.int .u8 a)]=some (ii k):=by
 refine⟨a.toNat%30,Nat.mod_lt _ (by omega),?_⟩
 have hw:IntKind.i64.wrap a=a:=qi (by omega) (by omega)
 have hr:a.tmod 30=((a.toNat%30:Nat):Int):=by
  obtain⟨n,rfl⟩ : ∃n:Nat,a=n:=⟨a.toNat,by omega⟩
  rw[wU (by omega)];omega
 have h30:¬(30:Int)=0:=by decide
 rw[qm,qd qaak q86]
 simp only[qs6,hw,hr,h30,wq,qk,zgy,↓qc,↓wh,wi]
theorem wrk_ev (a:Int) (ha:0≤a∧a≤255) (m:Nat) (hm:1≤m∧m≤64) : ∃W:Nat,1≤W∧W≤m∧IntKind.i64.wrap a=a∧¬(m:Int)=0∧IntKind.i64.wrap (a.tmod m+1)=(W:Int):=by
 have q1:=Int.tmod_lt_of_pos a (show (0:Int)<(m:Int) by omega)
 have q2:=Int.tmod_nonneg (m:Int) ha.1
 refine⟨(a.tmod m).toNat+1,by omega,by omega,qi (by omega) (by omega),by omega,?_⟩
 rw[qi (by omega) (by omega)];omega
def qfi (l:List Int) (W:Nat):List Nat:=l.map fun x=>x.toNat%W
theorem Picks_ev (l:List Int) (cl:Bool) (W:Nat) (hW:1≤W∧W≤64) (hl : ∀x∈l,0≤x∧x≤255) (hn:l.length≤1000):qm (evL T) qml [(.fsl ((l).map u8C) cl),(ii W)]=some (.fsl (((qqj (qfi l W))).map qy) false):=by
 have hL : ∃y,itB (exec (evL T) itL none qmr) (qu [0,1,5,6] true 1) ⟨[(0,(.fsl ((l).map u8C) cl)),(1,(ii W)),(5,.sl 0 0 0 0 false),(6,(ii ((0:Nat))))],[]⟩ [.row 1 [] 0]=some y ∧
   (y.1 = .exit 0∧y.2.1.marks=[] ∧ ∃g:Nat,y.2.2=[.row 1 ((qqj (qfi l W)).map qy) g]∧wp y.2.1.vars 5=some (.sl 0 g 0 l.length false)):=by
  have key:=qcq (f:=exec (evL T) itL none qmr) (s:=qu [0,1,5,6] true 1) (α:=Nat)
   (fun i g=>⟨[(0,(.fsl ((l).map u8C) cl)),(1,(ii W)),(5,.sl 0 g 0 i false),(6,(ii i))],[]⟩) (fun i g=>[.row 1 ((qqj (qfi (l.take i) W)).map qy) g]) (fun _ _=>True) l.length
   (fun y=>y.1 = .exit 0∧y.2.1.marks=[] ∧ ∃g:Nat,y.2.2=[.row 1 ((qqj (qfi l W)).map qy) g]∧wp y.2.1.vars 5=some (.sl 0 g 0 l.length false)) ?_ ?_ 0 0 (wG _) trivial
  ·exact key
  ·rintro i g hi _
   obtain⟨x,hx⟩ : ∃x,l[i]? = some x:=⟨_,zgE hi⟩
   obtain⟨x0,x1⟩:=hl x (zmg hx)
   have hi':(i:Int)<(l.length:Int):=by omega
   have hw:IntKind.i64.wrap ((i:Int)+1)=((i+1:Nat):Int):=by rw[qi (by omega) (by omega)];simp
   have hg:(l.map u8C)[i]? = some [.v (.int .u8 x)]:=by rw[wu,hx];rfl
   have hll:(l.map u8C).length=l.length:=wn ..
   have hx64:IntKind.i64.wrap x=x:=qi (by omega) (by omega)
   have hmx:(if (W:Int)>1 then (W:Int)else 1)=W:=by split<;>omega
   have hW0:¬(W:Int)=0:=by omega
   have hr:x.tmod W=((x.toNat%W:Nat):Int):=by
    obtain⟨n,rfl⟩ : ∃n:Nat,x=n:=⟨x.toNat,by omega⟩
    rw[wU (by omega)];rfl
   have hnx:(qqj (qfi (l.take (i+1)) W)).map qy=(qqj (qfi (l.take i) W)).map qy++[[(ii ((x.toNat%W:Nat)))]]:=by
    unfold qqj qfi;rw[wT,hx];simp[qy]
   have hlk:((qqj (qfi (l.take i) W)).map qy).length=i:=by unfold qqj qfi;simp;omega
   have tk:wD i ((qqj (qfi (l.take i) W)).map qy)=(qqj (qfi (l.take i) W)).map qy:=ztl (by omega)
   have lo:=qg 1 (qqj (qfi (l.take (i+1)) W))
   have bd:(i+1)*8≤140737488355328:=by omega
   have hle:i≤i:=wH _
   rw[hnx]at lo
   refine .inl ⟨g+1,?_,trivial⟩
   rw[hnx]
   generalize (qqj (qfi (l.take i) W)).map qy=R at *
   simp only[qmr,hll,hi',hw,hg,hx64,hmx,hW0,hr,hlk,tk,lo,bd,hle,zgs,zgr,qaky,wq,qqk,qb,qaw,wj,wE,wl,wy,ne_eq,zgy,↓qc,↓wh,we,wJ,wr,wC,wi]
  ·rintro g _
   rw[wN]
   have hll:(l.map u8C).length=l.length:=wn ..
   simp only[qmr,hll,wI,wq,zgy,↓qc,↓wh,we,wi]
   exact⟨_,rfl,rfl,rfl,g,rfl,rfl⟩
 obtain⟨⟨y,e,σ⟩,k1,k2,k3,g,k4,k5⟩:=hL
 simp only[wB]at k1 k2 k3 k4 k5
 subst k2;subst k4
 have hlk:((qqj (qfi l W)).map qy).length=l.length:=by unfold qqj qfi;simp
 have tk:wD l.length ((qqj (qfi l W)).map qy)=(qqj (qfi l W)).map qy:=ztl (by omega)
 have lo:=qg 0 (qqj (qfi l W))
 have hle:l.length≤l.length:=wH _
 rw[qm,qd qacp q8a]
 simp only[qs4,k1,k3,k5,hlk,tk,lo,hle,zfd,qaky,wq,qk,wy,zgy,↓qc,↓qq,↓wh,wg,we,wx,wi]
theorem qaln (l:List Int) (W:Nat) (hW:1≤W) : ∀x∈qfi l W,x<W:=by
 intro x hx
 unfold qfi at hx
 obtain⟨y,_,rfl⟩:=List.mem_map.1 hx
 exact Nat.mod_lt _ (by omega)
theorem runIn_of {c:Cfg} (G:Good c) (l8:c.look≤8) (n4:c.lps.length≤4) {W:Nat} (hW:1≤W∧W≤64) (l:List Int) (hl:l.length≤200) {lim:Nat} (hlim:lim≤30) : ∃n,RunIn c W (qfi l W) lim n:=by
 obtain⟨n,hn⟩:=fin_ex (T:=c.lps.length) (picks:=qfi l W) hW.1
 exact⟨n,G.h12,G.v,n4,l8,hW,qaln l W hW.1,by simp[qfi];omega,hlim,hn⟩
theorem Good.check {c:Cfg} (G:Good c):qm (evL T) qdn [(.agg [(.fsl ((c.lps).map lpC) false),(.fsl ((c.progs).map qau) false),(ii c.look),(ii c.fin),(ii c.cap)])]=some (ii 0):=by
 have:=qzv c G.ok
 rw[G.z]at this;exact this
theorem q32 (l:List Int) (ca cb:Bool) (hl:l.length≤1000000):qm (evL T) qlw [(.fsl ((l).map qy) ca),(.fsl ((l).map qy) cb)]=some (bb true):=by
 have hL : ∃y,itB (exec (evL T) itL none qpx) (qu [0,1,5] true 0) ⟨[(0,(.fsl ((l).map qy) ca)),(1,(.fsl ((l).map qy) cb)),(5,(ii ((0:Nat))))],[]⟩ []=some y∧(y.1 = .exit 0∧y.2.1.marks=[]∧y.2.2=[]):=by
  refine q94 l (fun i=>⟨[(0,(.fsl ((l).map qy) ca)),(1,(.fsl ((l).map qy) cb)),(5,(ii i))],[]⟩) [] _ ?_ ?_
  ·intro i x hi hx
   have hi':(i:Int)<(l.length:Int):=by omega
   have hw:IntKind.i64.wrap ((i:Int)+1)=((i+1:Nat):Int):=by rw[qi (by omega) (by omega)];simp
   have hg:(l.map qy)[i]? = some [(ii x)]:=by rw[wu,hx];rfl
   have hll:(l.map qy).length=l.length:=wn ..
   simp only[qpx,hll,hi',hw,hg,zgs,zgr,qg,wq,qb,ne_eq,zgy,↓qc,↓wh,we,wi]
  ·have hll:(l.map qy).length=l.length:=wn ..
   simp only[qpx,hll,wI,wq,zgy,↓qc,↓wh,we,wi]
   exact⟨_,rfl,rfl,rfl,rfl⟩
 obtain⟨⟨y,e,σ⟩,k1,k2,k3,k4⟩:=hL
 simp only[wB]at k1 k2 k3 k4
 subst k2;subst k4
 rw[qm,qd qadf qabe]
 simp only[qu4,k1,k3,qg,wq,qk,ne_eq,zgy,↓qc,↓qq,↓wh,wg,we,wi]
theorem qaf2 (l:List (Nat×Nat)) (ca cb:Bool) (hl:l.length≤1000000):qm (evL T) qnq [.fsl (l.map prC) ca,.fsl (l.map prC) cb]=some (bb true):=by
 have hL : ∃y,itB (exec (evL T) itL none qp3) (qu [0,1,5] true 0) ⟨[(0,.fsl (l.map prC) ca),(1,.fsl (l.map prC) cb),(5,(ii ((0:Nat))))],[]⟩ []=some y∧(y.1 = .exit 0∧y.2.1.marks=[]∧y.2.2=[]):=by
  refine q94 l (fun i=>⟨[(0,.fsl (l.map prC) ca),(1,.fsl (l.map prC) cb),(5,(ii i))],[]⟩) [] _ ?_ ?_
  ·intro i x hi hx
   have hi':(i:Int)<(l.length:Int):=by omega
   have hw:IntKind.i64.wrap ((i:Int)+1)=((i+1:Nat):Int):=by rw[qi (by omega) (by omega)];simp
   have hg:(l.map prC)[i]? = some [(ii x.1),(ii x.2)]:=by rw[wu,hx];rfl
   have hll:(l.map prC).length=l.length:=wn ..
   simp only[qp3,hll,hi',hw,hg,zgs,zgr,qea,wq,qb,qg7,zgy,↓qc,↓wh,wg,we,wi]
  ·have hll:(l.map prC).length=l.length:=wn ..
   simp only[qp3,hll,wI,wq,zgy,↓qc,↓wh,we,wi]
   exact⟨_,rfl,rfl,rfl,rfl⟩
 obtain⟨⟨y,e,σ⟩,k1,k2,k3,k4⟩:=hL
 simp only[wB]at k1 k2 k3 k4
 subst k2;subst k4
 rw[qm,qd qadn qabp]
 simp only[qvi,k1,k3,qea,wq,qk,ne_eq,zgy,↓qc,↓qq,↓wh,wg,we,wi]
set_option maxRecDepth 100000
section
variable {c:Cfg} {lim k:Nat} {h:List Evt}
theorem ParI.rows (P:ParI c lim k h) (hl:lim≤30):(qbp c k).trace.length≤1000000∧(∀x∈(qbp c k).trace,x.length≤1000000)∧(∀x∈(qbp c k).trace,∀e∈x,e.key.length≤9223372036854775807):=by
 have hv:=P.inv.valid.lps
 have hh:=P.len
 refine⟨by rw[P.inv.trl];omega,fun x hx => ?_,fun x hx e he => ?_⟩
 ·obtain⟨i,hi⟩:=List.mem_iff_getElem?.1 hx
  have hin:i<c.lps.length:=by rw[←P.inv.trl];exact(zei.1 hi).1
  rw[P.inv.tr i hin]at hi;cases hi
  have:=List.length_filter_le (fun e:Evt=>decide (e.lp=i)) h
  unfold qao;omega
 ·obtain⟨i,hi⟩:=List.mem_iff_getElem?.1 hx
  have:=(P.inv.ev e (wR _ (P.inv.mem hi e he).1)).key
  omega
theorem ParI.short (P:ParI c lim k h) (hl:lim≤30):(qhe c (qbp c k)).length≤9223372036854775807 ∧ ∀x∈qhe c (qbp c k),x.1.Short:=by
 have hv:=P.inv.valid.lps
 have hh:=P.len
 refine⟨by simp[qhe];omega,fun x hx => ?_⟩
 have hm:x.1∈(qbp c k).lps:=by rw[←P.lok.1];exact List.mem_map.2 ⟨x,hx,rfl⟩
 obtain⟨a,b⟩:=P.inv.lp _ hm
 exact⟨by omega,fun q hq=>by have:=(b q hq).2.2.2.2;omega⟩
end
set_option maxRecDepth 10000
def wsZ:WS→Int
 | .claim=>1 | .work _=>2 | .arrive=>3 | .wait=>4 | .done=>5
def wsR (x:WS):List AV:=[(ii ((wsZ x)))]
theorem wsR_lo (n:Nat) (x:WS):los n (wsR x)=true:=rfl
theorem qnv (n:Nat) (l:List WS):qb4 n (l.map wsR)=true:=qjs (wsR_lo n) l
theorem rmNew_ev:(evL T).call qpf [(ii 2),(ii 0)] []=some (.ptr 2 0 0 0,[.row 1 [[(ii 0)],[(ii 0)]] 0,.row 6 [] 0,.row 4 [[.sl 0 0 0 2 false,.fsl [] true,.sl 1 0 0 0 false,(ii 0)]] 0]):=q42 6 (by kernel_rfl)
section
variable (st:List WS) (w0 w1:Nat) (tl:List Int) (pr:List (Nat×Nat)) (tk W lf:Nat) (LG:List (List AV)) (gl gs gt gp k:Nat)
theorem do0_ev (w:Int) (hlo:LogOk LG) (hl:LG.length≤1000000000) (hw:w0≤1000000) : ∃LG' gl',LogOk LG'∧LG'.length=LG.length+1 ∧
  (evL T).call qdl [.ptr 2 0 0 0,.agg [(ii 2),(ii w),(ii 0),(ii 1),(ii 0)]] [.row 1 [[(ii w0)],[(ii w1)]] 0,.row 6 LG gl,.row 4 [[.sl 0 0 0 2 false,.fsl [] true,.sl 1 gl 0 (LG).length false,(ii 0)]] 0,.row 1 ((st).map wsR) gs,.row 1 ((tl).map qy) gt,.row 2 ((pr).map prC) gp,.row 7 [[.ptr 2 0 0 0,(ii tk),.sl 3 gs 0 W false,.sl 4 gt 0 W false,.sl 5 gp 0 (pr).length false,(ii lf),(ii k)]] 0]=some (.tup [(ii ((w0+1:Nat))),(bb false)],[.row 1 [[(ii ((w0+1:Nat)))],[(ii w1)]] 0,.row 6 LG' gl',.row 4 [[.sl 0 0 0 2 false,.fsl [] true,.sl 1 gl' 0 (LG').length false,(ii 0)]] 0,.row 1 ((st).map wsR) gs,.row 1 ((tl).map qy) gt,.row 2 ((pr).map prC) gp,.row 7 [[.ptr 2 0 0 0,(ii tk),.sl 3 gs 0 W false,.sl 4 gt 0 W false,.sl 5 gp 0 (pr).length false,(ii lf),(ii k)]] 0]):=by
 have ww:IntKind.i64.wrap ((w0:Int)+1)=((w0+1:Nat):Int):=by rw[qi (by omega) (by omega)];simp
 have ok2:LogOk (LG++[([(ii w),(ii 2),(ii 0),(ii w0),(ii ((w0+1:Nat))),(bb true)]:List AV)]):=⟨fun n=>by rw[qqy,hlo.lo];rfl,by rw[qwy,hlo.ok];rfl⟩
 refine⟨_,gl+1,ok2,by simp,?_⟩
 have bd:(LG.length+1)*48≤140737488355328:=by omega
 have hl2:(LG++[([(ii w),(ii 2),(ii 0),(ii w0),(ii ((w0+1:Nat))),(bb true)]:List AV)]).length=LG.length+1:=by simp
 have lo2:=ok2.lo 7
 rw[qd qpj qoj]
 simp only[qi6,ww,bd,lo2,hl2,ge_iff_le,wA,qnv,qea,qg,wq,wF,qqk,qb,qaw,wj,wE,wl,qk,wy,ne_eq,zgy,↓qc,↓wh,wg,we,wJ,wx,wr,wC,Int.reduceLE,Int.reduceLT,wW,wA,wi]
theorem do1_ev (w:Int) (hlo:LogOk LG) (hl:LG.length≤1000000000) (hw:w1≤1000000) : ∃LG' gl',LogOk LG'∧LG'.length=LG.length+1 ∧
  (evL T).call qdl [.ptr 2 0 0 0,.agg [(ii 2),(ii w),(ii 1),(ii 1),(ii 0)]] [.row 1 [[(ii w0)],[(ii w1)]] 0,.row 6 LG gl,.row 4 [[.sl 0 0 0 2 false,.fsl [] true,.sl 1 gl 0 (LG).length false,(ii 0)]] 0,.row 1 ((st).map wsR) gs,.row 1 ((tl).map qy) gt,.row 2 ((pr).map prC) gp,.row 7 [[.ptr 2 0 0 0,(ii tk),.sl 3 gs 0 W false,.sl 4 gt 0 W false,.sl 5 gp 0 (pr).length false,(ii lf),(ii k)]] 0]=some (.tup [(ii ((w1+1:Nat))),(bb false)],[.row 1 [[(ii w0)],[(ii ((w1+1:Nat)))]] 0,.row 6 LG' gl',.row 4 [[.sl 0 0 0 2 false,.fsl [] true,.sl 1 gl' 0 (LG').length false,(ii 0)]] 0,.row 1 ((st).map wsR) gs,.row 1 ((tl).map qy) gt,.row 2 ((pr).map prC) gp,.row 7 [[.ptr 2 0 0 0,(ii tk),.sl 3 gs 0 W false,.sl 4 gt 0 W false,.sl 5 gp 0 (pr).length false,(ii lf),(ii k)]] 0]):=by
 have ww:IntKind.i64.wrap ((w1:Int)+1)=((w1+1:Nat):Int):=by rw[qi (by omega) (by omega)];simp
 have ok2:LogOk (LG++[([(ii w),(ii 2),(ii 1),(ii w1),(ii ((w1+1:Nat))),(bb true)]:List AV)]):=⟨fun n=>by rw[qqy,hlo.lo];rfl,by rw[qwy,hlo.ok];rfl⟩
 refine⟨_,gl+1,ok2,by simp,?_⟩
 have bd:(LG.length+1)*48≤140737488355328:=by omega
 have hl2:(LG++[([(ii w),(ii 2),(ii 1),(ii w1),(ii ((w1+1:Nat))),(bb true)]:List AV)]).length=LG.length+1:=by simp
 have lo2:=ok2.lo 7
 rw[qd qpj qoj]
 simp only[qi6,ww,bd,lo2,hl2,ge_iff_le,wA,qnv,qea,qg,wq,wF,qqk,qb,qaw,wj,wE,wl,qk,wy,ne_eq,zgy,↓qc,↓wh,wg,we,wJ,wx,wr,wC,Int.reduceLE,Int.reduceLT,wW,wA,wi]
theorem do2_ev (w:Int) (hlo:LogOk LG) (hl:LG.length≤1000000000) : ∃LG' gl',LogOk LG'∧LG'.length=LG.length+1 ∧
  (evL T).call qdl [.ptr 2 0 0 0,.agg [(ii 1),(ii w),(ii 1),(ii 0),(ii 0)]] [.row 1 [[(ii w0)],[(ii w1)]] 0,.row 6 LG gl,.row 4 [[.sl 0 0 0 2 false,.fsl [] true,.sl 1 gl 0 (LG).length false,(ii 0)]] 0,.row 1 ((st).map wsR) gs,.row 1 ((tl).map qy) gt,.row 2 ((pr).map prC) gp,.row 7 [[.ptr 2 0 0 0,(ii tk),.sl 3 gs 0 W false,.sl 4 gt 0 W false,.sl 5 gp 0 (pr).length false,(ii lf),(ii k)]] 0]=some (.tup [(ii w1),(bb false)],[.row 1 [[(ii w0)],[(ii w1)]] 0,.row 6 LG' gl',.row 4 [[.sl 0 0 0 2 false,.fsl [] true,.sl 1 gl' 0 (LG').length false,(ii 0)]] 0,.row 1 ((st).map wsR) gs,.row 1 ((tl).map qy) gt,.row 2 ((pr).map prC) gp,.row 7 [[.ptr 2 0 0 0,(ii tk),.sl 3 gs 0 W false,.sl 4 gt 0 W false,.sl 5 gp 0 (pr).length false,(ii lf),(ii k)]] 0]):=by
 have ok2:LogOk (LG++[([(ii w),(ii 1),(ii 1),(ii w1),(ii w1),(bb true)]:List AV)]):=⟨fun n=>by rw[qqy,hlo.lo];rfl,by rw[qwy,hlo.ok];rfl⟩
 refine⟨_,gl+1,ok2,by simp,?_⟩
 have bd:(LG.length+1)*48≤140737488355328:=by omega
 have hl2:(LG++[([(ii w),(ii 1),(ii 1),(ii w1),(ii w1),(bb true)]:List AV)]).length=LG.length+1:=by simp
 have lo2:=ok2.lo 7
 rw[qd qpj qoj]
 simp only[qi6,bd,lo2,hl2,ge_iff_le,wA,qnv,qea,qg,wq,wF,qqk,qb,qaw,wj,wE,wl,qk,wy,ne_eq,zgy,↓qc,↓wh,wg,we,wJ,wx,wr,wC,Int.reduceLE,Int.reduceLT,wW,wA,wi]
end
set_option maxRecDepth 10000
structure TlOk (st:List WS) (tl:List Int):Prop where
 len:tl.length=st.length
 at_ : ∀(w t:Nat),st[w]? = some (WS.work t)→tl[w]? = some (t:Int)
theorem TlOk.set {st:List WS} {tl:List Int} (h:TlOk st tl) (w:Nat) (y:WS) (hy : ∀t,y ≠ .work t):TlOk (st.set w y) tl:=by
 refine⟨by rw[wK];exact h.len,fun v t hv => ?_⟩
 by_cases e:w=v
 ·subst e
  by_cases hl:w<st.length
  ·rw[wM hl]at hv;simp only[Option.some.injEq]at hv;exact absurd hv (hy t)
  ·rw[List.getElem?_eq_none (by simp;omega)]at hv;cases hv
 ·rw[List.getElem?_set_ne e]at hv;exact h.at_ v t hv
theorem TlOk.setW {st:List WS} {tl:List Int} (h:TlOk st tl) (w t:Nat):TlOk (st.set w (.work t)) (tl.set w t):=by
 refine⟨by rw[wK,wK];exact h.len,fun v t' hv => ?_⟩
 by_cases e:w=v
 ·subst e
  have hl:=(zei.1 hv).1
  rw[wK]at hl
  rw[wM hl]at hv;simp only[Option.some.injEq,WS.work.injEq]at hv
  rw[wM (by rw[h.len];exact hl),hv]
 ·rw[List.getElem?_set_ne e]at hv ⊢;exact h.at_ v t' hv
theorem qag6 (p:Pool) (tk W:Nat) (I:PInv tk W p) (ht:tk≤1000) (hW:W≤1000) (w:Nat) (hw:w<W) (tl:List Int) (htl:TlOk p.st tl) (LG:List (List AV)) (gl gs gt gp k:Nat) (hlo:LogOk LG) (hl:LG.length≤1000000000) (hk:k≤1000000000) :
  ∃tl' LG' gl' gp',TlOk (p.step tk w).st tl'∧LogOk LG'∧LG'.length≤LG.length+1∧(evL T).call qgc [.ptr 6 0 0 0,(ii w)] [.row 1 [[(ii (((p).w0)))],[(ii (((p).w1)))]] 0,.row 6 LG gl,.row 4 [[.sl 0 0 0 2 false,.fsl [] true,.sl 1 gl 0 (LG).length false,(ii 0)]] 0,.row 1 ((((p).st)).map wsR) gs,.row 1 ((tl).map qy) gt,.row 2 ((((p).pairs)).map prC) gp,.row 7 [[.ptr 2 0 0 0,(ii tk),.sl 3 gs 0 ((p).st.length) false,.sl 4 gt 0 ((p).st.length) false,.sl 5 gp 0 (((p).pairs)).length false,(ii ((qgt (p).st))),(ii k)]] 0]=some (.tup [],[.row 1 [[(ii ((((p.step tk w)).w0)))],[(ii ((((p.step tk w)).w1)))]] 0,.row 6 LG' gl',.row 4 [[.sl 0 0 0 2 false,.fsl [] true,.sl 1 gl' 0 (LG').length false,(ii 0)]] 0,.row 1 (((((p.step tk w)).st)).map wsR) gs,.row 1 ((tl').map qy) gt,.row 2 (((((p.step tk w)).pairs)).map prC) gp',.row 7 [[.ptr 2 0 0 0,(ii tk),.sl 3 gs 0 (((p.step tk w)).st.length) false,.sl 4 gt 0 (((p.step tk w)).st.length) false,.sl 5 gp' 0 ((((p.step tk w)).pairs)).length false,(ii ((qgt ((p.step tk w)).st))),(ii ((k+1:Nat)))]] 0]):=by
 obtain⟨w0,w1,st,pairs⟩:=p
 have hlen:=I.len
 have b0:=I.w0
 have b1:=I.w1
 have bp:=I.perm.length_eq
 simp only at hlen b0 b1 bp htl
 have c0:=List.countP_le_length (p:=qacm) (l:=st)
 have c1:=List.countP_le_length (p:=inW) (l:=st)
 have c2:=qakj st
 simp only[zgp,zgi,List.length_range]at bp
 have hws:w<st.length:=by omega
 have hg:(st.map wsR)[w]? = some (wsR st[w]):=by rw[wu,zgE hws];rfl
 have hset : ∀y,(st.map wsR).set w (wsR y)=(st.set w y).map wsR:=fun y=>by rw[List.map_set]
 have hlf:=qaho st w hws
 have wk:IntKind.i64.wrap ((k:Int)+1)=((k+1:Nat):Int):=by rw[qi (by omega) (by omega)];simp
 have hrl:(st.map wsR).length=st.length:=wn ..
 unfold Pool.step
 simp only[zgE hws]
 subst hlen
 rw[qd q3p q1s]
 cases hs:st[w]with
 |claim=>
  rw[hs]at hg hlf
  simp only[wsR,wsZ]at hg
  obtain⟨LG',gl',h1,h2,h3⟩:=do0_ev st w0 w1 tl pairs tk st.length (qgt st) LG gl gs gt gp (k+1) w hlo hl (by omega)
  have lo1:=h1.lo 7
  have hdn : ∀y,qpt y=false→qgt (st.set w y)=qgt st:=fun y hy=>by rw[hlf rfl,hy];rfl
  have ww:IntKind.i64.wrap (((w0+1:Nat):Int)-1)=(w0:Int):=by rw[qi (by omega) (by omega)];omega
  by_cases hc:w0+1≤tk
  ·have hc':((w0+1:Nat):Int)≤(tk:Int):=by omega
   refine⟨tl.set w w0,LG',gl',gp,?_,h1,by omega,?_⟩
   ·simp only[hc,if_true];exact htl.setW w w0
   simp only[hc,if_true]
   have hs2:=hset (.work w0)
   have lo2:=qnv 7 (st.set w (.work w0))
   have lo3:=qg 7 (tl.set w (w0:Int))
   have hs3:(tl.map qy).set w [(ii w0)]=(tl.set w (w0:Int)).map qy:=by rw[List.map_set];rfl
   have hgt : ∃z,(tl.map qy)[w]? = some [(ii z)]:=by
    refine⟨tl[w]'(by rw[htl.len];exact hws),?_⟩
    rw[wu,zgE (by rw[htl.len];exact hws)];rfl
   obtain⟨z,hgt⟩:=hgt
   simp only[wsR,wsZ]at hs2
   rw[←hs2]at lo2⊢
   rw[←hs3]at lo3⊢
   rw[hdn _ rfl,wK]
   have hss:(((st.map wsR).set w [(ii 3)])[w]?)=some [(ii 3)]:=wM (by rw[hrl];exact hws)
   have hss2:((st.map wsR).set w [(ii 3)]).set w [(ii 2)]=(st.map wsR).set w [(ii 2)]:=List.set_set ..
   simp only[qd7,wk,hg,h3,hc',ww,hws,hgt,hss,hss2,lo1,lo2,lo3,qea,zgs,zgr,wq,wF,qb,wj,wE,wl,qk,wy,zgy,↓qc,↓wh,wg,we,wx,wr,wi]
  ·have hc':¬((w0+1:Nat):Int)≤(tk:Int):=by omega
   refine⟨tl,LG',gl',gp,?_,h1,by omega,?_⟩
   ·simp only[hc,if_false];exact htl.set w _ (by simp)
   simp only[hc,if_false]
   have hs2:=hset .arrive
   have lo2:=qnv 7 (st.set w .arrive)
   simp only[wsR,wsZ]at hs2
   rw[←hs2]at lo2⊢
   rw[hdn _ rfl,wK]
   simp only[qd7,wk,hg,h3,hc',hws,lo1,lo2,qea,qg,zgs,zgr,wq,wF,qb,wj,wE,wl,qk,wy,zgy,↓qc,↓wh,wg,we,wx,wr,wi]
 |work t=>
  have hst:st[w]? = some (.work t):=by rw[zgE hws,hs]
  rw[hs]at hg hlf
  simp only[wsR,wsZ]at hg
  have hgt:(tl.map qy)[w]? = some [(ii t)]:=by rw[wu,htl.at_ w t hst];rfl
  refine⟨tl,LG,gl,gp+1,htl.set w _ (by simp),hlo,by omega,?_⟩
  simp only
  have hs2:=hset .claim
  have lo2:=qnv 7 (st.set w .claim)
  simp only[wsR,wsZ]at hs2
  rw[←hs2]at lo2⊢
  rw[hlf rfl,wK]
  have bd:(pairs.length+1)*16≤140737488355328:=by omega
  have hm:(pairs++[(t,w)]).map prC=pairs.map prC++[[(ii t),(ii w)]]:=by rw[wP];rfl
  have hl2:(pairs++[(t,w)]).length=pairs.length+1:=by simp
  have tkl:wD pairs.length (pairs.map prC)=pairs.map prC:=ztl (by simp)
  have lo3:=qea 7 (pairs++[(t,w)])
  have hle:pairs.length≤pairs.length:=wH _
  rw[hm]at lo3⊢
  rw[hl2]
  simp only[qpt,zfa,if_false]
  simp only[qd7,wk,hg,hgt,hws,bd,tkl,hle,lo2,lo3,zgi,wA,hlo.lo,qg,zgs,zgr,wq,wF,qqk,qb,qaw,wj,wE,wl,qk,wy,ne_eq,zgy,↓qc,↓wh,wg,we,wJ,wx,wr,wC,wA,wi]
 |arrive=>
  rw[hs]at hg hlf
  simp only[wsR,wsZ]at hg
  obtain⟨LG',gl',h1,h2,h3⟩:=do1_ev st w0 w1 tl pairs tk st.length (qgt st) LG gl gs gt gp (k+1) w hlo hl (by omega)
  have lo1:=h1.lo 7
  refine⟨tl,LG',gl',gp,htl.set w _ (by simp),h1,by omega,?_⟩
  simp only
  have hs2:=hset .wait
  have lo2:=qnv 7 (st.set w .wait)
  simp only[wsR,wsZ]at hs2
  rw[←hs2]at lo2⊢
  rw[hlf rfl,wK]
  simp only[qpt,zfa,if_false]
  simp only[qd7,wk,hg,h3,hws,lo1,lo2,wA,qea,qg,zgs,zgr,wq,wF,qb,wj,wE,wl,qk,wy,zgy,↓qc,↓wh,wg,we,wx,wr,wA,wi]
 |wait=>
  rw[hs]at hg hlf
  simp only[wsR,wsZ]at hg
  have hp:0<qgt st:=(q01 st).2 ⟨w,hws,fun e=>by rw[e]at hs;cases hs⟩
  obtain⟨LG',gl',h1,h2,h3⟩:=do2_ev st w0 w1 tl pairs tk st.length (qgt st) LG gl gs gt gp (k+1) w hlo hl
  have lo1:=h1.lo 7
  by_cases hc:w1=st.length
  ·refine⟨tl,LG',gl',gp,?_,h1,by omega,?_⟩
   ·simp only[hc,if_true];exact htl.set w _ (by simp)
   simp only[hc,if_true]
   rw[hc]at h3
   have hs2:=hset .done
   have lo2:=qnv 7 (st.set w .done)
   simp only[wsR,wsZ]at hs2
   rw[←hs2]at lo2⊢
   rw[hlf rfl,wK]
   have ww:IntKind.i64.wrap ((qgt st:Int)-1)=((qgt st-1:Nat):Int):=by rw[qi (by omega) (by omega)];omega
   simp only[qpt,if_true]
   simp only[qd7,wk,hg,h3,ww,hws,lo1,lo2,wA,qea,qg,zgs,zgr,wq,wF,qb,wj,wE,wl,qk,wy,zgy,↓qc,↓wh,wg,we,wx,wr,wA,wi]
  ·have hc':¬(w1:Int)=(st.length:Int):=by omega
   refine⟨tl,LG',gl',gp,?_,h1,by omega,?_⟩
   ·simp only[hc,if_false];exact htl
   simp only[hc,if_false]
   simp only[qd7,wk,hg,h3,hc',hws,lo1,wA,qnv,qea,qg,zgs,zgr,wq,wF,qb,wj,wE,wl,qk,wy,zgy,↓qc,↓wh,wg,we,wx,wr,wA,wi]
 |done=>
  rw[hs]at hg
  simp only[wsR,wsZ]at hg
  refine⟨tl,LG,gl,gp,htl,hlo,by omega,?_⟩
  simp only
  simp only[qd7,wk,hg,hws,wA,qnv,qea,hlo.lo,qg,zgs,zgr,wq,wF,qb,wj,wE,wl,qk,wy,zgy,↓qc,↓wh,wg,we,wx,wA,wi]
set_option maxRecDepth 10000
theorem rNew_ev (tk W:Nat) (h1:1≤W) (h2:W≤64) : ∃gs gt,(evL T).call qpl [(ii tk),(ii W)] []=some (.ptr 6 0 0 0,[.row 1 [[(ii 0)],[(ii 0)]] 0,.row 6 ([]:List (List AV)) 0,.row 4 [[.sl 0 0 0 2 false,.fsl [] true,.sl 1 0 0 (([]:List (List AV))).length false,(ii 0)]] 0,.row 1 (((wc W WS.claim)).map wsR) gs,.row 1 (((wc W 0)).map qy) gt,.row 2 ((([]:List (Nat×Nat))).map prC) 0,.row 7 [[.ptr 2 0 0 0,(ii tk),.sl 3 gs 0 W false,.sl 4 gt 0 W false,.sl 5 0 0 (([]:List (Nat×Nat))).length false,(ii W),(ii 0)]] 0]):=by
 have hL : ∃y,itB (exec (evL T) itL none qos) (qu [1,5,6] true 7) ⟨[(1,(ii W)),(5,.ptr 6 0 0 0),(6,(ii ((0:Nat))))],[]⟩
   [.row 1 [[(ii 0)],[(ii 0)]] 0,.row 6 ([]:List (List AV)) 0,.row 4 [[.sl 0 0 0 2 false,.fsl [] true,.sl 1 0 0 (([]:List (List AV))).length false,(ii 0)]] 0,.row 1 (((wc 0 WS.claim)).map wsR) 0,.row 1 (((wc 0 0)).map qy) 0,.row 2 ((([]:List (Nat×Nat))).map prC) 0,.row 7 [[.ptr 2 0 0 0,(ii tk),.sl 3 0 0 0 false,.sl 4 0 0 0 false,.sl 5 0 0 (([]:List (Nat×Nat))).length false,(ii W),(ii 0)]] 0]=some y ∧
   y.1 = .exit 0∧y.2.1.marks=[]∧y.2.2=[.row 1 [[(ii 0)],[(ii 0)]] 0,.row 6 ([]:List (List AV)) 0,.row 4 [[.sl 0 0 0 2 false,.fsl [] true,.sl 1 0 0 (([]:List (List AV))).length false,(ii 0)]] 0,.row 1 (((wc W WS.claim)).map wsR) W,.row 1 (((wc W 0)).map qy) W,.row 2 ((([]:List (Nat×Nat))).map prC) 0,.row 7 [[.ptr 2 0 0 0,(ii tk),.sl 3 W 0 W false,.sl 4 W 0 W false,.sl 5 0 0 (([]:List (Nat×Nat))).length false,(ii W),(ii 0)]] 0]∧wp y.2.1.vars 5=some (.ptr 6 0 0 0):=by
  have key:=qcq (f:=exec (evL T) itL none qos) (s:=qu [1,5,6] true 7) (α:=Unit)
   (fun i _=>⟨[(1,(ii W)),(5,.ptr 6 0 0 0),(6,(ii i))],[]⟩) (fun i _=>[.row 1 [[(ii 0)],[(ii 0)]] 0,.row 6 ([]:List (List AV)) 0,.row 4 [[.sl 0 0 0 2 false,.fsl [] true,.sl 1 0 0 (([]:List (List AV))).length false,(ii 0)]] 0,.row 1 (((wc i WS.claim)).map wsR) i,.row 1 (((wc i 0)).map qy) i,.row 2 ((([]:List (Nat×Nat))).map prC) 0,.row 7 [[.ptr 2 0 0 0,(ii tk),.sl 3 i 0 i false,.sl 4 i 0 i false,.sl 5 0 0 (([]:List (Nat×Nat))).length false,(ii W),(ii 0)]] 0]) (fun _ _=>True) W
   (fun y=>y.1 = .exit 0∧y.2.1.marks=[]∧y.2.2=[.row 1 [[(ii 0)],[(ii 0)]] 0,.row 6 ([]:List (List AV)) 0,.row 4 [[.sl 0 0 0 2 false,.fsl [] true,.sl 1 0 0 (([]:List (List AV))).length false,(ii 0)]] 0,.row 1 (((wc W WS.claim)).map wsR) W,.row 1 (((wc W 0)).map qy) W,.row 2 ((([]:List (Nat×Nat))).map prC) 0,.row 7 [[.ptr 2 0 0 0,(ii tk),.sl 3 W 0 W false,.sl 4 W 0 W false,.sl 5 0 0 (([]:List (Nat×Nat))).length false,(ii W),(ii 0)]] 0]∧wp y.2.1.vars 5=some (.ptr 6 0 0 0)) ?_ ?_ 0 () (wG _) trivial
  ·exact key
  ·rintro i _ hi _
   have hi':(i:Int)<(W:Int):=by omega
   have hi2:(i:Int)<64:=by omega
   have hw:IntKind.i64.wrap ((i:Int)+1)=((i+1:Nat):Int):=by rw[qi (by omega) (by omega)];simp
   have bd:(i+1)*8≤140737488355328:=by omega
   have e1:(wc (i+1) WS.claim).map wsR=(wc i WS.claim).map wsR++[[(ii 1)]]:=by rw[wV,wP];rfl
   have e2:(wc (i+1) (0:Int)).map qy=(wc i (0:Int)).map qy++[[(ii 0)]]:=by rw[wV,wP];rfl
   have l1:=qnv 7 (wc (i+1) WS.claim)
   have l2:=qg 7 (wc (i+1) (0:Int))
   have t1:wD i ((wc i WS.claim).map wsR)=(wc i WS.claim).map wsR:=ztl (by simp)
   have t2:wD i ((wc i (0:Int)).map qy)=(wc i (0:Int)).map qy:=ztl (by simp)
   have n1:((wc i WS.claim).map wsR).length=i:=by simp
   have n2:((wc i (0:Int)).map qy).length=i:=by simp
   have hle:i≤i:=wH _
   rw[e1]at l1
   rw[e2]at l2
   refine .inl ⟨(),?_,trivial⟩
   rw[e1,e2]
   generalize (wc i WS.claim).map wsR=R1 at *
   generalize (wc i (0:Int)).map qy=R2 at *
   simp only[qos,hi',hi2,hw,bd,l1,l2,t1,t2,n1,n2,hle,qea,wq,wF,qqk,qb,qaw,wj,wE,wl,wy,ne_eq,zgy,↓qc,↓wh,wg,we,wJ,wx,wr,wC]
  ·rintro _ _
   simp only[qos,wI,wq,zgy,↓qc,↓wh,we]
   exact⟨_,rfl,rfl,rfl,by simp,rfl⟩
 obtain⟨⟨y,e,σ⟩,k1,k2,k3,k4,k5⟩:=hL
 simp only[wB,List.replicate_zero,wS,zgb]at k1 k2 k3 k4 k5
 subst k2;subst k4
 refine⟨W,W,?_⟩
 have l1:=qnv 7 (wc W WS.claim)
 have l2:=qg 7 (wc W (0:Int))
 rw[qd qagl qadb]
 generalize (wc W WS.claim).map wsR=R1 at *
 generalize (wc W (0:Int)).map qy=R2 at *
 simp only[qx9,rmNew_ev,k1,k3,k5,AV.shift,qhy,qhj,wS,wq,q3y,wj,wE,wl,qk,wy,ne_eq,zgy,↓qc,↓qq,↓wh,wg,we,wx,wr,wi]
theorem qahx (tk W:Nat) (ht:tk≤64) (h1:1≤W) (h2:W≤64):qm (evL T) qkr [(ii tk),(ii W)]=some (bb true):=by
 have a1:(tk:Int)≥0:=by omega
 have a2:(tk:Int)≤64:=by omega
 have a3:(W:Int)≥1:=by omega
 have a4:(W:Int)≤64:=by omega
 rw[qm,qd qaaz q9p]
 simp only[qsg,a1,a2,a3,a4,wq,qk,zgy,↓qc,↓wh,wg,we,wi]
theorem qaoe (tk W:Nat) (ht:tk≤64) (h1:1≤W) (h2:W≤64):qm (evL T) qly [(ii tk),(ii W),(ii W)]=some (ii ((W*(2*tk+3*W+1):Nat))):=by
 have hv:=qahx tk W ht h1 h2
 have hm:W*(2*tk+3*W+1)≤64*(2*64+3*64+1):=Nat.mul_le_mul h2 (by omega)
 have w1:IntKind.i64.wrap (2*(tk:Int))=2*(tk:Int):=qi (by omega) (by omega)
 have w2:IntKind.i64.wrap (3*(W:Int))=3*(W:Int):=qi (by omega) (by omega)
 have w3:IntKind.i64.wrap (2*(tk:Int)+3*(W:Int))=2*(tk:Int)+3*(W:Int):=qi (by omega) (by omega)
 have w4:IntKind.i64.wrap (2*(tk:Int)+3*(W:Int)+1)=((2*tk+3*W+1:Nat):Int):=by rw[qi (by omega) (by omega)];omega
 have w5:IntKind.i64.wrap ((W:Int)*((2*tk+3*W+1:Nat):Int))=((W*(2*tk+3*W+1):Nat):Int):=by rw[←Int.natCast_mul];exact qi (by omega) (by omega)
 rw[qm,qd qacb q84]
 simp only[qsx,hv,w1,w2,w3,w4,w5,wq,qk,zgy,↓qc,↓wh,wg,we,wi]
theorem qama (tk W:Nat) (picks:List Nat) (c:Bool) (n:Nat) (ht:tk≤64) (h1:1≤W) (h2:W≤64) (hp : ∀x∈picks,x<W) (hpl:picks.length≤1000) (hn:Fin tk W picks n) :
  qm (evL T) qkx [(ii tk),(ii W),(.fsl (((qqj picks)).map qy) c)]=some (.tup [.fsl ((qdc tk W picks n).pairs.map prC) false,(ii n)]):=by
 have hbd:=hn.bound
 have hnb:n≤1000+64*(2*64+3*64):=by
  have:W*(2*tk+3*W)≤64*(2*64+3*64):=Nat.mul_le_mul h2 (by omega)
  omega
 have hmb:picks.length+W*(2*tk+3*W+1)≤1000000:=by
  have:W*(2*tk+3*W+1)≤64*(2*64+3*64+1):=Nat.mul_le_mul h2 (by omega)
  omega
 have hmost:n<picks.length+W*(2*tk+3*W+1):=by rw[Nat.mul_succ];omega
 obtain⟨gs,gt,hN⟩:=rNew_ev tk W h1 h2
 have hll2:((qqj picks).map qy).length=picks.length:=by rw[wn,qako]
 have hpk : ∀i,qfc picks W i<W:=fun i=>by
  unfold qfc;split
  next hl=>rw[List.getD_eq_getElem?_getD,zgE hl];exact hp _ (List.getElem_mem hl)
  next=>exact Nat.mod_lt _ (by omega)
 have hL : ∃y,itB (exec (evL T) itL none qi4) (qu [0,1,2,8,9] true 7) ⟨[(0,(ii tk)),(1,(ii W)),(2,(.fsl (((qqj picks)).map qy) c)),(8,.ptr 6 0 0 0),(9,(ii ((0:Nat))))],[]⟩ [.row 1 [[(ii ((((qdc tk W picks 0)).w0)))],[(ii ((((qdc tk W picks 0)).w1)))]] 0,.row 6 ([]:List (List AV)) 0,.row 4 [[.sl 0 0 0 2 false,.fsl [] true,.sl 1 0 0 (([]:List (List AV))).length false,(ii 0)]] 0,.row 1 (((((qdc tk W picks 0)).st)).map wsR) gs,.row 1 (((wc W 0)).map qy) gt,.row 2 (((((qdc tk W picks 0)).pairs)).map prC) 0,.row 7 [[.ptr 2 0 0 0,(ii tk),.sl 3 gs 0 (((qdc tk W picks 0)).st.length) false,.sl 4 gt 0 (((qdc tk W picks 0)).st.length) false,.sl 5 0 0 ((((qdc tk W picks 0)).pairs)).length false,(ii ((qgt ((qdc tk W picks 0)).st))),(ii ((0:Nat)))]] 0]=some y ∧
   ∃(m:Nat) (tl:List Int) (LG:List (List AV)) (gl gp:Nat),LogOk LG∧LG.length≤m∧TlOk (qdc tk W picks m).st tl∧m≤n∧(m=n∨m=picks.length)∧m≤picks.length∧y.1 = .exit 0∧y.2.1.marks=[]∧y.2.2=[.row 1 [[(ii ((((qdc tk W picks m)).w0)))],[(ii ((((qdc tk W picks m)).w1)))]] 0,.row 6 LG gl,.row 4 [[.sl 0 0 0 2 false,.fsl [] true,.sl 1 gl 0 (LG).length false,(ii 0)]] 0,.row 1 (((((qdc tk W picks m)).st)).map wsR) gs,.row 1 ((tl).map qy) gt,.row 2 (((((qdc tk W picks m)).pairs)).map prC) gp,.row 7 [[.ptr 2 0 0 0,(ii tk),.sl 3 gs 0 (((qdc tk W picks m)).st.length) false,.sl 4 gt 0 (((qdc tk W picks m)).st.length) false,.sl 5 gp 0 ((((qdc tk W picks m)).pairs)).length false,(ii ((qgt ((qdc tk W picks m)).st))),(ii m)]] 0]∧wp y.2.1.vars 8=some (.ptr 6 0 0 0)∧wp y.2.1.vars 0=some (ii tk)∧wp y.2.1.vars 1=some (ii W)∧wp y.2.1.vars 2=some (.fsl (((qqj picks)).map qy) c):=by
  have key:=qcq (f:=exec (evL T) itL none qi4) (s:=qu [0,1,2,8,9] true 7) (α:=List Int×List (List AV)×Nat×Nat)
   (fun i _=>⟨[(0,(ii tk)),(1,(ii W)),(2,(.fsl (((qqj picks)).map qy) c)),(8,.ptr 6 0 0 0),(9,(ii i))],[]⟩) (fun i a=>[.row 1 [[(ii ((((qdc tk W picks i)).w0)))],[(ii ((((qdc tk W picks i)).w1)))]] 0,.row 6 (a.2.1) a.2.2.1,.row 4 [[.sl 0 0 0 2 false,.fsl [] true,.sl 1 a.2.2.1 0 ((a.2.1)).length false,(ii 0)]] 0,.row 1 (((((qdc tk W picks i)).st)).map wsR) gs,.row 1 (((a.1)).map qy) gt,.row 2 (((((qdc tk W picks i)).pairs)).map prC) a.2.2.2,.row 7 [[.ptr 2 0 0 0,(ii tk),.sl 3 gs 0 (((qdc tk W picks i)).st.length) false,.sl 4 gt 0 (((qdc tk W picks i)).st.length) false,.sl 5 a.2.2.2 0 ((((qdc tk W picks i)).pairs)).length false,(ii ((qgt ((qdc tk W picks i)).st))),(ii i)]] 0]) (fun i a=>TlOk (qdc tk W picks i).st a.1∧LogOk a.2.1∧a.2.1.length≤i) (min n picks.length)
   (fun y => ∃(m:Nat) (tl:List Int) (LG:List (List AV)) (gl gp:Nat),LogOk LG∧LG.length≤m∧TlOk (qdc tk W picks m).st tl∧m≤n∧(m=n∨m=picks.length)∧m≤picks.length∧y.1 = .exit 0∧y.2.1.marks=[]∧y.2.2=[.row 1 [[(ii ((((qdc tk W picks m)).w0)))],[(ii ((((qdc tk W picks m)).w1)))]] 0,.row 6 LG gl,.row 4 [[.sl 0 0 0 2 false,.fsl [] true,.sl 1 gl 0 (LG).length false,(ii 0)]] 0,.row 1 (((((qdc tk W picks m)).st)).map wsR) gs,.row 1 ((tl).map qy) gt,.row 2 (((((qdc tk W picks m)).pairs)).map prC) gp,.row 7 [[.ptr 2 0 0 0,(ii tk),.sl 3 gs 0 (((qdc tk W picks m)).st.length) false,.sl 4 gt 0 (((qdc tk W picks m)).st.length) false,.sl 5 gp 0 ((((qdc tk W picks m)).pairs)).length false,(ii ((qgt ((qdc tk W picks m)).st))),(ii m)]] 0]∧wp y.2.1.vars 8=some (.ptr 6 0 0 0)∧wp y.2.1.vars 0=some (ii tk)∧wp y.2.1.vars 1=some (ii W)∧wp y.2.1.vars 2=some (.fsl (((qqj picks)).map qy) c)) ?_ ?_ 0 (wc W 0,[],0,0) (wG _) ⟨⟨by simp[qdc,Pool.start],fun w t hw=>by
    simp only[qdc,Pool.start,List.getElem?_replicate]at hw
    split at hw<;>cases hw⟩,⟨fun _=>rfl,rfl⟩,wH _⟩
  ·exact key
  ·rintro i ⟨tl,LG,gl,gp⟩ hi ⟨htl,hlo,hll⟩
   simp only at hlo hll htl⊢
   have I:=q06 (T:=tk) (picks:=picks) h1 i
   have hlt:=hn.first i (by omega)
   obtain⟨tl',LG',gl',gp',a0,a1,a2,a3⟩:=qag6 (qdc tk W picks i) tk W I (by omega) (by omega) (qfc picks W i) (hpk i) tl htl LG gl gs gt gp i hlo (by omega) (by omega)
   have hw:IntKind.i64.wrap ((i:Int)+1)=((i+1:Nat):Int):=by rw[qi (by omega) (by omega)];simp
   have hlf:((qgt (qdc tk W picks i).st:Nat):Int)>0:=by omega
   have lo1:=a1.lo 7
   refine .inl ⟨(tl',LG',gl',gp'),?_,a0,a1,by simp only;omega⟩
   simp only
   change _=some (Sum.inl (_,([.row 1 [[(ii (((((qdc tk W picks i).step tk (qfc picks W i))).w0)))],[(ii (((((qdc tk W picks i).step tk (qfc picks W i))).w1)))]] 0,.row 6 LG' gl',.row 4 [[.sl 0 0 0 2 false,.fsl [] true,.sl 1 gl' 0 (LG').length false,(ii 0)]] 0,.row 1 ((((((qdc tk W picks i).step tk (qfc picks W i))).st)).map wsR) gs,.row 1 ((tl').map qy) gt,.row 2 ((((((qdc tk W picks i).step tk (qfc picks W i))).pairs)).map prC) gp',.row 7 [[.ptr 2 0 0 0,(ii tk),.sl 3 gs 0 ((((qdc tk W picks i).step tk (qfc picks W i))).st.length) false,.sl 4 gt 0 ((((qdc tk W picks i).step tk (qfc picks W i))).st.length) false,.sl 5 gp' 0 (((((qdc tk W picks i).step tk (qfc picks W i))).pairs)).length false,(ii ((qgt (((qdc tk W picks i).step tk (qfc picks W i))).st))),(ii ((i+1:Nat)))]] 0]:qj)))
   have hc:(i:Int)<(picks.length:Int):=by omega
   have hg:((qqj picks).map qy)[i]? = some [(ii ((qfc picks W i:Nat)))]:=by
    unfold qfc qqj
    rw[if_pos (by omega),List.getD_eq_getElem?_getD,wu,wu,zgE (by omega)];rfl
   simp only[qi4,hlf,hll2,hc,hg,a3,hw,lo1,qnv,qea,qg,zgs,zgr,wq,qb,wy,zgy,↓qc,↓wh,we,wx,wi]
  ·rintro⟨tl,LG,gl,gp⟩ ⟨htl,hlo,hll⟩
   simp only at hlo hll htl⊢
   by_cases hnp:n<picks.length
   ·have hmn:min n picks.length=n:=by omega
    rw[hmn]at hll htl⊢
    have hs:=hn.stop
    have hc:(n:Int)<(picks.length:Int):=by omega
    have hs':¬((qgt (qdc tk W picks n).st:Nat):Int)>0:=by omega
    simp only[qi4,hc,hll2,hs',wq,qb,zgy,↓qc,↓wh,we,wi]
    exact⟨_,rfl,n,tl,LG,gl,gp,hlo,hll,htl,wH _,.inl rfl,by omega,rfl,rfl,rfl,rfl,rfl,rfl,rfl⟩
   ·have hmn:min n picks.length=picks.length:=by omega
    rw[hmn]at hll htl⊢
    simp only[qi4,hll2,wI,wq,zgy,↓qc,↓wh,we,wi]
    exact⟨_,rfl,picks.length,tl,LG,gl,gp,hlo,hll,htl,by omega,.inr rfl,wH _,rfl,rfl,rfl,rfl,rfl,rfl,rfl⟩
 obtain⟨⟨y,e,σ⟩,k1,m,tl,LG,gl,gp,hlo,hll,htl,m1,m2,m3,k2,k3,k4,k5,k6,k7,k8⟩:=hL
 simp only at k1 k2 k3 k4 k5 k6 k7 k8
 subst k2;subst k4
 have hL2 : ∃y,itB (exec (evL T) itL none qlg) (qu [1,8,10,11] true 7) ⟨[(1,(ii W)),(8,.ptr 6 0 0 0),(10,(ii ((picks.length+W*(2*tk+3*W+1):Nat)))),(11,(ii ((0:Nat))))],[]⟩ [.row 1 [[(ii ((((qdc tk W picks (m+0))).w0)))],[(ii ((((qdc tk W picks (m+0))).w1)))]] 0,.row 6 LG gl,.row 4 [[.sl 0 0 0 2 false,.fsl [] true,.sl 1 gl 0 (LG).length false,(ii 0)]] 0,.row 1 (((((qdc tk W picks (m+0))).st)).map wsR) gs,.row 1 ((tl).map qy) gt,.row 2 (((((qdc tk W picks (m+0))).pairs)).map prC) gp,.row 7 [[.ptr 2 0 0 0,(ii tk),.sl 3 gs 0 (((qdc tk W picks (m+0))).st.length) false,.sl 4 gt 0 (((qdc tk W picks (m+0))).st.length) false,.sl 5 gp 0 ((((qdc tk W picks (m+0))).pairs)).length false,(ii ((qgt ((qdc tk W picks (m+0))).st))),(ii ((m+0:Nat)))]] 0]=some y ∧
   ∃(tl:List Int) (LG:List (List AV)) (gl gp:Nat),LogOk LG∧y.1 = .exit 2∧y.2.1.marks=[]∧y.2.2=[.row 1 [[(ii ((((qdc tk W picks n)).w0)))],[(ii ((((qdc tk W picks n)).w1)))]] 0,.row 6 LG gl,.row 4 [[.sl 0 0 0 2 false,.fsl [] true,.sl 1 gl 0 (LG).length false,(ii 0)]] 0,.row 1 (((((qdc tk W picks n)).st)).map wsR) gs,.row 1 ((tl).map qy) gt,.row 2 (((((qdc tk W picks n)).pairs)).map prC) gp,.row 7 [[.ptr 2 0 0 0,(ii tk),.sl 3 gs 0 (((qdc tk W picks n)).st.length) false,.sl 4 gt 0 (((qdc tk W picks n)).st.length) false,.sl 5 gp 0 ((((qdc tk W picks n)).pairs)).length false,(ii ((qgt ((qdc tk W picks n)).st))),(ii n)]] 0]∧wp y.2.1.vars 8=some (.ptr 6 0 0 0):=by
  have key:=qcq (f:=exec (evL T) itL none qlg) (s:=qu [1,8,10,11] true 7) (α:=List Int×List (List AV)×Nat×Nat)
   (fun i _=>⟨[(1,(ii W)),(8,.ptr 6 0 0 0),(10,(ii ((picks.length+W*(2*tk+3*W+1):Nat)))),(11,(ii i))],[]⟩) (fun i a=>[.row 1 [[(ii ((((qdc tk W picks (m+i))).w0)))],[(ii ((((qdc tk W picks (m+i))).w1)))]] 0,.row 6 (a.2.1) a.2.2.1,.row 4 [[.sl 0 0 0 2 false,.fsl [] true,.sl 1 a.2.2.1 0 ((a.2.1)).length false,(ii 0)]] 0,.row 1 (((((qdc tk W picks (m+i))).st)).map wsR) gs,.row 1 (((a.1)).map qy) gt,.row 2 (((((qdc tk W picks (m+i))).pairs)).map prC) a.2.2.2,.row 7 [[.ptr 2 0 0 0,(ii tk),.sl 3 gs 0 (((qdc tk W picks (m+i))).st.length) false,.sl 4 gt 0 (((qdc tk W picks (m+i))).st.length) false,.sl 5 a.2.2.2 0 ((((qdc tk W picks (m+i))).pairs)).length false,(ii ((qgt ((qdc tk W picks (m+i))).st))),(ii ((m+i:Nat)))]] 0]) (fun i a=>TlOk (qdc tk W picks (m+i)).st a.1∧LogOk a.2.1∧a.2.1.length≤m+i) (n-m)
   (fun y => ∃(tl:List Int) (LG:List (List AV)) (gl gp:Nat),LogOk LG∧y.1 = .exit 2∧y.2.1.marks=[]∧y.2.2=[.row 1 [[(ii ((((qdc tk W picks n)).w0)))],[(ii ((((qdc tk W picks n)).w1)))]] 0,.row 6 LG gl,.row 4 [[.sl 0 0 0 2 false,.fsl [] true,.sl 1 gl 0 (LG).length false,(ii 0)]] 0,.row 1 (((((qdc tk W picks n)).st)).map wsR) gs,.row 1 ((tl).map qy) gt,.row 2 (((((qdc tk W picks n)).pairs)).map prC) gp,.row 7 [[.ptr 2 0 0 0,(ii tk),.sl 3 gs 0 (((qdc tk W picks n)).st.length) false,.sl 4 gt 0 (((qdc tk W picks n)).st.length) false,.sl 5 gp 0 ((((qdc tk W picks n)).pairs)).length false,(ii ((qgt ((qdc tk W picks n)).st))),(ii n)]] 0]∧wp y.2.1.vars 8=some (.ptr 6 0 0 0)) ?_ ?_ 0 (tl,LG,gl,gp) (wG _) ⟨htl,hlo,hll⟩
  ·exact key
  ·rintro i ⟨tl,LG,gl,gp⟩ hi ⟨htl,hlo,hll⟩
   simp only at hlo hll htl⊢
   have hmp:m=picks.length:=by omega
   have I:=q06 (T:=tk) (picks:=picks) h1 (m+i)
   have hlt:=hn.first (m+i) (by omega)
   obtain⟨tl',LG',gl',gp',a0,a1,a2,a3⟩:=qag6 (qdc tk W picks (m+i)) tk W I (by omega) (by omega) (qfc picks W (m+i)) (hpk (m+i)) tl htl LG gl gs gt gp (m+i) hlo (by omega) (by omega)
   have hw:IntKind.i64.wrap ((i:Int)+1)=((i+1:Nat):Int):=by rw[qi (by omega) (by omega)];simp
   have hlf:((qgt (qdc tk W picks (m+i)).st:Nat):Int)>0:=by omega
   have hnm:((m+i:Nat):Int)<((picks.length+W*(2*tk+3*W+1):Nat):Int):=by omega
   have lo1:=a1.lo 7
   refine .inl ⟨(tl',LG',gl',gp'),?_,a0,a1,by simp only;omega⟩
   simp only
   change _=some (Sum.inl (_,([.row 1 [[(ii (((((qdc tk W picks (m+i)).step tk (qfc picks W (m+i)))).w0)))],[(ii (((((qdc tk W picks (m+i)).step tk (qfc picks W (m+i)))).w1)))]] 0,.row 6 LG' gl',.row 4 [[.sl 0 0 0 2 false,.fsl [] true,.sl 1 gl' 0 (LG').length false,(ii 0)]] 0,.row 1 ((((((qdc tk W picks (m+i)).step tk (qfc picks W (m+i)))).st)).map wsR) gs,.row 1 ((tl').map qy) gt,.row 2 ((((((qdc tk W picks (m+i)).step tk (qfc picks W (m+i)))).pairs)).map prC) gp',.row 7 [[.ptr 2 0 0 0,(ii tk),.sl 3 gs 0 ((((qdc tk W picks (m+i)).step tk (qfc picks W (m+i)))).st.length) false,.sl 4 gt 0 ((((qdc tk W picks (m+i)).step tk (qfc picks W (m+i)))).st.length) false,.sl 5 gp' 0 (((((qdc tk W picks (m+i)).step tk (qfc picks W (m+i)))).pairs)).length false,(ii ((qgt (((qdc tk W picks (m+i)).step tk (qfc picks W (m+i)))).st))),(ii ((m+i+1:Nat)))]] 0]:qj)))
   have hW0:¬(W:Int)=0:=by omega
   have hm:((i:Nat):Int).tmod (W:Int)=((qfc picks W (m+i):Nat):Int):=by
    unfold qfc
    rw[if_neg (by omega),wU (by omega),show m+i-picks.length=i by omega];rfl
   generalize picks.length+W*(2*tk+3*W+1)=most at *
   generalize m+i=mi at *
   simp only[qlg,hlf,hnm,hW0,hm,a3,hw,lo1,qnv,qea,qg,wq,qb,wy,zgy,↓qc,↓wh,we,wx]
  ·rintro⟨tl,LG,gl,gp⟩ ⟨htl,hlo,hll⟩
   rw[show m+(n-m)=n by omega]at *
   simp only at hlo hll htl⊢
   have hs:=hn.stop
   have hs':¬((qgt (qdc tk W picks n).st:Nat):Int)>0:=by omega
   simp only[qlg,hs',wq,qb,zgy,↓qc,↓wh,we]
   exact⟨_,rfl,tl,LG,gl,gp,hlo,rfl,rfl,rfl,rfl⟩
 obtain⟨⟨y2,e2,σ2⟩,q1,tl2,LG2,gl2,gp2,hlo2,q2,q3,q4,q5⟩:=hL2
 simp only[wB,Nat.add_zero]at q1 q2 q3 q4 q5
 subst q2;subst q4
 have hv:=qahx tk W ht h1 h2
 have hB:=qaoe tk W ht h1 h2
 have e0:qdc tk W picks 0=Pool.start W:=rfl
 have l0:qgt (wc W WS.claim)=W:=by unfold qgt;rw[List.countP_eq_length.2 (fun a ha=>by rw[wL ha];rfl),wO]
 rw[e0]at k1
 simp only[Pool.start,l0,wO,wB,wS,zgb]at k1
 have l1:=qnv 7 (wc W WS.claim)
 have l2:=qg 7 (wc W (0:Int))
 have s1:qhj 0 ((wc W WS.claim).map wsR)=(wc W WS.claim).map wsR:=qle 0 _ (qnv 0 _)
 have s2:qhj 0 ((wc W (0:Int)).map qy)=(wc W (0:Int)).map qy:=qle 0 _ (qg 0 _)
 have tk1:wD ((qdc tk W picks n).pairs.length) ((qdc tk W picks n).pairs.map prC)=(qdc tk W picks n).pairs.map prC:=ztl (by simp)
 have hle : ∀m:Nat,m≤m:=fun m=>wH m
 have wm:IntKind.i64.wrap ((picks.length:Int)+((W*(2*tk+3*W+1):Nat):Int))=((picks.length+W*(2*tk+3*W+1):Nat):Int):=by rw[qi (by omega) (by omega)];simp
 rw[qm,qd q8p q7a]
 generalize (wc W WS.claim).map wsR=R1 at *
 generalize (wc W (0:Int)).map qy=R2 at *
 generalize picks.length+W*(2*tk+3*W+1)=most at *
 generalize W*(2*tk+3*W+1)=bnd at *
 have lo2:=hlo2.lo
 simp only[qrc,hv,hB,hN,k1,k3,k5,k6,k7,k8,q1,q3,q5,l1,l2,s1,s2,tk1,hle,wm,hll2,AV.shift,qhy,qhj,wS,zgi,zgb,qnv,qea,hlo.lo,qg,wq,q3y,qb,qk,wy,zgy,↓qc,↓qq,↓wh,wg,we,wx,wi]
set_option maxRecDepth 10000
section
variable {c:Cfg} {s:Sim} {h:List Evt} {f hor:Int}
theorem StF.all (F:StF c s h (qhe c s)) {i:Nat} (hi:i<c.lps.length) :
  qm (evL T) qnh [(.agg [(.fsl ((c.lps).map lpC) false),(.fsl ((c.progs).map qau) false),(ii c.look),(ii c.fin),(ii c.cap)]),(.agg [(ii ((qn1 s i).r0)),(ii ((qn1 s i).r1)),(.fsl (((qn1 s i).procs).map Pr.r) (flag c i)),(ii ((qn1 s i).sum))]),(.fsl (((sortL (qao s.pend i))).map Evt.r) false),(ii hor)]=some (.agg [(ii ((wAt c s hor i).lp.r0)),(ii ((wAt c s hor i).lp.r1)),(.fsl (((wAt c s hor i).lp.procs).map Pr.r) (flag c i)),(ii ((wAt c s hor i).lp.sum)),(.fsl (((wAt c s hor i).box).map Evt.r) false),(.fsl (((wAt c s hor i).done).map Evt.r) false),(.fsl (((wAt c s hor i).sent).map Evt.r) false),(bb ((wAt c s hor i).over))]):=by
 obtain⟨h1,h2⟩:=F.flagAt hi
 unfold wAt
 exact RAll_ev hor (f:=flag c i) (cb:=false) (F.winv hi h1) h2 (by have:=F.len;omega)
set_option maxHeartbeats 1000000 in
theorem rwin_L (F:StF c s h (qhe c s)) (P:List (Nat×Nat)) (hP:(qim P).Perm (List.range c.lps.length)) (cp b1 b2:Bool) (fl:List Int) (pl:List (List (Nat×Nat))) :
  ∃y,itB (exec (evL T) itL none qi3) (qu [2,5,6,10,11,12,14,15,16,17,18] true 6) ⟨[(2,(ii f)),(5,(.fptr [(.fsl ((c.lps).map lpC) false),(.fsl ((c.progs).map qau) false),(ii c.look),(ii c.fin),(ii c.cap)])),(6,.ptr 0 0 0 0),(10,.ptr 1 0 0 0),(11,(ii hor)),(12,.fsl (P.map prC) cp),(14,.sl 2 0 0 c.lps.length false),(15,.sl 3 0 0 c.lps.length false),(16,.sl 4 0 0 c.lps.length false),(17,.sl 5 0 0 c.lps.length true),(18,(ii ((0:Nat))))],[]⟩ [.row 6 [[(.fsl (((s).trace).map qf) false),(.fsl (((qhe c s)).map lpF) false),(.fsl (((qab (c).lps.length (s).pend)).map qf) false),(.fsl ((fl).map qy) b1),(.fsl ((pl).map plC) b2),(bb (((s.over||(([]:List Nat)).any (fun i=>(wAt c s hor i).over)))))]] 0,.row 6 [[.fsl [] false,.fsl [] false,.fsl [] false,.fsl [] false,.fsl [] false,.v (.bool false)]] 0,.row 1 (qof c.lps.length ([]:List Nat) (fun i=>qf (wAt c s hor i).box) (fun i=>qf (sortL (qao s.pend i)))) 0,.row 4 (qof c.lps.length ([]:List Nat) (fun i=>lpF ((wAt c s hor i).lp,flag c i)) (fun i:Nat=>lpF (qn1 s i,flag c i))) 0,.row 1 (qof c.lps.length ([]:List Nat) (fun i:Nat=>qf (qjx s i++(wAt c s hor i).done)) (fun i:Nat=>qf (qjx s i))) 0,.row 1 (qof c.lps.length ([]:List Nat) (fun i=>qf (wAt c s hor i).sent) (fun _=>qf [])) 0]=some y ∧
   (y.1 = .exit 0∧y.2.1.marks=[]∧y.2.2=[.row 6 [[(.fsl (((s).trace).map qf) false),(.fsl (((qhe c s)).map lpF) false),(.fsl (((qab (c).lps.length (s).pend)).map qf) false),(.fsl ((fl).map qy) b1),(.fsl ((pl).map plC) b2),(bb (((s.over||((qim P)).any (fun i=>(wAt c s hor i).over)))))]] 0,.row 6 [[.fsl [] false,.fsl [] false,.fsl [] false,.fsl [] false,.fsl [] false,.v (.bool false)]] 0,.row 1 (qof c.lps.length (qim P) (fun i=>qf (wAt c s hor i).box) (fun i=>qf (sortL (qao s.pend i)))) 0,.row 4 (qof c.lps.length (qim P) (fun i=>lpF ((wAt c s hor i).lp,flag c i)) (fun i:Nat=>lpF (qn1 s i,flag c i))) 0,.row 1 (qof c.lps.length (qim P) (fun i:Nat=>qf (qjx s i++(wAt c s hor i).done)) (fun i:Nat=>qf (qjx s i))) 0,.row 1 (qof c.lps.length (qim P) (fun i=>qf (wAt c s hor i).sent) (fun _=>qf [])) 0]∧wp y.2.1.vars 2=some (ii f)∧wp y.2.1.vars 6=some (.ptr 0 0 0 0)∧wp y.2.1.vars 10=some (.ptr 1 0 0 0)∧wp y.2.1.vars 12=some (.fsl (P.map prC) cp)∧wp y.2.1.vars 14=some (.sl 2 0 0 c.lps.length false)∧wp y.2.1.vars 15=some (.sl 3 0 0 c.lps.length false)∧wp y.2.1.vars 16=some (.sl 4 0 0 c.lps.length false)∧wp y.2.1.vars 17=some (.sl 5 0 0 c.lps.length true)):=by
 have hv8:=F.inv.valid.lps.2
 have hpl:P.length=c.lps.length:=by have:=hP.length_eq;simp[qim]at this;exact this
 have key:=qcq (f:=exec (evL T) itL none qi3) (s:=qu [2,5,6,10,11,12,14,15,16,17,18] true 6) (α:=Unit)
  (fun k _=>⟨[(2,(ii f)),(5,(.fptr [(.fsl ((c.lps).map lpC) false),(.fsl ((c.progs).map qau) false),(ii c.look),(ii c.fin),(ii c.cap)])),(6,.ptr 0 0 0 0),(10,.ptr 1 0 0 0),(11,(ii hor)),(12,.fsl (P.map prC) cp),(14,.sl 2 0 0 c.lps.length false),(15,.sl 3 0 0 c.lps.length false),(16,.sl 4 0 0 c.lps.length false),(17,.sl 5 0 0 c.lps.length true),(18,(ii k))],[]⟩) (fun k _=>[.row 6 [[(.fsl (((s).trace).map qf) false),(.fsl (((qhe c s)).map lpF) false),(.fsl (((qab (c).lps.length (s).pend)).map qf) false),(.fsl ((fl).map qy) b1),(.fsl ((pl).map plC) b2),(bb (((s.over||((qim (P.take k))).any (fun i=>(wAt c s hor i).over)))))]] 0,.row 6 [[.fsl [] false,.fsl [] false,.fsl [] false,.fsl [] false,.fsl [] false,.v (.bool false)]] 0,.row 1 (qof c.lps.length (qim (P.take k)) (fun i=>qf (wAt c s hor i).box) (fun i=>qf (sortL (qao s.pend i)))) 0,.row 4 (qof c.lps.length (qim (P.take k)) (fun i=>lpF ((wAt c s hor i).lp,flag c i)) (fun i:Nat=>lpF (qn1 s i,flag c i))) 0,.row 1 (qof c.lps.length (qim (P.take k)) (fun i:Nat=>qf (qjx s i++(wAt c s hor i).done)) (fun i:Nat=>qf (qjx s i))) 0,.row 1 (qof c.lps.length (qim (P.take k)) (fun i=>qf (wAt c s hor i).sent) (fun _=>qf [])) 0]) (fun _ _=>True) P.length
  (fun y=>y.1 = .exit 0∧y.2.1.marks=[]∧y.2.2=[.row 6 [[(.fsl (((s).trace).map qf) false),(.fsl (((qhe c s)).map lpF) false),(.fsl (((qab (c).lps.length (s).pend)).map qf) false),(.fsl ((fl).map qy) b1),(.fsl ((pl).map plC) b2),(bb (((s.over||((qim P)).any (fun i=>(wAt c s hor i).over)))))]] 0,.row 6 [[.fsl [] false,.fsl [] false,.fsl [] false,.fsl [] false,.fsl [] false,.v (.bool false)]] 0,.row 1 (qof c.lps.length (qim P) (fun i=>qf (wAt c s hor i).box) (fun i=>qf (sortL (qao s.pend i)))) 0,.row 4 (qof c.lps.length (qim P) (fun i=>lpF ((wAt c s hor i).lp,flag c i)) (fun i:Nat=>lpF (qn1 s i,flag c i))) 0,.row 1 (qof c.lps.length (qim P) (fun i:Nat=>qf (qjx s i++(wAt c s hor i).done)) (fun i:Nat=>qf (qjx s i))) 0,.row 1 (qof c.lps.length (qim P) (fun i=>qf (wAt c s hor i).sent) (fun _=>qf [])) 0]∧wp y.2.1.vars 2=some (ii f)∧wp y.2.1.vars 6=some (.ptr 0 0 0 0)∧wp y.2.1.vars 10=some (.ptr 1 0 0 0)∧wp y.2.1.vars 12=some (.fsl (P.map prC) cp)∧wp y.2.1.vars 14=some (.sl 2 0 0 c.lps.length false)∧wp y.2.1.vars 15=some (.sl 3 0 0 c.lps.length false)∧wp y.2.1.vars 16=some (.sl 4 0 0 c.lps.length false)∧wp y.2.1.vars 17=some (.sl 5 0 0 c.lps.length true)) ?_ ?_ 0 () (wG _) trivial
 ·exact key
 ·rintro k _ hk _
  obtain⟨⟨i,wk⟩,hi⟩ : ∃x,P[k]? = some x:=⟨_,zgE hk⟩
  have him:i∈qim P:=List.mem_map.2 ⟨_,zmg hi,rfl⟩
  have hin:i<c.lps.length:=List.mem_range.1 (hP.mem_iff.1 him)
  have hnd:(qim P).Nodup:=hP.nodup_iff.2 List.nodup_range
  have hnx:qim (P.take (k+1))=qim (P.take k)++[i]:=by unfold qim;rw[wT,hi,wP];rfl
  have hni:i∉qim (P.take k):=by
   have hs:(qim (P.take (k+1))).Nodup:=hnd.sublist (by unfold qim;exact(List.take_sublist _ _).map _)
   rw[hnx,List.nodup_append]at hs
   exact fun hm=>hs.2.2 i hm i (by simp) rfl
  have hpr:=F.all (hor:=hor) hin
  have hk':(k:Int)<(P.length:Int):=by omega
  have hw:IntKind.i64.wrap ((k:Int)+1)=((k+1:Nat):Int):=by rw[qi (by omega) (by omega)];simp
  have hgp:(P.map prC)[k]? = some [(ii i),(ii wk)]:=by rw[wu,hi];rfl
  have hpm:(P.map prC).length=P.length:=wn ..
  have hgl:((qhe c s).map lpF)[i]? = some (lpF (qn1 s i,flag c i)):=by rw[wu];unfold qhe;rw[wu,List.getElem?_range hin];rfl
  have hgb:((qab c.lps.length s.pend).map qf)[i]? = some (qf (sortL (qao s.pend i))):=by rw[wu,qah7 _ _ hin];rfl
  have hgt:((qof c.lps.length (qim (P.take k)) (fun i:Nat=>qf (qjx s i++(wAt c s hor i).done)) (fun i:Nat=>qf (qjx s i))))[i]? = some (qf (qjx s i)):=by rw[qrj _ _ _ _ hin,if_neg hni]
  have hg2:((qof c.lps.length (qim (P.take k)) (fun i=>lpF ((wAt c s hor i).lp,flag c i)) (fun i:Nat=>lpF (qn1 s i,flag c i))))[i]? = some (lpF (qn1 s i,flag c i)):=by rw[qrj _ _ _ _ hin,if_neg hni]
  have hg3:((qof c.lps.length (qim (P.take k)) (fun i=>qf (wAt c s hor i).box) (fun i=>qf (sortL (qao s.pend i)))))[i]? = some (qf (sortL (qao s.pend i))):=by rw[qrj _ _ _ _ hin,if_neg hni]
  have hg4:((qof c.lps.length (qim (P.take k)) (fun i=>qf (wAt c s hor i).sent) (fun _=>qf [])))[i]? = some (qf []):=by rw[qrj _ _ _ _ hin,if_neg hni]
  have st1:=qve c.lps.length (qim (P.take k)) (fun i:Nat=>qf (qjx s i++(wAt c s hor i).done)) (fun i:Nat=>qf (qjx s i)) hin
  have st2:=qve c.lps.length (qim (P.take k)) (fun i:Nat=>lpF ((wAt c s hor i).lp,flag c i)) (fun i:Nat=>lpF (qn1 s i,flag c i)) hin
  have st3:=qve c.lps.length (qim (P.take k)) (fun i:Nat=>qf (wAt c s hor i).box) (fun i:Nat=>qf (sortL (qao s.pend i))) hin
  have st4:=qve c.lps.length (qim (P.take k)) (fun i:Nat=>qf (wAt c s hor i).sent) (fun _=>qf []) hin
  have lo1:=qqd 6 c.lps.length (qim (P.take k)++[i]) (fun i:Nat=>qf (qjx s i++(wAt c s hor i).done)) (fun i:Nat=>qf (qjx s i)) (fun _=>qmi _ _) (fun _=>qmi _ _)
  have lo2:=qqd 6 c.lps.length (qim (P.take k)++[i]) (fun i:Nat=>lpF ((wAt c s hor i).lp,flag c i)) (fun i:Nat=>lpF (qn1 s i,flag c i)) (fun _=>qaig _ _) (fun _=>qaig _ _)
  have lo3:=qqd 6 c.lps.length (qim (P.take k)++[i]) (fun i:Nat=>qf (wAt c s hor i).box) (fun i:Nat=>qf (sortL (qao s.pend i))) (fun _=>qmi _ _) (fun _=>qmi _ _)
  have lo4:=qqd 6 c.lps.length (qim (P.take k)++[i]) (fun i:Nat=>qf (wAt c s hor i).sent) (fun _=>qf []) (fun _=>qmi _ _) (fun _=>qmi _ _)
  have l1:=qqf c.lps.length (qim (P.take k)) (fun i:Nat=>qf (qjx s i++(wAt c s hor i).done)) (fun i:Nat=>qf (qjx s i))
  have l2:=qqf c.lps.length (qim (P.take k)) (fun i:Nat=>lpF ((wAt c s hor i).lp,flag c i)) (fun i:Nat=>lpF (qn1 s i,flag c i))
  have l3:=qqf c.lps.length (qim (P.take k)) (fun i:Nat=>qf (wAt c s hor i).box) (fun i:Nat=>qf (sortL (qao s.pend i)))
  have l4:=qqf c.lps.length (qim (P.take k)) (fun i:Nat=>qf (wAt c s hor i).sent) (fun _=>qf [])
  have htl:(qjx s i).length≤30:=by
   have:qjx s i=qao h i:=by unfold qjx;rw[Int.toNat_natCast,F.inv.tr i hin];rfl
   rw[this];have:=List.length_filter_le (fun e:Evt=>decide (e.lp=i)) h;have:=F.len;unfold qao;omega
  have hdl:(wAt c s hor i).done.length≤2000:=by obtain⟨_,es,_,hd,hel⟩:=F.wAt_inv hor hin;rw[hd];exact hel
  refine .inl ⟨(),?_,trivial⟩
  rw[hnx,List.any_append,←Bool.or_assoc,List.any_cons,List.any_nil,Bool.or_false]
  rw[←st1]at lo1⊢
  rw[←st2]at lo2⊢
  rw[←st3]at lo3⊢
  rw[←st4]at lo4⊢
  have lob : ∀n,qb4 n ((sortL (qao s.pend i)).map Evt.r)=true:=fun n=>qh _ _
  have lot : ∀n,qb4 n ((qjx s i).map Evt.r)=true:=fun n=>qh _ _
  have loT:=qan 6 s.trace
  have loB:=qan 6 (qab c.lps.length s.pend)
  have loL:=qhl 6 (qhe c s)
  have loP:=qea 6 P
  have loF:=qg 6 fl
  have loQ:=qoe 6 pl
  clear st1 st2 st3 st4 hni hnd him hi hnx
  generalize (s.over||(qim (P.take k)).any (fun i=>(wAt c s hor i).over))=OV at *
  generalize (qof c.lps.length (qim (P.take k)) (fun i:Nat=>qf (qjx s i++(wAt c s hor i).done)) (fun i:Nat=>qf (qjx s i)))=X1 at *
  generalize (qof c.lps.length (qim (P.take k)) (fun i=>lpF ((wAt c s hor i).lp,flag c i)) (fun i:Nat=>lpF (qn1 s i,flag c i)))=X2 at *
  generalize (qof c.lps.length (qim (P.take k)) (fun i=>qf (wAt c s hor i).box) (fun i=>qf (sortL (qao s.pend i))))=X3 at *
  generalize (qof c.lps.length (qim (P.take k)) (fun i=>qf (wAt c s hor i).sent) (fun _=>qf []))=X4 at *
  generalize s.trace.map qf=TM at *
  generalize (qab c.lps.length s.pend).map qf=BM at *
  generalize (qhe c s).map lpF=LM at *
  generalize fl.map qy=FM at *
  generalize pl.map plC=QM at *
  generalize sortL (qao s.pend i)=bi at *
  generalize wAt c s hor i=w at *
  generalize hlp:qn1 s i=lpi at *
  generalize hfg:flag c i=fg at *
  simp only[lpF]at hgl hg2 lo2⊢
  simp only[qf]at hgb hgt hg3 hg4 lo1 lo3 lo4⊢
  obtain⟨wlp,wb,wd,ws,wo⟩:=w
  simp only at hpr hdl lo1 lo2 lo3 lo4⊢
  have hmap:(qjx s i++wd).map Evt.r=(qjx s i).map Evt.r++wd.map Evt.r:=wP
  have ok0:=qgi (qjx s i)
  have ok1:=qgi (qjx s i++wd)
  have loA : ∀n,qb4 n ((qjx s i).map Evt.r++wd.map Evt.r)=true:=fun n=>by rw[←hmap];exact qh _ _
  have okd:=qgi wd
  have bb1:(qjx s i).length*64≤140737488355328:=by omega
  have bb2:((qjx s i).length+wd.length)*64≤140737488355328:=by omega
  have z1:((qjx s i).map Evt.r).length=(qjx s i).length:=wn ..
  have z2:(wd.map Evt.r).length=wd.length:=wn ..
  have z3:((qjx s i).map Evt.r++wd.map Evt.r).length=(qjx s i).length+wd.length:=by simp
  have z4:wD (qjx s i).length ((qjx s i).map Evt.r)=(qjx s i).map Evt.r:=ztl (by omega)
  have z5:wD ((qjx s i).length+wd.length) ((qjx s i).map Evt.r++wd.map Evt.r)=(qjx s i).map Evt.r++wd.map Evt.r:=ztl (by omega)
  have hle : ∀n:Nat,n≤n:=fun n=>wH n
  rw[hmap]at lo1 ok1⊢
  have hr0 : ∀x:List AV,wc 0 x=[]:=fun _=>rfl
  by_cases hwd:wd.map Evt.r=[]
  ·have hwd0:wd.length=0:=by rw[←z2,hwd];rfl
   rw[hwd,List.append_nil]at lo1⊢
   cases OV <;>
   simp only[qi3,hr0,hk',hw,hgp,hpm,hgl,hgb,hgt,hg2,hg3,hg4,hpr,hwd,lo1,lo2,lo3,lo4,hin,lob,loT,loB,loL,loP,loF,loQ,ok0,bb1,z1,z4,hle,Nat.zero_mul,wG,zgn,zgs,zgr,qax,qv,qr,wq,wF,qqk,q6c,qb,qaw,wj,wE,wl,wy,ne_eq,zgy,↓qc,↓wh,wg,we,wx,wr,wC,Int.reduceLE,wW]
  ·cases OV <;>
   simp only[qi3,hr0,hk',hw,hgp,hpm,hgl,hgb,hgt,hg2,hg3,hg4,hpr,hwd,lo1,lo2,lo3,lo4,hin,lob,loT,loB,loL,loP,loF,loQ,ok0,okd,bb1,bb2,z1,z2,z3,z4,z5,hle,Nat.zero_mul,wG,zgs,zgr,qax,qv,qr,wq,wF,qqk,q6c,qb,qaw,wj,wE,wl,wy,ne_eq,zgy,↓qc,↓wh,wg,we,wx,wr,wC,Int.reduceLE,wW]
 ·rintro _ _
  rw[wN]
  have hpm:(P.map prC).length=P.length:=wn ..
  simp only[qi3,hpm,wI,wq,zgy,↓qc,↓wh,we]
  exact⟨_,rfl,rfl,rfl,rfl,rfl,rfl,rfl,rfl,rfl,rfl,rfl,rfl⟩
end
set_option maxRecDepth 10000
section
variable {c:Cfg} {s:Sim} {h:List Evt} {f:Int}
theorem StF.rdeliver (F:StF c s h (qhe c s)) (hor:Int) (c1 c2:Bool):qm (evL T) qhu [(.fsl (((qcy c s hor c.lps.length)).map qf) c1),(.fsl (((qe1 c s hor c.lps.length)).map qf) c2)]=some (.fsl (((qab c.lps.length (qha c s hor).pend)).map qf) false):=by
 have W:=F.winF hor
 have hv8:=F.inv.valid.lps
 have hwf:=W.len
 have:=qaj0 (qcy c s hor c.lps.length) (qe1 c s hor c.lps.length) c2 c1 (by simp[qcy];omega) (by simp[qcy];omega) (by simp[qe1];omega) (by omega) W.kok (F.lefts_sorted hor) (W.dist _ (.refl _)) (fun e he=>by
   have:=W.rng e (wz _ he)
   simpa[qcy]using this)
 rw[q4c hor (F.lefts_own hor) W.keys.dist]at this
 exact this
set_option maxHeartbeats 1000000 in
theorem qalk (F:StF c s h (qhe c s)) (hl8:c.look≤8) (hf:0≤f∧f≤1152921504606846976) {W:Nat} {picks:List Nat} {n:Nat} (cp:Bool) (hW:1≤W∧W≤64) (hp : ∀x∈picks,x<W) (hpl:picks.length≤1000) (hn:Fin c.lps.length W picks n) (f1 f2:Bool) (fl:List Int) (pl:List (List (Nat×Nat))) (h1:fl.length≤1000) (h2:pl.length≤1000) :
  qm (evL T) qkw [(.agg [(.fsl ((c.lps).map lpC) false),(.fsl ((c.progs).map qau) false),(ii c.look),(ii c.fin),(ii c.cap)]),.agg [(.fsl (((s).trace).map qf) false),(.fsl (((qhe c s)).map lpF) false),(.fsl (((qab (c).lps.length (s).pend)).map qf) false),(.fsl ((fl).map qy) f1),(.fsl ((pl).map plC) f2),(bb ((s).over))],(ii f),(ii W),(.fsl (((qqj picks)).map qy) cp)]=some (.agg [(.fsl ((((qha c s (q99 c f))).trace).map qf) false),(.fsl (((qhe c (qha c s (q99 c f)))).map lpF) false),(.fsl (((qab (c).lps.length ((qha c s (q99 c f))).pend)).map qf) false),(.fsl (((fl++[f])).map qy) false),(.fsl (((pl++[(qdc c.lps.length W picks n).pairs])).map plC) false),(bb (((qha c s (q99 c f))).over))]):=by
 have hv:=F.inv.valid
 have hv8:=hv.lps.2
 have hlk:=hv.look
 have hv1:=hv.lps.1
 have hfin:=hv.fin
 have hHz:qm (evL T) qht [(.agg [(.fsl ((c.lps).map lpC) false),(.fsl ((c.progs).map qau) false),(ii c.look),(ii c.fin),(ii c.cap)]),(ii f)]=some (ii ((q99 c f))):=by unfold q99;exact qait c f hf (by omega) hfin
 have hFi:=qama c.lps.length W picks cp n (by omega) hW.1 hW.2 hp hpl hn
 have hP:=hn.perm hW.1
 change (qim (qdc c.lps.length W picks n).pairs).Perm _ at hP
 generalize (qdc c.lps.length W picks n).pairs=P at *
 generalize hhor:q99 c f=hor at *
 have hpl:P.length=c.lps.length:=by have:=hP.length_eq;simp[qim]at this;exact this
 obtain⟨⟨y,e,σ⟩,k1,k2,k3,k4,k5,k6,k7,k8,k9,k10,k11,k12⟩:=rwin_L (f:=f) (hor:=hor) F P hP false f1 f2 fl pl
 simp only at k1 k2 k3 k4 k5 k6 k7 k8 k9 k10 k11 k12
 subst k2;subst k4
 have e1:=F.trace_eq
 have hD:=F.rdeliver hor false false
 have hall : ∀i,i<c.lps.length→i∈qim P:=fun i hi=>hP.mem_iff.2 (List.mem_range.2 hi)
 have m1:qof c.lps.length ([]:List Nat) (fun i:Nat=>qf (qjx s i++(wAt c s hor i).done)) (fun i:Nat=>qf (qjx s i))=s.trace.map qf:=by rw[qvf,e1,List.map_map];rfl
 have m2:qof c.lps.length ([]:List Nat) (fun i:Nat=>lpF ((wAt c s hor i).lp,flag c i)) (fun i:Nat=>lpF (qn1 s i,flag c i))=(qhe c s).map lpF:=by rw[qvf];unfold qhe;rw[List.map_map];rfl
 have m3:qof c.lps.length ([]:List Nat) (fun i:Nat=>qf (wAt c s hor i).box) (fun i:Nat=>qf (sortL (qao s.pend i)))=(qab c.lps.length s.pend).map qf:=by rw[qvf,qaeh]
 have m4:qof c.lps.length ([]:List Nat) (fun i:Nat=>qf (wAt c s hor i).sent) (fun _=>qf [])=wc c.lps.length [.fsl [] false]:=by
  rw[qvf];refine List.ext_getElem (by simp) (fun i h1 h2 => ?_)
  simp[qf]
 rw[m1,m2,m3,m4]at k1
 rw[qu3 _ _ _ _ hall,qu3 _ _ _ _ hall,qu3 _ _ _ _ hall,qu3 _ _ _ _ hall,←next_over hor P hP,←qaep,←qahq]at k1
 have m5:((List.range c.lps.length).map fun i:Nat=>qf (wAt c s hor i).box)=(qcy c s hor c.lps.length).map qf:=by unfold qcy;rw[List.map_map];rfl
 have m6:((List.range c.lps.length).map fun i:Nat=>qf (wAt c s hor i).sent)=(qe1 c s hor c.lps.length).map qf:=by unfold qe1;rw[List.map_map];rfl
 rw[m5,m6]at k1
 simp only[List.any_nil,Bool.or_false,wB]at k1
 have tl:(s.trace.map qf).length=c.lps.length:=by rw[wn];exact F.inv.trl
 have ll:((qhe c s).map lpF).length=c.lps.length:=by rw[wn];exact F.lL
 have bl:((qab c.lps.length s.pend).map qf).length=c.lps.length:=by simp[qab]
 have okT:=qaaj s.trace
 have okL:=qaow (qhe c s)
 have okB:=qaaj (qab c.lps.length s.pend)
 have lo1 : ∀n,qb4 n (s.trace.map qf)=true:=fun n=>qan _ _
 have lo2 : ∀n,qb4 n ((qhe c s).map lpF)=true:=fun n=>qhl _ _
 have lo3 : ∀n,qb4 n ((qab c.lps.length s.pend).map qf)=true:=fun n=>qan _ _
 have lr:qb4 6 (wc c.lps.length [.fsl [] false])=true:=qfe _ _ _ rfl
 have lo4 : ∀n,qb4 n ((qcy c s hor c.lps.length).map qf)=true:=fun n=>qan _ _
 have lo5 : ∀n,qb4 n ((qe1 c s hor c.lps.length).map qf)=true:=fun n=>qan _ _
 have lo6 : ∀n,qb4 n ((qha c s hor).trace.map qf)=true:=fun n=>qan _ _
 have lo7 : ∀n,qb4 n ((qhe c (qha c s hor)).map lpF)=true:=fun n=>qhl _ _
 have lo8 : ∀n,qb4 n ((qab c.lps.length (qha c s hor).pend).map qf)=true:=fun n=>qan _ _
 have q1:((qcy c s hor c.lps.length).map qf).length=c.lps.length:=by simp[qcy]
 have q2:((qe1 c s hor c.lps.length).map qf).length=c.lps.length:=by simp[qe1]
 have q3:((qha c s hor).trace.map qf).length=c.lps.length:=by simp[qha]
 have q4:((qhe c (qha c s hor)).map lpF).length=c.lps.length:=by simp[qhe]
 have t1:wD c.lps.length ((qcy c s hor c.lps.length).map qf)=(qcy c s hor c.lps.length).map qf:=ztl (by omega)
 have t2:wD c.lps.length ((qe1 c s hor c.lps.length).map qf)=(qe1 c s hor c.lps.length).map qf:=ztl (by omega)
 have t3:wD c.lps.length ((qha c s hor).trace.map qf)=(qha c s hor).trace.map qf:=ztl (by omega)
 have t4:wD c.lps.length ((qhe c (qha c s hor)).map lpF)=(qhe c (qha c s hor)).map lpF:=ztl (by omega)
 have hfa:(fl++[f]).map qy=fl.map qy++[[(ii f)]]:=by rw[wP];rfl
 have hpa:(pl++[P]).map plC=pl.map plC++[[.fsl (P.map prC) false]]:=by rw[wP];rfl
 have ok1:qbs 1 (fl.map qy)=true:=qaar _
 have ok2:qbs 1 (pl.map plC)=true:=qane _
 have la1 : ∀n,qb4 n (fl.map qy++[[(ii f)]])=true:=fun n=>by rw[←hfa];exact qg _ _
 have la2 : ∀n,qb4 n (pl.map plC++[[.fsl (P.map prC) false]])=true:=fun n=>by rw[←hpa];exact qoe _ _
 have b1:(fl.length+1)*8≤140737488355328:=by omega
 have b1':fl.length*8≤140737488355328:=by omega
 have b2:(pl.length+1)*24≤140737488355328:=by omega
 have b2':pl.length*24≤140737488355328:=by omega
 have b3:24*(c.lps.length:Int)≤140737488355328:=by omega
 have b4:(c.lps.length:Int)≤4611686018427387904:=by omega
 have b5:c.lps.length*24≤140737488355328:=by omega
 have b6:c.lps.length*48≤140737488355328:=by omega
 have hpm:(P.map prC).length=P.length:=wn ..
 have lp : ∀n,qb4 n (P.map prC)=true:=fun n=>qea n P
 have sz1:(fl.map qy).length=fl.length:=wn ..
 have sz2:(pl.map plC).length=pl.length:=wn ..
 have sz1':(fl.map qy++[([(ii f)]:List AV)]).length=fl.length+1:=by simp
 have sz2':(pl.map plC++[([.fsl (P.map prC) false]:List AV)]).length=pl.length+1:=by simp
 have tk1:wD fl.length (fl.map qy)=fl.map qy:=ztl (by omega)
 have tk2:wD pl.length (pl.map plC)=pl.map plC:=ztl (by omega)
 have tk1':wD (fl.length+1) (fl.map qy++[([(ii f)]:List AV)])=fl.map qy++[[(ii f)]]:=ztl (by omega)
 have tk2':wD (pl.length+1) (pl.map plC++[([.fsl (P.map prC) false]:List AV)])=pl.map plC++[[.fsl (P.map prC) false]]:=ztl (by omega)
 have li : ∀n,qb4 n (fl.map qy)=true:=fun n=>qg n fl
 have lq : ∀n,qb4 n (pl.map plC)=true:=fun n=>qoe n pl
 have hle : ∀m:Nat,m≤m:=fun m=>wH m
 have hlm:(c.lps.map lpC).length=c.lps.length:=wn ..
 have hr0 : ∀x:List AV,wc 0 x=[]:=fun _=>rfl
 rw[hfa,hpa]
 rw[qm,qd q8k q7j]
 clear m1 m2 m3 m4 m5 m6 e1 hfa hpa F hP hall
 generalize (qha c s hor).trace.map qf=NT at *
 generalize (qhe c (qha c s hor)).map lpF=NL at *
 generalize (qab c.lps.length (qha c s hor).pend).map qf=NB at *
 generalize (qha c s hor).over=NO at *
 generalize (qcy c s hor c.lps.length).map qf=LE at *
 generalize (qe1 c s hor c.lps.length).map qf=SE at *
 generalize s.trace.map qf=TM at *
 generalize (qab c.lps.length s.pend).map qf=BM at *
 generalize (qhe c s).map lpF=LM at *
 generalize fl.map qy=FM at *
 generalize pl.map plC=QM at *
 generalize s.over=OV at *
 simp only[qri,hr0,hHz,hFi,hD,k1,k3,k5,k6,k7,k8,k9,k10,k11,k12,tl,ll,bl,hlm,okT,okL,okB,lo1,lo2,lo3,lr,lo4,lo5,lo6,lo7,lo8,q1,q2,q3,q4,t1,t2,t3,t4,ok1,ok2,la1,la2,b1,b1',b2,b2',b3,b4,b5,b6,lp,sz1,sz2,sz1',sz2',tk1,tk2,tk1',tk2',li,lq,hle,Nat.zero_mul,wG,zgs,zgr,Int.le_refl,zfd,qg,qax,qv,wq,wF,qqk,qb,qaw,wj,wE,wl,qk,wy,ne_eq,zgy,↓qc,↓qq,↓wh,wg,we,wJ,wx,wr,wC,Int.reducePow,wi]
end
set_option maxRecDepth 10000
theorem qakh (xs:List (List Evt)) (cl:Bool) (hx:xs.length≤1000000) (hT:xs.flatten.length≤1000000):qm (evL T) qmd [(.fsl ((xs).map qf) cl)]=some (ii xs.flatten.length):=by
 have h:=q26 xs cl hx hT
 rw[qm,qd qaal q9i]
 simp only[qsn,h,qan,wq,qk,zgy,↓qc,↓wh,wi]
section
variable {c:Cfg} {W:Nat} {picks:List Nat} {lim n:Nat} (cp:Bool)
set_option maxHeartbeats 1000000 in
theorem rrun_L2 (I:RunIn c W picks lim n) {K:Nat} {er:Int} (hS:Stop c c.cap lim K er) :
  ∃y,itB (exec (evL T) itL none qc4) (qu [1,2,3,4,8,10,12] true 3) ⟨[(1,(ii W)),(2,(.fsl (((qqj picks)).map qy) cp)),(3,(ii lim)),(4,(.fptr [(.fsl ((c.lps).map lpC) false),(.fsl ((c.progs).map qau) false),(ii c.look),(ii c.fin),(ii c.cap)])),(8,.ptr 0 0 0 0),(10,.ptr 1 0 0 0),(12,(ii ((0:Nat))))],[]⟩ [.row 6 [[.fsl [] false,.fsl [] false,.fsl [] false,.fsl [] false,.fsl [] false,.v (.bool false)]] 0,.row 6 [[(.fsl ((((qbp c 0)).trace).map qf) false),(.fsl (((qhe c (qbp c 0))).map lpF) false),(.fsl (((qab (c).lps.length ((qbp c 0)).pend)).map qf) false),(.fsl (((qcb c 0)).map qy) (decide (0=0))),(.fsl (((wc 0 (qeh c W picks n))).map plC) (decide (0=0))),(bb (((qbp c 0)).over))]] 0,.dead]=some y ∧
   (y.1 = .ret∧y.2.1.marks=[]∧y.2.2=[.row 6 [[(.fsl ((((qbp c K)).trace).map qf) false),(.fsl (((qhe c (qbp c K))).map lpF) false),(.fsl (((qab (c).lps.length ((qbp c K)).pend)).map qf) false),(.fsl (((qcb c K)).map qy) (decide (K=0))),(.fsl (((wc K (qeh c W picks n))).map plC) (decide (K=0))),(bb (((qbp c K)).over))]] 0,.row 6 [[(.fsl ((((qbp c K)).trace).map qf) false),(.fsl (((qhe c (qbp c K))).map lpF) false),(.fsl (((qab (c).lps.length ((qbp c K)).pend)).map qf) false),(.fsl (((qcb c K)).map qy) (decide (K=0))),(.fsl (((wc K (qeh c W picks n))).map plC) (decide (K=0))),(bb (((qbp c K)).over))]] 0,.dead]∧wp y.2.1.vars 8=some (.ptr 0 0 0 0)∧wp y.2.1.vars 9=some (ii er)):=by
 have hv8:=I.v.lps
 have hK:=hS.le40 I.v I.n4 I.lim
 have key:=qcq (f:=exec (evL T) itL none qc4) (s:=qu [1,2,3,4,8,10,12] true 3) (α:=Unit)
  (fun k _=>⟨[(1,(ii W)),(2,(.fsl (((qqj picks)).map qy) cp)),(3,(ii lim)),(4,(.fptr [(.fsl ((c.lps).map lpC) false),(.fsl ((c.progs).map qau) false),(ii c.look),(ii c.fin),(ii c.cap)])),(8,.ptr 0 0 0 0),(10,.ptr 1 0 0 0),(12,(ii k))],[]⟩) (fun k _=>[.row 6 [[.fsl [] false,.fsl [] false,.fsl [] false,.fsl [] false,.fsl [] false,.v (.bool false)]] 0,.row 6 [[(.fsl ((((qbp c k)).trace).map qf) false),(.fsl (((qhe c (qbp c k))).map lpF) false),(.fsl (((qab (c).lps.length ((qbp c k)).pend)).map qf) false),(.fsl (((qcb c k)).map qy) (decide (k=0))),(.fsl (((wc k (qeh c W picks n))).map plC) (decide (k=0))),(bb (((qbp c k)).over))]] 0,.dead]) (fun _ _=>True) K
  (fun y=>y.1 = .ret∧y.2.1.marks=[]∧y.2.2=[.row 6 [[(.fsl ((((qbp c K)).trace).map qf) false),(.fsl (((qhe c (qbp c K))).map lpF) false),(.fsl (((qab (c).lps.length ((qbp c K)).pend)).map qf) false),(.fsl (((qcb c K)).map qy) (decide (K=0))),(.fsl (((wc K (qeh c W picks n))).map plC) (decide (K=0))),(bb (((qbp c K)).over))]] 0,.row 6 [[(.fsl ((((qbp c K)).trace).map qf) false),(.fsl (((qhe c (qbp c K))).map lpF) false),(.fsl (((qab (c).lps.length ((qbp c K)).pend)).map qf) false),(.fsl (((qcb c K)).map qy) (decide (K=0))),(.fsl (((wc K (qeh c W picks n))).map plC) (decide (K=0))),(bb (((qbp c K)).over))]] 0,.dead]∧wp y.2.1.vars 8=some (.ptr 0 0 0 0)∧wp y.2.1.vars 9=some (ii er)) ?_ ?_ 0 () (wG _) trivial
 ·exact key
 ·rintro k _ hk _
  obtain⟨h,P⟩:=parI I.v I.n4 (cap:=c.cap) I.lim k (fun j hj=>hS.first j (by omega))
  obtain⟨g1,f,hf,hff,g2⟩:=qapc (hS.first k hk)
  have hcnt:=P.inv.count
  have F:=P.stF (by have:=I.lim;omega)
  have hbl:(qab c.lps.length (qbp c k).pend).flatten.length=(qbp c k).pend.length:=F.flat.length_eq
  have hpl:=F.plen
  have hFl:=qail (qab c.lps.length (qbp c k).pend) false (qvb _ _) (by rw[qta];omega) (by omega)
  unfold flS at hf
  rw[hf]at hFl
  simp only[Option.getD_some,Option.isSome_some]at hFl
  obtain⟨fa,fe,fem,fet⟩:=F.floor hf
  have ft:=(P.inv.ev fe (wz _ fem)).time
  have hC1:=qakh (qab c.lps.length (qbp c k).pend) false (by rw[qta];omega) (by omega)
  have hC2:=q26 (qbp c k).trace false (by rw[P.inv.trl];omega) (by have:=P.len;have:=I.lim;omega)
  rw[hbl]at hC1
  have hN:=qalk F I.l8 (f:=f) (by omega) cp I.w I.p I.pl I.fin (decide (k=0)) (decide (k=0)) (qcb c k) (wc k (qeh c W picks n)) (by simp[qcb];omega) (by simp;omega)
  have hw:qbp c (k+1)=qha c (qbp c k) (q99 c f):=by show qamv c (qbp c k) = _;unfold qamv flS;rw[hf]
  rw[←hw,←q72 c k hf]at hN
  change qm _ _ _=some (.agg [(.fsl ((((qbp c (k+1))).trace).map qf) false),(.fsl (((qhe c (qbp c (k+1)))).map lpF) false),(.fsl (((qab (c).lps.length ((qbp c (k+1))).pend)).map qf) false),(.fsl (((qcb c (k+1))).map qy) false),(.fsl (((wc k (qeh c W picks n)++[qeh c W picks n])).map plC) false),(bb (((qbp c (k+1))).over))])at hN
  rw[←wV]at hN
  have c0:(k:Int)≤2000:=by omega
  have wk:IntKind.i64.wrap ((k:Int)+1)=((k+1:Nat):Int):=by rw[qi (by omega) (by omega)];simp
  have c1:¬((qbp c k).pend.length:Int)>c.cap:=by omega
  have c2:¬f≥c.fin:=by omega
  have c3:¬((qbp c k).trace.flatten.length:Int)≥(lim:Int):=by omega
  have dk:decide (k+1=0)=false:=decide_eq_false (by omega)
  refine .inl ⟨(),?_,trivial⟩
  rw[dk]
  have lo1 : ∀m,qb4 m ((qbp c k).trace.map qf)=true:=fun m=>qan _ _
  have lo2 : ∀m,qb4 m ((qhe c (qbp c k)).map lpF)=true:=fun m=>qhl _ _
  have lo3 : ∀m,qb4 m ((qab c.lps.length (qbp c k).pend).map qf)=true:=fun m=>qan _ _
  have lo4 : ∀m,qb4 m ((qcb c k).map qy)=true:=fun m=>qg _ _
  have lo5 : ∀m,qb4 m ((wc k (qeh c W picks n)).map plC)=true:=fun m=>qoe _ _
  have ko1 : ∀m,qb4 m ((qbp c (k+1)).trace.map qf)=true:=fun m=>qan _ _
  have ko2 : ∀m,qb4 m ((qhe c (qbp c (k+1))).map lpF)=true:=fun m=>qhl _ _
  have ko3 : ∀m,qb4 m ((qab c.lps.length (qbp c (k+1)).pend).map qf)=true:=fun m=>qan _ _
  have ko4 : ∀m,qb4 m ((qcb c (k+1)).map qy)=true:=fun m=>qg _ _
  have ko5 : ∀m,qb4 m ((wc (k+1) (qeh c W picks n)).map plC)=true:=fun m=>qoe _ _
  generalize (qbp c k).trace.flatten.length=cn at *
  generalize (qbp c k).pend.length=bn at *
  generalize (qbp c k).trace.map qf=TM at *
  generalize (qhe c (qbp c k)).map lpF=LM at *
  generalize (qab c.lps.length (qbp c k).pend).map qf=BM at *
  generalize (qcb c k).map qy=FM at *
  generalize (wc k (qeh c W picks n)).map plC=QM at *
  generalize (qbp c (k+1)).trace.map qf=TM' at *
  generalize (qhe c (qbp c (k+1))).map lpF=LM' at *
  generalize (qab c.lps.length (qbp c (k+1)).pend).map qf=BM' at *
  generalize (qcb c (k+1)).map qy=FM' at *
  generalize (wc (k+1) (qeh c W picks n)).map plC=QM' at *
  generalize (qbp c k).over=OV at *
  generalize (qbp c (k+1)).over=OV' at *
  generalize decide (k=0)=dk0 at *
  simp only[qc4,hFl,hC1,hC2,hN,c0,wk,c1,c2,c3,lo1,lo2,lo3,lo4,lo5,ko1,ko2,ko3,ko4,ko5,qg,qax,qv,wq,wF,qb,wj,wl,wy,zgy,↓qc,↓wh,wg,we,wx]
 ·rintro _ _
  obtain⟨h,P⟩:=parI I.v I.n4 (cap:=c.cap) I.lim K hS.first
  have hcnt:=P.inv.count
  have hplen:=P.inv.len
  have hhl:=P.len
  have hlim:=I.lim
  have hst:=hS.stop
  have hbp:(qab c.lps.length (qbp c K).pend).flatten.Perm (qbp c K).pend:=
   (q5c _ _ (fun i=>qao (qbp c K).pend i) fun i=>qc8 _).trans (q9z fun e he=>(P.inv.ev e (wz _ he)).lp)
  have hbl:=hbp.length_eq
  have hFl:=qail (qab c.lps.length (qbp c K).pend) false (qvb _ _) (by rw[qta];omega) (by omega)
  have hC1:=qakh (qab c.lps.length (qbp c K).pend) false (by rw[qta];omega) (by omega)
  have hC2:=q26 (qbp c K).trace false (by rw[P.inv.trl];omega) (by omega)
  rw[hbl]at hC1
  have c0:(K:Int)≤2000:=by omega
  have lo1 : ∀m,qb4 m ((qbp c K).trace.map qf)=true:=fun m=>qan _ _
  have lo2 : ∀m,qb4 m ((qhe c (qbp c K)).map lpF)=true:=fun m=>qhl _ _
  have lo3 : ∀m,qb4 m ((qab c.lps.length (qbp c K).pend).map qf)=true:=fun m=>qan _ _
  have lo4 : ∀m,qb4 m ((qcb c K).map qy)=true:=fun m=>qg _ _
  have lo5 : ∀m,qb4 m ((wc K (qeh c W picks n)).map plC)=true:=fun m=>qoe _ _
  unfold qadk flS endZ at hst
  generalize (qbp c K).trace.flatten.length=cn at *
  generalize (qbp c K).trace.map qf=TM at *
  generalize (qhe c (qbp c K)).map lpF=LM at *
  generalize qrr (qab c.lps.length (qbp c K).pend)=fo at *
  generalize (qab c.lps.length (qbp c K).pend).map qf=BM at *
  generalize (qcb c K).map qy=FM at *
  generalize (wc K (qeh c W picks n)).map plC=QM at *
  generalize (qbp c K).over=OV at *
  generalize decide (K=0)=dk0 at *
  by_cases c1:((qbp c K).pend.length:Int)>c.cap
  ·rw[if_pos (by omega)]at hst
   cases hst
   simp only[qc4,hC1,c0,c1,lo3,wq,wF,qb,wj,wl,zgy,↓qc,↓wh,wg,we]
   exact⟨_,rfl,rfl,rfl,rfl,rfl,rfl⟩
  rw[if_neg (by omega)]at hst
  cases fo with
  |none=>
   simp only[Option.getD_none,Option.isSome_none]at hFl hst
   cases hst
   cases OV with
   |true=>
    simp only[qc4,hFl,hC1,c0,c1,lo3,wq,wF,qb,wj,wl,zgy,↓qc,↓wh,wg,we]
    exact⟨_,rfl,rfl,rfl,rfl,rfl,rfl⟩
   |false=>
    simp only[qc4,hFl,hC1,c0,c1,lo3,wq,wF,qb,wj,wl,zgy,↓qc,↓wh,wg,we]
    exact⟨_,rfl,rfl,rfl,rfl,rfl,rfl⟩
  |some f=>
   simp only[Option.getD_some,Option.isSome_some]at hFl hst
   by_cases c2:f≥c.fin
   ·rw[if_pos c2]at hst
    cases hst
    cases OV with
    |true=>
     simp only[qc4,hFl,hC1,c0,c1,c2,lo3,wq,wF,qb,wj,wl,zgy,↓qc,↓wh,wg,we]
     exact⟨_,rfl,rfl,rfl,rfl,rfl,rfl⟩
    |false=>
     simp only[qc4,hFl,hC1,c0,c1,c2,lo3,wq,wF,qb,wj,wl,zgy,↓qc,↓wh,wg,we]
     exact⟨_,rfl,rfl,rfl,rfl,rfl,rfl⟩
   ·rw[if_neg c2]at hst
    by_cases c3:lim≤cn
    ·rw[if_pos c3]at hst
     cases hst
     have c3':(cn:Int)≥(lim:Int):=by omega
     simp only[qc4,hFl,hC1,hC2,c0,c1,c2,c3',lo1,lo3,wq,wF,qb,wj,wl,zgy,↓qc,↓wh,wg,we]
     exact⟨_,rfl,rfl,rfl,rfl,rfl,rfl⟩
    ·rw[if_neg c3]at hst;cases hst
end
set_option maxRecDepth 10000
section
variable {c:Cfg} {W:Nat} {picks:List Nat} {lim n:Nat} (cp:Bool)
theorem rsim_L1 (h1:1≤c.lps.length) (h8:c.lps.length≤8) :
  ∃y,itB (exec (evL T) itL none qfs) (qu [1,2,3,4,8,10,11] false 2) ⟨[(1,(ii W)),(2,(.fsl (((qqj picks)).map qy) cp)),(3,(ii lim)),(4,(.fptr [(.fsl ((c.lps).map lpC) false),(.fsl ((c.progs).map qau) false),(ii c.look),(ii c.fin),(ii c.cap)])),(8,.ptr 0 0 0 0),(10,.ptr 1 0 0 0),(11,(ii 0))],[]⟩ [.row 6 [[.fsl [] false,.fsl [] false,.fsl [] false,.fsl [] false,.fsl [] false,.v (.bool false)]] 0,.row 6 [[(.fsl [] true),(.fsl (((qhf c.lps)).map lpF) false),(.fsl (((qab c.lps.length (sortL (qg6 c.lps)))).map qf) false),.fsl [] true,.fsl [] true,(bb false)]] 0]=some y ∧
   ∃g:Nat,y.1 = .exit 0∧y.2.1.marks=[]∧y.2.2=[.row 6 [[.fsl [] false,.fsl [] false,.fsl [] false,.fsl [] false,.fsl [] false,.v (.bool false)]] 0,.row 6 [[(.sl 2 g 0 c.lps.length false),(.fsl (((qhf c.lps)).map lpF) false),(.fsl (((qab c.lps.length (sortL (qg6 c.lps)))).map qf) false),.fsl [] true,.fsl [] true,(bb false)]] 0,.row 1 (wc c.lps.length [.fsl [] false]) g]∧wp y.2.1.vars 1=some (ii W)∧wp y.2.1.vars 2=some (.fsl (((qqj picks)).map qy) cp)∧wp y.2.1.vars 3=some (ii lim)∧wp y.2.1.vars 4=some (.fptr [(.fsl ((c.lps).map lpC) false),(.fsl ((c.progs).map qau) false),(ii c.look),(ii c.fin),(ii c.cap)])∧wp y.2.1.vars 8=some (.ptr 0 0 0 0)∧wp y.2.1.vars 10=some (.ptr 1 0 0 0):=by
 have hlm:(c.lps.map lpC).length=c.lps.length:=wn ..
 have lo1 : ∀m,qb4 m ((qhf c.lps).map lpF)=true:=fun m=>qhl _ _
 have lo2 : ∀m,qb4 m ((qab c.lps.length (sortL (qg6 c.lps))).map qf)=true:=fun m=>qan _ _
 generalize (qhf c.lps).map lpF=SM at *
 generalize (qab c.lps.length (sortL (qg6 c.lps))).map qf=BM at *
 have first:it1 (exec (evL T) itL none qfs) (qu [1,2,3,4,8,10,11] false 2) ⟨[(1,(ii W)),(2,(.fsl (((qqj picks)).map qy) cp)),(3,(ii lim)),(4,(.fptr [(.fsl ((c.lps).map lpC) false),(.fsl ((c.progs).map qau) false),(ii c.look),(ii c.fin),(ii c.cap)])),(8,.ptr 0 0 0 0),(10,.ptr 1 0 0 0),(11,(ii 0))],[]⟩ [.row 6 [[.fsl [] false,.fsl [] false,.fsl [] false,.fsl [] false,.fsl [] false,.v (.bool false)]] 0,.row 6 [[.fsl [] true,.fsl SM false,.fsl BM false,.fsl [] true,.fsl [] true,(bb false)]] 0]=some (.inl (⟨[(1,(ii W)),(2,(.fsl (((qqj picks)).map qy) cp)),(3,(ii lim)),(4,(.fptr [(.fsl ((c.lps).map lpC) false),(.fsl ((c.progs).map qau) false),(ii c.look),(ii c.fin),(ii c.cap)])),(8,.ptr 0 0 0 0),(10,.ptr 1 0 0 0),(11,(ii ((0+1:Nat))))],[]⟩,[.row 6 [[.fsl [] false,.fsl [] false,.fsl [] false,.fsl [] false,.fsl [] false,.v (.bool false)]] 0,.row 6 [[.sl 2 0 0 (0+1) false,.fsl SM false,.fsl BM false,.fsl [] true,.fsl [] true,(bb false)]] 0,.row 1 (wc (0+1) [.fsl [] false]) 0])):=by
  have hi':(0:Int)<(c.lps.length:Int):=by omega
  have hw:IntKind.i64.wrap (1:Int)=1:=qi (by omega) (by omega)
  simp only[qfs,hlm,hi',hw,zfd,wq,wF,qqk,qb,qaw,wj,wE,wl,ne_eq,zgy,↓qc,↓wh,wg,we,wJ,wr,wC,Int.reduceAdd]
 have key:=qcq (f:=exec (evL T) itL none qfs) (s:=qu [1,2,3,4,8,10,11] false 2) (α:=Unit)
  (fun i _=>⟨[(1,(ii W)),(2,(.fsl (((qqj picks)).map qy) cp)),(3,(ii lim)),(4,(.fptr [(.fsl ((c.lps).map lpC) false),(.fsl ((c.progs).map qau) false),(ii c.look),(ii c.fin),(ii c.cap)])),(8,.ptr 0 0 0 0),(10,.ptr 1 0 0 0),(11,(ii ((i+1:Nat))))],[]⟩) (fun i _=>[.row 6 [[.fsl [] false,.fsl [] false,.fsl [] false,.fsl [] false,.fsl [] false,.v (.bool false)]] 0,.row 6 [[.sl 2 i 0 (i+1) false,.fsl SM false,.fsl BM false,.fsl [] true,.fsl [] true,(bb false)]] 0,.row 1 (wc (i+1) [.fsl [] false]) i]) (fun _ _=>True) (c.lps.length-1)
  (fun y => ∃g:Nat,y.1 = .exit 0∧y.2.1.marks=[]∧y.2.2=[.row 6 [[.fsl [] false,.fsl [] false,.fsl [] false,.fsl [] false,.fsl [] false,.v (.bool false)]] 0,.row 6 [[.sl 2 g 0 c.lps.length false,.fsl SM false,.fsl BM false,.fsl [] true,.fsl [] true,(bb false)]] 0,.row 1 (wc c.lps.length [.fsl [] false]) g]∧wp y.2.1.vars 1=some (ii W)∧wp y.2.1.vars 2=some (.fsl (((qqj picks)).map qy) cp)∧wp y.2.1.vars 3=some (ii lim)∧wp y.2.1.vars 4=some (.fptr [(.fsl ((c.lps).map lpC) false),(.fsl ((c.progs).map qau) false),(ii c.look),(ii c.fin),(ii c.cap)])∧wp y.2.1.vars 8=some (.ptr 0 0 0 0)∧wp y.2.1.vars 10=some (.ptr 1 0 0 0)) ?_ ?_ 0 () (wG _) trivial
 ·obtain⟨y,k1,k2⟩:=key
  exact⟨y,qm7 first k1,k2⟩
 ·rintro i _ hi _
  have hi':((i+1:Nat):Int)<(c.lps.length:Int):=by omega
  have hw:IntKind.i64.wrap (((i+1:Nat):Int)+1)=((i+1+1:Nat):Int):=by rw[qi (by omega) (by omega)];simp
  have hr:wc (i+1+1) [(.fsl [] false:AV)]=wc (i+1) [.fsl [] false]++[[.fsl [] false]]:=wV
  have tk:wD (i+1) (wc (i+1) [(.fsl [] false:AV)])=wc (i+1) [.fsl [] false]:=ztl (by simp)
  have hrl:(wc (i+1) [(.fsl [] false:AV)]).length=i+1:=wO
  have bd:(i+1+1)*24≤140737488355328:=by omega
  have hle:i+1≤i+1:=wH _
  have lr : ∀m,qb4 m (wc (i+1+1) [(.fsl [] false:AV)])=true:=fun m=>qfe _ _ _ rfl
  refine .inl ⟨(),?_,trivial⟩
  rw[hr]at lr⊢
  generalize wc (i+1) [(.fsl [] false:AV)]=R at *
  simp only[qfs,hlm,hi',hw,tk,hrl,bd,hle,wq,wF,qqk,qb,qaw,wj,wE,wl,ne_eq,zgy,↓qc,↓wh,wg,we,wJ,wr,wC]
 ·rintro _ _
  have c0:¬((c.lps.length-1+1:Nat):Int)<(c.lps.length:Int):=by omega
  have e1:c.lps.length-1+1=c.lps.length:=by omega
  simp only[qfs,hlm,c0,wq,qb,zgy,↓qc,↓wh,we]
  exact⟨_,rfl,c.lps.length-1,rfl,rfl,by simp only[e1],rfl,rfl,rfl,rfl,rfl,rfl⟩
set_option maxHeartbeats 1000000 in
theorem rsim_ev (I:RunIn c W picks lim n) {K:Nat} {er:Int} (hS:Stop c c.cap lim K er) :
  qm (evL T) qfr [(.agg [(.fsl ((c.lps).map lpC) false),(.fsl ((c.progs).map qau) false),(ii c.look),(ii c.fin),(ii c.cap)]),(ii W),(.fsl (((qqj picks)).map qy) cp),(ii lim)]=some (.tup [(.agg [(.fsl ((((qbp c K)).trace).map qf) false),(.fsl (((qhe c (qbp c K))).map lpF) false),(.fsl (((qab (c).lps.length ((qbp c K)).pend)).map qf) false),(.fsl (((qcb c K)).map qy) (decide (K=0))),(.fsl (((wc K (qeh c W picks n))).map plC) (decide (K=0))),(bb (((qbp c K)).over))]),(ii er)]):=by
 have hv8:=I.v.lps
 obtain⟨⟨y,e,σ⟩,k1,g,k2,k3,k4,k5,k6,k7,k8,k9,k10⟩:=rsim_L1 (c:=c) (W:=W) (picks:=picks) (lim:=lim) cp hv8.1 hv8.2
 simp only at k1 k2 k3 k4 k5 k6 k7 k8 k9 k10
 subst k2;subst k4
 obtain⟨⟨y2,e2,σ2⟩,q1,q2,q3,q4,q5,q6⟩:=rrun_L2 cp I hS
 simp only[wB]at q1 q2 q3 q4 q5 q6
 subst q2;subst q4
 have H0:=SInv.start I.v
 have hst:=qacz c I.h12
 obtain⟨cf,hin⟩:=q9n c I.h12
 have hk:qb0 (sortL (qg6 c.lps)):=fun x hx=>by have:=(H0.ev x (wz _ hx)).key;simp at this;omega
 have hd:qys (sortL (qg6 c.lps)):=qqp.dist (List.pairwise_append.1 H0.keys).2.1
 have hl:=H0.len
 have hB:=qaoj (sortL (qg6 c.lps)) cf c.lps.length hv8.2 (by show (start c).pend.length ≤ _;simp at hl;omega) hk hd
 have hlm:(c.lps.map lpC).length=c.lps.length:=wn ..
 have e1:(qbp c 0).trace.map qf=wc c.lps.length [.fsl [] false]:=qabd
 have e2:qhe c (qbp c 0)=qhf c.lps:=qaeb
 have e3:(qbp c 0).pend=sortL (qg6 c.lps):=rfl
 have e4:(qbp c 0).over=false:=rfl
 have e5:decide (0=0)=true:=rfl
 rw[e1,e2,e3,e4]at q1
 simp only[qcb,List.range_zero,wS,List.replicate_zero,zgv]at q1
 change itB _ _ _ _=some (_,_,([.row 6 [[(.fsl ((((qbp c K)).trace).map qf) false),(.fsl (((qhe c (qbp c K))).map lpF) false),(.fsl (((qab (c).lps.length ((qbp c K)).pend)).map qf) false),(.fsl (((qcb c K)).map qy) (decide (K=0))),(.fsl (((wc K (qeh c W picks n))).map plC) (decide (K=0))),(bb (((qbp c K)).over))]] 0,.row 6 [[(.fsl ((((qbp c K)).trace).map qf) false),(.fsl (((qhe c (qbp c K))).map lpF) false),(.fsl (((qab (c).lps.length ((qbp c K)).pend)).map qf) false),(.fsl (((qcb c K)).map qy) (decide (K=0))),(.fsl (((wc K (qeh c W picks n))).map plC) (decide (K=0))),(bb (((qbp c K)).over))]] 0,.dead]:qj))at q1
 have lo0 : ∀m,qb4 m (wc c.lps.length [(.fsl [] false:AV)])=true:=fun m=>qfe _ _ _ rfl
 have tk0:wD c.lps.length (wc c.lps.length [(.fsl [] false:AV)])=wc c.lps.length [.fsl [] false]:=ztl (by simp)
 have ln0:(wc c.lps.length [(.fsl [] false:AV)]).length=c.lps.length:=wO
 have hle:c.lps.length≤c.lps.length:=wH _
 have lo1 : ∀m,qb4 m ((qbp c K).trace.map qf)=true:=fun m=>qan _ _
 have lo2 : ∀m,qb4 m ((qhe c (qbp c K)).map lpF)=true:=fun m=>qhl _ _
 have lo3 : ∀m,qb4 m ((qab c.lps.length (qbp c K).pend).map qf)=true:=fun m=>qan _ _
 have lo4 : ∀m,qb4 m ((qcb c K).map qy)=true:=fun m=>qg _ _
 have lo5 : ∀m,qb4 m ((wc K (qeh c W picks n)).map plC)=true:=fun m=>qoe _ _
 have lo6 : ∀m,qb4 m ((qhf c.lps).map lpF)=true:=fun m=>qhl _ _
 have lo7 : ∀m,qb4 m ((qab c.lps.length (sortL (qg6 c.lps))).map qf)=true:=fun m=>qan _ _
 have lo8 : ∀m,qb4 m ((sortL (qg6 c.lps)).map Evt.r)=true:=fun m=>qh _ _
 rw[qm,qd q37 q2m]
 generalize (qbp c K).trace.map qf=TM' at *
 generalize (qhe c (qbp c K)).map lpF=LM' at *
 generalize (qab c.lps.length (qbp c K).pend).map qf=BM' at *
 generalize (qcb c K).map qy=FM' at *
 generalize (wc K (qeh c W picks n)).map plC=QM' at *
 generalize (qbp c K).over=OV' at *
 generalize (qhf c.lps).map lpF=SM at *
 generalize (qab c.lps.length (sortL (qg6 c.lps))).map qf=IM at *
 generalize (sortL (qg6 c.lps)).map Evt.r=EM at *
 generalize wc c.lps.length [(.fsl [] false:AV)]=RM at *
 simp only[qo4,hst,hin,hB,k1,k3,k5,k6,k7,k8,k9,k10,q1,q3,q5,q6,hlm,lo0,tk0,ln0,hle,lo1,lo2,lo3,lo4,lo5,lo6,lo7,lo8,zfd,qg,qax,qv,wq,wF,q6c,qb,wj,wE,wl,qk,wy,ne_eq,zgy,↓qc,↓qq,↓wh,wg,we,wx,wr,wi]
theorem QRun_ev (I:RunIn c W picks lim n) (hc:qm (evL T) qez [(.agg [(.fsl ((c.lps).map lpC) false),(.fsl ((c.progs).map qau) false),(ii c.look),(ii c.fin),(ii c.cap)])]=some (ii 0)) {K:Nat} {er:Int} (hS:Stop c c.cap lim K er) :
  qm (evL T) qnr [(.agg [(.fsl ((c.lps).map lpC) false),(.fsl ((c.progs).map qau) false),(ii c.look),(ii c.fin),(ii c.cap)]),(ii W),(.fsl (((qqj picks)).map qy) cp),(ii lim)]=some (.tup [(.fsl (((qbp c K).trace).map qf) false),(.fsl (((qhe c (qbp c K))).map lpF) false),(ii er)]) ∧
  qm (evL T) qi2 [(.agg [(.fsl ((c.lps).map lpC) false),(.fsl ((c.progs).map qau) false),(ii c.look),(ii c.fin),(ii c.cap)]),(ii W),(.fsl (((qqj picks)).map qy) cp),(ii lim)]=some (.fsl (((qcb c K)).map qy) (decide (K=0))) ∧
  qm (evL T) qeu [(.agg [(.fsl ((c.lps).map lpC) false),(.fsl ((c.progs).map qau) false),(ii c.look),(ii c.fin),(ii c.cap)]),(ii W),(.fsl (((qqj picks)).map qy) cp),(ii lim)]=some (.fsl (((wc K (qeh c W picks n))).map plC) (decide (K=0))):=by
 have hr:=rsim_ev cp I hS
 have lo1 : ∀m,qb4 m ((qbp c K).trace.map qf)=true:=fun m=>qan _ _
 have lo2 : ∀m,qb4 m ((qhe c (qbp c K)).map lpF)=true:=fun m=>qhl _ _
 have lo3 : ∀m,qb4 m ((qab c.lps.length (qbp c K).pend).map qf)=true:=fun m=>qan _ _
 have lo4 : ∀m,qb4 m ((qcb c K).map qy)=true:=fun m=>qg _ _
 have lo5 : ∀m,qb4 m ((wc K (qeh c W picks n)).map plC)=true:=fun m=>qoe _ _
 generalize (wc K (qeh c W picks n)).map plC=QM' at *
 generalize decide (K=0)=dk at *
 refine⟨?_,?_,?_⟩
 ·rw[qm,qd q33 q2g]
  simp only[qtt,hc,hr,lo1,lo2,qg,qax,qv,wq,wF,qb,wj,wl,qk,ne_eq,zgy,↓qc,↓wh,wg,we,wi]
 ·rw[qm,qd qyp qww]
  simp only[qoq,hc,hr,lo4,qg,qax,qv,wq,wF,qb,wj,wl,qk,ne_eq,zgy,↓qc,↓wh,wg,we,wi]
 ·rw[qm,qd qro qqr]
  simp only[qjb,hc,hr,lo5,qg,qax,qv,wq,wF,qb,wj,wl,qk,ne_eq,zgy,↓qc,↓wh,wg,we,wi]
theorem QRun_bad (z:Int) (hz:z≠0) (W lim:Int) (l:List Int) (hc:qm (evL T) qez [(.agg [(.fsl ((c.lps).map lpC) false),(.fsl ((c.progs).map qau) false),(ii c.look),(ii c.fin),(ii c.cap)])]=some (ii z)) :
  qm (evL T) qnr [(.agg [(.fsl ((c.lps).map lpC) false),(.fsl ((c.progs).map qau) false),(ii c.look),(ii c.fin),(ii c.cap)]),(ii W),(.fsl ((l).map qy) cp),(ii lim)]=some (.tup [.fsl [] true,.fsl [] true,(ii z)])∧qm (evL T) qi2 [(.agg [(.fsl ((c.lps).map lpC) false),(.fsl ((c.progs).map qau) false),(ii c.look),(ii c.fin),(ii c.cap)]),(ii W),(.fsl ((l).map qy) cp),(ii lim)]=some (.fsl [] true)∧qm (evL T) qeu [(.agg [(.fsl ((c.lps).map lpC) false),(.fsl ((c.progs).map qau) false),(ii c.look),(ii c.fin),(ii c.cap)]),(ii W),(.fsl ((l).map qy) cp),(ii lim)]=some (.fsl [] true):=by
 refine⟨?_,?_,?_⟩
 ·rw[qm,qd q33 q2g]
  simp only[qtt,hc,hz,qax,qv,wq,qb,wj,wl,qk,ne_eq,zgy,↓qc,↓wh,wg,we]
 ·rw[qm,qd qyp qww]
  simp only[qoq,hc,hz,qax,qv,wq,qb,wj,wl,qk,ne_eq,zgy,↓qc,↓wh,wg,we]
 ·rw[qm,qd qro qqr]
  simp only[qjb,hc,hz,qax,qv,wq,qb,wj,wl,qk,ne_eq,zgy,↓qc,↓wh,wg,we]
end
set_option maxRecDepth 100000
theorem q5n (l:List (List (Nat×Nat))) (ca cb:Bool) (hl:l.length≤1000000) (hx : ∀x∈l,x.length≤1000000):qm (evL T) qdx [(.fsl ((l).map plC) ca),(.fsl ((l).map plC) cb)]=some (bb true):=by
 have hL : ∃y,itB (exec (evL T) itL none qg9) (qu [0,1,5] true 0) ⟨[(0,(.fsl ((l).map plC) ca)),(1,(.fsl ((l).map plC) cb)),(5,(ii ((0:Nat))))],[]⟩ []=some y∧(y.1 = .exit 0∧y.2.1.marks=[]∧y.2.2=[]):=by
  have hll:(l.map plC).length=l.length:=wn ..
  have lo : ∀m,qb4 m (l.map plC)=true:=fun m=>qoe _ _
  refine q94 l (fun i=>⟨[(0,(.fsl ((l).map plC) ca)),(1,(.fsl ((l).map plC) cb)),(5,(ii i))],[]⟩) [] _ ?_ ?_
  ·intro i x hi hxi
   have hi':(i:Int)<(l.length:Int):=by omega
   have hw:IntKind.i64.wrap ((i:Int)+1)=((i+1:Nat):Int):=by rw[qi (by omega) (by omega)];simp
   have hg:(l.map plC)[i]? = some [.fsl (x.map prC) false]:=by rw[wu,hxi];rfl
   have hS:=qaf2 x false false (hx x (zmg hxi))
   generalize l.map plC=QM at *
   simp only[qg9,hll,hi',hw,hg,hS,lo,qea,zgs,zgr,wq,qb,zgy,↓qc,↓wh,we,wi]
  ·generalize l.map plC=QM at *
   simp only[qg9,hll,wI,wq,zgy,↓qc,↓wh,we,wi]
   exact⟨_,rfl,rfl,rfl,rfl⟩
 obtain⟨⟨y,e,σ⟩,k1,k2,k3,k4⟩:=hL
 simp only[wB]at k1 k2 k3 k4
 subst k2;subst k4
 have lo : ∀m,qb4 m (l.map plC)=true:=fun m=>qoe _ _
 rw[qm,qd qvs qus]
 simp only[qiu,k1,k3,lo,wq,qk,ne_eq,zgy,↓qc,↓qq,↓wh,wg,we,wi]
theorem cfgOk_of (c:Cfg) (h:qyn c=false):CfgOk c:=by
 obtain⟨g1,g2,g3,g4⟩:=q3j c h
 exact⟨by omega,by omega,fun p hp=>by have:=g4 p hp;omega,fun l hl=>by have:=g3 l hl;omega⟩
set_option maxHeartbeats 2000000 in
theorem qajc (c:Cfg) (a lm:Int) (ha:0≤a∧a≤255) (hl:0≤lm∧lm≤255) (l:List Int) (hlr : ∀x∈l,0≤x∧x≤255) (cl:Bool) :
  qm (evL T) qcs [(.agg [(.fsl ((c.lps).map lpC) false),(.fsl ((c.progs).map qau) false),(ii c.look),(ii c.fin),(ii c.cap)]),.v (.int .u8 a),(.fsl ((l).map u8C) cl),.v (.int .u8 lm)]=some (bb true):=by
 have hH:=qafv
 obtain⟨b1,hq,hqb⟩:=qai7 c
 have hG:=q1z c
 have hRC:=q1w c
 have hll:(l.map u8C).length=l.length:=wn ..
 rw[qm,qd qqm qkf]
 cases hg:qyn c with
 |true=>
  rw[hg]at hG
  simp only[qbg,hH,hG,qax,qv,wq,qb,wj,wl,qk,ne_eq,zgy,↓qc,↓wh,wg,we]
 |false=>
 rw[hg]at hG
 by_cases g1:(l.length:Int)>200
 ·simp only[qbg,hH,hG,hll,g1,qax,qv,wq,qb,wj,wl,qk,ne_eq,zgy,↓qc,↓wh,wg,we,wi]
 obtain⟨k,k30,hsm⟩:=small_ev lm hl
 obtain⟨V,v1,v2,wa,w6,wv⟩:=wrk_ev a ha 6 (by omega)
 have hp1:=Picks_ev l cl V ⟨v1,by omega⟩ hlr (by omega)
 have lo4 : ∀q,qb4 q ((qqj (qfi l V)).map qy)=true:=fun m=>qg _ _
 simp only[Int.cast_ofNat_Int]at w6 wv
 by_cases hz:q9e c=0
 case neg=>
  have hPC:=qzv c (cfgOk_of c hg)
  rw[←qaku]at hPC
  obtain⟨x1,x2,x3⟩:=PRun_bad (c:=c) false (q9e c) hz V k (qqj (qfi l V)) hPC
  obtain⟨y1,y2,y3⟩:=QRun_bad (c:=c) false (q9e c) hz V k (qqj (qfi l V)) hRC
  have hT:=q4i [] true true (by simp) (by simp) (by simp)
  have hLP:=qaeg [] [] true true (by simp) (by simp) (by simp) (by simp)
  have hFS:=q32 [] true true (by simp)
  have hSA:=q5n [] true true (by simp) (by simp)
  simp only[wS,zgv]at hT hLP hFS hSA
  generalize (qqj (qfi l V)).map qy=N1 at *
  generalize q9e c=z at *
  simp only[qbg,hH,hG,hRC,hz,hll,g1,hsm,wa,w6,wv,hp1,x1,x2,x3,y1,y2,y3,hT,hLP,hFS,hSA,lo4,qaky,qax,qv,wq,qb,wj,wl,qk,ne_eq,zgy,↓qc,↓wh,wg,we,wi]
 cases b1 with
 |false=>
  rw[hz]at hRC
  simp only[qbg,hH,hG,hRC,hq,hll,g1,qax,qv,wq,qb,wj,wl,qk,ne_eq,zgy,↓qc,↓wh,wg,we,wi]
 |true=>
 rw[hz]at hRC
 obtain⟨G,l8,n4⟩:=hqb rfl
 obtain⟨n1,I1⟩:=runIn_of (lim:=k) G l8 n4 (W:=V) ⟨v1,by omega⟩ l (by omega) (by omega)
 obtain⟨K,er,hS⟩:=stop_ex G.v n4 c.cap (lim:=k) (by omega)
 obtain⟨h,P⟩:=parI G.v n4 (cap:=c.cap) (lim:=k) (by omega) K hS.first
 have hR1:=PRun_ev false I1 G.check hS
 have hF1:=qal6 false I1 G.check hS
 have hA1:=qamd false I1 G.check hS
 obtain⟨y1,y2,y3⟩:=QRun_ev false I1 hRC hS
 have hK:=hS.le40 G.v n4 (by omega)
 obtain⟨r1,r2,r3⟩:=P.rows (by omega)
 have hT:=q4i (qbp c K).trace false false r1 r2 r3
 obtain⟨s1,s2⟩:=P.short (by omega)
 have hLP:=qaeg (qhe c (qbp c K)) (qhe c (qbp c K)) false false s1 s1 s2 s2
 rw[decide_eq_true rfl]at hLP
 have hFS:=q32 (qcb c K) false (decide (K=0)) (by simp[qcb];omega)
 have hpl:(qeh c V (qfi l V) n1).length=c.lps.length:=by have:=(I1.fin.perm I1.w.1).length_eq;simp only[zgi,List.length_range]at this;exact this
 have hSA:=q5n (wc K (qeh c V (qfi l V) n1)) false (decide (K=0)) (by simp;omega) (fun x hx=>by rw[wL hx,hpl];have:=G.v.lps;omega)
 have lo1 : ∀m,qb4 m ((qbp c K).trace.map qf)=true:=fun m=>qan _ _
 have lo2 : ∀m,qb4 m ((qhe c (qbp c K)).map lpF)=true:=fun m=>qhl _ _
 have lo3 : ∀m,qb4 m ((qcb c K).map qy)=true:=fun m=>qg _ _
 have lo5 : ∀m,qb4 m ((wc K (qeh c V (qfi l V) n1)).map plC)=true:=fun m=>qoe _ _
 generalize (qbp c K).trace.map qf=TM at *
 generalize (qhe c (qbp c K)).map lpF=LM at *
 generalize (qcb c K).map qy=FM at *
 generalize (wc K (qeh c V (qfi l V) n1)).map plC=QM at *
 generalize (qqj (qfi l V)).map qy=N1 at *
 generalize decide (K=0)=dk at *
 simp only[qbg,hH,hG,hRC,hq,hll,g1,hsm,wa,w6,wv,hp1,hR1,hF1,hA1,y1,y2,y3,hT,hLP,hFS,hSA,lo1,lo2,lo3,lo4,lo5,qaky,qax,qv,wq,qb,wj,wl,qk,ne_eq,zgy,↓qc,↓wh,wg,we,wi]
end Go.Proofs.YtpgdfkciinankaaGreat.K
namespace Go.Ev
def Ctx.nil:Ctx:={ n:=0,loc:=fun _=>⟨0,0,0,0⟩,own:=fun _=>False,far:=fun _=>False }
theorem SR.nil (P:Program) (w:World):SR P Ctx.nil [] w where
 len:=rfl
 obj o ob h:=by simp at h
 blk o h:=absurd h (Nat.not_lt_zero _)
 inj o o' h:=absurd h (Nat.not_lt_zero _)
 ownlt b h:=h.elim
 farlt b h:=h.elim
 sep b h:=h.elim
section
variable (P:Program) {H:Type} (enc:TypeId×Value→H)
def qov (t:TypeId) {τ:Type} (c:τ→List AV) (ok:τ→Prop):Prop:=
 ∀(w:World) (fuel:Nat) (cs:List Value) (d:DataW H) (ps:List MemPlace),DataW.trod enc P w 0 (fun _=>true) true fuel t cs=some (d,ps) → ∃x:τ,ok x∧VRs Ctx.nil w (c x) cs
variable {P enc}
theorem VRs.one {Γ:Ctx} {w:World} {a:AV} {v:Value} (h:VR Γ w a v):VRs Γ w [a] [v]:=by
 simp only[VRs];exact⟨v,[],rfl,h,rfl⟩
theorem qaee {t:TypeId} {k:IntKind} (hu:P.underlying t=some (.int k)):qov P enc t (fun n:Int=>[.v (.int k n)]) (fun n=>(Lit.int k n).wf=true):=by
 intro w fuel cs d ps h
 cases fuel with
 |zero=>simp[DataW.trod]at h
 |succ fuel=>
  unfold DataW.trod at h
  rw[hu]at h
  split at h<;>rename_i heq<;>first|(cases heq;done)|(cases h;done)|skip
  cases heq
  split at h
  ·rename_i hk
   obtain⟨rfl,hwf⟩:=hk
   exact⟨_,hwf,VRs.one (by simp only[VR])⟩
  ·cases h
variable (P enc) in
def q4h (off:Nat) (fs:List Field) {τ:Type} (c:τ→List AV) (ok:τ→Prop) (tot:Nat):Prop:=
 ∀(w:World) (fuel:Nat) (cs:List Value),(∀(i:Nat) (f:Field),fs[i]? = some f → ∃x,DataW.trod enc P w 0 (fun _=>true) true fuel f.type ((cs.drop f.offset).take (P.cellsOf f.type))=some x) →
  ∃x:τ,ok x∧VRs Ctx.nil w (c x) ((cs.drop off).take tot)
theorem q0k (off:Nat):q4h P enc off [] (fun _:Unit=>[]) (fun _=>True) 0:=fun w fuel cs _=>⟨(),trivial,by simp[VRs]⟩
theorem qgq {off:Nat} {f:Field} {fs:List Field} {α β:Type} {c1:α→List AV} {ok1:α→Prop} {c2:β→List AV} {ok2:β→Prop} {tot:Nat} {sz:Nat} (ho:f.offset=off) (hs:P.cellsOf f.type=sz)
  (h1:qov P enc f.type c1 ok1) (h2:q4h P enc (off+sz) fs c2 ok2 tot):q4h P enc off (f::fs) (fun x:α×β=>c1 x.1++c2 x.2) (fun x=>ok1 x.1∧ok2 x.2) (sz+tot):=by
 intro w fuel cs h
 obtain⟨⟨d,ps⟩,h3⟩:=h 0 f rfl
 obtain⟨x,k1,k2⟩:=h1 w fuel _ d ps h3
 obtain⟨y,k3,k4⟩:=h2 w fuel cs fun i g hg=>h (i+1) g (by simpa using hg)
 refine⟨(x,y),⟨k1,k3⟩,?_⟩
 rw[List.take_add,List.drop_drop]
 rw[ho,hs]at k2
 exact k2.append k4
theorem qagr {t:TypeId} {fs:Array Field} {τ:Type} {c:τ→List AV} {ok:τ→Prop} (hu:P.underlying t=some (.struct fs)) (h:q4h P enc 0 fs.toList c ok (P.cellsOf t)):qov P enc t c ok:=by
 intro w fuel cs d ps ht
 obtain⟨xs,n,rfl,_,hl,hx,hall⟩:=DataW.trod_struct hu ht
 obtain⟨x,k1,k2⟩:=h w n cs fun i f hf=>by
  have hf':fs[i]? = some f:=by simpa using hf
  have:=hall i f hf'
  have hlt:i<xs.length:=by rw[hx];exact(Array.getElem?_eq_some_iff.1 hf').1
  exact⟨xs[i],by rw[this,zgE hlt]⟩
 refine⟨x,k1,?_⟩
 rw[List.drop_zero,←hl,wN]at k2
 exact k2
theorem qwe {t:TypeId} {fs:Array Field} {τ:Type} {c:τ→List AV} {ok:τ→Prop} {n:Nat} (hu:P.underlying t=some (.struct fs)) (h:q4h P enc 0 fs.toList c ok n) (hn:P.cellsOf t=n):qov P enc t c ok:=qagr hu (by rw[hn];exact h)
theorem qov.map {t:TypeId} {α β:Type} {c:α→List AV} {ok:α→Prop} {c':β→List AV} {ok':β→Prop} (g:α→β) (h:qov P enc t c ok) (hc : ∀x,c' (g x)=c x) (ho : ∀x,ok x→ok' (g x)):qov P enc t c' ok':=by
 intro w fuel cs d ps ht
 obtain⟨x,h1,h2⟩:=h w fuel cs d ps ht
 exact⟨g x,ho x h1,by rw[hc];exact h2⟩
theorem qabc {τ:Type} {Q:Nat→τ→Prop} : ∀(n:Nat),(∀i,i<n → ∃x,Q i x) → ∃xs:List τ,xs.length=n ∧ ∀(i:Nat) (x:τ),xs[i]? = some x→Q i x
 | 0,_=>⟨[],rfl,by simp⟩
 |n+1,h=>by
  obtain⟨xs,h1,h2⟩:=qabc n fun i hi=>h i (by omega)
  obtain⟨x,hx⟩:=h n (by omega)
  refine⟨xs++[x],by simp[h1],fun i y hy => ?_⟩
  rw[List.getElem?_append]at hy
  split at hy
  ·exact h2 i y hy
  ·rename_i hi
   have hlt:i-xs.length<1:=by
    have:=(zei.1 hy).1
    simpa using this
   have:i=n:=by omega
   subst this
   rw[h1,Nat.sub_self]at hy
   simp at hy;subst hy;exact hx
theorem qah8 {Γ:Ctx} {w:World} {sz:Nat} {τ:Type} {c:τ→List AV} : ∀(xs:List τ) (get:Nat→Option Value),(∀(i:Nat) (x:τ),xs[i]? = some x→qo Γ w (c x) (fun j=>get (j+i*sz)))→qh5 Γ w sz (xs.map c) get
 | [],_,_=>by simp[qh5]
 |x::xs,get,h=>by
  simp only[List.map_cons,qh5]
  refine⟨by simpa using h 0 x (by simp),qah8 xs _ fun i y hy => ?_⟩
  refine(h (i+1) y (by simpa using hy)).congr fun j => ?_
  congr 1
  rw[Nat.add_mul];omega
theorem qrl {t e:TypeId} {sz:Nat} {τ:Type} {c:τ→List AV} {ok:τ→Prop} (hu:P.underlying t=some (.slice e)) (hs:P.cellsOf e=sz) (h0:0<sz) (hc : ∀x,(c x).length=sz) (h:qov P enc e c ok) :
  qov P enc t (fun xs:List τ=>[.fsl (xs.map c) false]) (fun xs=>(∀x∈xs,ok x)∧xs.length≤maxLen):=by
 intro w fuel cs d ps ht
 rcases DataW.trod_slice hu ht with ⟨rfl,_⟩|⟨a,len,cap,elems,rest,n,rfl,rfl,_,_,hle,hcap,hel,hall,_⟩
 ·refine⟨[],by simp,VRs.one ?_⟩
  simp only[VR]
  exact⟨none,0,rfl,by simp,fun h=>(by cases h),.inl rfl⟩
 ·have hex : ∀i,i<len → ∃x:τ,ok x ∧ ∃vs,w.cells? 0 (a.add (i*sz)) sz=some vs∧VRs Ctx.nil w (c x) vs:=by
   intro i hi
   have hb:=hall i hi
   rw[zgE (by omega),zob]at hb
   obtain⟨vs,k1,k2⟩:=hb
   obtain⟨x,k3,k4⟩:=h w n vs _ _ k2
   rw[hs]at k1
   exact⟨x,k3,vs,k1,k4⟩
  obtain⟨xs,h4,h5⟩:=qabc (Q:=fun i x=>ok x ∧ ∃vs,w.cells? 0 (a.add (i*sz)) sz=some vs∧VRs Ctx.nil w (c x) vs) len hex
  refine⟨xs,⟨fun x hx => ?_,by omega⟩,VRs.one ?_⟩
  ·obtain⟨i,hi,rfl⟩:=List.mem_iff_getElem.1 hx
   exact(h5 i _ (by simp[hi])).1
  ·simp only[VR]
   refine⟨some a,cap,by simp[h4],by simp[h4];omega,fun h=>(by cases h),?_⟩
   by_cases hx0:xs=[]
   ·left;simp[hx0]
   ·right
    have hlen0:0<xs.length:=List.length_pos_iff.2 hx0
    have hcell : ∀(i:Nat) (x:τ),xs[i]? = some x → ∀j,j<sz → ∃v,w.cell? ((a.add (i*sz)).add j)=some v:=by
     intro i x hx j hj
     obtain⟨_,vs,k1,k2⟩:=h5 i x hx
     obtain⟨_,k3,k4⟩:=World.cells?_some k1
     exact⟨vs[j]'(by omega),by rw[k4 j hj,zgE (by omega)]⟩
    obtain⟨v0,hv0⟩:=hcell 0 xs[0] (by simp[hlen0]) 0 h0
    obtain⟨b,off,spot⟩:=a
    have hspot:spot=none:=by simpa[Addr.add]using World.cell?_spot hv0
    subst hspot
    have hblt:b<w.heap.size:=by
     rw[Addr.add_lit,Addr.add_lit]at hv0
     unfold World.cell? at hv0
     cases hh:w.heap[b]? with
     |none=>rw[hh]at hv0;simp at hv0
     |some o=>exact(Array.getElem?_eq_some_iff.1 hh).1
    refine⟨b,off,sz,rfl,⟨hblt,id,id⟩,h0,?_,?_⟩
    ·intro e he
     obtain⟨x,_,rfl⟩:=List.mem_map.1 he
     exact hc x
    ·refine qah8 xs _ fun i x hx => ?_
     obtain⟨_,vs,k1,k2⟩:=h5 i x hx
     obtain⟨_,k3,k4⟩:=World.cells?_some k1
     refine qo.of_list k2 fun j v hj => ?_
     have hjl:=(zei.1 hj).1
     have:=k4 j (by omega)
     rw[hj,Addr.add_lit,Addr.add_lit]at this
     rw[←this]
     congr 2
     omega
end
end Go.Ev
namespace Go.Ev
open Go.RowKit (Below)
open Go.ChangeShapes Go.WideShapes Go.ChangeAt Go.RowKit
variable {H:Type} {enc:TypeId×Value→H} {P:Program}
theorem Ext.below {w w':World} {Γ':Ctx} (x:Ext Ctx.nil Γ' w w'):Below w.heap.size w w':=⟨x.os,x.tape,x.output,x.size,fun k hk=>x.same k hk id⟩
theorem q48 (hl:laidOutB P=true) {w w':World} (hb:Below w.heap.size w w') {sp:Nat→Bool} : ∀ {ts:List TypeId} {vs:List Value} {ds:List (DataW H)} {ps:List MemPlace},
  (∀t∈ts,P.readableRec t=true∧t<P.types.size)→DataW.TrodAll enc P w 0 (fun _=>true) true ts vs ds ps→(∀p∈ps,p.block<w.heap.size)→(∀p∈ps,sp p.block=true)→DataW.TrodAll enc P w' 0 sp true ts vs ds ps
 | [],[],[],ps,_,h,_,_=>h
 |t::ts,v::vs,d::ds,ps,ht,⟨p,q,h1,h2,e⟩,hlt,hs=>by
  subst e
  obtain⟨r1,r2⟩:=ht t (by simp)
  exact⟨p,q,WideElems.Trod_stays hl r1 r2 h1 (fun x hx=>hb.same (hlt x (wR _ hx))) (fun x hx=>hs x (wR _ hx)),
   q48 hl hb (fun u hu=>ht u (by simp[hu])) h2 (fun x hx=>hlt x (wz _ hx)) (fun x hx=>hs x (wz _ hx)),rfl⟩
 | [],_ :: _,_,_,_,h,_,_=>h.elim
 | [],[],_ :: _,_,_,h,_,_=>h.elim
 | _ :: _,[],_,_,_,h,_,_=>h.elim
 | _ :: _,_ :: _,[],_,_,h,_,_=>h.elim
theorem frz_bool {σ:qj} {d:Nat} {a:AV} {b:Bool}:frz σ (d+1) a=some (.v (.bool b))→a = .v (.bool b):=by
 intro h
 simp only[frz]at h
 split at h
 ·cases h;rfl
 ·cases a with
  |v x=>cases h;rfl
  |sl o g off len c=>
   simp only at h
   split at h
   ·split at h
    ·rw[zob]at h;obtain⟨_,_,h⟩:=h;cases h
    ·cases h
   ·cases h
  |ptr o g i off=>
   simp only at h
   split at h
   ·split at h
    ·rw[zob]at h;obtain⟨_,_,h⟩:=h
     rw[zob]at h;obtain⟨_,_,h⟩:=h;cases h
    ·cases h
   ·cases h
  |agg cs=>simp only[zob]at h;obtain⟨_,_,h⟩:=h;cases h
  |tup cs=>simp only[zob]at h;obtain⟨_,_,h⟩:=h;cases h
  |fsl es c=>simp only[zob]at h;obtain⟨_,_,h⟩:=h;cases h
  |fptr cs=>simp only[zob]at h;obtain⟨_,_,h⟩:=h;cases h
  |fn f a b=>simp only[zob]at h;obtain⟨_,_,_,_,h⟩:=h;cases h
  |yld o=>cases h
  |mp o=>cases h
theorem qalu {T:Tab} (hT:TabOk P T) {f:Nat} {cf:CFunc} (hc:T.code f=some cf) {as_:List AV} {b:Bool} (h:qm (evL T) f as_=some (.v (.bool b))) {W:World} {args:Array Value} (hv:VRs Ctx.nil W as_ args.toList) :
  Calls P f args W fun e W'=>e = .returned (.bool b)∧Below W.heap.size W W':=by
 unfold qm at h
 rw[zob]at h
 obtain⟨⟨r,σ⟩,h1,h2⟩:=h
 obtain rfl:=frz_bool (d:=5) h2
 have hn:=evL_ok hT f as_ [] _ σ h1 Ctx.nil W args.toList (SR.nil P W) hv
 rw[Array.toArray_toList,hT.enter hc]at hn
 refine(callsIn_wide.1 hn).mono fun e W' he => ?_
 cases e with
 |returned v=>
  obtain⟨Γ',k1,_,k3⟩:=he
  simp only[VR]at k1
  exact⟨by rw[k1],k3.below⟩
 |panicked _=>exact he.elim
 |outgrown=>exact he.elim
theorem qag9 {f:Func} {s:ChangeSpec} {apart fresh handsOn again:Bool} {W W':World} {args:Array Value} {ds gs:List (DataW H)} {before:List MemPlace} {tb:TypeId}
  (hvars:s.vars=[]) (hspec:s.fn H (ds++gs) = { results:=[.lit (.bool true)],args:=ds }) (hr:f.resultTypes = #[tb]) (htb:P.underlying tb=some .bool) (hl:laidOutB P=true)
  (hts : ∀t∈f.params.toList,P.readableRec t=true∧t<P.types.size)
  (hW:DataW.Whole enc P f.params.toList s.vars apart W args.toList ds gs before) (hb:Below W.heap.size W W'):s.post enc P f apart fresh handsOn again W args (.bool true) W':=by
 have hlt:=hW.lt
 have hW':=hW
 obtain⟨p,q,hA,hV,rfl,hz,hnd⟩:=hW
 rw[hvars]at hV
 obtain⟨rfl,rfl⟩:=trodVars_none hV
 have hargs : ∀sp:Nat→Bool,(∀x∈p,sp x.block=true)→DataW.TrodAll enc P W' 0 sp true f.params.toList args.toList ds p:=fun sp hs=>q48 hl hb hts hA (fun x hx=>hlt x (by simp[hx])) hs
 have hres : ∀(bb:Nat) (sp:Nat→Bool) (hd:Bool),DataW.TrodAll enc P W' bb sp hd f.resultTypes.toList ((Value.bool true).resultList f.resultTypes.size) [.lit (.bool true)] []:=fun bb sp hd=>by
  rw[hr]
  exact trodAll_mk1 (shut_bool htb true)
 refine⟨ds,[],p++[],[],p,[],hW',?_,?_,?_,hb.frame _,fun _=>⟨?_,?_⟩⟩
 ·rw[hspec];exact hres _ _ _
 ·rw[hspec];exact hargs _ fun x hx=>by simpa using hlt x (by simp[hx])
 ·rw[hspec,hvars];rfl
 ·exact ok_one hr rfl (okWide_bool_mk htb true)
 ·refine⟨[.lit (.bool true)]++ds,[],([]++p)++[],⟨[]++p,[],trodAll_append (hargs _ (fun _ _=>rfl)) (hres _ _ _),by rw[hvars];rfl,rfl,?_,?_⟩,?_⟩
  ·intro b off hp
   have hp':MemPlace.cell b off∈p:=by simpa using hp
   have hblt:b<W.heap.size:=hlt (.cell b off) (by simp[hp'])
   rw[hb.frozen (p:=⟨b,off,none⟩) hblt]
   exact hz b off (by simp[hp'])
  ·intro ha
   simpa using hnd ha
  ·intro x hx _
   simpa using hx
end Go.Ev
namespace Go.Ev
open Go.RowKit (Below)
open Go.ChangeShapes Go.WideShapes Go.ChangeAt Go.RowKit
section
variable {H:Type} (P:Program) (enc:TypeId×Value→H)
def qaen (ts:List TypeId) {τ:Type} (c:τ→List AV) (ok:τ→Prop):Prop:=
 ∀(W:World) (args:List Value) (ds:List (DataW H)) (p:List MemPlace),DataW.TrodAll enc P W 0 (fun _=>true) true ts args ds p →
  (∀(j:Nat) t v,ts[j]? = some t→args[j]? = some v → ∃base,Value.okWide P W .any base t v) → ∃x:τ,ok x∧VRs Ctx.nil W (c x) args∧ds.length=ts.length
variable {P enc}
def qao7:TypeDesc→Bool
 | .struct _=>false
 | .array _ _=>false
 | _=>true
theorem qaif {w:World} {r:Reach} {base:Nat} {t:TypeId} {v:Value} {u:TypeDesc} (hu:P.underlying t=some u) (hp:qao7 u=true) (h:Value.okWide P w r base t v) : ∀cs,v ≠ .agg cs:=by
 rintro cs rfl
 unfold Value.okWide at h
 rw[hu]at h
 cases u<;>simp only[qao7,Bool.false_eq_true]at hp<;>simp only[Cell.okWide,Cell.ok,hu]at h
theorem qalr:qaen P enc [] (fun _:Unit=>[]) (fun _=>True):=by
 intro W args ds p h _
 obtain⟨rfl,rfl,rfl⟩:=trodAll_nil h
 exact⟨(),trivial,by simp[VRs],rfl⟩
theorem q2l {t:TypeId} {ts:List TypeId} {u:TypeDesc} {α β:Type} {a:α→AV} {ok1:α→Prop} {c2:β→List AV} {ok2:β→Prop} (hu:P.underlying t=some u) (hp:qao7 u=true)
  (h1:qov P enc t (fun x=>[a x]) ok1) (h2:qaen P enc ts c2 ok2):qaen P enc (t::ts) (fun x:α×β=>a x.1::c2 x.2) (fun x=>ok1 x.1∧ok2 x.2):=by
 intro W args ds p h hval
 obtain⟨v,vs,d,ds',p,q,rfl,rfl,rfl,ht,hr⟩:=trodAll_cons h
 obtain⟨y,k1,k2,k3⟩:=h2 W vs ds' q hr fun j t v e1 e2=>hval (j+1) t v (by simpa using e1) (by simpa using e2)
 obtain⟨fuel,hf⟩:=ht
 obtain⟨x,m1,m2⟩:=h1 W fuel _ d p hf
 obtain⟨base,hv⟩:=hval 0 t v rfl rfl
 have hna:=qaif hu hp hv
 have hc:v.cells.toList=[v]:=by
  cases v with
  |agg cs=>exact absurd rfl (hna cs)
  | _=>rfl
 rw[hc]at m2
 simp only[VRs]at m2
 obtain⟨v',r,e,m3,rfl⟩:=m2
 cases e
 refine⟨(x,y),⟨m1,k1⟩,?_,by simp[k3]⟩
 simp only[VRs]
 exact⟨v,vs,rfl,m3,k2⟩
theorem qafw {t:TypeId} {ts:List TypeId} {fs:Array Field} {α β:Type} {c1:α→List AV} {ok1:α→Prop} {c2:β→List AV} {ok2:β→Prop} (hu:P.underlying t=some (.struct fs))
  (h1:qov P enc t c1 ok1) (h2:qaen P enc ts c2 ok2):qaen P enc (t::ts) (fun x:α×β => .agg (c1 x.1)::c2 x.2) (fun x=>ok1 x.1∧ok2 x.2):=by
 intro W args ds p h hval
 obtain⟨v,vs,d,ds',p,q,rfl,rfl,rfl,ht,hr⟩:=trodAll_cons h
 obtain⟨y,k1,k2,k3⟩:=h2 W vs ds' q hr fun j t v e1 e2=>hval (j+1) t v (by simpa using e1) (by simpa using e2)
 obtain⟨fuel,hf⟩:=ht
 obtain⟨x,m1,m2⟩:=h1 W fuel _ d p hf
 obtain⟨base,hv⟩:=hval 0 t v rfl rfl
 obtain⟨cs,rfl,_⟩:=okWide_struct hu hv
 refine⟨(x,y),⟨m1,k1⟩,?_,by simp[k3]⟩
 simp only[VRs]
 refine⟨_,vs,rfl,?_,k2⟩
 simp only[VR]
 exact⟨cs.toList,by simp,by simpa[Value.cells]using m2⟩
end
theorem qajy {H:Type} {enc:TypeId×Value→H} {P:Program} {T:Tab} (hT:TabOk P T) {f:Nat} {fn:Func} {cf:CFunc} (hc:T.code f=some cf) {s:ChangeSpec} {apart:Bool} {ts:List TypeId} {tb:TypeId} {τ:Type} {c:τ→List AV} {ok:τ→Prop}
  (hpar:fn.params.toList=ts) (hargs:qaen P enc ts c ok) (hlaw : ∀x,ok x→qm (evL T) f (c x)=some (.v (.bool true)))
  (hvars:s.vars=[]) (hspec : ∀ds:List (DataW H),ds.length=ts.length→s.fn H ds = { results:=[.lit (.bool true)],args:=ds })
  (hr:fn.resultTypes = #[tb]) (htb:P.underlying tb=some .bool) (hl:laidOutB P=true) (hts : ∀t∈ts,P.readableRec t=true∧t<P.types.size)
  (W:World) (base:Nat) (args:Array Value) (ds gs:List (DataW H)) (before:List MemPlace) (hval : ∀(j:Nat) t v,fn.params[j]? = some t→args[j]? = some v→Value.okWide P W .any base t v)
  (hW:DataW.Whole enc P fn.params.toList s.vars apart W args.toList ds gs before):Calls P f args W fun e W' => ∃v,e = .returned v∧s.post enc P fn apart true false false W args v W':=by
 have hW':=hW
 obtain⟨p,q,hA,hV,rfl,hz,hnd⟩:=hW
 rw[hvars]at hV
 obtain⟨rfl,rfl⟩:=trodVars_none hV
 obtain⟨x,h1,h2,h3⟩:=hargs W args.toList ds p (hpar▸hA) fun j t v e1 e2=>⟨base,hval j t v (by rw[←hpar]at e1;simpa using e1) (by simpa using e2)⟩
 refine(qalu hT hc (hlaw x h1) h2).mono fun e W' ⟨he,hb⟩=>⟨_,he,?_⟩
 exact qag9 hvars (by rw[List.append_nil];exact hspec ds h3) hr htb hl (by rw[hpar];exact hts) hW' hb
end Go.Ev
namespace Go.Proofs.YtpgdfkciinankaaGreat.K
open Go.Ev
open Go.ChangeShapes Go.WideShapes Go.ChangeAt Go.RowKit
section
variable {H:Type} {enc:TypeId×Value→H}
theorem wf_u8 {n:Int} (h:(Lit.int .u8 n).wf=true):0≤n∧n≤255:=by
 simp[Lit.wf]at h
 have h1:IntKind.u8.min=0:=rfl
 have h2:IntKind.u8.max=255:=rfl
 omega
theorem wf_i64 {n:Int} (h:(Lit.int .i64 n).wf=true) : -9223372036854775808≤n∧n≤9223372036854775807:=by
 simp[Lit.wf]at h
 have h1:IntKind.i64.min = -9223372036854775808:=rfl
 have h2:IntKind.i64.max=9223372036854775807:=rfl
 omega
theorem qst:qov Tryz.prog enc 3 (fun n:Int=>[(ii n)]) (fun n => -9223372036854775808≤n∧n≤9223372036854775807):=(qaee Tryz.underlying3).map id (fun _=>rfl) (fun _ h=>wf_i64 h)
theorem qai2:qov Tryz.prog enc 5 (fun n:Int=>[(.v (.int .u8 n))]) (fun n=>0≤n∧n≤255):=(qaee Tryz.underlying5).map id (fun _=>rfl) (fun _ h=>wf_u8 h)
theorem data_u8s:qov Tryz.prog enc 26 (fun l:List Int=>[(.fsl ((l).map u8C) false)]) (fun l=>(∀x∈l,0≤x∧x≤255)∧l.length≤maxLen):=qrl (sz:=1) Tryz.underlying26 (by kernel_rfl) (by decide) (fun _=>rfl) qai2
theorem data_op:qov Tryz.prog enc 91 OpI.r (fun _=>True):=by
 have h:=qwe (P:=Tryz.prog) (enc:=enc) (t:=91) Tryz.underlying91 (qgq (sz:=1) rfl (by kernel_rfl) qst (qgq (sz:=1) rfl (by kernel_rfl) qst (qgq (sz:=1) rfl (by kernel_rfl) qst (qgq (sz:=1) rfl (by kernel_rfl) qst (q0k _))))) (by kernel_rfl)
 exact h.map (fun x=>(⟨x.1,x.2.1,x.2.2.1,x.2.2.2.1⟩:OpI)) (fun _=>rfl) (fun _ _=>trivial)
theorem qam8:qov Tryz.prog enc 61 (fun l:List OpI=>[(.fsl ((l).map OpI.r) false)]) (fun l=>(∀x∈l,True)∧l.length≤maxLen):=qrl (sz:=4) Tryz.underlying61 (by kernel_rfl) (by decide) (fun _=>rfl) data_op
theorem qak4:qov Tryz.prog enc 23 (fun l:List (List OpI)=>[(.fsl ((l).map qau) false)]) (fun l=>(∀x∈l,(∀y∈x,True)∧x.length≤maxLen)∧l.length≤maxLen):=qrl (sz:=1) Tryz.underlying23 (by kernel_rfl) (by decide) (fun _=>rfl) qam8
theorem qal1:qov Tryz.prog enc 64 Start.r (fun _=>True):=by
 have h:=qwe (P:=Tryz.prog) (enc:=enc) (t:=64) Tryz.underlying64 (qgq (sz:=1) rfl (by kernel_rfl) qst (qgq (sz:=1) rfl (by kernel_rfl) qst (q0k _))) (by kernel_rfl)
 exact h.map (fun x=>(⟨x.1,x.2.1⟩:Start)) (fun _=>rfl) (fun _ _=>trivial)
theorem qais:qov Tryz.prog enc 60 (fun l:List Start=>[(.fsl ((l).map Start.r) false)]) (fun l=>(∀x∈l,True)∧l.length≤maxLen):=qrl (sz:=2) Tryz.underlying60 (by kernel_rfl) (by decide) (fun _=>rfl) qal1
theorem data_lps:qov Tryz.prog enc 22 (fun l:List (List Start)=>[(.fsl ((l).map lpC) false)]) (fun l=>(∀x∈l,(∀y∈x,True)∧x.length≤maxLen)∧l.length≤maxLen):=qrl (sz:=1) Tryz.underlying22 (by kernel_rfl) (by decide) (fun _=>rfl) qais
theorem data_cfg:qov Tryz.prog enc 25 (fun c:Cfg=>[(.fsl ((c.lps).map lpC) false),(.fsl ((c.progs).map qau) false),(ii c.look),(ii c.fin),(ii c.cap)]) (fun c => -9223372036854775808≤c.look∧c.look≤9223372036854775807):=by
 have h:=qwe (P:=Tryz.prog) (enc:=enc) (t:=25) Tryz.underlying25 (qgq (sz:=1) rfl (by kernel_rfl) data_lps (qgq (sz:=1) rfl (by kernel_rfl) qak4 (qgq (sz:=1) rfl (by kernel_rfl) qst (qgq (sz:=1) rfl (by kernel_rfl) qst (qgq (sz:=1) rfl (by kernel_rfl) qst (q0k _)))))) (by kernel_rfl)
 exact h.map (fun x=>(⟨x.1,x.2.1,x.2.2.1,x.2.2.2.1,x.2.2.2.2.1⟩:Cfg)) (fun _=>rfl) (fun _ h=>h.2.2.1)
end
theorem own:ownKnob Tryz.prog.godebug=none:=by kernel_rfl
theorem laid:laidOutB Tryz.prog=true:=by kernel_rfl
end Go.Proofs.YtpgdfkciinankaaGreat.K
