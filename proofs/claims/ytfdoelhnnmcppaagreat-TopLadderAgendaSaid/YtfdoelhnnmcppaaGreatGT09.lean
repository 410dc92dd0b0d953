/- For every input the statement of this claim returns true: texts of its proof, joined (part 10). -/
import Derived.Test.YtfdoelhnnmcppaaGreatGT04
import Derived.Test.YtfdoelhnnmcppaaGreatGT06
import Derived.Test.YtfdoelhnnmcppaaGreatGT07
import Derived.Test.YtfdoelhnnmcppaaGreatGT08
set_option linter.unusedSectionVars false
set_option linter.unusedSimpArgs false
set_option linter.unusedVariables false
open Nat renaming reduceEqDiff → wa, reduceAdd → wc, reduceLeDiff → wi, reduceLT → wv, reducePow → wy, zero_le → wA, le_refl → wI, add_assoc → wQ
open _root_ renaming reduceIte → wb, reduceCtorEq → wd
open Go.Ev.AV renaming plain → we, cells → wf, uc → wz
open Go.Ev renaming look → wg, ev1 → wh, stP → wt
open List renaming length_append → wj, length_set → wm, getElem?_set_ne → wn, getElem?_set_self → wp, map_nil → wq, replicate → wr, getElem?_append_right → ws, take_length → wu, mem_append → ww, mem_append_left → wx, getElem?_append_left → wB, set_append → wC, mem_iff_getElem? → wF, getElem?_map → wG, take_append_of_le_length → wJ, mem_singleton → wK, map_append → wL, append_nil → wM, map_cons → wN, mem_append_right → wP, length_map → wR
open Int renaming lt_irrefl → wk, reduceEq → wD, reduceNeg → wE
open Go.Ev.SObj renaming lo → wo
open Bool renaming and_eq_true → wH
open List.Pairwise renaming sublist → wO
namespace Go.Proofs.YtfdoelhnnmcppaaGreat.K
open Go.Ev
set_option maxRecDepth 10000
section
variable (σ:qf) (p o g n:Nat) (G:List (List Int)) (D:List Evt)
structure Grown (τ:qf) (n o:Nat) (R:List (List AV)) (g:Nat):Prop where
 len:τ.length=n
 lt:o<n
 at_:τ[o]? = some (.row 6 R g)
 lo:qer n τ=true
theorem Grown.new {τ:qf} {R:List (List AV)} (h:Grown τ n o R g) (x:SObj):(τ++[x])[n]? = some x:=by rw[←h.len];simp
theorem Grown.setNew {τ:qf} {R:List (List AV)} (h:Grown τ n o R g) (x y:SObj):(τ++[x]).set n y=τ++[y]:=by rw[←h.len];simp
theorem Grown.old {τ:qf} {R:List (List AV)} (h:Grown τ n o R g) (x:SObj):(τ++[x])[o]? = some (.row 6 R g):=by rw[wB (by rw[h.len];exact h.lt)];exact h.at_
theorem Grown.setOld {τ:qf} {R:List (List AV)} (h:Grown τ n o R g) (x y:SObj):(τ++[x]).set o y=τ.set o y++[x]:=by rw[wC,if_pos (by rw[h.len];exact h.lt)]
theorem Grown.cut {τ:qf} {R:List (List AV)} (h:Grown τ n o R g) (x:SObj):(τ++[x]).take n=τ:=by rw[←h.len];simp
theorem Grown.cut2 {τ:qf} {R:List (List AV)} (h:Grown τ n o R g) (x y:SObj):(τ.set o y++[x]).take n=τ.set o y:=by
 have e:(τ.set o y).length=n:=by rw[wm];exact h.len
 rw[←e,List.take_left]
theorem Grown.of {τ:qf} (hn:σ.length=n) (ho:o<n) (hl:qer n σ=true) (E:List Evt):Grown (σ.set o (.row 6 ((E).map Evt.r) g)) n o (E.map Evt.r) g:=
 ⟨by rw[wm];exact hn,ho,by rw[wp (by omega)],q1k hl o (by simp only[SObj.lo,qa1])⟩
theorem delete_L (H:GoneAt σ p G) (hn:σ.length=n) (hl:qer n σ=true) (hp:p<n) (hol:o<n) (hpo:¬p=o) (hD:D.length≤1000000) (hk : ∀x∈D,x.key.length≤9223372036854775807) :
  ∀(j:Nat) (E:List Evt),j≤D.length→DelInv G D j E →
  ∃y,itB (exec (evL T) itL none qal) (qao [0,1,5,6] true n) ⟨[(0,.sl o g 0 D.length false),(1,(.fn (.func qs) [] [.ptr p 1 0 0])),(5,(ii (((D.take j).filter (qe2 G)).length))),(6,(ii j))],[]⟩ (σ.set o (.row 6 ((E).map Evt.r) g))=some y ∧
   ∃E':List Evt,E'.length=D.length∧E'.take (D.filter (qe2 G)).length=D.filter (qe2 G)∧(D.filter (qe2 G)).length≤D.length∧y.1 = .exit 0∧y.2.1.marks=[]∧y.2.2=(σ.set o (.row 6 ((E').map Evt.r) g))∧wg y.2.1.vars 0=some (.sl o g 0 D.length false)∧wg y.2.1.vars 5=some (ii ((D.filter (qe2 G)).length)):=by
 refine qh5 (f:=exec (evL T) itL none qal) (s:=qao [0,1,5,6] true n) (α:=List Evt)
  (fun j E=>⟨[(0,.sl o g 0 D.length false),(1,(.fn (.func qs) [] [.ptr p 1 0 0])),(5,(ii (((D.take j).filter (qe2 G)).length))),(6,(ii j))],[]⟩) (fun j E=>(σ.set o (.row 6 ((E).map Evt.r) g)))
  (fun j E=>DelInv G D j E) D.length _ ?_ ?_
 ·intro j E hj hE
  obtain⟨z,hz⟩ : ∃x,D[j]? = some x:=⟨_,zgE hj⟩
  have hzE:=hE.mem hj
  rw[hz]at hzE
  have hj':(j:Int)<(D.length:Int):=by omega
  have hw:IntKind.i64.wrap ((j:Int)+1)=((j+1:Nat):Int):=by rw[qk (by omega) (by omega)];simp
  obtain⟨m,hm⟩ : ∃m,m=((D.take j).filter (qe2 G)).length:=⟨_,rfl⟩
  have hml:=hE.lt
  rw[←hm]at hml
  have hmD:m<D.length:=by omega
  have hwm:IntKind.i64.wrap ((m:Int)+1)=((m+1:Nat):Int):=by rw[qk (by omega) (by omega)];simp
  have gr:=Grown.of (τ:=(σ.set o (.row 6 ((E).map Evt.r) g))) σ o g n hn hol hl E
  have hpE:(σ.set o (.row 6 ((E).map Evt.r) g))[p]? = some (.row 1 [[(.fsl ((G).map qnv) false)]] 1):=by rw[wn (fun h=>hpo h.symm)];exact H.at_
  have hpEx : ∀x,((σ.set o (.row 6 ((E).map Evt.r) g))++[x])[p]? = some (.row 1 [[(.fsl ((G).map qnv) false)]] 1):=fun x=>by rw[wB (by rw[gr.len];exact hp)];exact hpE
  have he:=fun x=>qahq G z ((σ.set o (.row 6 ((E).map Evt.r) g))++[x]) p (hpEx x) H.len H.key (hk z (zmg hz))
  have hEl:E.length=D.length:=hE.len
  obtain⟨w,hem⟩ : ∃w,E[m]? = some w:=⟨_,zgE (by omega)⟩
  have gset : ∀v:Evt,(σ.set o (.row 6 ((E).map Evt.r) g)).set o (.row 6 ((E.map Evt.r).set m v.r) g)=(σ.set o (.row 6 ((E.set m v).map Evt.r) g)):=fun v=>by rw[List.set_set,List.map_set]
  have gs:=Grown.of (τ:=(σ.set o (.row 6 ((E.set m z).map Evt.r) g))) σ o g n hn hol hl (E.set m z)
  have n1:=gr.new;have n2:=gr.setNew;have n3:=gr.old;have n4:=gr.setOld;have n5:=gr.cut;have n6:=gr.cut2;have n7:=gr.lo;have n8:=gr.at_;have n9:=gr.len
  have lo1:=gs.lo
  have cases_:=hE.keep hz
  have cased:=hE.drop hz
  rw[←hm]at cases_
  rw[←hm]
  generalize hτ:(σ.set o (.row 6 ((E).map Evt.r) g))=τ at he n1 n2 n3 n4 n5 n6 n7 n8 n9 gset hpE
  cases hb:qe2 G z with
  |true=>
   have e1:((D.take (j+1)).filter (qe2 G)).length=m+1:=by rw[qf6 hz,List.filter_append,wj,←hm];simp[hb]
   rw[hb]at he
   have gz:=gset z
   refine .inl ⟨E.set m z,?_,cases_ hb⟩
   rw[e1,←gz]
   rw[←gz]at lo1
   obtain⟨zt,zk,zl,zi,zp,za⟩:=z
   simp only[Evt.r]at lo1 he⊢
   simp only[qal,zgs,zgr,zgq,zgt,hzE,hem,hj,hj',hw,hwm,hmD,he,n1,n2,n3,n4,n6,n8,n9,lo1,hp,hol,Evt.r,wh,wt,qb,wf,we,ne_eq,zgy,↓qc,↓wb,wc,wa,wd]
  |false=>
   have e1:((D.take (j+1)).filter (qe2 G)).length=m:=by rw[qf6 hz,List.filter_append,wj,←hm];simp[hb]
   rw[hb]at he
   refine .inl ⟨E,?_,cased hb⟩
   rw[e1,hτ]
   obtain⟨zt,zk,zl,zi,zp,za⟩:=z
   simp only[]at he⊢
   simp only[qal,zgs,zgr,zgq,zgt,hzE,hj,hj',hw,he,n1,n2,n5,n7,n8,n9,hp,hol,Evt.r,wh,wt,qb,wf,we,ne_eq,zgy,↓qc,↓wb,wc,wa,wd]
 ·intro E hE
  have hk:=hE.kept
  have hle:=List.length_filter_le (qe2 G) D
  rw[wu]at hk
  rw[wu]
  simp only[qal,wk,wh,zgy,↓qc,↓wb,wa,wd]
  exact⟨_,rfl,E,hE.len,hk,hle,rfl,rfl,rfl,rfl,rfl⟩
theorem qanh (H:GoneAt σ p G) (hn:σ.length=n) (hl:qer n σ=true) (hp:p<n) (hol:o<n) (hpo:¬p=o) (ho:σ[o]? = some (.row 6 (D.map Evt.r) g)) (hD:D.length≤1000000) (hk : ∀x∈D,x.key.length≤9223372036854775807) :
  ∃E:List Evt,(D.filter (qe2 G)).length≤E.length∧E.take (D.filter (qe2 G)).length=D.filter (qe2 G) ∧
   (evL T).call qaf [.sl o g 0 D.length false,(.fn (.func qs) [] [.ptr p 1 0 0])] σ=some (.sl o g 0 (D.filter (qe2 G)).length false,(σ.set o (.row 6 ((E).map Evt.r) g))):=by
 obtain⟨i,h1,h2⟩:=qaf9 σ p o g G D H (by rw[hn];exact hl) (by omega) ho (by omega) hD hk
 have tl:List.take n σ=σ:=by rw[←hn];exact wu
 have hset:σ.set o (.row 6 (D.map Evt.r) g)=σ:=by
  obtain⟨_,hx⟩:=zei.1 ho
  rw[←hx,List.set_getElem_self]
 rw[qg qji qi0]
 rcases h2 with ⟨rfl,ha⟩|⟨j,z,rfl,hz,hb,ha⟩
 ·have e0:D.filter (qe2 G)=D:=List.filter_eq_self.2 (fun x hx=>List.all_eq_true.1 ha x hx)
  refine⟨D,by rw[e0];exact wI _,by rw[e0,wu],?_⟩
  rw[e0,hset]
  simp only[qba,h1,hl,hn,tl,ite_self,wh,ql,zgy,↓qc,↓wb,wc,wa,wE,wd]
 ·have hlt:=(zei.1 hz).1
  obtain⟨d1,d2⟩:=DelInv.first hz hb ha
  obtain⟨⟨y,e,τ⟩,k1,E,k2,k3,k4,k5,k6,k7,k8,k9⟩:=delete_L σ p o g n G D H hn hl hp hol hpo hD hk (j+1) D (by omega) d1
  simp only at k5 k6 k7 k8 k9
  rw[d2,hset]at k1
  subst k5;subst k7
  have gr:=Grown.of (τ:=(σ.set o (.row 6 ((E).map Evt.r) g))) σ o g n hn hol hl E
  have hw:IntKind.i64.wrap ((j:Int)+1)=((j+1:Nat):Int):=by rw[qk (by omega) (by omega)];simp
  have hne:¬(j:Int) = -1:=by omega
  obtain⟨m,hm⟩ : ∃m,m=(D.filter (qe2 G)).length:=⟨_,rfl⟩
  rw[←hm]at k3 k4 k9⊢
  have c1:(0:Int)≤(m:Int):=Int.natCast_nonneg _
  have c2:(m:Int)≤(D.length:Int):=by omega
  have c3:m+(D.length-m)≤D.length:=by omega
  have hs:=gr.at_
  have hlen:(E.map Evt.r).length=D.length:=by rw[wR];exact k2
  have c4:(0:Int)≤(D.length:Int):=Int.natCast_nonneg _
  have dn:List.drop (m+(D.length-m)) (E.map Evt.r)=[]:=List.drop_eq_nil_of_le (by omega)
  have hE2:(E.map Evt.r).take m++wr (D.length-m) zEvt.r=(E.take m++wr (D.length-m) zEvt).map Evt.r:=by rw[wL,List.map_take,List.map_replicate]
  have n7:=gr.lo;have n9:=gr.len
  refine⟨E.take m++wr (D.length-m) zEvt,by rw[wj,List.length_take,List.length_replicate];omega,by rw[wJ (by rw[List.length_take];omega),List.take_take,Nat.min_self];exact k3,?_⟩
  rw[←hE2]
  have gset : ∀v:SObj,(σ.set o (.row 6 ((E).map Evt.r) g)).set o v=σ.set o v:=fun v=>by rw[List.set_set]
  have hss : ∀v:SObj,(σ.set o v)[o]? = some v:=fun v=>wp (by omega)
  have hts : ∀v:SObj,(σ.set o v).take n=σ.set o v:=fun v=>by rw[ztl (by rw[wm];omega)]
  generalize (σ.set o (.row 6 ((E).map Evt.r) g))=τ at *
  simp only[zEvt_r]
  simp only[qba,zgr,h1,hl,hn,tl,hne,hw,k1,k6,k8,k9,c1,c2,c3,hs,hlen,dn,gset,hss,hts,hp,hol,Int.le_refl,imp_self,Nat.sub_zero,ite_self,wh,we,ql,zgy,implies_true,↓qc,↓qx,↓wb,wc,wa,Int.reduceToNat,wE,wd]
  done
end
set_option maxRecDepth 10000
def qsb (l:List Evt):List AV:=[(.fsl ((l).map Evt.r) false)]
theorem evtsC_lo (n:Nat) (l:List Evt):los n (qsb l)=true:=by simp only[qsb,los,AV.lo,qa1,zfc]
theorem q74 (n:Nat) (l:List (List Evt)):qk9 n (l.map qsb)=true:=qk2 (evtsC_lo n) l
theorem grow_ev (n:Nat) (h:n≤1000000):(evL T).call qaj [.fsl [] true,(ii n)] [] =
  if n=0 then some (.fsl [] true,[])else some (.sl 0 0 0 0 false,[.row 6 ((wr n zEvt).map Evt.r) 0]):=by
 have c1:¬(n:Int)<0:=by omega
 have w:IntKind.i64.wrap ((n:Int)-((0:Nat):Int))=n:=by rw[qk (by omega) (by omega)];omega
 have w0:IntKind.i64.wrap 0=0:=rfl
 have w1:IntKind.i64.wrap ((n:Int)-0)=n:=by rw[qk (by omega) (by omega)];omega
 have ok:=q8d (wr n zEvt)
 rw[List.map_replicate]at ok⊢
 have b:n*64≤140737488355328:=by omega
 rw[qg qlg qk3]
 by_cases h0:n=0
 ·subst h0
  rw[if_pos rfl]
  simp only[qb3,wk,w0,Int.sub_zero,gt_iff_lt,wh,ql,zgy,↓qc,↓wb,wc,wa,wd]
 ·have c2:(n:Int)>0:=by omega
  rw[if_neg h0]
  simp only[zEvt_r]at ok⊢
  simp only[qb3,zgr,c1,c2,w0,w1,ok,b,zgs,Nat.sub_zero,Int.le_refl,wh,ql,zgy,implies_true,↓qc,↓wb,wc,wa,wv,wy,Int.reduceSub,Int.reduceToNat,wd]
set_option maxRecDepth 10000
section
variable (xs:List (List Evt)) (cl:Bool)
theorem q2t {xs:List (List Evt)} {i:Nat} {x:List Evt} (h:xs[i]? = some x):(xs.take (i+1)).flatten=(xs.take i).flatten++x:=by rw[qf6 h,List.flatten_append];simp
theorem qahc (xs:List (List Evt)) (i:Nat):(xs.take i).flatten.length≤xs.flatten.length:=by
 have:xs.flatten=(xs.take i).flatten++(xs.drop i).flatten:=by rw[←List.flatten_append,List.take_append_drop]
 rw[this,wj];omega
theorem qamy (hx:xs.length≤1000000) (hT:xs.flatten.length≤1000000) :
  ∃y,itB (exec (evL T) itL none qbh) (qao [0,3,9,10,11] true 0) ⟨[(0,(.fsl ((xs).map qsb) cl)),(3,(ii 0)),(9,(.fsl ((xs).map qsb) cl)),(10,(ii xs.length)),(11,(ii 0))],[]⟩ []=some y ∧
   y.1 = .exit 0∧y.2.1.marks=[]∧y.2.2=[]∧wg y.2.1.vars 0=some (.fsl ((xs).map qsb) cl)∧wg y.2.1.vars 3=some (ii xs.flatten.length):=by
 have key:=qh5 (f:=exec (evL T) itL none qbh) (s:=qao [0,3,9,10,11] true 0) (α:=Unit)
  (fun i _=>⟨[(0,(.fsl ((xs).map qsb) cl)),(3,(ii ((xs.take i).flatten.length))),(9,(.fsl ((xs).map qsb) cl)),(10,(ii xs.length)),(11,(ii i))],[]⟩) (fun _ _=>[])
  (fun _ _=>True) xs.length (fun y=>y.1 = .exit 0∧y.2.1.marks=[]∧y.2.2=[]∧wg y.2.1.vars 0=some (.fsl ((xs).map qsb) cl)∧wg y.2.1.vars 3=some (ii xs.flatten.length)) ?_ ?_ 0 () (wA _) trivial
 ·exact key
 ·rintro i _ hi _
  obtain⟨x,hx'⟩ : ∃x,xs[i]? = some x:=⟨_,zgE hi⟩
  have hi':(i:Int)<(xs.length:Int):=by omega
  have hw:IntKind.i64.wrap ((i:Int)+1)=((i+1:Nat):Int):=by rw[qk (by omega) (by omega)];simp
  have h1:=qahc xs (i+1)
  rw[q2t hx',wj]at h1
  have h2:IntKind.i64.wrap (((xs.take i).flatten.length:Int)+(x.length:Int))=(((xs.take i).flatten.length+x.length:Nat):Int):=qg4 (by omega)
  refine .inl ⟨(),?_,trivial⟩
  rw[q2t hx',wj]
  generalize (xs.take i).flatten.length=m at h2 h1⊢
  have h3:¬((m+x.length:Nat):Int)<0:=by omega
  simp only[qbh,zgs,zgr,zgq,zgt,hx',hi',hw,h2,h3,qsb,q74,wh,qb,zgy,↓qc,↓wb,wa,wd]
 ·rintro _ _
  simp only[qbh,wk,wu,wh,zgy,↓qc,↓wb,wa,wd]
  exact⟨_,rfl,rfl,rfl,rfl,rfl,rfl⟩
def CInv (xs:List (List Evt)) (i:Nat) (a:AV×qf):Prop:=
 (i=0∧xs.flatten.length=0∧a=(.fsl [] true,[])) ∨
 ∃(g:Nat) (W:List Evt),a=(.sl 0 g 0 (xs.take i).flatten.length false,[.row 6 (W.map Evt.r) g])∧(W=(xs.take i).flatten∨(xs.take i).flatten=[]∧0<xs.flatten.length)
theorem qamw (hx:xs.length≤1000000) (hT:xs.flatten.length≤1000000) (a:AV×qf) (ha:CInv xs 0 a) (n:Nat) :
  ∃y,itB (exec (evL T) itL none qai) (qao [6,25,26,27] false n) ⟨[(6,a.1),(25,(.fsl ((xs).map qsb) cl)),(26,(ii xs.length)),(27,(ii 0))],[]⟩ a.2=some y ∧
   ∃b,CInv xs xs.length b∧y.1 = .exit 2∧y.2.1.marks=[]∧y.2.2=b.2∧wg y.2.1.vars 6=some b.1:=by
 have key:=qh5 (f:=exec (evL T) itL none qai) (s:=qao [6,25,26,27] false n) (α:=AV×qf)
  (fun i a=>⟨[(6,a.1),(25,(.fsl ((xs).map qsb) cl)),(26,(ii xs.length)),(27,(ii i))],[]⟩) (fun _ a=>a.2)
  (fun i a=>CInv xs i a) xs.length (fun y => ∃b,CInv xs xs.length b∧y.1 = .exit 2∧y.2.1.marks=[]∧y.2.2=b.2∧wg y.2.1.vars 6=some b.1) ?_ ?_ 0 a (wA _) ha
 ·exact key
 ·rintro i a hi ha
  obtain⟨x,hx'⟩ : ∃x,xs[i]? = some x:=⟨_,zgE hi⟩
  have hi':(i:Int)<(xs.length:Int):=by omega
  have hw:IntKind.i64.wrap ((i:Int)+1)=((i+1:Nat):Int):=by rw[qk (by omega) (by omega)];simp
  have h1:=qahc xs (i+1)
  have hfl:=q2t hx'
  rw[hfl,wj]at h1
  have ok:=q8d x
  rcases ha with ⟨hi0,h0,rfl⟩|⟨g,W,rfl,hW⟩
  ·have hfi:(xs.take i).flatten=[]:=by rw[hi0];rfl
   have hx0:x=[]:=List.eq_nil_of_length_eq_zero (by omega)
   subst hx0
   refine .inl ⟨(.sl 0 0 0 0 false,[.row 6 [] 0]),?_,.inr ⟨0,[],?_,.inl ?_⟩⟩
   ·simp only[qai,zgs,zgr,zgq,zgt,hx',hi',hw,qsb,wq,Nat.zero_mul,wA,wh,q6o,qb,qdr,ne_eq,zgy,↓qc,↓wb,wa,wv,wy]
   ·rw[hfl,hfi];simp
   ·rw[hfl,hfi];simp
  ·by_cases hx0:x=[]
   ·subst hx0
    rw[wM]at hfl
    refine .inl ⟨(.sl 0 g 0 (xs.take i).flatten.length false,[.row 6 (W.map Evt.r) g]),?_,.inr ⟨g,W,by rw[hfl],by rw[hfl];exact hW⟩⟩
    have hWl:(xs.take i).flatten.length≤W.length:=by
     rcases hW with rfl|⟨h,_⟩
     ·exact wI _
     ·rw[h];exact wA _
    have b:(xs.take i).flatten.length*64≤140737488355328:=by have:=h1;simp at this;omega
    simp only[qai,zgs,zgr,zgq,zgt,hx',hi',hw,qsb,wq,hWl,b,wh,q6o,qb,qdr,zgy,↓qc,↓wb,wa,wy]
   ·have hWl:(xs.take i).flatten.length≤W.length∧W.take (xs.take i).flatten.length=(xs.take i).flatten:=by
     rcases hW with rfl|⟨h,_⟩
     ·exact⟨wI _,wu⟩
     ·rw[h];exact⟨wA _,rfl⟩
    obtain⟨w1,w2⟩:=hWl
    have hm:x.map Evt.r ≠ []:=by simpa using hx0
    have w3:(W.map Evt.r).take (xs.take i).flatten.length=((xs.take i).flatten).map Evt.r:=by rw[←List.map_take,w2]
    have b:((xs.take i).flatten.length+x.length)*64≤140737488355328:=by omega
    refine .inl ⟨(.sl 0 (g+1) 0 ((xs.take i).flatten.length+x.length) false,[.row 6 (((xs.take i).flatten++x).map Evt.r) (g+1)]),?_,.inr ⟨g+1,_,by rw[hfl,wj],.inl hfl.symm⟩⟩
    rw[wL]
    generalize (xs.take i).flatten=F at *
    simp only[qai,zgs,zgr,zgq,zgt,hx',hi',hw,qsb,ok,hm,w1,w3,b,wh,q6o,qb,qdr,zgy,↓qc,↓wb,wa,wy]
 ·rintro a ha
  simp only[qai,wk,wh,zgy,↓qc,↓wb,wa]
  exact⟨_,rfl,a,ha,rfl,rfl,rfl,rfl⟩
theorem qant (hx:xs.length≤1000000) (hT:xs.flatten.length≤1000000) (hne:xs ≠ []) :
  ∃g:Nat,(evL T).call qj [(.fsl ((xs).map qsb) cl)] []=some (.sl 0 g 0 xs.flatten.length false,[.row 6 (xs.flatten.map Evt.r) g]):=by
 obtain⟨⟨y,e,σ⟩,k1,k2,k3,k4,k5,k6⟩:=qamy xs cl hx hT
 simp only at k1 k2 k3 k4 k5 k6
 subst k2;subst k4
 have hg:=grow_ev xs.flatten.length hT
 obtain⟨a,n,ha,hc,hn⟩ : ∃(a:AV×qf) (n:Nat),CInv xs 0 a∧(evL T).call qaj [.fsl [] true,(ii xs.flatten.length)] []=some a∧a.2.length=n:=by
  by_cases h0:xs.flatten.length=0
  ·exact⟨_,_,.inl ⟨rfl,h0,rfl⟩,by rw[hg,if_pos h0],rfl⟩
  ·exact⟨(.sl 0 0 0 0 false,[.row 6 ((wr xs.flatten.length zEvt).map Evt.r) 0]),_,.inr ⟨0,_,rfl,.inr ⟨rfl,by omega⟩⟩,by rw[hg,if_neg h0],rfl⟩
 obtain⟨⟨y',e',σ'⟩,l1,b,hb,l2,l3,l4,l5⟩:=qamw xs cl hx hT a ha n
 simp only at l1 l2 l3 l4 l5
 subst l2;subst l4
 have hb' : ∃g:Nat,b=(.sl 0 g 0 xs.flatten.length false,[.row 6 (xs.flatten.map Evt.r) g]):=by
  rcases hb with ⟨h,_⟩|⟨g,W,rfl,hW⟩
  ·exact absurd (List.eq_nil_of_length_eq_zero h) hne
  ·rw[wu]at hW⊢
   rcases hW with rfl|⟨h,h2⟩
   ·exact⟨g,rfl⟩
   ·rw[h]at h2;simp at h2
 obtain⟨g,rfl⟩:=hb'
 refine⟨g,?_⟩
 have himp:qil (q2m 0) a.2=some a.2∧a.1.shift 0=a.1:=by
  rcases ha with ⟨_,_,rfl⟩|⟨g,W,rfl,_⟩
  ·exact⟨rfl,rfl⟩
  ·refine⟨?_,rfl⟩
   simp only[q2m,qwl,q62,qlq,qa1,q2m,zgy,↓qc]
 obtain⟨i1,i2⟩:=himp
 rw[qg qkn qkk]
 simp only[qc0,k1,k3,k5,k6,hc,hn,i1,i2,l1,l3,l5,q74,wh,ql,zgy,↓qc,↓qx,↓wb,wa,wv,wd]
end
set_option maxRecDepth 10000
section
variable {c:Cfg} {x:Lp} {e:Evt}
theorem qaiy (hp:x.procs=[]):qxg x e=none:=by
 unfold qxg
 rw[hp];simp
theorem qala (hp:x.procs=[]):(qee c x e).lp.procs=[]:=by
 unfold qee
 split
 ·exact hp
 ·rw[qaiy hp];exact hp
theorem Exec_evF (h:Ready c x e) (f:Bool) (hf:f=true→x.procs=[]):qaz (evL T) qeh [(.agg [(.fsl ((c.lps).map lpC) false),(.fsl ((c.progs).map qbu) false),(ii c.look),(ii c.fin),(ii c.cap)]),(.agg [(ii x.r0),(ii x.r1),(.fsl ((x.procs).map Pr.r) f),(ii x.sum)]),(.agg [(ii e.time),(.fsl ((e.key).map qgg) false),(ii e.lp),(ii e.kind),(ii e.proc),(ii e.arg)])]=some (.tup [(.agg [(ii ((qee c x e).lp.r0)),(ii ((qee c x e).lp.r1)),(.fsl (((qee c x e).lp.procs).map Pr.r) f),(ii ((qee c x e).lp.sum))]),(.fsl (((qee c x e).out).map Evt.r) (qee c x e).nil),(.fsl (((qee c x e).gone).map qnv) (qee c x e).nil),(bb ((qee c x e).over))]):=by
 cases f with
 |false=>exact Exec_ev h
 |true=>
  have hp:=hf rfl
  unfold qee
  rw[qaz,qg qnt qm3]
  rw[qaiy hp]
  by_cases hk:e.kind=3
  ·rw[if_pos hk]
   simp only[qbp,hk,hp,wq,wh,wt,qb,wf,wz,we,ql,ne_eq,zgy,↓qc,↓wb,wc,wa,wd]
  rw[if_neg hk]
  by_cases h1:e.proc<0
  ·by_cases k1:e.kind=1
   ·simp only[qbp,k1,h1,hp,wq,wh,wt,qb,wf,we,ql,ne_eq,zgy,↓qc,↓wb,wc,wa,wD,wd]
   by_cases k2:e.kind=2
   ·simp only[qbp,k2,h1,hp,wq,wh,wt,qb,wf,we,ql,ne_eq,zgy,↓qc,↓wb,wc,wa,wD,wd]
   ·simp only[qbp,hk,k1,k2,hp,wq,wh,wt,qb,wf,we,ql,ne_eq,zgy,↓qc,↓wb,wc,wa,wd]
  have h2:e.proc≥((0:Nat):Int):=by omega
  have h2':e.proc≥0:=by omega
  ·by_cases k1:e.kind=1
   ·simp only[qbp,k1,h1,h2',hp,wq,wh,wt,qb,wf,we,ql,ne_eq,zgy,↓qc,↓wb,wc,wa,wD,wd]
   by_cases k2:e.kind=2
   ·simp only[qbp,k2,h1,h2',hp,wq,wh,wt,qb,wf,we,ql,ne_eq,zgy,↓qc,↓wb,wc,wa,wD,wd]
   ·simp only[qbp,hk,k1,k2,hp,wq,wh,wt,qb,wf,we,ql,ne_eq,zgy,↓qc,↓wb,wc,wa,wd]
end
set_option maxRecDepth 10000
structure SimSt (n:Nat) (s:Sim) (L:List (Lp×Bool)) (A:qf) (O:List (List AV)):Prop where
 len:A.length=n+1
 lps:A[0]? = some (.row 4 (L.map lpF) 1)
 lpl:L.length=n
 lpf:L.map Prod.fst=s.lps
 flag : ∀x∈L,x.2=true→x.1.procs=[]
 trl:s.trace.length=n
 ol:O.length=n
 tr : ∀i:Nat,i<n → ∃g,A[i+1]? = some (.row 6 ((qwb s i).map Evt.r) g)∧O[i]? = some [.sl (i+1) g 0 (qwb s i).length false]
 alo:qer (n+1) A=true
 olo:qk9 (n+1) O=true
def qyw:CCode→CCode
 | .seq a _=>a
 |c=>c
def qze:CCode→CCode
 | .seq _ b=>b
 |c=>c
def cm1:CCode:=qyw qo.body
def qalz:CCode:=qze qo.body
def cm2:CCode:=qyw qalz
def cm2':CCode:=qze qalz
def cm3:CCode:=qyw cm2'
def cm3':CCode:=qze cm2'
def cm4:CCode:=qyw cm3'
def cm4':CCode:=qze cm3'
def cm5:CCode:=qyw cm4'
def cm5':CCode:=qze cm4'
def cm6:CCode:=qyw cm5'
def cm6':CCode:=qze cm5'
def cm7:CCode:=qyw cm6'
def cm7':CCode:=qze cm6'
def cm8:CCode:=qyw cm7'
def cm9:CCode:=qze cm7'
theorem qag4:qo.body = .seq cm1 (.seq cm2 (.seq cm3 (.seq cm4 (.seq cm5 (.seq cm6 (.seq cm7 (.seq cm8 cm9))))))):=rfl
section
variable {A:qf} {n:Nat} (h:A.length=n+1) (B:qf) (x:SObj)
include h
theorem qad7:(A++B)[n+1]? = B[0]?:=by rw[←h,ws (wI _),Nat.sub_self]
theorem qpx:(A++B)[n+2]? = B[1]?:=by rw[ws (by omega)];congr 1;omega
theorem qaex:(A++B)[n+3]? = B[2]?:=by rw[ws (by omega)];congr 1;omega
theorem pre_g4:(A++B)[n+4]? = B[3]?:=by rw[ws (by omega)];congr 1;omega
theorem pre_g5:(A++B)[n+5]? = B[4]?:=by rw[ws (by omega)];congr 1;omega
theorem pre_g6:(A++B)[n+6]? = B[5]?:=by rw[ws (by omega)];congr 1;omega
theorem pre_s1:(A++B).set (n+1) x=A++B.set 0 x:=by rw[wC,if_neg (by omega)];congr 2;omega
theorem qaet:(A++B).set (n+2) x=A++B.set 1 x:=by rw[wC,if_neg (by omega)];congr 2;omega
theorem pre_s3:(A++B).set (n+3) x=A++B.set 2 x:=by rw[wC,if_neg (by omega)];congr 2;omega
theorem pre_s4:(A++B).set (n+4) x=A++B.set 3 x:=by rw[wC,if_neg (by omega)];congr 2;omega
theorem pre_s5:(A++B).set (n+5) x=A++B.set 4 x:=by rw[wC,if_neg (by omega)];congr 2;omega
theorem pre_s6:(A++B).set (n+6) x=A++B.set 5 x:=by rw[wC,if_neg (by omega)];congr 2;omega
theorem qach (i:Nat) (hi:i<n+1):(A++B)[i]? = A[i]?:=wB (by omega)
theorem qaij (i:Nat) (hi:i<n+1):(A++B).set i x=A.set i x++B:=by rw[wC,if_pos (by omega)]
theorem qabk:(A++B).take (n+3)=A++B.take 2:=by rw[List.take_append,ztl (by omega)];congr 2;omega
end
section
variable (c:Cfg) (n:Nat) (A:qf) (O:List (List AV)) (hA:A.length=n+1) (rest:List Evt) (e:Evt) (k:Int) (ov:Bool)
include hA
theorem qann (env:Env) (h0:wg env.vars 0=some (.ptr (n+2) 0 0 0)) :
  ∃env',exec (evL T) itL none cm1 env (A++[.row 1 O 0,(.row 10 [[(.fsl ((c.lps).map lpC) false),(.fsl ((c.progs).map qbu) false),(ii c.look),(ii c.fin),(ii c.cap),.sl (n+1) 0 0 n false,.sl 0 1 0 n false,(.fsl ((e::rest).map Evt.r) false),(ii k),(bb ov)]] 0)])=some (.normal,env',A++[.row 1 O 0,(.row 10 [[(.fsl ((c.lps).map lpC) false),(.fsl ((c.progs).map qbu) false),(ii c.look),(ii c.fin),(ii c.cap),.sl (n+1) 0 0 n false,.sl 0 1 0 n false,(.fsl ((e::rest).map Evt.r) false),(ii k),(bb ov)]] 0),.row 6 [e.r] 0,.hole]) ∧
   env'.marks=env.marks∧wg env'.vars 0=some (.ptr (n+2) 0 0 0)∧wg env'.vars 2=some (.ptr (n+3) 0 0 0):=by
 simp only[cm1,qyw,qo,h0,qpx hA,qaex hA,pre_s3 hA,hA,wQ,List.append_assoc,wN,Evt.r,Int.toNat_zero,Int.le_refl,wh,wt,qb,wf,we,ne_eq,zgy,↓qc,↓wb,wc,wa]
 refine⟨_,rfl,?_,?_,?_⟩
 ·rfl
 ·exact h0
 ·rfl
theorem qamc (X:qf) (env:Env) (h0:wg env.vars 0=some (.ptr (n+2) 0 0 0)) (h2:wg env.vars 2=some (.ptr (n+3) 0 0 0)) :
  ∃env',exec (evL T) itL none cm2 env (A ++ .row 1 O 0::(.row 10 [[(.fsl ((c.lps).map lpC) false),(.fsl ((c.progs).map qbu) false),(ii c.look),(ii c.fin),(ii c.cap),.sl (n+1) 0 0 n false,.sl 0 1 0 n false,(.fsl ((e::rest).map Evt.r) false),(ii k),(bb ov)]] 0)::X)=some (.normal,env',A ++ .row 1 O 0::(.row 10 [[(.fsl ((c.lps).map lpC) false),(.fsl ((c.progs).map qbu) false),(ii c.look),(ii c.fin),(ii c.cap),.sl (n+1) 0 0 n false,.sl 0 1 0 n false,(.fsl ((rest).map Evt.r) false),(ii k),(bb ov)]] 0)::X) ∧
   env'.marks=env.marks∧wg env'.vars 0=some (.ptr (n+2) 0 0 0)∧wg env'.vars 2=some (.ptr (n+3) 0 0 0):=by
 have ok:=q8d (e::rest)
 have c1:(1:Int)≤((rest.length+1:Nat):Int):=by omega
 have c2:(((rest.length+1:Nat):Int)).toNat-1=rest.length:=by omega
 have tk:List.take rest.length (rest.map Evt.r)=rest.map Evt.r:=ztl (by simp)
 simp only[wN]at ok⊢
 simp only[qalz,cm2,qyw,qze,qo,h0,qpx hA,qaet hA,ok,c1,c2,tk,Int.le_refl,imp_self,Int.toNat_one,wh,wt,qb,wf,wz,we,zgy,↓qc,↓wb,wc,wa,wi,Int.reduceLE,wd]
 refine⟨_,rfl,?_,?_,?_⟩
 ·rfl
 ·exact h0
 ·exact h2
end
set_option maxRecDepth 10000
section
variable (c:Cfg) (n:Nat) (A:qf) (O:List (List AV)) (hA:A.length=n+1) (rest:List Evt) (et ei ep ea:Int) (ek:List Int) (i:Nat) (hi:i<n) (k:Int) (ov:Bool)
include hA
theorem qal1 (hi:i<n) (t:List Evt) (g:Nat) (ht:t.length≤10000) (hO:O[i]? = some [.sl (i+1) g 0 t.length false]) (hAi:A[i+1]? = some (.row 6 (t.map Evt.r) g)) (X:qf) (env:Env) (h0:wg env.vars 0=some (.ptr (n+2) 0 0 0)) (h2:wg env.vars 2=some (.ptr (n+3) 0 0 0)) :
  ∃env',exec (evL T) itL none cm3 env (A ++ .row 1 O 0::(.row 10 [[(.fsl ((c.lps).map lpC) false),(.fsl ((c.progs).map qbu) false),(ii c.look),(ii c.fin),(ii c.cap),.sl (n+1) 0 0 n false,.sl 0 1 0 n false,(.fsl ((rest).map Evt.r) false),(ii k),(bb ov)]] 0)::(.row 6 [[(ii et),(.fsl ((ek).map qgg) false),(ii i),(ii ei),(ii ep),(ii ea)]] 0)::X)=some (.normal,env',A.set (i+1) (.row 6 ((t++[(⟨et,ek,(i:Int),ei,ep,ea⟩:Evt)]).map Evt.r) (g+1)) ++ .row 1 (O.set i [.sl (i+1) (g+1) 0 (t.length+1) false]) 0::(.row 10 [[(.fsl ((c.lps).map lpC) false),(.fsl ((c.progs).map qbu) false),(ii c.look),(ii c.fin),(ii c.cap),.sl (n+1) 0 0 n false,.sl 0 1 0 n false,(.fsl ((rest).map Evt.r) false),(ii k),(bb ov)]] 0)::(.row 6 [[(ii et),(.fsl ((ek).map qgg) false),(ii i),(ii ei),(ii ep),(ii ea)]] 0)::X) ∧
   env'.marks=env.marks∧wg env'.vars 0=some (.ptr (n+2) 0 0 0)∧wg env'.vars 2=some (.ptr (n+3) 0 0 0):=by
 have p1:=fun B=>qach hA B (i+1) (by omega)
 have p2:=fun B x=>qaij hA B x (i+1) (by omega)
 have b1:((n+2)==(i+1))=false:=by rw[beq_eq_false_iff_ne];omega
 have b2:((n+3)==(i+1))=false:=by rw[beq_eq_false_iff_ne];omega
 have b3:((n+1)==i)=false:=by rw[beq_eq_false_iff_ne];omega
 have b4:((n+2)==i)=false:=by rw[beq_eq_false_iff_ne];omega
 have tk:List.take t.length (t.map Evt.r)=t.map Evt.r:=ztl (by simp)
 have bd:(t.length+1)*64≤140737488355328:=by omega
 have hA2 : ∀v,(A.set (i+1) v).length=n+1:=fun v=>by rw[wm];exact hA
 have q1:=fun v B=>qad7 (hA2 v) B
 have q2:=fun v B=>qpx (hA2 v) B
 have q3:=fun v B=>qaex (hA2 v) B
 have q4:=fun v B x=>pre_s1 (hA2 v) B x
 have hm : ∀e:Evt,(t++[e]).map Evt.r=t.map Evt.r++[e.r]:=fun e=>by rw[wL];rfl
 rw[hm]
 simp only[qalz,cm2',cm3,qyw,qze,qo,h0,h2,qad7 hA,qpx hA,qaex hA,p1,p2,q1,q4,hO,hAi,b1,b2,tk,bd,hi,Evt.r,zgr,zgs,wh,wt,q6o,qb,qdr,wf,wz,we,Ev.AV.obj?,ne_eq,zgy,↓qc,↓wb,wc,wa,Nat.reduceMul,wi,wy,wd]
 refine⟨_,rfl,?_,?_,?_⟩
 ·rfl
 ·exact h0
 ·exact h2
theorem qak2 (X:qf) (env:Env) (h0:wg env.vars 0=some (.ptr (n+2) 0 0 0)) (h2:wg env.vars 2=some (.ptr (n+3) 0 0 0)) :
  ∃env',exec (evL T) itL none cm4 env (A ++ .row 1 O 0::(.row 10 [[(.fsl ((c.lps).map lpC) false),(.fsl ((c.progs).map qbu) false),(ii c.look),(ii c.fin),(ii c.cap),.sl (n+1) 0 0 n false,.sl 0 1 0 n false,(.fsl ((rest).map Evt.r) false),(ii k),(bb ov)]] 0)::X)=some (.normal,env',A ++ .row 1 O 0::(.row 10 [[(.fsl ((c.lps).map lpC) false),(.fsl ((c.progs).map qbu) false),(ii c.look),(ii c.fin),(ii c.cap),.sl (n+1) 0 0 n false,.sl 0 1 0 n false,(.fsl ((rest).map Evt.r) false),(ii ((IntKind.i64.wrap (k+1)))),(bb ov)]] 0)::X) ∧
   env'.marks=env.marks∧wg env'.vars 0=some (.ptr (n+2) 0 0 0)∧wg env'.vars 2=some (.ptr (n+3) 0 0 0):=by
 simp only[qalz,cm2',cm3',cm4,qyw,qze,qo,h0,qpx hA,qaet hA,wh,wt,qb,wf,wz,we,zgy,↓qc,↓wb,wc,wa,wi]
 refine⟨_,rfl,?_,?_,?_⟩
 ·rfl
 ·exact h0
 ·exact h2
theorem qama (hi:i<n) (L:List (Lp×Bool)) (x:Lp) (f:Bool) (hL:L[i]? = some (x,f)) (hA0:A[0]? = some (.row 4 (L.map lpF) 1)) (r:XRes) (hE:qaz (evL T) qeh [(.agg [(.fsl ((c.lps).map lpC) false),(.fsl ((c.progs).map qbu) false),(ii c.look),(ii c.fin),(ii c.cap)]),(.agg [(ii x.r0),(ii x.r1),(.fsl ((x.procs).map Pr.r) f),(ii x.sum)]),(.agg [(ii ((⟨et,ek,(i:Int),ei,ep,ea⟩:Evt).time)),(.fsl (((⟨et,ek,(i:Int),ei,ep,ea⟩:Evt).key).map qgg) false),(ii ((⟨et,ek,(i:Int),ei,ep,ea⟩:Evt).lp)),(ii ((⟨et,ek,(i:Int),ei,ep,ea⟩:Evt).kind)),(ii ((⟨et,ek,(i:Int),ei,ep,ea⟩:Evt).proc)),(ii ((⟨et,ek,(i:Int),ei,ep,ea⟩:Evt).arg))])]=some (.tup [(.agg [(ii r.lp.r0),(ii r.lp.r1),(.fsl ((r.lp.procs).map Pr.r) f),(ii r.lp.sum)]),(.fsl ((r.out).map Evt.r) r.nil),(.fsl ((r.gone).map qnv) r.nil),(bb r.over)]))
  (env:Env) (h0:wg env.vars 0=some (.ptr (n+2) 0 0 0)) (h2:wg env.vars 2=some (.ptr (n+3) 0 0 0)) :
  ∃env',exec (evL T) itL none cm5 env (A++[.row 1 O 0,(.row 10 [[(.fsl ((c.lps).map lpC) false),(.fsl ((c.progs).map qbu) false),(ii c.look),(ii c.fin),(ii c.cap),.sl (n+1) 0 0 n false,.sl 0 1 0 n false,(.fsl ((rest).map Evt.r) false),(ii k),(bb ov)]] 0),(.row 6 [[(ii et),(.fsl ((ek).map qgg) false),(ii i),(ii ei),(ii ep),(ii ea)]] 0),.hole])=some (.normal,env',A++[.row 1 O 0,(.row 10 [[(.fsl ((c.lps).map lpC) false),(.fsl ((c.progs).map qbu) false),(ii c.look),(ii c.fin),(ii c.cap),.sl (n+1) 0 0 n false,.sl 0 1 0 n false,(.fsl ((rest).map Evt.r) false),(ii k),(bb ov)]] 0),(.row 6 [[(ii et),(.fsl ((ek).map qgg) false),(ii i),(ii ei),(ii ep),(ii ea)]] 0),.row 1 [[(.fsl ((r.gone).map qnv) false)]] 1,.row 4 [lpF (r.lp,f)] 0]) ∧
   env'.marks=env.marks∧wg env'.vars 0=some (.ptr (n+2) 0 0 0)∧wg env'.vars 2=some (.ptr (n+3) 0 0 0)∧wg env'.vars 3=some (.ptr (n+5) 0 0 0)∧wg env'.vars 4=some (.fsl ((r.out).map Evt.r) r.nil)∧wg env'.vars 5=some (.ptr (n+4) 1 0 0)∧wg env'.vars 6=some (bb r.over):=by
 have p1:=fun B=>qach hA B 0 (by omega)
 have hLm:(L.map lpF)[i]? = some (lpF (x,f)):=by rw[wG,hL];rfl
 simp only[qalz,cm2',cm3',cm4',cm5,qyw,qze,qo,h0,h2,qpx hA,qaex hA,pre_g4 hA,pre_g5 hA,pre_s4 hA,pre_s5 hA,hA,wQ,List.append_assoc,p1,hA0,hLm,hi,hE,lpF,zgr,zgs,qcs,qc8,qa7,qc4,wh,wt,qb,wf,wz,we,ne_eq,zgy,↓qc,↓wb,wc,wa,wi,wd]
 refine⟨_,rfl,?_,?_,?_,?_,?_,?_,?_⟩
 ·rfl
 ·exact h0
 ·exact h2
 ·rfl
 ·rfl
 ·rfl
 ·rfl
theorem qamd (hi:i<n) (L:List (Lp×Bool)) (x y:Lp×Bool) (hL:L[i]? = some x) (hA0:A[0]? = some (.row 4 (L.map lpF) 1)) (X:SObj) (env:Env) (h0:wg env.vars 0=some (.ptr (n+2) 0 0 0)) (h2:wg env.vars 2=some (.ptr (n+3) 0 0 0)) (h3:wg env.vars 3=some (.ptr (n+5) 0 0 0))
  (v4 v5 v6:AV) (h4:wg env.vars 4=some v4) (h5:wg env.vars 5=some v5) (h6:wg env.vars 6=some v6) :
  ∃env',exec (evL T) itL none cm6 env (A++[.row 1 O 0,(.row 10 [[(.fsl ((c.lps).map lpC) false),(.fsl ((c.progs).map qbu) false),(ii c.look),(ii c.fin),(ii c.cap),.sl (n+1) 0 0 n false,.sl 0 1 0 n false,(.fsl ((rest).map Evt.r) false),(ii k),(bb ov)]] 0),(.row 6 [[(ii et),(.fsl ((ek).map qgg) false),(ii i),(ii ei),(ii ep),(ii ea)]] 0),X,.row 4 [lpF y] 0])=some (.normal,env',A.set 0 (.row 4 ((L.set i y).map lpF) 1)++[.row 1 O 0,(.row 10 [[(.fsl ((c.lps).map lpC) false),(.fsl ((c.progs).map qbu) false),(ii c.look),(ii c.fin),(ii c.cap),.sl (n+1) 0 0 n false,.sl 0 1 0 n false,(.fsl ((rest).map Evt.r) false),(ii k),(bb ov)]] 0),(.row 6 [[(ii et),(.fsl ((ek).map qgg) false),(ii i),(ii ei),(ii ep),(ii ea)]] 0),X,.row 4 [lpF y] 0]) ∧
   env'.marks=env.marks∧wg env'.vars 0=some (.ptr (n+2) 0 0 0)∧wg env'.vars 4=some v4∧wg env'.vars 5=some v5∧wg env'.vars 6=some v6:=by
 have p1:=fun B=>qach hA B 0 (by omega)
 have p2:=fun B x=>qaij hA B x 0 (by omega)
 have hLm:(L.map lpF)[i]? = some (lpF x):=by rw[wG,hL];rfl
 rw[List.map_set]
 simp only[qalz,cm2',cm3',cm4',cm5',cm6,qyw,qze,qo,h0,h2,h3,qpx hA,qaex hA,pre_g5 hA,p1,p2,hA0,hLm,hi,lpF,zgr,zgs,wh,wt,qb,wf,we,zgy,↓qc,↓wb,wc,wa]
 refine⟨_,rfl,?_,?_,?_,?_,?_⟩
 ·rfl
 ·exact h0
 ·exact h4
 ·exact h5
 ·exact h6
theorem qale (X:qf) (env:Env) (h0:wg env.vars 0=some (.ptr (n+2) 0 0 0)) (v4 v5:AV) (o6:Bool) (h4:wg env.vars 4=some v4) (h5:wg env.vars 5=some v5) (h6:wg env.vars 6=some (bb o6)) :
  ∃env',exec (evL T) itL none cm7 env (A ++ .row 1 O 0::(.row 10 [[(.fsl ((c.lps).map lpC) false),(.fsl ((c.progs).map qbu) false),(ii c.look),(ii c.fin),(ii c.cap),.sl (n+1) 0 0 n false,.sl 0 1 0 n false,(.fsl ((rest).map Evt.r) false),(ii k),(bb ov)]] 0)::X)=some (.normal,env',A ++ .row 1 O 0::(.row 10 [[(.fsl ((c.lps).map lpC) false),(.fsl ((c.progs).map qbu) false),(ii c.look),(ii c.fin),(ii c.cap),.sl (n+1) 0 0 n false,.sl 0 1 0 n false,(.fsl ((rest).map Evt.r) false),(ii k),(bb ((ov||o6)))]] 0)::X) ∧
   env'.marks=env.marks∧wg env'.vars 0=some (.ptr (n+2) 0 0 0)∧wg env'.vars 4=some v4∧wg env'.vars 5=some v5:=by
 cases ov
 ·simp only[qalz,cm2',cm3',cm4',cm5',cm6',cm7,qyw,qze,qo,h0,h6,qpx hA,qaet hA,wh,wt,qb,wf,wz,we,zgy,↓qc,↓wb,wc,wa,wd]
  refine⟨_,rfl,?_,?_,?_,?_⟩
  ·rfl
  ·exact h0
  ·exact h4
  ·exact h5
 ·simp only[qalz,cm2',cm3',cm4',cm5',cm6',cm7,qyw,qze,qo,h0,qpx hA,qaet hA,wh,wt,qb,wf,wz,we,zgy,↓qc,↓wb,wc,wa,wd]
  refine⟨_,rfl,?_,?_,?_,?_⟩
  ·rfl
  ·exact h0
  ·exact h4
  ·exact h5
theorem qanl (σ:qf) (env:Env) (h0:wg env.vars 0=some (.ptr (n+2) 0 0 0)) (v4 v5:AV) (h4:wg env.vars 4=some v4) (h5:wg env.vars 5=some v5) :
  ∃env',exec (evL T) itL none cm8 env σ=some (.normal,env',σ) ∧
   env'.marks=env.marks∧wg env'.vars 0=some (.ptr (n+2) 0 0 0)∧wg env'.vars 4=some v4∧wg env'.vars 7=some (.fn (.func qs) [] [v5]):=by
 simp only[qalz,cm2',cm3',cm4',cm5',cm6',cm7',cm8,qyw,qze,qo,h5,wh,zgy,↓qc,↓wb]
 refine⟨_,rfl,?_,?_,?_,?_⟩
 ·rfl
 ·exact h0
 ·exact h4
 ·rfl
end
set_option maxRecDepth 10000
theorem q3g (n sz:Nat) (es:List (List AV)) (g:Nat):SObj.lo n (.row sz es g)=qk9 n es:=by simp only[SObj.lo]
section
variable (c:Cfg) (n:Nat) (A:qf) (O:List (List AV)) (hA:A.length=n+1) (rest:List Evt) (et ei ep ea:Int) (ek:List Int) (i:Nat) (hi:i<n) (k:Int) (ov:Bool)
include hA
theorem qamx (alo:qer (n+1) A=true) (olo:qk9 (n+1) O=true) (X3 X5:SObj) (lo3:X3.lo (n+1)=true) (lo5:X5.lo (n+1)=true) (G:List (List Int)) (out:List Evt) (nl:Bool)
  (hG:G.length≤1000) (hGk : ∀k∈G,k.length≤9223372036854775807) (hD:(rest++out).length≤1000000) (hk:qjn (rest++out)) (hd:qaf7 (rest++out))
  (env:Env) (h0:wg env.vars 0=some (.ptr (n+2) 0 0 0)) (h4:wg env.vars 4=some (.fsl ((out).map Evt.r) nl)) (h7:wg env.vars 7=some (.fn (.func qs) [] [.ptr (n+4) 1 0 0])) :
  ∃env',exec (evL T) itL none cm9 env (A++[.row 1 O 0,(.row 10 [[(.fsl ((c.lps).map lpC) false),(.fsl ((c.progs).map qbu) false),(ii c.look),(ii c.fin),(ii c.cap),.sl (n+1) 0 0 n false,.sl 0 1 0 n false,(.fsl ((rest).map Evt.r) false),(ii k),(bb ov)]] 0),X3,.row 1 [[(.fsl ((G).map qnv) false)]] 1,X5])=some (.normal,env',A++[.row 1 O 0,(.row 10 [[(.fsl ((c.lps).map lpC) false),(.fsl ((c.progs).map qbu) false),(ii c.look),(ii c.fin),(ii c.cap),.sl (n+1) 0 0 n false,.sl 0 1 0 n false,(.fsl (((q45 ((rest++out).filter (qe2 G)))).map Evt.r) false),(ii k),(bb ov)]] 0),X3,.row 1 [[(.fsl ((G).map qnv) false)]] 1,X5,.dead]) ∧
   env'.marks=env.marks:=by
 obtain⟨g,hc⟩:=qant [rest,out] true (by simp) (by simpa using hD) (by simp)
 have hfl:[rest,out].flatten=rest++out:=by simp
 rw[hfl]at hc
 have mono : ∀ {m:Nat},n+1≤m→qer m A=true∧qk9 m O=true∧X3.lo m=true∧X5.lo m=true:=fun h=>⟨qyu h alo,qvq h _ olo,q1i h _ lo3,q1i h _ lo5⟩
 obtain⟨m1,m2,m3,m4⟩:=mono (m:=n+7) (by omega)
 obtain⟨E,hE1,hE2,hE3⟩:=qanh (A++[.row 1 O 0,(.row 10 [[(.fsl ((c.lps).map lpC) false),(.fsl ((c.progs).map qbu) false),(ii c.look),(ii c.fin),(ii c.cap),.sl (n+1) 0 0 n false,.sl 0 1 0 n false,(.fsl ((rest).map Evt.r) false),(ii k),(bb ov)]] 0),X3,.row 1 [[(.fsl ((G).map qnv) false)]] 1,X5,.row 6 ((rest++out).map Evt.r) g]) (n+4) (n+6) g (n+7) G (rest++out)
  ⟨by rw[pre_g4 hA];rfl,hG,hGk⟩ (by simp[hA]) (by
   have d1:n+1<n+7:=by omega
   have d0:0<n+7:=by omega
   rw[qxh,m1]
   simp only[qer,q3g,m2,m3,m4,qli,qr5,qzp,q43,qaik,lo_v,qajm,qa1,qfz,qc8,qa7,zgv,d1,d0,zfc]) (by omega) (by omega) (by omega) (by rw[pre_g6 hA];rfl) hD hk
 have hsub:((rest++out).filter (qe2 G)).Sublist (rest++out):=List.filter_sublist
 have hs:=qrm ((rest++out).filter (qe2 G)) false (by have:=hsub.length_le;omega) (fun x hx=>hk x (hsub.subset hx)) (wO hsub hd)
 have tE:(E.map Evt.r).take ((rest++out).filter (qe2 G)).length=((rest++out).filter (qe2 G)).map Evt.r:=by rw[←List.map_take,hE2]
 have hEl:((rest++out).filter (qe2 G)).length≤(E.map Evt.r).length:=by rw[wR];exact hE1
 generalize (rest++out).filter (qe2 G)=F at hE3 hs tE hEl⊢
 generalize rest++out=D at hc hE3
 rw[pre_s6 hA]at hE3
 simp only[wN,wq,qsb,zgk,zgj]at hc hE3
 simp only[zgi]at hEl
 have hrep:wr 2 [(.fsl [] false:AV)]=[[.fsl [] false],[.fsl [] false]]:=rfl
 simp only[qalz,cm2',cm3',cm4',cm5',cm6',cm7',cm9,qze,qo,hrep,h0,h4,h7,qpx hA,pre_g6 hA,qaet hA,pre_s6 hA,hA,wQ,List.append_assoc,hc,hE3,hs,tE,hEl,qlq,qa1,Nat.add_comm,wh,wt,Ev.giveG,q2m,q53,qb,wf,wz,we,ne_eq,zgy,↓qc,↓wb,wc,wa,Nat.reduceMul,wv,wi,wy,wd]
 refine⟨_,rfl,?_⟩
 rfl
end
set_option maxRecDepth 10000
section
variable {c:Cfg} {s:Sim} {h:List Evt}
theorem q3y (h:List Evt) (e:Evt) (i:Nat):qu3 (h++[e]) i=if e.lp=i then qu3 h i++[e]else qu3 h i:=by
 unfold qu3
 rw[List.filter_append,List.filter_cons,List.filter_nil]
 by_cases k:e.lp=i
 ·rw[if_pos k,if_pos (by simpa using k)]
 ·rw[if_neg k,if_neg (by simpa using k),wM]
theorem badP_iff {c:Cfg} {q:Pr} (h:badP c q=false):0≤q.prog∧q.prog<c.progs.length∧0≤q.pc∧q.pc≤((c.progs[q.prog.toNat]?).getD []).length:=by
 simp only[badP,Bool.not_eq_false',wH,decide_eq_true_eq]at h
 omega
theorem SInvK.stepP (H:SInvK c s h) {e:Evt} {rest P T:List Evt} (ov:Bool) (hp:s.pend.Perm (e::rest)) (hn:h.length≤20000) (hP:(P++T).Perm (rest++(qee c (lpAt s e.lp) e).out)) :
  SInvK c ⟨s.trace.set e.lp.toNat (qwb s e.lp++[e]),s.lps.set e.lp.toNat (qee c (lpAt s e.lp) e).lp,P,s.n+1,ov⟩ (h++[e]):=by
 have hme:e∈s.pend:=hp.mem_iff.2 (by simp)
 obtain⟨x,hx,hlx,R⟩:=H.headM hme hn
 have hkn:=H.keyNeP hp hn
 have ge:=H.ev e (wP _ hme)
 have hxl:=H.lp x (zmg hx)
 obtain⟨X,oX,o1,o2⟩:=R.outs
 obtain⟨z1,_,z3,_,_,_⟩:=R.sizes
 obtain⟨t1,t2⟩:=R.tims (B:=2+(h.length+1)) (by have:=ge.key;omega) (fun q hq=>by have:=(hxl.2 q hq).2.2.2.2;omega)
 obtain⟨st1,st2⟩:=R.state
 rw[hlx]at hkn hP
 have hmem : ∀b,b∈P→b∈rest∨b∈(qee c x e).out:=fun b hb=>ww.1 (hP.mem_iff.1 (wx _ hb))
 have hlpn:e.lp.toNat<c.lps.length:=by have:=ge.lp;omega
 have hout : ∀b∈(qee c x e).out,∃k,EvOk c e X k b:=fun b hb=>by
  obtain⟨k,hk⟩:=wF.1 hb
  exact⟨k,o1 k b hk⟩
 have rpe : ∀b∈rest,b∈s.pend:=fun b hb=>hp.mem_iff.2 (List.mem_cons_of_mem _ hb)
 have rev : ∀b∈rest,b∈h++s.pend:=fun b hb=>wP _ (rpe b hb)
 have evOut : ∀b∈(qee c x e).out,EvG c (h.length+1) b:=fun b hb=>by
  obtain⟨k,a1,⟨m,hm,_⟩,a3,a4⟩:=hout b hb
  obtain⟨u1,u2⟩:=t1 b hb
  have hkl:b.key.length=e.key.length+1:=by rw[hm];simp
  by_cases k3:b.kind=3
  ·obtain⟨c1,c2,_⟩:=a3 k3
   exact⟨⟨c1,c2⟩,by have:=ge.time;omega,by have:=ge.key;omega,by rw[u1 k3];omega,fun k2=>by omega⟩
  ·obtain⟨c1,c2,c3,c4⟩:=a4 k3
   rw[oX]at c3
   refine⟨by rw[c1];exact ge.lp,by have:=ge.time;omega,by have:=ge.key;omega,by omega,fun k2 => ?_⟩
   obtain⟨q,p,_,hpp,_,d1,d2⟩:=u2 k2
   have:=(H.valid.prog p (zmg hpp)).2.1
   omega
 have newProg : ∀(j:Nat) (q:Pr),x.procs[j]? = some q → ∃q',(qee c x e).lp.procs[j]? = some q'∧q'.prog=q.prog:=fun j q hq=>by
  have hj:=(zei.1 hq).1
  obtain⟨q',hq'⟩ : ∃q',(qee c x e).lp.procs[j]? = some q':=⟨_,zgE (by omega)⟩
  exact⟨q',hq',((st2 j q' hq').2.2 q hq).1⟩
 have setSelf:(s.lps.set e.lp.toNat (qee c x e).lp)[e.lp.toNat]? = some (qee c x e).lp:=wp (by rw[H.lpl];exact hlpn)
 rw[hlx]
 refine⟨H.valid,by show s.n+1 = _;rw[H.n];simp,by show (s.trace.set _ _).length = _;rw[wm];exact H.trl,?_,by show (s.lps.set _ _).length = _;rw[wm];exact H.lpl,?_,?_,?_,?_,?_,?_,?_,?_⟩
 ·intro i hi
  show (s.trace.set e.lp.toNat (qwb s e.lp++[e]))[i]? = _
  rw[q3y]
  by_cases k:e.lp=i
  ·have:e.lp.toNat=i:=by omega
   rw[if_pos k,this,wp (by rw[H.trl];exact hi)]
   unfold qwb
   rw[this,H.tr i hi];rfl
  ·rw[if_neg k,wn (by have:=ge.lp;omega)];exact H.tr i hi
 ·intro y hy
  rw[wj]
  rcases List.mem_or_eq_of_mem_set hy with hy|rfl
  ·have:=H.lp y hy
   exact⟨this.1,fun q hq=>by obtain⟨a,b,d,f,g⟩:=this.2 q hq;exact⟨a,b,d,f,by omega⟩⟩
  ·refine⟨z1,fun q hq => ?_⟩
   obtain⟨j,hj⟩:=wF.1 hq
   obtain⟨a,b,d,f⟩:=badP_iff (st2 j q hj).1
   exact⟨a,b,d,f,t2 q hq⟩
 ·show qvl ((h++[e])++P)
  have:=qvl.perm hkn (hP.append_left (h++[e]))
  exact wO ((List.sublist_append_left P T).append_left _) this
 ·intro b hb
  rw[wj]
  rcases ww.1 hb with hb|hb
  ·refine(H.ev b ?_).mono (by simp)
   rcases ww.1 hb with hb|hb
   ·exact wx _ hb
   ·rw[wK]at hb;subst hb;exact wP _ hme
  ·rcases hmem b hb with hb|hb
   ·exact(H.ev b (rev b hb)).mono (by simp)
   ·exact evOut b hb
 ·intro b hb hk
  show ∃x' q p,(s.lps.set e.lp.toNat (qee c x e).lp)[b.lp.toNat]? = some x' ∧ _
  rcases hmem b hb with hb|hb
  ·obtain⟨x',q,p,h1,h2,h3,h4⟩:=H.tim b (rpe b hb) hk
   by_cases k:e.lp.toNat=b.lp.toNat
   ·rw[←k]at h1;rw[hx]at h1;cases h1
    obtain⟨q',g1,g2⟩:=newProg _ q h2
    exact⟨_,q',p,by rw[←k];exact setSelf,g1,by rw[g2];exact h3,h4⟩
   ·exact⟨x',q,p,by rw[wn k];exact h1,h2,h3,h4⟩
  ·obtain⟨k,_,_,_,a4⟩:=hout b hb
   obtain⟨c1,_⟩:=a4 (by omega)
   obtain⟨q,p,g1,g2,g3,g4⟩:=(t1 b hb).2 hk
   obtain⟨q',g5,g6⟩:=newProg _ q g1
   exact⟨_,q',p,by rw[c1];exact setSelf,by rw[g3];exact g5,by rw[g6];exact g2,g4⟩
 ·intro b hb
  have old:b∈h++s.pend→b.key.length=2 ∨ ∃p∈h++[e],∃m,b.key=p.key++[m]∧p.time<b.time:=fun hb=>by
   rcases H.par b hb with g|⟨p,g1,g2⟩
   ·exact .inl g
   ·exact .inr ⟨p,wx _ g1,g2⟩
  rcases ww.1 hb with hb|hb
  ·refine old ?_
   rcases ww.1 hb with hb|hb
   ·exact wx _ hb
   ·rw[wK]at hb;subst hb;exact wP _ hme
  ·rcases hmem b hb with hb|hb
   ·exact old (rev b hb)
   ·obtain⟨k,a1,⟨m,hm,_⟩,_⟩:=hout b hb
    exact .inr ⟨e,by simp,m,hm,a1.1⟩
 ·show P.length ≤ _
  have h1:=hP.length_eq
  have h2:=H.len
  rw[hp.length_eq]at h2
  simp only[zgp,zga,zgb]at h1 h2⊢
  omega
 ·intro i hi
  show (s.lps.set e.lp.toNat (qee c x e).lp)[i]? = _
  rw[q3y]
  by_cases k:e.lp=i
  ·have hki:e.lp.toNat=i:=by omega
   have hr:=H.rep i hi
   rw[←hki,hx,hki]at hr
   rw[if_pos k]
   unfold qal2 at hr⊢
   rw[List.foldl_append,List.foldl_cons,List.foldl_nil,←Option.some.inj hr]
   have:=setSelf;rw[hki]at this ⊢;exact this
  ·rw[if_neg k,wn (by have:=ge.lp;omega)];exact H.rep i hi
 ·intro i hi k b hb
  rw[q3y]at hb⊢
  by_cases hl:e.lp=i
  ·rw[if_pos hl]at hb⊢
   by_cases hk:k<(qu3 h i).length
   ·rw[wB hk]at hb
    rw[wJ (by omega)]
    exact H.rdy i hi k b hb
   ·have hk2:=(zei.1 hb).1
    simp at hk2
    obtain rfl:k=(qu3 h i).length:=by omega
    simp at hb
    subst hb
    rw[wJ (wI _),wu]
    have hr:=H.rep i hi
    have hki:e.lp.toNat=i:=by omega
    rw[←hki,hx,hki]at hr
    rw[←Option.some.inj hr]
    exact R
  ·rw[if_neg hl]at hb⊢
   exact H.rdy i hi k b hb
theorem SInv.step (H:SInv c s h) {e:Evt} {rest:List Evt} (hp:s.pend=e::rest) (hn:h.length≤20000) (hf:e.time<c.fin):SInv c (s.step c e rest) (h++[e]):=by
 obtain⟨x,hx,hlx,R⟩:=H.head hp hn
 obtain⟨X,oX,o1,o2⟩:=R.outs
 have hP : ∃T,(q45 ((rest++(qee c (lpAt s e.lp) e).out).filter (qe2 (qee c (lpAt s e.lp) e).gone))++T).Perm (rest++(qee c (lpAt s e.lp) e).out):=
  ⟨_,((qsi _).append_right _).trans (List.filter_append_perm _ _)⟩
 obtain⟨T,hT⟩:=hP
 refine⟨H.toSInvK.stepP _ (by rw[hp]) hn hT,qzf _,?_,?_,?_⟩
 ·rw[List.pairwise_append]
  exact⟨H.ord,List.pairwise_singleton _ _,fun a ha b hb=>by rw[wK]at hb;subst hb;exact H.ord2 a ha b (by rw[hp];simp)⟩
 ·intro a ha b hb
  have hb':b∈rest∨b∈(qee c x e).out:=by
   rw[←hlx];exact ww.1 (hT.mem_iff.1 (wx _ hb))
  have lee:leE e b:=by
   rcases hb' with hb|hb
   ·have:=H.sorted;rw[hp,List.pairwise_cons]at this;exact this.1 b hb
   ·obtain⟨k,hk⟩:=wF.1 hb;exact leE_time (o1 k b hk).1.1
  rcases ww.1 ha with ha|ha
  ·exact qwn a e b (H.ord2 a ha e (by rw[hp];simp)) lee
  ·rw[wK]at ha;subst ha;exact lee
 ·intro a ha
  rcases ww.1 ha with ha|ha
  ·exact H.fin a ha
  ·rw[wK]at ha;subst ha;exact hf
end
set_option maxRecDepth 10000
theorem qahl (lps:List (List Start)):qvl (qo7 lps):=by
 have ne : ∀ {k k' i i':Nat} {s s':Start},(ql3 k i s).key=(ql3 k' i' s').key→k=k'∧i=i':=by
  intro k k' i i' s s' h
  simp only[ql3,List.cons.injEq,and_true]at h
  omega
 unfold qvl qo7
 rw[List.pairwise_flatten]
 constructor
 ·intro r hr
  obtain⟨k,hk⟩:=wF.1 hr
  rw[List.getElem?_mapIdx]at hk
  cases hl:lps[k]? with
  |none=>rw[hl]at hk;cases hk
  |some l=>
   rw[hl]at hk;cases hk
   rw[List.pairwise_iff_getElem]
   intro i j hi hj hij h
   simp only[qnm,List.getElem_mapIdx]at h
   have:=(ne h).2;omega
 ·rw[List.pairwise_iff_getElem]
  intro k k' hk hk' hkk x hx y hy h
  simp only[List.getElem_mapIdx]at hx hy
  obtain⟨i,s,_,rfl⟩:=qvo hx
  obtain⟨i',s',_,rfl⟩:=qvo hy
  have:=(ne h).1;omega
section
variable {c:Cfg}
theorem qad0 (c:Cfg):(start c).lps=(qahs c.lps).map fun ps=>(⟨0,0,ps,0⟩:Lp):=by
 simp only[start,qp0,List.map_map];rfl
theorem SInv.start (hv:Valid c):SInv c (start c) []:=by
 have hm : ∀e∈q45 (qo7 c.lps),e∈qo7 c.lps:=fun e he=>(qsi _).mem_iff.1 he
 have hv1:=hv.lps
 refine⟨⟨hv,rfl,by simp[K.start],fun i hi => ?_,by rw[qad0];simp[qahs],?_,?_,?_,?_,?_,?_,?_,fun i hi k e he=>by simp[qu3]at he⟩,qzf _,.nil,fun a ha=>by simp at ha,fun e he=>by simp at he⟩
 ·simp[K.start,qu3,hi]
 ·intro x hx
  rw[qad0,List.mem_map]at hx
  obtain⟨ps,hps,rfl⟩:=hx
  simp only[qahs,List.mem_map]at hps
  obtain⟨l,hl,rfl⟩:=hps
  refine⟨by have:=hv.lp l hl;simp;omega,fun q hq => ?_⟩
  simp only[List.mem_map]at hq
  obtain⟨st,hst,rfl⟩:=hq
  obtain⟨a,b,_⟩:=hv.start l hl st hst
  exact⟨a,b,by simp[stP],by simp[stP],by simp[stP]⟩
 ·rw[List.nil_append];exact qvl.perm (qahl _) (qsi _)
 ·intro e he
  rw[List.nil_append]at he
  obtain⟨k,l,i,s,h1,h2,rfl⟩:=q3i (hm e he)
  have k1:=(zei.1 h1).1
  have k2:=(zei.1 h2).1
  have k3:=hv.lp l (zmg h1)
  obtain⟨a,b,d,f⟩:=hv.start l (zmg h1) s (zmg h2)
  exact⟨by simp only[ql3];omega,⟨d,f⟩,by simp[ql3],by simp only[ql3];omega,fun hk=>by simp[ql3]at hk⟩
 ·intro e he hk
  obtain⟨k,l,i,s,h1,h2,rfl⟩:=q3i (hm e he)
  simp[ql3]at hk
 ·intro e he
  rw[List.nil_append]at he
  obtain⟨k,l,i,s,h1,h2,rfl⟩:=q3i (hm e he)
  exact .inl (by simp[ql3])
 ·show (q45 _).length ≤ _
  rw[(qsi _).length_eq]
  have:=qafx (lps:=c.lps) (m:=8) (fun l hl=>hv.lp l hl)
  simp only[zgb];omega
 ·intro i hi
  show ((qp0 c.lps).map Prod.fst)[i]? = _
  have:i<((qp0 c.lps).map Prod.fst).length:=by simp[qp0,qahs];exact hi
  rw[zgE this];rfl
variable {s:Sim} {h:List Evt}
theorem qabf (hr:s.ready c=true) : ∃e rest,s.pend=e::rest∧e.time<c.fin:=by
 unfold Sim.ready at hr
 split at hr
 ·cases hr
 next e rest hp=>exact⟨e,rest,hp,of_decide_eq_true hr⟩
theorem go_eq {e:Evt} {rest:List Evt} (hp:s.pend=e::rest):s.go c=s.step c e rest:=by unfold Sim.go;rw[hp]
theorem SInv.run : ∀(k:Nat) {s:Sim} {h:List Evt},SInv c s h→h.length+k≤20000 → ∃h',SInv c (Sim.run c k s) (h++h')∧h'.length≤k∧(h'.length=k∨(Sim.run c k s).ready c=false)
 | 0,s,h,H,_=>⟨[],by rw[wM];exact H,wI _,.inl rfl⟩
 |k+1,s,h,H,hk=>by
  unfold Sim.run
  by_cases hr:s.ready c=true
  ·rw[if_pos hr]
   obtain⟨e,rest,hp,hf⟩:=qabf hr
   rw[go_eq hp]
   obtain⟨h',g1,g2,g3⟩:=SInv.run k (H.step hp (by omega) hf) (by simp;omega)
   refine⟨e::h',by simpa using g1,by simp;omega,?_⟩
   rcases g3 with g3|g3
   ·exact .inl (by simp;omega)
   ·exact .inr g3
  ·rw[if_neg hr]
   exact⟨[],by rw[wM];exact H,wA _,.inr (by simpa using hr)⟩
end
set_option maxRecDepth 10000
section
variable {c:Cfg} {s:Sim} {h:List Evt} {n:Nat} {L:List (Lp×Bool)} {A:qf} {O:List (List AV)}
theorem SimSt.lpAt (S:SimSt n s L A O) {i:Nat} (hi:i<n) : ∃f:Bool,L[i]? = some (K.lpAt s i,f)∧(f=true→(K.lpAt s i).procs=[]):=by
 obtain⟨x,hx⟩ : ∃x,L[i]? = some x:=⟨_,zgE (by rw[S.lpl];exact hi)⟩
 have h1:s.lps[i]? = some x.1:=by rw[←S.lpf,wG,hx];rfl
 have h2:K.lpAt s i=x.1:=by unfold K.lpAt;rw[Int.toNat_natCast,h1];rfl
 exact⟨x.2,by rw[h2];exact hx,fun hf=>by rw[h2];exact S.flag x (zmg hx) hf⟩
theorem trAt_set {s:Sim} {T':List (List Evt)} {L':List Lp} {P:List Evt} {m:Nat} {o:Bool} (i j:Nat) (t:List Evt) (hT:T'=s.trace.set i t) (hi:i<s.trace.length):qwb ⟨T',L',P,m,o⟩ (j:Int)=if i=j then t else qwb s j:=by
 unfold qwb
 simp only[zgr]
 subst hT
 by_cases e:i=j
 ·subst e;rw[wp hi,if_pos rfl];rfl
 ·rw[wn e,if_neg e]
theorem SimSt.step (S:SimSt n s L A O) {e:Evt} {i:Nat} (hi:i<n) (he:e.lp=(i:Int)) {g:Nat} {f:Bool} (rest:List Evt) (hf:f=true→(qee c (K.lpAt s i) e).lp.procs=[]) :
  SimSt n (s.step c e rest) (L.set i ((qee c (K.lpAt s i) e).lp,f)) ((A.set (i+1) (.row 6 ((qwb s i++[e]).map Evt.r) (g+1))).set 0 (.row 4 ((L.set i ((qee c (K.lpAt s i) e).lp,f)).map lpF) 1)) (O.set i [.sl (i+1) (g+1) 0 ((qwb s i).length+1) false]):=by
 have hin:e.lp.toNat=i:=by omega
 have c1:i+1<n+1:=by omega
 refine⟨by rw[wm,wm];exact S.len,?_,by rw[wm];exact S.lpl,?_,?_,?_,by rw[wm];exact S.ol,?_,?_,?_⟩
 ·rw[wp (by rw[wm,S.len];omega)]
 ·rw[List.map_set,S.lpf];show _=s.lps.set e.lp.toNat (qee c (K.lpAt s e.lp) e).lp;rw[hin,he]
 ·intro x hx
  rcases List.mem_or_eq_of_mem_set hx with hx|rfl
  ·exact S.flag x hx
  ·exact hf
 ·show (s.trace.set _ _).length=n;rw[wm];exact S.trl
 ·intro j hj
  obtain⟨g',h1,h2⟩:=S.tr j hj
  have ht:=trAt_set (s:=s) (T':=(s.step c e rest).trace) (L':=(s.step c e rest).lps) (P:=(s.step c e rest).pend) (m:=(s.step c e rest).n) (o:=(s.step c e rest).over) i j (qwb s i++[e]) (by show s.trace.set e.lp.toNat (qwb s e.lp++[e]) = _;rw[hin,he]) (by rw[S.trl];exact hi)
  change qwb (s.step c e rest) (j:Int) = _ at ht
  rw[ht]
  by_cases e1:i=j
  ·subst e1
   refine⟨g+1,?_,?_⟩
   ·rw[if_pos rfl,wn (by omega),wp (by rw[S.len];omega)]
   ·rw[if_pos rfl,wp (by rw[S.ol];omega),wj];rfl
  ·refine⟨g',?_,?_⟩
   ·rw[if_neg e1,wn (by omega),wn (by omega)];exact h1
   ·rw[if_neg e1,wn e1];exact h2
 ·exact q1k (q1k S.alo _ (by rw[q3g];exact qa1 _ _)) _ (by rw[q3g];exact q9e _ _)
 ·have:=S.olo
  have hl : ∀ {n:Nat} {O:List (List AV)} (i:Nat) (x:List AV),qk9 n O=true→los n x=true→qk9 n (O.set i x)=true:=by
   intro n O
   induction O with
   |nil=>intro i x h _;exact h
   |cons a O ih=>
    intro i x h hx
    simp only[qli,wH]at h
    cases i with
    |zero=>rw[List.set_cons_zero,qli,hx,h.2];rfl
    |succ i=>rw[List.set_cons_succ,qli,h.1,ih i x h.2 hx];rfl
  refine hl i _ this ?_
  simp only[qzp,q43,qajm,c1,zgv,zfc]
theorem qal0 (H:SInv c s h) (hn:c.lps.length=n) (S:SimSt n s L A O) {e:Evt} {rest:List Evt} (hp:s.pend=e::rest) (hh:h.length≤3000) :
  ∃(L':List (Lp×Bool)) (A':qf) (O':List (List AV)),SimSt n (s.step c e rest) L' A' O' ∧
   (evL T).call qdm [(.ptr (n+2) 0 0 0)] (A++[.row 1 O 0,(.row 10 [[(.fsl ((c.lps).map lpC) false),(.fsl ((c.progs).map qbu) false),(ii c.look),(ii c.fin),(ii c.cap),.sl (n+1) 0 0 n false,.sl 0 1 0 n false,(.fsl ((s.pend).map Evt.r) false),(ii s.n),(bb s.over)]] 0)])=some (.tup [],(A'++[.row 1 O' 0,(.row 10 [[(.fsl ((c.lps).map lpC) false),(.fsl ((c.progs).map qbu) false),(ii c.look),(ii c.fin),(ii c.cap),.sl (n+1) 0 0 n false,.sl 0 1 0 n false,(.fsl (((s.step c e rest).pend).map Evt.r) false),(ii ((s.step c e rest).n)),(bb ((s.step c e rest).over))]] 0)])):=by
 obtain⟨x,hx,hlx,R⟩:=H.head hp (by omega)
 have ge:=H.ev e (by rw[hp];simp)
 obtain⟨i,hi⟩ : ∃i:Nat,e.lp=i:=⟨_,(Int.toNat_of_nonneg ge.lp.1).symm⟩
 have hin:i<n:=by have:=ge.lp;omega
 obtain⟨f,hL,hf⟩:=S.lpAt hin
 obtain⟨g,t1,t2⟩:=S.tr i hin
 have hsz:=R.sizes
 have hkn:=H.keyNe hp (by omega)
 rw[hi]at hlx hkn
 rw[hlx]at hL hf hkn
 obtain⟨z1,_,z3,z4,z5,z6⟩:=hsz
 have hlen:=H.len
 rw[hp]at hlen
 have htl:(qwb s i).length≤10000:=by
  have h1:=H.tr i (by omega)
  have:qwb s i=qu3 h i:=by unfold qwb;rw[Int.toNat_natCast,h1];rfl
  rw[this]
  have:=List.length_filter_le (fun e:Evt=>decide (e.lp=i)) h
  unfold qu3;omega
 have hE:=Exec_evF R f hf
 have hkr:qvl (rest++(qee c x e).out):=by
  have:=(List.pairwise_append.1 hkn).2.1;exact this
 have hko:qjn (rest++(qee c x e).out):=by
  intro y hy
  rcases ww.1 hy with hy|hy
  ·have:=(H.ev y (by rw[hp];simp[hy])).key;omega
  ·have:=z4 y hy;omega
 have st:=S.step (c:=c) (e:=e) hin hi (g:=g) (f:=f) rest (by rw[hlx];exact fun k=>qala (hf k))
 rw[hlx]at st
 refine⟨_,_,_,st,?_⟩
 have hstep:s.step c e rest=⟨s.trace.set i (qwb s i++[e]),s.lps.set i (qee c x e).lp,q45 ((rest++(qee c x e).out).filter (qe2 (qee c x e).gone)),s.n+1,s.over||(qee c x e).over⟩:=by
  unfold Sim.step;rw[hi,hlx,Int.toNat_natCast]
 rw[hstep,hp]
 have alo2:=st.alo
 have olo2:=st.olo
 have hA:=S.len
 have hA0:=S.lps
 have lo3:(SObj.row 6 [e.r] 0).lo (n+1)=true:=by simp only[q3g,qli,qr5,qaiz,zfc]
 have hw:IntKind.i64.wrap ((s.n:Int)+1)=((s.n+1:Nat):Int):=by
  have:=H.n;rw[qk (by omega) (by omega)];simp
 simp only
 generalize hr:qee c x e=r at *
 obtain⟨et,ek,el,ei,ep,ea⟩:=e
 simp only at hi
 subst hi
 have hA1:(A.set (i+1) (SObj.row 6 ((qwb s i++[(⟨et,ek,(i:Int),ei,ep,ea⟩:Evt)]).map Evt.r) (g+1))).length=n+1:=by rw[wm];exact hA
 have hA2:((A.set (i+1) (SObj.row 6 ((qwb s i++[(⟨et,ek,(i:Int),ei,ep,ea⟩:Evt)]).map Evt.r) (g+1))).set 0 (SObj.row 4 ((L.set i (r.lp,f)).map lpF) 1)).length=n+1:=by rw[wm];exact hA1
 have hA10:(A.set (i+1) (SObj.row 6 ((qwb s i++[(⟨et,ek,(i:Int),ei,ep,ea⟩:Evt)]).map Evt.r) (g+1)))[0]? = some (.row 4 (L.map lpF) 1):=by rw[wn (by omega)];exact hA0
 have lo5:(SObj.row 4 [lpF (r.lp,f)] 0).lo (n+1)=true:=by simp only[q3g,qli,qr5,lpF_lo,zfc]
 obtain⟨e1,r1,m1,a10,a12⟩:=qann c n A O hA rest ⟨et,ek,i,ei,ep,ea⟩ s.n s.over ⟨qxi 0 [(.ptr (n+2) 0 0 0)],[]⟩ rfl
 obtain⟨e2,r2,m2,a20,a22⟩:=qamc c n A O hA rest ⟨et,ek,i,ei,ep,ea⟩ s.n s.over [.row 6 [Evt.r ⟨et,ek,i,ei,ep,ea⟩] 0,.hole] e1 a10 a12
 obtain⟨e3,r3,m3,a30,a32⟩:=qal1 c n A O hA rest et ei ep ea ek i s.n s.over hin (qwb s i) g htl t2 t1 [.hole] e2 a20 a22
 obtain⟨e4,r4,m4,a40,a42⟩:=qak2 c n _ (O.set i [.sl (i+1) (g+1) 0 ((qwb s i).length+1) false]) hA1 rest s.n s.over [(.row 6 [[(ii et),(.fsl ((ek).map qgg) false),(ii i),(ii ei),(ii ep),(ii ea)]] 0),.hole] e3 a30 a32
 rw[hw]at r4
 obtain⟨e5,r5,m5,a50,a52,a53,a54,a55,a56⟩:=qama c n _ (O.set i [.sl (i+1) (g+1) 0 ((qwb s i).length+1) false]) hA1 rest et ei ep ea ek i (s.n+1:Nat) s.over hin L x f hL hA10 r hE e4 a40 a42
 obtain⟨e6,r6,m6,a60,a64,a65,a66⟩:=qamd c n _ (O.set i [.sl (i+1) (g+1) 0 ((qwb s i).length+1) false]) hA1 rest et ei ep ea ek i (s.n+1:Nat) s.over hin L (x,f) (r.lp,f) hL hA10 (.row 1 [[(.fsl ((r.gone).map qnv) false)]] 1) e5 a50 a52 a53 _ _ _ a54 a55 a56
 obtain⟨e7,r7,m7,a70,a74,a75⟩:=qale c n _ (O.set i [.sl (i+1) (g+1) 0 ((qwb s i).length+1) false]) hA2 rest (s.n+1:Nat) s.over [(.row 6 [[(ii et),(.fsl ((ek).map qgg) false),(ii i),(ii ei),(ii ep),(ii ea)]] 0),.row 1 [[(.fsl ((r.gone).map qnv) false)]] 1,.row 4 [lpF (r.lp,f)] 0] e6 a60 _ _ r.over a64 a65 a66
 obtain⟨e8,r8,m8,a80,a84,a87⟩:=qanl n _ hA2 (((A.set (i+1) (SObj.row 6 ((qwb s i++[(⟨et,ek,(i:Int),ei,ep,ea⟩:Evt)]).map Evt.r) (g+1))).set 0 (SObj.row 4 ((L.set i (r.lp,f)).map lpF) 1))++[.row 1 (O.set i [.sl (i+1) (g+1) 0 ((qwb s i).length+1) false]) 0,(.row 10 [[(.fsl ((c.lps).map lpC) false),(.fsl ((c.progs).map qbu) false),(ii c.look),(ii c.fin),(ii c.cap),.sl (n+1) 0 0 n false,.sl 0 1 0 n false,(.fsl ((rest).map Evt.r) false),(ii (((s.n+1:Nat):Int))),(bb ((s.over||r.over)))]] 0),(.row 6 [[(ii et),(.fsl ((ek).map qgg) false),(ii i),(ii ei),(ii ep),(ii ea)]] 0),.row 1 [[(.fsl ((r.gone).map qnv) false)]] 1,.row 4 [lpF (r.lp,f)] 0]) e7 a70 _ _ a74 a75
 obtain⟨e9,r9,m9⟩:=qamx c n _ (O.set i [.sl (i+1) (g+1) 0 ((qwb s i).length+1) false]) hA2 rest (s.n+1:Nat) (s.over||r.over) alo2 olo2 (.row 6 [[(ii et),(.fsl ((ek).map qgg) false),(ii i),(ii ei),(ii ep),(ii ea)]] 0) (.row 4 [lpF (r.lp,f)] 0) lo3 lo5 r.gone r.out r.nil (by omega) (fun k hk=>by have:=z5 k hk;omega) (by simp only[zgp,zga]at hlen ⊢;omega) hko hkr.dist e8 a80 a84 a87
 have hm:e9.marks=[]:=by rw[m9,m8,m7,m6,m5,m4,m3,m2,m1]
 simp only[Evt.r]at r1 r2
 have hb:=qag4
 rw[qg qsn qrq]
 unfold qxf
 rw[hb]
 have hcut:=fun(B:qf)=>qabk hA2 B
 have lo1:qer (n+3) ((A.set (i+1) (SObj.row 6 ((qwb s i++[(⟨et,ek,(i:Int),ei,ep,ea⟩:Evt)]).map Evt.r) (g+1))).set 0 (SObj.row 4 ((L.set i (r.lp,f)).map lpF) 1))=true:=qyu (by omega) alo2
 have lo2:qk9 (n+3) (O.set i [.sl (i+1) (g+1) 0 ((qwb s i).length+1) false])=true:=qvq (by omega) _ olo2
 have d1:n+1<n+3:=by omega
 have d0:0<n+3:=by omega
 have hnl:(A++[SObj.row 1 O 0,(.row 10 [[(.fsl ((c.lps).map lpC) false),(.fsl ((c.progs).map qbu) false),(ii c.look),(ii c.fin),(ii c.cap),.sl (n+1) 0 0 n false,.sl 0 1 0 n false,(.fsl ((({ time:=et,key:=ek,lp:=↑i,kind:=ei,proc:=ep,arg:=ea }::rest)).map Evt.r) false),(ii s.n),(bb s.over)]] 0)]).length=n+3:=by simp[hA]
 have hna:qo.nargs=1:=rfl
 have hres:qo.results=[]:=rfl
 generalize ((A.set (i+1) (SObj.row 6 ((qwb s i++[(⟨et,ek,(i:Int),ei,ep,ea⟩:Evt)]).map Evt.r) (g+1))).set 0 (SObj.row 4 ((L.set i (r.lp,f)).map lpF) 1))=A2 at *
 generalize (O.set i [.sl (i+1) (g+1) 0 ((qwb s i).length+1) false])=O2 at *
 generalize qxi 0 [(.ptr (n+2) 0 0 0)]=av at *
 simp only[Ev.exec,r1,r2,r3,r4,r5,r6,r7,r8,r9,hm,hna,hres,hnl,hcut,Ev.kill,qrb,ql,qx6,qxh,qer,q3g,lo1,lo2,qli,qr5,qzp,q43,qaik,lo_v,qajm,lo_tup,qa1,qc8,qa7,d1,d0,zgv,zfc,↓qc,↓wb,zga,zgb,zfd,zgc,zgo,zgx]
 done
end
set_option maxRecDepth 10000
section
variable {c:Cfg} {s:Sim} {h:List Evt} {n:Nat} {L:List (Lp×Bool)} {A:qf} {O:List (List AV)}
theorem qahv (hA:A.length=n+1):(evL T).call qc6 [(.ptr (n+2) 0 0 0)] (A++[.row 1 O 0,(.row 10 [[(.fsl ((c.lps).map lpC) false),(.fsl ((c.progs).map qbu) false),(ii c.look),(ii c.fin),(ii c.cap),.sl (n+1) 0 0 n false,.sl 0 1 0 n false,(.fsl ((s.pend).map Evt.r) false),(ii s.n),(bb s.over)]] 0)])=some ((bb (s.ready c)),(A++[.row 1 O 0,(.row 10 [[(.fsl ((c.lps).map lpC) false),(.fsl ((c.progs).map qbu) false),(ii c.look),(ii c.fin),(ii c.cap),.sl (n+1) 0 0 n false,.sl 0 1 0 n false,(.fsl ((s.pend).map Evt.r) false),(ii s.n),(bb s.over)]] 0)])):=by
 rw[qg qtp qs5]
 unfold Sim.ready
 cases hp:s.pend with
 |nil=>
  simp only[qgc,qabk hA,qpx hA,hA,wQ,wq,gt_iff_lt,wk,ite_self,wh,qb,ql,zgy,↓qc,↓wb,wc,wa,wd]
  done
 |cons e rest=>
  have c1:((rest.length+1:Nat):Int)>0:=by omega
  obtain⟨et,ek,el,ei,ep,ea⟩:=e
  simp only[qgc,qabk hA,qpx hA,hA,wQ,wN,Evt.r,c1,Int.le_refl,Int.toNat_zero,ite_self,wh,qb,ql,zgy,↓qc,↓wb,wc,wa,wd]
  done
theorem SimSt.lo (S:SimSt n s L A O):qer (n+3) (A++[.row 1 O 0,(.row 10 [[(.fsl ((c.lps).map lpC) false),(.fsl ((c.progs).map qbu) false),(ii c.look),(ii c.fin),(ii c.cap),.sl (n+1) 0 0 n false,.sl 0 1 0 n false,(.fsl ((s.pend).map Evt.r) false),(ii s.n),(bb s.over)]] 0)])=true:=by
 have lo1:qer (n+3) A=true:=qyu (by omega) S.alo
 have lo2:qk9 (n+3) O=true:=qvq (by omega) _ S.olo
 have d1:n+1<n+3:=by omega
 have d0:0<n+3:=by omega
 simp only[qxh,qer,q3g,lo1,lo2,qli,qr5,qzp,q43,qaik,lo_v,qajm,qa1,qc8,qa7,d1,d0,zgv,zfc]
theorem run_L (hn:c.lps.length=n) (lim:Nat) (hlim:lim≤3000) : ∀(k:Nat) {s:Sim} {h:List Evt} {L:List (Lp×Bool)} {A:qf} {O:List (List AV)},s.n+k=lim→SInv c s h→SimSt n s L A O →
  ∃y,itB (exec (evL T) itL none qdo) (qao [0,1] true (n+3)) ⟨[(0,(.ptr (n+2) 0 0 0)),(1,(ii lim))],[]⟩ (A++[.row 1 O 0,(.row 10 [[(.fsl ((c.lps).map lpC) false),(.fsl ((c.progs).map qbu) false),(ii c.look),(ii c.fin),(ii c.cap),.sl (n+1) 0 0 n false,.sl 0 1 0 n false,(.fsl ((s.pend).map Evt.r) false),(ii s.n),(bb s.over)]] 0)])=some y ∧
   ∃(L':List (Lp×Bool)) (A':qf) (O':List (List AV)),SimSt n (Sim.run c k s) L' A' O'∧y.1 = .exit 0∧y.2.1.marks=[]∧y.2.2=(A'++[.row 1 O' 0,(.row 10 [[(.fsl ((c.lps).map lpC) false),(.fsl ((c.progs).map qbu) false),(ii c.look),(ii c.fin),(ii c.cap),.sl (n+1) 0 0 n false,.sl 0 1 0 n false,(.fsl (((Sim.run c k s).pend).map Evt.r) false),(ii ((Sim.run c k s).n)),(bb ((Sim.run c k s).over))]] 0)]):=by
 intro k
 induction k with
 |zero=>
  intro s h L A O hk H S
  have c1:¬(s.n:Int)<(lim:Int):=by omega
  have hx : ∃y,it1 (exec (evL T) itL none qdo) (qao [0,1] true (n+3)) ⟨[(0,(.ptr (n+2) 0 0 0)),(1,(ii lim))],[]⟩ (A++[.row 1 O 0,(.row 10 [[(.fsl ((c.lps).map lpC) false),(.fsl ((c.progs).map qbu) false),(ii c.look),(ii c.fin),(ii c.cap),.sl (n+1) 0 0 n false,.sl 0 1 0 n false,(.fsl ((s.pend).map Evt.r) false),(ii s.n),(bb s.over)]] 0)])=some (.inr y)∧y.1 = .exit 0∧y.2.1.marks=[]∧y.2.2=(A++[.row 1 O 0,(.row 10 [[(.fsl ((c.lps).map lpC) false),(.fsl ((c.progs).map qbu) false),(ii c.look),(ii c.fin),(ii c.cap),.sl (n+1) 0 0 n false,.sl 0 1 0 n false,(.fsl ((s.pend).map Evt.r) false),(ii s.n),(bb s.over)]] 0)]):=by
   simp only[qdo,qpx S.len,c1,wh,qb,zgy,↓qc,↓wb,wa,wd]
   exact⟨_,rfl,rfl,rfl,rfl⟩
  obtain⟨y,h1,h2,h3,h4⟩:=hx
  exact⟨y,qr6 h1,L,A,O,S,h2,h3,h4⟩
 |succ k ih=>
  intro s h L A O hk H S
  have c1:(s.n:Int)<(lim:Int):=by omega
  have hr:=qahv (c:=c) (s:=s) (O:=O) S.len
  by_cases hb:s.ready c=true
  ·obtain⟨e,rest,hp,hf⟩:=qabf hb
   have hhl:h.length≤3000:=by have:=H.n;omega
   obtain⟨L1,A1,O1,S1,hc⟩:=qal0 H hn S hp hhl
   have hlo:=S1.lo (c:=c)
   have hcut:=qabk S1.len [.row 1 O1 0,(.row 10 [[(.fsl ((c.lps).map lpC) false),(.fsl ((c.progs).map qbu) false),(ii c.look),(ii c.fin),(ii c.cap),.sl (n+1) 0 0 n false,.sl 0 1 0 n false,(.fsl (((s.step c e rest).pend).map Evt.r) false),(ii ((s.step c e rest).n)),(bb ((s.step c e rest).over))]] 0)]
   obtain⟨y,g1,g2⟩:=ih (s:=s.step c e rest) (h:=h++[e]) (by show s.n+1+k=lim;omega) (H.step hp (by omega) hf) S1
   rw[hb]at hr
   refine⟨y,qmu ?_ g1,?_⟩
   ·have d2:n+2<n+3:=by omega
    simp only[zgc,zgo]at hcut
    simp only[qdo,qpx S.len,c1,hr,hc,hlo,hcut,d2,wh,qb,zgy,↓qc,↓wb,wa,wd]
   ·have:Sim.run c (k+1) s=Sim.run c k (s.step c e rest):=by rw[Sim.run,if_pos hb,go_eq hp]
    rw[this];exact g2
  ·have hb':s.ready c=false:=by simpa using hb
   rw[hb']at hr
   have:Sim.run c (k+1) s=s:=by rw[Sim.run,if_neg hb]
   rw[this]
   have hx : ∃y,it1 (exec (evL T) itL none qdo) (qao [0,1] true (n+3)) ⟨[(0,(.ptr (n+2) 0 0 0)),(1,(ii lim))],[]⟩ (A++[.row 1 O 0,(.row 10 [[(.fsl ((c.lps).map lpC) false),(.fsl ((c.progs).map qbu) false),(ii c.look),(ii c.fin),(ii c.cap),.sl (n+1) 0 0 n false,.sl 0 1 0 n false,(.fsl ((s.pend).map Evt.r) false),(ii s.n),(bb s.over)]] 0)])=some (.inr y)∧y.1 = .exit 0∧y.2.1.marks=[]∧y.2.2=(A++[.row 1 O 0,(.row 10 [[(.fsl ((c.lps).map lpC) false),(.fsl ((c.progs).map qbu) false),(ii c.look),(ii c.fin),(ii c.cap),.sl (n+1) 0 0 n false,.sl 0 1 0 n false,(.fsl ((s.pend).map Evt.r) false),(ii s.n),(bb s.over)]] 0)]):=by
    simp only[qdo,qpx S.len,c1,hr,wh,qb,zgy,↓qc,↓wb,wa,wd]
    exact⟨_,rfl,rfl,rfl,rfl⟩
   obtain⟨y,h1,h2,h3,h4⟩:=hx
   exact⟨y,qr6 h1,L,A,O,S,h2,h3,h4⟩
end
set_option maxRecDepth 10000
def qcy (n l m:Int):Bool:=decide (n≥l)&&decide (n≤m)
theorem qgd (n l m:Int):qaz (evL T) qa3 [(ii n),(ii l),(ii m)]=some (bb (qcy n l m)):=by
 rw[qaz,qg q2h q1p]
 by_cases h1:n≥l<;>simp only[qcy,qnx,h1,wh,ql,zgy,↓qc,↓wb,wc,wa,wd]
def operP (x:OpI) (n ps:Int):Bool:=
 if x.code=1 then qcy x.a 1 1099511627776&&(decide (x.b=0)&&decide (x.c=0))
 else if x.code=2 then decide (x.a≥0)&&(qcy x.b (-1073741824) 1073741824&&qcy x.c 1 1099511627776)
 else if x.code=3 then qcy x.a 1 1099511627776&&(qcy x.b 0 (n-1)&&decide (x.c=0))
 else if x.code=5 then qcy x.a 0 (ps-1)&&(qcy x.b 1 1099511627776&&decide (x.c=0))
 else if x.code=6 then qcy x.a 0 1&&(qcy x.b (-1073741824) 1073741824&&decide (x.c=0))
 else if x.code=7 then qcy x.a 0 1&&(qcy x.b (-1073741824) 1073741824&&qcy x.c 0 (n-1))
 else decide (x.a=0)&&(decide (x.b=0)&&decide (x.c=0))
theorem operP_eq (x:OpI) (n ps:Int):operP x n ps=q1s x n ps:=by
 obtain⟨k,a,b,c⟩:=x
 have e1 : ∀a m:Int,qcy a 0 (m-1)=(decide (a≥0)&&decide (a<m)):=fun a m=>by
  unfold qcy;congr 1;exact decide_eq_decide.2 (by omega)
 have e2 : ∀a:Int,qcy a 0 1=(decide (a≥0)&&decide (a<2)):=fun a=>e1 a 2
 have e3 : ∀a:Int,qcy a 1 1099511627776=qxs a:=fun a=>rfl
 have e4 : ∀a:Int,qcy a (-1073741824) 1073741824=q2e a:=fun a=>rfl
 simp only[operP,q1s,e1,e2,e3,e4,Bool.and_assoc]
section
variable (n ps lps look:Int) (x:OpI)
def okZ (b:Bool) (e:Int):Int:=if b=true then 0 else e
theorem q7v:(evL T).call qag [(.agg [(ii n),(ii ps),(ii lps),(ii look)]),(.agg [(ii x.code),(ii x.a),(ii x.b),(ii x.c)])] [.row 4 [[(ii n),(ii ps),(ii lps),(ii look)]] 0,.row 4 [[(ii x.code),(ii x.a),(ii x.b),(ii x.c)]] 0]=some ((ii (okZ (q6c x) 22)),[.row 4 [[(ii n),(ii ps),(ii lps),(ii look)]] 0,.row 4 [[(ii x.code),(ii x.a),(ii x.b),(ii x.c)]] 0]):=by
 rw[qg qwo qve]
 have e:q6c x=qcy x.code 1 8:=rfl
 rw[e]
 cases h:qcy x.code 1 8<;>simp only[qiz,qgd,h,okZ,wh,qb,wf,we,ql,wo,ne_eq,zgy,↓qc,↓wb,wc,wa,wd]
theorem q3x:(evL T).call qv [(.agg [(ii n),(ii ps),(ii lps),(ii look)]),(.agg [(ii x.code),(ii x.a),(ii x.b),(ii x.c)])] [.row 4 [[(ii n),(ii ps),(ii lps),(ii look)]] 0,.row 4 [[(ii x.code),(ii x.a),(ii x.b),(ii x.c)]] 0]=some ((ii (okZ (qagc lps x) 23)),[.row 4 [[(ii n),(ii ps),(ii lps),(ii look)]] 0,.row 4 [[(ii x.code),(ii x.a),(ii x.b),(ii x.c)]] 0]):=by
 rw[qg qt0 qsk]
 by_cases h1:x.code=2<;>by_cases h2:x.a≥lps<;>simp only[qh1,qagc,h1,h2,okZ,wh,qb,wf,we,ql,wo,ne_eq,zgy,↓qc,↓wb,wc,wa,wd]
theorem q6k:(evL T).call qy [(.agg [(ii n),(ii ps),(ii lps),(ii look)]),(.agg [(ii x.code),(ii x.a),(ii x.b),(ii x.c)])] [.row 4 [[(ii n),(ii ps),(ii lps),(ii look)]] 0,.row 4 [[(ii x.code),(ii x.a),(ii x.b),(ii x.c)]] 0]=some ((ii (okZ (qs0 look x) 21)),[.row 4 [[(ii n),(ii ps),(ii lps),(ii look)]] 0,.row 4 [[(ii x.code),(ii x.a),(ii x.b),(ii x.c)]] 0]):=by
 rw[qg qur qts]
 by_cases h1:x.code=2<;>by_cases h2:x.c<look<;>simp only[qic,qs0,h1,h2,okZ,wh,qb,wf,we,ql,wo,ne_eq,zgy,↓qc,↓wb,wc,wa,wd]
theorem q03 (hn:IntKind.i64.wrap (n-1)=n-1) (hp:IntKind.i64.wrap (ps-1)=ps-1) :
  (evL T).call qq [(.agg [(ii n),(ii ps),(ii lps),(ii look)]),(.agg [(ii x.code),(ii x.a),(ii x.b),(ii x.c)])] [.row 4 [[(ii n),(ii ps),(ii lps),(ii look)]] 0,.row 4 [[(ii x.code),(ii x.a),(ii x.b),(ii x.c)]] 0]=some ((ii (okZ (q1s x n ps) 22)),[.row 4 [[(ii n),(ii ps),(ii lps),(ii look)]] 0,.row 4 [[(ii x.code),(ii x.a),(ii x.b),(ii x.c)]] 0]):=by
 rw[qg qr4 qrg,←operP_eq]
 obtain⟨k,a,b,c⟩:=x
 simp only[operP]
 have e0 : ∀z:Int,((0:Int)==z)=decide (z=0):=fun z=>by rw[Bool.eq_iff_iff,beq_iff_eq,decide_eq_true_eq];exact eq_comm
 by_cases k1:k=1
 ·subst k1
  cases h1:qcy a 1 1099511627776<;>by_cases h2:b=0<;>by_cases h3:c=0<;>simp only[qbe,qgd,h1,h2,h3,e0,okZ,wh,wt,qb,wf,wz,we,qj1,ql,wo,ne_eq,zgy,↓qc,↓wb,wc,wa,wi,wE,wd]
 by_cases k2:k=2
 ·subst k2
  by_cases h1:a≥0<;>cases h2:qcy b (-1073741824) 1073741824<;>cases h3:qcy c 1 1099511627776<;>simp only[qbe,qgd,h1,h2,h3,okZ,wh,wt,qb,wf,wz,we,qj1,ql,wo,ne_eq,zgy,↓qc,↓wb,wc,wa,wi,wD,wE,wd]
 by_cases k3:k=3
 ·subst k3
  cases h1:qcy a 1 1099511627776<;>cases h2:qcy b 0 (n-1)<;>by_cases h3:c=0<;>simp only[qbe,qgd,hn,h1,h2,h3,e0,okZ,wh,wt,qb,wf,wz,we,qj1,ql,wo,ne_eq,zgy,↓qc,↓wb,wc,wa,wi,wD,wE,wd]
 by_cases k5:k=5
 ·subst k5
  cases h1:qcy a 0 (ps-1)<;>cases h2:qcy b 1 1099511627776<;>by_cases h3:c=0<;>simp only[qbe,qgd,hp,h1,h2,h3,e0,okZ,wh,wt,qb,wf,wz,we,qj1,ql,wo,ne_eq,zgy,↓qc,↓wb,wc,wa,wi,wD,wE,wd]
 by_cases k6:k=6
 ·subst k6
  cases h1:qcy a 0 1<;>cases h2:qcy b (-1073741824) 1073741824<;>by_cases h3:c=0<;>simp only[qbe,qgd,h1,h2,h3,e0,okZ,wh,wt,qb,wf,wz,we,qj1,ql,wo,ne_eq,zgy,↓qc,↓wb,wc,wa,wi,wD,wE,wd]
 by_cases k7:k=7
 ·subst k7
  cases h1:qcy a 0 1<;>cases h2:qcy b (-1073741824) 1073741824<;>cases h3:qcy c 0 (n-1)<;>simp only[qbe,qgd,hn,h1,h2,h3,okZ,wh,wt,qb,wf,wz,we,qj1,ql,wo,ne_eq,zgy,↓qc,↓wb,wc,wa,wi,wD,wE,wd]
 by_cases h1:a=0<;>by_cases h2:b=0<;>by_cases h3:c=0<;>simp only[qbe,k1,k2,k3,k5,k6,k7,h1,h2,h3,e0,okZ,wh,wt,qb,wf,wz,we,qj1,ql,wo,ne_eq,zgy,↓qc,↓wb,wc,wa,wi,wE,wd]
end
section
variable (p:List OpI) (c:Bool) (n ps lps look:Int)
def rulesL (n ps lps look:Int):List (List AV):=[[.fn (.func qag) [(.agg [(ii n),(ii ps),(ii lps),(ii look)])] []],[.fn (.func qq) [(.agg [(ii n),(ii ps),(ii lps),(ii look)])] []],[.fn (.func qv) [(.agg [(ii n),(ii ps),(ii lps),(ii look)])] []],[.fn (.func qy) [(.agg [(ii n),(ii ps),(ii lps),(ii look)])] []]]
theorem qafi (k:Nat) (j:Int) (f:OpI→Bool) (err:Int) (herr:err≠0) (hl:p.length≤16) (hr : ∀x,(evL T).call k [(.agg [(ii n),(ii ps),(ii lps),(ii look)]),(.agg [(ii x.code),(ii x.a),(ii x.b),(ii x.c)])] [.row 4 [[(ii n),(ii ps),(ii lps),(ii look)]] 0,.row 4 [[(ii x.code),(ii x.a),(ii x.b),(ii x.c)]] 0]=some ((ii (okZ (f x) err)),[.row 4 [[(ii n),(ii ps),(ii lps),(ii look)]] 0,.row 4 [[(ii x.code),(ii x.a),(ii x.b),(ii x.c)]] 0])) :
  ∃y,itB (exec (evL T) itL none qjj) (qao [0,11,33,34,35,39,40,41] true 1) ⟨[(0,(.fsl ((p).map OpI.r) c)),(11,.fn (.func k) [(.agg [(ii n),(ii ps),(ii lps),(ii look)])] []),(33,(.fsl [[.fn (.func qag) [(.agg [(ii n),(ii ps),(ii lps),(ii look)])] []],[.fn (.func qq) [(.agg [(ii n),(ii ps),(ii lps),(ii look)])] []],[.fn (.func qv) [(.agg [(ii n),(ii ps),(ii lps),(ii look)])] []],[.fn (.func qy) [(.agg [(ii n),(ii ps),(ii lps),(ii look)])] []]] true)),(34,(ii 4)),(35,(ii j)),(39,(.fsl ((p).map OpI.r) c)),(40,(ii p.length)),(41,(ii 0))],[]⟩ [.row 4 [[(ii n),(ii ps),(ii lps),(ii look)]] 0]=some y ∧
   (p.all f=true∧(y.1 = .exit 2∧y.2.1.marks=[]∧y.2.2=[.row 4 [[(ii n),(ii ps),(ii lps),(ii look)]] 0]∧wg y.2.1.vars 0=some (.fsl ((p).map OpI.r) c)∧wg y.2.1.vars 33=some (.fsl [[.fn (.func qag) [(.agg [(ii n),(ii ps),(ii lps),(ii look)])] []],[.fn (.func qq) [(.agg [(ii n),(ii ps),(ii lps),(ii look)])] []],[.fn (.func qv) [(.agg [(ii n),(ii ps),(ii lps),(ii look)])] []],[.fn (.func qy) [(.agg [(ii n),(ii ps),(ii lps),(ii look)])] []]] true)∧wg y.2.1.vars 34=some (ii 4)∧wg y.2.1.vars 35=some (ii j)) ∨
   p.all f=false ∧ ∃x,p.find? (fun x => !f x)=some x∧(y.1 = .ret∧y.2.1.marks=[]∧y.2.2=[.row 4 [[(ii n),(ii ps),(ii lps),(ii look)]] 0,.row 4 [[(ii x.code),(ii x.a),(ii x.b),(ii x.c)]] 0]∧wg y.2.1.vars 8=some (ii err))):=by
 refine qib p (fun i=>⟨[(0,(.fsl ((p).map OpI.r) c)),(11,.fn (.func k) [(.agg [(ii n),(ii ps),(ii lps),(ii look)])] []),(33,(.fsl [[.fn (.func qag) [(.agg [(ii n),(ii ps),(ii lps),(ii look)])] []],[.fn (.func qq) [(.agg [(ii n),(ii ps),(ii lps),(ii look)])] []],[.fn (.func qv) [(.agg [(ii n),(ii ps),(ii lps),(ii look)])] []],[.fn (.func qy) [(.agg [(ii n),(ii ps),(ii lps),(ii look)])] []]] true)),(34,(ii 4)),(35,(ii j)),(39,(.fsl ((p).map OpI.r) c)),(40,(ii p.length)),(41,(ii i))],[]⟩) [.row 4 [[(ii n),(ii ps),(ii lps),(ii look)]] 0] f _ (fun x y => _) ?_ ?_ ?_
 ·intro i x hi hx hp
  have hi':(i:Int)<(p.length:Int):=by omega
  have hw:IntKind.i64.wrap ((i:Int)+1)=((i+1:Nat):Int):=by rw[qk (by omega) (by omega)];simp
  have h1:=hr x
  rw[hp]at h1
  simp only[okZ,if_true]at h1
  simp only[qjj,zgs,zgr,zgq,zgt,OpI.r,hx,hi',hw,h1,qh6,wh,wt,qb,wf,we,wo,ne_eq,zgy,↓qc,↓wb,wc,wa,wd]
 ·intro i x hi hx hp
  have hi':(i:Int)<(p.length:Int):=by omega
  have h1:=hr x
  rw[hp]at h1
  simp only[okZ,zfa,if_false]at h1
  simp only[qjj,zgs,zgr,zgq,zgt,OpI.r,hx,hi',h1,herr,wh,wt,qb,wf,we,ne_eq,zgy,↓qc,↓wb,wc,wa,wd]
  exact⟨_,rfl,rfl,rfl,rfl,rfl⟩
 ·simp only[qjj,wk,wh,zgy,↓qc,↓wb,wa,wd]
  exact⟨_,rfl,rfl,rfl,rfl,rfl,rfl,rfl,rfl⟩
theorem qw3 (hl:p.length≤16) (j:Nat) (k:Nat) (f:OpI→Bool) (err:Int) (herr:err≠0) (hj:(rulesL n ps lps look)[j]? = some [.fn (.func k) [(.agg [(ii n),(ii ps),(ii lps),(ii look)])] []]) (hr : ∀x,(evL T).call k [(.agg [(ii n),(ii ps),(ii lps),(ii look)]),(.agg [(ii x.code),(ii x.a),(ii x.b),(ii x.c)])] [.row 4 [[(ii n),(ii ps),(ii lps),(ii look)]] 0,.row 4 [[(ii x.code),(ii x.a),(ii x.b),(ii x.c)]] 0]=some ((ii (okZ (f x) err)),[.row 4 [[(ii n),(ii ps),(ii lps),(ii look)]] 0,.row 4 [[(ii x.code),(ii x.a),(ii x.b),(ii x.c)]] 0])) :
  (p.all f=true∧it1 (exec (evL T) itL none qfh) (qao [0,33,34,35] true 1) ⟨[(0,(.fsl ((p).map OpI.r) c)),(33,(.fsl [[.fn (.func qag) [(.agg [(ii n),(ii ps),(ii lps),(ii look)])] []],[.fn (.func qq) [(.agg [(ii n),(ii ps),(ii lps),(ii look)])] []],[.fn (.func qv) [(.agg [(ii n),(ii ps),(ii lps),(ii look)])] []],[.fn (.func qy) [(.agg [(ii n),(ii ps),(ii lps),(ii look)])] []]] true)),(34,(ii 4)),(35,(ii ((j:Int))))],[]⟩ [.row 4 [[(ii n),(ii ps),(ii lps),(ii look)]] 0]=some (.inl (⟨[(0,(.fsl ((p).map OpI.r) c)),(33,(.fsl [[.fn (.func qag) [(.agg [(ii n),(ii ps),(ii lps),(ii look)])] []],[.fn (.func qq) [(.agg [(ii n),(ii ps),(ii lps),(ii look)])] []],[.fn (.func qv) [(.agg [(ii n),(ii ps),(ii lps),(ii look)])] []],[.fn (.func qy) [(.agg [(ii n),(ii ps),(ii lps),(ii look)])] []]] true)),(34,(ii 4)),(35,(ii (((j+1:Nat):Int))))],[]⟩,[.row 4 [[(ii n),(ii ps),(ii lps),(ii look)]] 0]))) ∨
  (p.all f=false ∧ ∃y,it1 (exec (evL T) itL none qfh) (qao [0,33,34,35] true 1) ⟨[(0,(.fsl ((p).map OpI.r) c)),(33,(.fsl [[.fn (.func qag) [(.agg [(ii n),(ii ps),(ii lps),(ii look)])] []],[.fn (.func qq) [(.agg [(ii n),(ii ps),(ii lps),(ii look)])] []],[.fn (.func qv) [(.agg [(ii n),(ii ps),(ii lps),(ii look)])] []],[.fn (.func qy) [(.agg [(ii n),(ii ps),(ii lps),(ii look)])] []]] true)),(34,(ii 4)),(35,(ii ((j:Int))))],[]⟩ [.row 4 [[(ii n),(ii ps),(ii lps),(ii look)]] 0]=some (.inr y)∧y.1 = .ret∧y.2.1.marks=[]∧(∃x:OpI,y.2.2=[.row 4 [[(ii n),(ii ps),(ii lps),(ii look)]] 0,.row 4 [[(ii x.code),(ii x.a),(ii x.b),(ii x.c)]] 0])∧wg y.2.1.vars 8=some (ii err)):=by
 obtain⟨⟨y,e,σ⟩,k1,k2⟩:=qafi p c n ps lps look k j f err herr hl hr
 have hj4:j<4:=(zei.1 hj).1
 have hi':(j:Int)<4:=by omega
 have hw:IntKind.i64.wrap ((j:Int)+1)=((j+1:Nat):Int):=by rw[qk (by omega) (by omega)];simp
 simp only[rulesL]at hj
 simp only at k2
 rcases k2 with ⟨q1,rfl,q2,rfl,q3,q4,q5,q6⟩|⟨q1,x,_,rfl,q2,rfl,q3⟩
 ·refine .inl ⟨q1,?_⟩
  simp only[qfh,zgs,zgr,hi',hw,hj,k1,q2,q3,q4,q5,q6,qh6,wh,qb,wo,zgy,↓qc,↓qx,↓wb,wa,wd]
 ·refine .inr ⟨q1,?_⟩
  simp only[qfh,zgs,zgr,hi',hj,k1,qh6,wh,qb,wo,zgy,↓qc,↓qx,↓wb,wa,wd]
  exact⟨_,rfl,rfl,q2,⟨x,rfl⟩,q3⟩
def qalk:Int:=if p.all q6c=false then 22 else if p.all (fun x=>q1s x n ps)=false then 22 else if p.all (qagc lps)=false then 23 else if p.all (qs0 look)=false then 21 else 0
theorem qadz (hl:p.length≤16) (hn:IntKind.i64.wrap (n-1)=n-1) (hp:IntKind.i64.wrap (ps-1)=ps-1) :
  ∃y,itB (exec (evL T) itL none qfh) (qao [0,33,34,35] true 1) ⟨[(0,(.fsl ((p).map OpI.r) c)),(33,(.fsl [[.fn (.func qag) [(.agg [(ii n),(ii ps),(ii lps),(ii look)])] []],[.fn (.func qq) [(.agg [(ii n),(ii ps),(ii lps),(ii look)])] []],[.fn (.func qv) [(.agg [(ii n),(ii ps),(ii lps),(ii look)])] []],[.fn (.func qy) [(.agg [(ii n),(ii ps),(ii lps),(ii look)])] []]] true)),(34,(ii 4)),(35,(ii 0))],[]⟩ [.row 4 [[(ii n),(ii ps),(ii lps),(ii look)]] 0]=some y ∧
   (qalk p n ps lps look=0∧(y.1 = .exit 0∧y.2.1.marks=[]∧y.2.2=[.row 4 [[(ii n),(ii ps),(ii lps),(ii look)]] 0])∨(y.1 = .ret∧y.2.1.marks=[]∧(∃x:OpI,y.2.2=[.row 4 [[(ii n),(ii ps),(ii lps),(ii look)]] 0,.row 4 [[(ii x.code),(ii x.a),(ii x.b),(ii x.c)]] 0])∧wg y.2.1.vars 8=some (ii (qalk p n ps lps look)))):=by
 have s0:=qw3 p c n ps lps look hl 0 qag q6c 22 (by decide) rfl (q7v n ps lps look)
 have s1:=qw3 p c n ps lps look hl 1 qq (fun x=>q1s x n ps) 22 (by decide) rfl (fun x=>q03 n ps lps look x hn hp)
 have s2:=qw3 p c n ps lps look hl 2 qv (qagc lps) 23 (by decide) rfl (q3x n ps lps look)
 have s3:=qw3 p c n ps lps look hl 3 qy (qs0 look) 21 (by decide) rfl (q6k n ps lps look)
 have last : ∃y,it1 (exec (evL T) itL none qfh) (qao [0,33,34,35] true 1) ⟨[(0,(.fsl ((p).map OpI.r) c)),(33,(.fsl [[.fn (.func qag) [(.agg [(ii n),(ii ps),(ii lps),(ii look)])] []],[.fn (.func qq) [(.agg [(ii n),(ii ps),(ii lps),(ii look)])] []],[.fn (.func qv) [(.agg [(ii n),(ii ps),(ii lps),(ii look)])] []],[.fn (.func qy) [(.agg [(ii n),(ii ps),(ii lps),(ii look)])] []]] true)),(34,(ii 4)),(35,(ii 4))],[]⟩ [.row 4 [[(ii n),(ii ps),(ii lps),(ii look)]] 0]=some (.inr y)∧y.1 = .exit 0∧y.2.1.marks=[]∧y.2.2=[.row 4 [[(ii n),(ii ps),(ii lps),(ii look)]] 0]:=by
  simp only[qfh,wk,wh,zgy,↓qc,↓wb,wa,wd]
  exact⟨_,rfl,rfl,rfl,rfl⟩
 unfold qalk
 rcases s0 with ⟨a0,b0⟩|⟨a0,y,b0,b1,b2,b3,b4⟩
 ·rcases s1 with ⟨a1,c0⟩|⟨a1,y,c0,c1,c2,c3,c4⟩
  ·rcases s2 with ⟨a2,d0⟩|⟨a2,y,d0,d1,d2,d3,d4⟩
   ·rcases s3 with ⟨a3,f0⟩|⟨a3,y,f0,f1,f2,f3,f4⟩
    ·obtain⟨y,l0,l1,l2,l3⟩:=last
     refine⟨y,?_,.inl ⟨by rw[a0,a1,a2,a3];rfl,l1,l2,l3⟩⟩
     exact qmu b0 (qmu c0 (qmu d0 (qmu f0 (qr6 l0))))
    ·refine⟨y,?_,.inr ⟨f1,f2,f3,by rw[a0,a1,a2,a3];exact f4⟩⟩
     exact qmu b0 (qmu c0 (qmu d0 (qr6 f0)))
   ·refine⟨y,?_,.inr ⟨d1,d2,d3,by rw[a0,a1,a2];exact d4⟩⟩
    exact qmu b0 (qmu c0 (qr6 d0))
  ·refine⟨y,?_,.inr ⟨c1,c2,c3,by rw[a0,a1];exact c4⟩⟩
   exact qmu b0 (qr6 c0)
 ·refine⟨y,?_,.inr ⟨b1,b2,b3,by rw[a0];exact b4⟩⟩
  exact qr6 b0
end
theorem q6f (p:List OpI) (c:Bool) (ps lps look:Int) (hl62:p.length<2^62) (hp:IntKind.i64.wrap (ps-1)=ps-1):qaz (evL T) qip [(.fsl ((p).map OpI.r) c),(ii ps),(ii lps),(ii look)]=some (ii (qrn p ps lps look)):=by
 have h0:=qgd p.length 1 16
 rw[qaz,qg q3r q3j]
 have hz:qrn p ps lps look=if 1≤p.length∧p.length≤16 then qalk p p.length ps lps look else 22:=by
  unfold qrn qalk qxr
  by_cases h:1≤p.length∧p.length≤16
  ·simp only[h,zgx,zgv,Bool.true_and,if_true]
  ·simp only[h,zgw,Bool.false_and,if_true,if_false]
 have hw:qcy p.length 1 16=decide (1≤p.length∧p.length≤16):=by
  unfold qcy
  rw[←Bool.decide_and]
  exact decide_eq_decide.2 (by omega)
 rw[hw]at h0
 rw[hz]
 have hrep:wr 4 ([.v .nilFunc]:List AV)=[[.v .nilFunc],[.v .nilFunc],[.v .nilFunc],[.v .nilFunc]]:=rfl
 by_cases h:1≤p.length∧p.length≤16
 ·have hn:IntKind.i64.wrap ((p.length:Int)-1)=(p.length:Int)-1:=qk (by omega) (by omega)
  obtain⟨⟨y,e,σ⟩,k1,k2⟩:=qadz p c p.length ps lps look h.2 hn hp
  simp only at k2
  simp only[h,zgx,zgv]at h0
  rcases k2 with ⟨q1,rfl,q2,rfl⟩|⟨rfl,q2,⟨x,rfl⟩,q3⟩
  ·simp only[h,zgx,if_true,q1]
   simp only[qkd,hrep,h0,k1,q2,qh6,wh,wt,qb,wf,wz,we,ql,wo,ne_eq,zgy,↓qc,↓qx,↓wb,wc,wa,Nat.reduceMul,wv,wi,wy,wd]
  ·simp only[h,zgx,if_true]
   simp only[qkd,hrep,h0,k1,q2,q3,qh6,wh,wt,qb,wf,wz,we,ql,wo,ne_eq,zgy,↓qc,↓qx,↓wb,wc,wa,Nat.reduceMul,wv,wi,wy,wd]
 ·simp only[h,zgw]at h0
  simp only[h,if_false]
  simp only[qkd,h0,wh,ql,zgy,↓qc,↓wb,wc,wd]
set_option maxRecDepth 10000
def qhr {τ:Type} (g:τ→Int) (l:List τ):Int:=match l.find? (fun x => !decide (g x=0))with
 |none=>0
 |some x=>g x
theorem qzl {τ:Type} {g:τ→Int} {l:List τ} (h:l.all (fun x=>decide (g x=0))=true):qhr g l=0:=by
 have:l.find? (fun x => !decide (g x=0))=none:=by
  rw[List.find?_eq_none]
  intro x hx
  have:=List.all_eq_true.1 h x hx
  simpa using this
 unfold qhr;rw[this]
theorem qwz {τ:Type} {g:τ→Int} {l:List τ} {x:τ} (h:l.find? (fun x => !decide (g x=0))=some x):qhr g l=g x:=by
 unfold qhr;rw[h]
theorem qle (n l m:Int):qaz (evL T) qex [(ii n),(ii l),(ii m)]=some (bb (qcy n l m)):=by
 rw[qaz,qg q4t q3e]
 by_cases h1:n≥l<;>simp only[qcy,qpf,h1,wh,ql,zgy,↓qc,↓wb,wc,wa,wd]
theorem qqd (b:Bool) (e:Int):qaz (evL T) qfq [(bb b),(ii e)]=some (ii (okZ b e)):=by
 rw[qaz,qg q2y q1o]
 cases b<;>simp only[okZ,qn0,wh,ql,zgy,↓qc,↓wb,wc,wa,wd]
section
variable (k:Nat) (cap:List AV) (hcap:los 0 cap=true)
include hcap
theorem qac0 (l:List (List OpI)) (g:List OpI→Int) (hl:l.length<2^62) (hf : ∀p∈l,(evL T).call k ((.fsl ((p).map OpI.r) false)::cap) []=some ((ii (g p)),[])) :
  qaz (evL T) qel [(.fsl ((l).map qbu) false),.fn (.func k) [] cap]=some (ii (qhr g l)):=by
 have hL : ∃y,itB (exec (evL T) itL none qfm) (qao [1,8,9,10] true 0) ⟨[(1,.fn (.func k) [] cap),(8,(.fsl ((l).map qbu) false)),(9,(ii l.length)),(10,(ii 0))],[]⟩ []=some y∧(l.all (fun x=>decide (g x=0))=true∧(y.1 = .exit 0∧y.2.1.marks=[]∧y.2.2=[]) ∨
   l.all (fun x=>decide (g x=0))=false ∧ ∃x,l.find? (fun x => !decide (g x=0))=some x∧(y.1 = .ret∧y.2.1.marks=[]∧y.2.2=[]∧wg y.2.1.vars 4=some (ii (g x)))):=by
  refine qib l (fun i=>⟨[(1,.fn (.func k) [] cap),(8,(.fsl ((l).map qbu) false)),(9,(ii l.length)),(10,(ii i))],[]⟩) [] (fun x=>decide (g x=0)) _ (fun x y => _) ?_ ?_ ?_
  ·intro i x hi hx hp
   have hi':(i:Int)<(l.length:Int):=by omega
   have hw:IntKind.i64.wrap ((i:Int)+1)=((i+1:Nat):Int):=by rw[qk (by omega) (by omega)];simp
   have h1:=hf x (zmg hx)
   rw[of_decide_eq_true hp]at h1
   simp only[qfm,zgs,zgr,zgq,zgt,hx,hi',hw,h1,hcap,qa7,qbu,wh,qb,ne_eq,zgy,↓qc,↓wb,wa]
  ·intro i x hi hx hp
   have hi':(i:Int)<(l.length:Int):=by omega
   have h1:=hf x (zmg hx)
   have h2:¬g x=0:=of_decide_eq_false hp
   simp only[qfm,zgs,zgr,zgq,zgt,hx,hi',h1,h2,qbu,wh,qb,ne_eq,zgy,↓qc,↓wb,wa]
   exact⟨_,rfl,rfl,rfl,rfl,rfl⟩
  ·simp only[qfm,wk,wh,zgy,↓qc,↓wb,wa]
   exact⟨_,rfl,rfl,rfl,rfl⟩
 obtain⟨⟨y,e,σ⟩,k1,k2⟩:=hL
 simp only at k2
 rw[qaz,qg qwm qvk]
 rcases k2 with ⟨k3,rfl,k4,rfl⟩|⟨k3,x,k5,rfl,k4,rfl,k6⟩
 ·rw[qzl k3]
  simp only[qg3,k1,k4,hcap,qa7,wh,ql,zgy,↓qc,↓qx,↓wb,wc,wa,wd]
 ·rw[qwz k5]
  simp only[qg3,k1,k4,k6,hcap,qa7,wh,ql,zgy,↓qc,↓qx,↓wb,wc,wa,wd]
theorem q9p (l:List (List Start)) (g:List Start→Int) (hl:l.length<2^62) (hf : ∀p∈l,(evL T).call k ((.fsl ((p).map Start.r) false)::cap) []=some ((ii (g p)),[])) :
  qaz (evL T) qdl [(.fsl ((l).map lpC) false),.fn (.func k) [] cap]=some (ii (qhr g l)):=by
 have hL : ∃y,itB (exec (evL T) itL none qep) (qao [1,8,9,10] true 0) ⟨[(1,.fn (.func k) [] cap),(8,(.fsl ((l).map lpC) false)),(9,(ii l.length)),(10,(ii 0))],[]⟩ []=some y∧(l.all (fun x=>decide (g x=0))=true∧(y.1 = .exit 0∧y.2.1.marks=[]∧y.2.2=[]) ∨
   l.all (fun x=>decide (g x=0))=false ∧ ∃x,l.find? (fun x => !decide (g x=0))=some x∧(y.1 = .ret∧y.2.1.marks=[]∧y.2.2=[]∧wg y.2.1.vars 4=some (ii (g x)))):=by
  refine qib l (fun i=>⟨[(1,.fn (.func k) [] cap),(8,(.fsl ((l).map lpC) false)),(9,(ii l.length)),(10,(ii i))],[]⟩) [] (fun x=>decide (g x=0)) _ (fun x y => _) ?_ ?_ ?_
  ·intro i x hi hx hp
   have hi':(i:Int)<(l.length:Int):=by omega
   have hw:IntKind.i64.wrap ((i:Int)+1)=((i+1:Nat):Int):=by rw[qk (by omega) (by omega)];simp
   have h1:=hf x (zmg hx)
   rw[of_decide_eq_true hp]at h1
   simp only[qep,zgs,zgr,zgq,zgt,hx,hi',hw,h1,hcap,qc8,lpC,wh,qb,ne_eq,zgy,↓qc,↓wb,wa]
  ·intro i x hi hx hp
   have hi':(i:Int)<(l.length:Int):=by omega
   have h1:=hf x (zmg hx)
   have h2:¬g x=0:=of_decide_eq_false hp
   simp only[qep,zgs,zgr,zgq,zgt,hx,hi',h1,h2,lpC,wh,qb,ne_eq,zgy,↓qc,↓wb,wa]
   exact⟨_,rfl,rfl,rfl,rfl,rfl⟩
  ·simp only[qep,wk,wh,zgy,↓qc,↓wb,wa]
   exact⟨_,rfl,rfl,rfl,rfl⟩
 obtain⟨⟨y,e,σ⟩,k1,k2⟩:=hL
 simp only at k2
 rw[qaz,qg qth qr9]
 rcases k2 with ⟨k3,rfl,k4,rfl⟩|⟨k3,x,k5,rfl,k4,rfl,k6⟩
 ·rw[qzl k3]
  simp only[qfp,k1,k4,hcap,qc8,wh,ql,zgy,↓qc,↓qx,↓wb,wc,wa,wd]
 ·rw[qwz k5]
  simp only[qfp,k1,k4,k6,hcap,qc8,wh,ql,zgy,↓qc,↓qx,↓wb,wc,wa,wd]
theorem qaag (l:List Start) (g:Start→Int) (hl:l.length<2^62) (hf : ∀x∈l,(evL T).call k (.agg [(ii x.prog),(ii x.time)]::cap) [.row 2 [[(ii x.prog),(ii x.time)]] 0]=some ((ii (g x)),[.row 2 [[(ii x.prog),(ii x.time)]] 0])) :
  qaz (evL T) qd2 [(.fsl ((l).map Start.r) false),.fn (.func k) [] cap]=some (ii (qhr g l)):=by
 have hL : ∃y,itB (exec (evL T) itL none qe3) (qao [1,8,9,10] true 0) ⟨[(1,.fn (.func k) [] cap),(8,(.fsl ((l).map Start.r) false)),(9,(ii l.length)),(10,(ii 0))],[]⟩ []=some y∧(l.all (fun x=>decide (g x=0))=true∧(y.1 = .exit 0∧y.2.1.marks=[]∧y.2.2=[]) ∨
   l.all (fun x=>decide (g x=0))=false ∧ ∃x,l.find? (fun x => !decide (g x=0))=some x∧(y.1 = .ret∧y.2.1.marks=[]∧y.2.2=[.row 2 [[(ii x.prog),(ii x.time)]] 0]∧wg y.2.1.vars 4=some (ii (g x)))):=by
  refine qib l (fun i=>⟨[(1,.fn (.func k) [] cap),(8,(.fsl ((l).map Start.r) false)),(9,(ii l.length)),(10,(ii i))],[]⟩) [] (fun x=>decide (g x=0)) _ (fun x y => _) ?_ ?_ ?_
  ·intro i x hi hx hp
   have hi':(i:Int)<(l.length:Int):=by omega
   have hw:IntKind.i64.wrap ((i:Int)+1)=((i+1:Nat):Int):=by rw[qk (by omega) (by omega)];simp
   have h1:=hf x (zmg hx)
   rw[of_decide_eq_true hp]at h1
   simp only[qe3,zgs,zgr,zgq,zgt,hx,hi',hw,h1,hcap,qte,Start.r,wh,wt,qb,wf,we,ne_eq,zgy,↓qc,↓wb,wc,wa]
  ·intro i x hi hx hp
   have hi':(i:Int)<(l.length:Int):=by omega
   have h1:=hf x (zmg hx)
   have h2:¬g x=0:=of_decide_eq_false hp
   simp only[qe3,zgs,zgr,zgq,zgt,hx,hi',h1,h2,Start.r,wh,wt,qb,wf,we,ne_eq,zgy,↓qc,↓wb,wc,wa]
   exact⟨_,rfl,rfl,rfl,rfl,rfl⟩
  ·simp only[qe3,wk,wh,zgy,↓qc,↓wb,wa]
   exact⟨_,rfl,rfl,rfl,rfl⟩
 obtain⟨⟨y,e,σ⟩,k1,k2⟩:=hL
 simp only at k2
 rw[qaz,qg qt1 qtk]
 rcases k2 with ⟨k3,rfl,k4,rfl⟩|⟨k3,x,k5,rfl,k4,rfl,k6⟩
 ·rw[qzl k3]
  simp only[qf8,k1,k4,hcap,qte,wh,ql,zgy,↓qc,↓qx,↓wb,wc,wa,wd]
 ·rw[qwz k5]
  simp only[qf8,k1,k4,k6,hcap,qte,wh,ql,zgy,↓qc,↓qx,↓wb,wc,wa,wd]
end
set_option maxRecDepth 10000
section
variable (c:Cfg)
def qaeu (c:Cfg):Bool:=qcy c.lps.length 1 8&&(decide ((c.progs.length:Int)≤8)&&(qcy c.cap 1 64&&qcy c.fin 0 1152921504606846976))
def lenB (l:List Start):Bool:=decide ((l.length:Int)≤8)
def qxt (c:Cfg):Bool:=qaeu c&&c.lps.all lenB
structure CfgOk (c:Cfg):Prop where
 lps:c.lps.length<2^62
 progs:c.progs.length<2^62
 prog : ∀p∈c.progs,p.length<2^62
 lp : ∀l∈c.lps,l.length<2^62
theorem qaks (h:CfgOk c) (b:Bool) :
  ∃y,itB (exec (evL T) itL none qfn) (qao [3,32,33,34] true 0) ⟨[(3,(bb b)),(32,(.fsl ((c.lps).map lpC) false)),(33,(ii c.lps.length)),(34,(ii 0))],[]⟩ []=some y∧y.1 = .exit 0∧y.2.1.marks=[]∧y.2.2=[]∧wg y.2.1.vars 3=some (bb (b&&c.lps.all lenB)):=by
 have hlp:=h.lps
 have:=qh5 (f:=exec (evL T) itL none qfn) (s:=qao [3,32,33,34] true 0) (α:=Bool) (fun i b=>⟨[(3,(bb b)),(32,(.fsl ((c.lps).map lpC) false)),(33,(ii c.lps.length)),(34,(ii ((i:Int))))],[]⟩) (fun _ _=>[])
  (fun i r=>r=(b&&(c.lps.take i).all lenB)) c.lps.length (fun y=>y.1 = .exit 0∧y.2.1.marks=[]∧y.2.2=[]∧wg y.2.1.vars 3=some (bb (b&&c.lps.all lenB))) ?_ ?_ 0 b (wA _) (by simp)
 ·exact this
 ·rintro i r hi hr
  obtain⟨x,hx⟩ : ∃x,c.lps[i]? = some x:=⟨_,zgE hi⟩
  have hi':(i:Int)<(c.lps.length:Int):=by omega
  have hw:IntKind.i64.wrap ((i:Int)+1)=((i+1:Nat):Int):=by rw[qk (by omega) (by omega)];simp
  have hn:(b&&(c.lps.take (i+1)).all lenB)=(r&&lenB x):=by rw[hr,qf6 hx,List.all_append,←Bool.and_assoc];simp
  refine .inl ⟨r&&lenB x,?_,hn.symm⟩
  cases r<;>simp only[qfn,zgs,zgr,zgq,zgt,hx,hi',hw,qc8,lpC,lenB,wh,qb,zgy,↓qc,↓wb,wa]
 ·rintro r hr
  rw[wu]at hr
  simp only[qfn,wk,wh,zgy,↓qc,↓wb,wa]
  exact⟨_,rfl,rfl,rfl,rfl,by rw[←hr];rfl⟩
theorem q6r (h:CfgOk c):(evL T).call qdz [(.agg [(.fsl ((c.lps).map lpC) false),(.fsl ((c.progs).map qbu) false),(ii c.look),(ii c.fin),(ii c.cap)])] []=some ((ii (okZ (qxt c) 1)),[]):=by
 obtain⟨⟨y,e,σ⟩,k1,k2,k3,k4,k5⟩:=qaks c h (qaeu c)
 simp only at k2 k3 k4 k5
 subst k2;subst k4
 have v:=qqd (qxt c) 1
 rw[show qxt c=(qaeu c&&c.lps.all lenB) from rfl]at v⊢
 rw[qg qvy qvf]
 unfold qaeu at k1 k5 v⊢
 cases h1:qcy c.lps.length 1 8<;>simp only[h1,Bool.false_and,Bool.true_and]at k1 k5 v⊢
 ·simp only[qem,qle,h1,k1,k3,k5,v,qc8,okZ,wh,qb,wf,we,ql,ne_eq,zgy,↓qc,↓qx,↓wb,wa]
 by_cases h2:(c.progs.length:Int)≤8<;>simp only[h2,zgv,zgw,Bool.false_and,Bool.true_and]at k1 k5 v⊢
 ·cases h3:qcy c.cap 1 64<;>simp only[h3,Bool.false_and,Bool.true_and]at k1 k5 v⊢
  ·simp only[qem,qle,h1,h2,h3,k1,k3,k5,v,qc8,okZ,wh,qb,wf,we,ql,ne_eq,zgy,↓qc,↓qx,↓wb,wa]
  ·simp only[qem,qle,h1,h2,h3,k1,k3,k5,v,qc8,okZ,wh,qb,wf,we,ql,ne_eq,zgy,↓qc,↓qx,↓wb,wa]
 ·simp only[qem,qle,h1,h2,k1,k3,k5,v,qc8,okZ,wh,qb,wf,we,ql,ne_eq,zgy,↓qc,↓qx,↓wb,wa]
theorem q0j:(evL T).call qck [(.agg [(.fsl ((c.lps).map lpC) false),(.fsl ((c.progs).map qbu) false),(ii c.look),(ii c.fin),(ii c.cap)])] []=some ((ii (okZ (decide (c.look≥1)) 20)),[]):=by
 rw[qg qr8 qrj]
 have v:=qqd (decide (c.look≥1)) 20
 simp only[qg1,v,wh,qb,wf,we,ql,ne_eq,zgy,↓qc,↓wb,wa]
def q87 (c:Cfg) (p:List OpI):Int:=qrn p c.progs.length c.lps.length c.look
theorem qacu (h:CfgOk c) (p:List OpI) (hp:p∈c.progs):(evL T).call qb7 [(.fsl ((p).map OpI.r) false),(.fptr [(.fsl ((c.lps).map lpC) false),(.fsl ((c.progs).map qbu) false),(ii c.look),(ii c.fin),(ii c.cap)])] []=some ((ii (q87 c p)),[]):=by
 rw[qg qq5 qqy]
 have:=h.progs
 have v:=q6f p false c.progs.length c.lps.length c.look (h.prog p hp) (qk (by omega) (by omega))
 simp only[qgo,v,q87,qh6,wh,qb,ql,zgy,↓qc,↓wb,wc,wa,wd]
theorem q1r (h:CfgOk c):(evL T).call qcu [(.agg [(.fsl ((c.lps).map lpC) false),(.fsl ((c.progs).map qbu) false),(ii c.look),(ii c.fin),(ii c.cap)])] []=some ((ii (qhr (q87 c) c.progs)),[]):=by
 have v:=qac0 qb7 [(.fptr [(.fsl ((c.lps).map lpC) false),(.fsl ((c.progs).map qbu) false),(ii c.look),(ii c.fin),(ii c.cap)])] (by simp only[qc8,qa7,wh,zgy]) c.progs (q87 c) h.progs fun p hp=>qacu c h p hp
 rw[qg qta qr0]
 simp only[qhc,v,qc8,qa7,wh,qb,wf,we,ql,ne_eq,zgy,↓qc,↓wb,wa]
def qwk (c:Cfg) (s:Start):Int:=if qcy s.prog 0 ((c.progs.length:Int)-1)=false then 22 else okZ (qcy s.time 0 1152921504606846976) 11
theorem qac5 (h:CfgOk c) (s:Start):(evL T).call qb8 [.agg [(ii s.prog),(ii s.time)],(.fptr [(.fsl ((c.lps).map lpC) false),(.fsl ((c.progs).map qbu) false),(ii c.look),(ii c.fin),(ii c.cap)])] [.row 2 [[(ii s.prog),(ii s.time)]] 0]=some ((ii (qwk c s)),[.row 2 [[(ii s.prog),(ii s.time)]] 0]):=by
 rw[qg qq9 qqq]
 have:=h.progs
 have hw:IntKind.i64.wrap ((c.progs.length:Int)-1)=(c.progs.length:Int)-1:=qk (by omega) (by omega)
 have v:=qqd (qcy s.time 0 1152921504606846976) 11
 cases h1:qcy s.prog 0 ((c.progs.length:Int)-1)<;>simp only[qgm,qle,v,hw,h1,qwk,wh,qb,wf,we,ql,wo,ne_eq,zgy,↓qc,↓wb,wc,wa,wd]
theorem qage (h:CfgOk c) (l:List Start) (hl:l∈c.lps):(evL T).call qcx [(.fsl ((l).map Start.r) false),(.fptr [(.fsl ((c.lps).map lpC) false),(.fsl ((c.progs).map qbu) false),(ii c.look),(ii c.fin),(ii c.cap)])] []=some ((ii (qhr (qwk c) l)),[]):=by
 have v:=qaag qb8 [(.fptr [(.fsl ((c.lps).map lpC) false),(.fsl ((c.progs).map qbu) false),(ii c.look),(ii c.fin),(ii c.cap)])] (by simp only[qc8,qa7,wh,zgy]) l (qwk c) (h.lp l hl) fun s _=>qac5 c h s
 rw[qg qsz qry]
 simp only[qha,v,qte,qc8,qa7,wh,ql,zgy,↓qc,↓wb,wc,wa,wd]
theorem q3z (h:CfgOk c):(evL T).call qdh [(.agg [(.fsl ((c.lps).map lpC) false),(.fsl ((c.progs).map qbu) false),(ii c.look),(ii c.fin),(ii c.cap)])] []=some ((ii (qhr (qhr (qwk c)) c.lps)),[]):=by
 have v:=q9p qcx [(.fptr [(.fsl ((c.lps).map lpC) false),(.fsl ((c.progs).map qbu) false),(ii c.look),(ii c.fin),(ii c.cap)])] (by simp only[qc8,qa7,wh,zgy]) c.lps (qhr (qwk c)) h.lps fun l hl=>qage c h l hl
 rw[qg qu2 qtr]
 simp only[qif,v,qc8,qa7,wh,qb,wf,we,ql,ne_eq,zgy,↓qc,↓wb,wa]
def qacd (c:Cfg) (p:Nat×Int):List AV:=[.fn (.func p.1) [(.agg [(.fsl ((c.lps).map lpC) false),(.fsl ((c.progs).map qbu) false),(ii c.look),(ii c.fin),(ii c.cap)])] []]
theorem rule_lo (n:Nat) (p:Nat×Int):los n (qacd c p)=true:=by simp only[qacd,qc8,qa7,wh,zgy]
theorem qacr (n:Nat) (l:List (Nat×Int)):qk9 n (l.map (qacd c))=true:=qk2 (rule_lo c n) l
theorem qace (l:List (Nat×Int)) (b:Bool) (hl:l.length<2^62) (hf : ∀p∈l,(evL T).call p.1 [(.agg [(.fsl ((c.lps).map lpC) false),(.fsl ((c.progs).map qbu) false),(ii c.look),(ii c.fin),(ii c.cap)])] []=some ((ii p.2),[])) :
  qaz (evL T) qci [.fsl (l.map (qacd c)) b,.fn (.func qe5) [] []]=some (ii (qhr Prod.snd l)):=by
 have h1 : ∀p∈l,(evL T).call qe5 [.fn (.func p.1) [(.agg [(.fsl ((c.lps).map lpC) false),(.fsl ((c.progs).map qbu) false),(ii c.look),(ii c.fin),(ii c.cap)])] []] []=some ((ii p.2),[]):=fun p hp=>by
  have:=hf p hp
  rw[qg q3k q1b]
  simp only[qnw,this,wh,ql,zgy,↓qc,↓wb,wd]
 have hL : ∃y,itB (exec (evL T) itL none qdx) (qao [1,8,9,10] true 0) ⟨[(1,.fn (.func qe5) [] []),(8,.fsl (l.map (qacd c)) b),(9,(ii l.length)),(10,(ii 0))],[]⟩ []=some y∧(l.all (fun x=>decide (x.2=0))=true∧(y.1 = .exit 0∧y.2.1.marks=[]∧y.2.2=[]) ∨
   l.all (fun x=>decide (x.2=0))=false ∧ ∃x,l.find? (fun x => !decide (x.2=0))=some x∧(y.1 = .ret∧y.2.1.marks=[]∧y.2.2=[]∧wg y.2.1.vars 4=some (ii x.2))):=by
  refine qib l (fun i=>⟨[(1,.fn (.func qe5) [] []),(8,.fsl (l.map (qacd c)) b),(9,(ii l.length)),(10,(ii i))],[]⟩) [] (fun x=>decide (x.2=0)) _ (fun x y => _) ?_ ?_ ?_
  ·intro i x hi hx hp
   have hi':(i:Int)<(l.length:Int):=by omega
   have hw:IntKind.i64.wrap ((i:Int)+1)=((i+1:Nat):Int):=by rw[qk (by omega) (by omega)];simp
   have h2:=h1 x (zmg hx)
   rw[of_decide_eq_true hp]at h2
   simp only[qdx,zgs,zgr,zgq,zgt,hx,hi',hw,h2,qacr,qacd,wh,qb,ne_eq,zgy,↓qc,↓wb,wa]
  ·intro i x hi hx hp
   have hi':(i:Int)<(l.length:Int):=by omega
   have h2:=h1 x (zmg hx)
   have h3:¬x.2=0:=of_decide_eq_false hp
   simp only[qdx,zgs,zgr,zgq,zgt,hx,hi',h2,h3,qacd,wh,qb,ne_eq,zgy,↓qc,↓wb,wa]
   exact⟨_,rfl,rfl,rfl,rfl,rfl⟩
  ·simp only[qdx,wk,wh,zgy,↓qc,↓wb,wa]
   exact⟨_,rfl,rfl,rfl,rfl⟩
 obtain⟨⟨y,e,σ⟩,k1,k2⟩:=hL
 simp only at k2
 rw[qaz,qg qpz qpw]
 rcases k2 with ⟨k3,rfl,k4,rfl⟩|⟨k3,x,k5,rfl,k4,rfl,k6⟩
 ·rw[qzl k3]
  simp only[qec,k1,k4,qacr,wh,ql,zgy,↓qc,↓qx,↓wb,wc,wa,wd]
 ·rw[qwz k5]
  simp only[qec,k1,k4,k6,qacr,wh,ql,zgy,↓qc,↓qx,↓wb,wc,wa,wd]
def cfgL (c:Cfg):List (Nat×Int):=[(qdz,okZ (qxt c) 1),(qck,okZ (decide (c.look≥1)) 20),(qcu,qhr (q87 c) c.progs),(qdh,qhr (qhr (qwk c)) c.lps)]
def qajq (c:Cfg):Int:=qhr Prod.snd (cfgL c)
theorem q75 (h:CfgOk c):qaz (evL T) qih [(.agg [(.fsl ((c.lps).map lpC) false),(.fsl ((c.progs).map qbu) false),(ii c.look),(ii c.fin),(ii c.cap)])]=some (ii (qajq c)):=by
 have v:=qace c (cfgL c) true (by simp[cfgL]) (by
  intro p hp
  simp only[cfgL,List.mem_cons,List.not_mem_nil,or_false]at hp
  rcases hp with rfl|rfl|rfl|rfl
  ·exact q6r c h
  ·exact q0j c
  ·exact q1r c h
  ·exact q3z c h)
 rw[show qhr Prod.snd (cfgL c)=qajq c from rfl]at v
 have hrep:wr 4 ([.v .nilFunc]:List AV)=[[.v .nilFunc],[.v .nilFunc],[.v .nilFunc],[.v .nilFunc]]:=rfl
 simp only[cfgL,wN,wq,qacd]at v
 rw[qaz,qg q57 q4h]
 simp only[qql,hrep,v,qc8,qa7,wh,wt,qb,wf,wz,we,ql,ne_eq,zgy,↓qc,↓wb,wc,wa,Nat.reduceMul,wv,wi,wy]
end
set_option maxRecDepth 10000
theorem qai6 {c:Cfg} (h:qxt c=false):qajq c=1:=by
 unfold qajq cfgL qhr;rw[h];rfl
theorem qam4 {c:Cfg} (h1:qxt c=true) (h2:¬c.look≥1):qajq c=20:=by
 unfold qajq cfgL qhr;rw[h1];simp[h2,okZ]
theorem qaj8 {c:Cfg} (h1:qxt c=true) (h2:c.look≥1) (h3:qhr (q87 c) c.progs≠0):qajq c=qhr (q87 c) c.progs:=by
 unfold qajq
 generalize hz:qhr (q87 c) c.progs=z at h3
 unfold cfgL
 rw[hz,h1]
 unfold qhr;simp[h2,okZ,h3]
theorem qahk {c:Cfg} (h1:qxt c=true) (h2:c.look≥1) (h3:qhr (q87 c) c.progs=0):qajq c=qhr (qhr (qwk c)) c.lps:=by
 unfold qajq
 generalize hz:qhr (qhr (qwk c)) c.lps=z
 unfold cfgL
 rw[hz,h3,h1]
 by_cases h:z=0<;>(unfold qhr;simp[h2,okZ,h])
theorem qab1 {τ:Type} (f:τ→Int) (l:List τ):qhr f l=qwi f l:=by
 unfold qhr qwi
 cases l.find? (fun x => !decide (f x=0))<;>rfl
theorem qalp (c:Cfg):qw1 c=qxt c:=by
 rw[Bool.eq_iff_iff]
 simp only[qw1,qxt,qaeu,qcy,lenB,len8,wH,decide_eq_true_eq,List.all_eq_true,Bool.not_eq_true',decide_eq_false_iff_not]
 constructor
 ·rintro⟨⟨h1,h2,h3⟩,h4,h5,h6,h7,h8⟩
  exact⟨⟨⟨by omega,by omega⟩,by omega,⟨by omega,by omega⟩,by omega,by omega⟩,fun x hx=>by have:=h4 x hx;omega⟩
 ·rintro⟨⟨⟨h1,h2⟩,h3,⟨h4,h5⟩,h6,h7⟩,h8⟩
  exact⟨⟨by omega,by omega,by omega⟩,fun x hx=>by have:=h8 x hx;omega,by omega,by omega,by omega,by omega⟩
theorem qam7 (c:Cfg) (s:Start):qmp c s=qwk c s:=by
 unfold qmp qwk okZ qcy
 by_cases h1:s.prog<0∨s.prog≥c.progs.length
 ·have:(decide (s.prog≥0)&&decide (s.prog≤(c.progs.length:Int)-1))=false:=by
   rw[Bool.and_eq_false_iff];simp only[decide_eq_false_iff_not];omega
  rw[if_pos h1,if_pos this]
 ·have:¬(decide (s.prog≥0)&&decide (s.prog≤(c.progs.length:Int)-1))=false:=by
   rw[Bool.and_eq_false_iff];simp only[decide_eq_false_iff_not];omega
  rw[if_neg h1,if_neg this]
  by_cases h2:s.time<0∨s.time>1152921504606846976
  ·have:¬(decide (s.time≥0)&&decide (s.time≤1152921504606846976))=true:=by
    rw[wH];simp only[decide_eq_true_eq];omega
   rw[if_pos h2,if_neg this]
  ·have:(decide (s.time≥0)&&decide (s.time≤1152921504606846976))=true:=by
    rw[wH];simp only[decide_eq_true_eq];omega
   rw[if_neg h2,if_pos this]
theorem rcfgZ_eq (c:Cfg):qafh c=qajq c:=by
 have e1:rlpZ c=qhr (qwk c):=by
  funext l;show qwi (qmp c) l = _
  rw[qab1,show qmp c=qwk c from funext (qam7 c)]
 have e2:q0x c=q87 c:=rfl
 unfold qafh
 rw[qalp,e1,e2,←qab1,←qab1]
 by_cases h1:qxt c=false
 ·rw[if_pos h1,qai6 h1]
 have h1':qxt c=true:=by simpa using h1
 rw[if_neg h1]
 by_cases h2:c.look<1
 ·rw[if_pos h2,qam4 h1' (by omega)]
 rw[if_neg h2]
 by_cases h3:qhr (q87 c) c.progs≠0
 ·rw[if_pos h3,qaj8 h1' (by omega) h3]
 ·rw[if_neg h3,qahk h1' (by omega) (by simpa using h3)]
set_option maxRecDepth 10000
section
variable {c:Cfg} {s:Sim} {h:List Evt} {n:Nat} {L:List (Lp×Bool)} {A:qf} {O:List (List AV)}
theorem run_ev (hn:c.lps.length=n) (lim k:Nat) (hlim:lim≤3000) (hk:s.n+k=lim) (H:SInv c s h) (S:SimSt n s L A O) :
  ∃(L':List (Lp×Bool)) (A':qf) (O':List (List AV)),SimSt n (Sim.run c k s) L' A' O'∧(evL T).call qek [(.ptr (n+2) 0 0 0),(ii lim)] (A++[.row 1 O 0,(.row 10 [[(.fsl ((c.lps).map lpC) false),(.fsl ((c.progs).map qbu) false),(ii c.look),(ii c.fin),(ii c.cap),.sl (n+1) 0 0 n false,.sl 0 1 0 n false,(.fsl ((s.pend).map Evt.r) false),(ii s.n),(bb s.over)]] 0)])=some (.tup [],(A'++[.row 1 O' 0,(.row 10 [[(.fsl ((c.lps).map lpC) false),(.fsl ((c.progs).map qbu) false),(ii c.look),(ii c.fin),(ii c.cap),.sl (n+1) 0 0 n false,.sl 0 1 0 n false,(.fsl (((Sim.run c k s).pend).map Evt.r) false),(ii ((Sim.run c k s).n)),(bb ((Sim.run c k s).over))]] 0)])):=by
 obtain⟨⟨y,e,σ⟩,k1,L',A',O',S',k2,k3,k4⟩:=run_L hn lim hlim k hk H S
 simp only at k2 k3 k4
 subst k2;subst k4
 refine⟨L',A',O',S',?_⟩
 have hlo:=S.lo (c:=c)
 have hcut:=qabk S.len [.row 1 O 0,(.row 10 [[(.fsl ((c.lps).map lpC) false),(.fsl ((c.progs).map qbu) false),(ii c.look),(ii c.fin),(ii c.cap),.sl (n+1) 0 0 n false,.sl 0 1 0 n false,(.fsl ((s.pend).map Evt.r) false),(ii s.n),(bb s.over)]] 0)]
 have hlo':=S'.lo (c:=c)
 have hcut':=qabk S'.len [.row 1 O' 0,(.row 10 [[(.fsl ((c.lps).map lpC) false),(.fsl ((c.progs).map qbu) false),(ii c.look),(ii c.fin),(ii c.cap),.sl (n+1) 0 0 n false,.sl 0 1 0 n false,(.fsl (((Sim.run c k s).pend).map Evt.r) false),(ii ((Sim.run c k s).n)),(bb ((Sim.run c k s).over))]] 0)]
 have d2:n+2<n+3:=by omega
 simp only[zgc,zgo]at hcut hcut'
 rw[qg qv9 qu9]
 simp only[qiy,S.len,wQ,hlo,hcut,hlo',hcut',d2,k1,k3,wh,ql,zgy,↓qc,↓qx,↓wb,wc,wd]
theorem qag8 (h:Small12 c) : ∃(R:List (List AV)) (τ:qf),(evL T).call qhi [(.agg [(.fsl ((c.lps).map lpC) false),(.fsl ((c.progs).map qbu) false),(ii c.look),(ii c.fin),(ii c.cap)])] []=some (.sl 0 0 0 c.lps.length true,.row 4 R 0::τ)∧qil (qil (Ev.frz (.dead::τ) 5)) R=some ((qp0 c.lps).map lpF):=by
 obtain⟨⟨y,e,σ⟩,k1,R,τ,k2,k3,k4,k5,k6⟩:=qaev c h
 simp only at k1 k2 k3 k4 k5 k6
 subst k2;subst k4
 have hlps:=h.lps
 have b1:(c.lps.length:Int)*48≤140737488355328:=by omega
 have b1':48*(c.lps.length:Int)≤140737488355328:=by omega
 have b2:(c.lps.length:Int)≤4611686018427387904:=by omega
 refine⟨R,τ,?_,?_⟩
 ·rw[qg q4s q24]
  simp only[qpa,zgs,zgr,b1',b2,k1,k3,k6,Int.le_refl,wh,qb,wf,we,ql,ne_eq,zgy,↓qc,↓qx,↓wb,wc,wa,wv,Int.reducePow]
 ·exact(k5.mono (σ':=.dead::τ) (wI _) (fun o h1 h2=>by
   obtain⟨o,rfl⟩ : ∃p,o=p+1:=⟨o-1,by omega⟩
   rw[List.getElem?_cons_succ,List.getElem?_cons_succ])).frz (d:=4)
theorem start_ev (hn:c.lps.length=n) (h:Small12 c) :
  ∃(A:qf) (O:List (List AV)),SimSt n (start c) (qp0 c.lps) A O∧(evL T).call qjx [(.agg [(.fsl ((c.lps).map lpC) false),(.fsl ((c.progs).map qbu) false),(ii c.look),(ii c.fin),(ii c.cap)])] []=some ((.ptr (n+2) 0 0 0),(A++[.row 1 O 0,(.row 10 [[(.fsl ((c.lps).map lpC) false),(.fsl ((c.progs).map qbu) false),(ii c.look),(ii c.fin),(ii c.cap),.sl (n+1) 0 0 n false,.sl 0 1 0 n false,(.fsl (((start c).pend).map Evt.r) false),(ii ((start c).n)),(bb ((start c).over))]] 0)])):=by
 obtain⟨R,τ,hs,hf⟩:=qag8 (c:=c) h
 have hi:=q4z c h
 have hlps:=h.lps
 have hlo:qer (n+1) (.row 4 ((qp0 c.lps).map lpF) 1::wr n (.row 6 [] 0))=true:=by
  rw[qww]
  intro x hx
  rcases List.mem_cons.1 hx with rfl|hx
  ·rw[q3g];exact q9e _ _
  ·rw[List.eq_of_mem_replicate hx,q3g,qr5]
 have hO:qk9 (n+1) ((List.range n).map fun i=>[(.sl (1+i) 0 0 0 false:AV)])=true:=by
  have : ∀(l:List Nat),(∀i∈l,i<n)→qk9 (n+1) (l.map fun i=>[(.sl (1+i) 0 0 0 false:AV)])=true:=by
   intro l
   induction l with
   |nil=>intro _;exact qr5 _
   |cons a l ih=>
    intro hl
    have ha:=hl a (by simp)
    have d:1+a<n+1:=by omega
    rw[wN,qli,ih (fun i hi=>hl i (by simp[hi]))]
    simp only[qzp,q43,qajm,d,zgv,zfc]
  exact this _ (fun i hi=>List.mem_range.1 hi)
 refine⟨.row 4 ((qp0 c.lps).map lpF) 1::wr n (.row 6 [] 0),(List.range n).map fun i=>[.sl (1+i) 0 0 0 false],⟨by simp,rfl,by simp[qp0,qahs,hn],rfl,?_,by simp[K.start,hn],by simp,?_,hlo,hO⟩,?_⟩
 ·intro x hx hf
  simp only[qp0,qahs,List.mem_map]at hx
  obtain⟨ps,⟨l,_,rfl⟩,rfl⟩:=hx
  simpa[stLp]using hf
 ·intro i hi
  have:qwb (start c) i=[]:=by unfold qwb;simp[K.start,hn,hi]
  refine⟨0,?_,?_⟩
  ·rw[this,List.getElem?_cons_succ,List.getElem?_replicate,if_pos hi];rfl
  ·rw[this,wG,List.getElem?_range hi,Option.map_some,Nat.add_comm];rfl
 ·have b1:24*(n:Int)≤140737488355328:=by omega
  have b2:(n:Int)≤4611686018427387904:=by omega
  have b3:(n:Int)*24≤140737488355328:=by omega
  rw[hn]at hs
  have e1:(start c).pend=q45 (qo7 c.lps):=rfl
  have e2:(start c).n=0:=rfl
  have e3:(start c).over=false:=rfl
  rw[e1,e2,e3]
  have d1:n+1+1=n+2:=rfl
  rw[qg q55 q5a]
  simp only[qqj,zgs,zgr,hn,hs,hf,hi,b1,b2,d1,zgj,List.append_assoc,Nat.not_lt_zero,qc8,qa7,wh,qb,wf,wz,we,ql,ne_eq,zgy,↓qc,↓wb,wc,wa,wv,wi,Int.reducePow]
  rw[Nat.add_comm 1 n]
mutual
theorem qaje : ∀(a:AV),a.shift 0=a
 | .v _=>by simp only[AV.shift]
 | .agg cs=>by simp only[AV.shift,qn6 cs]
 | .tup cs=>by simp only[AV.shift,qn6 cs]
 | .fsl es c=>by simp only[AV.shift,qyt es]
 | .fptr cs=>by simp only[AV.shift,qn6 cs]
 | .sl o g off len c=>by simp only[AV.shift,Nat.add_zero]
 | .ptr o g i off=>by simp only[AV.shift,Nat.add_zero]
 | .fn f a b=>by simp only[AV.shift,qn6 a,qn6 b]
 | .yld o=>by simp only[AV.shift,Nat.add_zero]
 | .mp o=>by simp only[AV.shift,Nat.add_zero]
theorem qn6 : ∀(l:List AV),qlh 0 l=l
 | []=>by simp only[qlh]
 |a::l=>by simp only[qlh,qaje a,qn6 l]
theorem qyt : ∀(l:List (List AV)),qlv 0 l=l
 | []=>by simp only[qlv]
 |a::l=>by simp only[qlv,qn6 a,qyt l]
end
theorem qagw {α β:Type} {f:α→Option β} : ∀ {l:List α} {t:List β},l.length=t.length→(∀(i:Nat) (a:α) (b:β),l[i]? = some a→t[i]? = some b→f a=some b)→qil f l=some t
 | [],[],_,_=>rfl
 |a::l,b::t,hl,h=>by
  rw[qwl,h 0 a b rfl rfl,qagw (by simpa using hl) (fun i a b h1 h2=>h (i+1) a b h1 h2)];rfl
 | [],_ :: _,h,_=>by simp at h
 | _ :: _,[],h,_=>by simp at h
theorem SimSt.frzO (S:SimSt n s L A O) (d:Nat) (B:qf):qil (qil (Ev.frz (A++B) (d+1))) O=some (s.trace.map qsb):=by
 refine qagw (by rw[wR,S.ol,S.trl]) (fun i a b h1 h2 => ?_)
 have hi:i<n:=by have:=(zei.1 h1).1;rw[S.ol]at this;exact this
 obtain⟨g,t1,t2⟩:=S.tr i hi
 rw[t2]at h1;cases h1
 have t3:s.trace[i]? = some (qwb s i):=by
  unfold qwb;rw[Int.toNat_natCast,zgE (by rw[S.trl];exact hi)];rfl
 rw[wG,t3]at h2;cases h2
 have hs:(A++B)[i+1]? = some (.row 6 ((qwb s i).map Evt.r) g):=by rw[wB (by rw[S.len];omega)];exact t1
 have tk:List.take (qwb s i).length (List.drop 0 ((qwb s i).map Evt.r))=(qwb s i).map Evt.r:=by rw[List.drop_zero];exact ztl (by simp)
 rw[qwl,q62,frz_sl hs (by simp) (by rw[tk];exact qa1 _ _),tk]
 rfl
def isRow:SObj→Bool
 | .row .. => true
 | _=>false
theorem imp_zero {σ:qf} (h : ∀x∈σ,isRow x=true):qil (q2m 0) σ=some σ:=by
 refine qagw rfl (fun i a b h1 h2 => ?_)
 rw[h1]at h2;cases h2
 have:=h a (zmg h1)
 cases a<;>simp only[isRow,zfa]at this
 simp only[q2m,qyt]
theorem SimSt.imp (S:SimSt n s L A O):qil (q2m 0) (A++[.row 1 O 0,(.row 10 [[(.fsl ((c.lps).map lpC) false),(.fsl ((c.progs).map qbu) false),(ii c.look),(ii c.fin),(ii c.cap),.sl (n+1) 0 0 n false,.sl 0 1 0 n false,(.fsl ((s.pend).map Evt.r) false),(ii s.n),(bb s.over)]] 0)])=some (A++[.row 1 O 0,(.row 10 [[(.fsl ((c.lps).map lpC) false),(.fsl ((c.progs).map qbu) false),(ii c.look),(ii c.fin),(ii c.cap),.sl (n+1) 0 0 n false,.sl 0 1 0 n false,(.fsl ((s.pend).map Evt.r) false),(ii s.n),(bb s.over)]] 0)]):=by
 refine imp_zero (fun x hx => ?_)
 rcases ww.1 hx with hx|hx
 ·obtain⟨i,hi⟩:=wF.1 hx
  have hl:=(zei.1 hi).1
  rw[S.len]at hl
  cases i with
  |zero=>rw[S.lps]at hi;cases hi;rfl
  |succ i=>obtain⟨g,t1,_⟩:=S.tr i (by omega);rw[t1]at hi;cases hi;rfl
 ·simp only[List.mem_cons,List.not_mem_nil,or_false]at hx
  rcases hx with rfl|rfl<;>rfl
def errZ (c:Cfg) (s:Sim):Int:=if s.ready c=true then 10 else if s.over=true then 11 else 0
theorem Run_ev (hn:c.lps.length=n) (h12:Small12 c) (hok:CfgOk c) (hz:qajq c=0) (hv:Valid c) (lim:Nat) (hlim:lim≤3000) :
  ∃L:List (Lp×Bool),L.map Prod.fst=(Sim.run c lim (start c)).lps∧(∀x∈L,x.2=true→x.1.procs=[]) ∧
   qaz (evL T) qjd [(.agg [(.fsl ((c.lps).map lpC) false),(.fsl ((c.progs).map qbu) false),(ii c.look),(ii c.fin),(ii c.cap)]),(ii lim)]=some (.tup [(.fsl (((Sim.run c lim (start c)).trace).map qsb) false),(.fsl ((L).map lpF) false),(ii (errZ c (Sim.run c lim (start c))))]):=by
 have hk:=q75 c hok
 rw[hz]at hk
 obtain⟨A0,O0,S0,h0⟩:=start_ev (c:=c) hn h12
 obtain⟨L,A,O,S,h1⟩:=run_ev hn lim lim hlim (by show 0+lim=lim;omega) (SInv.start hv) S0
 have h2:=qahv (c:=c) (s:=Sim.run c lim (start c)) (O:=O) S.len
 refine⟨L,S.lpf,S.flag,?_⟩
 have i1:=S0.imp (c:=c)
 have fO:=fun d B=>S.frzO d B
 have tO:O.take n=O:=ztl (by rw[S.ol];omega)
 have tL:(L.map lpF).take n=L.map lpF:=ztl (by rw[wR,S.lpl];omega)
 have hA0:=S.lps
 have p1:=fun B=>qach S.len B 0 (by omega)
 have hOl:=S.ol
 have hLl:=S.lpl
 have hle:n≤n:=wI _
 rw[qaz,qg q99 q79]
 unfold errZ
 cases hr:(Sim.run c lim (start c)).ready c with
 |true=>
  rw[hr]at h2
  simp only[qoo,qad7 S.len,qpx S.len,hk,h0,i1,h1,h2,p1,hA0,fO,tO,tL,hOl,hLl,hle,q9e,qc8,qa7,wh,qb,wf,we,ql,ne_eq,zgy,↓qc,↓wb,wc,wa,wv,wd]
  done
 |false=>
  rw[hr]at h2
  cases ho:(Sim.run c lim (start c)).over with
  |true=>
   rw[ho]at h1 h2
   simp only[qoo,qad7 S.len,qpx S.len,hk,h0,i1,h1,h2,p1,hA0,fO,tO,tL,hOl,hLl,hle,q9e,qc8,qa7,wh,qb,wf,we,ql,ne_eq,zgy,↓qc,↓wb,wc,wa,wv,wd]
   done
  |false=>
   rw[ho]at h1 h2
   simp only[qoo,qad7 S.len,qpx S.len,hk,h0,i1,h1,h2,p1,hA0,fO,tO,tL,hOl,hLl,hle,q9e,qc8,qa7,wh,qb,wf,we,ql,ne_eq,zgy,↓qc,↓wb,wc,wa,wv,wd]
   done
end
set_option maxRecDepth 10000
theorem qae9 (h:List Evt) : ∀n:Nat,((List.range n).map fun i=>qu3 h i).flatten.Perm (h.filter fun e=>decide (0≤e.lp∧e.lp<(n:Int)))
 | 0=>by
  have:h.filter (fun e=>decide (0≤e.lp∧e.lp<((0:Nat):Int)))=[]:=List.filter_eq_nil_iff.2 (fun e _=>by simp only[decide_eq_true_eq];omega)
  rw[this];exact .refl _
 |n+1=>by
  rw[List.range_succ,wL,List.flatten_append]
  refine(List.Perm.append (qae9 h n) (.refl _)).trans ?_
  have e1:h.filter (fun e=>decide (0≤e.lp∧e.lp<(n:Int)))=(h.filter fun e=>decide (0≤e.lp∧e.lp<((n+1:Nat):Int))).filter (fun e=>decide (e.lp<(n:Int))):=by
   rw[List.filter_filter]
   refine List.filter_congr (fun e _ => ?_)
   rw[←Bool.decide_and]
   refine decide_eq_decide.2 ?_
   omega
  have e2:([qu3 h n].flatten:List Evt)=(h.filter fun e=>decide (0≤e.lp∧e.lp<((n+1:Nat):Int))).filter (fun e => !decide (e.lp<(n:Int))):=by
   rw[List.filter_filter,List.flatten_cons,List.flatten_nil,wM]
   refine List.filter_congr (fun e _ => ?_)
   rw[←decide_not,←Bool.decide_and]
   refine decide_eq_decide.2 ?_
   omega
  rw[e1,wN,wq,e2]
  exact List.filter_append_perm _ _
theorem own_perm {h:List Evt} {n:Nat} (hl : ∀e∈h,0≤e.lp∧e.lp<(n:Int)):((List.range n).map fun i=>qu3 h i).flatten.Perm h:=by
 have:=qae9 h n
 rwa[List.filter_eq_self.2 (fun e he=>by simpa using hl e he)]at this
section
variable {c:Cfg} {s:Sim} {h:List Evt}
theorem SInvK.traces (H:SInvK c s h):s.trace=(List.range c.lps.length).map fun i=>qu3 h i:=by
 refine List.ext_getElem? (fun i => ?_)
 by_cases hi:i<c.lps.length
 ·rw[H.tr i hi,wG,List.getElem?_range hi];rfl
 ·rw[List.getElem?_eq_none (by rw[H.trl];omega),List.getElem?_eq_none (by simp;omega)]
theorem SInvK.perm (H:SInvK c s h):s.trace.flatten.Perm h:=by
 rw[H.traces]
 exact own_perm (fun e he=>(H.ev e (wx _ he)).lp)
theorem SInvK.count (H:SInvK c s h):s.trace.flatten.length=h.length:=H.perm.length_eq
theorem ran (hv:Valid c) (lim:Nat) (hl:lim≤3000) : ∃h,SInv c (Sim.run c lim (start c)) h∧h.length≤lim∧(h.length=lim∨(Sim.run c lim (start c)).ready c=false):=by
 obtain⟨h,h1,h2,h3⟩:=SInv.run lim (SInv.start hv) (by simp;omega)
 exact⟨h,by simpa using h1,h2,h3⟩
end
set_option maxRecDepth 10000
structure Good (c:Cfg):Prop where
 h12:Small12 c
 ok:CfgOk c
 z:qajq c=0
 v:Valid c
theorem good_of {c:Cfg} (h:okB c=true):Good c:=by
 simp only[okB,wH,Bool.not_eq_true',decide_eq_true_eq]at h
 obtain⟨h1,h2⟩:=h
 obtain⟨g1,g2,g3,g4⟩:=q80 c h1
 exact⟨⟨g1,g3⟩,⟨by omega,by omega,fun p hp=>by have:=g4 p hp;omega,fun l hl=>by have:=g3 l hl;omega⟩,by rw[←rcfgZ_eq];exact h2,valid_of h2⟩
def runS (c:Cfg) (lim:Nat):Sim:=Sim.run c lim (start c)
theorem Good.run {c:Cfg} (h:Good c) (lim:Nat) (hl:lim≤3000) : ∃L:List (Lp×Bool),L.map Prod.fst=(runS c lim).lps∧(∀x∈L,x.2=true→x.1.procs=[]) ∧
   qaz (evL T) qjd [(.agg [(.fsl ((c.lps).map lpC) false),(.fsl ((c.progs).map qbu) false),(ii c.look),(ii c.fin),(ii c.cap)]),(ii lim)]=some (.tup [(.fsl (((runS c lim).trace).map qsb) false),(.fsl ((L).map lpF) false),(ii (errZ c (runS c lim)))]):=
 Run_ev rfl h.h12 h.ok h.z h.v lim hl
structure RunF (c:Cfg) (s:Sim) (h:List Evt):Prop where
 inv:SInv c s h
 len:h.length≤3000
theorem RunF.n {c:Cfg} {s:Sim} {h:List Evt} (H:RunF c s h):s.trace.length=c.lps.length∧c.lps.length≤8:=⟨H.inv.trl,H.inv.valid.lps.2⟩
set_option maxRecDepth 10000
set_option maxRecDepth 10000
set_option maxRecDepth 10000
set_option maxRecDepth 10000
set_option maxRecDepth 10000
theorem qaf7.sub {l m:List Evt} (h:qaf7 m) (s:l.Sublist m):qaf7 l:=wO s h
set_option maxRecDepth 10000
set_option maxRecDepth 10000
structure PlOk (p:List Evt×List Evt) (l:List Evt):Prop where
 sorted:p.1.Pairwise leE
 keys:qvl (p.1++(p.2++l))
 len:(p.1++(p.2++l)).length≤1000000
 ok:qjn (p.1++(p.2++l))
theorem PlOk.ins {p:List Evt×List Evt} {n:Evt} {l:List Evt} (h:PlOk p (n::l)):p.1.length≤1000000∧qjn p.1∧n.key.length≤9223372036854775807∧p.1.Pairwise leE∧qaf7 (n::p.1):=by
 refine⟨by have:=h.len;rw[wj]at this;omega,fun x hx=>h.ok x (by simp[hx]),h.ok n (by simp),h.sorted,?_⟩
 have hs:(p.1++[n]).Sublist (p.1++(p.2++n::l)):=List.Sublist.append_left ((List.singleton_sublist.2 (by simp))) p.1
 exact(qvl.dist (wO hs h.keys)).perm (List.perm_append_singleton n p.1).symm
set_option maxRecDepth 10000
set_option maxRecDepth 10000
set_option maxRecDepth 10000
set_option maxRecDepth 10000
set_option maxRecDepth 10000
set_option maxRecDepth 10000
set_option maxRecDepth 10000
set_option maxRecDepth 10000
set_option maxRecDepth 10000
theorem Quick_ev (c:Cfg) : ∃b:Bool,qaz (evL T) qky [(.agg [(.fsl ((c.lps).map lpC) false),(.fsl ((c.progs).map qbu) false),(ii c.look),(ii c.fin),(ii c.cap)])]=some (bb b)∧(b=true→okB c=true∧c.look≤8∧c.lps.length≤4):=by
 have hg:=qaad c
 have hr:=q90 c
 rw[qaz,qg q9i q5y]
 by_cases h1:q0y c=true
 ·rw[h1]at hg
  exact⟨false,by simp only[qid,hg,qc8,qa7,wh,qb,wf,we,ql,ne_eq,zgy,↓qc,↓wb,wc,wa],fun h=>by cases h⟩
 simp only[Bool.not_eq_true]at h1
 rw[h1]at hg
 by_cases h2:qafh c=0
 case neg=>exact⟨false,by simp only[qid,hg,hr,h2,qc8,qa7,wh,qb,wf,we,ql,ne_eq,zgy,↓qc,↓wb,wc,wa],fun h=>by cases h⟩
 rw[h2]at hr
 by_cases h3:c.look>8
 ·exact⟨false,by simp only[qid,hg,hr,h3,qc8,qa7,wh,qb,wf,we,ql,ne_eq,zgy,↓qc,↓wb,wc,wa],fun h=>by cases h⟩
 by_cases h4:(c.lps.length:Int)>4
 ·exact⟨false,by simp only[qid,hg,hr,h3,h4,qc8,qa7,wh,qb,wf,we,ql,ne_eq,zgy,↓qc,↓wb,wc,wa],fun h=>by cases h⟩
 have hok:okB c=true∧c.look≤8∧c.lps.length≤4:=⟨by unfold okB;rw[h1,h2];rfl,by omega,by omega⟩
 obtain⟨s1,s2,s3,s4⟩:=q80 c h1
 have hL1 : ∃y,itB (exec (evL T) itL none qlf) (qao [1,3,4,5] true 0) ⟨[(1,(.fptr [(.fsl ((c.lps).map lpC) false),(.fsl ((c.progs).map qbu) false),(ii c.look),(ii c.fin),(ii c.cap)])),(3,(ii 0)),(4,(ii 0)),(5,(ii ((0:Nat))))],[]⟩ []=some y ∧ ∃a:Int,y.1 = .exit 0∧y.2.1.marks=[]∧y.2.2=[]∧wg y.2.1.vars 1=some (.fptr [(.fsl ((c.lps).map lpC) false),(.fsl ((c.progs).map qbu) false),(ii c.look),(ii c.fin),(ii c.cap)])∧wg y.2.1.vars 3=some (ii a)∧wg y.2.1.vars 4=some (ii 0):=by
  have key:=qh5 (f:=exec (evL T) itL none qlf) (s:=qao [1,3,4,5] true 0) (α:=Int) (fun i a=>⟨[(1,(.fptr [(.fsl ((c.lps).map lpC) false),(.fsl ((c.progs).map qbu) false),(ii c.look),(ii c.fin),(ii c.cap)])),(3,(ii a)),(4,(ii 0)),(5,(ii i))],[]⟩) (fun _ _=>[]) (fun _ _=>True) c.lps.length
   (fun y => ∃a:Int,y.1 = .exit 0∧y.2.1.marks=[]∧y.2.2=[]∧wg y.2.1.vars 1=some (.fptr [(.fsl ((c.lps).map lpC) false),(.fsl ((c.progs).map qbu) false),(ii c.look),(ii c.fin),(ii c.cap)])∧wg y.2.1.vars 3=some (ii a)∧wg y.2.1.vars 4=some (ii 0)) ?_ ?_ 0 0 (wA _) trivial
  ·exact key
  ·rintro i a hi _
   obtain⟨x,hx⟩ : ∃x,c.lps[i]? = some x:=⟨_,zgE hi⟩
   have hi':(i:Int)<(c.lps.length:Int):=by omega
   have hw:IntKind.i64.wrap ((i:Int)+1)=((i+1:Nat):Int):=by rw[qk (by omega) (by omega)];simp
   refine .inl ⟨IntKind.i64.wrap (a+(x.length:Int)),?_,trivial⟩
   simp only[qlf,zgs,zgr,zgq,zgt,hx,hi',hw,lpC,qc8,qa7,wh,qb,zgy,↓qc,↓wb,wa]
  ·rintro a _
   simp only[qlf,wk,wh,qb,zgy,↓qc,↓wb,wa]
   exact⟨_,rfl,a,rfl,rfl,rfl,rfl,rfl,rfl⟩
 have hL3 : ∀(i:Nat) (p:List OpI) (a b:Int),c.progs[i]? = some p → ∃y,itB (exec (evL T) itL none qjb) (qao [1,3,4,6,7] true 0) ⟨[(1,(.fptr [(.fsl ((c.lps).map lpC) false),(.fsl ((c.progs).map qbu) false),(ii c.look),(ii c.fin),(ii c.cap)])),(3,(ii a)),(4,(ii b)),(6,(ii i)),(7,(ii ((0:Nat))))],[]⟩ []=some y ∧ ∃b:Int,y.1 = .exit 4∧y.2.1.marks=[]∧y.2.2=[]∧wg y.2.1.vars 1=some (.fptr [(.fsl ((c.lps).map lpC) false),(.fsl ((c.progs).map qbu) false),(ii c.look),(ii c.fin),(ii c.cap)])∧wg y.2.1.vars 3=some (ii a)∧wg y.2.1.vars 4=some (ii b)∧wg y.2.1.vars 6=some (ii i):=by
  intro i p a b hp
  have key:=qh5 (f:=exec (evL T) itL none qjb) (s:=qao [1,3,4,6,7] true 0) (α:=Int) (fun k b=>⟨[(1,(.fptr [(.fsl ((c.lps).map lpC) false),(.fsl ((c.progs).map qbu) false),(ii c.look),(ii c.fin),(ii c.cap)])),(3,(ii a)),(4,(ii b)),(6,(ii i)),(7,(ii k))],[]⟩) (fun _ _=>[]) (fun _ _=>True) p.length
   (fun y => ∃b:Int,y.1 = .exit 4∧y.2.1.marks=[]∧y.2.2=[]∧wg y.2.1.vars 1=some (.fptr [(.fsl ((c.lps).map lpC) false),(.fsl ((c.progs).map qbu) false),(ii c.look),(ii c.fin),(ii c.cap)])∧wg y.2.1.vars 3=some (ii a)∧wg y.2.1.vars 4=some (ii b)∧wg y.2.1.vars 6=some (ii i)) ?_ ?_ 0 b (wA _) trivial
  ·exact key
  ·rintro k b hk _
   obtain⟨x,hx⟩ : ∃x,p[k]? = some x:=⟨_,zgE hk⟩
   have:=s4 p (zmg hp)
   have hk':(k:Int)<(p.length:Int):=by omega
   have hw:IntKind.i64.wrap ((k:Int)+1)=((k+1:Nat):Int):=by rw[qk (by omega) (by omega)];simp
   obtain⟨xc,xa,xb,xd⟩:=x
   by_cases h:xc=2
   ·exact .inl ⟨IntKind.i64.wrap (b+1),by simp only[qjb,zgs,zgr,zgq,zgt,hp,hx,hk',hw,h,qbu,OpI.r,qc8,qa7,wh,qb,zgy,↓qc,↓wb,wc,wa],trivial⟩
   ·exact .inl ⟨b,by simp only[qjb,zgs,zgr,zgq,zgt,hp,hx,hk',hw,h,qbu,OpI.r,qc8,qa7,wh,qb,zgy,↓qc,↓wb,wc,wa],trivial⟩
  ·rintro b _
   simp only[qjb,zgs,zgr,zgq,zgt,hp,wk,qbu,wh,qb,zgy,↓qc,↓wb,wa]
   exact⟨_,rfl,b,rfl,rfl,rfl,rfl,rfl,rfl,rfl⟩
 have hL2 : ∀a:Int,∃y,itB (exec (evL T) itL none qlm) (qao [1,3,4,6] true 0) ⟨[(1,(.fptr [(.fsl ((c.lps).map lpC) false),(.fsl ((c.progs).map qbu) false),(ii c.look),(ii c.fin),(ii c.cap)])),(3,(ii a)),(4,(ii 0)),(6,(ii ((0:Nat))))],[]⟩ []=some y ∧ ∃b:Int,y.1 = .exit 2∧y.2.1.marks=[]∧y.2.2=[]∧wg y.2.1.vars 3=some (ii a)∧wg y.2.1.vars 4=some (ii b):=by
  intro a
  have key:=qh5 (f:=exec (evL T) itL none qlm) (s:=qao [1,3,4,6] true 0) (α:=Int) (fun i b=>⟨[(1,(.fptr [(.fsl ((c.lps).map lpC) false),(.fsl ((c.progs).map qbu) false),(ii c.look),(ii c.fin),(ii c.cap)])),(3,(ii a)),(4,(ii b)),(6,(ii i))],[]⟩) (fun _ _=>[]) (fun _ _=>True) c.progs.length
   (fun y => ∃b:Int,y.1 = .exit 2∧y.2.1.marks=[]∧y.2.2=[]∧wg y.2.1.vars 3=some (ii a)∧wg y.2.1.vars 4=some (ii b)) ?_ ?_ 0 0 (wA _) trivial
  ·exact key
  ·rintro i b hi _
   obtain⟨x,hx⟩ : ∃x,c.progs[i]? = some x:=⟨_,zgE hi⟩
   have hi':(i:Int)<(c.progs.length:Int):=by omega
   have hw:IntKind.i64.wrap ((i:Int)+1)=((i+1:Nat):Int):=by rw[qk (by omega) (by omega)];simp
   obtain⟨⟨y,e,σ⟩,k1,b',k2,k3,k4,k5,k6,k7,k8⟩:=hL3 i x a b hx
   simp only[Int.ofNat_zero]at k1 k2 k3 k4 k5 k6 k7 k8
   subst k2;subst k4
   refine .inl ⟨b',?_,trivial⟩
   simp only[qlm,hi',hw,k1,k3,k5,k6,k7,k8,qc8,qa7,wh,qb,zgy,↓qc,↓qx,↓wb,wa]
  ·rintro b _
   simp only[qlm,wk,wh,qb,zgy,↓qc,↓wb,wa]
   exact⟨_,rfl,b,rfl,rfl,rfl,rfl,rfl⟩
 obtain⟨⟨y,e,σ⟩,k1,a,k2,k3,k4,k5,k6,k7⟩:=hL1
 obtain⟨⟨y',e',σ'⟩,m1,b,m2,m3,m4,m5,m6⟩:=hL2 a
 simp only[Int.ofNat_zero]at k1 k2 k3 k4 k5 k6 k7 m1 m2 m3 m4 m5 m6
 subst k2;subst k4;subst m2;subst m4
 by_cases h5:a≤6
 ·exact⟨decide (b≤6),by simp only[qid,hg,hr,h3,h4,h5,k1,k3,k5,k6,k7,m1,m3,m5,m6,qc8,qa7,wh,qb,wf,we,ql,ne_eq,zgy,↓qc,↓qx,↓wb,wc,wa],fun _=>hok⟩
 ·exact⟨false,by simp only[qid,hg,hr,h3,h4,h5,k1,k3,k5,k6,k7,m1,m3,m5,qc8,qa7,wh,qb,wf,we,ql,ne_eq,zgy,↓qc,↓qx,↓wb,wc,wa],fun _=>hok⟩
set_option maxRecDepth 100000
theorem qaho:qaz (evL T) qme []=some (bb true):=qabl 70 (by kernel_rfl)
theorem qae5 (c:Cfg) : ∃b:Bool,qaz (evL T) qon [(.agg [(.fsl ((c.lps).map lpC) false),(.fsl ((c.progs).map qbu) false),(ii c.look),(ii c.fin),(ii c.cap)])]=some (bb b)∧(b=true→Good c):=by
 obtain⟨b,h1,h2⟩:=Quick_ev c
 refine⟨b,?_,fun hb=>good_of (h2 hb).1⟩
 rw[qaz,qg qacg q94]
 simp only[qw8,h1,qc8,qa7,wh,qb,wf,we,ql,ne_eq,zgy,↓qc,↓wb,wc,wa]
theorem qank (xs:List (List Evt)) (tn:Int) (hx:xs.length≤1000) (hT:xs.flatten.length≤1000) :
  ∃y,itB (exec (evL T) itL none qet) (qao [2,7,8,11,12] true 1) ⟨[(2,(.v (.int .u8 (tn)))),(7,(bb true)),(8,(.fsl ((xs).map qsb) false)),(11,.sl 0 0 0 0 false),(12,(ii ((0:Nat))))],[]⟩ [.row 6 [] 0]=some y ∧
   ∃g:Nat,y.1 = .exit 0∧y.2.1.marks=[]∧y.2.2=[.row 6 (xs.flatten.map Evt.r) g]∧wg y.2.1.vars 2=some (.v (.int .u8 (tn)))∧wg y.2.1.vars 7=some (bb true)∧wg y.2.1.vars 11=some (.sl 0 g 0 xs.flatten.length false):=by
 have key:=qh5 (f:=exec (evL T) itL none qet) (s:=qao [2,7,8,11,12] true 1) (α:=Nat)
  (fun i g=>⟨[(2,(.v (.int .u8 (tn)))),(7,(bb true)),(8,(.fsl ((xs).map qsb) false)),(11,.sl 0 g 0 (xs.take i).flatten.length false),(12,(ii i))],[]⟩) (fun i g=>[.row 6 ((xs.take i).flatten.map Evt.r) g]) (fun _ _=>True) xs.length
  (fun y => ∃g:Nat,y.1 = .exit 0∧y.2.1.marks=[]∧y.2.2=[.row 6 (xs.flatten.map Evt.r) g]∧wg y.2.1.vars 2=some (.v (.int .u8 (tn)))∧wg y.2.1.vars 7=some (bb true)∧wg y.2.1.vars 11=some (.sl 0 g 0 xs.flatten.length false)) ?_ ?_ 0 0 (wA _) trivial
 ·exact key
 ·rintro i g hi -
  obtain⟨x,hx'⟩ : ∃x,xs[i]? = some x:=⟨_,zgE hi⟩
  have hi':(i:Int)<(xs.length:Int):=by omega
  have hw:IntKind.i64.wrap ((i:Int)+1)=((i+1:Nat):Int):=qge (by omega)
  have h1:=qahc xs (i+1)
  have hfl:=q2t hx'
  rw[hfl,wj]at h1
  have ok:=q8d x
  by_cases hx0:x=[]
  ·subst hx0
   rw[wM]at hfl
   refine .inl ⟨g,?_,trivial⟩
   rw[hfl]
   generalize (xs.take i).flatten=F at *
   have b:F.length*64≤140737488355328:=by rw[List.length_nil]at h1;omega
   simp only[qet,zgs,zgr,zgq,zgt,hx',hi',hw,qsb,wq,b,q74,qa1,zgi,wh,q6o,qb,qdr,wo,zgy,↓qc,↓wb,wa,wy]
  ·have hm:x.map Evt.r ≠ []:=by simpa using hx0
   refine .inl ⟨g+1,?_,trivial⟩
   rw[hfl,wL,wj]
   generalize (xs.take i).flatten=F at *
   have b:(F.length+x.length)*64≤140737488355328:=by omega
   have tk:(F.map Evt.r).take F.length=F.map Evt.r:=ztl (by simp)
   have lo1 : ∀n,qk9 n (F.map Evt.r++x.map Evt.r)=true:=fun n=>by rw[←wL];exact qa1 n _
   simp only[qet,zgs,zgr,zgq,zgt,hx',hi',hw,qsb,ok,hm,tk,b,lo1,q74,zgi,wh,q6o,qb,qdr,wo,zgy,↓qc,↓wb,wa,wy]
 ·rintro g -
  rw[wu]
  simp only[qet,wk,zgi,wh,zgy,↓qc,↓wb,wa]
  exact⟨_,rfl,g,rfl,rfl,rfl,rfl,rfl,rfl⟩
theorem qamo (s:List Evt) (tn:Nat) (htn:tn<256) (hs:s.length≤100) (ht : ∀e∈s,0≤e.time∧e.time≤tM) :
  ∃y,itB (exec (evL T) itL none qhs) (qao [2,7,13,14,15] true 2) ⟨[(2,(.v (.int .u8 (tn)))),(7,(bb true)),(13,(.fsl ((s).map Evt.r) false)),(14,.ptr 1 0 0 0),(15,(ii ((0:Nat))))],[]⟩ [.dead,.row 6 [[(ii 0),(.fsl (((qadq s tn 0)).map Item.c) false),(.fsl ((([]:List Rg)).map Rg.r) false),(.fsl ((([]:List Item)).map Item.c) false),(ii ((0:Nat))),(ii ((0:Nat)))]] 0]=some y ∧
   (y.1 = .exit 2∧y.2.1.marks=[]∧y.2.2=[.dead,.row 6 [[(ii 0),(.fsl (((qadq s tn s.length)).map Item.c) false),(.fsl ((([]:List Rg)).map Rg.r) false),(.fsl ((([]:List Item)).map Item.c) false),(ii s.length),(ii s.length)]] 0]∧wg y.2.1.vars 7=some (bb true)∧wg y.2.1.vars 13=some (.fsl ((s).map Evt.r) false)∧wg y.2.1.vars 14=some (.ptr 1 0 0 0)):=by
 refine qh5 (α:=Unit) (fun i _=>⟨[(2,(.v (.int .u8 (tn)))),(7,(bb true)),(13,(.fsl ((s).map Evt.r) false)),(14,.ptr 1 0 0 0),(15,(ii i))],[]⟩) (fun i _=>[.dead,.row 6 [[(ii 0),(.fsl (((qadq s tn i)).map Item.c) false),(.fsl ((([]:List Rg)).map Rg.r) false),(.fsl ((([]:List Item)).map Item.c) false),(ii i),(ii i)]] 0]) (fun _ _=>True) s.length _ ?_ ?_ 0 () (wA _) trivial
 ·rintro i-hi -
  have hi':(i:Int)<(s.length:Int):=by omega
  have hw:IntKind.i64.wrap ((i:Int)+1)=((i+1:Nat):Int):=qge (by omega)
  have hwt:IntKind.i64.wrap (tn:Int)=(tn:Int):=qk (by omega) (by omega)
  have hws:IntKind.i64.wrap ((i:Int)+(tn:Int))=((i+tn:Nat):Int):=qg4 (by omega)
  have hne:¬(s.length:Int)=0:=by omega
  have hmod:(((i+tn:Nat):Int)).tmod (s.length:Int)=(((i+tn)%s.length:Nat):Int):=by rw[Int.tmod_eq_emod_of_nonneg (by omega)];rfl
  have hk:(i+tn)%s.length<s.length:=Nat.mod_lt _ (by omega)
  obtain⟨k,hkk⟩ : ∃k,k=(i+tn)%s.length:=⟨_,rfl⟩
  rw[←hkk]at hmod hk
  obtain⟨e,he⟩ : ∃e,s[k]? = some e:=⟨_,zgE hk⟩
  obtain⟨t1,t2⟩:=ht e (zmg he)
  have c1:¬e.time<0:=by omega
  have c2:¬e.time>1152921504606846976:=by unfold tM at t2;omega
  have hit:qor s k=⟨e.time,k,0⟩:=by unfold qor;rw[he];rfl
  have hins:=qamb (qadq s tn i) i i ⟨e.time,k,0⟩ t1 (by omega) (by omega) (by rw[qahp];omega)
  rw[←hit]at hins
  have hsucc:=qam0 s tn i
  rw[←hkk]at hsucc
  rw[←hsucc]at hins
  rw[hit]at hins
  refine .inl ⟨(),?_,trivial⟩
  generalize qadq s tn (i+1)=A1 at hins⊢
  generalize qadq s tn i=A0 at hins⊢
  obtain⟨et,ek,el,ei,ep,ea⟩:=e
  simp only at hins c1 c2
  simp only[wq]at hins⊢
  simp only[qhs,zgs,zgr,zgq,zgt,Evt.r,he,hi',hw,hwt,hws,hne,hmod,c1,c2,hins,zgi,qa0,qa1,wh,wt,qb,wf,wz,we,wo,zgy,↓qc,↓wb,wc,wa,wi]
 ·rintro - -
  simp only[qhs,wk,zgi,wh,zgy,↓qc,↓wb,wa]
  exact⟨_,rfl,rfl,rfl,rfl,rfl,rfl,rfl⟩
def qagf (s:List Evt) (tn:Nat) (i:Nat) (x:List AV):Prop:=
 (i=0∧x=[(ii 0),(.fsl (((qadq s tn s.length)).map Item.c) false),(.fsl ((([]:List Rg)).map Rg.r) false),(.fsl ((([]:List Item)).map Item.c) false),(ii s.length),(ii s.length)]) ∨
 ∃(ts:Int) (bot:List Item) (rs:List Rg) (mv:Nat),x=[(ii ts),(.fsl ((([]:List Item)).map Item.c) false),(.fsl ((rs.reverse).map Rg.r) false),(.fsl ((bot).map Item.c) false),(ii mv),(ii s.length)]∧LdOk ((target s).drop i) s.length bot rs mv
theorem pop_step (s:List Evt) (tn i:Nat) (x:List AV) (hs:s.length≤100) (ht : ∀e∈s,0≤e.time∧e.time≤tM) (hso:s.Pairwise leE) (hi:i<s.length) (h:qagf s tn i x) :
  ∃x':List AV,qagf s tn (i+1) x'∧los 2 x=true∧x.length=6∧qfk x'=true∧x'.length=6∧los 2 x'=true∧los 0 x'=true∧los 0 x=true∧qaz (evL T) qik [.agg x]=some (.tup [.agg x',(.agg [(ii ((qor s i).time)),(ii ((qor s i).seq)),(ii ((qor s i).slot))]),(bb true)]):=by
 have hd:=qagu hi
 have hso2:=qadb hso
 have hsd:((target s).drop i).Pairwise ltJ:=hso2.sublist (List.drop_sublist i _)
 rw[hd]at hsd
 have htl:(target s).length=s.length:=by simp[target]
 have hlen:(qor s i::(target s).drop (i+1)).length≤1000:=by rw[←hd,List.length_drop];omega
 have lo : ∀(n:Nat) (ts:Int) (top:List Item) (rs:List Rg) (bot:List Item) (mv cp:Int),los n [(ii ts),(.fsl ((top).map Item.c) false),(.fsl ((rs).map Rg.r) false),(.fsl ((bot).map Item.c) false),(ii mv),(ii cp)]=true:=fun n ts top rs bot mv cp=>by simp only[los,AV.lo,qa0,qkh,zfc]
 rcases h with ⟨rfl,rfl⟩|⟨ts,bot,rs,mv,rfl,L⟩
 ·have hp:=qanp s tn
  have htt : ∀x∈target s,0≤x.time∧x.time≤tM:=fun x hx=>by
   obtain⟨k,e,he,rfl⟩:=qaj0 hx
   rw[q1a he];exact ht e (zmg he)
  rw[List.drop_zero]at hd
  rw[hd]at hp htt
  obtain⟨ts,bot',rs',mv',L',h⟩:=popA_ev (cp:=s.length) (n:=s.length) (by omega) hsd (qadq s tn s.length) hp (qahp _ _ _).symm htt
  exact⟨_,.inr ⟨ts,bot',rs',mv',rfl,L'⟩,lo _ _ _ _ _ _ _,rfl,rfl,rfl,lo _ _ _ _ _ _ _,lo _ _ _ _ _ _ _,lo _ _ _ _ _ _ _,h⟩
 ·rw[hd]at L
  obtain⟨bot',rs',mv',L',h⟩:=popB_ev (ts:=ts) (cp:=s.length) (n:=s.length) (by omega) hlen hsd bot rs mv L
  exact⟨_,.inr ⟨ts,bot',rs',mv',rfl,L'⟩,lo _ _ _ _ _ _ _,rfl,rfl,rfl,lo _ _ _ _ _ _ _,lo _ _ _ _ _ _ _,lo _ _ _ _ _ _ _,h⟩
set_option maxRecDepth 100000
theorem qamk (s:List Evt) (tn:Nat) (hs:s.length≤100) (ht : ∀e∈s,0≤e.time∧e.time≤tM) (hso:s.Pairwise leE) (x0:List AV) (h0:qagf s tn 0 x0) :
  ∃y,itB (exec (evL T) itL none qhq) (qao [7,13,14,17] true 2) ⟨[(7,(bb true)),(13,(.fsl ((s).map Evt.r) false)),(14,.ptr 1 0 0 0),(17,(ii ((0:Nat))))],[]⟩ [.dead,.row 6 [x0] 0]=some y ∧
   (y.1 = .exit 4∧y.2.1.marks=[]∧(∃x,y.2.2=[.dead,.row 6 [x] 0]∧qagf s tn s.length x)∧wg y.2.1.vars 7=some (bb true)∧wg y.2.1.vars 13=some (.fsl ((s).map Evt.r) false)∧wg y.2.1.vars 14=some (.ptr 1 0 0 0)):=by
 refine qh5 (α:=List AV) (fun i _=>⟨[(7,(bb true)),(13,(.fsl ((s).map Evt.r) false)),(14,.ptr 1 0 0 0),(17,(ii i))],[]⟩) (fun _ x=>[.dead,.row 6 [x] 0]) (fun i x=>qagf s tn i x) s.length _ ?_ ?_ 0 x0 (wA _) h0
 ·rintro i x hi hx
  have hi':(i:Int)<(s.length:Int):=by omega
  have hw:IntKind.i64.wrap ((i:Int)+1)=((i+1:Nat):Int):=qge (by omega)
  obtain⟨e,he⟩ : ∃e,s[i]? = some e:=⟨_,zgE hi⟩
  obtain⟨x',q1,q2,q3,q4,q5,q6,q7,q8,q9⟩:=pop_step s tn i x hs ht hso hi hx
  have hit:qor s i=⟨e.time,i,0⟩:=by unfold qor;rw[he];rfl
  rw[hit]at q9
  have tk:x.take 6=x:=ztl (by omega)
  have tk':x'.take 6=x':=ztl (by omega)
  have dr:x.drop 6=[]:=List.drop_eq_nil_of_le (by omega)
  have q3':6≤x.length:=by omega
  have q5':6≤x'.length:=by omega
  refine .inl ⟨x',?_,q1⟩
  obtain⟨et,ek,el,ei,ep,ea⟩:=e
  simp only at q9
  simp only[qhq,zgs,zgr,zgq,zgt,Evt.r,he,hi',hw,q9,q3,q4,q5,q6,q8,tk,tk',dr,zgi,zgn,qa1,wh,wt,qb,wf,we,wo,ne_eq,zgy,↓qc,↓wb,wc,wa]
 ·rintro x hx
  simp only[qhq,wk,zgi,wh,zgy,↓qc,↓wb,wa]
  exact⟨_,rfl,rfl,rfl,⟨x,rfl,hx⟩,rfl,rfl,rfl⟩
theorem qagf.end {s:List Evt} {tn:Nat} {x:List AV} (h:qagf s tn s.length x) : ∃(ts:Int) (Z:List Rg) (mv cp:Nat),x=[(ii ts),(.fsl ((([]:List Item)).map Item.c) false),(.fsl ((Z).map Rg.r) false),(.fsl ((([]:List Item)).map Item.c) false),(ii mv),(ii cp)]∧(∀r∈Z,r.bs=wr 8 [])∧Z.length≤1000∧mv≤6*s.length:=by
 rcases h with ⟨h0,rfl⟩|⟨ts,bot,rs,mv,rfl,L⟩
 ·have hi:qadq s tn s.length=[]:=by rw[h0];rfl
  exact⟨0,[],s.length,s.length,by rw[hi],fun r hr=>by simp at hr,by simp,by omega⟩
 ·have hd:(target s).drop s.length=[]:=List.drop_eq_nil_of_le (by simp[target])
  rw[hd]at L
  have hm:=L.mvs
  obtain⟨rfl,h1,h2⟩:=L.empty
  exact⟨ts,rs.reverse,mv,s.length,rfl,fun r hr=>h2 r (List.mem_reverse.1 hr),by simp;omega,by omega⟩
set_option maxHeartbeats 2000000 in
theorem qajk (c:Cfg) (a b:Int) (ha:0≤a∧a≤255) (hb:0≤b∧b≤255):qaz (evL T) qf9 [(.agg [(.fsl ((c.lps).map lpC) false),(.fsl ((c.progs).map qbu) false),(ii c.look),(ii c.fin),(ii c.cap)]),(.v (.int .u8 (a))),(.v (.int .u8 (b)))]=some (bb true):=by
 have hh:=qaho
 obtain⟨ok,hq,hg⟩:=qae5 c
 rw[qaz,qg qw9 qos]
 cases ok with
 |false=>simp only[qhj,hh,hq,qc8,qa7,wh,qb,wf,we,ql,ne_eq,zgy,↓qc,↓wb,wc,wa]
 |true=>
  have G:=hg rfl
  obtain⟨lim,rfl⟩ : ∃n:Nat,a=n:=⟨a.toNat,by omega⟩
  obtain⟨tn,rfl⟩ : ∃n:Nat,b=n:=⟨b.toNat,by omega⟩
  obtain⟨n,hn⟩ : ∃n,n=lim%40:=⟨_,rfl⟩
  have hn40:n<40:=by omega
  have wl:IntKind.i64.wrap (lim:Int)=(lim:Int):=qk (by omega) (by omega)
  have hmod:(lim:Int).tmod 40=(n:Int):=by rw[Int.tmod_eq_emod_of_nonneg (by omega),hn];rfl
  obtain⟨L,_,_,hrun⟩:=G.run n (by omega)
  obtain⟨h,H,hle,_⟩:=ran G.v n (by omega)
  change SInv c (runS c n) h at H
  obtain⟨xs,hxs⟩ : ∃xs,xs=(runS c n).trace:=⟨_,rfl⟩
  have hcount:=H.count
  have hperm:=H.perm
  have hxl:xs.length≤1000:=by rw[hxs,H.trl];have:=G.v.lps;omega
  rw[←hxs]at hrun hcount hperm
  have hfl:xs.flatten.length≤40:=by rw[hcount];omega
  have hev : ∀e∈xs.flatten,(0≤e.time∧e.time≤tM)∧e.key.length≤9223372036854775807:=fun e he=>by
   have g:=H.ev e (wx _ (hperm.mem_iff.1 he))
   exact⟨g.time,by have:=g.key;omega⟩
  obtain⟨⟨y1,e1,σ1⟩,k1,g,k2,k3,k4,k5,k6,k7⟩:=qank xs tn hxl (by omega)
  simp only at k2 k3 k4 k5 k6 k7
  subst k2;subst k4
  have z0:((0:Nat):Int)=0:=rfl
  rw[z0]at k1
  obtain⟨s,s1,s2,s3⟩:=qsv xs.flatten false (by omega) (fun e he=>(hev e he).2)
  have hsl:=s1.length_eq
  have hst : ∀e∈s,0≤e.time∧e.time≤tM:=fun e he=>(hev e (s1.mem_iff.1 he)).1
  have hnew:=qacx
  obtain⟨⟨y2,e2,σ2⟩,l1,l2,l3,l4,l5,l6,l7⟩:=qamo s tn (by omega) (by omega) hst
  simp only at l2 l3 l4 l5 l6 l7
  subst l2;subst l4
  rw[z0]at l1
  obtain⟨⟨y3,e3,σ3⟩,m1,m2,m3,⟨x,m4,mP⟩,m5,m6,m7⟩:=qamk s tn (by omega) hst s2 _ (.inl ⟨rfl,rfl⟩)
  simp only at m2 m3 m4 m5 m6 m7
  subst m2;subst m4
  rw[z0]at m1
  obtain⟨ts,Z,mv,cp,rfl,hZ,hZl,hmv⟩:=mP.end
  have hlen:=len_ev ts Z mv cp hZ hZl
  have hle6:(mv:Int)≤((6*s.length:Nat):Int):=by omega
  have w6:IntKind.i64.wrap (6*(s.length:Int))=((6*s.length:Nat):Int):=by rw[qk (by omega) (by omega)];omega
  have tk:(xs.flatten.map Evt.r).take xs.flatten.length=xs.flatten.map Evt.r:=ztl (by rw[wR];exact wI _)
  rw[←hsl]at k7 tk
  have hins0:qadq s tn 0=[]:=rfl
  rw[hins0]at l1
  generalize qadq s tn s.length=A at l1 m1
  generalize xs.flatten=F at k1 s3 tk hsl
  have hsF:s.length≤F.length:=by omega
  simp only[wq]at hnew l1 m1 hlen
  simp only[qhj,hh,hq,wl,hmod,hrun,k1,k3,k5,k6,k7,s3,hsF,tk,hnew,l1,l3,l5,l6,l7,m1,m3,m5,m6,m7,hlen,w6,hle6,zgi,zgb,zgg,zfd,qc8,qa7,q74,qa1,qa0,qkh,wh,wt,qb,wf,we,ql,wo,ne_eq,zgy,↓qc,↓qx,↓wb,wc,wa,wv,wD,wd]
end Go.Proofs.YtfdoelhnnmcppaaGreat.K
