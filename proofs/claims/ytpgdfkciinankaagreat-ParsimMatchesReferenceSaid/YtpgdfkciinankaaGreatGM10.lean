/- For every input the statement of this claim returns true: texts of its proof, joined (part 11). -/
import Derived.Test.YtpgdfkciinankaaGreatEM3
import Derived.Test.YtpgdfkciinankaaGreatGM04
import Derived.Test.YtpgdfkciinankaaGreatGM06
import Derived.Test.YtpgdfkciinankaaGreatGM09
set_option linter.unusedSectionVars false
set_option linter.unusedSimpArgs false
set_option linter.unusedVariables false
open Nat renaming reduceEqDiff → wa, reduceAdd → we, reduceLT → wh, le_refl → wu, reduceLeDiff → wC, reducePow → wP, zero_le → waa, reduceMul → waf
open List renaming replicate → wc, getElem?_eq_none → wj, getElem?_map → wm, getElem?_range → wv, range → wx, mem_append_right → wy, append_nil → wz, map_append → wA, length_map → wB, mem_range → wE, eq_of_mem_replicate → wF, ext_getElem? → wH, map_nil → wI, length_set → wK, take → wL, mem_map → wM, map_cons → wN, getElem?_eq_getElem → wO, getElem_cons_zero → wS, mem_append → wT, countP_le_length → wU, length_replicate → wV, flatten_cons → wW, mem_append_left → wX, mem_cons_of_mem → wY, getElem?_set_ne → wZ, mem_flatten → wab, getElem_mem → wac, map_map → wad, perm_iff_count → wae, mem_filter → wag, range_succ → wah
open _root_ renaming reduceIte → wf, reduceCtorEq → wg
open Go.Ev.SObj renaming lo → wi
open Go.Ev renaming ev1 → wn, look → wr, stP → wJ
open Go.Ev.AV renaming cells → wp, plain → wq, uc → wD
open Int renaming toNat_natCast → wG, ofNat_zero → wQ
open Option renaming getD_some → wR
namespace Go.Proofs.YtpgdfkciinankaaGreat.K
open Go.Ev
set_option maxRecDepth 10000
section
variable {c:Cfg} {i:Nat} {w:WSt} {O:List Evt} {S:Sim} {H:List Evt} {f hor:Int}
structure WTime (c:Cfg) (i:Nat) (f hor:Int) (w:WSt):Prop where
 box : ∀e∈w.box,f≤e.time
 done : ∀e∈w.done,f≤e.time∧e.time<hor∧e.lp=i
 sent : ∀e∈w.sent,f+c.look≤e.time∧e.lp≠i∧0≤e.lp∧e.lp<c.lps.length
theorem qamp (j:Int) : ∀(l:List Evt) (p:List Evt×List Evt),∀e∈(qdq j p l).1,e∈p.1∨e∈l:=fun l p e he=>by
 have h:=(qt6 j l p []).mem_iff (a:=e)
 have hs:=q3v j l p
 rw[wz,wz]at h
 have:=h.1 (wX _ he)
 simp only[wT]at this
 rcases this with h1|h1|h1
 ·exact .inl h1
 ·-- an element of p.2: counted on the right already
  exact(placeB_mem_aux j l p e he).elim .inl .inr
 ·exact .inr h1
where
 placeB_mem_aux (j:Int) : ∀(l:List Evt) (p:List Evt×List Evt) (e:Evt),e∈(qdq j p l).1→e∈p.1∨e∈l
  | [],p,e,h => .inl h
  |n::l,p,e,h=>by
   rcases placeB_mem_aux j l (qqu j p n) e h with h|h
   ·unfold qqu at h
    split at h
    ·rcases List.mem_cons.1 ((qc8 _).mem_iff.1 h)with h|h
     ·exact .inr (by simp[h])
     ·exact .inl h
    ·exact .inl h
   ·exact .inr (wY _ h)
theorem WTime.step (h:WTime c i f hor w) {e:Evt} {rest:List Evt} (hb:w.box=e::rest) (ht:e.time<hor) (hl:e.lp=i) (R:Ready c w.lp e):WTime c i f hor (w.step c e rest):=by
 obtain⟨X,_,o1,_⟩:=R.outs
 have fe:=h.box e (by rw[hb];simp)
 have out : ∀n∈(qa4 c w.lp e).out,∃k,EvOk c e X k n:=fun n hn=>by
  obtain⟨k,hk⟩:=List.mem_iff_getElem?.1 hn
  exact⟨k,o1 k n hk⟩
 refine⟨fun n hn => ?_,fun n hn => ?_,fun n hn => ?_⟩
 ·have:=(qtg _ _).subset hn
  rcases qamp _ _ _ n this with h1|h1
  ·exact h.box n (by rw[hb];exact wY _ h1)
  ·obtain⟨k,hk⟩:=out n h1;have:=hk.time;omega
 ·rcases wT.1 hn with hn|hn
  ·exact h.done n hn
  ·rw[List.mem_singleton]at hn;subst hn;exact⟨fe,ht,hl⟩
 ·change n∈(qdq e.lp (rest,w.sent) (qa4 c w.lp e).out).2 at hn
  rw[q3v]at hn
  rcases wT.1 hn with hn|hn
  ·exact h.sent n hn
  ·rw[wag]at hn
   obtain⟨h1,h2⟩:=hn
   simp only[Bool.not_eq_true',decide_eq_false_iff_not]at h2
   obtain⟨k,a1,a2,a3,a4⟩:=out n h1
   have k3:n.kind=3:=Classical.byContradiction fun k3=>h2 (a4 k3).1
   obtain⟨m1,m2,m3,m4⟩:=a3 k3
   exact⟨by omega,by rw[←hl];exact h2,m1,m2⟩
theorem WTime.run : ∀(k:Nat) {w:WSt} {S:Sim} {H:List Evt},WTime c i f hor w→WInv c i w O S H→H.length+k≤20000→WTime c i f hor (WSt.run c hor k w)
 | 0,w,S,H,h,_,_=>h
 |k+1,w,S,H,h,hI,hk=>by
  unfold WSt.run
  split
  ·exact h
  next e rest hb=>
   split
   next ht=>
    obtain⟨h1,R,_⟩:=hI.ready (by omega) hb
    obtain⟨S',g1,_⟩:=hI.step (by omega) hb
    exact WTime.run k (h.step hb ht h1 R) g1 (by simp;omega)
   ·exact h
theorem qaoo (c:Cfg) (hor:Int) : ∀(k:Nat) (w:WSt),(WSt.run c hor k w).done.length=w.done.length+k∨((WSt.run c hor k w).done.length≤w.done.length+k∧((WSt.run c hor k w).box=[] ∨ ∃e r,(WSt.run c hor k w).box=e::r∧hor≤e.time))
 | 0,w => .inl rfl
 |k+1,w=>by
  unfold WSt.run
  split
  next hb=>exact .inr ⟨by omega,.inl hb⟩
  next e rest hb=>
   split
   ·have hl:(w.step c e rest).done.length=w.done.length+1:=by simp[WSt.step]
    rcases qaoo c hor k (w.step c e rest)with h|⟨h1,h2⟩
    ·exact .inl (by omega)
    ·exact .inr ⟨by omega,h2⟩
   next ht=>exact .inr ⟨by omega,.inr ⟨e,rest,hb,by omega⟩⟩
end
theorem qapd (r:List Int) (x:Int):r.foldl q5s x≤x∧(∀y∈r,r.foldl q5s x≤y)∧(r.foldl q5s x=x∨r.foldl q5s x∈r):=by
 induction r generalizing x with
 |nil=>exact⟨Int.le_refl _,fun y hy=>by simp at hy,.inl rfl⟩
 |cons a r ih=>
  obtain⟨h1,h2,h3⟩:=ih (q5s x a)
  have hm:q5s x a≤x∧q5s x a≤a∧(q5s x a=x∨q5s x a=a):=by unfold q5s;split<;>omega
  simp only[List.foldl_cons]
  refine⟨by omega,fun y hy => ?_,?_⟩
  ·rcases List.mem_cons.1 hy with rfl|hy
   ·omega
   ·exact h2 y hy
  ·rcases h3 with h3|h3
   ·rcases hm.2.2 with h4|h4
    ·exact .inl (by omega)
    ·exact .inr (by rw[h3,h4];simp)
   ·exact .inr (wY _ h3)
theorem q7b {bs:List (List Evt)} {t:Int}:t∈qrp bs ↔ ∃b∈bs,∃e r,b=e::r∧e.time=t:=by
 unfold qrp
 simp only[wM,List.mem_filterMap]
 constructor
 ·rintro⟨e,⟨b,hb,hh⟩,rfl⟩
  cases b with
  |nil=>simp at hh
  |cons x r=>simp only[zgh,Option.some.injEq]at hh;subst hh;exact⟨_,hb,x,r,rfl,rfl⟩
 ·rintro⟨b,hb,e,r,rfl,rfl⟩
  exact⟨e,⟨_,hb,rfl⟩,rfl⟩
theorem q2n {bs:List (List Evt)} {f:Int} (h:qrr bs=some f) (hs : ∀b∈bs,b.Pairwise leE):(∀b∈bs,∀e∈b,f≤e.time) ∧ ∃b∈bs,∃e r,b=e::r∧e.time=f:=by
 unfold qrr at h
 split at h
 ·cases h
 next x r hf=>
  cases h
  obtain⟨h1,h2,h3⟩:=qapd r x
  have all : ∀t∈qrp bs,r.foldl q5s x≤t:=fun t ht=>by
   rw[hf]at ht
   rcases List.mem_cons.1 ht with rfl|ht
   ·exact h1
   ·exact h2 t ht
  refine⟨fun b hb e he => ?_,?_⟩
  ·cases b with
   |nil=>simp at he
   |cons y q=>
    have:=all y.time (q7b.2 ⟨_,hb,y,q,rfl,rfl⟩)
    rcases List.mem_cons.1 he with rfl|he
    ·exact this
    ·have:=qac1 ((List.pairwise_cons.1 (hs _ hb)).1 e he);omega
  ·refine q7b.1 ?_
   rw[hf]
   rcases h3 with h3|h3
   ·rw[h3];simp
   ·exact wY _ h3
theorem qaio {bs:List (List Evt)} (h:qrr bs=none) : ∀b∈bs,b=[]:=by
 intro b hb
 cases b with
 |nil=>rfl
 |cons e r=>
  have:=q7b.2 ⟨_,hb,e,r,rfl,rfl⟩
  unfold qrr at h
  split at h
  ·rename_i hf;rw[hf]at this;simp at this
  ·cases h
structure StF (c:Cfg) (s:Sim) (h:List Evt) (L:List (Lp×Bool)):Prop where
 inv:SInvK c s h
 len:h.length≤30
 lok:LOk L s
section
variable {c:Cfg} {s:Sim} {h:List Evt} {L:List (Lp×Bool)}
theorem StF.lL (F:StF c s h L):L.length=c.lps.length:=by
 have:=congrArg List.length F.lok.1
 rw[wB,F.inv.lpl]at this;exact this
theorem StF.at (F:StF c s h L) {i:Nat} (hi:i<c.lps.length) : ∃x f,L[i]? = some (x,f)∧s.lps[i]? = some x∧(f=true→x.procs=[]):=by
 obtain⟨z,hz⟩ : ∃z,L[i]? = some z:=⟨_,zgE (by rw[F.lL];exact hi)⟩
 refine⟨z.1,z.2,hz,by rw[←F.lok.1,wm,hz];rfl,F.lok.2 z (zmg hz)⟩
theorem StF.plen (F:StF c s h L):s.pend.length≤1000:=by have:=F.inv.len;have:=F.len;omega
theorem qah7 (n:Nat) (l:List Evt) {i:Nat} (hi:i<n):(qab n l)[i]? = some (sortL (qao l i)):=by unfold qab;rw[wm,wv hi];rfl
theorem qvb (n:Nat) (l:List Evt) : ∀b∈qab n l,b.Pairwise leE:=fun b hb=>by
 simp only[qab,wM]at hb
 obtain⟨i,_,rfl⟩:=hb
 exact qg5 _
theorem q5c : ∀(l:List Nat) (g k:Nat→List Evt),(∀i,(g i).Perm (k i))→(l.map g).flatten.Perm (l.map k).flatten
 | [],_,_,_ => .refl _
 |a::l,g,k,h=>by
  simp only[wN,wW]
  exact(h a).append (q5c l g k h)
theorem StF.flat (F:StF c s h L):(qab c.lps.length s.pend).flatten.Perm s.pend:=
 (q5c _ _ (fun i=>qao s.pend i) fun i=>qc8 _).trans (q9z fun e he=>(F.inv.ev e (wy _ he)).lp)
theorem StF.winv (F:StF c s h L) {i:Nat} (hi:i<c.lps.length) {x:Lp} (hx:s.lps[i]? = some x):WInv c i ⟨x,sortL (qao s.pend i),[],[],false⟩ [] s h:=by
 refine⟨F.inv,hi,hx,⟨s.pend.filter fun e => !decide (e.lp=i),?_⟩,qg5 _,fun b hb=>by
  have:=(qc8 _).mem_iff.1 hb
  unfold qao at this
  rw[wag]at this;simpa using this.2⟩
 simp only[zgl]
 exact((qc8 _).append_right _).trans (List.filter_append_perm _ _)
end
set_option maxRecDepth 100000
set_option maxRecDepth 10000
def WSt.pre (d s:List Evt) (o:Bool) (w:WSt):WSt:=⟨w.lp,w.box,d++w.done,s++w.sent,o||w.over⟩
set_option maxRecDepth 10000
def wAt (c:Cfg) (s:Sim) (hor:Int) (i:Nat):WSt:=WSt.run c hor 2000 ⟨qn1 s i,sortL (qao s.pend i),[],[],false⟩
def qcy (c:Cfg) (s:Sim) (hor:Int) (n:Nat):List (List Evt):=(wx n).map fun i=>(wAt c s hor i).box
def qe1 (c:Cfg) (s:Sim) (hor:Int) (n:Nat):List (List Evt):=(wx n).map fun i=>(wAt c s hor i).sent
def qaiw (s:Sim) (n:Nat):List Evt:=s.pend.filter fun e=>decide ((n:Int)≤e.lp)
theorem q3w (c:Cfg) (s:Sim) (hor:Int) (n:Nat):qcy c s hor (n+1)=qcy c s hor n++[(wAt c s hor n).box]:=by unfold qcy;rw[wah,wA];rfl
theorem qaah (c:Cfg) (s:Sim) (hor:Int) (n:Nat):qe1 c s hor (n+1)=qe1 c s hor n++[(wAt c s hor n).sent]:=by unfold qe1;rw[wah,wA];rfl
theorem qahm (s:Sim) (n:Nat):(qao s.pend n++qaiw s (n+1)).Perm (qaiw s n):=by
 have e1:qao s.pend n=(qaiw s n).filter (fun e:Evt=>decide (e.lp=(n:Int))):=by
  unfold qao qaiw
  rw[List.filter_filter]
  refine List.filter_congr fun e _ => ?_
  rw[←Bool.decide_and];refine decide_eq_decide.2 ?_;omega
 have e2:qaiw s (n+1)=(qaiw s n).filter (fun e:Evt => !decide (e.lp=(n:Int))):=by
  unfold qaiw
  rw[List.filter_filter]
  refine List.filter_congr fun e _ => ?_
  rw[←decide_not,←Bool.decide_and];refine decide_eq_decide.2 ?_;omega
 rw[e1,e2];exact List.filter_append_perm _ _
section
variable {c:Cfg} {s:Sim} {h:List Evt} {L:List (Lp×Bool)} (hor:Int)
structure Comb (c:Cfg) (s:Sim) (hor:Int) (n m:Nat) (S:Sim) (H:List Evt):Prop where
 K:SInvK c S H
 len:H.length≤m+2000*n
 lps : ∀j,n≤j→S.lps[j]? = s.lps[j]?
 sub : ∃T,((qcy c s hor n).flatten++((qe1 c s hor n).flatten++(qaiw s n++T))).Perm S.pend
theorem StF.comb (F:StF c s h L) : ∀n,n≤c.lps.length → ∃S H,Comb c s hor n 30 S H
 | 0,_=>⟨s,h,F.inv,by have:=F.len;omega,fun _ _=>rfl,[],by
  have:qaiw s 0=s.pend:=List.filter_eq_self.2 fun e he=>by have:=(F.inv.ev e (wy _ he)).lp;simpa using this.1
  simp[qcy,qe1,this]⟩
 |n+1,hn=>by
  obtain⟨S,H,C⟩:=F.comb n (by omega)
  obtain⟨T,hT⟩:=C.sub
  have hv8:=F.inv.valid.lps.2
  obtain⟨x,xf,_,hx,_⟩:=F.at (i:=n) (by omega)
  have hlp:qn1 s n=x:=by unfold qn1;rw[wG,hx];rfl
  have W:WInv c n ⟨qn1 s n,sortL (qao s.pend n),[],[],false⟩ ((qcy c s hor n).flatten++((qe1 c s hor n).flatten++qaiw s (n+1))) S H:=by
   refine⟨C.K,by omega,by rw[C.lps n (wu _),hx,hlp],⟨T,?_⟩,qg5 _,fun b hb=>by
    have:=(qc8 _).mem_iff.1 hb
    unfold qao at this;rw[wag]at this;simpa using this.2⟩
   refine List.Perm.trans ?_ hT
   have p1:=qc8 (qao s.pend n)
   have p2:=qahm s n
   refine wae.2 fun a => ?_
   have q1:=p1.count_eq a
   have q2:=p2.count_eq a
   simp only[List.count_append,List.count_nil]at q1 q2⊢
   omega
  obtain⟨S',es,W',hd,hl,hel⟩:=WInv.run hor 2000 W (by have:=C.len;omega)
  change WInv c n (wAt c s hor n) _ S' (H++es)at W'
  change S'.lps=S.lps.set n (wAt c s hor n).lp at hl
  obtain⟨T',hT'⟩:=W'.sub
  refine⟨S',H++es,W'.K,by have:=C.len;simp;omega,fun j hj=>by rw[hl,wZ (by omega)];exact C.lps j (by omega),T',?_⟩
  refine List.Perm.trans ?_ hT'
  rw[q3w,qaah]
  refine wae.2 fun a => ?_
  simp only[List.flatten_append,wW,List.flatten_nil,zgn,List.count_append]
  omega
structure WinF (c:Cfg) (s:Sim) (hor:Int):Prop where
 keys:qqp ((qcy c s hor c.lps.length).flatten++(qe1 c s hor c.lps.length).flatten)
 len:((qcy c s hor c.lps.length).flatten++(qe1 c s hor c.lps.length).flatten).length≤300000
 kok:qb0 ((qcy c s hor c.lps.length).flatten++(qe1 c s hor c.lps.length).flatten)
 rng : ∀e∈(qcy c s hor c.lps.length).flatten++(qe1 c s hor c.lps.length).flatten,0≤e.lp∧e.lp<c.lps.length
theorem StF.winF (F:StF c s h L):WinF c s hor:=by
 obtain⟨S,H,C⟩:=F.comb hor c.lps.length (wu _)
 obtain⟨T,hT⟩:=C.sub
 have hv8:=F.inv.valid.lps.2
 have hH:H.length≤16030:=by have:=C.len;omega
 have sub:((qcy c s hor c.lps.length).flatten++(qe1 c s hor c.lps.length).flatten).Sublist ((qcy c s hor c.lps.length).flatten++((qe1 c s hor c.lps.length).flatten++(qaiw s c.lps.length++T))):=
  List.Sublist.append_left (List.sublist_append_left _ _) _
 have mem : ∀e∈(qcy c s hor c.lps.length).flatten++(qe1 c s hor c.lps.length).flatten,e∈S.pend:=fun e he=>hT.mem_iff.1 (sub.subset he)
 refine⟨List.Pairwise.sublist sub (qqp.perm (List.pairwise_append.1 C.K.keys).2.1 hT),?_,fun e he => ?_,fun e he=>(C.K.ev e (wy _ (mem e he))).lp⟩
 ·have:=sub.length_le
  rw[hT.length_eq]at this
  have:=C.K.len;omega
 ·have:=(C.K.ev e (wy _ (mem e he))).key;omega
theorem qapw (c:Cfg) (s:Sim) (hor:Int) {n i:Nat} (hi:i<n):(qcy c s hor n)[i]? = some (wAt c s hor i).box:=by unfold qcy;rw[wm,wv hi];rfl
theorem WinF.dist {hor:Int} (W:WinF c s hor) (l:List Evt) (hl:l.Perm (qe1 c s hor c.lps.length).flatten) : ∀i b,(qcy c s hor c.lps.length)[i]? = some b→qys (b++qao l i):=by
 intro i b hb
 have h1:qqp ((qcy c s hor c.lps.length).flatten++l):=qqp.perm W.keys (hl.append_left _)
 refine qqp.dist (List.Pairwise.sublist ?_ h1)
 exact List.Sublist.append (List.sublist_flatten_of_mem (zmg hb)) List.filter_sublist
theorem StF.wAt_inv (F:StF c s h L) {i:Nat} (hi:i<c.lps.length) : ∃(S':Sim) (es:List Evt),WInv c i (wAt c s hor i) [] S' (h++es)∧(wAt c s hor i).done=es∧es.length≤2000:=by
 obtain⟨x,xf,_,hx,_⟩:=F.at hi
 have hlp:qn1 s i=x:=by unfold qn1;rw[wG,hx];rfl
 have W:=F.winv hi hx
 obtain⟨S',es,W',hd,_,hel⟩:=WInv.run hor 2000 W (by have:=F.len;omega)
 rw[←hlp]at W' hd
 rw[List.nil_append]at hd
 exact⟨S',es,W',hd,hel⟩
theorem StF.lefts_sorted (F:StF c s h L) : ∀b∈qcy c s hor c.lps.length,b.Pairwise leE:=by
 intro b hb
 simp only[qcy,wM,wE]at hb
 obtain⟨i,hi,rfl⟩:=hb
 obtain⟨S',es,W',_⟩:=F.wAt_inv hor hi
 exact W'.sorted
theorem qaox (c:Cfg) (hor:Int) : ∀(k:Nat) (w:WSt),∃es,(WSt.run c hor k w).done=w.done++es
 | 0,w=>⟨[],(wz _).symm⟩
 |k+1,w=>by
  unfold WSt.run
  split
  ·exact⟨[],(wz _).symm⟩
  next e rest hb=>
   split
   ·obtain⟨es,h⟩:=qaox c hor k (w.step c e rest)
    exact⟨e::es,by rw[h];simp[WSt.step]⟩
   ·exact⟨[],(wz _).symm⟩
theorem run_head (c:Cfg) (hor:Int) (k:Nat) (x:Lp) (e:Evt) (r:List Evt) (ht:e.time<hor) : ∃es,(WSt.run c hor (k+1) ⟨x,e::r,[],[],false⟩).done=e::es:=by
 have:WSt.run c hor (k+1) ⟨x,e::r,[],[],false⟩=WSt.run c hor k ((⟨x,e::r,[],[],false⟩:WSt).step c e r):=by rw[WSt.run];simp only[ht,if_true]
 rw[this]
 obtain⟨es,h⟩:=qaox c hor k ((⟨x,e::r,[],[],false⟩:WSt).step c e r)
 exact⟨es,by rw[h];rfl⟩
end
set_option maxRecDepth 10000
section
variable {c:Cfg} {s:Sim} {h:List Evt} {L:List (Lp×Bool)} {f:Int} (hor:Int)
def q8z (c:Cfg) (s:Sim) (hor:Int) (n:Nat):Nat:=((wx n).map fun i=>(wAt c s hor i).done.length).sum
theorem q6o (n:Nat):q8z c s hor (n+1)=q8z c s hor n+(wAt c s hor n).done.length:=by
 unfold q8z;rw[wah,wA,List.sum_append];simp
theorem qapl {n i:Nat} (hi:i<n) (h:0<(wAt c s hor i).done.length):0<q8z c s hor n:=by
 induction n with
 |zero=>omega
 |succ n ih=>
  rw[q6o]
  by_cases e:i=n
  ·subst e;omega
  ·have:=ih (by omega);omega
def qha (c:Cfg) (s:Sim) (hor:Int):Sim:=
 ⟨(wx c.lps.length).map fun i:Nat=>qjx s i++(wAt c s hor i).done,(wx c.lps.length).map fun i=>(wAt c s hor i).lp,
  (qcy c s hor c.lps.length).flatten++(qe1 c s hor c.lps.length).flatten,s.n+q8z c s hor c.lps.length,s.over||(wx c.lps.length).any fun i=>(wAt c s hor i).over⟩
structure Comb2 (c:Cfg) (s:Sim) (h:List Evt) (hor:Int) (n:Nat) (S:Sim) (H:List Evt):Prop where
 K:SInvK c S H
 len:H.length=h.length+q8z c s hor n∧q8z c s hor n≤2000*n
 lps : ∀j,n≤j→S.lps[j]? = s.lps[j]?
 lps2 : ∀j,j<n→S.lps[j]? = some (wAt c s hor j).lp
 own : ∀j,n≤j→qao H j=qao h j
 own2 : ∀j,j<n→qao H j=qao h j++(wAt c s hor j).done
 sub : ∃T,((qcy c s hor n).flatten++((qe1 c s hor n).flatten++(qaiw s n++T))).Perm S.pend
theorem qu7 (a b:List Evt) (i:Nat):qao (a++b) i=qao a i++qao b i:=List.filter_append ..
theorem qaik {l:List Evt} {i:Nat} (h : ∀e∈l,e.lp=i):qao l i=l:=List.filter_eq_self.2 fun e he=>by simpa using h e he
theorem q7p {l:List Evt} {i j:Nat} (h : ∀e∈l,e.lp=i) (hj:j≠i):qao l j=[]:=List.filter_eq_nil_iff.2 fun e he=>by have:=h e he;simp;omega
theorem StF.comb2 (F:StF c s h L) : ∀n,n≤c.lps.length → ∃S H,Comb2 c s h hor n S H
 | 0,_=>⟨s,h,F.inv,⟨rfl,waa _⟩,fun _ _=>rfl,fun j hj=>by omega,fun _ _=>rfl,fun j hj=>by omega,[],by
  have:qaiw s 0=s.pend:=List.filter_eq_self.2 fun e he=>by have:=(F.inv.ev e (wy _ he)).lp;simpa using this.1
  simp[qcy,qe1,this]⟩
 |n+1,hn=>by
  obtain⟨S,H,C⟩:=F.comb2 n (by omega)
  obtain⟨T,hT⟩:=C.sub
  have hv8:=F.inv.valid.lps.2
  obtain⟨x,xf,_,hx,_⟩:=F.at (i:=n) (by omega)
  have hlp:qn1 s n=x:=by unfold qn1;rw[wG,hx];rfl
  have W:WInv c n ⟨qn1 s n,sortL (qao s.pend n),[],[],false⟩ ((qcy c s hor n).flatten++((qe1 c s hor n).flatten++qaiw s (n+1))) S H:=by
   refine⟨C.K,by omega,by rw[C.lps n (wu _),hx,hlp],⟨T,?_⟩,qg5 _,fun b hb=>by
    have:=(qc8 _).mem_iff.1 hb
    unfold qao at this;rw[wag]at this;simpa using this.2⟩
   refine List.Perm.trans ?_ hT
   have p1:=qc8 (qao s.pend n)
   have p2:=qahm s n
   refine wae.2 fun a => ?_
   have q1:=p1.count_eq a
   have q2:=p2.count_eq a
   simp only[List.count_append,List.count_nil]at q1 q2⊢
   omega
  have hWT:WTime c n 0 hor ⟨qn1 s n,sortL (qao s.pend n),[],[],false⟩:=⟨fun e he=>(W.K.ev e (wy _ (W.mem (.inl he)))).time.1,fun e he=>(by cases he),fun e he=>(by cases he)⟩
  have hH:H.length+2000≤20000:=by have:=C.len;have:=F.len;omega
  have hWT':=hWT.run 2000 W hH
  obtain⟨S',es,W',hd,hl,hel⟩:=WInv.run hor 2000 W hH
  change WInv c n (wAt c s hor n) _ S' (H++es)at W'
  change S'.lps=S.lps.set n (wAt c s hor n).lp at hl
  change WTime c n 0 hor (wAt c s hor n)at hWT'
  change (wAt c s hor n).done=[]++es at hd
  rw[List.nil_append]at hd
  have heo : ∀e∈es,e.lp=n:=fun e he=>(hWT'.done e (by rw[hd];exact he)).2.2
  obtain⟨T',hT'⟩:=W'.sub
  refine⟨S',H++es,W'.K,⟨by rw[q6o,hd,List.length_append];have:=C.len;omega,by rw[q6o,hd];have:=C.len;omega⟩,fun j hj=>by rw[hl,wZ (by omega)];exact C.lps j (by omega),fun j hj => ?_,fun j hj => ?_,fun j hj => ?_,T',?_⟩
  ·by_cases hjn:j=n
   ·subst hjn
    rw[hl,List.getElem?_set_self (by rw[C.K.lpl];omega)]
   ·rw[hl,wZ (by omega)];exact C.lps2 j (by omega)
  ·rw[qu7,q7p heo (by omega),wz];exact C.own j (by omega)
  ·rw[qu7]
   by_cases hjn:j=n
   ·subst hjn;rw[qaik heo,C.own j (wu _),hd]
   ·rw[q7p heo hjn,wz];exact C.own2 j (by omega)
  refine List.Perm.trans ?_ hT'
  rw[q3w,qaah]
  refine wae.2 fun a => ?_
  simp only[List.flatten_append,wW,List.flatten_nil,zgn,List.count_append]
  omega
theorem SInvK.drop {S:Sim} {H:List Evt} (K:SInvK c S H) {P T:List Evt} (hp:(P++T).Perm S.pend) (ov:Bool):SInvK c ⟨S.trace,S.lps,P,S.n,ov⟩ H:=by
 have mem : ∀e∈P,e∈S.pend:=fun e he=>hp.mem_iff.1 (wX _ he)
 have mem2 : ∀e∈H++P,e∈H++S.pend:=fun e he=>(wT.1 he).elim (fun h=>wX _ h) (fun h=>wy _ (mem e h))
 refine⟨K.valid,K.n,K.trl,K.tr,K.lpl,K.lp,?_,fun e he=>K.ev e (mem2 e he),fun e he=>K.tim e (mem e he),fun e he=>K.par e (mem2 e he),?_,K.rep,K.rdy⟩
 ·have:=qqp.perm K.keys (hp.append_left H)
  exact List.Pairwise.sublist ((List.sublist_append_left P T).append_left H) this
 ·have h1:=hp.length_eq
  have h2:=K.len
  rw[List.length_append]at h1
  show P.length ≤ _
  omega
structure NextF (c:Cfg) (s:Sim) (h:List Evt) (hor:Int) (h':List Evt):Prop where
 inv:SInvK c (qha c s hor) h'
 len:h'.length=h.length+q8z c s hor c.lps.length
 bnd:q8z c s hor c.lps.length≤2000*c.lps.length
 own : ∀i,i<c.lps.length→qao h' i=qao h i++(wAt c s hor i).done
theorem StF.next (F:StF c s h L) : ∃h',NextF c s h hor h':=by
 obtain⟨S,H,C⟩:=F.comb2 hor c.lps.length (wu _)
 obtain⟨T,hT⟩:=C.sub
 have h0:=C.K.drop (P:=(qcy c s hor c.lps.length).flatten++(qe1 c s hor c.lps.length).flatten) (T:=qaiw s c.lps.length++T) (by rw[List.append_assoc];exact hT) (s.over||(wx c.lps.length).any fun i=>(wAt c s hor i).over)
 have e1:S.trace=(wx c.lps.length).map fun i:Nat=>qjx s i++(wAt c s hor i).done:=by
  refine wH fun i => ?_
  rw[wm]
  by_cases hi:i<c.lps.length
  ·rw[wv hi,C.K.tr i hi,C.own2 i hi]
   have:qjx s i=qao h i:=by unfold qjx;rw[wG,F.inv.tr i hi];rfl
   simp only[zgt,this]
  ·rw[wj (by rw[C.K.trl];omega),wj (by simp;omega)];rfl
 have e2:S.lps=(wx c.lps.length).map fun i=>(wAt c s hor i).lp:=by
  refine wH fun i => ?_
  rw[wm]
  by_cases hi:i<c.lps.length
  ·rw[wv hi,C.lps2 i hi];rfl
  ·rw[wj (by rw[C.K.lpl];omega),wj (by simp;omega)];rfl
 have e3:S.n=s.n+q8z c s hor c.lps.length:=by rw[C.K.n,C.len.1,F.inv.n]
 rw[e1,e2,e3]at h0
 exact⟨H,h0,C.len.1,C.len.2,C.own2⟩
theorem q4c (hl : ∀i,i<c.lps.length → ∀e∈(wAt c s hor i).box,e.lp=i) (hd:qys ((qcy c s hor c.lps.length).flatten++(qe1 c s hor c.lps.length).flatten)) :
  qbl (qcy c s hor c.lps.length) (qe1 c s hor c.lps.length).flatten=qab c.lps.length (qha c s hor).pend:=by
 have key : ∀n i,qao (qcy c s hor n).flatten i=if i<n∧n≤c.lps.length then (wAt c s hor i).box else if i<n then qao (qcy c s hor n).flatten i else qao (qcy c s hor n).flatten i:=by
  intro n i
  split
  next hin=>
   obtain⟨h1,h2⟩:=hin
   induction n with
   |zero=>omega
   |succ n ih=>
    rw[q3w,List.flatten_append,qu7]
    simp only[wW,List.flatten_nil,zgn]
    by_cases e:i=n
    ·subst e
     rw[qaik (hl i (by omega))]
     have:qao (qcy c s hor i).flatten i=[]:=by
      refine List.filter_eq_nil_iff.2 fun e he => ?_
      obtain⟨b,hb,heb⟩:=wab.1 he
      simp only[qcy,wM,wE]at hb
      obtain⟨j,hj,rfl⟩:=hb
      have:=hl j (by omega) e heb
      simp;omega
     rw[this,List.nil_append]
    ·rw[ih (by omega) (by omega),q7p (hl n (by omega)) e,wz]
  ·split<;>rfl
 unfold qbl qab
 refine wH fun i => ?_
 rw[List.getElem?_mapIdx,wm]
 by_cases hi:i<c.lps.length
 ·rw[qapw c s hor hi,wv hi]
  simp only[zgt,qha]
  rw[qu7,key,if_pos ⟨hi,wu _⟩]
 ·rw[wj (by simp[qcy];omega),wj (by simp;omega)];rfl
theorem StF.lefts_own (F:StF c s h L) : ∀i,i<c.lps.length → ∀e∈(wAt c s hor i).box,e.lp=i:=fun i hi=>by
 obtain⟨S',es,W',_⟩:=F.wAt_inv hor hi
 exact W'.own
theorem StF.wtime (F:StF c s h L) (fa : ∀e∈s.pend,f≤e.time) : ∀i,i<c.lps.length→WTime c i f hor (wAt c s hor i):=fun i hi=>by
 obtain⟨x,xf,_,hsx,_⟩:=F.at hi
 have hlp:qn1 s i=x:=by unfold qn1;rw[wG,hsx];rfl
 have W0:=F.winv hi hsx
 have hT0:WTime c i f hor ⟨x,sortL (qao s.pend i),[],[],false⟩:=⟨fun e he=>fa e (wag.1 ((qc8 _).mem_iff.1 he)).1,fun e he=>(by cases he),fun e he=>(by cases he)⟩
 unfold wAt;rw[hlp]
 exact hT0.run 2000 W0 (by have:=F.len;omega)
theorem StF.floor (F:StF c s h L) (hf:qrr (qab c.lps.length s.pend)=some f):(∀e∈s.pend,f≤e.time) ∧ ∃e∈s.pend,e.time=f:=by
 obtain⟨fa,fb,hfb,fe,fr,rfl,hfe⟩:=q2n hf (qvb _ _)
 refine⟨fun e he => ?_,fe,F.flat.mem_iff.1 (wab.2 ⟨_,hfb,by simp⟩),hfe⟩
 obtain⟨b,hb,heb⟩:=wab.1 (F.flat.mem_iff.2 he)
 exact fa b hb e heb
theorem StF.some_done (F:StF c s h L) (hf:qrr (qab c.lps.length s.pend)=some f) (fh:f<hor):0<q8z c s hor c.lps.length:=by
 obtain⟨fa,fb,hfb,fe,fr,rfl,hfe⟩:=q2n hf (qvb _ _)
 simp only[qab,wM,wE]at hfb
 obtain⟨i,hi,hb⟩:=hfb
 obtain⟨es,hes⟩:=run_head c hor 1999 (qn1 s i) fe fr (by omega)
 have:0<(wAt c s hor i).done.length:=by unfold wAt;rw[hb,hes];simp
 exact qapl hor hi this
theorem StF.after (F:StF c s h L) (fa : ∀e∈s.pend,f≤e.time) (hh:hor≤f+c.look) (hA : ∀i,i<c.lps.length→(wAt c s hor i).done.length<2000) : ∀e∈(qha c s hor).pend,hor≤e.time:=by
 intro e he
 rcases wT.1 he with h1|h1
 ·obtain⟨b,hb,heb⟩:=wab.1 h1
  simp only[qcy,wM,wE]at hb
  obtain⟨i,hi,rfl⟩:=hb
  have hend:=qaoo c hor 2000 ⟨qn1 s i,sortL (qao s.pend i),[],[],false⟩
  change (wAt c s hor i).done.length = _ ∨ _ at hend
  have hdi:=hA i hi
  rcases hend with h3|⟨_,h3|⟨e',r',h3,h4⟩⟩
  ·simp at h3;omega
  ·change (wAt c s hor i).box=[]at h3
   rw[h3]at heb;cases heb
  ·change (wAt c s hor i).box = _ at h3
   obtain⟨S',es,W',_⟩:=F.wAt_inv hor hi
   have hs:=W'.sorted
   rw[h3]at heb hs
   rcases List.mem_cons.1 heb with rfl|heb
   ·exact h4
   ·have:=qac1 ((List.pairwise_cons.1 hs).1 e heb);omega
 ·obtain⟨l,hl,hel⟩:=wab.1 h1
  simp only[qe1,wM,wE]at hl
  obtain⟨j,hj,rfl⟩:=hl
  have:=(F.wtime hor fa j hj).sent e hel
  omega
end
inductive WS where
 |claim|work (t:Nat)|arrive|wait|done
 deriving DecidableEq
structure Pool where
 w0:Nat
 w1:Nat
 st:List WS
 pairs:List (Nat×Nat)
def qpt:WS→Bool
 | .done=>true
 | _=>false
def qgt (st:List WS):Nat:=st.countP fun x => !qpt x
def Pool.step (T:Nat) (p:Pool) (w:Nat):Pool:=match p.st[w]? with
 |some .claim=>if p.w0+1≤T then ⟨p.w0+1,p.w1,p.st.set w (.work p.w0),p.pairs⟩else ⟨p.w0+1,p.w1,p.st.set w .arrive,p.pairs⟩
 |some (.work t)=>⟨p.w0,p.w1,p.st.set w .claim,p.pairs++[(t,w)]⟩
 |some .arrive=>⟨p.w0,p.w1+1,p.st.set w .wait,p.pairs⟩
 |some .wait=>if p.w1=p.st.length then ⟨p.w0,p.w1,p.st.set w .done,p.pairs⟩else p
 | _=>p
def Pool.start (W:Nat):Pool:=⟨0,0,wc W .claim,[]⟩
def wt:WS→Nat
 | .claim=>3 | .work _=>4 | .arrive=>2 | .wait=>1 | .done=>0
def sumW (st:List WS):Nat:=(st.map wt).sum
def Pool.M (T:Nat) (p:Pool):Nat:=2*(T-p.w0)+sumW p.st
def inW:WS→Bool
 | .wait=>true | .done=>true | _=>false
def qacm:WS→Bool
 | .claim=>false | .work _=>false | _=>true
def qnl (st:List WS):List Nat:=st.filterMap fun | .work t=>some t | _=>none
structure PInv (T W:Nat) (p:Pool):Prop where
 len:p.st.length=W
 w1:p.w1=p.st.countP inW
 w0:p.w0≤T+p.st.countP qacm
 late:0<p.st.countP qacm→T≤p.w0
 dn:(∃x∈p.st,qpt x=true)→p.w1=W
 perm:(p.pairs.map Prod.fst++qnl p.st).Perm (wx (min p.w0 T))
 wk : ∀x∈p.pairs,x.2<W
theorem qapn (st:List WS) (w:Nat) (y:WS) (h:w<st.length):sumW (st.set w y)+wt st[w]=sumW st+wt y:=by
 induction st generalizing w with
 |nil=>simp at h
 |cons a r ih=>
  cases w with
  |zero=>simp[sumW];omega
  |succ w=>have:=ih w (by simpa using h);simp[sumW]at this ⊢;omega
theorem q3o (p:WS→Bool) (st:List WS) (w:Nat) (y:WS) (h:w<st.length):(st.set w y).countP p+(if p st[w]then 1 else 0)=st.countP p+(if p y then 1 else 0):=by
 induction st generalizing w with
 |nil=>simp at h
 |cons a r ih=>
  cases w with
  |zero=>simp only[zgj,List.countP_cons,wS];omega
  |succ w=>have:=ih w (by simpa using h);simp only[zgk,List.countP_cons,List.getElem_cons_succ]at this ⊢;omega
theorem q6i {st:List WS} {w:Nat} (h:w<st.length) {y:WS} (hx : ∀t,st[w] ≠ .work t) (hy : ∀t,y ≠ .work t):qnl (st.set w y)=qnl st:=by
 induction st generalizing w with
 |nil=>simp at h
 |cons a r ih=>
  cases w with
  |zero=>
   simp only[wS]at hx
   cases a<;>cases y<;>simp_all [qnl]
  |succ w=>have:=ih (w:=w) (by simpa using h) (by simpa using hx);simp only[qnl,zgk,List.filterMap_cons]at this ⊢;rw[this]
theorem qamk {st:List WS} {w:Nat} (h:w<st.length) {t:Nat} (hx : ∀t,st[w] ≠ .work t):(qnl (st.set w (.work t))).Perm (t::qnl st):=by
 induction st generalizing w with
 |nil=>simp at h
 |cons a r ih=>
  cases w with
  |zero=>
   simp only[wS]at hx
   cases a<;>simp_all [qnl]
  |succ w=>
   have:=ih (w:=w) (by simpa using h) (by simpa using hx)
   simp only[qnl,zgk,List.filterMap_cons]at this⊢
   cases a<;>simp only
   all_goals first|exact this|exact(this.cons _).trans (.swap ..)
theorem qam5 {st:List WS} {w:Nat} (h:w<st.length) {t:Nat} {y:WS} (hx:st[w] = .work t) (hy : ∀t,y ≠ .work t):(t::qnl (st.set w y)).Perm (qnl st):=by
 induction st generalizing w with
 |nil=>simp at h
 |cons a r ih=>
  cases w with
  |zero=>
   simp only[wS]at hx
   subst hx
   cases y<;>simp_all [qnl]
  |succ w=>
   have:=ih (w:=w) (by simpa using h) (by simpa using hx)
   simp only[qnl,zgk,List.filterMap_cons]at this⊢
   cases a<;>simp only
   all_goals first|exact this|exact(List.Perm.swap ..).trans (this.cons _)
section
variable {T W:Nat} {p:Pool}
theorem PInv.start (hW:1≤W):PInv T W (Pool.start W):=by
 refine⟨by simp[Pool.start],?_,by simp[Pool.start],?_,?_,?_,?_⟩
 ·show 0 = _
  rw[eq_comm,List.countP_eq_zero];intro a ha;rw[wF ha];simp[inW]
 ·show 0 < _ → _
  rw[List.countP_pos_iff]
  rintro⟨a,ha,hd⟩
  rw[wF ha]at hd;cases hd
 ·rintro⟨x,hx,hd⟩
  simp only[Pool.start]at hx
  rw[wF hx]at hd;simp[qpt]at hd
 ·have:qnl (wc W WS.claim)=[]:=by
   unfold qnl;rw[List.filterMap_eq_nil_iff];intro a ha;rw[wF ha]
  simp[Pool.start,this]
 ·simp[Pool.start]
theorem PInv.step (h:PInv T W p) (w:Nat):PInv T W (p.step T w):=by
 obtain⟨w0,w1,st,pairs⟩:=p
 obtain⟨h1,h2,h3,h4,h5,h6,h7⟩:=h
 simp only at h1 h2 h3 h4 h5 h6 h7
 unfold Pool.step
 simp only
 by_cases hw:w<st.length
 case neg=>rw[wj (by omega)];exact⟨h1,h2,h3,h4,h5,h6,h7⟩
 have hg:st[w]? = some st[w]:=wO hw
 have c1:=fun y=>q3o inW st w y hw
 have c2:=fun y=>q3o qacm st w y hw
 have hdn : ∀y,qpt y=false→(∃x∈st.set w y,qpt x=true) → ∃x∈st,qpt x=true:=fun y hy ⟨x,hx,hd⟩=>by
  rcases List.mem_or_eq_of_mem_set hx with hx|rfl
  ·exact⟨x,hx,hd⟩
  ·rw[hy]at hd;cases hd
 rw[hg]
 cases hs:st[w]with
 |claim=>
  simp only
  split
  next hle=>
   have k1:=c1 (.work w0);have k2:=c2 (.work w0)
   rw[hs]at k1 k2
   simp only[inW,qacm,zfa,if_false,Nat.add_zero]at k1 k2
   refine⟨by simpa using h1,by simp only;omega,by simp only;omega,fun hp=>by simp only at hp ⊢;have:=h4 (by omega);omega,fun hx=>h5 (hdn _ rfl hx),?_,h7⟩
   simp only
   have e1:min (w0+1) T=w0+1:=by omega
   have e2:min w0 T=w0:=by omega
   rw[e1,wah]
   rw[e2]at h6
   refine((qamk hw (by rw[hs];simp)).append_left _).trans ?_
   exact(List.perm_middle).trans ((h6.cons w0).trans (List.perm_append_singleton w0 _).symm)
  next hle=>
   have k1:=c1 .arrive;have k2:=c2 .arrive
   rw[hs]at k1 k2
   simp only[inW,qacm,zfa,if_false,if_true,Nat.add_zero]at k1 k2
   refine⟨by simpa using h1,by simp only;omega,by simp only;omega,fun hp=>by simp only at hp ⊢;omega,fun hx=>h5 (hdn _ rfl hx),?_,h7⟩
   simp only
   have e1:min (w0+1) T=T:=by omega
   have e2:min w0 T=T:=by omega
   rw[e1,q6i hw (by rw[hs];simp) (by simp)]
   rw[e2]at h6;exact h6
 |work t=>
  simp only
  have k1:=c1 .claim;have k2:=c2 .claim
  rw[hs]at k1 k2
  simp only[inW,qacm,zfa,if_false,Nat.add_zero]at k1 k2
  refine⟨by simpa using h1,by simp only;omega,by simp only;omega,fun hp=>by simp only at hp ⊢;exact h4 (by omega),fun hx=>h5 (hdn _ rfl hx),?_,?_⟩
  ·simp only[wA,wN,wI,List.append_assoc,zgm,zgl]
   exact((qam5 hw hs (by simp)).append_left _).trans h6
  ·intro x hx
   rcases wT.1 hx with hx|hx
   ·exact h7 x hx
   ·rw[List.mem_singleton]at hx;subst hx;simp only;omega
 |arrive=>
  simp only
  have k1:=c1 .wait;have k2:=c2 .wait
  rw[hs]at k1 k2
  simp only[inW,qacm,zfa,if_false,if_true,Nat.add_zero]at k1 k2
  refine⟨by simpa using h1,by simp only;omega,by simp only;omega,fun hp=>by simp only at hp ⊢;exact h4 (by omega),fun hx => ?_,?_,h7⟩
  ·have:=h5 (hdn _ rfl hx)
   have hle:=wU (p:=inW) (l:=st.set w .wait)
   rw[wK]at hle
   simp only;omega
  ·rw[q6i hw (by rw[hs];simp) (by simp)];exact h6
 |wait=>
  simp only
  split
  next he=>
   have k1:=c1 .done;have k2:=c2 .done
   rw[hs]at k1 k2
   simp only[inW,qacm,if_true]at k1 k2
   refine⟨by simpa using h1,by simp only;omega,by simp only;omega,fun hp=>by simp only at hp ⊢;exact h4 (by omega),fun _=>by simp only;omega,?_,h7⟩
   rw[q6i hw (by rw[hs];simp) (by simp)];exact h6
  next he=>exact⟨h1,h2,h3,h4,h5,h6,h7⟩
 |done=>exact⟨h1,h2,h3,h4,h5,h6,h7⟩
theorem qakk (p:Pool) (w:Nat):p.step T w=p∨(p.step T w).M T<p.M T:=by
 obtain⟨w0,w1,st,pairs⟩:=p
 unfold Pool.step Pool.M
 simp only
 by_cases hw:w<st.length
 case neg=>rw[wj (by omega)];exact .inl rfl
 rw[wO hw]
 have c1:=fun y=>qapn st w y hw
 cases hs:st[w]with
 |claim=>
  simp only
  split
  ·have:=c1 (.work w0);rw[hs]at this;simp only[wt]at this;right;simp only;omega
  ·have:=c1 .arrive;rw[hs]at this;simp only[wt]at this;right;simp only;omega
 |work t=>have:=c1 .claim;rw[hs]at this;simp only[wt]at this;right;simp only;omega
 |arrive=>have:=c1 .wait;rw[hs]at this;simp only[wt]at this;right;simp only;omega
 |wait=>
  simp only
  split
  ·have:=c1 .done;rw[hs]at this;simp only[wt]at this;right;simp only;omega
  ·exact .inl rfl
 |done=>exact .inl rfl
theorem q01 (st:List WS):0<qgt st ↔ ∃w,∃h:w<st.length,st[w] ≠ .done:=by
 unfold qgt
 rw[List.countP_pos_iff]
 constructor
 ·rintro⟨a,ha,hd⟩
  obtain⟨w,hw,rfl⟩:=List.mem_iff_getElem.1 ha
  exact⟨w,hw,fun h=>by rw[h]at hd;simp[qpt]at hd⟩
 ·rintro⟨w,hw,hd⟩
  refine⟨_,wac hw,?_⟩
  cases h:st[w]<;>simp_all [qpt]
theorem PInv.moves (h:PInv T W p) (hl:0<qgt p.st) : ∃w,w<W∧(p.step T w).M T<p.M T:=by
 obtain⟨w0,w1,st,pairs⟩:=p
 obtain⟨h1,h2,h3,h4,h5,h6,h7⟩:=h
 simp only at h1 h2 hl
 by_cases hb : ∃w,∃h:w<st.length,inW st[w]=false
 ·obtain⟨w,hw,hi⟩:=hb
  refine⟨w,by omega,(qakk ⟨w0,w1,st,pairs⟩ w).resolve_left fun he => ?_⟩
  have:=congrArg Pool.st he
  unfold Pool.step at this
  simp only[wO hw]at this
  have hst : ∀y,st.set w y=st→y=st[w]:=fun y hy=>by
   have:=List.getElem_set_self (l:=st) (i:=w) (a:=y) (by simpa using hw)
   rw[←this];simp only[hy]
  cases hs:st[w]with
  |claim=>rw[hs]at this;simp only at this;split at this<;>(have:=hst _ this;rw[hs]at this;cases this)
  |work t=>rw[hs]at this;have:=hst _ this;rw[hs]at this;cases this
  |arrive=>rw[hs]at this;have:=hst _ this;rw[hs]at this;cases this
  |wait=>rw[hs]at hi;cases hi
  |done=>rw[hs]at hi;cases hi
 ·have hall : ∀x∈st,inW x=true:=fun x hx=>by
   obtain⟨w,hw,rfl⟩:=List.mem_iff_getElem.1 hx
   cases hh:inW st[w]with
   |true=>rfl
   |false=>exact absurd ⟨w,hw,hh⟩ hb
  have hc:st.countP inW=st.length:=List.countP_eq_length.2 hall
  obtain⟨w,hw,hd⟩:=(q01 st).1 hl
  refine⟨w,by omega,(qakk ⟨w0,w1,st,pairs⟩ w).resolve_left fun he => ?_⟩
  have hi:=hall _ (wac hw)
  have:=congrArg Pool.st he
  unfold Pool.step at this
  simp only[wO hw]at this
  cases hs:st[w]with
  |wait=>
   rw[hs]at this
   simp only[show w1=st.length by omega,if_true]at this
   have h2:=List.getElem_set_self (l:=st) (i:=w) (a:=WS.done) (by simpa using hw)
   simp only[this]at h2
   rw[hs]at h2;cases h2
  |done=>exact hd hs
  |claim=>rw[hs]at hi;cases hi
  |work t=>rw[hs]at hi;cases hi
  |arrive=>rw[hs]at hi;cases hi
end
def qfc (picks:List Nat) (W i:Nat):Nat:=if i<picks.length then picks.getD i 0 else (i-picks.length)%W
def qdc (T W:Nat) (picks:List Nat):Nat→Pool
 | 0=>Pool.start W
 |i+1=>(qdc T W picks i).step T (qfc picks W i)
section
variable {T W:Nat} {picks:List Nat}
theorem q06 (hW:1≤W) : ∀i,PInv T W (qdc T W picks i)
 | 0=>PInv.start hW
 |i+1=>(q06 hW i).step _
theorem qaj2 (i d:Nat):(qdc T W picks (i+d)).M T≤(qdc T W picks i).M T:=by
 induction d with
 |zero=>exact wu _
 |succ d ih=>
  rw[show i+(d+1)=(i+d)+1 by omega,qdc]
  rcases qakk (T:=T) (qdc T W picks (i+d)) (qfc picks W (i+d))with h|h
  ·rw[h];exact ih
  ·omega
theorem qalf (hW:1≤W) {i:Nat} (hi:picks.length≤i) (hl:0<qgt (qdc T W picks i).st):(qdc T W picks (i+W)).M T<(qdc T W picks i).M T:=by
 refine Classical.byContradiction fun hn => ?_
 have hM:(qdc T W picks (i+W)).M T=(qdc T W picks i).M T:=by have:=qaj2 (T:=T) (W:=W) (picks:=picks) i W;omega
 have same : ∀d,d≤W→qdc T W picks (i+d)=qdc T W picks i:=by
  intro d hd
  induction d with
  |zero=>rfl
  |succ d ih=>
   have e:=ih (by omega)
   rw[show i+(d+1)=(i+d)+1 by omega,qdc]
   rcases qakk (T:=T) (qdc T W picks (i+d)) (qfc picks W (i+d))with h|h
   ·rw[h,e]
   ·have h1:=qaj2 (T:=T) (W:=W) (picks:=picks) (i+(d+1)) (W-(d+1))
    rw[show i+(d+1)+(W-(d+1))=i+W by omega,show i+(d+1)=(i+d)+1 by omega,qdc]at h1
    rw[e]at h h1
    omega
 obtain⟨w,hw,hm⟩:=(q06 hW i).moves hl
 -- the pick of w among these
 obtain⟨d,hd,hp⟩ : ∃d,d<W∧qfc picks W (i+d)=w:=by
  unfold qfc
  have hk:(i-picks.length)%W<W:=Nat.mod_lt _ (by omega)
  refine⟨(w+W-(i-picks.length)%W)%W,Nat.mod_lt _ (by omega),?_⟩
  rw[if_neg (by omega)]
  have e1:i+(w+W-(i-picks.length)%W)%W-picks.length=(i-picks.length)+(w+W-(i-picks.length)%W)%W:=by omega
  rw[e1]
  have hdm:=Nat.div_add_mod (i-picks.length) W
  generalize (i-picks.length)%W=k at *
  generalize (i-picks.length) / W=q at *
  rw[←hdm]
  rw[Nat.add_assoc,Nat.mul_add_mod,Nat.add_mod,Nat.mod_mod,←Nat.add_mod]
  rw[show k+(w+W-k)=w+W by omega,Nat.add_mod_right,Nat.mod_eq_of_lt hw]
 have e1:=same (d+1) (by omega)
 rw[show i+(d+1)=(i+d)+1 by omega,qdc,same d (by omega),hp]at e1
 rw[e1]at hm
 omega
theorem M_zero {p:Pool} (h:p.M T=0):qgt p.st=0:=by
 refine Classical.byContradiction fun hn => ?_
 obtain⟨w,hw,hd⟩:=(q01 p.st).1 (by omega)
 unfold Pool.M at h
 have:=qapn p.st w .done hw
 simp only[wt]at this
 cases hs:p.st[w]<;>rw[hs]at this<;>simp only[]at this<;>first|omega|exact hd hs
theorem ends (hW:1≤W) : ∀k i,picks.length≤i→(qdc T W picks i).M T≤k → ∃n,i≤n∧n≤i+W*k∧qgt (qdc T W picks n).st=0
 | 0,i,hi,hk=>⟨i,wu _,by omega,M_zero (T:=T) (by omega)⟩
 |k+1,i,hi,hk=>by
  by_cases hl:0<qgt (qdc T W picks i).st
  ·have:=qalf (T:=T) hW hi hl
   obtain⟨n,h1,h2,h3⟩:=ends hW k (i+W) (by omega) (by omega)
   exact⟨n,by omega,by rw[Nat.mul_succ];omega,h3⟩
  ·exact⟨i,wu _,by omega,by omega⟩
theorem least {P:Nat→Prop} [DecidablePred P] : ∀n,P n → ∃m,m≤n∧P m ∧ ∀j,j<m→¬P j
 | 0,h=>⟨0,wu _,h,fun j hj=>by omega⟩
 |n+1,h=>by
  by_cases hx : ∃j,j≤n∧P j
  ·obtain⟨j,hj,hp⟩:=hx
   have : ∀(d:Nat) j,j≤d→P j → ∃m,m≤j∧P m ∧ ∀i,i<m→¬P i:=by
    intro d
    induction d with
    |zero=>intro j hj hp;exact⟨j,wu _,hp,fun i hi=>by omega⟩
    |succ d ih=>
     intro j hj hp
     by_cases hy : ∃i,i<j∧P i
     ·obtain⟨i,hi,hq⟩:=hy
      obtain⟨m,a,b,c⟩:=ih i (by omega) hq
      exact⟨m,by omega,b,c⟩
     ·exact⟨j,wu _,hp,fun i hi hq=>hy ⟨i,hi,hq⟩⟩
   obtain⟨m,a,b,c⟩:=this n j hj hp
   exact⟨m,by omega,b,c⟩
  ·exact⟨n+1,wu _,h,fun j hj hp=>hx ⟨j,by omega,hp⟩⟩
structure Fin (T W:Nat) (picks:List Nat) (n:Nat):Prop where
 bound:n≤picks.length+W*(2*T+3*W)
 stop:qgt (qdc T W picks n).st=0
 first : ∀j,j<n→0<qgt (qdc T W picks j).st
theorem start_M:(Pool.start W).M T=2*T+3*W:=by
 simp only[Pool.M,Pool.start,sumW,List.map_replicate,wt,List.sum_replicate_nat];omega
theorem fin_ex (hW:1≤W) : ∃n,Fin T W picks n:=by
 have h0:=qaj2 (T:=T) (W:=W) (picks:=picks) 0 picks.length
 rw[Nat.zero_add,qdc,start_M]at h0
 obtain⟨n,h1,h2,h3⟩:=ends (T:=T) hW (2*T+3*W) picks.length (wu _) h0
 obtain⟨m,a,b,c⟩:=least (P:=fun n=>qgt (qdc T W picks n).st=0) n h3
 exact⟨m,by omega,b,fun j hj=>Nat.pos_of_ne_zero (c j hj)⟩
theorem Fin.perm (hW:1≤W) {n:Nat} (h:Fin T W picks n):((qdc T W picks n).pairs.map Prod.fst).Perm (wx T):=by
 have I:=q06 (T:=T) (picks:=picks) hW n
 have hall : ∀x∈(qdc T W picks n).st,x = .done:=fun x hx=>by
  obtain⟨w,hw,rfl⟩:=List.mem_iff_getElem.1 hx
  exact Classical.byContradiction fun hd=>by have:=(q01 _).2 ⟨w,hw,hd⟩;have:=h.stop;omega
 have ht:qnl (qdc T W picks n).st=[]:=by
  unfold qnl;rw[List.filterMap_eq_nil_iff];intro a ha;rw[hall a ha]
 have hl:0<(qdc T W picks n).st.countP qacm:=by
  have hn:0<(qdc T W picks n).st.length:=by have:=I.len;omega
  rw[List.countP_pos_iff]
  exact⟨_,wac hn,by rw[hall _ (wac hn)];rfl⟩
 have:=I.perm
 rw[ht,wz,show min (qdc T W picks n).w0 T=T by have:=I.late hl;omega]at this
 exact this
theorem qakj (st:List WS):qgt st≤st.length:=wU
end
set_option maxRecDepth 10000
def wsA:WS→List AV
 | .claim=>[.fn (.func qct) [.ptr 5 0 0 0] []]
 | .work t=>[.fn (.func qck) [] [.fptr [.ptr 5 0 0 0],.fptr [(ii t)]]]
 | .arrive=>[.fn (.func qcz) [.ptr 5 0 0 0] []]
 | .wait=>[.fn (.func qb9) [.ptr 5 0 0 0] []]
 | .done=>[.v .nilFunc]
def prC (x:Nat×Nat):List AV:=[(ii x.1),(ii x.2)]
theorem qang (x:WS):los 6 (wsA x)=true:=by cases x<;>simp only[wsA,wn,zgy]
theorem qk8 (l:List WS):qb4 6 (l.map wsA)=true:=qjs qang l
theorem prC_lo (n:Nat) (x:Nat×Nat):los n (prC x)=true:=rfl
theorem qea (n:Nat) (l:List (Nat×Nat)):qb4 n (l.map prC)=true:=qjs (prC_lo n) l
theorem sNew_ev:(evL T).call qpa [(ii 2),(ii 0)] []=some (.ptr 2 0 0 0,[.row 1 [[(ii 0)],[(ii 0)]] 0,.row 6 [] 0,.row 4 [[.sl 1 0 0 0 false,(ii 0),.sl 0 0 0 2 false,.fsl [] false]] 0]):=q42 6 (by kernel_rfl)
theorem qanv (tk W:Nat) (h1:1≤W) (h2:W≤64):(evL T).call qjr [(ii tk),(ii W)] []=some (.ptr 5 0 0 0,[.row 1 (((wc W WS.claim)).map wsA) 1,.row 1 [[(ii 0)],[(ii 0)]] 0,.row 6 ([]:List (List AV)) 0,.row 4 [[.sl 2 0 0 (([]:List (List AV))).length false,(ii 0),.sl 1 0 0 2 false,.fsl [] false]] 0,.row 2 ((([]:List (Nat×Nat))).map prC) 0,.row 6 [[.ptr 3 0 0 0,(ii tk),.sl 0 1 0 W false,.sl 4 0 0 (([]:List (Nat×Nat))).length false,(ii W),(ii 0)]] 0]):=by
 have hL : ∃y,itB (exec (evL T) itL none qkd) (qu [5,18,19] true 6) ⟨[(5,.ptr 5 0 0 0),(18,(ii W)),(19,(ii ((0:Nat))))],[]⟩
   [.row 1 (wc W [.v .nilFunc]) 1,.row 1 [[(ii 0)],[(ii 0)]] 0,.row 6 [] 0,.row 4 [[.sl 2 0 0 0 false,(ii 0),.sl 1 0 0 2 false,.fsl [] false]] 0,.row 2 [] 0,.row 6 [[.ptr 3 0 0 0,(ii tk),.sl 0 1 0 W false,.sl 4 0 0 0 false,(ii W),(ii 0)]] 0]=some y ∧
   y.1 = .exit 0∧y.2.1.marks=[]∧y.2.2=[.row 1 (((wc W WS.claim)).map wsA) 1,.row 1 [[(ii 0)],[(ii 0)]] 0,.row 6 ([]:List (List AV)) 0,.row 4 [[.sl 2 0 0 (([]:List (List AV))).length false,(ii 0),.sl 1 0 0 2 false,.fsl [] false]] 0,.row 2 ((([]:List (Nat×Nat))).map prC) 0,.row 6 [[.ptr 3 0 0 0,(ii tk),.sl 0 1 0 W false,.sl 4 0 0 (([]:List (Nat×Nat))).length false,(ii W),(ii 0)]] 0]∧wr y.2.1.vars 5=some (.ptr 5 0 0 0):=by
  have key:=qcq (f:=exec (evL T) itL none qkd) (s:=qu [5,18,19] true 6) (α:=Unit)
   (fun i _=>⟨[(5,.ptr 5 0 0 0),(18,(ii W)),(19,(ii i))],[]⟩) (fun i _=>[.row 1 (wc i (wsA .claim)++wc (W-i) [.v .nilFunc]) 1,.row 1 [[(ii 0)],[(ii 0)]] 0,.row 6 [] 0,.row 4 [[.sl 2 0 0 0 false,(ii 0),.sl 1 0 0 2 false,.fsl [] false]] 0,.row 2 [] 0,.row 6 [[.ptr 3 0 0 0,(ii tk),.sl 0 1 0 W false,.sl 4 0 0 0 false,(ii W),(ii 0)]] 0]) (fun _ _=>True) W
   (fun y=>y.1 = .exit 0∧y.2.1.marks=[]∧y.2.2=[.row 1 (((wc W WS.claim)).map wsA) 1,.row 1 [[(ii 0)],[(ii 0)]] 0,.row 6 ([]:List (List AV)) 0,.row 4 [[.sl 2 0 0 (([]:List (List AV))).length false,(ii 0),.sl 1 0 0 2 false,.fsl [] false]] 0,.row 2 ((([]:List (Nat×Nat))).map prC) 0,.row 6 [[.ptr 3 0 0 0,(ii tk),.sl 0 1 0 W false,.sl 4 0 0 (([]:List (Nat×Nat))).length false,(ii W),(ii 0)]] 0]∧wr y.2.1.vars 5=some (.ptr 5 0 0 0)) ?_ ?_ 0 () (waa _) trivial
  ·simp only[List.replicate_zero,zgl,Nat.sub_zero]at key;exact key
  ·rintro i _ hi _
   have hi':(i:Int)<(W:Int):=by omega
   have hw:IntKind.i64.wrap ((i:Int)+1)=((i+1:Nat):Int):=by rw[qi (by omega) (by omega)];simp
   have hg:(wc i (wsA .claim)++wc (W-i) [AV.v .nilFunc])[i]? = some [AV.v .nilFunc]:=by
    rw[List.getElem?_append_right (by simp),wV,Nat.sub_self,List.getElem?_replicate,if_pos (by omega)]
   have hset:(wc i (wsA .claim)++wc (W-i) [AV.v .nilFunc]).set i (wsA .claim)=wc (i+1) (wsA .claim)++wc (W-(i+1)) [.v .nilFunc]:=by
    rw[List.set_append,if_neg (by simp),wV,Nat.sub_self]
    obtain⟨m,hm⟩ : ∃m,W-i=m+1:=⟨W-i-1,by omega⟩
    rw[hm,List.replicate_succ,List.set_cons_zero,show W-(i+1)=m by omega,List.replicate_succ',List.append_assoc];rfl
   have lo : ∀a b,qb4 6 (wc a (wsA .claim)++wc b [AV.v .nilFunc])=true:=fun a b=>by
    rw[qqy,qfe _ _ _ (qang _),qfe _ _ _ (by simp only[wn,zgy])];rfl
   have lo2:=lo (i+1) (W-(i+1))
   refine .inl ⟨(),?_,trivial⟩
   rw[←hset]at lo2⊢
   generalize wc i (wsA .claim)++wc (W-i) [AV.v .nilFunc]=R at *
   simp only[wsA]at hg hset lo2⊢
   simp only[qkd,hi',hi,hw,hg,lo2,zgs,zgr,zfd,wn,wJ,qb,wp,wD,wq,wi,zgy,↓qc,↓wf,wa,wh]
  ·rintro _ _
   rw[Nat.sub_self,List.replicate_zero,wz]
   have lo:=qfe 6 W _ (qang .claim)
   simp only[qkd,Int.lt_irrefl,wn,zgy,↓qc,↓wf,wa]
   exact⟨_,rfl,rfl,rfl,by simp[wsA],rfl⟩
 obtain⟨⟨y,e,σ⟩,k1,k2,k3,k4,k5⟩:=hL
 simp only[wQ]at k1 k2 k3 k4 k5
 subst k2;subst k4
 have lo:=qk8 (wc W WS.claim)
 have b1:8*(W:Int)≤140737488355328:=by omega
 have b2:(W:Int)≤4611686018427387904:=by omega
 have lr:qb4 6 (wc W [AV.v .nilFunc])=true:=qfe _ _ _ (by simp only[wn,zgy])
 rw[qd q55 q43]
 simp only[qqa,sNew_ev,k1,k3,k5,lr,b1,b2,AV.shift,qhy,qhj,zgs,zgr,Int.le_refl,wn,q3y,qb,wp,wD,wq,qk,wi,ne_eq,zgy,↓qc,↓qq,↓wf,we,wa,wh,wC,Int.reducePow,wg]
set_option maxRecDepth 10000
structure LogOk (LG:List (List AV)):Prop where
 lo : ∀n,qb4 n LG=true
 ok:qbs 6 LG=true
section
variable (st:List WS) (w0 w1:Nat) (pr:List (Nat×Nat)) (tk W lf:Nat) (LG:List (List AV)) (gl gp k:Nat)
theorem at_ev (hlo:LogOk LG) (i:Nat) (hi:i<2):(evL T).call qe3 [.ptr 3 0 0 2,(ii i)] [.row 1 ((st).map wsA) 1,.row 1 [[(ii w0)],[(ii w1)]] 0,.row 6 LG gl,.row 4 [[.sl 2 gl 0 (LG).length false,(ii 0),.sl 1 0 0 2 false,.fsl [] false]] 0,.row 2 ((pr).map prC) gp,.row 6 [[.ptr 3 0 0 0,(ii tk),.sl 0 1 0 W false,.sl 4 gp 0 (pr).length false,(ii lf),(ii k)]] 0]=some (.ptr 1 0 i 0,[.row 1 ((st).map wsA) 1,.row 1 [[(ii w0)],[(ii w1)]] 0,.row 6 LG gl,.row 4 [[.sl 2 gl 0 (LG).length false,(ii 0),.sl 1 0 0 2 false,.fsl [] false]] 0,.row 2 ((pr).map prC) gp,.row 6 [[.ptr 3 0 0 0,(ii tk),.sl 0 1 0 W false,.sl 4 gp 0 (pr).length false,(ii lf),(ii k)]] 0]):=by
 have h0:¬(i:Int)<0:=by omega
 have h2:¬(i:Int)≥2:=by omega
 rw[qd qy3 qxx]
 simp only[qlb,h0,h2,hi,qk8,qea,hlo.lo,zgs,zgr,wn,qb,qk,wi,zgy,↓qc,↓wf,we,wa,wh,wg]
theorem qaac (hlo:LogOk LG) (hl:LG.length≤1000000000) (a b c d e:Int) (o:Bool) : ∃LG' gl',LogOk LG'∧LG'.length=LG.length+1 ∧
  (evL T).call qdy [.ptr 3 0 0 0,(ii a),(ii b),(ii c),(ii d),(ii e),(bb o)] [.row 1 ((st).map wsA) 1,.row 1 [[(ii w0)],[(ii w1)]] 0,.row 6 LG gl,.row 4 [[.sl 2 gl 0 (LG).length false,(ii 0),.sl 1 0 0 2 false,.fsl [] false]] 0,.row 2 ((pr).map prC) gp,.row 6 [[.ptr 3 0 0 0,(ii tk),.sl 0 1 0 W false,.sl 4 gp 0 (pr).length false,(ii lf),(ii k)]] 0]=some (.tup [],[.row 1 ((st).map wsA) 1,.row 1 [[(ii w0)],[(ii w1)]] 0,.row 6 LG' gl',.row 4 [[.sl 2 gl' 0 (LG').length false,(ii 0),.sl 1 0 0 2 false,.fsl [] false]] 0,.row 2 ((pr).map prC) gp,.row 6 [[.ptr 3 0 0 0,(ii tk),.sl 0 1 0 W false,.sl 4 gp 0 (pr).length false,(ii lf),(ii k)]] 0]):=by
 have ok2:LogOk (LG++[[(ii a),(ii b),(ii c),(ii d),(ii e),(bb o)]]):=⟨fun n=>by rw[qqy,hlo.lo];rfl,by rw[qwy,hlo.ok];rfl⟩
 refine⟨LG++[[(ii a),(ii b),(ii c),(ii d),(ii e),(bb o)]],gl+1,ok2,by simp,?_⟩
 have bd:(LG.length+1)*48≤140737488355328:=by omega
 have hl2:(LG++[([(ii a),(ii b),(ii c),(ii d),(ii e),(bb o)]:List AV)]).length=LG.length+1:=by simp
 have lo2:=ok2.lo 6
 rw[qd qwb quq]
 simp only[qiy,bd,lo2,hl2,qk8,qea,wn,wJ,qqk,qb,qaw,wp,wD,wq,qk,wi,ne_eq,zgy,↓qc,↓wf,we,wa,waf,wh,wC,wP,wg]
theorem qapi (v d:Int) (hlo:LogOk LG):(evL T).call qdf [(ii v),.fptr [(ii d)]] [.row 1 ((st).map wsA) 1,.row 1 [[(ii w0)],[(ii w1)]] 0,.row 6 LG gl,.row 4 [[.sl 2 gl 0 (LG).length false,(ii 0),.sl 1 0 0 2 false,.fsl [] false]] 0,.row 2 ((pr).map prC) gp,.row 6 [[.ptr 3 0 0 0,(ii tk),.sl 0 1 0 W false,.sl 4 gp 0 (pr).length false,(ii lf),(ii k)]] 0]=some (.tup [(ii (IntKind.i64.wrap (v+d))),(bb true)],[.row 1 ((st).map wsA) 1,.row 1 [[(ii w0)],[(ii w1)]] 0,.row 6 LG gl,.row 4 [[.sl 2 gl 0 (LG).length false,(ii 0),.sl 1 0 0 2 false,.fsl [] false]] 0,.row 2 ((pr).map prC) gp,.row 6 [[.ptr 3 0 0 0,(ii tk),.sl 0 1 0 W false,.sl 4 gp 0 (pr).length false,(ii lf),(ii k)]] 0]):=by
 rw[qd qza qxo]
 simp only[qld,qk8,qea,hlo.lo,wn,qb,qk,wi,zgy,↓qc,↓wf,we,wa,wh,wg]
theorem load1_ev (v:Int) (hlo:LogOk LG):(evL T).call qdr [(ii v)] [.row 1 ((st).map wsA) 1,.row 1 [[(ii w0)],[(ii w1)]] 0,.row 6 LG gl,.row 4 [[.sl 2 gl 0 (LG).length false,(ii 0),.sl 1 0 0 2 false,.fsl [] false]] 0,.row 2 ((pr).map prC) gp,.row 6 [[.ptr 3 0 0 0,(ii tk),.sl 0 1 0 W false,.sl 4 gp 0 (pr).length false,(ii lf),(ii k)]] 0]=some (.tup [(ii v),(bb true)],[.row 1 ((st).map wsA) 1,.row 1 [[(ii w0)],[(ii w1)]] 0,.row 6 LG gl,.row 4 [[.sl 2 gl 0 (LG).length false,(ii 0),.sl 1 0 0 2 false,.fsl [] false]] 0,.row 2 ((pr).map prC) gp,.row 6 [[.ptr 3 0 0 0,(ii tk),.sl 0 1 0 W false,.sl 4 gp 0 (pr).length false,(ii lf),(ii k)]] 0]):=by
 rw[qd qya qxj]
 simp only[qkc,qk8,qea,hlo.lo,wn,qk,wi,zgy,↓qc,↓wf,we,wa,wh,wg]
theorem add0_ev (w:Int) (hlo:LogOk LG) (hl:LG.length≤1000000000) (hw:w0≤1000000) : ∃LG' gl',LogOk LG'∧LG'.length=LG.length+1 ∧
  (evL T).call qeg [.ptr 3 0 0 0,(ii w),(ii 0),(ii 1)] [.row 1 ((st).map wsA) 1,.row 1 [[(ii w0)],[(ii w1)]] 0,.row 6 LG gl,.row 4 [[.sl 2 gl 0 (LG).length false,(ii 0),.sl 1 0 0 2 false,.fsl [] false]] 0,.row 2 ((pr).map prC) gp,.row 6 [[.ptr 3 0 0 0,(ii tk),.sl 0 1 0 W false,.sl 4 gp 0 (pr).length false,(ii lf),(ii k)]] 0]=some ((ii ((w0+1:Nat))),[.row 1 ((st).map wsA) 1,.row 1 [[(ii ((w0+1:Nat)))],[(ii w1)]] 0,.row 6 LG' gl',.row 4 [[.sl 2 gl' 0 (LG').length false,(ii 0),.sl 1 0 0 2 false,.fsl [] false]] 0,.row 2 ((pr).map prC) gp,.row 6 [[.ptr 3 0 0 0,(ii tk),.sl 0 1 0 W false,.sl 4 gp 0 (pr).length false,(ii lf),(ii k)]] 0]):=by
 have ha:=at_ev st w0 w1 pr tk W lf LG gl gp k hlo 0 (by omega)
 have hd:=qapi st w0 w1 pr tk W lf LG gl gp k w0 1 hlo
 have ww:IntKind.i64.wrap ((w0:Int)+1)=((w0+1:Nat):Int):=by rw[qi (by omega) (by omega)];simp
 obtain⟨LG',gl',h1,h2,h3⟩:=qaac st (w0+1) w1 pr tk W lf LG gl gp k hlo hl w 2 0 w0 (w0+1:Nat) true
 refine⟨LG',gl',h1,h2,?_⟩
 rw[ww]at hd
 simp only[wQ]at ha
 have lo1:=h1.lo 6
 have hu:(evL T).call qcj [.ptr 3 0 0 0,(ii w),(ii 2),(ii 0),.fn (.func qdf) [] [.fptr [(ii 1)]]] [.row 1 ((st).map wsA) 1,.row 1 [[(ii w0)],[(ii w1)]] 0,.row 6 LG gl,.row 4 [[.sl 2 gl 0 (LG).length false,(ii 0),.sl 1 0 0 2 false,.fsl [] false]] 0,.row 2 ((pr).map prC) gp,.row 6 [[.ptr 3 0 0 0,(ii tk),.sl 0 1 0 W false,.sl 4 gp 0 (pr).length false,(ii lf),(ii k)]] 0]=some (.tup [(ii ((w0+1:Nat))),(bb true)],[.row 1 ((st).map wsA) 1,.row 1 [[(ii ((w0+1:Nat)))],[(ii w1)]] 0,.row 6 LG' gl',.row 4 [[.sl 2 gl' 0 (LG').length false,(ii 0),.sl 1 0 0 2 false,.fsl [] false]] 0,.row 2 ((pr).map prC) gp,.row 6 [[.ptr 3 0 0 0,(ii tk),.sl 0 1 0 W false,.sl 4 gp 0 (pr).length false,(ii lf),(ii k)]] 0]):=by
  rw[qd qmg qll]
  simp only[qgf,ha,hd,h3,lo1,qk8,qea,wn,q7t,wJ,qb,wp,wD,wq,qk,wi,zgy,↓qc,↓wf,we,wa,wh,wg]
 rw[qd qsd qrz]
 simp only[qki,hu,lo1,qk8,qea,wn,wp,wD,wq,qk,wi,ne_eq,zgy,↓qc,↓wf,we,wa,wh,wg]
theorem add1w_ev (w:Int) (hlo:LogOk LG) (hl:LG.length≤1000000000) (hw:w1≤1000000) : ∃LG' gl',LogOk LG'∧LG'.length=LG.length+1 ∧
  (evL T).call qeg [.ptr 3 0 0 0,(ii w),(ii 1),(ii 1)] [.row 1 ((st).map wsA) 1,.row 1 [[(ii w0)],[(ii w1)]] 0,.row 6 LG gl,.row 4 [[.sl 2 gl 0 (LG).length false,(ii 0),.sl 1 0 0 2 false,.fsl [] false]] 0,.row 2 ((pr).map prC) gp,.row 6 [[.ptr 3 0 0 0,(ii tk),.sl 0 1 0 W false,.sl 4 gp 0 (pr).length false,(ii lf),(ii k)]] 0]=some ((ii ((w1+1:Nat))),[.row 1 ((st).map wsA) 1,.row 1 [[(ii w0)],[(ii ((w1+1:Nat)))]] 0,.row 6 LG' gl',.row 4 [[.sl 2 gl' 0 (LG').length false,(ii 0),.sl 1 0 0 2 false,.fsl [] false]] 0,.row 2 ((pr).map prC) gp,.row 6 [[.ptr 3 0 0 0,(ii tk),.sl 0 1 0 W false,.sl 4 gp 0 (pr).length false,(ii lf),(ii k)]] 0]):=by
 have ha:=at_ev st w0 w1 pr tk W lf LG gl gp k hlo 1 (by omega)
 have hd:=qapi st w0 w1 pr tk W lf LG gl gp k w1 1 hlo
 have ww:IntKind.i64.wrap ((w1:Int)+1)=((w1+1:Nat):Int):=by rw[qi (by omega) (by omega)];simp
 obtain⟨LG',gl',h1,h2,h3⟩:=qaac st w0 (w1+1) pr tk W lf LG gl gp k hlo hl w 2 1 w1 (w1+1:Nat) true
 refine⟨LG',gl',h1,h2,?_⟩
 rw[ww]at hd
 simp only[Int.ofNat_one]at ha
 have lo1:=h1.lo 6
 have hu:(evL T).call qcj [.ptr 3 0 0 0,(ii w),(ii 2),(ii 1),.fn (.func qdf) [] [.fptr [(ii 1)]]] [.row 1 ((st).map wsA) 1,.row 1 [[(ii w0)],[(ii w1)]] 0,.row 6 LG gl,.row 4 [[.sl 2 gl 0 (LG).length false,(ii 0),.sl 1 0 0 2 false,.fsl [] false]] 0,.row 2 ((pr).map prC) gp,.row 6 [[.ptr 3 0 0 0,(ii tk),.sl 0 1 0 W false,.sl 4 gp 0 (pr).length false,(ii lf),(ii k)]] 0]=some (.tup [(ii ((w1+1:Nat))),(bb true)],[.row 1 ((st).map wsA) 1,.row 1 [[(ii w0)],[(ii ((w1+1:Nat)))]] 0,.row 6 LG' gl',.row 4 [[.sl 2 gl' 0 (LG').length false,(ii 0),.sl 1 0 0 2 false,.fsl [] false]] 0,.row 2 ((pr).map prC) gp,.row 6 [[.ptr 3 0 0 0,(ii tk),.sl 0 1 0 W false,.sl 4 gp 0 (pr).length false,(ii lf),(ii k)]] 0]):=by
  rw[qd qmg qll]
  simp only[qgf,ha,hd,h3,lo1,qk8,qea,wn,q7t,wJ,qb,wp,wD,wq,qk,wi,zgy,↓qc,↓wf,we,wa,wh,wg]
 rw[qd qsd qrz]
 simp only[qki,hu,lo1,qk8,qea,wn,wp,wD,wq,qk,wi,ne_eq,zgy,↓qc,↓wf,we,wa,wh,wg]
theorem load_ev (w:Int) (hlo:LogOk LG) (hl:LG.length≤1000000000) : ∃LG' gl',LogOk LG'∧LG'.length=LG.length+1 ∧
  (evL T).call qfv [.ptr 3 0 0 0,(ii w),(ii 1)] [.row 1 ((st).map wsA) 1,.row 1 [[(ii w0)],[(ii w1)]] 0,.row 6 LG gl,.row 4 [[.sl 2 gl 0 (LG).length false,(ii 0),.sl 1 0 0 2 false,.fsl [] false]] 0,.row 2 ((pr).map prC) gp,.row 6 [[.ptr 3 0 0 0,(ii tk),.sl 0 1 0 W false,.sl 4 gp 0 (pr).length false,(ii lf),(ii k)]] 0]=some ((ii w1),[.row 1 ((st).map wsA) 1,.row 1 [[(ii w0)],[(ii w1)]] 0,.row 6 LG' gl',.row 4 [[.sl 2 gl' 0 (LG').length false,(ii 0),.sl 1 0 0 2 false,.fsl [] false]] 0,.row 2 ((pr).map prC) gp,.row 6 [[.ptr 3 0 0 0,(ii tk),.sl 0 1 0 W false,.sl 4 gp 0 (pr).length false,(ii lf),(ii k)]] 0]):=by
 have ha:=at_ev st w0 w1 pr tk W lf LG gl gp k hlo 1 (by omega)
 have hd:=load1_ev st w0 w1 pr tk W lf LG gl gp k w1 hlo
 obtain⟨LG',gl',h1,h2,h3⟩:=qaac st w0 w1 pr tk W lf LG gl gp k hlo hl w 1 1 w1 w1 true
 refine⟨LG',gl',h1,h2,?_⟩
 simp only[Int.ofNat_one]at ha
 have lo1:=h1.lo 6
 have hu:(evL T).call qcj [.ptr 3 0 0 0,(ii w),(ii 1),(ii 1),.fn (.func qdr) [] []] [.row 1 ((st).map wsA) 1,.row 1 [[(ii w0)],[(ii w1)]] 0,.row 6 LG gl,.row 4 [[.sl 2 gl 0 (LG).length false,(ii 0),.sl 1 0 0 2 false,.fsl [] false]] 0,.row 2 ((pr).map prC) gp,.row 6 [[.ptr 3 0 0 0,(ii tk),.sl 0 1 0 W false,.sl 4 gp 0 (pr).length false,(ii lf),(ii k)]] 0]=some (.tup [(ii w1),(bb true)],[.row 1 ((st).map wsA) 1,.row 1 [[(ii w0)],[(ii w1)]] 0,.row 6 LG' gl',.row 4 [[.sl 2 gl' 0 (LG').length false,(ii 0),.sl 1 0 0 2 false,.fsl [] false]] 0,.row 2 ((pr).map prC) gp,.row 6 [[.ptr 3 0 0 0,(ii tk),.sl 0 1 0 W false,.sl 4 gp 0 (pr).length false,(ii lf),(ii k)]] 0]):=by
  rw[qd qmg qll]
  simp only[qgf,ha,hd,h3,lo1,qk8,qea,wn,q7t,wJ,qb,wp,wD,wq,qk,wi,zgy,↓qc,↓wf,we,wa,wh,wg]
 rw[qd qzi qy8]
 simp only[qmc,hu,lo1,qk8,qea,wn,qk,wi,zgy,↓qc,↓wf,we,wa,wh,wg]
end
set_option maxRecDepth 10000
section
variable (st:List WS) (w0 w1:Nat) (pr:List (Nat×Nat)) (tk W lf:Nat) (LG:List (List AV)) (gl gp k:Nat)
theorem claim_ev (w:Int) (hlo:LogOk LG) (hl:LG.length≤1000000000) (hw:w0≤1000000) : ∃LG' gl',LogOk LG'∧LG'.length=LG.length+1 ∧
  ∃r,wsA (if w0+1≤tk then .work w0 else .arrive)=[r]∧(evL T).call qct [.ptr 5 0 0 0,(ii w)] [.row 1 ((st).map wsA) 1,.row 1 [[(ii w0)],[(ii w1)]] 0,.row 6 LG gl,.row 4 [[.sl 2 gl 0 (LG).length false,(ii 0),.sl 1 0 0 2 false,.fsl [] false]] 0,.row 2 ((pr).map prC) gp,.row 6 [[.ptr 3 0 0 0,(ii tk),.sl 0 1 0 W false,.sl 4 gp 0 (pr).length false,(ii lf),(ii k)]] 0]=some (r,[.row 1 ((st).map wsA) 1,.row 1 [[(ii ((w0+1:Nat)))],[(ii w1)]] 0,.row 6 LG' gl',.row 4 [[.sl 2 gl' 0 (LG').length false,(ii 0),.sl 1 0 0 2 false,.fsl [] false]] 0,.row 2 ((pr).map prC) gp,.row 6 [[.ptr 3 0 0 0,(ii tk),.sl 0 1 0 W false,.sl 4 gp 0 (pr).length false,(ii lf),(ii k)]] 0]):=by
 obtain⟨LG',gl',h1,h2,h3⟩:=add0_ev st w0 w1 pr tk W lf LG gl gp k w hlo hl hw
 refine⟨LG',gl',h1,h2,?_⟩
 have lo1:=h1.lo 6
 have ww:IntKind.i64.wrap (((w0+1:Nat):Int)-1)=(w0:Int):=by rw[qi (by omega) (by omega)];omega
 rw[qd qyu qxw]
 by_cases hc:w0+1≤tk
 ·have hc':((w0+1:Nat):Int)≤(tk:Int):=by omega
  have hwk:(evL T).call qfy [.ptr 5 0 0 0,(ii w0)] [.row 1 ((st).map wsA) 1,.row 1 [[(ii ((w0+1:Nat)))],[(ii w1)]] 0,.row 6 LG' gl',.row 4 [[.sl 2 gl' 0 (LG').length false,(ii 0),.sl 1 0 0 2 false,.fsl [] false]] 0,.row 2 ((pr).map prC) gp,.row 6 [[.ptr 3 0 0 0,(ii tk),.sl 0 1 0 W false,.sl 4 gp 0 (pr).length false,(ii lf),(ii k)]] 0]=some (.fn (.func qck) [] [.fptr [.ptr 5 0 0 0],.fptr [(ii w0)]],[.row 1 ((st).map wsA) 1,.row 1 [[(ii ((w0+1:Nat)))],[(ii w1)]] 0,.row 6 LG' gl',.row 4 [[.sl 2 gl' 0 (LG').length false,(ii 0),.sl 1 0 0 2 false,.fsl [] false]] 0,.row 2 ((pr).map prC) gp,.row 6 [[.ptr 3 0 0 0,(ii tk),.sl 0 1 0 W false,.sl 4 gp 0 (pr).length false,(ii lf),(ii k)]] 0]):=by
   rw[qd qzg qy6]
   simp only[qme,lo1,qk8,qea,wn,wp,wD,wq,qk,wi,ne_eq,zgy,↓qc,↓wf,we,wa,wh,wg]
  rw[if_pos hc]
  refine⟨_,rfl,?_⟩
  simp only[qil,h3,hc',ww,hwk,lo1,qk8,qea,wn,qb,qk,wi,zgy,↓qc,↓wf,we,wa,wh,wg]
 ·have hc':¬((w0+1:Nat):Int)≤(tk:Int):=by omega
  rw[if_neg hc]
  refine⟨_,rfl,?_⟩
  simp only[qil,h3,hc',lo1,qk8,qea,wn,qb,qk,wi,zgy,↓qc,↓wf,we,wa,wh,wg]
theorem work_ev (w t:Nat) (hlo:LogOk LG) (hp:pr.length≤1000000):(evL T).call qck [(ii w),.fptr [.ptr 5 0 0 0],.fptr [(ii t)]] [.row 1 ((st).map wsA) 1,.row 1 [[(ii w0)],[(ii w1)]] 0,.row 6 LG gl,.row 4 [[.sl 2 gl 0 (LG).length false,(ii 0),.sl 1 0 0 2 false,.fsl [] false]] 0,.row 2 ((pr).map prC) gp,.row 6 [[.ptr 3 0 0 0,(ii tk),.sl 0 1 0 W false,.sl 4 gp 0 (pr).length false,(ii lf),(ii k)]] 0] =
  some (.fn (.func qct) [.ptr 5 0 0 0] [],[.row 1 ((st).map wsA) 1,.row 1 [[(ii w0)],[(ii w1)]] 0,.row 6 LG gl,.row 4 [[.sl 2 gl 0 (LG).length false,(ii 0),.sl 1 0 0 2 false,.fsl [] false]] 0,.row 2 (((pr++[(t,w)])).map prC) (gp+1),.row 6 [[.ptr 3 0 0 0,(ii tk),.sl 0 1 0 W false,.sl 4 (gp+1) 0 ((pr++[(t,w)])).length false,(ii lf),(ii k)]] 0]):=by
 have bd:(pr.length+1)*16≤140737488355328:=by omega
 have hm:(pr++[(t,w)]).map prC=pr.map prC++[[(ii t),(ii w)]]:=by rw[wA];rfl
 have hl2:(pr++[(t,w)]).length=pr.length+1:=by simp
 have tkl:wL pr.length (pr.map prC)=pr.map prC:=ztl (by simp)
 have lo2:=qea 6 (pr++[(t,w)])
 have hle:pr.length≤pr.length:=wu _
 rw[hm]at lo2⊢
 rw[hl2]
 rw[qd qxs qxa]
 simp only[qko,bd,lo2,tkl,hle,zgi,qk8,hlo.lo,wn,wJ,qqk,qb,qaw,wp,wD,wq,qk,wi,ne_eq,zgy,↓qc,↓wf,we,wa,waf,wh,wC,wP,wg]
theorem qanm (w:Int) (hlo:LogOk LG) (hl:LG.length≤1000000000) (hw:w1≤1000000) : ∃LG' gl',LogOk LG'∧LG'.length=LG.length+1 ∧
  (evL T).call qcz [.ptr 5 0 0 0,(ii w)] [.row 1 ((st).map wsA) 1,.row 1 [[(ii w0)],[(ii w1)]] 0,.row 6 LG gl,.row 4 [[.sl 2 gl 0 (LG).length false,(ii 0),.sl 1 0 0 2 false,.fsl [] false]] 0,.row 2 ((pr).map prC) gp,.row 6 [[.ptr 3 0 0 0,(ii tk),.sl 0 1 0 W false,.sl 4 gp 0 (pr).length false,(ii lf),(ii k)]] 0]=some (.fn (.func qb9) [.ptr 5 0 0 0] [],[.row 1 ((st).map wsA) 1,.row 1 [[(ii w0)],[(ii ((w1+1:Nat)))]] 0,.row 6 LG' gl',.row 4 [[.sl 2 gl' 0 (LG').length false,(ii 0),.sl 1 0 0 2 false,.fsl [] false]] 0,.row 2 ((pr).map prC) gp,.row 6 [[.ptr 3 0 0 0,(ii tk),.sl 0 1 0 W false,.sl 4 gp 0 (pr).length false,(ii lf),(ii k)]] 0]):=by
 obtain⟨LG',gl',h1,h2,h3⟩:=add1w_ev st w0 w1 pr tk W lf LG gl gp k w hlo hl hw
 refine⟨LG',gl',h1,h2,?_⟩
 have lo1:=h1.lo 6
 rw[qd qx3 qxi]
 simp only[qkn,h3,lo1,qk8,qea,wn,qb,qk,wi,zgy,↓qc,↓wf,we,wa,wh,wg]
theorem wait_ev (w:Int) (hlo:LogOk LG) (hl:LG.length≤1000000000) (hlf:w1=W→1≤lf∧lf≤1000000) : ∃LG' gl',LogOk LG'∧LG'.length=LG.length+1 ∧
  ∃r,wsA (if w1=W then .done else .wait)=[r]∧(evL T).call qb9 [.ptr 5 0 0 0,(ii w)] [.row 1 ((st).map wsA) 1,.row 1 [[(ii w0)],[(ii w1)]] 0,.row 6 LG gl,.row 4 [[.sl 2 gl 0 (LG).length false,(ii 0),.sl 1 0 0 2 false,.fsl [] false]] 0,.row 2 ((pr).map prC) gp,.row 6 [[.ptr 3 0 0 0,(ii tk),.sl 0 1 0 W false,.sl 4 gp 0 (pr).length false,(ii lf),(ii k)]] 0]=some (r,[.row 1 ((st).map wsA) 1,.row 1 [[(ii w0)],[(ii w1)]] 0,.row 6 LG' gl',.row 4 [[.sl 2 gl' 0 (LG').length false,(ii 0),.sl 1 0 0 2 false,.fsl [] false]] 0,.row 2 ((pr).map prC) gp,.row 6 [[.ptr 3 0 0 0,(ii tk),.sl 0 1 0 W false,.sl 4 gp 0 (pr).length false,(ii ((if w1=W then lf-1 else lf:Nat))),(ii k)]] 0]):=by
 obtain⟨LG',gl',h1,h2,h3⟩:=load_ev st w0 w1 pr tk W lf LG gl gp k w hlo hl
 refine⟨LG',gl',h1,h2,?_⟩
 have lo1:=h1.lo 6
 rw[qd q0h qyy]
 by_cases hc:w1=W
 ·obtain⟨l1,l2⟩:=hlf hc
  have ww:IntKind.i64.wrap ((lf:Int)-1)=((lf-1:Nat):Int):=by rw[qi (by omega) (by omega)];omega
  subst hc
  rw[if_pos rfl,if_pos rfl]
  refine⟨_,rfl,?_⟩
  simp only[qjl,h3,ww,lo1,zgl,zgn,zgf,qk8,qea,wn,q46,wJ,qb,wp,wD,wq,qk,wi,ne_eq,zgy,↓qc,↓wf,we,wa,wh,wC,wg]
 ·have hc':¬(w1:Int)=(W:Int):=by omega
  rw[if_neg hc,if_neg hc]
  refine⟨_,rfl,?_⟩
  simp only[qjl,h3,hc',lo1,zgl,zgn,qk8,qea,wn,q46,qb,qk,wi,ne_eq,zgy,↓qc,↓wf,we,wa,wh,wg]
end
theorem qaho (st:List WS) (w:Nat) (h:w<st.length) (h1:qpt st[w]=false) (y:WS):qgt (st.set w y)=if qpt y=true then qgt st-1 else qgt st:=by
 have:=q3o (fun x => !qpt x) st w y h
 have hp:0<qgt st:=(q01 st).2 ⟨w,h,fun e=>by rw[e]at h1;cases h1⟩
 unfold qgt at hp⊢
 simp only[h1,Bool.not_false,if_true]at this
 cases hy:qpt y with
 |true=>rw[hy]at this;simp at this ⊢;omega
 |false=>rw[hy]at this;simp at this ⊢;omega
theorem pick_ev (p:Pool) (tk W:Nat) (I:PInv tk W p) (ht:tk≤1000) (hW:W≤1000) (w:Nat) (hw:w<W) (LG:List (List AV)) (gl gp k:Nat) (hlo:LogOk LG) (hl:LG.length≤1000000000) (hk:k≤1000000000) :
  ∃LG' gl' gp',LogOk LG'∧LG'.length≤LG.length+1∧(evL T).call qer [.ptr 5 0 0 0,(ii w)] [.row 1 ((((p).st)).map wsA) 1,.row 1 [[(ii (((p).w0)))],[(ii (((p).w1)))]] 0,.row 6 LG gl,.row 4 [[.sl 2 gl 0 (LG).length false,(ii 0),.sl 1 0 0 2 false,.fsl [] false]] 0,.row 2 ((((p).pairs)).map prC) gp,.row 6 [[.ptr 3 0 0 0,(ii tk),.sl 0 1 0 ((p).st.length) false,.sl 4 gp 0 (((p).pairs)).length false,(ii ((qgt (p).st))),(ii k)]] 0]=some (.tup [],[.row 1 (((((p.step tk w)).st)).map wsA) 1,.row 1 [[(ii ((((p.step tk w)).w0)))],[(ii ((((p.step tk w)).w1)))]] 0,.row 6 LG' gl',.row 4 [[.sl 2 gl' 0 (LG').length false,(ii 0),.sl 1 0 0 2 false,.fsl [] false]] 0,.row 2 (((((p.step tk w)).pairs)).map prC) gp',.row 6 [[.ptr 3 0 0 0,(ii tk),.sl 0 1 0 (((p.step tk w)).st.length) false,.sl 4 gp' 0 ((((p.step tk w)).pairs)).length false,(ii ((qgt ((p.step tk w)).st))),(ii ((k+1:Nat)))]] 0]):=by
 obtain⟨w0,w1,st,pairs⟩:=p
 have hlen:=I.len
 have b0:=I.w0
 have b1:=I.w1
 have bp:=I.perm.length_eq
 simp only at hlen b0 b1 bp
 have c0:=wU (p:=qacm) (l:=st)
 have c1:=wU (p:=inW) (l:=st)
 have c2:=qakj st
 simp only[zgp,zgi,List.length_range]at bp
 have hws:w<st.length:=by omega
 have hg:(st.map wsA)[w]? = some (wsA st[w]):=by rw[wm,zgE hws];rfl
 have hset : ∀y,(st.map wsA).set w (wsA y)=(st.set w y).map wsA:=fun y=>by rw[List.map_set]
 have hlf:=qaho st w hws
 have wk:IntKind.i64.wrap ((k:Int)+1)=((k+1:Nat):Int):=by rw[qi (by omega) (by omega)];simp
 unfold Pool.step
 simp only[zgE hws]
 subst hlen
 rw[qd qz0 qy1]
 cases hs:st[w]with
 |claim=>
  rw[hs]at hg hlf
  simp only[wsA]at hg
  obtain⟨LG',gl',h1,h2,r,hr,h3⟩:=claim_ev st w0 w1 pairs tk st.length (qgt st) LG gl gp (k+1) w hlo hl (by omega)
  have lo1:=h1.lo 6
  refine⟨LG',gl',gp,h1,by omega,?_⟩
  simp only
  have hdn : ∀y,qpt y=false→qgt (st.set w y)=qgt st:=fun y hy=>by rw[hlf rfl,hy];rfl
  by_cases hc:w0+1≤tk
  ·rw[if_pos hc]at hr
   simp only[hc,if_true]
   have hs2:=hset (.work w0)
   have lo2:=qk8 (st.set w (.work w0))
   rw[hr]at hs2
   rw[←hs2]at lo2⊢
   rw[hdn _ rfl,wK]
   have hrw:r = .fn (.func qck) [] [.fptr [.ptr 5 0 0 0],.fptr [(ii w0)]]:=by simp only[wsA,List.cons.injEq,and_true]at hr;exact hr.symm
   subst hrw
   simp only[qc6,wk,hg,h3,hws,lo1,lo2,zgl,zgn,qea,zgs,zgr,wn,q46,q7t,wJ,qb,wp,wD,wq,qk,wi,zgy,↓qc,↓wf,we,wa,wh,wg]
  ·rw[if_neg hc]at hr
   simp only[hc,if_false]
   have hs2:=hset .arrive
   have lo2:=qk8 (st.set w .arrive)
   rw[hr]at hs2
   rw[←hs2]at lo2⊢
   rw[hdn _ rfl,wK]
   have hrw:r = .fn (.func qcz) [.ptr 5 0 0 0] []:=by simp only[wsA,List.cons.injEq,and_true]at hr;exact hr.symm
   subst hrw
   simp only[qc6,wk,hg,h3,hws,lo1,lo2,zgl,zgn,qea,zgs,zgr,wn,q46,q7t,wJ,qb,wp,wD,wq,qk,wi,zgy,↓qc,↓wf,we,wa,wh,wg]
 |work t=>
  rw[hs]at hg hlf
  simp only[wsA]at hg
  have h3:=work_ev st w0 w1 pairs tk st.length (qgt st) LG gl gp (k+1) w t hlo (by omega)
  refine⟨LG,gl,gp+1,hlo,by omega,?_⟩
  simp only
  have hs2:=hset .claim
  have lo2:=qk8 (st.set w .claim)
  simp only[wsA]at hs2
  rw[←hs2]at lo2⊢
  rw[hlf rfl,wK]
  simp only[qpt,zfa,if_false]
  simp only[qc6,wk,hg,h3,hws,lo2,zgl,zgn,qea,hlo.lo,zgs,zgr,wn,q46,q7t,wJ,qb,wp,wD,wq,qk,wi,zgy,↓qc,↓wf,we,wa,wh,wg]
 |arrive=>
  rw[hs]at hg hlf
  simp only[wsA]at hg
  obtain⟨LG',gl',h1,h2,h3⟩:=qanm st w0 w1 pairs tk st.length (qgt st) LG gl gp (k+1) w hlo hl (by omega)
  have lo1:=h1.lo 6
  refine⟨LG',gl',gp,h1,by omega,?_⟩
  simp only
  have hs2:=hset .wait
  have lo2:=qk8 (st.set w .wait)
  simp only[wsA]at hs2
  rw[←hs2]at lo2⊢
  rw[hlf rfl,wK]
  simp only[qpt,zfa,if_false]
  simp only[qc6,wk,hg,h3,hws,lo1,lo2,zgl,zgn,qea,zgs,zgr,wn,q46,q7t,wJ,qb,wp,wD,wq,qk,wi,zgy,↓qc,↓wf,we,wa,wh,wg]
 |wait=>
  rw[hs]at hg hlf
  simp only[wsA]at hg
  have hp:0<qgt st:=(q01 st).2 ⟨w,hws,fun e=>by rw[e]at hs;cases hs⟩
  obtain⟨LG',gl',h1,h2,r,hr,h3⟩:=wait_ev st w0 w1 pairs tk st.length (qgt st) LG gl gp (k+1) w hlo hl (fun _=>by omega)
  have lo1:=h1.lo 6
  refine⟨LG',gl',gp,h1,by omega,?_⟩
  simp only
  by_cases hc:w1=st.length
  ·rw[if_pos hc]at hr
   rw[if_pos hc]at h3
   simp only[hc,if_true]
   rw[hc]at h3
   have hs2:=hset .done
   have lo2:=qk8 (st.set w .done)
   rw[hr]at hs2
   rw[←hs2]at lo2⊢
   rw[hlf rfl,wK]
   have hrw:r = .v .nilFunc:=by simp only[wsA,List.cons.injEq,and_true]at hr;exact hr.symm
   subst hrw
   simp only[qpt,if_true]
   simp only[qc6,wk,hg,h3,hws,lo1,lo2,zgl,zgn,qea,zgs,zgr,wn,q46,q7t,wJ,qb,wp,wD,wq,qk,wi,zgy,↓qc,↓wf,we,wa,wh,wg]
  ·rw[if_neg hc]at hr
   rw[if_neg hc]at h3
   simp only[hc,if_false]
   have hrw:r = .fn (.func qb9) [.ptr 5 0 0 0] []:=by simp only[wsA,List.cons.injEq,and_true]at hr;exact hr.symm
   subst hrw
   have hs2:(st.map wsA).set w [.fn (.func qb9) [.ptr 5 0 0 0] []]=st.map wsA:=by
    have:=hset .wait
    simp only[wsA]at this
    rw[this,←hs,List.set_getElem_self]
   simp only[qc6,wk,hg,h3,hws,lo1,hs2,zgl,zgn,qk8,qea,zgs,zgr,wn,q46,q7t,wJ,qb,wp,wD,wq,qk,wi,zgy,↓qc,↓wf,we,wa,wh,wg]
 |done=>
  rw[hs]at hg
  simp only[wsA]at hg
  refine⟨LG,gl,gp,hlo,by omega,?_⟩
  simp only
  simp only[qc6,wk,hg,hws,zgl,zgn,qk8,qea,hlo.lo,zgs,zgr,wn,q7t,wJ,qb,wp,wD,wq,qk,wi,zgy,↓qc,↓wf,we,wa,wh,wg]
set_option maxRecDepth 10000
def qqj (l:List Nat):List Int:=l.map fun x:Nat=>(x:Int)
theorem qako (l:List Nat):(qqj l).length=l.length:=wB ..
theorem valid_ev (tk W:Nat) (ht:tk≤64) (h1:1≤W) (h2:W≤64):qm (evL T) qjj [(ii tk),(ii W)]=some (bb true):=by
 have a1:(tk:Int)≥0:=by omega
 have a2:(tk:Int)≤64:=by omega
 have a3:(W:Int)≥1:=by omega
 have a4:(W:Int)≤64:=by omega
 rw[qm,qd q6j q5p]
 simp only[qqe,a1,a2,a3,a4,wn,qk,zgy,↓qc,↓wf,we,wa,wg]
theorem qaoc (tk W:Nat) (picks:List Nat) (c:Bool) (n:Nat) (ht:tk≤64) (h1:1≤W) (h2:W≤64) (hp : ∀x∈picks,x<W) (hpl:picks.length≤1000) (hn:Fin tk W picks n) :
  qm (evL T) qgz [(ii tk),(ii W),(.fsl (((qqj picks)).map qy) c)]=some (.tup [.fsl ((qdc tk W picks n).pairs.map prC) false,(ii n)]):=by
 have hnb:n≤1000+64*(2*64+3*64):=by
  have:=hn.bound
  have:W*(2*tk+3*W)≤64*(2*64+3*64):=Nat.mul_le_mul h2 (by omega)
  omega
 have hL : ∃y,itB (exec (evL T) itL none qhk) (qu [1,2,8,9] true 6) ⟨[(1,(ii W)),(2,(.fsl (((qqj picks)).map qy) c)),(8,.ptr 5 0 0 0),(9,(ii ((0:Nat))))],[]⟩ [.row 1 (((((qdc tk W picks 0)).st)).map wsA) 1,.row 1 [[(ii ((((qdc tk W picks 0)).w0)))],[(ii ((((qdc tk W picks 0)).w1)))]] 0,.row 6 ([]:List (List AV)) 0,.row 4 [[.sl 2 0 0 (([]:List (List AV))).length false,(ii 0),.sl 1 0 0 2 false,.fsl [] false]] 0,.row 2 (((((qdc tk W picks 0)).pairs)).map prC) 0,.row 6 [[.ptr 3 0 0 0,(ii tk),.sl 0 1 0 (((qdc tk W picks 0)).st.length) false,.sl 4 0 0 ((((qdc tk W picks 0)).pairs)).length false,(ii ((qgt ((qdc tk W picks 0)).st))),(ii ((0:Nat)))]] 0]=some y ∧
   ∃LG gl gp,LogOk LG∧y.1 = .exit 0∧y.2.1.marks=[]∧y.2.2=[.row 1 (((((qdc tk W picks n)).st)).map wsA) 1,.row 1 [[(ii ((((qdc tk W picks n)).w0)))],[(ii ((((qdc tk W picks n)).w1)))]] 0,.row 6 LG gl,.row 4 [[.sl 2 gl 0 (LG).length false,(ii 0),.sl 1 0 0 2 false,.fsl [] false]] 0,.row 2 (((((qdc tk W picks n)).pairs)).map prC) gp,.row 6 [[.ptr 3 0 0 0,(ii tk),.sl 0 1 0 (((qdc tk W picks n)).st.length) false,.sl 4 gp 0 ((((qdc tk W picks n)).pairs)).length false,(ii ((qgt ((qdc tk W picks n)).st))),(ii n)]] 0]∧wr y.2.1.vars 8=some (.ptr 5 0 0 0):=by
  have key:=qcq (f:=exec (evL T) itL none qhk) (s:=qu [1,2,8,9] true 6) (α:=List (List AV)×Nat×Nat)
   (fun i _=>⟨[(1,(ii W)),(2,(.fsl (((qqj picks)).map qy) c)),(8,.ptr 5 0 0 0),(9,(ii i))],[]⟩) (fun i a=>[.row 1 (((((qdc tk W picks i)).st)).map wsA) 1,.row 1 [[(ii ((((qdc tk W picks i)).w0)))],[(ii ((((qdc tk W picks i)).w1)))]] 0,.row 6 (a.1) a.2.1,.row 4 [[.sl 2 a.2.1 0 ((a.1)).length false,(ii 0),.sl 1 0 0 2 false,.fsl [] false]] 0,.row 2 (((((qdc tk W picks i)).pairs)).map prC) a.2.2,.row 6 [[.ptr 3 0 0 0,(ii tk),.sl 0 1 0 (((qdc tk W picks i)).st.length) false,.sl 4 a.2.2 0 ((((qdc tk W picks i)).pairs)).length false,(ii ((qgt ((qdc tk W picks i)).st))),(ii i)]] 0]) (fun i a=>LogOk a.1∧a.1.length≤i) n
   (fun y => ∃LG gl gp,LogOk LG∧y.1 = .exit 0∧y.2.1.marks=[]∧y.2.2=[.row 1 (((((qdc tk W picks n)).st)).map wsA) 1,.row 1 [[(ii ((((qdc tk W picks n)).w0)))],[(ii ((((qdc tk W picks n)).w1)))]] 0,.row 6 LG gl,.row 4 [[.sl 2 gl 0 (LG).length false,(ii 0),.sl 1 0 0 2 false,.fsl [] false]] 0,.row 2 (((((qdc tk W picks n)).pairs)).map prC) gp,.row 6 [[.ptr 3 0 0 0,(ii tk),.sl 0 1 0 (((qdc tk W picks n)).st.length) false,.sl 4 gp 0 ((((qdc tk W picks n)).pairs)).length false,(ii ((qgt ((qdc tk W picks n)).st))),(ii n)]] 0]∧wr y.2.1.vars 8=some (.ptr 5 0 0 0)) ?_ ?_ 0 ([],0,0) (waa _) ⟨⟨fun _=>rfl,rfl⟩,wu _⟩
  ·exact key
  ·rintro i ⟨LG,gl,gp⟩ hi ⟨hlo,hll⟩
   simp only at hlo hll⊢
   have I:=q06 (T:=tk) (picks:=picks) h1 i
   have hlt:=hn.first i hi
   have hpk:qfc picks W i<W:=by
    unfold qfc;split
    next hl=>rw[List.getD_eq_getElem?_getD,zgE hl];exact hp _ (wac hl)
    next=>exact Nat.mod_lt _ (by omega)
   obtain⟨LG',gl',gp',a1,a2,a3⟩:=pick_ev (qdc tk W picks i) tk W I (by omega) (by omega) (qfc picks W i) hpk LG gl gp i hlo (by omega) (by omega)
   have hw:IntKind.i64.wrap ((i:Int)+1)=((i+1:Nat):Int):=by rw[qi (by omega) (by omega)];simp
   have hlf:((qgt (qdc tk W picks i).st:Nat):Int)>0:=by omega
   have lo1:=a1.lo 6
   have hll2:((qqj picks).map qy).length=picks.length:=by rw[wB,qako]
   refine .inl ⟨(LG',gl',gp'),?_,a1,by simp only;omega⟩
   simp only
   change _=some (Sum.inl (_,([.row 1 ((((((qdc tk W picks i).step tk (qfc picks W i))).st)).map wsA) 1,.row 1 [[(ii (((((qdc tk W picks i).step tk (qfc picks W i))).w0)))],[(ii (((((qdc tk W picks i).step tk (qfc picks W i))).w1)))]] 0,.row 6 LG' gl',.row 4 [[.sl 2 gl' 0 (LG').length false,(ii 0),.sl 1 0 0 2 false,.fsl [] false]] 0,.row 2 ((((((qdc tk W picks i).step tk (qfc picks W i))).pairs)).map prC) gp',.row 6 [[.ptr 3 0 0 0,(ii tk),.sl 0 1 0 ((((qdc tk W picks i).step tk (qfc picks W i))).st.length) false,.sl 4 gp' 0 (((((qdc tk W picks i).step tk (qfc picks W i))).pairs)).length false,(ii ((qgt (((qdc tk W picks i).step tk (qfc picks W i))).st))),(ii ((i+1:Nat)))]] 0]:qj)))
   by_cases hil:i<picks.length
   ·have hc:(i:Int)<(picks.length:Int):=by omega
    have hg:((qqj picks).map qy)[i]? = some [(ii ((qfc picks W i:Nat)))]:=by
     unfold qfc qqj
     rw[if_pos hil,List.getD_eq_getElem?_getD,wm,wm,zgE hil];rfl
    simp only[qhk,hlf,hll2,hc,hg,a3,hw,lo1,qk8,qea,zgs,zgr,qg,wn,qb,wi,zgy,↓qc,↓wf,wa,wh]
   ·have hc:¬(i:Int)<(picks.length:Int):=by omega
    have hw2:IntKind.i64.wrap ((i:Int)-(picks.length:Int))=((i-picks.length:Nat):Int):=by rw[qi (by omega) (by omega)];omega
    have hW0:¬(W:Int)=0:=by omega
    have hm:(((i-picks.length:Nat):Int)).tmod (W:Int)=((qfc picks W i:Nat):Int):=by
     unfold qfc
     rw[if_neg hil,Int.tmod_eq_emod_of_nonneg (by omega)];rfl
    simp only[qhk,hlf,hll2,hc,hw2,hW0,hm,a3,hw,lo1,qk8,qea,qg,wn,qb,wi,zgy,↓qc,↓wf,wa,wh]
  ·rintro⟨LG,gl,gp⟩ ⟨hlo,hll⟩
   simp only at hlo hll⊢
   have hs:=hn.stop
   rw[hs]
   simp only[qhk,gt_iff_lt,Int.lt_irrefl,wn,qb,zgy,↓qc,↓wf,wa]
   exact⟨_,rfl,LG,gl,gp,hlo,rfl,rfl,rfl,rfl⟩
 obtain⟨⟨y,e,σ⟩,k1,LG,gl,gp,hlo,k2,k3,k4,k5⟩:=hL
 simp only at k1 k2 k3 k4 k5
 subst k2;subst k4
 have hst:=qanv tk W h1 h2
 have hv:=valid_ev tk W ht h1 h2
 have e0:qdc tk W picks 0=Pool.start W:=rfl
 have h64:((64:Nat):Int)=64:=rfl
 have l0:qgt (wc W WS.claim)=W:=by unfold qgt;rw[List.countP_eq_length.2 (fun a ha=>by rw[wF ha];rfl),wV]
 rw[e0]at k1
 simp only[Pool.start,l0,wV,wQ,wI,zgb]at k1
 have lr:=qk8 (wc W WS.claim)
 have im:qhj 0 ((wc W WS.claim).map wsA)=(wc W WS.claim).map wsA:=qaae (fun x=>by cases x<;>simp only[wsA,qhy,AV.shift,Nat.add_zero]) _
 have tk1:wL ((qdc tk W picks n).pairs.length) ((qdc tk W picks n).pairs.map prC)=(qdc tk W picks n).pairs.map prC:=ztl (by simp)
 have hle : ∀m:Nat,m≤m:=fun m=>wu m
 rw[qm,qd q4y q23]
 generalize (wc W WS.claim).map wsA=R at *
 simp only[qo9,hv,hst,k1,k3,k5,im,lr,tk1,hle,AV.shift,qhy,qhj,wI,zgi,qea,qg,wn,q3y,qb,qk,wi,zgy,↓qc,↓qq,↓wf,we,wa,wh,wg]
set_option maxRecDepth 10000
def qof {α:Type} (n:Nat) (d:List Nat) (A B:Nat→α):List α:=(wx n).map fun i=>if i∈d then A i else B i
section
variable {α:Type} (n:Nat) (d:List Nat) (A B:Nat→α)
theorem qqf:(qof n d A B).length=n:=by simp[qof]
theorem qrj {i:Nat} (hi:i<n):(qof n d A B)[i]? = some (if i∈d then A i else B i):=by
 unfold qof;rw[wm,wv hi];rfl
theorem qve {i:Nat} (hi:i<n):(qof n d A B).set i (A i)=qof n (d++[i]) A B:=by
 refine wH fun j => ?_
 by_cases hj:j<n
 ·rw[qrj n (d++[i]) A B hj]
  by_cases e:i=j
  ·subst e
   rw[List.getElem?_set_self (by rw[qqf];exact hi),if_pos (by simp)]
  ·rw[wZ e,qrj n d A B hj]
   have:j∈d++[i]↔j∈d:=by simp;omega
   simp only[this]
 ·rw[wj (by rw[wK,qqf];omega),wj (by rw[qqf];omega)]
theorem qvf:qof n [] A B=(wx n).map B:=by simp[qof]
theorem qu3 (h : ∀i,i<n→i∈d):qof n d A B=(wx n).map A:=by
 unfold qof
 refine List.map_congr_left fun i hi => ?_
 rw[if_pos (h i (wE.1 hi))]
end
theorem qqd (k n:Nat) (d:List Nat) (A B:Nat→List AV) (hA : ∀i,los k (A i)=true) (hB : ∀i,los k (B i)=true):qb4 k (qof n d A B)=true:=by
 unfold qof
 refine qjs (fun i => ?_) _
 split
 ·exact hA i
 ·exact hB i
def flag (c:Cfg) (i:Nat):Bool:=(((qhf c.lps)[i]?).map Prod.snd).getD false
def qhe (c:Cfg) (s:Sim):List (Lp×Bool):=(wx c.lps.length).map fun i:Nat=>(qn1 s i,flag c i)
def plC (p:List (Nat×Nat)):List AV:=[.fsl (p.map prC) false]
theorem plC_lo (n:Nat) (p:List (Nat×Nat)):los n (plC p)=true:=by simp only[plC,qea,wn,zgy]
theorem plC_pl (p:List (Nat×Nat)):(plC p).length=1∧qfb (plC p)=true:=⟨rfl,rfl⟩
theorem qoe (n:Nat) (l:List (List (Nat×Nat))):qb4 n (l.map plC)=true:=qjs (plC_lo n) l
theorem qane (l:List (List (Nat×Nat))):qbs 1 (l.map plC)=true:=qpn plC_pl l
section
variable {c:Cfg} {s:Sim} {h:List Evt} {f hor:Int}
theorem StF.trace_eq {L:List (Lp×Bool)} (F:StF c s h L):s.trace=(wx c.lps.length).map fun i:Nat=>qjx s i:=by
 refine wH fun i => ?_
 rw[wm]
 by_cases hi:i<c.lps.length
 ·rw[wv hi,F.inv.tr i hi]
  simp only[zgt,qjx,zgr,F.inv.tr i hi,wR]
 ·rw[wj (by rw[F.inv.trl];omega),wj (by simp;omega)];rfl
theorem StF.flagAt (F:StF c s h (qhe c s)) {i:Nat} (hi:i<c.lps.length):s.lps[i]? = some (qn1 s i)∧(flag c i=true→(qn1 s i).procs=[]):=by
 obtain⟨x,xf,h1,h2,h3⟩:=F.at hi
 have hx:qn1 s i=x:=by unfold qn1;rw[wG,h2];rfl
 have h4:(qhe c s)[i]? = some (qn1 s i,flag c i):=by unfold qhe;rw[wm,wv hi];rfl
 rw[h4]at h1
 cases h1
 exact⟨h2,h3⟩
theorem StF.proc (F:StF c s h (qhe c s)) {i:Nat} (hi:i<c.lps.length) :
  qm (evL T) qg1 [(.agg [(.fsl ((c.lps).map lpC) false),(.fsl ((c.progs).map qau) false),(ii c.look),(ii c.fin),(ii c.cap)]),(.agg [(ii ((qn1 s i).r0)),(ii ((qn1 s i).r1)),(.fsl (((qn1 s i).procs).map Pr.r) (flag c i)),(ii ((qn1 s i).sum))]),(.fsl (((sortL (qao s.pend i))).map Evt.r) false),(ii hor)]=some (.tup [(.agg [(ii ((wAt c s hor i).lp.r0)),(ii ((wAt c s hor i).lp.r1)),(.fsl (((wAt c s hor i).lp.procs).map Pr.r) (flag c i)),(ii ((wAt c s hor i).lp.sum))]),(.fsl (((wAt c s hor i).box).map Evt.r) false),(.fsl (((wAt c s hor i).done).map Evt.r) false),(.fsl (((wAt c s hor i).sent).map Evt.r) false),(bb ((wAt c s hor i).over))]):=by
 obtain⟨h1,h2⟩:=F.flagAt hi
 unfold wAt
 exact qak6 hor (f:=flag c i) (cb:=false) (F.winv hi h1) h2 (by have:=F.len;omega)
def qim (P:List (Nat×Nat)):List Nat:=P.map Prod.fst
theorem next_L (F:StF c s h (qhe c s)) (P:List (Nat×Nat)) (hP:(qim P).Perm (wx c.lps.length)) (cp:Bool) (fl:List Int) (pl:List (List (Nat×Nat))) :
  ∃y,itB (exec (evL T) itL none qhc) (qu [2,3,4,5,8,9,10,11,40,41,42] true 6) ⟨[(2,(ii f)),(3,.fsl (P.map prC) cp),(4,.fptr [(.fsl (((s).trace).map qf) false),(.fsl (((qhe c s)).map lpF) false),(.fsl (((qab (c).lps.length (s).pend)).map qf) false),(bb ((s).over)),(.fsl ((fl).map qy) false),(.fsl ((pl).map plC) false)]),(5,(.fptr [(.fsl ((c.lps).map lpC) false),(.fsl ((c.progs).map qau) false),(ii c.look),(ii c.fin),(ii c.cap)])),(8,.ptr 0 0 0 0),(9,(ii hor)),(10,.ptr 1 0 0 0),(11,.sl 5 0 0 c.lps.length true),(40,.fsl (P.map prC) cp),(41,(ii P.length)),(42,(ii ((0:Nat))))],[]⟩ [.row 6 [[.fsl [] false,.fsl [] false,.fsl [] false,.v (.bool false),.fsl [] false,.fsl [] false]] 0,.row 6 [[.sl 2 0 0 c.lps.length false,.sl 3 0 0 c.lps.length false,.sl 4 0 0 c.lps.length false,(bb ((s.over||(([]:List Nat)).any (fun i=>(wAt c s hor i).over)))),(.fsl ((fl).map qy) false),(.fsl ((pl).map plC) false)]] 0,.row 1 (qof c.lps.length ([]:List Nat) (fun i:Nat=>qf (qjx s i++(wAt c s hor i).done)) (fun i:Nat=>qf (qjx s i))) 0,.row 4 (qof c.lps.length ([]:List Nat) (fun i=>lpF ((wAt c s hor i).lp,flag c i)) (fun i:Nat=>lpF (qn1 s i,flag c i))) 0,.row 1 (qof c.lps.length ([]:List Nat) (fun i=>qf (wAt c s hor i).box) (fun i=>qf (sortL (qao s.pend i)))) 0,.row 1 (qof c.lps.length ([]:List Nat) (fun i=>qf (wAt c s hor i).sent) (fun _=>qf [])) 0]=some y ∧
   (y.1 = .exit 0∧y.2.1.marks=[]∧y.2.2=[.row 6 [[.fsl [] false,.fsl [] false,.fsl [] false,.v (.bool false),.fsl [] false,.fsl [] false]] 0,.row 6 [[.sl 2 0 0 c.lps.length false,.sl 3 0 0 c.lps.length false,.sl 4 0 0 c.lps.length false,(bb ((s.over||((qim P)).any (fun i=>(wAt c s hor i).over)))),(.fsl ((fl).map qy) false),(.fsl ((pl).map plC) false)]] 0,.row 1 (qof c.lps.length (qim P) (fun i:Nat=>qf (qjx s i++(wAt c s hor i).done)) (fun i:Nat=>qf (qjx s i))) 0,.row 4 (qof c.lps.length (qim P) (fun i=>lpF ((wAt c s hor i).lp,flag c i)) (fun i:Nat=>lpF (qn1 s i,flag c i))) 0,.row 1 (qof c.lps.length (qim P) (fun i=>qf (wAt c s hor i).box) (fun i=>qf (sortL (qao s.pend i)))) 0,.row 1 (qof c.lps.length (qim P) (fun i=>qf (wAt c s hor i).sent) (fun _=>qf [])) 0]∧wr y.2.1.vars 2=some (ii f)∧wr y.2.1.vars 3=some (.fsl (P.map prC) cp)∧wr y.2.1.vars 4=some (.fptr [(.fsl (((s).trace).map qf) false),(.fsl (((qhe c s)).map lpF) false),(.fsl (((qab (c).lps.length (s).pend)).map qf) false),(bb ((s).over)),(.fsl ((fl).map qy) false),(.fsl ((pl).map plC) false)])∧wr y.2.1.vars 8=some (.ptr 0 0 0 0)∧wr y.2.1.vars 10=some (.ptr 1 0 0 0)∧wr y.2.1.vars 11=some (.sl 5 0 0 c.lps.length true)):=by
 have hv8:=F.inv.valid.lps.2
 have hpl:P.length=c.lps.length:=by have:=hP.length_eq;simp[qim]at this;exact this
 have key:=qcq (f:=exec (evL T) itL none qhc) (s:=qu [2,3,4,5,8,9,10,11,40,41,42] true 6) (α:=Unit)
  (fun k _=>⟨[(2,(ii f)),(3,.fsl (P.map prC) cp),(4,.fptr [(.fsl (((s).trace).map qf) false),(.fsl (((qhe c s)).map lpF) false),(.fsl (((qab (c).lps.length (s).pend)).map qf) false),(bb ((s).over)),(.fsl ((fl).map qy) false),(.fsl ((pl).map plC) false)]),(5,(.fptr [(.fsl ((c.lps).map lpC) false),(.fsl ((c.progs).map qau) false),(ii c.look),(ii c.fin),(ii c.cap)])),(8,.ptr 0 0 0 0),(9,(ii hor)),(10,.ptr 1 0 0 0),(11,.sl 5 0 0 c.lps.length true),(40,.fsl (P.map prC) cp),(41,(ii P.length)),(42,(ii k))],[]⟩) (fun k _=>[.row 6 [[.fsl [] false,.fsl [] false,.fsl [] false,.v (.bool false),.fsl [] false,.fsl [] false]] 0,.row 6 [[.sl 2 0 0 c.lps.length false,.sl 3 0 0 c.lps.length false,.sl 4 0 0 c.lps.length false,(bb ((s.over||((qim (P.take k))).any (fun i=>(wAt c s hor i).over)))),(.fsl ((fl).map qy) false),(.fsl ((pl).map plC) false)]] 0,.row 1 (qof c.lps.length (qim (P.take k)) (fun i:Nat=>qf (qjx s i++(wAt c s hor i).done)) (fun i:Nat=>qf (qjx s i))) 0,.row 4 (qof c.lps.length (qim (P.take k)) (fun i=>lpF ((wAt c s hor i).lp,flag c i)) (fun i:Nat=>lpF (qn1 s i,flag c i))) 0,.row 1 (qof c.lps.length (qim (P.take k)) (fun i=>qf (wAt c s hor i).box) (fun i=>qf (sortL (qao s.pend i)))) 0,.row 1 (qof c.lps.length (qim (P.take k)) (fun i=>qf (wAt c s hor i).sent) (fun _=>qf [])) 0]) (fun _ _=>True) P.length
  (fun y=>y.1 = .exit 0∧y.2.1.marks=[]∧y.2.2=[.row 6 [[.fsl [] false,.fsl [] false,.fsl [] false,.v (.bool false),.fsl [] false,.fsl [] false]] 0,.row 6 [[.sl 2 0 0 c.lps.length false,.sl 3 0 0 c.lps.length false,.sl 4 0 0 c.lps.length false,(bb ((s.over||((qim P)).any (fun i=>(wAt c s hor i).over)))),(.fsl ((fl).map qy) false),(.fsl ((pl).map plC) false)]] 0,.row 1 (qof c.lps.length (qim P) (fun i:Nat=>qf (qjx s i++(wAt c s hor i).done)) (fun i:Nat=>qf (qjx s i))) 0,.row 4 (qof c.lps.length (qim P) (fun i=>lpF ((wAt c s hor i).lp,flag c i)) (fun i:Nat=>lpF (qn1 s i,flag c i))) 0,.row 1 (qof c.lps.length (qim P) (fun i=>qf (wAt c s hor i).box) (fun i=>qf (sortL (qao s.pend i)))) 0,.row 1 (qof c.lps.length (qim P) (fun i=>qf (wAt c s hor i).sent) (fun _=>qf [])) 0]∧wr y.2.1.vars 2=some (ii f)∧wr y.2.1.vars 3=some (.fsl (P.map prC) cp)∧wr y.2.1.vars 4=some (.fptr [(.fsl (((s).trace).map qf) false),(.fsl (((qhe c s)).map lpF) false),(.fsl (((qab (c).lps.length (s).pend)).map qf) false),(bb ((s).over)),(.fsl ((fl).map qy) false),(.fsl ((pl).map plC) false)])∧wr y.2.1.vars 8=some (.ptr 0 0 0 0)∧wr y.2.1.vars 10=some (.ptr 1 0 0 0)∧wr y.2.1.vars 11=some (.sl 5 0 0 c.lps.length true)) ?_ ?_ 0 () (waa _) trivial
 ·exact key
 ·rintro k _ hk _
  obtain⟨⟨i,wk⟩,hi⟩ : ∃x,P[k]? = some x:=⟨_,zgE hk⟩
  have him:i∈qim P:=wM.2 ⟨_,zmg hi,rfl⟩
  have hin:i<c.lps.length:=wE.1 (hP.mem_iff.1 him)
  have hnd:(qim P).Nodup:=hP.nodup_iff.2 List.nodup_range
  have hnx:qim (P.take (k+1))=qim (P.take k)++[i]:=by unfold qim;rw[List.take_add_one,hi,wA];rfl
  have hni:i∉qim (P.take k):=by
   have hs:(qim (P.take (k+1))).Nodup:=hnd.sublist (by unfold qim;exact(List.take_sublist _ _).map _)
   rw[hnx,List.nodup_append]at hs
   exact fun hm=>hs.2.2 i hm i (by simp) rfl
  have hpr:=F.proc (hor:=hor) hin
  obtain⟨hs1,hs2⟩:=F.flagAt hin
  have hk':(k:Int)<(P.length:Int):=by omega
  have hw:IntKind.i64.wrap ((k:Int)+1)=((k+1:Nat):Int):=by rw[qi (by omega) (by omega)];simp
  have hgp:(P.map prC)[k]? = some [(ii i),(ii wk)]:=by rw[wm,hi];rfl
  have hgl:((qhe c s).map lpF)[i]? = some (lpF (qn1 s i,flag c i)):=by rw[wm];unfold qhe;rw[wm,wv hin];rfl
  have hgb:((qab c.lps.length s.pend).map qf)[i]? = some (qf (sortL (qao s.pend i))):=by rw[wm,qah7 _ _ hin];rfl
  have hgt:((qof c.lps.length (qim (P.take k)) (fun i:Nat=>qf (qjx s i++(wAt c s hor i).done)) (fun i:Nat=>qf (qjx s i))))[i]? = some (qf (qjx s i)):=by rw[qrj _ _ _ _ hin,if_neg hni]
  have hg2:((qof c.lps.length (qim (P.take k)) (fun i=>lpF ((wAt c s hor i).lp,flag c i)) (fun i:Nat=>lpF (qn1 s i,flag c i))))[i]? = some (lpF (qn1 s i,flag c i)):=by rw[qrj _ _ _ _ hin,if_neg hni]
  have hg3:((qof c.lps.length (qim (P.take k)) (fun i=>qf (wAt c s hor i).box) (fun i=>qf (sortL (qao s.pend i)))))[i]? = some (qf (sortL (qao s.pend i))):=by rw[qrj _ _ _ _ hin,if_neg hni]
  have hg4:((qof c.lps.length (qim (P.take k)) (fun i=>qf (wAt c s hor i).sent) (fun _=>qf [])))[i]? = some (qf []):=by rw[qrj _ _ _ _ hin,if_neg hni]
  have st1:=qve c.lps.length (qim (P.take k)) (fun i:Nat=>qf (qjx s i++(wAt c s hor i).done)) (fun i:Nat=>qf (qjx s i)) hin
  have st2:=qve c.lps.length (qim (P.take k)) (fun i=>lpF ((wAt c s hor i).lp,flag c i)) (fun i:Nat=>lpF (qn1 s i,flag c i)) hin
  have st3:=qve c.lps.length (qim (P.take k)) (fun i=>qf (wAt c s hor i).box) (fun i=>qf (sortL (qao s.pend i))) hin
  have st4:=qve c.lps.length (qim (P.take k)) (fun i=>qf (wAt c s hor i).sent) (fun _=>qf []) hin
  have lo1:=qqd 6 c.lps.length (qim (P.take k)++[i]) (fun i:Nat=>qf (qjx s i++(wAt c s hor i).done)) (fun i:Nat=>qf (qjx s i)) (fun _=>qmi _ _) (fun _=>qmi _ _)
  have lo2:=qqd 6 c.lps.length (qim (P.take k)++[i]) (fun i=>lpF ((wAt c s hor i).lp,flag c i)) (fun i:Nat=>lpF (qn1 s i,flag c i)) (fun _=>qaig _ _) (fun _=>qaig _ _)
  have lo3:=qqd 6 c.lps.length (qim (P.take k)++[i]) (fun i=>qf (wAt c s hor i).box) (fun i=>qf (sortL (qao s.pend i))) (fun _=>qmi _ _) (fun _=>qmi _ _)
  have lo4:=qqd 6 c.lps.length (qim (P.take k)++[i]) (fun i=>qf (wAt c s hor i).sent) (fun _=>qf []) (fun _=>qmi _ _) (fun _=>qmi _ _)
  have l1:=qqf c.lps.length (qim (P.take k)) (fun i:Nat=>qf (qjx s i++(wAt c s hor i).done)) (fun i:Nat=>qf (qjx s i))
  have l2:=qqf c.lps.length (qim (P.take k)) (fun i=>lpF ((wAt c s hor i).lp,flag c i)) (fun i:Nat=>lpF (qn1 s i,flag c i))
  have l3:=qqf c.lps.length (qim (P.take k)) (fun i=>qf (wAt c s hor i).box) (fun i=>qf (sortL (qao s.pend i)))
  have l4:=qqf c.lps.length (qim (P.take k)) (fun i=>qf (wAt c s hor i).sent) (fun _=>qf [])
  have htl:(qjx s i).length≤30:=by
   have:qjx s i=qao h i:=by unfold qjx;rw[wG,F.inv.tr i hin];rfl
   rw[this];have:=List.length_filter_le (fun e:Evt=>decide (e.lp=i)) h;have:=F.len;unfold qao;omega
  have hdl:(wAt c s hor i).done.length≤2000:=by obtain⟨_,es,_,hd,hel⟩:=F.wAt_inv hor hin;rw[hd];exact hel
  obtain⟨g,hcc⟩:=q5q [qjx s i,(wAt c s hor i).done] true (by simp) (by simp;omega) (by simp)
  have hcat:qm (evL T) qn [.fsl [qf (qjx s i),qf (wAt c s hor i).done] true]=some (.fsl (((qjx s i++(wAt c s hor i).done)).map Evt.r) false):=by
   simp only[wN,wI,wW,List.flatten_nil,zgn]at hcc
   have tk:wL (qjx s i++(wAt c s hor i).done).length ((qjx s i++(wAt c s hor i).done).map Evt.r)=(qjx s i++(wAt c s hor i).done).map Evt.r:=ztl (by rw[wB];exact wu _)
   have hl:(qjx s i++(wAt c s hor i).done).length≤((qjx s i++(wAt c s hor i).done).map Evt.r).length:=by rw[wB];exact wu _
   rw[qm,hcc]
   generalize qjx s i++(wAt c s hor i).done=Q at *
   have lq:=qh 0 Q
   simp only[tk,lq,zfd,wn,zgy,↓qc,↓wf]
  refine .inl ⟨(),?_,trivial⟩
  rw[hnx,List.any_append,←Bool.or_assoc,List.any_cons,List.any_nil,Bool.or_false]
  rw[←st1]at lo1⊢
  rw[←st2]at lo2⊢
  rw[←st3]at lo3⊢
  rw[←st4]at lo4⊢
  have lob : ∀n,qb4 n ((sortL (qao s.pend i)).map Evt.r)=true:=fun n=>qh _ _
  have loT:=qan 6 s.trace
  have loB:=qan 6 (qab c.lps.length s.pend)
  have loL:=qhl 6 (qhe c s)
  have loP:=qea 6 P
  have loF:=qg 6 fl
  have loQ:=qoe 6 pl
  clear st1 st2 st3 st4 hcc hdl htl hs1 hs2 hni hnd him hi hnx
  generalize (s.over||(qim (P.take k)).any (fun i=>(wAt c s hor i).over))=OV at *
  generalize (qof c.lps.length (qim (P.take k)) (fun i:Nat=>qf (qjx s i++(wAt c s hor i).done)) (fun i:Nat=>qf (qjx s i)))=X1 at *
  generalize (qof c.lps.length (qim (P.take k)) (fun i=>lpF ((wAt c s hor i).lp,flag c i)) (fun i:Nat=>lpF (qn1 s i,flag c i)))=X2 at *
  generalize (qof c.lps.length (qim (P.take k)) (fun i=>qf (wAt c s hor i).box) (fun i=>qf (sortL (qao s.pend i))))=X3 at *
  generalize (qof c.lps.length (qim (P.take k)) (fun i=>qf (wAt c s hor i).sent) (fun _=>qf []))=X4 at *
  generalize s.trace.map qf=TM at *
  generalize (qab c.lps.length s.pend).map qf=BM at *
  generalize (qhe c s).map lpF=LM at *
  generalize fl.map qy=FM at *
  generalize pl.map plC=QM at *
  generalize sortL (qao s.pend i)=bi at *
  generalize wAt c s hor i=w at *
  generalize hlp:qn1 s i=lpi at *
  generalize hfg:flag c i=fg at *
  simp only[lpF]at hgl hg2 lo2⊢
  simp only[qf]at hgb hgt hg3 hg4 hcat lo1 lo3 lo4⊢
  obtain⟨wlp,wb,wd,ws,wo⟩:=w
  simp only at hpr hcat lo1 lo2 lo3 lo4⊢
  have r2 : ∀x:List AV,wc 2 x=[x,x]:=fun _=>rfl
  have lot : ∀n,qb4 n ((qjx s i).map Evt.r)=true:=fun n=>qh _ _
  have loQ2 : ∀n,qb4 n ((qjx s i++wd).map Evt.r)=true:=fun n=>qh _ _
  generalize qjx s i++wd=Q at *
  cases OV <;>
  simp only[qhc,r2,lot,hk',hw,hgp,hgl,hgb,hgt,hg2,hg3,hg4,hpr,hcat,lo1,lo2,lo3,lo4,hin,lob,loT,loB,loL,loP,loF,loQ,qzs,qai8,zgs,zgr,qh,qax,qv,qr,wn,wJ,qb,wp,wD,wq,wi,Ev.AV.obj?,ne_eq,zgy,↓qc,↓wf,we,wa,Nat.reduceBEq,waf,wh,wC,wP,Int.reduceLE,Int.reduceToNat]
 ·rintro _ _
  rw[List.take_length]
  have lo1:=qqd 6 c.lps.length (qim P) (fun i:Nat=>qf (qjx s i++(wAt c s hor i).done)) (fun i:Nat=>qf (qjx s i)) (fun _=>qmi _ _) (fun _=>qmi _ _)
  simp only[qhc,Int.lt_irrefl,wn,zgy,↓qc,↓wf,wa]
  exact⟨_,rfl,rfl,rfl,rfl,rfl,rfl,rfl,rfl,rfl,rfl⟩
end
set_option maxRecDepth 10000
def q99 (c:Cfg) (f:Int):Int:=f+q5s c.look (c.fin-f)
section
variable {c:Cfg} {s:Sim} {h:List Evt} {f:Int}
theorem qaeh (n:Nat) (l:List Evt):(qab n l).map qf=(wx n).map fun i:Nat=>qf (sortL (qao l i)):=by unfold qab;rw[wad];rfl
theorem qaj4 (hor:Int) {i:Nat} (hi:i<c.lps.length):qn1 (qha c s hor) i=(wAt c s hor i).lp:=by
 unfold qn1 qha;simp only[zgr];rw[wm,wv hi];rfl
theorem qahq (hor:Int):(qhe c (qha c s hor)).map lpF=(wx c.lps.length).map fun i:Nat=>lpF ((wAt c s hor i).lp,flag c i):=by
 unfold qhe;rw[wad]
 refine List.map_congr_left fun i hi => ?_
 simp only[Function.comp,qaj4 hor (wE.1 hi)]
theorem qaep (hor:Int):(qha c s hor).trace.map qf=(wx c.lps.length).map fun i:Nat=>qf (qjx s i++(wAt c s hor i).done):=by
 unfold qha;simp only;rw[wad];rfl
theorem next_over (hor:Int) (P:List (Nat×Nat)) (hP:(qim P).Perm (wx c.lps.length)):(qha c s hor).over=(s.over||(qim P).any (fun i=>(wAt c s hor i).over)):=by
 unfold qha;simp only
 rw[Bool.eq_iff_iff]
 simp only[Bool.or_eq_true,List.any_eq_true]
 refine or_congr Iff.rfl ⟨fun⟨x,h1,h2⟩=>⟨x,hP.mem_iff.2 h1,h2⟩,fun⟨x,h1,h2⟩=>⟨x,hP.mem_iff.1 h1,h2⟩⟩
theorem qanz (l:List Int) (cl:Bool):qm (evL T) qeb [(.fsl ((l).map qy) cl)]=some (.fsl ((l).map qy) true):=by
 have hl:(l.map qy).length=l.length:=wB ..
 have tk:wL l.length (l.map qy)=l.map qy:=ztl (by omega)
 have z1 : ∀n:Nat,(0:Int)≤(n:Int):=fun n=>by omega
 have ok:=qaar l
 rw[qm,qd qwo qvz]
 simp only[qjw,hl,tk,z1,ok,Int.le_refl,zgr,Int.toNat_zero,Nat.sub_zero,imp_self,qg,wn,qk,zgy,↓qc,↓wf,wa,wg]
theorem clip_pls (l:List (List (Nat×Nat))) (cl:Bool):qm (evL T) qbx [(.fsl ((l).map plC) cl)]=some (.fsl ((l).map plC) true):=by
 have hl:(l.map plC).length=l.length:=wB ..
 have tk:wL l.length (l.map plC)=l.map plC:=ztl (by omega)
 have z1 : ∀n:Nat,(0:Int)≤(n:Int):=fun n=>by omega
 have ok:=qane l
 rw[qm,qd qqo qpz]
 simp only[qe4,hl,tk,z1,ok,Int.le_refl,zgr,Int.toNat_zero,Nat.sub_zero,imp_self,qoe,wn,qk,zgy,↓qc,↓wf,wa,wg]
theorem qah0 (l:List (Lp×Bool)) (cl:Bool) (hl:l.length≤1000):(evL T).call qd4 [(.fsl ((l).map lpF) cl)] []=some (.sl 0 0 0 l.length false,[.row 4 (l.map lpF) 0]):=by
 have h':l.length*48≤140737488355328:=by omega
 rw[q6q qq5]
 simp only[qu0,qhl,qaow,h',wn,zgy,↓wf,wh,wP]
theorem q4p (bs:List (List Evt)) (cl:Bool) (hl:bs.length≤1000):(evL T).call qaf [(.fsl ((bs).map qf) cl)] []=some (.sl 0 0 0 bs.length false,[.row 1 (bs.map qf) 0]):=by
 have h':bs.length*24≤140737488355328:=by omega
 rw[q6q qgd]
 simp only[qu0,qan,qaaj,h',wn,zgy,↓wf,wP]
theorem StF.deliver (F:StF c s h (qhe c s)) (hor:Int) (c1 c2:Bool):qm (evL T) qfp [(.fsl (((qcy c s hor c.lps.length)).map qf) c1),(.fsl (((qe1 c s hor c.lps.length)).map qf) c2)]=some (.fsl (((qab c.lps.length (qha c s hor).pend)).map qf) false):=by
 have W:=F.winF hor
 have hv8:=F.inv.valid.lps.2
 have hwf:=W.len
 have:=qael (qcy c s hor c.lps.length) (qe1 c s hor c.lps.length) c1 c2 (by simp[qcy];omega) (by simp[qe1];omega) (by omega) W.kok (F.lefts_sorted hor) (W.dist _ (.refl _)) (fun e he=>by
   have:=W.rng e (wy _ he)
   simpa[qcy]using this)
 rw[q4c hor (F.lefts_own hor) W.keys.dist]at this
 exact this
theorem next_ev (F:StF c s h (qhe c s)) (hl8:c.look≤8) (hf:0≤f∧f≤1152921504606846976) (P:List (Nat×Nat)) (hP:(qim P).Perm (wx c.lps.length)) (cp:Bool) (fl:List Int) (pl:List (List (Nat×Nat))) (h1:fl.length≤1000) (h2:pl.length≤1000) :
  qm (evL T) qf0 [.agg [(.fsl (((s).trace).map qf) false),(.fsl (((qhe c s)).map lpF) false),(.fsl (((qab (c).lps.length (s).pend)).map qf) false),(bb ((s).over)),(.fsl ((fl).map qy) false),(.fsl ((pl).map plC) false)],(.agg [(.fsl ((c.lps).map lpC) false),(.fsl ((c.progs).map qau) false),(ii c.look),(ii c.fin),(ii c.cap)]),(ii f),.fsl (P.map prC) cp]=some (.agg [(.fsl ((((qha c s (q99 c f))).trace).map qf) false),(.fsl (((qhe c (qha c s (q99 c f)))).map lpF) false),(.fsl (((qab (c).lps.length ((qha c s (q99 c f))).pend)).map qf) false),(bb (((qha c s (q99 c f))).over)),(.fsl (((fl++[f])).map qy) false),(.fsl (((pl++[P])).map plC) false)]):=by
 have hv:=F.inv.valid
 have hv8:=hv.lps.2
 have hlk:=hv.look
 have hv1:=hv.lps.1
 have hfin:=hv.fin
 have hHz:qm (evL T) qg3 [(.agg [(.fsl ((c.lps).map lpC) false),(.fsl ((c.progs).map qau) false),(ii c.look),(ii c.fin),(ii c.cap)]),(ii f)]=some (ii ((q99 c f))):=by unfold q99;exact qame c f hf (by omega) hfin
 generalize hhor:q99 c f=hor at *
 have hpl:P.length=c.lps.length:=by have:=hP.length_eq;simp[qim]at this;exact this
 obtain⟨⟨y,e,σ⟩,k1,k2,k3,k4,k5,k6,k7,k8,k9,k10⟩:=next_L (f:=f) (hor:=hor) F P hP cp fl pl
 simp only at k1 k2 k3 k4 k5 k6 k7 k8 k9 k10
 subst k2;subst k4
 have e1:=F.trace_eq
 have tl:s.trace.length=c.lps.length:=F.inv.trl
 have ll:(qhe c s).length=c.lps.length:=F.lL
 have bl:(qab c.lps.length s.pend).length=c.lps.length:=by simp[qab]
 have hc1:=q4p s.trace false (by omega)
 have hc2:=qah0 (qhe c s) false (by omega)
 have hc3:=q4p (qab c.lps.length s.pend) false (by omega)
 rw[tl]at hc1
 rw[ll]at hc2
 rw[bl]at hc3
 have hD:=F.deliver hor false false
 have hC1:=qanz fl false
 have hC2:=clip_pls pl false
 have hall : ∀i,i<c.lps.length→i∈qim P:=fun i hi=>hP.mem_iff.2 (wE.2 hi)
 -- the store at the loop's head,and behind it
 have m1:qof c.lps.length ([]:List Nat) (fun i:Nat=>qf (qjx s i++(wAt c s hor i).done)) (fun i:Nat=>qf (qjx s i))=s.trace.map qf:=by rw[qvf,e1,wad];rfl
 have m2:qof c.lps.length ([]:List Nat) (fun i:Nat=>lpF ((wAt c s hor i).lp,flag c i)) (fun i:Nat=>lpF (qn1 s i,flag c i))=(qhe c s).map lpF:=by rw[qvf];unfold qhe;rw[wad];rfl
 have m3:qof c.lps.length ([]:List Nat) (fun i:Nat=>qf (wAt c s hor i).box) (fun i:Nat=>qf (sortL (qao s.pend i)))=(qab c.lps.length s.pend).map qf:=by rw[qvf,qaeh]
 have m4:qof c.lps.length ([]:List Nat) (fun i:Nat=>qf (wAt c s hor i).sent) (fun _=>qf [])=wc c.lps.length [.fsl [] false]:=by
  rw[qvf];refine List.ext_getElem (by simp) (fun i h1 h2 => ?_)
  simp[qf]
 rw[m1,m2,m3,m4]at k1
 rw[qu3 _ _ _ _ hall,qu3 _ _ _ _ hall,qu3 _ _ _ _ hall,qu3 _ _ _ _ hall,←next_over hor P hP,←qaep,←qahq]at k1
 have m5:((wx c.lps.length).map fun i:Nat=>qf (wAt c s hor i).box)=(qcy c s hor c.lps.length).map qf:=by unfold qcy;rw[wad];rfl
 have m6:((wx c.lps.length).map fun i:Nat=>qf (wAt c s hor i).sent)=(qe1 c s hor c.lps.length).map qf:=by unfold qe1;rw[wad];rfl
 rw[m5,m6]at k1
 simp only[List.any_nil,Bool.or_false,wQ]at k1
 have lo1:=qan 6 s.trace
 have lo1':=qan 0 s.trace
 have lo2:=qhl 6 (qhe c s)
 have lo2':=qhl 0 (qhe c s)
 have lo3:=qan 6 (qab c.lps.length s.pend)
 have lo3':=qan 0 (qab c.lps.length s.pend)
 have lr:qb4 6 (wc c.lps.length [.fsl [] false])=true:=qfe _ _ _ rfl
 have lo4 : ∀n,qb4 n ((qcy c s hor c.lps.length).map qf)=true:=fun n=>qan _ _
 have lo5 : ∀n,qb4 n ((qe1 c s hor c.lps.length).map qf)=true:=fun n=>qan _ _
 have lo6 : ∀n,qb4 n ((qha c s hor).trace.map qf)=true:=fun n=>qan _ _
 have lo7 : ∀n,qb4 n ((qhe c (qha c s hor)).map lpF)=true:=fun n=>qhl _ _
 have q1:((qcy c s hor c.lps.length).map qf).length=c.lps.length:=by simp[qcy]
 have q2:((qe1 c s hor c.lps.length).map qf).length=c.lps.length:=by simp[qe1]
 have q3:((qha c s hor).trace.map qf).length=c.lps.length:=by simp[qha]
 have q4:((qhe c (qha c s hor)).map lpF).length=c.lps.length:=by simp[qhe]
 have t1:wL c.lps.length ((qcy c s hor c.lps.length).map qf)=(qcy c s hor c.lps.length).map qf:=ztl (by omega)
 have t2:wL c.lps.length ((qe1 c s hor c.lps.length).map qf)=(qe1 c s hor c.lps.length).map qf:=ztl (by omega)
 have t3:wL c.lps.length ((qha c s hor).trace.map qf)=(qha c s hor).trace.map qf:=ztl (by omega)
 have t4:wL c.lps.length ((qhe c (qha c s hor)).map lpF)=(qhe c (qha c s hor)).map lpF:=ztl (by omega)
 have hfa:(fl++[f]).map qy=fl.map qy++[[(ii f)]]:=by rw[wA];rfl
 have hpa:(pl++[P]).map plC=pl.map plC++[[.fsl (P.map prC) false]]:=by rw[wA];rfl
 have ok1:qbs 1 (fl.map qy++[[(ii f)]])=true:=by rw[←hfa];exact qaar _
 have ok2:qbs 1 (pl.map plC++[[.fsl (P.map prC) false]])=true:=by rw[←hpa];exact qane _
 have la1 : ∀n,qb4 n (fl.map qy++[[(ii f)]])=true:=fun n=>by rw[←hfa];exact qg _ _
 have la2 : ∀n,qb4 n (pl.map plC++[[.fsl (P.map prC) false]])=true:=fun n=>by rw[←hpa];exact qoe _ _
 have b1:(fl.length+1)*8≤140737488355328:=by omega
 have b2:(pl.length+1)*24≤140737488355328:=by omega
 have b3:24*(c.lps.length:Int)≤140737488355328:=by omega
 have b4:(c.lps.length:Int)≤4611686018427387904:=by omega
 have hpm:(P.map prC).length=P.length:=wB ..
 have lp : ∀n,qb4 n (P.map prC)=true:=fun n=>qea n P
 have sh1:=qle 2 _ lo1'
 have sh2:=qle 3 _ lo2'
 have sh3:=qle 4 _ lo3'
 have sz1:(fl.map qy).length=fl.length:=wB ..
 have sz2:(pl.map plC).length=pl.length:=wB ..
 have sz3:((qhe c s).map lpF).length=c.lps.length:=by rw[wB];exact ll
 have li : ∀n,qb4 n (fl.map qy)=true:=fun n=>qg n fl
 have lq : ∀n,qb4 n (pl.map plC)=true:=fun n=>qoe n pl
 have hle : ∀m:Nat,m≤m:=fun m=>wu m
 rw[hfa,hpa]
 rw[qm,qd qz6 qy5]
 have lo8 : ∀n,qb4 n ((qab c.lps.length (qha c s hor).pend).map qf)=true:=fun n=>qan _ _
 clear m1 m2 m3 m4 m5 m6 e1 hfa hpa F hP hall
 generalize (qha c s hor).trace.map qf=NT at *
 generalize (qhe c (qha c s hor)).map lpF=NL at *
 generalize (qab c.lps.length (qha c s hor).pend).map qf=NB at *
 generalize (qha c s hor).over=NO at *
 generalize (qcy c s hor c.lps.length).map qf=LE at *
 generalize (qe1 c s hor c.lps.length).map qf=SE at *
 generalize s.trace.map qf=TM at *
 generalize (qab c.lps.length s.pend).map qf=BM at *
 generalize (qhe c s).map lpF=LM at *
 generalize fl.map qy=FM at *
 generalize pl.map plC=QM at *
 generalize s.over=OV at *
 have lR : ∀n,los n [(.fsl [] false:AV)]=true:=fun _=>rfl
 simp only[qlx,hHz,hc1,hc2,hc3,hD,hC1,hC2,k1,k3,k5,k6,k7,k8,k9,k10,lo1,lo1',lo2,lo2',lo3,lo3',lr,lo4,lo5,lo6,lo7,lo8,q1,q2,q3,q4,t1,t2,t3,t4,ok1,ok2,la1,la2,b1,b2,b3,b4,hpm,lp,sh1,sh2,sh3,sz1,sz2,sz3,li,lq,hle,q3y,AV.shift,zgs,zgr,Int.le_refl,zfd,qax,qv,wn,wJ,qalv,q3y,q6c,qb,qaw,wp,wD,wq,qk,wi,ne_eq,zgy,↓qc,↓qq,↓wf,we,wa,waf,wh,wC,wP,Int.reducePow,wg]
end
set_option maxRecDepth 10000
def flS (c:Cfg) (s:Sim):Option Int:=qrr (qab c.lps.length s.pend)
def qamv (c:Cfg) (s:Sim):Sim:=match flS c s with|some f=>qha c s (q99 c f)|none=>s
def qbp (c:Cfg):Nat→Sim
 | 0=>start c
 |k+1=>qamv c (qbp c k)
def endZ (s:Sim):Int:=if s.over=true then 11 else 0
def qadk (c:Cfg) (cap:Int) (lim:Nat) (s:Sim):Option Int:=
 if cap<(s.pend.length:Int)then some 10 else match flS c s with
  |none=>some (endZ s)
  |some f=>if c.fin≤f then some (endZ s)else if lim≤s.trace.flatten.length then some 10 else none
structure Stop (c:Cfg) (cap:Int) (lim k:Nat) (e:Int):Prop where
 stop:qadk c cap lim (qbp c k)=some e
 first : ∀j,j<k→qadk c cap lim (qbp c j)=none
def qcb (c:Cfg) (k:Nat):List Int:=(wx k).map fun j=>(flS c (qbp c j)).getD 0
theorem qapc {c:Cfg} {cap:Int} {lim:Nat} {s:Sim} (h:qadk c cap lim s=none):(s.pend.length:Int)≤cap ∧ ∃f,flS c s=some f∧f<c.fin∧s.trace.flatten.length<lim:=by
 unfold qadk at h
 split at h
 ·cases h
 split at h
 ·cases h
 split at h
 ·cases h
 split at h
 ·cases h
 next f hf _ _=>exact⟨by omega,f,hf,by omega,by omega⟩
theorem qaoh (c:Cfg) (hor:Int) : ∀(k:Nat) (w:WSt),w.lp.procs=[]→(WSt.run c hor k w).lp.procs=[]
 | 0,w,h=>h
 |k+1,w,h=>by
  unfold WSt.run
  split
  ·exact h
  ·split
   ·exact qaoh c hor k _ (qaao h)
   ·exact h
section
variable {c:Cfg}
theorem qapj {s:Sim} (hl:s.lps.length=c.lps.length) (hf : ∀i,i<c.lps.length→flag c i=true→(qn1 s i).procs=[]):LOk (qhe c s) s:=by
 refine⟨?_,fun x hx hx2 => ?_⟩
 ·refine wH fun i => ?_
  unfold qhe
  rw[wm,wm]
  by_cases hi:i<c.lps.length
  ·rw[wv hi,zgE (by rw[hl];exact hi)]
   simp only[zgt,qn1,zgr,zgE (show i<s.lps.length by rw[hl];exact hi),wR]
  ·rw[wj (by simp;omega),wj (by omega)];rfl
 ·simp only[qhe,wM,wE]at hx
  obtain⟨i,hi,rfl⟩:=hx
  exact hf i hi hx2
theorem qaek (i:Nat) (hi:i<c.lps.length) (h:flag c i=true):(qn1 (start c) i).procs=[]:=by
 unfold flag at h
 unfold qn1 start
 simp only[zgr,zgq]
 have hl:i<(qhf c.lps).length:=by simp[qhf,qaan];exact hi
 rw[zgE hl]at h⊢
 simp only[zgt,wR]at h⊢
 simp only[qhf,List.getElem_map]at h⊢
 simpa[stLp]using h
theorem qaeb:qhe c (start c)=qhf c.lps:=by
 refine wH fun i => ?_
 unfold qhe
 rw[wm]
 by_cases hi:i<c.lps.length
 ·have hl:i<(qhf c.lps).length:=by simp[qhf,qaan];exact hi
  rw[wv hi]
  simp only[zgt,qn1,flag,start,zgr,zgq,zgE hl,wR]
 ·rw[wj (by simp;omega),wj (by simp[qhf,qaan];omega)];rfl
structure ParI (c:Cfg) (lim k:Nat) (h:List Evt):Prop where
 inv:SInvK c (qbp c k) h
 lok:LOk (qhe c (qbp c k)) (qbp c k)
 ge:k≤h.length
 len:h.length≤8000+lim
 flag : ∀i,i<c.lps.length→flag c i=true→(qn1 (qbp c k) i).procs=[]
theorem ParI.stF {lim k:Nat} {h:List Evt} (I:ParI c lim k h) (hl:h.length≤30):StF c (qbp c k) h (qhe c (qbp c k)):=⟨I.inv,hl,I.lok⟩
theorem parI (hv:Valid c) (n4:c.lps.length≤4) {cap:Int} {lim:Nat} (hlim:lim≤30) : ∀k,(∀j,j<k→qadk c cap lim (qbp c j)=none) → ∃h,ParI c lim k h
 | 0,_=>⟨[],(SInv.start hv).toSInvK,qapj (SInv.start hv).lpl (qaek),wu _,waa _,qaek⟩
 |k+1,hs=>by
  obtain⟨h,I⟩:=parI hv n4 hlim k (fun j hj=>hs j (by omega))
  obtain⟨_,f,hf,hff,hcl⟩:=qapc (hs k (by omega))
  rw[I.inv.count]at hcl
  have F:=I.stF (by omega)
  obtain⟨h',N⟩:=F.next (q99 c f)
  have hh:f<q99 c f:=by
   have:=hv.look
   unfold q99 q5s;split<;>omega
  have hpos:=F.some_done (q99 c f) hf hh
  have hw:qbp c (k+1)=qha c (qbp c k) (q99 c f):=by show qamv c (qbp c k) = _;unfold qamv;rw[hf]
  have hfl : ∀i,i<c.lps.length→flag c i=true→(qn1 (qbp c (k+1)) i).procs=[]:=fun i hi hfi=>by
   rw[hw,qaj4 _ hi]
   unfold wAt
   exact qaoh c _ 2000 _ (I.flag i hi hfi)
  refine⟨h',by rw[hw];exact N.inv,?_,by rw[N.len];have:=I.ge;omega,by rw[N.len];have:=N.bnd;omega,hfl⟩
  exact qapj (by rw[hw];exact N.inv.lpl) hfl
theorem stop_ex (hv:Valid c) (n4:c.lps.length≤4) (cap:Int) {lim:Nat} (hlim:lim≤30) : ∃k e,Stop c cap lim k e:=by
 have : ∃k,qadk c cap lim (qbp c k)≠none:=by
  refine Classical.byContradiction fun hn => ?_
  have hall : ∀k,qadk c cap lim (qbp c k)=none:=fun k=>Classical.byContradiction fun h=>hn ⟨k,h⟩
  obtain⟨h,I⟩:=parI hv n4 hlim 40 (fun j _=>hall j)
  obtain⟨_,f,_,_,hcl⟩:=qapc (hall 40)
  rw[I.inv.count]at hcl
  have:=I.ge
  omega
 obtain⟨k,hk⟩:=this
 obtain⟨m,_,h1,h2⟩:=least (P:=fun k=>qadk c cap lim (qbp c k)≠none) k hk
 obtain⟨e,he⟩:=Option.ne_none_iff_exists'.1 h1
 exact⟨m,e,he,fun j hj=>Classical.byContradiction fun h=>h2 j hj h⟩
theorem Stop.le40 (hv:Valid c) (n4:c.lps.length≤4) {cap:Int} {lim k:Nat} {e:Int} (hlim:lim≤30) (h:Stop c cap lim k e):k≤31:=by
 by_cases hk:k=0
 ·omega
 obtain⟨h0,I⟩:=parI hv n4 hlim (k-1) (fun j hj=>h.first j (by omega))
 obtain⟨_,f,_,_,hcl⟩:=qapc (h.first (k-1) (by omega))
 rw[I.inv.count]at hcl
 have:=I.ge
 omega
theorem qapm (c:Cfg) (m:Int) (hor:Int) : ∀(k:Nat) (w:WSt),WSt.run { c with cap:=m } hor k w=WSt.run c hor k w
 | 0,w=>rfl
 |k+1,w=>by
  unfold WSt.run
  have hs : ∀e r,w.step { c with cap:=m } e r=w.step c e r:=fun e r=>rfl
  split
  ·rfl
  ·split
   ·rw[hs];exact qapm c m hor k _
   ·rfl
theorem qamz (c:Cfg) (m:Int) (s:Sim) (hor:Int) (i:Nat):wAt { c with cap:=m } s hor i=wAt c s hor i:=qapm c m hor 2000 _
theorem qam2 (c:Cfg) (m:Int) (s:Sim) (hor:Int):qha { c with cap:=m } s hor=qha c s hor:=by
 have h:(fun i=>wAt { c with cap:=m } s hor i)=fun i=>wAt c s hor i:=funext fun i=>qamz c m s hor i
 unfold qha qcy qe1 q8z
 simp only[qamz]
theorem winS_cap (c:Cfg) (m:Int) (s:Sim):qamv { c with cap:=m } s=qamv c s:=by
 have h1:flS { c with cap:=m } s=flS c s:=rfl
 have h2 : ∀f,q99 { c with cap:=m } f=q99 c f:=fun _=>rfl
 unfold qamv
 rw[h1]
 cases flS c s with
 |none=>rfl
 |some f=>simp only[h2,qam2]
theorem qaga (c:Cfg) (m:Int) : ∀k,qbp { c with cap:=m } k=qbp c k
 | 0=>rfl
 |k+1=>by show qamv _ (qbp _ k)=qamv c (qbp c k);rw[qaga c m k,winS_cap]
theorem Stop.cap {m cap:Int} {lim k:Nat} {e:Int} (h:Stop { c with cap:=m } cap lim k e):Stop c cap lim k e:=
 ⟨by have:=h.stop;rw[qaga]at this;exact this,fun j hj=>by have:=h.first j hj;rw[qaga]at this;exact this⟩
end
set_option maxRecDepth 10000
theorem q0t {α:Type} {l:List α} (h:1≤l.length):l ≠ []:=fun e=>by rw[e]at h;simp at h
theorem qta (n:Nat) (l:List Evt):(qab n l).length=n:=by simp[qab]
theorem q9y (xs:List (List Evt)) (cl:Bool) (h1:xs ≠ []) (hx:xs.length≤1000000) (hT:xs.flatten.length≤1000000):qm (evL T) qi1 [(.fsl ((xs).map qf) cl)]=some (ii xs.flatten.length):=by
 obtain⟨g,h⟩:=q5q xs cl hx hT h1
 rw[qm,qd q9g q58]
 simp only[qrh,h,qle,qh,qan,wn,q3y,qk,zgy,↓qc,↓wf,wg]
structure RunIn (c:Cfg) (W:Nat) (picks:List Nat) (lim n:Nat):Prop where
 h12:Small12 c
 v:Valid c
 n4:c.lps.length≤4
 l8:c.look≤8
 w:1≤W∧W≤64
 p : ∀x∈picks,x<W
 pl:picks.length≤1000
 lim:lim≤30
 fin:Fin c.lps.length W picks n
def qeh (c:Cfg) (W:Nat) (picks:List Nat) (n:Nat):List (Nat×Nat):=(qdc c.lps.length W picks n).pairs
theorem q72 (c:Cfg) (k:Nat) {f:Int} (hf:flS c (qbp c k)=some f):qcb c (k+1)=qcb c k++[f]:=by
 unfold qcb;rw[wah,wA];simp[hf]
section
variable {c:Cfg} {W:Nat} {picks:List Nat} {lim n:Nat} (cp:Bool)
theorem run_L2 (I:RunIn c W picks lim n) {K:Nat} {er:Int} (hS:Stop c c.cap lim K er) :
  ∃y,itB (exec (evL T) itL none qfj) (qu [1,2,3,4,8,10,11] true 2) ⟨[(1,(ii W)),(2,(.fsl (((qqj picks)).map qy) cp)),(3,(ii lim)),(4,(.fptr [(.fsl ((c.lps).map lpC) false),(.fsl ((c.progs).map qau) false),(ii c.look),(ii c.fin),(ii c.cap)])),(8,.ptr 0 0 0 0),(10,.ptr 1 0 0 0),(11,(ii 0))],[]⟩ [.row 6 [[.fsl [] false,.fsl [] false,.fsl [] false,.v (.bool false),.fsl [] false,.fsl [] false]] 0,.row 6 [[(.fsl ((((qbp c 0)).trace).map qf) false),(.fsl (((qhe c (qbp c 0))).map lpF) false),(.fsl (((qab (c).lps.length ((qbp c 0)).pend)).map qf) false),(bb (((qbp c 0)).over)),(.fsl (((qcb c 0)).map qy) false),(.fsl (((wc 0 (qeh c W picks n))).map plC) false)]] 0]=some y ∧
   (y.1 = .exit 0∧y.2.1.marks=[]∧y.2.2=[.row 6 [[.fsl [] false,.fsl [] false,.fsl [] false,.v (.bool false),.fsl [] false,.fsl [] false]] 0,.row 6 [[(.fsl ((((qbp c K)).trace).map qf) false),(.fsl (((qhe c (qbp c K))).map lpF) false),(.fsl (((qab (c).lps.length ((qbp c K)).pend)).map qf) false),(bb (((qbp c K)).over)),(.fsl (((qcb c K)).map qy) false),(.fsl (((wc K (qeh c W picks n))).map plC) false)]] 0]∧wr y.2.1.vars 8=some (.ptr 0 0 0 0)∧wr y.2.1.vars 10=some (.ptr 1 0 0 0)∧wr y.2.1.vars 11=some (ii er)):=by
 have hv8:=I.v.lps
 have hK:=hS.le40 I.v I.n4 I.lim
 have key:=qcq (f:=exec (evL T) itL none qfj) (s:=qu [1,2,3,4,8,10,11] true 2) (α:=Unit)
  (fun k _=>⟨[(1,(ii W)),(2,(.fsl (((qqj picks)).map qy) cp)),(3,(ii lim)),(4,(.fptr [(.fsl ((c.lps).map lpC) false),(.fsl ((c.progs).map qau) false),(ii c.look),(ii c.fin),(ii c.cap)])),(8,.ptr 0 0 0 0),(10,.ptr 1 0 0 0),(11,(ii 0))],[]⟩) (fun k _=>[.row 6 [[.fsl [] false,.fsl [] false,.fsl [] false,.v (.bool false),.fsl [] false,.fsl [] false]] 0,.row 6 [[(.fsl ((((qbp c k)).trace).map qf) false),(.fsl (((qhe c (qbp c k))).map lpF) false),(.fsl (((qab (c).lps.length ((qbp c k)).pend)).map qf) false),(bb (((qbp c k)).over)),(.fsl (((qcb c k)).map qy) false),(.fsl (((wc k (qeh c W picks n))).map plC) false)]] 0]) (fun _ _=>True) K
  (fun y=>y.1 = .exit 0∧y.2.1.marks=[]∧y.2.2=[.row 6 [[.fsl [] false,.fsl [] false,.fsl [] false,.v (.bool false),.fsl [] false,.fsl [] false]] 0,.row 6 [[(.fsl ((((qbp c K)).trace).map qf) false),(.fsl (((qhe c (qbp c K))).map lpF) false),(.fsl (((qab (c).lps.length ((qbp c K)).pend)).map qf) false),(bb (((qbp c K)).over)),(.fsl (((qcb c K)).map qy) false),(.fsl (((wc K (qeh c W picks n))).map plC) false)]] 0]∧wr y.2.1.vars 8=some (.ptr 0 0 0 0)∧wr y.2.1.vars 10=some (.ptr 1 0 0 0)∧wr y.2.1.vars 11=some (ii er)) ?_ ?_ 0 () (waa _) trivial
 ·exact key
 ·rintro k _ hk _
  obtain⟨h,P⟩:=parI I.v I.n4 (cap:=c.cap) I.lim k (fun j hj=>hS.first j (by omega))
  obtain⟨g1,f,hf,hff,g2⟩:=qapc (hS.first k hk)
  have hcnt:=P.inv.count
  have F:=P.stF (by have:=I.lim;omega)
  have hFl:=qaj5 (qab c.lps.length (qbp c k).pend) false (by simp[qab];omega)
  unfold flS at hf
  rw[hf]at hFl
  simp only[wR,Option.isSome_some]at hFl
  obtain⟨fa,fe,fem,fet⟩:=F.floor hf
  have ft:=(P.inv.ev fe (wy _ fem)).time
  have hbl:(qab c.lps.length (qbp c k).pend).flatten.length=(qbp c k).pend.length:=F.flat.length_eq
  have hpl:=F.plen
  have hC1:=q9y (qab c.lps.length (qbp c k).pend) false (q0t (by rw[qta];exact hv8.1)) (by simp[qab];omega) (by omega)
  have hC2:=q9y (qbp c k).trace false (q0t (by rw[P.inv.trl];exact hv8.1)) (by rw[P.inv.trl];omega) (by have:=P.len;have:=I.lim;omega)
  rw[hbl]at hC1
  have hFi:=qaoc c.lps.length W picks cp n (by omega) I.w.1 I.w.2 I.p I.pl I.fin
  have hN:=next_ev F I.l8 (f:=f) (by omega) (qeh c W picks n) (I.fin.perm I.w.1) false (qcb c k) (wc k (qeh c W picks n)) (by simp[qcb];omega) (by simp;omega)
  have hw:qbp c (k+1)=qha c (qbp c k) (q99 c f):=by show qamv c (qbp c k) = _;unfold qamv flS;rw[hf]
  rw[←hw,←q72 c k hf,←List.replicate_succ']at hN
  have c1:¬((qbp c k).pend.length:Int)>c.cap:=by omega
  have c2:¬f≥c.fin:=by omega
  have c3:¬((qbp c k).trace.flatten.length:Int)≥(lim:Int):=by omega
  refine .inl ⟨(),?_,trivial⟩
  have hlm:(c.lps.map lpC).length=c.lps.length:=wB ..
  have lo1 : ∀m,qb4 m ((qbp c k).trace.map qf)=true:=fun m=>qan _ _
  have lo2 : ∀m,qb4 m ((qhe c (qbp c k)).map lpF)=true:=fun m=>qhl _ _
  have lo3 : ∀m,qb4 m ((qab c.lps.length (qbp c k).pend).map qf)=true:=fun m=>qan _ _
  have lo4 : ∀m,qb4 m ((qcb c k).map qy)=true:=fun m=>qg _ _
  have lo5 : ∀m,qb4 m ((wc k (qeh c W picks n)).map plC)=true:=fun m=>qoe _ _
  have ko1 : ∀m,qb4 m ((qbp c (k+1)).trace.map qf)=true:=fun m=>qan _ _
  have ko2 : ∀m,qb4 m ((qhe c (qbp c (k+1))).map lpF)=true:=fun m=>qhl _ _
  have ko3 : ∀m,qb4 m ((qab c.lps.length (qbp c (k+1)).pend).map qf)=true:=fun m=>qan _ _
  have ko4 : ∀m,qb4 m ((qcb c (k+1)).map qy)=true:=fun m=>qg _ _
  have ko5 : ∀m,qb4 m ((wc (k+1) (qeh c W picks n)).map plC)=true:=fun m=>qoe _ _
  change qm (evL T) qgz [(ii c.lps.length),(ii W),(.fsl (((qqj picks)).map qy) cp)]=some (.tup [.fsl ((qeh c W picks n).map prC) false,(ii n)])at hFi
  generalize (qbp c k).trace.flatten.length=cn at *
  generalize (qbp c k).pend.length=bn at *
  generalize (qbp c k).trace.map qf=TM at *
  generalize (qhe c (qbp c k)).map lpF=LM at *
  generalize (qab c.lps.length (qbp c k).pend).map qf=BM at *
  generalize (qcb c k).map qy=FM at *
  generalize (wc k (qeh c W picks n)).map plC=QM at *
  generalize (qbp c (k+1)).trace.map qf=TM' at *
  generalize (qhe c (qbp c (k+1))).map lpF=LM' at *
  generalize (qab c.lps.length (qbp c (k+1)).pend).map qf=BM' at *
  generalize (qcb c (k+1)).map qy=FM' at *
  generalize (wc (k+1) (qeh c W picks n)).map plC=QM' at *
  generalize (qbp c k).over=OV at *
  generalize (qbp c (k+1)).over=OV' at *
  simp only[qfj,hFl,hC1,hC2,hFi,hN,c1,c2,c3,hlm,lo1,lo2,lo3,lo4,lo5,ko1,ko2,ko3,ko4,ko5,qea,qg,qax,qv,wn,wJ,qb,wp,wq,wi,zgy,↓qc,↓wf,we,wa,wh]
 ·rintro _ _
  obtain⟨h,P⟩:=parI I.v I.n4 (cap:=c.cap) I.lim K hS.first
  have hcnt:=P.inv.count
  have hplen:=P.inv.len
  have hhl:=P.len
  have hlim:=I.lim
  have hst:=hS.stop
  have hFl:=qaj5 (qab c.lps.length (qbp c K).pend) false (by simp[qab];omega)
  have hbp:(qab c.lps.length (qbp c K).pend).flatten.Perm (qbp c K).pend:=
   (q5c _ _ (fun i=>qao (qbp c K).pend i) fun i=>qc8 _).trans (q9z fun e he=>(P.inv.ev e (wy _ he)).lp)
  have hbl:=hbp.length_eq
  have hC1:=q9y (qab c.lps.length (qbp c K).pend) false (q0t (by rw[qta];exact hv8.1)) (by simp[qab];omega) (by omega)
  have hC2:=q9y (qbp c K).trace false (q0t (by rw[P.inv.trl];exact hv8.1)) (by rw[P.inv.trl];omega) (by omega)
  rw[hbl]at hC1
  have lo1 : ∀m,qb4 m ((qbp c K).trace.map qf)=true:=fun m=>qan _ _
  have lo2 : ∀m,qb4 m ((qhe c (qbp c K)).map lpF)=true:=fun m=>qhl _ _
  have lo3 : ∀m,qb4 m ((qab c.lps.length (qbp c K).pend).map qf)=true:=fun m=>qan _ _
  have lo4 : ∀m,qb4 m ((qcb c K).map qy)=true:=fun m=>qg _ _
  have lo5 : ∀m,qb4 m ((wc K (qeh c W picks n)).map plC)=true:=fun m=>qoe _ _
  unfold qadk flS endZ at hst
  generalize (qbp c K).trace.flatten.length=cn at *
  generalize (qbp c K).trace.map qf=TM at *
  generalize (qhe c (qbp c K)).map lpF=LM at *
  generalize qrr (qab c.lps.length (qbp c K).pend)=fo at *
  generalize (qab c.lps.length (qbp c K).pend).map qf=BM at *
  generalize (qcb c K).map qy=FM at *
  generalize (wc K (qeh c W picks n)).map plC=QM at *
  generalize (qbp c K).over=OV at *
  by_cases c1:((qbp c K).pend.length:Int)>c.cap
  ·rw[if_pos (by omega)]at hst
   cases hst
   simp only[qfj,hFl,hC1,c1,lo3,wn,qb,zgy,↓qc,↓wf,wa,wg]
   exact⟨_,rfl,rfl,rfl,rfl,rfl,rfl,rfl⟩
  rw[if_neg (by omega)]at hst
  cases fo with
  |none=>
   simp only[Option.getD_none,Option.isSome_none]at hFl hst
   cases hst
   cases OV with
   |true=>
    simp only[qfj,hFl,hC1,c1,lo3,wn,qb,zgy,↓qc,↓wf,wa,wg]
    exact⟨_,rfl,rfl,rfl,rfl,rfl,rfl,rfl⟩
   |false=>
    simp only[qfj,hFl,hC1,c1,lo3,wn,qb,zgy,↓qc,↓wf,wa,wg]
    exact⟨_,rfl,rfl,rfl,rfl,rfl,rfl,rfl⟩
  |some f=>
   simp only[wR,Option.isSome_some]at hFl hst
   by_cases c2:f≥c.fin
   ·rw[if_pos c2]at hst
    cases hst
    cases OV with
    |true=>
     simp only[qfj,hFl,hC1,c1,c2,lo3,wn,qb,zgy,↓qc,↓wf,wa,wg]
     exact⟨_,rfl,rfl,rfl,rfl,rfl,rfl,rfl⟩
    |false=>
     simp only[qfj,hFl,hC1,c1,c2,lo3,wn,qb,zgy,↓qc,↓wf,wa,wg]
     exact⟨_,rfl,rfl,rfl,rfl,rfl,rfl,rfl⟩
   ·rw[if_neg c2]at hst
    by_cases c3:lim≤cn
    ·rw[if_pos c3]at hst
     cases hst
     have c3':(cn:Int)≥(lim:Int):=by omega
     simp only[qfj,hFl,hC1,hC2,c1,c2,c3',lo1,lo3,wn,qb,zgy,↓qc,↓wf,wa,wg]
     exact⟨_,rfl,rfl,rfl,rfl,rfl,rfl,rfl⟩
    ·rw[if_neg c3]at hst;cases hst
end
set_option maxRecDepth 10000
section
variable {c:Cfg} {e:Evt} (R3 X4 X5:SObj) (dn:List Evt) (g1:Nat) (x:Lp) (o f:Bool)
theorem place_l1 (h3:R3.lo 8=true) (h4:X4.lo 8=true) (h5:X5.lo 8=true) (el:Int) (out:List Evt) (co:Bool) (p:List Evt×List Evt) (g2:Nat) (hP:PlOk p out) :
  ∃y,itB (exec (evL T) itL none qj2) (qu [1,2,3,6,7] true 8) ⟨[(1,(ii el)),(2,(.fsl ((out).map Evt.r) co)),(3,.ptr 6 0 0 0),(6,.ptr 7 0 0 0),(7,(ii ((0:Nat))))],[]⟩ [(.row 8 [[(ii 0),(ii 0),.fsl [] false,(ii 0),.fsl [] false,.fsl [] false,.fsl [] false,(bb false)]] 0),.row 6 (dn.map Evt.r) g1,.row 6 ((p.2).map Evt.r) g2,R3,X4,X5,.row 8 [[(ii ((x).r0)),(ii ((x).r1)),(.fsl (((x).procs).map Pr.r) f),(ii ((x).sum)),(.fsl ((p.1).map Evt.r) false),.sl 1 g1 0 dn.length false,.sl 2 g2 0 (p.2).length false,(bb o)]] 0,(.row 8 [[(ii 0),(ii 0),.fsl [] false,(ii 0),.fsl [] false,.fsl [] false,.fsl [] false,(bb false)]] 0)]=some y ∧
   ∃g2':Nat,y.1 = .exit 0∧y.2.1.marks=[]∧y.2.2=[(.row 8 [[(ii 0),(ii 0),.fsl [] false,(ii 0),.fsl [] false,.fsl [] false,.fsl [] false,(bb false)]] 0),.row 6 (dn.map Evt.r) g1,.row 6 (((qdq el p out).2).map Evt.r) g2',R3,X4,X5,.row 8 [[(ii ((x).r0)),(ii ((x).r1)),(.fsl (((x).procs).map Pr.r) f),(ii ((x).sum)),(.fsl (((qdq el p out).1).map Evt.r) false),.sl 1 g1 0 dn.length false,.sl 2 g2' 0 ((qdq el p out).2).length false,(bb o)]] 0,(.row 8 [[(ii 0),(ii 0),.fsl [] false,(ii 0),.fsl [] false,.fsl [] false,.fsl [] false,(bb false)]] 0)]∧wr y.2.1.vars 3=some (.ptr 6 0 0 0)∧wr y.2.1.vars 6=some (.ptr 7 0 0 0):=by
 simp only[SObj.lo]at h3 h4 h5
 have key:=qcq (f:=exec (evL T) itL none qj2) (s:=qu [1,2,3,6,7] true 8) (α:=(List Evt×List Evt)×Nat)
  (fun i a=>⟨[(1,(ii el)),(2,(.fsl ((out).map Evt.r) co)),(3,.ptr 6 0 0 0),(6,.ptr 7 0 0 0),(7,(ii i))],[]⟩) (fun _ a=>[(.row 8 [[(ii 0),(ii 0),.fsl [] false,(ii 0),.fsl [] false,.fsl [] false,.fsl [] false,(bb false)]] 0),.row 6 (dn.map Evt.r) g1,.row 6 ((a.1.2).map Evt.r) a.2,R3,X4,X5,.row 8 [[(ii ((x).r0)),(ii ((x).r1)),(.fsl (((x).procs).map Pr.r) f),(ii ((x).sum)),(.fsl ((a.1.1).map Evt.r) false),.sl 1 g1 0 dn.length false,.sl 2 a.2 0 (a.1.2).length false,(bb o)]] 0,(.row 8 [[(ii 0),(ii 0),.fsl [] false,(ii 0),.fsl [] false,.fsl [] false,.fsl [] false,(bb false)]] 0)]) (fun i a=>a.1=qdq el p (out.take i)) out.length
  (fun y => ∃g2':Nat,y.1 = .exit 0∧y.2.1.marks=[]∧y.2.2=[(.row 8 [[(ii 0),(ii 0),.fsl [] false,(ii 0),.fsl [] false,.fsl [] false,.fsl [] false,(bb false)]] 0),.row 6 (dn.map Evt.r) g1,.row 6 (((qdq el p out).2).map Evt.r) g2',R3,X4,X5,.row 8 [[(ii ((x).r0)),(ii ((x).r1)),(.fsl (((x).procs).map Pr.r) f),(ii ((x).sum)),(.fsl (((qdq el p out).1).map Evt.r) false),.sl 1 g1 0 dn.length false,.sl 2 g2' 0 ((qdq el p out).2).length false,(bb o)]] 0,(.row 8 [[(ii 0),(ii 0),.fsl [] false,(ii 0),.fsl [] false,.fsl [] false,.fsl [] false,(bb false)]] 0)]∧wr y.2.1.vars 3=some (.ptr 6 0 0 0)∧wr y.2.1.vars 6=some (.ptr 7 0 0 0)) ?_ ?_ 0 (p,g2) (waa _) rfl
 ·exact key
 ·rintro i ⟨⟨b,s⟩,g⟩ hi hbs
  simp only at hbs⊢
  obtain⟨n,hn⟩ : ∃n,out[i]? = some n:=⟨_,zgE hi⟩
  have hA:=PlOk.at el hP i
  rw[←hbs,show out.drop i=n::out.drop (i+1) by rw[List.drop_eq_getElem_cons hi];rw[zgE hi]at hn;cases hn;rfl]at hA
  have hlen:=hP.len
  simp only[zgp]at hlen
  have hi':(i:Int)<(out.length:Int):=by omega
  have hw:IntKind.i64.wrap ((i:Int)+1)=((i+1:Nat):Int):=by rw[qi (by omega) (by omega)];simp
  have hnx:qdq el p (out.take (i+1))=qqu el (b,s) n:=by rw[List.take_add_one,hn,hbs];exact qacd _ _ _ _
  obtain⟨i1,i2,i3,i4,i5⟩:=hA.ins
  have hsl:=hA.len
  simp only[zgp]at hsl
  unfold qqu at hnx
  by_cases hlp:n.lp=el
  ·refine .inl ⟨((sortL (n::b),s),g),?_,by simp only;rw[hnx,if_pos hlp]⟩
   have hI:=qvu b false n i1 i2 i3 i4 i5
   obtain⟨nt,nk,nl,ni,np,na⟩:=n
   simp only at hlp
   subst hlp
   generalize sortL (⟨nt,nk,nl,ni,np,na⟩::b)=B at *
   simp only at hI
   simp only[qj2,zgs,zgr,zgq,zgt,hn,hi',hw,hI,h3,h4,h5,Evt.r,qh,qg,qr,wn,wJ,qb,wp,wD,wq,wi,zgy,↓qc,↓wf,we,wa,wh,wC]
  ·refine .inl ⟨((b,s++[n]),g+1),?_,by simp only;rw[hnx,if_neg hlp]⟩
   have bd:(s.length+1)*64≤140737488355328:=by omega
   have tk:wL s.length (s.map Evt.r)=s.map Evt.r:=ztl (by simp)
   have lo:=qh 8 (s++[n])
   have hle:s.length≤s.length:=wu _
   obtain⟨nt,nk,nl,ni,np,na⟩:=n
   simp only at hlp
   rw[wA]at lo
   simp only[wA,zgp,wN,wI,Evt.r]at lo⊢
   simp only[qj2,zgs,zgr,zgq,zgt,hn,hi',hw,hlp,bd,tk,lo,hle,h3,h4,h5,Evt.r,qh,qr,wn,wJ,qqk,qb,qaw,wp,wD,wq,wi,ne_eq,zgy,↓qc,↓wf,we,wa,waf,wh,wC,wP]
 ·rintro⟨⟨b,s⟩,g⟩ hbs
  rw[List.take_length]at hbs
  simp only at hbs⊢
  rw[←hbs]
  simp only[qj2,Int.lt_irrefl,wn,zgy,↓qc,↓wf,wa]
  exact⟨_,rfl,g,rfl,rfl,rfl,rfl,rfl⟩
theorem place_ev (h3:R3.lo 6=true) (h4:X4.lo 6=true) (h5:X5.lo 6=true) (el:Int) (out:List Evt) (co:Bool) (b s:List Evt) (g2:Nat) (hP:PlOk (b,s) out) :
  ∃g2':Nat,(evL T).call qma [.agg [(ii ((x).r0)),(ii ((x).r1)),(.fsl (((x).procs).map Pr.r) f),(ii ((x).sum)),(.fsl ((b).map Evt.r) false),.sl 1 g1 0 dn.length false,.sl 2 g2 0 s.length false,(bb o)],(ii el),(.fsl ((out).map Evt.r) co)] [(.row 8 [[(ii 0),(ii 0),.fsl [] false,(ii 0),.fsl [] false,.fsl [] false,.fsl [] false,(bb false)]] 0),.row 6 (dn.map Evt.r) g1,.row 6 (s.map Evt.r) g2,R3,X4,X5] =
   some (.agg [(ii ((x).r0)),(ii ((x).r1)),(.fsl (((x).procs).map Pr.r) f),(ii ((x).sum)),(.fsl (((qdq el (b,s) out).1).map Evt.r) false),.sl 1 g1 0 dn.length false,.sl 2 g2' 0 (qdq el (b,s) out).2.length false,(bb o)],[(.row 8 [[(ii 0),(ii 0),.fsl [] false,(ii 0),.fsl [] false,.fsl [] false,.fsl [] false,(bb false)]] 0),.row 6 (dn.map Evt.r) g1,.row 6 ((qdq el (b,s) out).2.map Evt.r) g2',R3,X4,X5]):=by
 have mono : ∀ {X:SObj},X.lo 6=true→X.lo 8=true:=fun h=>q27 (by omega) _ h
 obtain⟨⟨y,f1,σ1⟩,k1,g2',k2,k3,k4,k5,k6⟩:=place_l1 R3 X4 X5 dn g1 x o f (mono h3) (mono h4) (mono h5) el out co (b,s) g2 hP
 simp only[wQ]at k1 k2 k3 k4 k5 k6
 subst k2;subst k4
 refine⟨g2',?_⟩
 generalize (qdq el (b,s) out).1=B at *
 generalize (qdq el (b,s) out).2=Z at *
 have j3:=mono h3
 have j4:=mono h4
 have j5:=mono h5
 simp only[SObj.lo]at h3 h4 h5 j3 j4 j5
 rw[qd qaa0 q8o]
 simp only[qs1,k1,k3,k5,k6,h3,h4,h5,j3,j4,j5,qh,qr,wn,wJ,qb,wp,wq,qk,wi,ne_eq,zgy,↓qc,↓qq,↓wf,we,wa,wh,wg]
theorem all_l2 (h4:X4.lo 6=true) (h5:X5.lo 6=true) (hor n:Int) (G:List (List Int)) (cg:Bool) (b:List Evt) (s:List Evt) (g2:Nat) (hb:b.length≤1000000) (hk:qb0 b) (hG:G.length≤1000000) (hGk : ∀k∈G,k.length≤9223372036854775807) :
  ∃y,itB (exec (evL T) itL none qow) (qu [3,4,8,9,10,16,18] true 6) ⟨[(3,(ii hor)),(4,(.fptr [(.fsl ((c.lps).map lpC) false),(.fsl ((c.progs).map qau) false),(ii c.look),(ii c.fin),(ii c.cap)])),(8,.ptr 0 0 0 0),(9,.ptr 3 0 0 0),(10,(ii n)),(16,(.fsl ((G).map qh7) cg)),(18,(ii ((0:Nat))))],[]⟩ [(.row 8 [[(ii 0),(ii 0),.fsl [] false,(ii 0),.fsl [] false,.fsl [] false,.fsl [] false,(bb false)]] 0),.row 6 (dn.map Evt.r) g1,.row 6 ((s).map Evt.r) g2,.row 8 [[(ii ((x).r0)),(ii ((x).r1)),(.fsl (((x).procs).map Pr.r) f),(ii ((x).sum)),(.fsl ((b).map Evt.r) false),.sl 1 g1 0 dn.length false,.sl 2 g2 0 (s).length false,(bb o)]] 0,X4,X5]=some y ∧
   (y.1 = .exit 2∧y.2.1.marks=[]∧y.2.2=[(.row 8 [[(ii 0),(ii 0),.fsl [] false,(ii 0),.fsl [] false,.fsl [] false,.fsl [] false,(bb false)]] 0),.row 6 (dn.map Evt.r) g1,.row 6 ((s).map Evt.r) g2,.row 8 [[(ii ((x).r0)),(ii ((x).r1)),(.fsl (((x).procs).map Pr.r) f),(ii ((x).sum)),(.fsl (((q0r b G)).map Evt.r) false),.sl 1 g1 0 dn.length false,.sl 2 g2 0 (s).length false,(bb o)]] 0,X4,X5]∧wr y.2.1.vars 3=some (ii hor)∧wr y.2.1.vars 4=some (.fptr [(.fsl ((c.lps).map lpC) false),(.fsl ((c.progs).map qau) false),(ii c.look),(ii c.fin),(ii c.cap)])∧wr y.2.1.vars 8=some (.ptr 0 0 0 0)∧wr y.2.1.vars 9=some (.ptr 3 0 0 0)∧wr y.2.1.vars 10=some (ii n)):=by
 simp only[SObj.lo]at h4 h5
 have key:=qcq (f:=exec (evL T) itL none qow) (s:=qu [3,4,8,9,10,16,18] true 6) (α:=List Evt)
  (fun i a=>⟨[(3,(ii hor)),(4,(.fptr [(.fsl ((c.lps).map lpC) false),(.fsl ((c.progs).map qau) false),(ii c.look),(ii c.fin),(ii c.cap)])),(8,.ptr 0 0 0 0),(9,.ptr 3 0 0 0),(10,(ii n)),(16,(.fsl ((G).map qh7) cg)),(18,(ii i))],[]⟩) (fun _ a=>[(.row 8 [[(ii 0),(ii 0),.fsl [] false,(ii 0),.fsl [] false,.fsl [] false,.fsl [] false,(bb false)]] 0),.row 6 (dn.map Evt.r) g1,.row 6 ((s).map Evt.r) g2,.row 8 [[(ii ((x).r0)),(ii ((x).r1)),(.fsl (((x).procs).map Pr.r) f),(ii ((x).sum)),(.fsl ((a).map Evt.r) false),.sl 1 g1 0 dn.length false,.sl 2 g2 0 (s).length false,(bb o)]] 0,X4,X5]) (fun i a=>a=q0r b (G.take i)) G.length
  (fun y=>y.1 = .exit 2∧y.2.1.marks=[]∧y.2.2=[(.row 8 [[(ii 0),(ii 0),.fsl [] false,(ii 0),.fsl [] false,.fsl [] false,.fsl [] false,(bb false)]] 0),.row 6 (dn.map Evt.r) g1,.row 6 ((s).map Evt.r) g2,.row 8 [[(ii ((x).r0)),(ii ((x).r1)),(.fsl (((x).procs).map Pr.r) f),(ii ((x).sum)),(.fsl (((q0r b G)).map Evt.r) false),.sl 1 g1 0 dn.length false,.sl 2 g2 0 (s).length false,(bb o)]] 0,X4,X5]∧wr y.2.1.vars 3=some (ii hor)∧wr y.2.1.vars 4=some (.fptr [(.fsl ((c.lps).map lpC) false),(.fsl ((c.progs).map qau) false),(ii c.look),(ii c.fin),(ii c.cap)])∧wr y.2.1.vars 8=some (.ptr 0 0 0 0)∧wr y.2.1.vars 9=some (.ptr 3 0 0 0)∧wr y.2.1.vars 10=some (ii n)) ?_ ?_ 0 b (waa _) rfl
 ·exact key
 ·rintro i a hi ha
  obtain⟨k,hkk⟩ : ∃k,G[i]? = some k:=⟨_,zgE hi⟩
  have hi':(i:Int)<(G.length:Int):=by omega
  have hw:IntKind.i64.wrap ((i:Int)+1)=((i+1:Nat):Int):=by rw[qi (by omega) (by omega)];simp
  have hs:a.Sublist b:=by rw[ha];exact qtg _ _
  obtain⟨cf,hC⟩:=qacq a false k false (by have:=hs.length_le;omega) (fun z hz=>hk z (hs.subset hz)) (hGk k (zmg hkk))
  refine .inl ⟨(qem a k).1,?_,by rw[List.take_add_one,hkk,ha];exact(qaew _ _ _).symm⟩
  generalize qem a k=ck at *
  obtain⟨cl,cb⟩:=ck
  simp only at hC⊢
  simp only[qow,zgs,zgr,zgq,zgt,hkk,hi',hw,hC,qh7,h4,h5,qh,qg,qbj,qr,qax,qv,wn,wJ,qb,wp,wD,wq,wi,zgy,↓qc,↓wf,we,wa,wh,wC]
 ·rintro a ha
  rw[List.take_length]at ha
  rw[←ha]
  simp only[qow,Int.lt_irrefl,wn,zgy,↓qc,↓wf,wa]
  exact⟨_,rfl,rfl,rfl,rfl,rfl,rfl,rfl,rfl,rfl⟩
end
section
variable {c:Cfg} {f:Bool}
theorem all_L (hor:Int) : ∀(k:Nat) {w:WSt} {i:Nat} {O:List Evt} {S:Sim} {H:List Evt} (g1 g2:Nat),w.done.length+k=2000→WInv c i w O S H→(f=true→w.lp.procs=[])→H.length+k≤20000 →
  ∃y,itB (exec (evL T) itL none qhs) (qu [3,4,8,9,10] true 4) ⟨[(3,(ii hor)),(4,(.fptr [(.fsl ((c.lps).map lpC) false),(.fsl ((c.progs).map qau) false),(ii c.look),(ii c.fin),(ii c.cap)])),(8,.ptr 0 0 0 0),(9,.ptr 3 0 0 0),(10,(ii w.done.length))],[]⟩ [(.row 8 [[(ii 0),(ii 0),.fsl [] false,(ii 0),.fsl [] false,.fsl [] false,.fsl [] false,(bb false)]] 0),.row 6 ((w).done.map Evt.r) g1,.row 6 ((w).sent.map Evt.r) g2,.row 8 [[(ii (((w).lp).r0)),(ii (((w).lp).r1)),(.fsl ((((w).lp).procs).map Pr.r) f),(ii (((w).lp).sum)),(.fsl (((w).box).map Evt.r) false),.sl 1 g1 0 (w).done.length false,.sl 2 g2 0 (w).sent.length false,(bb ((w).over))]] 0]=some y ∧
   ∃g1' g2':Nat,y.1 = .exit 0∧y.2.1.marks=[]∧(∃X:qj,y.2.2=[(.row 8 [[(ii 0),(ii 0),.fsl [] false,(ii 0),.fsl [] false,.fsl [] false,.fsl [] false,(bb false)]] 0),.row 6 (((WSt.run c hor k w)).done.map Evt.r) g1',.row 6 (((WSt.run c hor k w)).sent.map Evt.r) g2',.row 8 [[(ii ((((WSt.run c hor k w)).lp).r0)),(ii ((((WSt.run c hor k w)).lp).r1)),(.fsl (((((WSt.run c hor k w)).lp).procs).map Pr.r) f),(ii ((((WSt.run c hor k w)).lp).sum)),(.fsl ((((WSt.run c hor k w)).box).map Evt.r) false),.sl 1 g1' 0 ((WSt.run c hor k w)).done.length false,.sl 2 g2' 0 ((WSt.run c hor k w)).sent.length false,(bb (((WSt.run c hor k w)).over))]] 0]++X)∧wr y.2.1.vars 8=some (.ptr 0 0 0 0)∧wr y.2.1.vars 9=some (.ptr 3 0 0 0):=by
 intro k
 induction k with
 |zero=>
  intro w i O S H g1 g2 hk h hf hn
  have c1:¬(w.done.length:Int)<2000:=by omega
  have hx : ∃y,it1 (exec (evL T) itL none qhs) (qu [3,4,8,9,10] true 4) ⟨[(3,(ii hor)),(4,(.fptr [(.fsl ((c.lps).map lpC) false),(.fsl ((c.progs).map qau) false),(ii c.look),(ii c.fin),(ii c.cap)])),(8,.ptr 0 0 0 0),(9,.ptr 3 0 0 0),(10,(ii w.done.length))],[]⟩ [(.row 8 [[(ii 0),(ii 0),.fsl [] false,(ii 0),.fsl [] false,.fsl [] false,.fsl [] false,(bb false)]] 0),.row 6 ((w).done.map Evt.r) g1,.row 6 ((w).sent.map Evt.r) g2,.row 8 [[(ii (((w).lp).r0)),(ii (((w).lp).r1)),(.fsl ((((w).lp).procs).map Pr.r) f),(ii (((w).lp).sum)),(.fsl (((w).box).map Evt.r) false),.sl 1 g1 0 (w).done.length false,.sl 2 g2 0 (w).sent.length false,(bb ((w).over))]] 0]=some (.inr y)∧y.1 = .exit 0∧y.2.1.marks=[]∧y.2.2=[(.row 8 [[(ii 0),(ii 0),.fsl [] false,(ii 0),.fsl [] false,.fsl [] false,.fsl [] false,(bb false)]] 0),.row 6 ((w).done.map Evt.r) g1,.row 6 ((w).sent.map Evt.r) g2,.row 8 [[(ii (((w).lp).r0)),(ii (((w).lp).r1)),(.fsl ((((w).lp).procs).map Pr.r) f),(ii (((w).lp).sum)),(.fsl (((w).box).map Evt.r) false),.sl 1 g1 0 (w).done.length false,.sl 2 g2 0 (w).sent.length false,(bb ((w).over))]] 0]∧wr y.2.1.vars 8=some (.ptr 0 0 0 0)∧wr y.2.1.vars 9=some (.ptr 3 0 0 0):=by
   simp only[qhs,c1,wn,zgy,↓qc,↓wf,wa]
   exact⟨_,rfl,rfl,rfl,rfl,rfl,rfl⟩
  obtain⟨y,h1,h2,h3,h4,h5,h6⟩:=hx
  exact⟨y,qn8 h1,g1,g2,h2,h3,⟨[],by rw[wz];exact h4⟩,h5,h6⟩
 |succ k ih=>
  intro w i O S H g1 g2 hk h hf hn
  have c1:(w.done.length:Int)<2000:=by omega
  have hl:=h.len
  obtain⟨cf,hT⟩:=qae8 w.box false hor (by omega)
  cases hb:w.box with
  |nil=>
   have hrun:WSt.run c hor (k+1) w=w:=by rw[WSt.run,hb]
   rw[hrun]
   rw[hb]at hT
   have hx : ∃y,it1 (exec (evL T) itL none qhs) (qu [3,4,8,9,10] true 4) ⟨[(3,(ii hor)),(4,(.fptr [(.fsl ((c.lps).map lpC) false),(.fsl ((c.progs).map qau) false),(ii c.look),(ii c.fin),(ii c.cap)])),(8,.ptr 0 0 0 0),(9,.ptr 3 0 0 0),(10,(ii w.done.length))],[]⟩ [(.row 8 [[(ii 0),(ii 0),.fsl [] false,(ii 0),.fsl [] false,.fsl [] false,.fsl [] false,(bb false)]] 0),.row 6 ((w).done.map Evt.r) g1,.row 6 ((w).sent.map Evt.r) g2,.row 8 [[(ii (((w).lp).r0)),(ii (((w).lp).r1)),(.fsl ((((w).lp).procs).map Pr.r) f),(ii (((w).lp).sum)),(.fsl (((w).box).map Evt.r) false),.sl 1 g1 0 (w).done.length false,.sl 2 g2 0 (w).sent.length false,(bb ((w).over))]] 0]=some (.inr y)∧y.1 = .exit 0∧y.2.1.marks=[]∧(∃X,y.2.2=[(.row 8 [[(ii 0),(ii 0),.fsl [] false,(ii 0),.fsl [] false,.fsl [] false,.fsl [] false,(bb false)]] 0),.row 6 ((w).done.map Evt.r) g1,.row 6 ((w).sent.map Evt.r) g2,.row 8 [[(ii (((w).lp).r0)),(ii (((w).lp).r1)),(.fsl ((((w).lp).procs).map Pr.r) f),(ii (((w).lp).sum)),(.fsl (((w).box).map Evt.r) false),.sl 1 g1 0 (w).done.length false,.sl 2 g2 0 (w).sent.length false,(bb ((w).over))]] 0]++X)∧wr y.2.1.vars 8=some (.ptr 0 0 0 0)∧wr y.2.1.vars 9=some (.ptr 3 0 0 0):=by
    simp only[qqn,qac6,wI]at hT
    simp only[hb,wI]
    simp only[qhs,c1,hT,wn,wJ,qb,wp,wq,ne_eq,zgy,↓qc,↓wf,we,wa,wg]
    exact⟨_,rfl,rfl,rfl,⟨_,rfl⟩,rfl,rfl⟩
   obtain⟨y,h1,h2,h3,h4,h5,h6⟩:=hx
   rw[hb]at h1
   exact⟨y,qn8 h1,g1,g2,h2,h3,h4,h5,h6⟩
  |cons e rest=>
   rw[hb]at hT
   by_cases ht:e.time<hor
   ·have hrun:WSt.run c hor (k+1) w=WSt.run c hor k (w.step c e rest):=by rw[WSt.run,hb];simp only[ht,if_true]
    rw[hrun]
    obtain⟨hel,R,_⟩:=h.ready (by omega) hb
    have hP:=h.plOk (by omega) hb
    obtain⟨S',hS,_⟩:=h.step (by omega) hb
    have hz:=R.sizes
    have hE:=qam9 R f hf
    have hdl:(w.step c e rest).done.length=w.done.length+1:=by simp[WSt.step]
    have hpl:=qt6 e.lp (qa4 c w.lp e).out (rest,w.sent) []
    have hln:=hP.len
    have hkk:=hP.ok
    rw[wz,wz]at hpl
    obtain⟨g2',hp⟩:=place_ev (.row 8 [[(ii (((qa4 c w.lp e).lp).r0)),(ii (((qa4 c w.lp e).lp).r1)),(.fsl ((((qa4 c w.lp e).lp).procs).map Pr.r) f),(ii (((qa4 c w.lp e).lp).sum)),(.fsl ((rest).map Evt.r) false),.sl 1 (g1+1) 0 (w.done++[e]).length false,.sl 2 g2 0 w.sent.length false,(bb ((w.over||(qa4 c w.lp e).over)))]] 0) (.row 6 [e.r] 0) (.row 4 [[(ii ((qa4 c w.lp e).lp.r0)),(ii ((qa4 c w.lp e).lp.r1)),(.fsl (((qa4 c w.lp e).lp.procs).map Pr.r) f),(ii ((qa4 c w.lp e).lp.sum))]] 0) (w.done++[e]) (g1+1) (qa4 c w.lp e).lp (w.over||(qa4 c w.lp e).over) f
     (by simp only[qh,qr,wn,wi,zgy,wh]) (by simp only[Evt.r,qg,wn,wi,zgy]) (by simp only[qr,wn,wi,zgy]) e.lp (qa4 c w.lp e).out (qa4 c w.lp e).nil rest w.sent g2 hP
    obtain⟨⟨y2,f2,σ2⟩,m1,m2,m3,m4,m5,m6,m7,m8,m9⟩:=all_l2 (c:=c) (.row 6 [e.r] 0) (.row 4 [[(ii ((qa4 c w.lp e).lp.r0)),(ii ((qa4 c w.lp e).lp.r1)),(.fsl (((qa4 c w.lp e).lp.procs).map Pr.r) f),(ii ((qa4 c w.lp e).lp.sum))]] 0) (w.done++[e]) (g1+1) (qa4 c w.lp e).lp (w.over||(qa4 c w.lp e).over) f
     (by simp only[Evt.r,qg,wn,wi,zgy]) (by simp only[qr,wn,wi,zgy]) hor (w.done.length:Int) (qa4 c w.lp e).gone (qa4 c w.lp e).nil (qdq e.lp (rest,w.sent) (qa4 c w.lp e).out).1 (qdq e.lp (rest,w.sent) (qa4 c w.lp e).out).2 g2'
     (by have:=hpl.length_eq;simp only[zgp]at this hln;omega) (fun z hz'=>hkk z (hpl.mem_iff.1 (wX _ hz'))) (by omega) (fun k hk'=>by have:=hz.2.2.2.2.1 k hk';omega)
    simp only[wQ]at m1 m2 m3 m4 m5 m6 m7 m8 m9
    subst m2;subst m4
    obtain⟨y,k1,k2⟩:=ih (w:=w.step c e rest) (S:=S') (H:=H++[e]) (g1+1) g2' (by omega) hS (fun k=>qaao (hf k)) (by simp;omega)
    refine⟨y,qm7 ?_ k1,k2⟩
    have hw:IntKind.i64.wrap ((w.done.length:Int)+1)=((w.done.length+1:Nat):Int):=by rw[qi (by omega) (by omega)];simp
    clear k1 k2 ih hS hrun h hpl hkk hln R hP hz
    rw[hdl]
    unfold WSt.step
    simp only
    generalize qa4 c w.lp e=r at *
    generalize (qdq e.lp (rest,w.sent) r.out).2=Z at *
    generalize (qdq e.lp (rest,w.sent) r.out).1=B at *
    generalize q0r B r.gone=B' at *
    obtain⟨wl,wb,wd,ws,wo⟩:=w
    simp only at hw c1 hE hb hp m1⊢
    subst hb
    have bd:(wd.length+1)*64≤140737488355328:=by simp only at hk;omega
    have tk:wL wd.length (wd.map Evt.r)=wd.map Evt.r:=ztl (by simp)
    have hle:wd.length≤wd.length:=wu _
    have lo4:=qh 4 (wd++[e])
    have lo6:=qh 6 (wd++[e])
    obtain⟨et,ek,el,ei,ep,ea⟩:=e
    obtain⟨a0,a1,ap,as'⟩:=wl
    simp only at ht
    simp only[qqn,ht,if_true,wN,Evt.r]at hT
    rw[wA]at lo4 lo6 hp m1
    simp only[wA,zgp,wN,wI,zga,zgb,zfd,Evt.r]at lo4 lo6 hp m1⊢
    cases hvo:wo<;>(rw[hvo]at hp m1;simp only[Bool.true_or,Bool.false_or]at hp m1 ⊢;simp only[qhs,c1,hT,hE,hp,m1,m3,m5,m6,m7,m8,m9,bd,tk,hle,lo4,lo6,hw,qh,qg,qbj,qr,qax,qv,wn,wJ,qqk,qb,qaw,wp,wD,wq,wi,ne_eq,zgy,↓qc,↓qq,↓wf,we,wa,waf,wh,wC,wP])
   ·have hrun:WSt.run c hor (k+1) w=w:=by rw[WSt.run,hb];simp only[ht,if_false]
    rw[hrun]
    have hx : ∃y,it1 (exec (evL T) itL none qhs) (qu [3,4,8,9,10] true 4) ⟨[(3,(ii hor)),(4,(.fptr [(.fsl ((c.lps).map lpC) false),(.fsl ((c.progs).map qau) false),(ii c.look),(ii c.fin),(ii c.cap)])),(8,.ptr 0 0 0 0),(9,.ptr 3 0 0 0),(10,(ii w.done.length))],[]⟩ [(.row 8 [[(ii 0),(ii 0),.fsl [] false,(ii 0),.fsl [] false,.fsl [] false,.fsl [] false,(bb false)]] 0),.row 6 ((w).done.map Evt.r) g1,.row 6 ((w).sent.map Evt.r) g2,.row 8 [[(ii (((w).lp).r0)),(ii (((w).lp).r1)),(.fsl ((((w).lp).procs).map Pr.r) f),(ii (((w).lp).sum)),(.fsl (((w).box).map Evt.r) false),.sl 1 g1 0 (w).done.length false,.sl 2 g2 0 (w).sent.length false,(bb ((w).over))]] 0]=some (.inr y)∧y.1 = .exit 0∧y.2.1.marks=[]∧(∃X,y.2.2=[(.row 8 [[(ii 0),(ii 0),.fsl [] false,(ii 0),.fsl [] false,.fsl [] false,.fsl [] false,(bb false)]] 0),.row 6 ((w).done.map Evt.r) g1,.row 6 ((w).sent.map Evt.r) g2,.row 8 [[(ii (((w).lp).r0)),(ii (((w).lp).r1)),(.fsl ((((w).lp).procs).map Pr.r) f),(ii (((w).lp).sum)),(.fsl (((w).box).map Evt.r) false),.sl 1 g1 0 (w).done.length false,.sl 2 g2 0 (w).sent.length false,(bb ((w).over))]] 0]++X)∧wr y.2.1.vars 8=some (.ptr 0 0 0 0)∧wr y.2.1.vars 9=some (.ptr 3 0 0 0):=by
     rw[hb]
     obtain⟨et,ek,el,ei,ep,ea⟩:=e
     simp only at ht
     simp only[qqn,ht,if_false,qac6,wN,wI,Evt.r]at hT
     simp only[wN,Evt.r]
     simp only[qhs,c1,hT,qh,qg,wn,wJ,qb,wp,wq,ne_eq,zgy,↓qc,↓wf,we,wa,wg]
     exact⟨_,rfl,rfl,rfl,⟨_,rfl⟩,rfl,rfl⟩
    obtain⟨y,h1,h2,h3,h4,h5,h6⟩:=hx
    rw[hb]at h1
    exact⟨y,qn8 h1,g1,g2,h2,h3,h4,h5,h6⟩
theorem RAll_ev (hor:Int) {x:Lp} {b:List Evt} {cb:Bool} {i:Nat} {O:List Evt} {S:Sim} {H:List Evt} (h:WInv c i ⟨x,b,[],[],false⟩ O S H) (hf:f=true→x.procs=[]) (hn:H.length≤18000) :
  qm (evL T) qnh [(.agg [(.fsl ((c.lps).map lpC) false),(.fsl ((c.progs).map qau) false),(ii c.look),(ii c.fin),(ii c.cap)]),(.agg [(ii x.r0),(ii x.r1),(.fsl ((x.procs).map Pr.r) f),(ii x.sum)]),(.fsl ((b).map Evt.r) cb),(ii hor)]=some (.agg [(ii ((WSt.run c hor 2000 ⟨x,b,[],[],false⟩).lp.r0)),(ii ((WSt.run c hor 2000 ⟨x,b,[],[],false⟩).lp.r1)),(.fsl (((WSt.run c hor 2000 ⟨x,b,[],[],false⟩).lp.procs).map Pr.r) f),(ii ((WSt.run c hor 2000 ⟨x,b,[],[],false⟩).lp.sum)),(.fsl (((WSt.run c hor 2000 ⟨x,b,[],[],false⟩).box).map Evt.r) false),(.fsl (((WSt.run c hor 2000 ⟨x,b,[],[],false⟩).done).map Evt.r) false),(.fsl (((WSt.run c hor 2000 ⟨x,b,[],[],false⟩).sent).map Evt.r) false),(bb ((WSt.run c hor 2000 ⟨x,b,[],[],false⟩).over))]):=by
 obtain⟨⟨y,e,σ⟩,k1,g1,g2,k2,k3,⟨X,k4⟩,k5,k6⟩:=all_L (f:=f) hor 2000 0 0 rfl h hf (by omega)
 simp only at k1 k2 k3 k4 k5 k6
 subst k2;subst k4
 generalize WSt.run c hor 2000 ⟨x,b,[],[],false⟩=w at *
 have tk1:wL w.done.length (w.done.map Evt.r)=w.done.map Evt.r:=ztl (by simp)
 have tk2:wL w.sent.length (w.sent.map Evt.r)=w.sent.map Evt.r:=ztl (by simp)
 have hle : ∀n:Nat,n≤n:=fun n=>wu n
 simp only[wI,zgb,wQ]at k1
 rw[qm,qd qafz qadw]
 simp only[qx5,k1,k3,k5,k6,tk1,tk2,hle,qh,qr,qax,qv,zgm,zgl,wn,wJ,qb,wp,wD,wq,qk,wi,ne_eq,zgy,↓qc,↓qq,↓wf,we,wa,wh,wC,wg]
end
end Go.Proofs.YtpgdfkciinankaaGreat.K
