/- For every input ParsimEquivalent returns true, and its arguments read as before. No conditions. -/
import Derived.Test.YtpgdfkciinankaaGreatGR04
import Derived.Test.YtpgdfkciinankaaGreatGR07
import Derived.Test.YtpgdfkciinankaaGreatGR10
set_option linter.unusedSectionVars false
set_option linter.unusedSimpArgs false
set_option linter.unusedVariables false
namespace Go.Proofs.YtpgdfkciinankaaGreat.K
open Go.Ev
set_option maxRecDepth 10000
def qpz (e:Evt) (old:List Int→Prop) (x:Ex) (g:List Int):Prop:=g=[]∨old g ∨ ∃m:Int,m<x.n∧g=e.key++[m] ∧ ∀b∈x.out,b.key=g→b.lp=e.lp∧b.kind=2
structure NInv (e:Evt) (old:List Int→Prop) (n:Nat) (x:Ex):Prop where
 ev:x.ev=e
 cnt:0≤x.n∧x.n≤n
 outs : ∀b∈x.out,∃m:Int,m<x.n∧b.key=e.key++[m]
 tim : ∀q∈x.procs,qpz e old x q.timer
 gone : ∀g∈x.gone,qpz e old x g
section
variable {e:Evt} {old:List Int→Prop} {n:Nat} {x:Ex}
theorem NInv.mono (h:NInv e old n x) {m:Nat} (hm:n≤m):NInv e old m x:=⟨h.ev,by have:=h.cnt;omega,h.outs,h.tim,h.gone⟩
theorem NInv.setP (h:NInv e old n x) (i:Nat) {q:Pr} (hq:qpz e old x q.timer):NInv e old n (x.setP i q):=by
 refine⟨h.ev,h.cnt,h.outs,fun q' hq' => ?_,h.gone⟩
 rcases List.mem_or_eq_of_mem_set hq' with hq'|rfl
 ·exact h.tim q' hq'
 ·exact hq
theorem NInv.at (h:NInv e old n x) {i:Nat} {q:Pr} (hq:x.procs[i]? = some q):qpz e old x q.timer:=h.tim q (zmg hq)
theorem NInv.stop (h:NInv e old n x) (i:Nat) {q:Pr} (hq:qpz e old x q.timer):NInv e old n (x.stopE i q):=by
 unfold Ex.stopE;split
 ·refine⟨h.ev,h.cnt,h.outs,fun q' hq' => ?_,fun g hg => ?_⟩
  ·rcases List.mem_or_eq_of_mem_set hq' with hq'|rfl
   ·exact h.tim q' hq'
   ·exact .inl rfl
  ·rcases List.mem_append.1 hg with hg|hg
   ·exact h.gone g hg
   ·rw[List.mem_singleton]at hg;subst hg;exact hq
 ·exact h
theorem NInv.create (h:NInv e old n x) (hn:n≤1000) (d:Int) (s:Evt):NInv e old (n+1) (x.create d s)∧(∀g,qpz e old x g→qpz e old (x.create d s) g)∧(s.lp=e.lp∧s.kind=2→qpz e old (x.create d s) x.kid):=by
 obtain⟨c1,c2⟩:=h.cnt
 have hw:w64 (x.n+1)=x.n+1:=qi (by omega) (by omega)
 have hkid:x.kid=e.key++[x.n]:=by unfold Ex.kid;rw[h.ev]
 have hout : ∀b∈(x.create d s).out,b∈x.out∨(b.key=e.key++[x.n]∧b.lp=s.lp∧b.kind=s.kind):=by
  intro b hb
  unfold Ex.create at hb
  simp only at hb
  split at hb
  ·exact .inl hb
  ·rcases List.mem_append.1 hb with hb|hb
   ·exact .inl hb
   ·rw[List.mem_singleton]at hb;subst hb;exact .inr ⟨hkid,rfl,rfl⟩
 have hxn:(x.create d s).n=x.n+1:=hw
 have nm : ∀g,qpz e old x g→qpz e old (x.create d s) g:=by
  rintro g (rfl|hg|⟨m,h1,rfl,h3⟩)
  ·exact .inl rfl
  ·exact .inr (.inl hg)
  ·refine .inr (.inr ⟨m,by omega,rfl,fun b hb hk => ?_⟩)
   rcases hout b hb with hb|⟨hb,_⟩
   ·exact h3 b hb hk
   ·rw[hb]at hk
    have:=List.append_cancel_left hk
    simp only[List.cons.injEq,and_true]at this;omega
 refine⟨⟨h.ev,by rw[hxn];omega,fun b hb => ?_,fun q hq=>nm _ (h.tim q hq),fun g hg=>nm _ (h.gone g hg)⟩,nm,fun hs => .inr (.inr ⟨x.n,by omega,hkid,fun b hb hk => ?_⟩)⟩
 ·rcases hout b hb with hb|⟨hb,_⟩
  ·obtain⟨m,h1,h2⟩:=h.outs b hb;exact⟨m,by omega,h2⟩
  ·exact⟨x.n,by omega,hb⟩
 ·rcases hout b hb with hb|⟨_,hb⟩
  ·obtain⟨m,h1,h2⟩:=h.outs b hb
   rw[hkid,h2]at hk
   have:=List.append_cancel_left hk
   simp only[List.cons.injEq,and_true]at this;omega
  ·rw[hb.1,hb.2,hs.1,hs.2];exact⟨rfl,rfl⟩
theorem NInv.kill (h:NInv e old n x) (i:Nat):NInv e old n (qs0 x i):=by
 unfold qs0;split
 next q hq=>exact h.setP i (q:={ q with alive:=false }) (show qpz e old x q.timer from h.at hq)
 ·exact h
theorem NInv.step (h:NInv e old n x) (hn:n≤999) (i:Nat) (q:Pr) (op:OpI) (hq:qpz e old x q.timer):NInv e old (n+1) (qgd x i q op).1:=by
 unfold qgd
 split
 ·exact(h.create (by omega) _ _).1
 split
 ·exact(h.create (by omega) _ _).1
 split
 next k=>
  show NInv e old (n+1) (x.timerE i q op)
  unfold Ex.timerE
  have hs:=h.stop i hq
  obtain⟨a,b,c⟩:=hs.create (by omega) op.a (x.ownE 2 x.ev.proc op.b)
  exact a.setP i (q:={ q with timer:=(x.stopE i q).kid }) (c ⟨by show x.ev.lp=e.lp;rw[h.ev],rfl⟩)
 split
 ·exact(h.stop i hq).mono (by omega)
 split
 ·show NInv e old (n+1) (x.spawnE op)
  unfold Ex.spawnE;split
  ·have h2:NInv e old n ({ x with procs:=x.procs++[⟨op.a,0,true,[]⟩] }:Ex):=by
    refine⟨h.ev,h.cnt,h.outs,fun q' hq' => ?_,h.gone⟩
    rcases List.mem_append.1 hq' with hq'|hq'
    ·exact h.tim q' hq'
    ·rw[List.mem_singleton]at hq';subst hq';exact .inl rfl
   exact(h2.create (by omega) _ _).1
  ·exact h.mono (by omega)
 split
 ·show NInv e old (n+1) (x.setReg _ _)
  unfold Ex.setReg;split<;>exact⟨h.ev,by have:=h.cnt;simp only;omega,h.outs,h.tim,h.gone⟩
 split
 ·show NInv e old (n+1) (if _ then _ else _)
  split
  ·exact(h.setP i (q:={ q with pc:=op.c }) hq).mono (by omega)
  ·exact h.mono (by omega)
 ·exact h.mono (by omega)
theorem NInv.act {p:List OpI} (i:Nat) : ∀(m n:Nat) {x:Ex},n+m≤999→NInv e old n x→NInv e old (n+m) (qvq p i m x)
 | 0,n,x,_,h=>h.kill i
 |m+1,n,x,hn,h=>by
  unfold qvq
  split
  ·exact h.mono (by omega)
  rename_i q hq
  split
  ·exact(h.kill i).mono (by omega)
  rename_i op hop
  have h0:NInv e old n (x.setP i { q with pc:=w64 (q.pc+1) }):=h.setP i (show qpz e old x q.timer from h.at hq)
  have hs:=h0.step (by omega) i { q with pc:=w64 (q.pc+1) } op (show qpz e old (x.setP i _) q.timer from h.at hq)
  split
  ·exact hs.mono (by omega)
  split
  ·exact(hs.kill i).mono (by omega)
  ·have:=NInv.act (p:=p) i m (n+1) (by omega) hs
   rw[show n+(m+1)=n+1+m from by omega];exact this
end
theorem qaja (c:Cfg) (x:Lp) (e:Evt):(∀g,(g∈(qa1 c x e).gone ∨ ∃q∈(qa1 c x e).lp.procs,q.timer=g)→g=[]∨(∃q∈x.procs,q.timer=g)∨((∃m:Int,g=e.key++[m]) ∧ ∀b∈(qa1 c x e).out,b.key=g→b.lp=e.lp∧b.kind=2)):=by
 unfold qa1
 split
 ·rintro g (hg|hg)
  ·cases hg
  ·exact .inr (.inl hg)
 split
 ·rintro g (hg|hg)
  ·cases hg
  ·exact .inr (.inl hg)
 next q ha=>
  obtain⟨_,_,hq,_⟩:=q91 ha
  have h0:NInv e (fun g => ∃q∈x.procs,q.timer=g) 0 (ql4 x e):=⟨rfl,⟨Int.le_refl 0,Int.le_refl 0⟩,fun b hb=>(by cases hb),fun q hq => .inr (.inl ⟨q,hq,rfl⟩),fun g hg=>(by cases hg)⟩
  have hw:qpz e (fun g => ∃q∈x.procs,q.timer=g) (ql4 x e) (qn6 e q).timer:=by
   unfold qn6;split
   ·show qpz e _ _ (if q.timer=e.key then []else q.timer)
    split
    ·exact .inl rfl
    ·exact .inr (.inl ⟨q,zmg hq,rfl⟩)
   ·exact .inr (.inl ⟨q,zmg hq,rfl⟩)
  have h1:=NInv.act (p:=(c.progs[q.prog.toNat]?).getD []) e.proc.toNat 16 0 (by omega) (h0.setP e.proc.toNat hw)
  change NInv e _ _ (q0m c x e q)at h1
  have fin : ∀g,qpz e (fun g => ∃q∈x.procs,q.timer=g) (q0m c x e q) g→g=[]∨(∃q∈x.procs,q.timer=g)∨((∃m:Int,g=e.key++[m]) ∧ ∀b∈(q0m c x e q).out,b.key=g→b.lp=e.lp∧b.kind=2):=by
   rintro g (rfl|hg|⟨m,_,h2,h3⟩)
   ·exact .inl rfl
   ·exact .inr (.inl hg)
   ·exact .inr (.inr ⟨⟨m,h2⟩,h3⟩)
  rintro g (hg|⟨q',hq',rfl⟩)
  ·exact fin g (h1.gone g hg)
  ·exact fin _ (h1.tim q' hq')
set_option maxRecDepth 10000
structure TOwn (c:Cfg) (s:Sim) (h:List Evt):Prop where
 own : ∀(i:Nat) (x:Lp) (q:Pr),s.lps[i]? = some x→q∈x.procs → ∀b∈s.pend,b.key=q.timer→b.lp=(i:Int)∧b.kind=2
 par : ∀(i:Nat) (x:Lp) (q:Pr),s.lps[i]? = some x→q∈x.procs→q.timer=[] ∨ ∃p∈h,∃m,q.timer=p.key++[m]
section
variable {c:Cfg} {s:Sim} {h:List Evt} {e:Evt} {rest:List Evt}
theorem qacb {a b:List Int} {m m':Int} (h:a++[m]=b++[m']):a=b:=by
 have:=congrArg List.length h
 simp at this
 exact(List.append_inj h this).1
theorem TOwn.names (H:SInvK c s h) (t:TOwn c s h) (hp:s.pend.Perm (e::rest)) (hn:h.length≤20000) {g:List Int} (hg:g∈(qa1 c (lpAt s e.lp) e).gone ∨ ∃q∈(qa1 c (lpAt s e.lp) e).lp.procs,q.timer=g) :
  (∀b∈rest++(qa1 c (lpAt s e.lp) e).out,b.key=g→b.lp=e.lp∧b.kind=2)∧(g=[] ∨ ∃p∈h++[e],∃m,g=p.key++[m]):=by
 have hme:e∈s.pend:=hp.mem_iff.2 (by simp)
 obtain⟨x,hx,hlx,R⟩:=H.headM hme hn
 have ge:=H.ev e (List.mem_append_right _ hme)
 rw[hlx]at hg⊢
 obtain⟨X,_,o1,_⟩:=R.outs
 have outk : ∀b∈(qa1 c x e).out,∃m:Int,b.key=e.key++[m]:=fun b hb=>by
  obtain⟨k,hk⟩:=List.mem_iff_getElem?.1 hb
  obtain⟨m,hm,_⟩:=(o1 k b hk).key
  exact⟨m,hm⟩
 have hpre : ∀p∈h,¬p.key=e.key:=fun p hph hk=>by
  have:=(List.pairwise_append.1 H.keys).2.2 p hph e hme
  exact this hk
 have restk : ∀b∈rest,∀m:Int,¬b.key=e.key++[m]:=fun b hb m hk=>by
  rcases H.par b (List.mem_append_right _ (hp.mem_iff.2 (List.mem_cons_of_mem _ hb)))with h2|⟨p,hp1,m',h2,_⟩
  ·rw[hk]at h2;simp at h2;have:=ge.key;omega
  ·rw[hk]at h2;exact hpre p hp1 (qacb h2).symm
 have restg : ∀b∈rest,2≤b.key.length:=fun b hb=>(H.ev b (List.mem_append_right _ (hp.mem_iff.2 (List.mem_cons_of_mem _ hb)))).key.1
 have lpi:((e.lp.toNat:Nat):Int)=e.lp:=by have:=ge.lp;omega
 rcases qaja c x e g hg with rfl|⟨q,hq,rfl⟩|⟨⟨m,hm⟩,hc⟩
 ·refine⟨fun b hb hk => ?_,.inl rfl⟩
  rcases List.mem_append.1 hb with hb|hb
  ·have:=restg b hb;rw[hk]at this;simp at this
  ·obtain⟨m,hm⟩:=outk b hb;rw[hk]at hm;simp at hm
 ·have hpar:=t.par _ x q hx hq
  refine⟨fun b hb hk => ?_,?_⟩
  ·rcases List.mem_append.1 hb with hb|hb
   ·have:=t.own _ x q hx hq b (hp.mem_iff.2 (List.mem_cons_of_mem _ hb)) hk
    rw[lpi]at this;exact this
   ·obtain⟨m,hm⟩:=outk b hb
    rcases hpar with h0|⟨p,hp1,m',h2⟩
    ·rw[hk,h0]at hm;simp at hm
    ·rw[hk,h2]at hm;exact absurd (qacb hm) (hpre p hp1)
  ·rcases hpar with h0|⟨p,hp1,m',h2⟩
   ·exact .inl h0
   ·exact .inr ⟨p,List.mem_append_left _ hp1,m',h2⟩
 ·refine⟨fun b hb hk => ?_,.inr ⟨e,by simp,m,hm⟩⟩
  rcases List.mem_append.1 hb with hb|hb
  ·rw[hm]at hk;exact absurd hk (restk b hb m)
  ·exact hc b hb hk
theorem TOwn.step (H:SInvK c s h) (t:TOwn c s h) (hp:s.pend.Perm (e::rest)) (hn:h.length≤20000) {S':Sim} (hl:S'.lps=s.lps.set e.lp.toNat (qa1 c (lpAt s e.lp) e).lp) (hP : ∀b∈S'.pend,b∈rest++(qa1 c (lpAt s e.lp) e).out):TOwn c S' (h++[e]):=by
 have hme:e∈s.pend:=hp.mem_iff.2 (by simp)
 obtain⟨x,hx,hlx,R⟩:=H.headM hme hn
 have ge:=H.ev e (List.mem_append_right _ hme)
 have lpi:((e.lp.toNat:Nat):Int)=e.lp:=by have:=ge.lp;omega
 have hlt:e.lp.toNat<s.lps.length:=by rw[H.lpl];have:=ge.lp;omega
 have hpre : ∀p∈h,¬p.key=e.key:=fun p hph hk=>(List.pairwise_append.1 H.keys).2.2 p hph e hme hk
 obtain⟨X,_,o1,_⟩:=R.outs
 refine⟨fun i y q hy hq b hb hk => ?_,fun i y q hy hq => ?_⟩
 ·rw[hl]at hy
  by_cases hi:e.lp.toNat=i
  ·subst hi
   rw[List.getElem?_set_self hlt]at hy;cases hy
   rw[lpi]
   exact(t.names H hp hn (g:=q.timer) (.inr ⟨q,hq,rfl⟩)).1 b (hP b hb) hk
  ·rw[List.getElem?_set_ne hi]at hy
   rcases List.mem_append.1 (hP b hb)with hb|hb
   ·exact t.own i y q hy hq b (hp.mem_iff.2 (List.mem_cons_of_mem _ hb)) hk
   ·rw[hlx]at hb
    obtain⟨k,hk'⟩:=List.mem_iff_getElem?.1 hb
    obtain⟨m,hm,_⟩:=(o1 k b hk').key
    rcases t.par i y q hy hq with h0|⟨p,hp1,m',h2⟩
    ·rw[hk,h0]at hm;simp at hm
    ·rw[hk,h2]at hm;exact absurd (qacb hm) (hpre p hp1)
 ·rw[hl]at hy
  by_cases hi:e.lp.toNat=i
  ·subst hi
   rw[List.getElem?_set_self hlt]at hy;cases hy
   exact(t.names H hp hn (g:=q.timer) (.inr ⟨q,hq,rfl⟩)).2
  ·rw[List.getElem?_set_ne hi]at hy
   rcases t.par i y q hy hq with h0|⟨p,hp1,m',h2⟩
   ·exact .inl h0
   ·exact .inr ⟨p,List.mem_append_left _ hp1,m',h2⟩
end
theorem qaid (c:Cfg) (hv:Valid c):TOwn c (start c) []:=by
 have ht : ∀(i:Nat) (x:Lp) (q:Pr),(start c).lps[i]? = some x→q∈x.procs→q.timer=[]:=by
  intro i x q hx hq
  have hm:=zmg hx
  rw[q8d,List.mem_map]at hm
  obtain⟨ps,hps,rfl⟩:=hm
  simp only[qadb,List.mem_map]at hps
  obtain⟨l,_,rfl⟩:=hps
  simp only[List.mem_map]at hq
  obtain⟨st,_,rfl⟩:=hq
  rfl
 refine⟨fun i x q hx hq b hb hk => ?_,fun i x q hx hq => .inl (ht i x q hx hq)⟩
 rw[ht i x q hx hq]at hk
 have:=((SInv.start hv).ev b (List.mem_append_right _ hb)).key.1
 rw[hk]at this;simp at this
theorem qlo.inj {l:List Evt} (h:qlo l) {a b:Evt} (ha:a∈l) (hb:b∈l) (hk:a.key=b.key):a=b:=by
 induction l with
 |nil=>cases ha
 |cons x r ih=>
  unfold qlo at h
  rw[List.pairwise_cons]at h
  rcases List.mem_cons.1 ha with ha|ha<;>rcases List.mem_cons.1 hb with hb|hb
  ·rw[ha,hb]
  ·rw[ha]at hk ⊢;exact absurd hk (h.1 b hb)
  ·rw[hb]at hk ⊢;exact absurd hk.symm (h.1 a ha)
  ·exact ih h.2 ha hb
theorem qaas {l:List Evt} (h:qlo l) (k:List Int):(qiw l k).1=l.filter fun e => !decide (k=e.key):=by
 unfold qiw
 simp only
 induction l with
 |nil=>rfl
 |cons x r ih=>
  unfold qlo at h
  rw[List.pairwise_cons]at h
  by_cases hx:x.key=k
  ·rw[List.eraseP_cons_of_pos (by simpa using hx),List.filter_cons_of_neg (by simp[hx])]
   refine(List.filter_eq_self.2 fun e he => ?_).symm
   have:=h.1 e he
   simp;intro hk;exact this (hx.trans hk)
  ·rw[List.eraseP_cons_of_neg (by simpa using hx),List.filter_cons_of_pos (by simp;exact fun hk=>hx hk.symm),ih h.2]
theorem q5s : ∀(g:List (List Int)) {l:List Evt},qlo l→qxu l g=l.filter (qd4 g)
 | [],l,_=>(List.filter_eq_self.2 fun e _=>rfl).symm
 |k::g,l,h=>by
  rw[qaba,qaas h,q5s g (List.Pairwise.sublist List.filter_sublist h),List.filter_filter]
  refine List.filter_congr fun e _ => ?_
  unfold qd4
  rw[List.any_cons,Bool.not_or,Bool.and_comm]
section
variable {c:Cfg} {s0:Sim} {f hor:Int}
def fl (n:Nat) (w:Nat→List Evt):List Evt:=((List.range n).map w).flatten
theorem qacz (n:Nat) (w:Nat→List Evt):fl (n+1) w=fl n w++w n:=by unfold fl;rw[List.range_succ,List.map_append,List.flatten_append];simp
def upd {α:Type} (w:Nat→α) (i:Nat) (x:α):Nat→α:=fun j=>if j=i then x else w j
theorem qh5 {α:Type} (w:Nat→α) (i:Nat) (x:α):upd w i x i=x:=if_pos rfl
theorem qnk {α:Type} (w:Nat→α) {i j:Nat} (x:α) (h:j≠i):upd w i x j=w j:=if_neg h
theorem qagv (n i:Nat) (hi:i<n) (w:Nat→List Evt) : ∃O,(fl n w).Perm (w i++O)∧(∀x,(fl n (upd w i x)).Perm (x++O)) ∧ ∀b∈O,∃j,j<n∧j≠i∧b∈w j:=by
 induction n with
 |zero=>omega
 |succ n ih=>
  by_cases e:i=n
  ·subst e
   refine⟨fl i w,by rw[qacz];exact List.perm_append_comm,fun x => ?_,fun b hb => ?_⟩
   ·rw[qacz,qh5]
    have:fl i (upd w i x)=fl i w:=by
     unfold fl;congr 1
     refine List.map_congr_left fun j hj=>qnk w x (by have:=List.mem_range.1 hj;omega)
    rw[this];exact List.perm_append_comm
   ·obtain⟨l,hl,hb⟩:=List.mem_flatten.1 hb
    obtain⟨j,hj,rfl⟩:=List.mem_map.1 hl
    have:=List.mem_range.1 hj
    exact⟨j,by omega,by omega,hb⟩
  ·obtain⟨O,h1,h2,h3⟩:=ih (by omega)
   refine⟨O++w n,by rw[qacz,←List.append_assoc];exact h1.append_right _,fun x => ?_,fun b hb => ?_⟩
   ·rw[qacz,qnk w x (by omega),←List.append_assoc];exact(h2 x).append_right _
   ·rcases List.mem_append.1 hb with hb|hb
    ·obtain⟨j,a,b',d⟩:=h3 b hb;exact⟨j,by omega,b',d⟩
    ·exact⟨n,by omega,by omega,hb⟩
theorem qahf {n:Nat} {w:Nat→List Evt} {b:Evt}:b∈fl n w ↔ ∃j,j<n∧b∈w j:=by
 unfold fl
 rw[List.mem_flatten]
 constructor
 ·rintro⟨l,hl,hb⟩
  obtain⟨j,hj,rfl⟩:=List.mem_map.1 hl
  exact⟨j,List.mem_range.1 hj,hb⟩
 ·rintro⟨j,hj,hb⟩
  exact⟨w j,List.mem_map.2 ⟨j,List.mem_range.2 hj,rfl⟩,hb⟩
def qaje (n:Nat) (r:Nat→Nat):Nat:=((List.range n).map r).sum
theorem sumR_upd (n i:Nat) (hi:i<n) (r:Nat→Nat) (k:Nat) (hk:r i=k+1):qaje n (upd r i k)+1=qaje n r:=by
 induction n with
 |zero=>omega
 |succ n ih=>
  unfold qaje at *
  rw[List.range_succ,List.map_append,List.map_append,List.sum_append,List.sum_append]
  simp only[List.map_cons,List.map_nil,List.sum_cons,List.sum_nil,Nat.add_zero]
  by_cases e:i=n
  ·subst e
   have:(List.range i).map (upd r i k)=(List.range i).map r:=List.map_congr_left fun j hj=>qnk r k (by have:=List.mem_range.1 hj;omega)
   rw[this,qh5,hk];omega
  ·rw[qnk r k (by omega)]
   have:=ih (by omega);omega
structure Joint (c:Cfg) (s0:Sim) (f hor:Int) (w:Nat→WSt) (r:Nat→Nat) (S:Sim) (H:List Evt):Prop where
 K:SInv c S H
 T:TOwn c S H
 reach : ∀i,i<c.lps.length→WSt.run c hor (r i) (w i)=wAt c s0 hor i
 cnt : ∀i,i<c.lps.length→(w i).done.length+r i=2000
 lps : ∀i,i<c.lps.length→S.lps[i]? = some (w i).lp
 tr : ∀i,i<c.lps.length→S.trace[i]? = some (qiu s0 i++(w i).done)
 pend:(fl c.lps.length (fun i=>(w i).box)++fl c.lps.length (fun i=>(w i).sent)).Perm S.pend
 sorted : ∀i,i<c.lps.length→(w i).box.Pairwise leE
 own : ∀i,i<c.lps.length → ∀b∈(w i).box,b.lp=(i:Int)
 sent : ∀i,i<c.lps.length → ∀b∈(w i).sent,hor≤b.time∧b.kind=3
 ge : ∀b∈S.pend,f≤b.time
 over:S.over=(s0.over||(List.range c.lps.length).any fun i=>(w i).over)
 run:S=Sim.run c H.length (start c)
theorem any_upd (n i:Nat) (hi:i<n) (w:Nat→Bool) (x:Bool):((List.range n).any (upd w i (w i||x)))=((List.range n).any w||x):=by
 rw[Bool.eq_iff_iff]
 simp only[Bool.or_eq_true,List.any_eq_true,List.mem_range]
 constructor
 ·rintro⟨j,hj,h⟩
  by_cases e:j=i
  ·subst e
   rw[qh5,Bool.or_eq_true]at h
   rcases h with h|h
   ·exact .inl ⟨j,hj,h⟩
   ·exact .inr h
  ·rw[qnk w _ e]at h;exact .inl ⟨j,hj,h⟩
 ·rintro(⟨j,hj,h⟩|h)
  ·by_cases e:j=i
   ·subst e;exact⟨j,hj,by rw[qh5,h];rfl⟩
   ·exact⟨j,hj,by rw[qnk w _ e];exact h⟩
  ·exact⟨i,hi,by rw[qh5,h,Bool.or_true]⟩
end
set_option maxRecDepth 10000
section
variable {c:Cfg} {s0:Sim} {f hor:Int} {w:Nat→WSt} {r:Nat→Nat} {S:Sim} {H:List Evt}
theorem qaf6 (i:Int) (l:List Evt) (p:List Evt×List Evt) : ∀b∈(qfw i p l).2,b∈p.2∨(b∈l∧b.lp≠i):=by
 intro b hb
 rw[qwq]at hb
 rcases List.mem_append.1 hb with hb|hb
 ·exact .inl hb
 ·rw[List.mem_filter]at hb;exact .inr ⟨hb.1,by simpa using hb.2⟩
theorem sumR_le (n i:Nat) {r:Nat→Nat} (hi:i<n):r i≤qaje n r:=by
 induction n with
 |zero=>omega
 |succ n ih=>
  unfold qaje at ih⊢
  rw[List.range_succ,List.map_append,List.sum_append]
  simp only[List.map_cons,List.map_nil,List.sum_cons,List.sum_nil,Nat.add_zero]
  by_cases e:i=n
  ·subst e;omega
  ·have:=ih (by omega);omega
theorem Joint.step (J:Joint c s0 f hor w r S H) (hA : ∀i,i<c.lps.length→(wAt c s0 hor i).done.length<2000) (hh:hor≤f+c.look) (hf:hor≤c.fin) (hn:H.length≤19000) {e:Evt} {rest:List Evt} (hp:S.pend=e::rest) (ht:e.time<hor) :
  ∃w' r',Joint c s0 f hor w' r' (S.step c e rest) (H++[e])∧qaje c.lps.length r'+1=qaje c.lps.length r:=by
 have hme:e∈S.pend:=by rw[hp];simp
 have ge:=J.K.ev e (List.mem_append_right _ hme)
 obtain⟨i,hi⟩ : ∃i:Nat,e.lp=i:=⟨_,(Int.toNat_of_nonneg ge.lp.1).symm⟩
 have hin:i<c.lps.length:=by have:=ge.lp;omega
 have htn:e.lp.toNat=i:=by omega
 -- it heads its mailbox
 have hbx:e∈(w i).box:=by
  rcases List.mem_append.1 (J.pend.mem_iff.2 hme)with h1|h1
  ·obtain⟨j,hj,hb⟩:=qahf.1 h1
   have:=J.own j hj e hb
   have:j=i:=by omega
   subst this;exact hb
  ·obtain⟨j,hj,hb⟩:=qahf.1 h1
   have:=(J.sent j hj e hb).1;omega
 have hkp:qlo S.pend:=(List.pairwise_append.1 J.K.keys).2.1
 obtain⟨ri,hri⟩ : ∃ri,(w i).box=e::ri:=by
  cases hb:(w i).box with
  |nil=>rw[hb]at hbx;cases hbx
  |cons x ri=>
   refine⟨ri,?_⟩
   rw[hb]at hbx
   rcases List.mem_cons.1 hbx with rfl|hbx
   ·rfl
   ·have hs:=J.sorted i hin
    rw[hb,List.pairwise_cons]at hs
    have h1:=hs.1 e hbx
    have hxm:x∈S.pend:=J.pend.mem_iff.1 (List.mem_append_left _ (qahf.2 ⟨i,hin,by simp only[hb];simp⟩))
    have h2:leE e x:=by
     have hs2:=J.K.sorted
     rw[hp,List.pairwise_cons]at hs2
     rw[hp]at hxm
     rcases List.mem_cons.1 hxm with rfl|hxm
     ·exact h1
     ·exact hs2.1 x hxm
    have hk:x.key=e.key:=by
     have a1:=qw5 x e
     unfold leE at h1 h2
     exact((q9t x e).1 (by omega)).2
    have:=hkp.inj hxm hme hk
    rw[this]
 obtain⟨k,hk⟩ : ∃k,r i=k+1:=by
  cases hr:r i with
  |zero=>
   have h1:=J.reach i hin
   have h2:=J.cnt i hin
   rw[hr]at h1 h2
   have h3:=hA i hin
   rw[←h1]at h3
   change (w i).done.length<2000 at h3
   omega
  |succ k=>exact⟨k,rfl⟩
 obtain⟨x,hx,hlx,R⟩:=J.K.toSInvK.headM hme (by omega)
 have hxw:x=(w i).lp:=by rw[htn,J.lps i hin]at hx;cases hx;rfl
 have hK':=J.K.step hp (by omega) (by omega)
 obtain⟨X,oX,o1,_⟩:=R.outs
 have out : ∀b∈(qa1 c x e).out,∃k,EvOk c e X k b:=fun b hb=>by
  obtain⟨k,hk⟩:=List.mem_iff_getElem?.1 hb
  exact⟨k,o1 k b hk⟩
 have hge:f≤e.time:=J.ge e hme
 have hnames:=fun g hg=>(J.T.names J.K.toSInvK (by rw[hp]) (by omega) (g:=g) (.inl hg)).1
 rw[hlx]at hnames
 have hkn:=J.K.keyNe hp (by omega)
 rw[hlx]at hkn
 -- the parts of what is pending
 obtain⟨O1,p1,p2,p3⟩:=qagv c.lps.length i hin (fun j=>(w j).box)
 obtain⟨O2,q1,q2,q3⟩:=qagv c.lps.length i hin (fun j=>(w j).sent)
 simp only[hri]at p1
 have hrest:rest.Perm (ri++((w i).sent++(O1++O2))):=by
  have hpp:=J.pend
  rw[hp]at hpp
  have:(e::rest).Perm (e::(ri++((w i).sent++(O1++O2)))):=by
   refine hpp.symm.trans ((p1.append q1).trans ?_)
   rw[List.cons_append,List.cons_append]
   refine List.Perm.cons e ?_
   refine List.perm_iff_count.2 fun a => ?_
   simp only[List.count_append];omega
  exact List.Perm.cons_inv this
 have hpl:=qsm e.lp (qa1 c x e).out (ri,(w i).sent) []
 rw[List.append_nil,List.append_nil]at hpl
 have hps:=qw3 e.lp (qa1 c x e).out (ri,(w i).sent) (by have:=J.sorted i hin;rw[hri,List.pairwise_cons]at this;exact this.2)
 have hpo:=q4t e.lp (qa1 c x e).out (ri,(w i).sent) (fun b hb=>by rw[hi];exact J.own i hin b (by rw[hri];simp[hb]))
 have hpk:=qaf6 e.lp (qa1 c x e).out (ri,(w i).sent)
 have hstep:(w i).step c e ri=⟨(qa1 c x e).lp,qxu (qfw e.lp (ri,(w i).sent) (qa1 c x e).out).1 (qa1 c x e).gone,(w i).done++[e],(qfw e.lp (ri,(w i).sent) (qa1 c x e).out).2,(w i).over||(qa1 c x e).over⟩:=by unfold WSt.step;rw[←hxw]
 generalize hB:(qfw e.lp (ri,(w i).sent) (qa1 c x e).out).1=B at *
 generalize hZ:(qfw e.lp (ri,(w i).sent) (qa1 c x e).out).2=Z at *
 have hall:(rest++(qa1 c x e).out).Perm (B++(Z++(O1++O2))):=by
  refine List.perm_iff_count.2 fun a => ?_
  have h1:=hrest.count_eq a
  have h2:=hpl.count_eq a
  simp only[List.count_append]at h1 h2⊢
  omega
 have hkall:qlo (B++(Z++(O1++O2))):=qlo.perm (List.pairwise_append.1 hkn).2.1 hall.symm
 have hkB:qlo B:=List.Pairwise.sublist (List.sublist_append_left _ _) hkall
 have mem_all : ∀b∈B++(Z++(O1++O2)),b∈rest++(qa1 c x e).out:=fun b hb=>hall.mem_iff.2 hb
 have sentK : ∀b∈Z,hor≤b.time∧b.kind=3:=fun b hb=>by
  rcases hpk b hb with h1|⟨h1,h2⟩
  ·exact J.sent i hin b h1
  ·obtain⟨k',a1,_,a3,a4⟩:=out b h1
   have k3:b.kind=3:=Classical.byContradiction fun k3=>h2 (a4 k3).1
   obtain⟨_,_,m3,_⟩:=a3 k3
   exact⟨by omega,k3⟩
 have keepO : ∀b∈Z++(O1++O2),qd4 (qa1 c x e).gone b=true:=fun b hb=>by
  unfold qd4
  rw[Bool.not_eq_true',List.any_eq_false]
  intro g hg hgb
  have hgk:g=b.key:=of_decide_eq_true hgb
  obtain⟨n1,n2⟩:=hnames g hg b (mem_all b (List.mem_append_right _ hb)) hgk.symm
  rcases List.mem_append.1 hb with hb|hb
  ·have:=(sentK b hb).2;omega
  ·rcases List.mem_append.1 hb with hb|hb
   ·obtain⟨j,hj,hji,hbj⟩:=p3 b hb
    have:=J.own j hj b hbj
    omega
   ·obtain⟨j,hj,hji,hbj⟩:=q3 b hb
    have:=(J.sent j hj b hbj).2
    omega
 have hfil:((rest++(qa1 c x e).out).filter (qd4 (qa1 c x e).gone)).Perm (qxu B (qa1 c x e).gone++(Z++(O1++O2))):=by
  refine(hall.filter _).trans ?_
  rw[List.filter_append,q5s _ hkB,List.filter_eq_self.2 keepO]
 have hpd:(S.step c e rest).pend.Perm (qxu B (qa1 c x e).gone++(Z++(O1++O2))):=by
  show (sortL ((rest++(qa1 c (lpAt S e.lp) e).out).filter (qd4 (qa1 c (lpAt S e.lp) e).gone))).Perm _
  rw[hlx]
  exact(qdd _).trans hfil
 have hlps:(S.step c e rest).lps=S.lps.set i (qa1 c x e).lp:=by show S.lps.set e.lp.toNat (qa1 c (lpAt S e.lp) e).lp = _;rw[htn,hlx]
 have hpm : ∀b∈(S.step c e rest).pend,b∈rest++(qa1 c x e).out:=fun b hb=>mem_all b (by
  rcases List.mem_append.1 (hpd.mem_iff.1 hb)with h1|h1
  ·exact List.mem_append_left _ ((qol _ _).subset h1)
  ·exact List.mem_append_right _ h1)
 have hT':=J.T.step J.K.toSInvK (S':=S.step c e rest) (by rw[hp]) (by omega) rfl (by rw[hlx];exact hpm)
 have hready:S.ready c=true:=by unfold Sim.ready;rw[hp];exact decide_eq_true (by omega)
 refine⟨upd w i ((w i).step c e ri),upd r i k,⟨hK',hT',fun j hj => ?_,fun j hj => ?_,fun j hj => ?_,fun j hj => ?_,?_,fun j hj => ?_,fun j hj => ?_,fun j hj => ?_,fun b hb => ?_,?_,?_⟩,sumR_upd c.lps.length i hin r k hk⟩
 ·by_cases e1:j=i
  ·subst e1
   rw[qh5,qh5]
   have h1:=J.reach j hj
   rw[hk]at h1
   rw[←h1,WSt.run,hri]
   simp only[ht,if_true]
  ·rw[qnk _ _ e1,qnk _ _ e1];exact J.reach j hj
 ·by_cases e1:j=i
  ·subst e1
   rw[qh5,qh5,hstep]
   have:=J.cnt j hj
   simp;omega
  ·rw[qnk _ _ e1,qnk _ _ e1];exact J.cnt j hj
 ·rw[hlps]
  by_cases e1:j=i
  ·subst e1
   rw[qh5,List.getElem?_set_self (by rw[J.K.lpl];exact hj),hstep]
  ·rw[qnk _ _ e1,List.getElem?_set_ne (by omega)];exact J.lps j hj
 ·show (S.trace.set e.lp.toNat (qiu S e.lp++[e]))[j]? = _
  rw[htn]
  by_cases e1:j=i
  ·subst e1
   rw[qh5,List.getElem?_set_self (by rw[J.K.trl];exact hj),hstep]
   have:qiu S e.lp=qiu s0 j++(w j).done:=by unfold qiu;rw[htn,J.tr j hj];rfl
   rw[this,List.append_assoc]
  ·rw[qnk _ _ e1,List.getElem?_set_ne (by omega)];exact J.tr j hj
 ·have f1:(fun j=>(upd w i ((w i).step c e ri) j).box)=upd (fun j=>(w j).box) i (qxu B (qa1 c x e).gone):=by
   funext j;by_cases e1:j=i
   ·subst e1;rw[qh5,qh5,hstep]
   ·rw[qnk _ _ e1,qnk _ _ e1]
  have f2:(fun j=>(upd w i ((w i).step c e ri) j).sent)=upd (fun j=>(w j).sent) i Z:=by
   funext j;by_cases e1:j=i
   ·subst e1;rw[qh5,qh5,hstep]
   ·rw[qnk _ _ e1,qnk _ _ e1]
  rw[f1,f2]
  refine((p2 _).append (q2 _)).trans (List.Perm.trans ?_ hpd.symm)
  refine List.perm_iff_count.2 fun a => ?_
  simp only[List.count_append];omega
 ·by_cases e1:j=i
  ·subst e1
   rw[qh5,hstep]
   exact List.Pairwise.sublist (qol _ _) hps
  ·rw[qnk _ _ e1];exact J.sorted j hj
 ·by_cases e1:j=i
  ·subst e1
   rw[qh5,hstep]
   intro b hb
   rw[hpo b ((qol _ _).subset hb),hi]
  ·rw[qnk _ _ e1];exact J.own j hj
 ·by_cases e1:j=i
  ·subst e1
   rw[qh5,hstep]
   exact sentK
  ·rw[qnk _ _ e1];exact J.sent j hj
 ·rcases List.mem_append.1 (hpm b hb)with h1|h1
  ·exact J.ge b (by rw[hp];exact List.mem_cons_of_mem _ h1)
  ·obtain⟨k',a1,_⟩:=out b h1
   omega
 ·show (S.over||(qa1 c (lpAt S e.lp) e).over) = _
  have f3:(fun j=>(upd w i ((w i).step c e ri) j).over)=upd (fun j=>(w j).over) i ((w i).over||(qa1 c x e).over):=by
   funext j;by_cases e1:j=i
   ·subst e1;rw[qh5,qh5,hstep]
   ·rw[qnk _ _ e1,qnk _ _ e1]
  rw[f3,any_upd c.lps.length i hin (fun j=>(w j).over),hlx,J.over,Bool.or_assoc]
 ·rw[List.length_append,List.length_singleton,qaff,←J.run,Sim.run,if_pos hready,go_eq hp];rfl
theorem Joint.all (hA : ∀i,i<c.lps.length→(wAt c s0 hor i).done.length<2000) (hh:hor≤f+c.look) (hf:hor≤c.fin) : ∀(m:Nat) {w:Nat→WSt} {r:Nat→Nat} {S:Sim} {H:List Evt},qaje c.lps.length r=m→H.length+m≤19000→Joint c s0 f hor w r S H →
  ∃(w':Nat→WSt) (r':Nat→Nat) (S':Sim) (H':List Evt),Joint c s0 f hor w' r' S' H' ∧ ∀i,i<c.lps.length→w' i=wAt c s0 hor i:=by
 intro m
 induction m with
 |zero=>
  intro w r S H hm hl J
  refine⟨w,r,S,H,J,fun i hi => ?_⟩
  have hr:r i=0:=by
   have:r i≤qaje c.lps.length r:=by
    exact sumR_le _ _ hi
   omega
  have:=J.reach i hi
  rw[hr]at this;exact this
 |succ m ih=>
  intro w r S H hm hl J
  by_cases hx : ∃e rest,S.pend=e::rest∧e.time<hor
  ·obtain⟨e,rest,hp,ht⟩:=hx
   obtain⟨w',r',J',hs⟩:=J.step hA hh hf (by omega) hp ht
   exact ih (by omega) (by simp;omega) J'
  ·refine⟨w,r,S,H,J,fun i hi => ?_⟩
   have h1:=J.reach i hi
   have hfin : ∀b∈S.pend,hor≤b.time:=fun b hb=>by
    cases hp:S.pend with
    |nil=>rw[hp]at hb;cases hb
    |cons e rest=>
     have he:hor≤e.time:=Classical.byContradiction fun h=>hx ⟨e,rest,hp,by omega⟩
     rw[hp]at hb
     rcases List.mem_cons.1 hb with rfl|hb
     ·exact he
     ·have hs:=J.K.sorted
      rw[hp,List.pairwise_cons]at hs
      have:=q08 (hs.1 b hb);omega
   rw[←h1]
   cases hr:r i with
   |zero=>rfl
   |succ k=>
    unfold WSt.run
    cases hb:(w i).box with
    |nil=>rfl
    |cons e rest=>
     have:hor≤e.time:=hfin e (J.pend.mem_iff.1 (List.mem_append_left _ (qahf.2 ⟨i,hi,by simp only[hb];simp⟩)))
     simp only
     rw[if_neg (by omega)]
end
structure Rel (c:Cfg) (s:Sim) (H:List Evt):Prop where
 K:SInv c (Sim.run c H.length (start c)) H
 T:TOwn c (Sim.run c H.length (start c)) H
 lps:(Sim.run c H.length (start c)).lps=s.lps
 trace:(Sim.run c H.length (start c)).trace=s.trace
 pend:s.pend.Perm (Sim.run c H.length (start c)).pend
 over:(Sim.run c H.length (start c)).over=s.over
section
variable {c:Cfg} {s:Sim} {h H:List Evt} {L:List (Lp×Bool)} {f hor:Int}
theorem qahk (n k:Nat):qaje n (fun _=>k)=n*k:=by
 induction n with
 |zero=>simp[qaje]
 |succ n ih=>unfold qaje at ih ⊢;rw[List.range_succ,List.map_append,List.sum_append,ih];simp[Nat.add_mul]
theorem Rel.window (F:StF c s h L) (n4:c.lps.length≤4) (hH:H.length≤2000) (Q:Rel c s H) (fa : ∀e∈s.pend,f≤e.time) (hh:hor≤f+c.look) (hf:hor≤c.fin) (hA : ∀i,i<c.lps.length→(wAt c s hor i).done.length<2000) : ∃H',Rel c (qkh c s hor) H':=by
 have e1:=F.inv.traces
 have J0:Joint c s f hor (fun i=>⟨lpAt s i,sortL (qbc s.pend i),[],[],false⟩) (fun _=>2000) (Sim.run c H.length (start c)) H:=by
  refine⟨Q.K,Q.T,fun i hi=>rfl,fun i hi=>rfl,fun i hi => ?_,fun i hi => ?_,?_,fun i hi=>qhm _,fun i hi b hb => ?_,fun i hi b hb=>(by cases hb),fun b hb=>fa b (Q.pend.mem_iff.2 hb),?_,rfl⟩
  ·obtain⟨x,xf,_,hx,_⟩:=F.at hi
   rw[Q.lps,hx]
   unfold lpAt;rw[Int.toNat_natCast,hx];rfl
  ·rw[Q.trace]
   simp only[zgn]
   unfold qiu;rw[Int.toNat_natCast,F.inv.tr i hi];rfl
  ·have hz:fl c.lps.length (fun _=>([]:List Evt))=[]:=by unfold fl;rw[List.flatten_eq_nil_iff];intro b hb;obtain⟨j,_,rfl⟩:=List.mem_map.1 hb;rfl
   simp only
   rw[hz,List.append_nil]
   exact(F.flat).trans Q.pend
  ·have:=(qdd _).mem_iff.1 hb
   unfold qbc at this;rw[List.mem_filter]at this;simpa using this.2
  ·rw[Q.over]
   have:((List.range c.lps.length).any fun i=>false)=false:=by rw[List.any_eq_false];intro _ _;simp
   simp only[this,Bool.or_false]
 obtain⟨w,r,S,H',J,hw⟩:=Joint.all hA hh hf _ rfl (by rw[qahk];omega) J0
 have hr:=J.run
 refine⟨H',?_,?_,?_,?_,?_,?_⟩
 ·rw[←hr];exact J.K
 ·rw[←hr];exact J.T
 ·rw[←hr]
  refine List.ext_getElem? fun i => ?_
  show _=((List.range c.lps.length).map fun i=>(wAt c s hor i).lp)[i]?
  rw[List.getElem?_map]
  by_cases hi:i<c.lps.length
  ·rw[List.getElem?_range hi,J.lps i hi,hw i hi];rfl
  ·rw[List.getElem?_eq_none (by rw[J.K.lpl];omega),List.getElem?_eq_none (by simp;omega)];rfl
 ·rw[←hr]
  refine List.ext_getElem? fun i => ?_
  show _=((List.range c.lps.length).map fun i:Nat=>qiu s i++(wAt c s hor i).done)[i]?
  rw[List.getElem?_map]
  by_cases hi:i<c.lps.length
  ·rw[List.getElem?_range hi,J.tr i hi,hw i hi];rfl
  ·rw[List.getElem?_eq_none (by rw[J.K.trl];omega),List.getElem?_eq_none (by simp;omega)];rfl
 ·rw[←hr]
  have f1:fl c.lps.length (fun i=>(w i).box)=(qen c s hor c.lps.length).flatten:=by
   unfold fl qen;congr 1
   exact List.map_congr_left fun i hi=>by rw[hw i (List.mem_range.1 hi)]
  have f2:fl c.lps.length (fun i=>(w i).sent)=(qhe c s hor c.lps.length).flatten:=by
   unfold fl qhe;congr 1
   exact List.map_congr_left fun i hi=>by rw[hw i (List.mem_range.1 hi)]
  have:=J.pend
  rw[f1,f2]at this
  exact this
 ·rw[←hr,J.over]
  show _=(s.over||(List.range c.lps.length).any fun i=>(wAt c s hor i).over)
  congr 1
  rw[Bool.eq_iff_iff]
  simp only[List.any_eq_true,List.mem_range]
  exact⟨fun⟨i,hi,h⟩=>⟨i,hi,by rw[←hw i hi];exact h⟩,fun⟨i,hi,h⟩=>⟨i,hi,by rw[hw i hi];exact h⟩⟩
theorem qalf (hv:Valid c):Rel c (start c) []:=⟨SInv.start hv,qaid c hv,rfl,rfl,.refl _,rfl⟩
theorem qali (hv:Valid c) (n4:c.lps.length≤4) {cap:Int} {lim:Nat} (hlim:lim≤30) : ∀k,(∀j,j<k→q0h c cap lim (qcd c j)=none)→(qcd c k).trace.flatten.length<2000 → ∃H,Rel c (qcd c k) H
 | 0,_,_=>⟨[],qalf hv⟩
 |k+1,hs,hm=>by
  obtain⟨h,P⟩:=qae2 hv n4 (cap:=cap) hlim k (fun j hj=>hs j (by omega))
  obtain⟨h',P'⟩:=qae2 hv n4 (cap:=cap) hlim (k+1) hs
  obtain⟨_,f,hff,hfin,hcl⟩:=qaah (hs k (by omega))
  have hcnt:=P.inv.count
  have hcnt':=P'.inv.count
  have F:=P.stF (by omega)
  obtain⟨H,Q⟩:=qali hv n4 hlim k (fun j hj=>hs j (by omega)) (by omega)
  have hw:qcd c (k+1)=qkh c (qcd c k) (q0j c f):=by show qaew c (qcd c k) = _;unfold qaew;rw[hff]
  obtain⟨h2,N⟩:=F.next (q0j c f)
  have hc2:=N.inv.count
  rw[hw]at hm
  have hA : ∀i,i<c.lps.length→(wAt c (qcd c k) (q0j c f) i).done.length<2000:=fun i hi=>by
   have:=qagp (c:=c) (s:=qcd c k) (q0j c f) hi
   have:=N.len
   omega
  have hHl:H.length=(qcd c k).trace.flatten.length:=by rw[←Q.trace,Q.K.count]
  rw[hw]
  exact Q.window F n4 (by omega) (F.floor hff).1 (by unfold q0j q1w;split<;>omega) (by unfold q0j q1w;split<;>omega) hA
end
set_option maxRecDepth 100000
section
variable {c:Cfg}
theorem Stop.done {cap:Int} {lim K:Nat} {e:Int} {h H:List Evt} (P:ParI c lim K h) (hS:Stop c cap lim K e) (he:e≠10) (Q:Rel c (qcd c K) H):(qagw c H.length).ready c=false∧e=endZ (qcd c K):=by
 have hs:=hS.stop
 have hfin:(∀b∈(qcd c K).pend,c.fin≤b.time)∧e=endZ (qcd c K):=by
  have hbp:(qca c.lps.length (qcd c K).pend).flatten.Perm (qcd c K).pend:=
   (q27 _ _ (fun i=>qbc (qcd c K).pend i) fun i=>qdd _).trans (q7g fun e he=>(P.inv.ev e (List.mem_append_right _ he)).lp)
  unfold q0h at hs
  split at hs
  ·cases hs;exact absurd rfl he
  cases hf:flS c (qcd c K)with
  |none=>
   rw[hf]at hs
   simp only[Option.some.injEq]at hs
   refine⟨fun b hb => ?_,hs.symm⟩
   obtain⟨x,hx,hbx⟩:=List.mem_flatten.1 (hbp.mem_iff.2 hb)
   have:=qafm hf x hx
   rw[this]at hbx;cases hbx
  |some f=>
   rw[hf]at hs
   simp only at hs
   split at hs
   next hff=>
    simp only[Option.some.injEq]at hs
    refine⟨fun b hb => ?_,hs.symm⟩
    obtain⟨x,hx,hbx⟩:=List.mem_flatten.1 (hbp.mem_iff.2 hb)
    have:=(q00 hf (qzh _ _)).1 x hx b hbx
    omega
   next=>
    split at hs
    ·cases hs;exact absurd rfl he
    ·cases hs
 refine⟨?_,hfin.2⟩
 unfold Sim.ready qagw
 cases hp:(Sim.run c H.length (start c)).pend with
 |nil=>rfl
 |cons b rest=>
  have:=hfin.1 b (Q.pend.mem_iff.2 (by rw[hp];simp))
  exact decide_eq_false (by omega)
end
set_option maxHeartbeats 1000000 in
theorem qaaa (c:Cfg) (a lm:Int) (ha:0≤a∧a≤255) (hl:0≤lm∧lm≤255) (l:List Int) (hlr : ∀x∈l,0≤x∧x≤255) (cl:Bool) :
  qac (evL T) qem [(.agg [(.fsl ((c.lps).map lpC) false),(.fsl ((c.progs).map qaz) false),(ii c.look),(ii c.fin),(ii c.cap)]),.v (.int .u8 a),(.fsl ((l).map u8C) cl),.v (.int .u8 lm)]=some (bb true):=by
 have hH:=qo1
 obtain⟨b1,hq,hqb⟩:=qr8 c
 have hll:(l.map u8C).length=l.length:=List.length_map ..
 rw[qac,qe qs8 qmx]
 cases b1 with
 |false=>simp only[qcv,hH,hq,qa2,qu,Ev.ev1,qb,Ev.AV.cells,Ev.AV.plain,qh,ne_eq,zgy,↓qc,↓reduceIte,Nat.reduceAdd,Nat.reduceEqDiff]
 |true=>
 by_cases g1:(l.length:Int)>200
 ·simp only[qcv,hH,hq,hll,g1,qa2,qu,Ev.ev1,qb,Ev.AV.cells,Ev.AV.plain,qh,ne_eq,zgy,↓qc,↓reduceIte,Nat.reduceAdd,Nat.reduceEqDiff,reduceCtorEq]
 obtain⟨G,l8,n4⟩:=hqb rfl
 obtain⟨k,k30,hsm⟩:=q2w lm hl
 obtain⟨V,v1,v2,wa,w64,wv⟩:=qabl a ha 8 (by omega)
 have hp1:=qzq l cl V ⟨v1,by omega⟩ hlr (by omega)
 obtain⟨n1,I1⟩:=qtq (lim:=k) G l8 n4 (W:=V) ⟨v1,by omega⟩ l (by omega) (by omega)
 obtain⟨K,er,hS⟩:=q1a G.v n4 c.cap (lim:=k) (by omega)
 obtain⟨h,P⟩:=qae2 G.v n4 (cap:=c.cap) (lim:=k) (by omega) K hS.first
 have hR1:=q1p false I1 G.check hS
 have hcnt:=P.inv.count
 have hhl:=P.len
 have hC:=qabg (qcd c K).trace false (by rw[P.inv.trl];have:=G.v.lps;omega) (by omega)
 have lo1 : ∀m,qc5 m ((qcd c K).trace.map qn)=true:=fun m=>qcb _ _
 have lo2 : ∀m,qc5 m ((qkq c (qcd c K)).map lpF)=true:=fun m=>qgu _ _
 have lo4 : ∀q,qc5 q ((qqc (qco l V)).map qa0)=true:=fun m=>qm _ _
 simp only[Int.cast_ofNat_Int]at w64 wv
 obtain⟨m,hm⟩ : ∃m,(qcd c K).trace.flatten.length=m:=⟨_,rfl⟩
 have m0:¬(m:Int)<0:=by omega
 have m0':(m:Int)≥0:=by omega
 rw[hm]at hC
 by_cases hbig:(m:Int)≥2000
 ·generalize (qcd c K).trace.map qn=TM at *
  generalize (qkq c (qcd c K)).map lpF=LM at *
  generalize (qqc (qco l V)).map qa0=N1 at *
  simp only[qcv,hH,hq,hll,g1,hsm,wa,w64,wv,hp1,hR1,hC,m0,m0',hbig,lo1,lo4,q0n,qa2,qu,Ev.ev1,qb,Ev.AV.cells,Ev.AV.plain,qh,ne_eq,zgy,↓qc,↓reduceIte,Nat.reduceAdd,Nat.reduceEqDiff,reduceCtorEq]
 obtain⟨H,Q⟩:=qali G.v n4 (cap:=c.cap) (lim:=k) (by omega) K hS.first (by omega)
 have hHl:H.length=m:=by rw[←hm,←Q.trace,Q.K.count]
 obtain⟨L,L1,L2,hSR⟩:=G.run m (by omega)
 have hrt:(qagw c m).trace=(qcd c K).trace:=by rw[←hHl];exact Q.trace
 have hrl:(qagw c m).lps=(qcd c K).lps:=by rw[←hHl];exact Q.lps
 have hro:(qagw c m).over=(qcd c K).over:=by rw[←hHl];exact Q.over
 rw[hrt]at hSR
 obtain⟨r1,r2,r3⟩:=P.rows (by omega)
 have hT:=qwa (qcd c K).trace false false r1 r2 r3
 obtain⟨s1,s2⟩:=P.short (by omega)
 have hLP:=qabv (qkq c (qcd c K)) L false false s1 (by
   have:=congrArg List.length L1
   rw[List.length_map,hrl,P.inv.lpl]at this
   have:=G.v.lps;omega) s2 (fun x hx=>by
   have hx1:x.1∈(qkq c (qcd c K)).map Prod.fst:=by rw[P.lok.1,←hrl,←L1];exact List.mem_map.2 ⟨x,hx,rfl⟩
   obtain⟨y,hy,hyx⟩:=List.mem_map.1 hx1
   rw[←hyx];exact s2 y hy)
 rw[decide_eq_true (by rw[P.lok.1,L1,hrl])]at hLP
 have lo3 : ∀m,qc5 m (L.map lpF)=true:=fun m=>qgu _ _
 by_cases he:er=10
 ·generalize (qcd c K).trace.map qn=TM at *
  generalize (qkq c (qcd c K)).map lpF=LM at *
  generalize L.map lpF=LL at *
  generalize (qqc (qco l V)).map qa0=N1 at *
  generalize errZ c (qagw c m)=ez at *
  simp only[qcv,hH,hq,hll,g1,hsm,wa,w64,wv,hp1,hR1,hC,m0,hbig,hSR,hT,hLP,he,lo1,lo2,lo3,lo4,q0n,qa2,qu,Ev.ev1,qb,Ev.AV.cells,Ev.AV.plain,qh,ne_eq,zgy,↓qc,↓reduceIte,Nat.reduceAdd,Nat.reduceEqDiff,reduceCtorEq]
 ·obtain⟨hnr,hez⟩:=Stop.done P hS he Q
  rw[hHl]at hnr
  obtain⟨L',L1',L2',hSR'⟩:=G.run (m+1) (by omega)
  have hrs:qagw c (m+1)=qagw c m:=by
   unfold qagw at hnr⊢
   rw[qaff,run_stop hnr]
  have her:errZ c (qagw c m)=er:=by
   unfold errZ
   rw[hnr,hez,hro]
   rfl
  rw[hrs,hrt,her]at hSR'
  have wm:IntKind.i64.wrap ((m:Int)+1)=((m+1:Nat):Int):=by rw[qi (by omega) (by omega)];simp
  have lo5 : ∀m,qc5 m (L'.map lpF)=true:=fun m=>qgu _ _
  generalize (qcd c K).trace.map qn=TM at *
  generalize (qkq c (qcd c K)).map lpF=LM at *
  generalize L.map lpF=LL at *
  generalize L'.map lpF=LL' at *
  generalize (qqc (qco l V)).map qa0=N1 at *
  generalize errZ c (qagw c m)=ez at *
  simp only[qcv,hH,hq,hll,g1,hsm,wa,w64,wv,hp1,hR1,hC,m0,hbig,hSR,hSR',wm,hT,hLP,he,lo1,lo2,lo3,lo4,q0n,qa2,qu,Ev.ev1,qb,Ev.AV.cells,Ev.AV.plain,qh,ne_eq,zgy,↓qc,↓reduceIte,Nat.reduceAdd,Nat.reduceEqDiff,reduceCtorEq]
open Go.ChangeShapes Go.WideShapes Go.ChangeAt Go.RowKit
set_option maxRecDepth 100000 in
theorem parsimEquivalent_lifted (os:Os) (started:os.Started) (H:Type) (enc:TypeId×Value→H) :
  ReturnsInHanded {} Tryz.checked os 8 .any (Rows.parsimEquivalentSpec.pre6 enc Tryz.prog Tryz.f8 Rows.parsimEquivalentRow.domain false) (Rows.parsimEquivalentSpec.post enc Tryz.prog Tryz.f8 false true false false):=by
 refine returnsInHanded_of_change (C:=Tryz.checked) own started (by kernel_rfl) Tryz.func8
  (ChangeSpec.witness6 (enc:=enc) (C:=Tryz.checked) false ⟨#[],#[.agg #[.slice none 0 0,.slice none 0 0,.int .i64 0,.int .i64 0,.int .i64 0],.int .u8 0,.slice none 0 0,.int .u8 0],[]⟩ 8 (by kernel_rfl) (by kernel_rfl) (by kernel_rfl) (by kernel_rfl)) ?_
 intro W base args ds gs before hval hW hcnd _
 have hargs:=qos Tryz.underlying25 q2x (qef Tryz.underlying5 rfl qpb (qef Tryz.underlying26 rfl qzm (qef Tryz.underlying5 rfl qpb (qvi (enc:=enc)))))
 refine qsi (P:=Tryz.prog) (fn:=Tryz.f8) (tb:=4) T_ok qmx (by rw[Tryz.params8]) hargs ?_ rfl ?_ (by kernel_rfl) Tryz.underlying4 laid (by decide +kernel) W base args ds gs before hval hW
 ·rintro⟨c,a,l,m,_⟩ ⟨_,h1,h2,h3,_⟩
  exact qaaa c a m h1 h3 l h2.1 false
 ·intro ds h
  match ds,h with
  | [_,_,_,_],_=>rfl
theorem parsimEquivalent_over:Rows.parsimEquivalentRow.holds Tryz.pinned (OpenSpec.ofChange Rows.parsimEquivalentSpec):=
 OpenClaim.holds_of_wide 8 Tryz.f8 rfl rfl rfl rfl rfl rfl rfl ⟨rfl,rfl,rfl,rfl,rfl⟩ rfl rfl rfl rfl rfl (by kernel_rfl) Tryz.func8 (by kernel_rfl)
  (of_decide_eq_true (by kernel_rfl)) (by unfold Func.isWrapper;first|(rw[if_pos (by decide +kernel)];kernel_rfl)|(rw[if_neg (by decide +kernel)];exact⟨rfl,rfl⟩))
  (fun os started H enc _=>parsimEquivalent_lifted os started H enc)
end Go.Proofs.YtpgdfkciinankaaGreat.K
namespace Go.Proofs.YtpgdfkciinankaaGreat
theorem parsimEquivalent_holds:Rows.ParsimEquivalentSaid:=K.parsimEquivalent_over
end Go.Proofs.YtpgdfkciinankaaGreat
#print axioms Go.Proofs.YtpgdfkciinankaaGreat.parsimEquivalent_holds
