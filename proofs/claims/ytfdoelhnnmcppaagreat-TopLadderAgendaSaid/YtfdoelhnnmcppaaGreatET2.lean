/- For every input the statement of this claim returns true: texts of its proof, joined (part 3). -/
import Derived.RangeFuncLeaves
import Derived.RangeFuncNested
import Derived.Test.YtfdoelhnnmcppaaGreatET1
set_option linter.unusedSectionVars false
set_option linter.unusedSimpArgs false
set_option linter.unusedVariables false
open Bool renaming and_eq_true → wa, false_eq_true → we
open List renaming mem_cons_of_mem → wb, mem_append_right → wf, eq_nil_of_length_eq_zero → wg, getElem?_append_right → wj, getElem?_take → wk
open Nat renaming lt_of_lt_of_le → wc, le_refl → wh, not_lt_zero → wi
open Option renaming bind_some → wd
namespace Go.Ev
variable {O:Orc} {e e':Env} {σ σ' τ:qf}
theorem valEq_ok {x y:Value} (h:qanu x y=true):x=y:=by
 unfold qanu at h
 split at h<;>simp_all
mutual
theorem AV.eqB_ok : ∀(a b:AV),a.eqB b=true→a=b
 | .v x,b,h=>by
  cases b<;>simp only[AV.eqB,we]at h
  rw[valEq_ok h]
 | .agg a,b,h=>by
  cases b<;>simp only[AV.eqB,we]at h
  rw[qwt _ _ h]
 | .tup a,b,h=>by
  cases b<;>simp only[AV.eqB,we]at h
  rw[qwt _ _ h]
 | .fsl a c,b,h=>by
  cases b<;>simp only[AV.eqB,we]at h
  rw[wa]at h
  rw[qac4 _ _ h.1,eq_of_beq h.2]
 | .fptr a,b,h=>by
  cases b<;>simp only[AV.eqB,we]at h
  rw[qwt _ _ h]
 | .sl o g off len c,b,h=>by
  cases b<;>simp only[AV.eqB,we]at h
  simp only[wa,beq_iff_eq]at h
  obtain⟨h1,h2,h3,h4,h5⟩:=h
  rw[h1,h2,h3,h4,h5]
 | .ptr o g i off,b,h=>by
  cases b<;>simp only[AV.eqB,we]at h
  simp only[wa,beq_iff_eq]at h
  obtain⟨h1,h2,h3,h4⟩:=h
  rw[h1,h2,h3,h4]
 | .fn f x y,b,h=>by
  cases b<;>simp only[AV.eqB,we]at h
  simp only[wa,decide_eq_true_eq]at h
  rw[h.1,qwt _ _ h.2.1,qwt _ _ h.2.2]
 | .yld o,b,h=>by cases b<;>simp only[AV.eqB,we]at h
 | .mp o,b,h=>by
  cases b<;>simp only[AV.eqB,we]at h
  rw[eq_of_beq h]
theorem qwt : ∀(a b:List AV),qabj a b=true→a=b
 | [],[],_=>rfl
 |a::as,b::bs,h=>by
  simp only[qabj,wa]at h
  rw[AV.eqB_ok a b h.1,qwt as bs h.2]
 | [],_ :: _,h=>by simp[qabj]at h
 | _ :: _,[],h=>by simp[qabj]at h
theorem qac4 : ∀(a b:List (List AV)),qx1 a b=true→a=b
 | [],[],_=>rfl
 |a::as,b::bs,h=>by
  simp only[qx1,wa]at h
  rw[qwt a b h.1,qac4 as bs h.2]
 | [],_ :: _,h=>by simp[qx1]at h
 | _ :: _,[],h=>by simp[qx1]at h
end
def Env.put (e:Env) (d:Option Nat):Option AV→Env
 |some r=>e.set d r
 |none=>e.forget d
theorem qadj (e:Env) (d:Option Nat) (x:Option AV) (t:Nat):(e.put d x).get t=if d=some t then x else e.get t:=by
 cases x with
 |some r=>exact q4q e d r t
 |none=>exact qaj9 e d t
theorem q8x (e:Env) (d:Option Nat) (x:Option AV):(e.put d x).marks=e.marks:=by cases x<;>simp[Env.put]
theorem Eqv.put (h:Eqv e e') (d:Option Nat) (x:Option AV):Eqv (e.put d x) (e'.put d x):=⟨fun t=>by rw[qadj,qadj,h.1],by rw[q8x,q8x,h.2]⟩
theorem qzz (e:Env) {d d':Option Nat} (h : ∀k,d=some k→d'≠some k) (x y:Option AV):Eqv ((e.put d x).put d' y) ((e.put d' y).put d x):=by
 refine⟨fun t => ?_,by simp[q8x]⟩
 simp only[qadj]
 by_cases h1:d=some t
 ·rw[if_neg (h t h1),if_pos h1,if_pos h1]
 ·simp[h1]
theorem qf0 {o:COper} {e1:Env} {σ1 τ1:qf} (h:qgy O e σ o=some (e1,σ1)) (ha:qqb o.reads e e') (hit : ∀r,qae O e σ o.it=some (r,σ1)→qae O e τ o.it=some (r,τ1)) (hsk:σ1=σ→τ1=τ) :
  ∃x,e1=e.put o.dst x∧qgy O e' τ o=some (e'.put o.dst x,τ1):=by
 have ha':qqb (qq4 o.it) e e':=by rw[qrr]at ha;exact ha.right
 obtain⟨e1',h1,h2⟩:=q8j (τ:=τ) (τ1:=τ1) h ha (fun r hr=>⟨hr,by rw[←qhk ha'];exact hit r hr⟩) hsk
 rcases h2 with ⟨r,rfl,rfl⟩|⟨rfl,rfl⟩
 ·exact⟨some r,rfl,h1⟩
 ·exact⟨some (.tup []),rfl,h1⟩
theorem qgl {o:COper} {e1:Env} {σ1:qf} (h:qgy O e σ o=some (e1,σ1)):σ1=σ ∨ ∃r,qae O e σ o.it=some (r,σ1):=by
 rcases qsh.1 h with ⟨_,r,h,_⟩|⟨_,_,h⟩
 ·exact .inr ⟨r,h⟩
 ·exact .inl h
structure Ap (a b:COper):Prop where
 free:a.it.kind.free b.it.kind=true∨qagz a.it b.it=true
 r1 : ∀d,a.dst=some d→d∉b.reads
 r2 : ∀d,b.dst=some d→d∉a.reads
 ne : ∀d,b.dst=some d→a.dst≠some d
theorem ap_of {a b:COper} (h:qaiw a b=true):Ap a b:=by
 unfold qaiw at h
 simp only[wa,Bool.or_eq_true]at h
 obtain⟨h1,h2,h3,h4⟩:=h
 refine⟨h1,fun d hd => ?_,fun d hd => ?_,fun d hd h5 => ?_⟩
 ·simpa[disj,hd]using h2
 ·simpa[disj,hd]using h3
 ·simp[hd,h5]at h4
theorem qvz {l:List Nat} {d:Option Nat} {x:Option AV} (h : ∀k,d=some k→k∉l):qqb l e (e.put d x):=fun t ht=>by
 rw[qadj,if_neg]
 intro h2
 exact h t h2 ht
theorem qv5 {d:Option Nat} {x:Option AV} : ∀ {l:List COper} {e e1:Env} {σ σ1:qf},(∀a∈l,(∀k,d=some k→k∉a.reads)∧(∀k,d=some k→a.dst≠some k))→qah O l e σ=some (e1,σ1) →
  ∃e1',qah O l (e.put d x) σ=some (e1',σ1)∧Eqv e1' (e1.put d x)
 | [],e,e1,σ,σ1,_,h=>by simp only[qah]at h ⊢;cases h;exact⟨_,rfl,Eqv.refl _⟩
 |o::l,e,e1,σ,σ1,hl,h=>by
  simp only[qah,zob]at h
  obtain⟨⟨e2,σ2⟩,h1,h2⟩:=h
  obtain⟨ha,hb⟩:=hl o (by simp)
  obtain⟨y,rfl,h4⟩:=qf0 (τ:=σ) (τ1:=σ2) h1 (qvz (d:=d) (x:=x) ha) (fun r hr=>hr) (fun h=>h)
  obtain⟨e3,h5,h6⟩:=qv5 (d:=d) (x:=x) (fun a ha=>hl a (wb _ ha)) h2
  obtain⟨e4,h7,h8⟩:=qms (qzz e (d:=o.dst) (d':=d) (fun k hk hd=>hb k hd hk) y x) h5
  exact⟨e4,by simp only[qah,h4,wd];exact h7,h8.symm.trans h6⟩
theorem qfi {d:Option Nat} {x:Option AV} : ∀ {l:List COper} {e e1:Env} {σ σ1 τ:qf},(∀a∈l,(∀k,d=some k→k∉a.reads)∧(∀k,d=some k→a.dst≠some k)) →
  ((∀a∈l,a.it.kind = .pure)∨((∀a∈l,a.it.kind = .pure∨a.it.kind = .load) ∧ ∃ ρ,τ=σ++ρ))→qah O l e σ=some (e1,σ1) →
  σ1=σ ∧ ∃e1',qah O l (e.put d x) τ=some (e1',τ)∧Eqv e1' (e1.put d x)
 | [],e,e1,σ,σ1,τ,_,_,h=>by simp only[qah]at h ⊢;cases h;exact⟨rfl,_,rfl,Eqv.refl _⟩
 |o::l,e,e1,σ,σ1,τ,hl,hk,h=>by
  simp only[qah,zob]at h
  obtain⟨⟨e2,σ2⟩,h1,h2⟩:=h
  obtain⟨ha,hb⟩:=hl o (by simp)
  have hone : ∀r,qae O e σ o.it=some (r,σ2)→σ2=σ∧qae O e τ o.it=some (r,τ):=fun r hr=>by
   rcases hk with hk|⟨hk,ρ,rfl⟩
   ·exact⟨(qg2 (hk o (by simp)) hr).1,(qg2 (hk o (by simp)) hr).2 τ⟩
   ·rcases hk o (by simp)with hk|hk
    ·exact⟨(qg2 hk hr).1,(qg2 hk hr).2 _⟩
    ·exact q4f hk hr ρ
  have hσ:σ2=σ:=by
   rcases qgl h1 with h|⟨r,hr⟩
   ·exact h
   ·exact(hone r hr).1
  subst hσ
  obtain⟨y,rfl,h4⟩:=qf0 (τ:=τ) (τ1:=τ) h1 (qvz (d:=d) (x:=x) ha) (fun r hr=>(hone r hr).2) (fun _=>rfl)
  obtain⟨h9,e3,h5,h6⟩:=qfi (d:=d) (x:=x) (τ:=τ) (fun a ha=>hl a (wb _ ha)) (hk.imp (fun hk a ha=>hk a (wb _ ha)) (fun hk=>⟨fun a ha=>hk.1 a (wb _ ha),hk.2⟩)) h2
  obtain⟨e4,h7,h8⟩:=qms (qzz e (d:=o.dst) (d':=d) (fun k hk hd=>hb k hd hk) y x) h5
  exact⟨h9,e4,by simp only[qah,h4,wd];exact h7,h8.symm.trans h6⟩
theorem q63 {d:Option Nat} {x:Option AV} : ∀ {l:List COper} {e e1:Env} {σ σ1:qf},(∀a∈l,(∀k,d=some k→k∉a.reads)∧(∀k,d=some k→a.dst≠some k)) →
  (∀a∈l,a.it.kind = .pure∨a.it.kind = .load∨a.it.kind = .alloc)→qah O l e σ=some (e1,σ1) →
  ∃ ρ,σ1=σ++ρ∧qto ρ ∧ ∀ τ:qf,Up σ τ→τ.length=σ.length → ∃e1',qah O l (e.put d x) τ=some (e1',τ++ρ)∧Eqv e1' (e1.put d x)
 | [],e,e1,σ,σ1,_,_,h=>by simp only[qah]at h ⊢;cases h;exact⟨[],by simp,by simp[qto],fun τ _ _=>⟨_,by simp,Eqv.refl _⟩⟩
 |o::l,e,e1,σ,σ1,hl,hk,h=>by
  simp only[qah,zob]at h
  obtain⟨⟨e2,σ2⟩,h1,h2⟩:=h
  obtain⟨ha,hb⟩:=hl o (by simp)
  have hone : ∃ ρ,σ2=σ++ρ∧qto ρ ∧ ∀ τ:qf,Up σ τ→τ.length=σ.length→(∀r,qae O e σ o.it=some (r,σ2)→qae O e τ o.it=some (r,τ++ρ))∧(σ2=σ→τ++ρ=τ):=by
   rcases qgl h1 with rfl|⟨r0,hr0⟩
   ·refine⟨[],by simp,by simp[qto],fun τ hu hle=>⟨fun r hr => ?_,fun _=>by simp⟩⟩
    rcases hk o (by simp)with hk|hk|hk
    ·simpa using (qg2 hk hr).2 τ
    ·simpa using (q7f hk hr hu).2
    ·obtain⟨ρ,q1,_,q3⟩:=q9m hk hr
     have:ρ=[]:=by
      have:=congrArg List.length q1
      simp at this
      exact this
     subst this
     exact q3 τ hu hle
   ·rcases hk o (by simp)with hk|hk|hk
    ·obtain⟨rfl,_⟩:=qg2 hk hr0
     exact⟨[],by simp,by simp[qto],fun τ hu hle=>⟨fun r hr=>by simpa using (qg2 hk hr).2 τ,fun _=>by simp⟩⟩
    ·obtain⟨rfl,_⟩:=q7f hk hr0 (Up.refl σ)
     exact⟨[],by simp,by simp[qto],fun τ hu hle=>⟨fun r hr=>by simpa using (q7f hk hr hu).2,fun _=>by simp⟩⟩
    ·obtain⟨ρ,q1,q2,q3⟩:=q9m hk hr0
     refine⟨ρ,q1,q2,fun τ hu hle=>⟨fun r hr => ?_,fun h => ?_⟩⟩
     ·rw[hr0]at hr;cases hr;exact q3 τ hu hle
     ·rw[q1]at h
      have:=congrArg List.length h
      simp at this
      rw[this];simp
  obtain⟨ρ,rfl,hn,hone⟩:=hone
  obtain⟨y,rfl,h4⟩:=qf0 (τ:=σ) (τ1:=σ++ρ) h1 (fun _ _=>rfl) (fun r hr=>hr) (fun h=>h)
  obtain⟨ρ2,rfl,hn2,hrec⟩:=q63 (d:=d) (x:=x) (fun a ha=>hl a (wb _ ha)) (fun a ha=>hk a (wb _ ha)) h2
  refine⟨ρ++ρ2,by simp,fun ob hob=>(List.mem_append.1 hob).elim (hn ob) (hn2 ob),fun τ hu hle => ?_⟩
  obtain⟨q1,q2⟩:=hone τ hu hle
  obtain⟨y',hy',h5⟩:=qf0 (τ:=τ) (τ1:=τ++ρ) h1 (qvz (d:=d) (x:=x) ha) q1 q2
  have hyy:Eqv (e.put o.dst y) (e.put o.dst y'):=by rw[hy'];exact Eqv.refl _
  obtain⟨e3,h6,h7⟩:=hrec (τ++ρ) (hu.more hle ρ) (by simp[hle])
  have hc:Eqv ((e.put o.dst y).put d x) ((e.put d x).put o.dst y'):=(hyy.put d x).trans (qzz e (d:=o.dst) (d':=d) (fun k hk hd=>hb k hd hk) y' x)
  obtain⟨e4,h8,h9⟩:=qms hc h6
  exact⟨e4,by simp only[qah,h5,wd];rw[h8];simp,h9.symm.trans h7⟩
theorem qmo {a b:Item'} (h:qagz a b=true):(∃s ag x av s' t y,a = .op (.ldD s ag x av)∧b = .op (.st s' (.t t) y)∧av.contains t=true)∨(∃s ag x t s' n y z av,a = .op (.ldB s ag x t)∧b = .op (.appB s' n y z av)∧av.contains t=true) ∨
  (∃s ag x t off f as,a = .op (.ldK s ag x t off)∧b = .callK f as t off s∧0<s)∨(∃s ag x t off f as,b = .op (.ldK s ag x t off)∧a = .callK f as t off s∧0<s) ∨ ∃s ag x t s' y z av,a = .op (.ldB s ag x t)∧b = .op (.stA s' y z av)∧av.contains t=true:=by
 unfold qagz at h
 split at h
 ·exact .inl ⟨_,_,_,_,_,_,_,rfl,rfl,h⟩
 ·exact .inr (.inl ⟨_,_,_,_,_,_,_,_,_,rfl,rfl,h⟩)
 ·exact .inr (.inr (.inr (.inr ⟨_,_,_,_,_,_,_,_,rfl,rfl,h⟩)))
 ·simp only[wa,beq_iff_eq,decide_eq_true_eq]at h
  obtain⟨rfl,rfl,rfl,h⟩:=h
  exact .inr (.inr (.inl ⟨_,_,_,_,_,_,_,rfl,rfl,h⟩))
 ·simp only[wa,beq_iff_eq,decide_eq_true_eq]at h
  obtain⟨rfl,rfl,rfl,h⟩:=h
  exact .inr (.inr (.inr (.inl ⟨_,_,_,_,_,_,_,rfl,rfl,h⟩)))
 ·cases h
theorem qzv {a b:Item'} (h:qagz a b=true):b.kind = .write∨b.kind = .load:=by
 rcases qmo h with ⟨_,_,_,_,_,_,_,_,q,_⟩|⟨_,_,_,_,_,_,_,_,_,_,q,_⟩|⟨_,_,_,_,_,_,_,_,q,_⟩|⟨_,_,_,_,_,_,_,q,_,_⟩|⟨_,_,_,_,_,_,_,_,_,q,_⟩<;>rw[q]<;>simp[Item'.kind,COp.kind]
theorem qaa6 {s:Nat} {ag:Bool} {c c':List AV} {r:AV} (h0:0<s) (h:c.take s=c'.take s) (hl:qyb s ag c=some r):qyb s ag c'=some r:=by
 unfold qyb at hl⊢
 split at hl
 ·rename_i ha
  rw[if_pos ha]
  split at hl
  ·rename_i hs
   cases hl
   have:=congrArg List.length h
   simp only[List.length_take]at this
   rw[if_pos (by omega),h]
  ·cases hl
 ·rename_i ha
  rw[if_neg ha]
  cases c with
  |nil=>cases hl
  |cons x c=>
   cases c' with
   |nil=>obtain⟨s,rfl⟩ : ∃k,s=k+1:=⟨s-1,by omega⟩;simp at h
   |cons y c'=>
    obtain⟨s,rfl⟩ : ∃k,s=k+1:=⟨s-1,by omega⟩
    simp only[List.take_succ_cons,List.cons.injEq]at h
    simp only[List.head?_cons,Option.some.injEq]at hl⊢
    rw[←h.1];exact hl
theorem qamv {s:Nat} {ag:Bool} {x:Opnd} {t off:Nat} {r:AV} (h0:0<s) (h:qae O e σ (.op (.ldK s ag x t off))=some (r,σ')) (hk:qe2 e σ τ t off s=true) :
  σ'=σ∧qae O e τ (.op (.ldK s ag x t off))=some (r,τ):=by
 simp only[qae,qdy,zob]at h⊢
 obtain⟨q,h1,h⟩:=h
 split at h
 ·rename_i hb
  simp only[zob]at h
  obtain⟨cs,h2,v,h3,h⟩:=h
  cases h
  refine⟨rfl,q,h1,?_⟩
  rw[if_pos hb]
  simp only[zob]
  unfold qakb at hb
  unfold qe2 at hk
  split at hb
  ·rename_i o g i f o' g' i' f' hq
   simp only[wa,beq_iff_eq]at hb
   obtain⟨rfl,rfl,rfl,rfl⟩:=hb
   rw[hq]at hk
   simp only at hk
   split at hk
   ·rename_i z1 es g1 z2 es' g2 ho1 ho2
    split at hk
    ·rename_i c c' hc1 hc2
     simp only[wa,beq_iff_eq]at hk
     obtain⟨rfl,hk⟩:=hk
     have hk:=qwt _ _ hk
     unfold qb at h2⊢
     simp only[ho1]at h2
     split at h2
     ·rename_i hg
      rw[hc1]at h2
      simp only[wd,Option.some.injEq]at h2
      subst h2
      refine⟨c'.drop (f'+off),?_,_,qaa6 h0 hk h3,rfl⟩
      simp only[ho2,if_pos hg,hc2,wd]
     ·cases h2
    ·cases hk
   ·cases hk
  ·cases hb
 ·cases h
theorem qabr {d:Option Nat} {x:Option AV} {t off s:Nat} : ∀ {l:List COper} {e e1:Env} {σ σ1 τ:qf},(∀a∈l,(∀k,d=some k→k∉a.reads)∧(∀k,d=some k→a.dst≠some k)) →
  (∀a∈l,a.dst≠some t∧(a.it.kind = .pure ∨ ∃ag y,a.it = .op (.ldK s ag y t off)))→0<s→qe2 e σ τ t off s=true→qah O l e σ=some (e1,σ1) →
  σ1=σ ∧ ∃e1',qah O l (e.put d x) τ=some (e1',τ)∧Eqv e1' (e1.put d x)
 | [],e,e1,σ,σ1,τ,_,_,_,_,h=>by simp only[qah]at h ⊢;cases h;exact⟨rfl,_,rfl,Eqv.refl _⟩
 |q::l,e,e1,σ,σ1,τ,hl,hk,h0,het,h=>by
  simp only[qah,zob]at h
  obtain⟨⟨e2,σ2⟩,h1,h2⟩:=h
  obtain⟨ha,hb⟩:=hl q (by simp)
  obtain⟨hd,hkq⟩:=hk q (by simp)
  have hone : ∀r,qae O e σ q.it=some (r,σ2)→σ2=σ∧qae O e τ q.it=some (r,τ):=fun r hr=>by
   rcases hkq with hkq|⟨ag,y,hit⟩
   ·exact⟨(qg2 hkq hr).1,(qg2 hkq hr).2 τ⟩
   ·rw[hit]at hr⊢
    exact qamv h0 hr het
  have hσ:σ2=σ:=by
   rcases qgl h1 with h|⟨r,hr⟩
   ·exact h
   ·exact(hone r hr).1
  subst hσ
  have het2:qe2 e2 σ2 τ t off s=true:=by
   rw[←het]
   unfold qe2
   rw[(qvx h1).get hd]
  obtain⟨y,rfl,h4⟩:=qf0 (τ:=τ) (τ1:=τ) h1 (qvz (d:=d) (x:=x) ha) (fun r hr=>(hone r hr).2) (fun _=>rfl)
  obtain⟨h9,e3,h5,h6⟩:=qabr (d:=d) (x:=x) (τ:=τ) (fun a ha=>hl a (wb _ ha)) (fun a ha=>hk a (wb _ ha)) h0 het2 h2
  obtain⟨e4,h7,h8⟩:=qms (qzz e (d:=q.dst) (d':=d) (fun k hk hd=>hb k hd hk) y x) h5
  exact⟨h9,e4,by simp only[qah,h4,wd];exact h7,h8.symm.trans h6⟩
theorem q3s {p:AV} : ∀ {l:List Nat} {t:Nat},q0c e p l=true→l.contains t=true → ∃o g i off,e.get t=some (.ptr o g i off) ∧ ∀o',p.obj? = some o'→o'≠o
 | [],t,_,h=>by simp at h
 |u::l,t,h,ht=>by
  simp only[q0c]at h
  split at h
  ·rename_i o g i off hu
   simp only[wa]at h
   by_cases hut:t=u
   ·subst hut
    refine⟨o,g,i,off,hu,fun o' ho' => ?_⟩
    have h1:=h.1
    rw[ho']at h1
    simp only[Bool.not_eq_true',beq_eq_false_iff_ne,ne_eq]at h1
    exact fun e=>h1 e.symm
   ·refine q3s h.2 ?_
    simpa[List.contains_cons,hut]using ht
  ·cases h
theorem qam5 {s:Nat} {ag:Bool} {x:Opnd} {t:Nat} {r p:AV} {av:List Nat} (h:qae O e σ (.op (.ldB s ag x t))=some (r,σ')) (ht:av.contains t=true) (ha:q0c e p av=true) (hτ : ∀(k:Nat) (ob:SObj),σ[k]? = some ob→p.obj? ≠ some k→τ[k]? = some ob) :
  σ'=σ∧qae O e τ (.op (.ldB s ag x t))=some (r,τ):=by
 simp only[qae,qdy,zob]at h⊢
 obtain⟨q,h1,h⟩:=h
 split at h
 ·rename_i hb
  simp only[zob]at h
  obtain⟨cs,h2,v,h3,h⟩:=h
  cases h
  refine⟨rfl,q,h1,?_⟩
  rw[if_pos hb]
  simp only[zob]
  refine⟨cs,?_,_,h3,rfl⟩
  obtain⟨o2,g2,i2,off2,k1,k2⟩:=q3s ha ht
  unfold qb at h2⊢
  cases q<;>simp only at h2 ⊢ <;> try exact h2
  rename_i o' g' i' off'
  have ho':o'=o2:=by
   simp only[qajw,AV.obj?,k1]at hb
   simpa using hb
  subst ho'
  cases ho:σ[o']? with
  |none=>rw[ho]at h2;cases h2
  |some ob=>
   rw[hτ o' ob ho (fun hc=>k2 o' hc rfl)]
   rw[ho]at h2;exact h2
 ·cases h
theorem qyh {d:Option Nat} {x:Option AV} {p:AV} {av:List Nat} : ∀ {l:List COper} {e e1:Env} {σ σ1 τ:qf},(∀a∈l,(∀k,d=some k→k∉a.reads)∧(∀k,d=some k→a.dst≠some k)) →
  (∀a∈l,(∀t,t∈av→a.dst≠some t)∧(a.it.kind = .pure ∨ ∃s ag y t,a.it = .op (.ldB s ag y t)∧av.contains t=true))→q0c e p av=true→(∀(k:Nat) (ob:SObj),σ[k]? = some ob→p.obj? ≠ some k→τ[k]? = some ob)→qah O l e σ=some (e1,σ1) →
  σ1=σ ∧ ∃e1',qah O l (e.put d x) τ=some (e1',τ)∧Eqv e1' (e1.put d x)
 | [],e,e1,σ,σ1,τ,_,_,_,_,h=>by simp only[qah]at h ⊢;cases h;exact⟨rfl,_,rfl,Eqv.refl _⟩
 |q::l,e,e1,σ,σ1,τ,hl,hk,het,hτ,h=>by
  simp only[qah,zob]at h
  obtain⟨⟨e2,σ2⟩,h1,h2⟩:=h
  obtain⟨ha,hb⟩:=hl q (by simp)
  obtain⟨hd,hkq⟩:=hk q (by simp)
  have hone : ∀r,qae O e σ q.it=some (r,σ2)→σ2=σ∧qae O e τ q.it=some (r,τ):=fun r hr=>by
   rcases hkq with hkq|⟨s,ag,y,t,hit,hav⟩
   ·exact⟨(qg2 hkq hr).1,(qg2 hkq hr).2 τ⟩
   ·rw[hit]at hr⊢
    exact qam5 hr hav het hτ
  have hσ:σ2=σ:=by
   rcases qgl h1 with h|⟨r,hr⟩
   ·exact h
   ·exact(hone r hr).1
  subst hσ
  have het2:q0c e2 p av=true:=by
   rw[←het]
   exact qtj fun t ht=>(qvx h1).get (hd t ht)
  obtain⟨y,rfl,h4⟩:=qf0 (τ:=τ) (τ1:=τ) h1 (qvz (d:=d) (x:=x) ha) (fun r hr=>(hone r hr).2) (fun _=>rfl)
  obtain⟨h9,e3,h5,h6⟩:=qyh (d:=d) (x:=x) (τ:=τ) (fun a ha=>hl a (wb _ ha)) (fun a ha=>hk a (wb _ ha)) het2 hτ h2
  obtain⟨e4,h7,h8⟩:=qms (qzz e (d:=q.dst) (d':=d) (fun k hk hd=>hb k hd hk) y x) h5
  exact⟨h9,e4,by simp only[qah,h4,wd];exact h7,h8.symm.trans h6⟩
theorem qak0 {s n:Nat} {y z:Opnd} {av:List Nat} {r:AV} (h:qae O e σ (.op (.appB s n y z av))=some (r,σ')) : ∃p,y.ev e=some p∧q0c e p av=true ∧ ∀(k:Nat) (ob:SObj),σ[k]? = some ob→p.obj? ≠ some k→σ'[k]? = some ob:=by
 simp only[qae,qdy,zob]at h
 obtain⟨p,h1,h⟩:=h
 split at h
 ·rename_i haw
  simp only[zob]at h
  obtain⟨v,h2,xs,h3,h⟩:=h
  refine⟨p,h1,haw,fun k ob hk hne => ?_⟩
  unfold q6o at h
  split at h
  ·split at h
   ·split at h
    ·split at h
     ·split at h
      ·cases h;exact hk
      ·cases h
       rw[List.getElem?_set_ne (fun hc=>hne (by rw[←hc];rfl))];exact hk
     ·cases h
    ·cases h
   ·cases h
  ·split at h
   ·split at h
    ·cases h;exact hk
    ·cases h;exact qag0 hk
   ·cases h
  ·cases h
 ·cases h
theorem stA_item {s:Nat} {y z:Opnd} {av:List Nat} {r:AV} (h:qae O e σ (.op (.stA s y z av))=some (r,σ')) : ∃p,y.ev e=some p∧q0c e p av=true ∧ ∀(k:Nat) (ob:SObj),σ[k]? = some ob→p.obj? ≠ some k→σ'[k]? = some ob:=by
 simp only[qae,qdy,zob]at h
 obtain⟨p,h1,h⟩:=h
 split at h
 ·rename_i haw
  rw[zob]at h
  obtain⟨v,h2,h⟩:=h
  refine⟨p,h1,haw,fun k ob hk hne => ?_⟩
  unfold stP at h
  split at h
  ·split at h
   ·rw[zob]at h
    obtain⟨c,h3,h⟩:=h
    split at h
    ·cases h
     rw[List.getElem?_set_ne (fun hc=>hne (by rw[←hc];rfl))];exact hk
    ·cases h
   ·cases h
  ·cases h
 ·cases h
theorem qam3 {s:Nat} {ag:Bool} {x:Opnd} {av:List Nat} {r:AV} {t o g i off:Nat} (h:qae O e σ (.op (.ldD s ag x av))=some (r,σ')) (ht:av.contains t=true) (he:e.get t=some (.ptr o g i off)) (hτ : ∀k,k≠o→τ[k]? = σ[k]?) :
  σ'=σ∧qae O e τ (.op (.ldD s ag x av))=some (r,τ):=by
 simp only[qae,qdy,zob]at h⊢
 obtain⟨p,h1,h⟩:=h
 split at h
 ·rename_i haw
  simp only[zob]at h
  obtain⟨cs,h2,v,h3,h⟩:=h
  cases h
  refine⟨rfl,p,h1,?_⟩
  rw[if_pos haw]
  simp only[zob]
  refine⟨cs,?_,_,h3,rfl⟩
  obtain⟨o2,g2,i2,off2,k1,k2⟩:=q3s haw ht
  rw[he]at k1
  cases k1
  unfold qb at h2⊢
  cases p<;>simp only at h2 ⊢ <;> try exact h2
  rename_i o' g' i' off'
  rw[hτ o' (k2 o' rfl)]
  exact h2
 ·cases h
theorem q8y {d:Option Nat} {x:Option AV} {t o g i off:Nat} : ∀ {l:List COper} {e e1:Env} {σ σ1 τ:qf},(∀a∈l,(∀k,d=some k→k∉a.reads)∧(∀k,d=some k→a.dst≠some k)) →
  (∀a∈l,a.dst≠some t∧(a.it.kind = .pure ∨ ∃s ag y av,a.it = .op (.ldD s ag y av)∧av.contains t=true))→e.get t=some (.ptr o g i off)→(∀k,k≠o→τ[k]? = σ[k]?)→qah O l e σ=some (e1,σ1) →
  σ1=σ ∧ ∃e1',qah O l (e.put d x) τ=some (e1',τ)∧Eqv e1' (e1.put d x)
 | [],e,e1,σ,σ1,τ,_,_,_,_,h=>by simp only[qah]at h ⊢;cases h;exact⟨rfl,_,rfl,Eqv.refl _⟩
 |q::l,e,e1,σ,σ1,τ,hl,hk,het,hτ,h=>by
  simp only[qah,zob]at h
  obtain⟨⟨e2,σ2⟩,h1,h2⟩:=h
  obtain⟨ha,hb⟩:=hl q (by simp)
  obtain⟨hd,hkq⟩:=hk q (by simp)
  have hone : ∀r,qae O e σ q.it=some (r,σ2)→σ2=σ∧qae O e τ q.it=some (r,τ):=fun r hr=>by
   rcases hkq with hkq|⟨s,ag,y,av,hit,hav⟩
   ·exact⟨(qg2 hkq hr).1,(qg2 hkq hr).2 τ⟩
   ·rw[hit]at hr⊢
    exact qam3 hr hav het hτ
  have hσ:σ2=σ:=by
   rcases qgl h1 with h|⟨r,hr⟩
   ·exact h
   ·exact(hone r hr).1
  subst hσ
  have het2:e2.get t=some (.ptr o g i off):=by rw[(qvx h1).get hd];exact het
  obtain⟨y,rfl,h4⟩:=qf0 (τ:=τ) (τ1:=τ) h1 (qvz (d:=d) (x:=x) ha) (fun r hr=>(hone r hr).2) (fun _=>rfl)
  obtain⟨h9,e3,h5,h6⟩:=q8y (d:=d) (x:=x) (τ:=τ) (fun a ha=>hl a (wb _ ha)) (fun a ha=>hk a (wb _ ha)) het2 hτ h2
  obtain⟨e4,h7,h8⟩:=qms (qzz e (d:=q.dst) (d':=d) (fun k hk hd=>hb k hd hk) y x) h5
  exact⟨h9,e4,by simp only[qah,h4,wd];exact h7,h8.symm.trans h6⟩
theorem q7n {L:List Nat} : ∀ {l:List COper} {e e1:Env} {σ σ1:qf},(∀a∈l,∀k,a.dst=some k→k∉L)→qah O l e σ=some (e1,σ1)→qqb L e1 e
 | [],e,e1,σ,σ1,_,h=>by simp only[qah]at h;cases h;exact fun _ _=>rfl
 |o::l,e,e1,σ,σ1,hl,h=>by
  simp only[qah,zob]at h
  obtain⟨⟨e2,σ2⟩,h1,h2⟩:=h
  have h3:=q7n (fun a ha=>hl a (wb _ ha)) h2
  intro t ht
  rw[h3 t ht,(qvx h1).get (fun hd=>hl o (by simp) t hd ht)]
theorem q4j : ∀ {l:List COper} {e e1:Env} {σ σ1:qf},(∀a∈l,a.it.kind ≠ .write∧a.it.kind ≠ .fill)→qah O l e σ=some (e1,σ1) → ∃ ρ,σ1=σ++ρ
 | [],e,e1,σ,σ1,_,h=>by simp only[qah]at h;cases h;exact⟨[],by simp⟩
 |o::l,e,e1,σ,σ1,hl,h=>by
  simp only[qah,zob]at h
  obtain⟨⟨e2,σ2⟩,h1,h2⟩:=h
  obtain⟨ρ,rfl⟩:=q4j (fun a ha=>hl a (wb _ ha)) h2
  have : ∃ ρ',σ2=σ++ρ':=by
   rcases qgl h1 with rfl|⟨r,hr⟩
   ·exact⟨[],by simp⟩
   ·cases hk:o.it.kind with
    |pure=>exact⟨[],by rw[(qg2 hk hr).1];simp⟩
    |load=>exact⟨[],by rw[(q4f hk hr []).1];simp⟩
    |alloc=>exact qzr (.inl hk) hr
    |room=>exact qzr (.inr hk) hr
    |read=>exact⟨[],by rw[q73 hk hr];simp⟩
    |write=>exact absurd hk (hl o (by simp)).1
    |fill=>exact absurd hk (hl o (by simp)).2
  obtain⟨ρ',rfl⟩:=this
  exact⟨ρ'++ρ,by rw[List.append_assoc]⟩
theorem q7q : ∀ {l:List COper} {e e1:Env} {σ σ1:qf},(∀a∈l,a.it.kind = .pure∨a.it.kind = .load∨a.it.kind = .read)→qah O l e σ=some (e1,σ1)→σ1=σ
 | [],e,e1,σ,σ1,_,h=>by simp only[qah]at h;cases h;rfl
 |o::l,e,e1,σ,σ1,hl,h=>by
  simp only[qah,zob]at h
  obtain⟨⟨e2,σ2⟩,h1,h2⟩:=h
  rw[q7q (fun a ha=>hl a (wb _ ha)) h2]
  rcases qgl h1 with h|⟨r,hr⟩
  ·exact h
  ·rcases hl o (by simp)with hk|hk|hk
   ·exact(qg2 hk hr).1
   ·exact(q4f hk hr []).1
   ·exact q73 hk hr
def qaem (p i f off s:Nat) (σ τ:qf):Prop:=p<σ.length→p<τ.length ∧ ∀z es' g c',τ[p]? = some (.row z es' g)→es'[i]? = some c' →
 ∃z es c,σ[p]? = some (.row z es g)∧es[i]? = some c∧(c'.drop (f+off)).take s=(c.drop (f+off)).take s
theorem qaem.grow {p i f off s:Nat} (ρ:qf):qaem p i f off s σ (σ++ρ):=fun hp=>⟨by simp;omega,fun z es g c h1 h2=>⟨z,es,c,qqh h1 hp,h2,rfl⟩⟩
theorem qabq {t off s:Nat} : ∀ {l:List COper} {e e1:Env} {σ σ1:qf},(∀a∈l,a.dst≠some t∧((a.it.kind ≠ .write∧a.it.kind ≠ .fill) ∨ ∃f as,a.it = .callK f as t off s)) → ∀ {p g i f:Nat},e.get t=some (.ptr p g i f)→qah O l e σ=some (e1,σ1)→qaem p i f off s σ σ1
 | [],e,e1,σ,σ1,_,p,g,i,f,_,h=>by simp only[qah]at h;cases h;simpa using qaem.grow (σ:=σ) []
 |q::l,e,e1,σ,σ1,hl,p,g,i,f,het,h=>by
  simp only[qah,zob]at h
  obtain⟨⟨e2,σ2⟩,h1,h2⟩:=h
  obtain⟨hd,hq⟩:=hl q (by simp)
  have ih:=qabq (fun a ha=>hl a (wb _ ha)) (p:=p) (g:=g) (i:=i) (f:=f) (by rw[(qvx h1).get hd];exact het) h2
  have one:qaem p i f off s σ σ2:=by
   rcases qgl h1 with rfl|⟨r,hr⟩
   ·simpa using qaem.grow (σ:=σ2) []
   ·rcases hq with hq|⟨f',as,hit⟩
    ·obtain⟨ρ,rfl⟩:=q4j (O:=O) (l:=[q]) (e:=e) (e1:=e2) (σ:=σ) (σ1:=σ2) (fun a ha=>by rw[List.mem_singleton]at ha;subst ha;exact hq) (by simp only[qah,h1,wd])
     exact qaem.grow ρ
    ·rw[hit]at hr
     simp only[qae,zob]at hr
     obtain⟨g',_,vs,_,hr⟩:=hr
     split at hr
     ·rw[zob]at hr
      obtain⟨⟨u,τ⟩,_,hr⟩:=hr
      split at hr
      ·rename_i hke
       cases hr
       unfold qe2 at hke
       rw[het]at hke
       simp only at hke
       split at hke
       ·rename_i z1 es g1 z2 es' g2 ho1 ho2
        split at hke
        ·rename_i c c' hc1 hc2
         simp only[wa,beq_iff_eq]at hke
         obtain⟨rfl,hke⟩:=hke
         have hke:=qwt _ _ hke
         refine fun _=>⟨(zei.1 ho2).1,fun z es2 g c2 k1 k2 => ?_⟩
         rw[ho2]at k1;cases k1
         rw[hc2]at k2;cases k2
         exact⟨_,_,_,ho1,hc1,hke.symm⟩
        ·cases hke
       ·cases hke
      ·cases hr
     ·cases hr
  intro hp
  obtain⟨p1,k1⟩:=one hp
  obtain⟨p2,k2⟩:=ih p1
  refine⟨p2,fun z es' g c' a1 a2 => ?_⟩
  obtain⟨_,es2,c2,b1,b2,b3⟩:=k2 z es' g c' a1 a2
  obtain⟨z3,es3,c3,d1,d2,d3⟩:=k1 _ _ _ _ b1 b2
  exact⟨z3,es3,c3,d1,d2,b3.trans d3⟩
theorem ldK_back {s t off:Nat} {ag:Bool} {x:Opnd} {r:AV} (h0:0<s) (hkn:qamn σ.length e) (h:qae O e τ (.op (.ldK s ag x t off))=some (r,σ')) (hb : ∀p g i f,e.get t=some (.ptr p g i f)→qaem p i f off s σ τ) :
  qae O e σ (.op (.ldK s ag x t off))=some (r,σ):=by
 simp only[qae,qdy,zob]at h⊢
 obtain⟨q,h1,h⟩:=h
 split at h
 ·rename_i hka
  simp only[zob]at h
  obtain⟨cs,h2,v,h3,h⟩:=h
  cases h
  refine⟨q,h1,?_⟩
  rw[if_pos hka]
  simp only[zob]
  unfold qakb at hka
  split at hka
  ·rename_i o g i f o' g' i' f' hq
   simp only[wa,beq_iff_eq]at hka
   obtain⟨rfl,rfl,rfl,rfl⟩:=hka
   have hlt:=hkn t _ o hq rfl
   obtain⟨_,hk⟩:=hb _ _ _ _ hq hlt
   unfold qb at h2⊢
   simp only at h2
   split at h2
   ·rename_i z es' gg ho
    split at h2
    ·rename_i hg
     rw[zob]at h2
     obtain⟨c',hc',h2⟩:=h2
     cases h2
     obtain⟨z2,es2,c2,a1,a2,a3⟩:=hk _ _ _ _ ho hc'
     refine⟨c2.drop (f'+off),?_,_,qaa6 h0 a3 h3,rfl⟩
     simp only[a1,if_pos hg,a2,wd]
    ·cases h2
   ·cases h2
  ·cases hka
 ·cases h
theorem qaka {l:List COper} {o:COper} {e1 e2:Env} {σ1 σ2:qf} (hl : ∀a∈l,Ap a o) (hkn:qamn σ.length e) (hc:qy4 o.it=true) (h1:qah O l e σ=some (e1,σ1)) (h2:qgy O e1 σ1 o=some (e2,σ2)) :
  ∃e1' τ,qgy O e σ o=some (e1',τ) ∧ ∃e2',qah O l e1' τ=some (e2',σ2)∧Eqv e2' e2:=by
 have hag:qqb o.reads e1 e:=q7n (fun a ha k hk=>(hl a ha).r1 k hk) h1
 have hag':qqb (qq4 o.it) e1 e:=by rw[qrr]at hag;exact hag.right
 have hd : ∀a∈l,(∀k,o.dst=some k→k∉a.reads)∧(∀k,o.dst=some k→a.dst≠some k):=fun a ha=>⟨(hl a ha).r2,(hl a ha).ne⟩
 cases hk:o.it.kind with
 |pure=>
  have hσ:σ2=σ1:=by
   rcases qgl h2 with h|⟨r,hr⟩
   ·exact h
   ·exact(qg2 hk hr).1
  subst hσ
  obtain⟨x,rfl,h3⟩:=qf0 (τ:=σ) (τ1:=σ) h2 hag (fun r hr=>(qg2 hk hr).2 σ) (fun _=>rfl)
  obtain⟨e3,h4,h5⟩:=qv5 (x:=x) hd h1
  exact⟨_,_,h3,e3,h4,h5⟩
 |load=>
  by_cases hnw : ∀a∈l,a.it.kind ≠ .write∧a.it.kind ≠ .fill
  ·obtain⟨ρ,rfl⟩:=q4j hnw h1
   have hσ:σ2=σ++ρ:=by
    rcases qgl h2 with h|⟨r,hr⟩
    ·exact h
    ·exact(q4f hk hr []).1
   subst hσ
   obtain⟨x,rfl,h3⟩:=qf0 (e':=e) (τ:=σ) (τ1:=σ) h2 hag (fun r hr=>by
    rw[qhk hag']at hr⊢
    exact qal9 hk hkn hc hr) (fun _=>rfl)
   obtain⟨e3,h4,h5⟩:=qv5 (x:=x) hd h1
   exact⟨_,_,h3,e3,h4,h5⟩
  ·have hex : ∃a∈l,qagz a.it o.it=true:=by
    simp only[Classical.not_forall]at hnw
    obtain⟨a,ha,hne⟩:=hnw
    refine⟨a,ha,(hl a ha).free.resolve_left fun this=>hne ?_⟩
    rw[hk]at this
    revert this
    cases a.it.kind<;>simp[Kind.free]
   obtain⟨a0,_,has⟩:=hex
   have hot : ∃s ag x t off,o.it = .op (.ldK s ag x t off)∧0<s:=by
    rcases qmo has with ⟨_,_,_,_,_,_,_,_,q,_⟩|⟨_,_,_,_,_,_,_,_,_,_,q,_⟩|⟨_,_,_,_,_,_,_,_,q,_⟩|⟨s,ag,x,t,off,_,_,q,_,h0⟩|⟨_,_,_,_,_,_,_,_,_,q,_⟩
    ·rw[q]at hk;cases hk
    ·rw[q]at hk;cases hk
    ·rw[q]at hk;cases hk
    ·exact⟨s,ag,x,t,off,q,h0⟩
    ·rw[q]at hk;cases hk
   obtain⟨s,ag,x,t,off,hot,h0⟩:=hot
   have hall : ∀a∈l,a.dst≠some t∧((a.it.kind ≠ .write∧a.it.kind ≠ .fill) ∨ ∃f as,a.it = .callK f as t off s):=fun a ha=>by
    refine⟨fun hda=>(hl a ha).r1 t hda ?_,?_⟩
    ·rw[qrr,hot]
     exact wf _ (by simp[qq4,COp.reads])
    ·rcases(hl a ha).free with this|this
     ·left
      rw[hk]at this
      revert this
      cases a.it.kind<;>simp[Kind.free]
     ·rcases qmo this with ⟨_,_,_,_,_,_,_,_,q2,_⟩|⟨_,_,_,_,_,_,_,_,_,_,q2,_⟩|⟨_,_,_,_,_,_,_,_,q2,_⟩|⟨s2,ag2,x2,t2,off2,f2,as2,q2,q1,_⟩|⟨_,_,_,_,_,_,_,_,_,q2,_⟩
      ·rw[hot]at q2;cases q2
      ·rw[hot]at q2;cases q2
      ·rw[hot]at q2;cases q2
      ·rw[hot]at q2;cases q2
       exact .inr ⟨f2,as2,q1⟩
      ·rw[hot]at q2;cases q2
   have hσ:σ2=σ1:=by
    rcases qgl h2 with h|⟨r,hr⟩
    ·exact h
    ·exact(q4f hk hr []).1
   subst hσ
   obtain⟨x,rfl,h3⟩:=qf0 (e':=e) (τ:=σ) (τ1:=σ) h2 hag (fun r hr=>by
    rw[qhk hag']at hr⊢
    rw[hot]at hr⊢
    exact ldK_back h0 hkn hr fun p g i f het=>qabq hall het h1) (fun _=>rfl)
   obtain⟨e3,h4,h5⟩:=qv5 (x:=x) hd h1
   exact⟨_,_,h3,e3,h4,h5⟩
 |alloc=>
  have hpl : ∀a∈l,a.it.kind = .pure∨a.it.kind = .load:=fun a ha=>by
   rcases(hl a ha).free with this|this
   ·rw[hk]at this
    revert this
    cases a.it.kind<;>simp[Kind.free]
   ·rcases qzv this with q|q<;>(rw[q]at hk;cases hk)
  have hσ:σ1=σ:=by
   have:=qfi (d:=none) (x:=none) (τ:=σ) (fun a ha=>⟨fun k h=>(by cases h),fun k h=>(by cases h)⟩) (.inr ⟨hpl,[],by simp⟩) h1
   exact this.1
  subst hσ
  obtain⟨x,rfl,h3⟩:=qf0 (τ:=σ1) (τ1:=σ2) h2 hag (fun r hr=>hr) (fun h=>h)
  have hρ : ∃ ρ,σ2=σ1++ρ:=by
   rcases qgl h2 with rfl|⟨r,hr⟩
   ·exact⟨[],by simp⟩
   ·exact qzr (.inl hk) hr
  obtain⟨_,e3,h4,h5⟩:=qfi (x:=x) (τ:=σ2) hd (.inr ⟨hpl,hρ⟩) h1
  exact⟨_,_,h3,e3,h4,h5⟩
 |room=>
  have hpl : ∀a∈l,a.it.kind = .pure∨a.it.kind = .load:=fun a ha=>by
   rcases(hl a ha).free with this|this
   ·rw[hk]at this
    revert this
    cases a.it.kind<;>simp[Kind.free]
   ·rcases qzv this with q|q<;>(rw[q]at hk;cases hk)
  have hσ:σ1=σ:=by
   have:=qfi (d:=none) (x:=none) (τ:=σ) (fun a ha=>⟨fun k h=>(by cases h),fun k h=>(by cases h)⟩) (.inr ⟨hpl,[],by simp⟩) h1
   exact this.1
  subst hσ
  obtain⟨x,rfl,h3⟩:=qf0 (τ:=σ1) (τ1:=σ2) h2 hag (fun r hr=>hr) (fun h=>h)
  have hρ : ∃ ρ,σ2=σ1++ρ:=by
   rcases qgl h2 with rfl|⟨r,hr⟩
   ·exact⟨[],by simp⟩
   ·exact qzr (.inr hk) hr
  obtain⟨_,e3,h4,h5⟩:=qfi (x:=x) (τ:=σ2) hd (.inr ⟨hpl,hρ⟩) h1
  exact⟨_,_,h3,e3,h4,h5⟩
 |fill=>
  have hpl : ∀a∈l,a.it.kind = .pure∨a.it.kind = .load∨a.it.kind = .alloc:=fun a ha=>by
   rcases(hl a ha).free with this|this
   ·rw[hk]at this
    revert this
    cases a.it.kind<;>simp[Kind.free]
   ·rcases qzv this with q|q<;>(rw[q]at hk;cases hk)
  obtain⟨ρ0,q1,q2,_⟩:=q63 (d:=none) (x:=none) (fun a ha=>⟨fun k h=>(by cases h),fun k h=>(by cases h)⟩) hpl h1
  subst q1
  rcases qsh.1 h2 with ⟨hg,r,h3,rfl⟩|⟨hg,rfl,rfl⟩
  ·obtain⟨p,ob,f1,f2,f3⟩:=q72 hk h3
   have hp:p<σ.length:=by
    rcases Nat.lt_or_ge p σ.length with hlt|hge
    ·exact hlt
    ·rw[wj hge]at f1
     exact absurd rfl (q2 _ (zmg f1))
   have f4:σ[p]? = some .hole:=qqh f1 hp
   subst f2
   obtain⟨x,hx,h4⟩:=qf0 (e':=e) (τ:=σ) (τ1:=σ.set p ob) h2 hag (fun r hr=>by
    rw[qhk hag']at hr⊢
    obtain⟨p',ob',g1,g2,g3⟩:=q72 hk hr
    have hpp:qae O e σ o.it=some (r,σ.set p ob):=by
     have g4:=g3 (σ++ρ0) g1
     rw[qhk hag']at h3
     have g5:=f3
     have:=f3 σ f4
     rw[qhk hag']at this
     have g6:=f3 (σ++ρ0) f1
     rw[qhk hag',hr]at g6
     rw[show r = _ from by cases g6;rfl]
     exact this
    exact hpp) (fun hs=>by
    have:(σ++ρ0)[p]? = ((σ++ρ0).set p ob)[p]?:=by rw[hs]
    rw[f1,List.getElem?_set_self (by simp;omega)]at this
    rw[←Option.some.inj this]
    obtain⟨hlt,hge⟩:=zei.1 f4
    rw[←hge,List.set_getElem_self])
   obtain⟨ρ,q3,_,q4⟩:=q63 (d:=o.dst) (x:=x) hd hpl h1
   have hρ:ρ=ρ0:=List.append_cancel_left q3.symm
   subst hρ
   obtain⟨e3,h5,h6⟩:=q4 (σ.set p ob) (Up.fill f4) (by simp)
   refine⟨_,_,h4,e3,?_,?_⟩
   ·rw[h5,List.set_append_left _ _ hp]
   ·rw[hx];exact h6
  ·obtain⟨x,hx,h4⟩:=qf0 (e':=e) (τ:=σ) (τ1:=σ) h2 hag (fun r hr=>by
    obtain⟨p',ob',g1,g2,g3⟩:=q72 hk hr
    have hp:p'<σ.length:=by
     rcases Nat.lt_or_ge p' σ.length with hlt|hge
     ·exact hlt
     ·rw[wj hge]at g1
      exact absurd rfl (q2 _ (zmg g1))
    have g4:σ[p']? = some .hole:=qqh g1 hp
    have g5:=g3 σ g4
    have hob:ob' = .hole:=by
     have:(σ++ρ0)[p']? = ((σ++ρ0).set p' ob')[p']?:=by rw[←g2]
     rw[g1,List.getElem?_set_self (by simp;omega)]at this
     exact(Option.some.inj this).symm
    subst hob
    rw[g5]
    obtain⟨hlt,hge⟩:=zei.1 g4
    rw[←hge,List.set_getElem_self]) (fun _=>rfl)
   obtain⟨ρ,q3,_,q4⟩:=q63 (d:=o.dst) (x:=x) hd hpl h1
   have hρ:ρ=ρ0:=List.append_cancel_left q3.symm
   subst hρ
   obtain⟨e3,h5,h6⟩:=q4 σ (Up.refl σ) rfl
   refine⟨_,_,h4,e3,h5,?_⟩
   rw[hx];exact h6
 |read=>
  have hpl : ∀a∈l,a.it.kind = .pure∨a.it.kind = .load∨a.it.kind = .read:=fun a ha=>by
   rcases(hl a ha).free with this|this
   ·rw[hk]at this
    revert this
    cases a.it.kind<;>simp[Kind.free]
   ·rcases qzv this with q|q<;>(rw[q]at hk;cases hk)
  have hσ:=q7q hpl h1
  subst hσ
  have hσ2:σ2=σ1:=by
   rcases qgl h2 with h|⟨r,hr⟩
   ·exact h
   ·exact q73 hk hr
  subst hσ2
  obtain⟨x,rfl,h3⟩:=qf0 (τ:=σ2) (τ1:=σ2) h2 hag (fun r hr=>hr) (fun h=>h)
  obtain⟨e3,h4,h5⟩:=qv5 (x:=x) hd h1
  exact⟨_,_,h3,e3,h4,h5⟩
 |write=>
  by_cases hpl : ∀a∈l,a.it.kind = .pure
  ·have hσ:σ1=σ:=by
    have:=qfi (d:=none) (x:=none) (τ:=σ) (fun a ha=>⟨fun k h=>(by cases h),fun k h=>(by cases h)⟩) (.inl hpl) h1
    exact this.1
   subst hσ
   obtain⟨x,rfl,h3⟩:=qf0 (τ:=σ1) (τ1:=σ2) h2 hag (fun r hr=>hr) (fun h=>h)
   obtain⟨_,e3,h4,h5⟩:=qfi (x:=x) (τ:=σ2) hd (.inl hpl) h1
   exact⟨_,_,h3,e3,h4,h5⟩
  ·have hex : ∃a∈l,qagz a.it o.it=true:=by
    simp only[Classical.not_forall]at hpl
    obtain⟨a,ha,hne⟩:=hpl
    refine⟨a,ha,(hl a ha).free.resolve_left fun this => ?_⟩
    rw[hk]at this
    revert this hne
    cases a.it.kind<;>simp[Kind.free]
   obtain⟨a0,ha0,has⟩:=hex
   rcases qmo has with ⟨_,_,_,_,s',t,y,_,hot,_⟩|⟨_,_,_,_,s',n,y,z,av,_,hot,_⟩|⟨s',_,_,t,off',f',as',_,hot,h0⟩|⟨_,_,_,_,_,_,_,hot,_,_⟩|⟨_,_,_,_,s',y,z,av,_,hot,_⟩
   case inr.inr.inr.inl=>rw[hot]at hk;cases hk
   case inr.inr.inr.inr=>
    have hall : ∀a∈l,(∀t,t∈av→a.dst≠some t)∧(a.it.kind = .pure ∨ ∃s ag y t,a.it = .op (.ldB s ag y t)∧av.contains t=true):=fun a ha=>by
     refine⟨fun t ht hda=>(hl a ha).r1 t hda ?_,?_⟩
     ·rw[qrr,hot]
      exact wf _ (by simp[qq4,COp.reads,ht])
     ·rcases(hl a ha).free with this|this
      ·left
       rw[hk]at this
       revert this
       cases a.it.kind<;>simp[Kind.free]
      ·rcases qmo this with ⟨_,_,_,_,_,_,_,_,q2,_⟩|⟨_,_,_,_,_,_,_,_,_,_,q2,_⟩|⟨_,_,_,_,_,_,_,_,q2,_⟩|⟨_,_,_,_,_,_,_,q2,_,_⟩|⟨s,ag,x,t2,_,_,_,av2,q1,q2,q3⟩
       ·rw[hot]at q2;cases q2
       ·rw[hot]at q2;cases q2
       ·rw[hot]at q2;cases q2
       ·rw[hot]at q2;cases q2
       ·rw[hot]at q2
        cases q2
        exact .inr ⟨s,ag,x,t2,q1,q3⟩
    have hpl2 : ∀a∈l,a.it.kind = .pure∨a.it.kind = .load:=fun a ha=>(hall a ha).2.imp id fun⟨_,_,_,_,q,_⟩=>by rw[q];rfl
    have hσ:σ1=σ:=by
     have:=qfi (d:=none) (x:=none) (τ:=σ) (fun a ha=>⟨fun k h=>(by cases h),fun k h=>(by cases h)⟩) (.inr ⟨hpl2,[],by simp⟩) h1
     exact this.1
    subst hσ
    obtain⟨x,rfl,h3⟩:=qf0 (τ:=σ1) (τ1:=σ2) h2 hag (fun r hr=>hr) (fun h=>h)
    rcases qgl h2 with h|⟨r,hr⟩
    ·subst h
     obtain⟨_,e3,h4,h5⟩:=qfi (x:=x) (τ:=σ2) hd (.inr ⟨hpl2,[],by simp⟩) h1
     exact⟨_,_,h3,e3,h4,h5⟩
    ·rw[qhk hag',hot]at hr
     obtain⟨p,_,p2,p3⟩:=stA_item hr
     obtain⟨_,e3,h4,h5⟩:=qyh (x:=x) (τ:=σ2) hd hall p2 p3 h1
     exact⟨_,_,h3,e3,h4,h5⟩
   case inr.inr.inl=>
    have hall : ∀a∈l,a.dst≠some t∧(a.it.kind = .pure ∨ ∃ag y,a.it = .op (.ldK s' ag y t off')):=fun a ha=>by
     refine⟨fun hda=>(hl a ha).r1 t hda ?_,?_⟩
     ·rw[qrr,hot]
      exact wf _ (by simp[qq4])
     ·rcases(hl a ha).free with this|this
      ·left
       rw[hk]at this
       revert this
       cases a.it.kind<;>simp[Kind.free]
      ·rcases qmo this with ⟨_,_,_,_,_,_,_,_,q2,_⟩|⟨_,_,_,_,_,_,_,_,_,_,q2,_⟩|⟨s,ag,x,t2,off2,_,_,q1,q2,_⟩|⟨_,_,_,_,_,_,_,q2,_,_⟩|⟨_,_,_,_,_,_,_,_,_,q2,_⟩
       ·rw[hot]at q2;cases q2
       ·rw[hot]at q2;cases q2
       ·rw[hot]at q2
        cases q2
        exact .inr ⟨ag,x,q1⟩
       ·rw[hot]at q2;cases q2
       ·rw[hot]at q2;cases q2
    have hpl2 : ∀a∈l,a.it.kind = .pure∨a.it.kind = .load:=fun a ha=>(hall a ha).2.imp id fun⟨_,_,q⟩=>by rw[q];rfl
    have hσ:σ1=σ:=by
     have:=qfi (d:=none) (x:=none) (τ:=σ) (fun a ha=>⟨fun k h=>(by cases h),fun k h=>(by cases h)⟩) (.inr ⟨hpl2,[],by simp⟩) h1
     exact this.1
    subst hσ
    obtain⟨x,rfl,h3⟩:=qf0 (τ:=σ1) (τ1:=σ2) h2 hag (fun r hr=>hr) (fun h=>h)
    rcases qgl h2 with h|⟨r,hr⟩
    ·subst h
     obtain⟨_,e3,h4,h5⟩:=qfi (x:=x) (τ:=σ2) hd (.inr ⟨hpl2,[],by simp⟩) h1
     exact⟨_,_,h3,e3,h4,h5⟩
    ·rw[qhk hag',hot]at hr
     simp only[qae,zob]at hr
     obtain⟨g,_,vs,_,hr⟩:=hr
     split at hr
     ·rw[zob]at hr
      obtain⟨⟨u,τ⟩,_,hr⟩:=hr
      split at hr
      ·rename_i hke
       cases hr
       obtain⟨_,e3,h4,h5⟩:=qabr (x:=x) (τ:=σ2) hd hall h0 hke h1
       exact⟨_,_,h3,e3,h4,h5⟩
      ·cases hr
     ·cases hr
   case inr.inl=>
    have hall : ∀a∈l,(∀t,t∈av→a.dst≠some t)∧(a.it.kind = .pure ∨ ∃s ag y t,a.it = .op (.ldB s ag y t)∧av.contains t=true):=fun a ha=>by
     refine⟨fun t ht hda=>(hl a ha).r1 t hda ?_,?_⟩
     ·rw[qrr,hot]
      exact wf _ (by simp[qq4,COp.reads,ht])
     ·rcases(hl a ha).free with this|this
      ·left
       rw[hk]at this
       revert this
       cases a.it.kind<;>simp[Kind.free]
      ·rcases qmo this with ⟨_,_,_,_,_,_,_,_,q2,_⟩|⟨s,ag,x,t2,_,_,_,_,av2,q1,q2,q3⟩|⟨_,_,_,_,_,_,_,_,q2,_⟩|⟨_,_,_,_,_,_,_,q2,_,_⟩|⟨_,_,_,_,_,_,_,_,_,q2,_⟩
       ·rw[hot]at q2;cases q2
       ·rw[hot]at q2
        cases q2
        exact .inr ⟨s,ag,x,t2,q1,q3⟩
       ·rw[hot]at q2;cases q2
       ·rw[hot]at q2;cases q2
       ·rw[hot]at q2;cases q2
    have hpl2 : ∀a∈l,a.it.kind = .pure∨a.it.kind = .load:=fun a ha=>(hall a ha).2.imp id fun⟨_,_,_,_,q,_⟩=>by rw[q];rfl
    have hσ:σ1=σ:=by
     have:=qfi (d:=none) (x:=none) (τ:=σ) (fun a ha=>⟨fun k h=>(by cases h),fun k h=>(by cases h)⟩) (.inr ⟨hpl2,[],by simp⟩) h1
     exact this.1
    subst hσ
    obtain⟨x,rfl,h3⟩:=qf0 (τ:=σ1) (τ1:=σ2) h2 hag (fun r hr=>hr) (fun h=>h)
    rcases qgl h2 with h|⟨r,hr⟩
    ·subst h
     obtain⟨_,e3,h4,h5⟩:=qfi (x:=x) (τ:=σ2) hd (.inr ⟨hpl2,[],by simp⟩) h1
     exact⟨_,_,h3,e3,h4,h5⟩
    ·rw[qhk hag',hot]at hr
     obtain⟨p,_,p2,p3⟩:=qak0 hr
     obtain⟨_,e3,h4,h5⟩:=qyh (x:=x) (τ:=σ2) hd hall p2 p3 h1
     exact⟨_,_,h3,e3,h4,h5⟩
   have hall : ∀a∈l,a.dst≠some t∧(a.it.kind = .pure ∨ ∃s ag y av,a.it = .op (.ldD s ag y av)∧av.contains t=true):=fun a ha=>by
    refine⟨fun hda=>(hl a ha).r1 t hda ?_,?_⟩
    ·rw[qrr,hot]
     exact wf _ (by simp[qq4,COp.reads,opT])
    ·rcases(hl a ha).free with this|this
     ·left
      rw[hk]at this
      revert this
      cases a.it.kind<;>simp[Kind.free]
     ·rcases qmo this with ⟨s,ag,x,av,_,t2,_,q1,q2,q3⟩|⟨_,_,_,_,_,_,_,_,_,_,q2,_⟩|⟨_,_,_,_,_,_,_,_,q2,_⟩|⟨_,_,_,_,_,_,_,q2,_,_⟩|⟨_,_,_,_,_,_,_,_,_,q2,_⟩
      ·rw[hot]at q2
       cases q2
       exact .inr ⟨s,ag,x,av,q1,q3⟩
      ·rw[hot]at q2;cases q2
      ·rw[hot]at q2;cases q2
      ·rw[hot]at q2;cases q2
      ·rw[hot]at q2;cases q2
   have hett:e1.get t=e.get t:=hag t (by rw[qrr,hot];exact wf _ (by simp[qq4,COp.reads,opT]))
   have hσ:σ1=σ:=by
    clear h2
    have : ∀(l:List COper),(∀a∈l,a.it.kind = .pure ∨ ∃s ag y av,a.it = .op (.ldD s ag y av)∧av.contains t=true) → ∀ {e e1:Env} {σ σ1:qf},qah O l e σ=some (e1,σ1)→σ1=σ:=by
     intro l
     induction l with
     |nil=>intro _ e e1 σ σ1 h;simp only[qah]at h;cases h;rfl
     |cons q l ih=>
      intro hq e e1 σ σ1 h
      simp only[qah,zob]at h
      obtain⟨⟨e2,σ2⟩,k1,k2⟩:=h
      rw[ih (fun a ha=>hq a (wb _ ha)) k2]
      rcases qgl k1 with h|⟨r,hr⟩
      ·exact h
      ·rcases hq q (by simp)with hp|⟨s,ag,y,av,hit,_⟩
       ·exact(qg2 hp hr).1
       ·exact(q4f (by rw[hit];rfl) hr []).1
    exact this l (fun a ha=>(hall a ha).2) h1
   subst hσ
   obtain⟨x,rfl,h3⟩:=qf0 (τ:=σ1) (τ1:=σ2) h2 hag (fun r hr=>hr) (fun h=>h)
   by_cases hsame:σ2=σ1
   ·subst hsame
    -- the store was passed over,or has changed nothing
    have hpl2 : ∀a∈l,a.it.kind = .pure∨a.it.kind = .load:=fun a ha=>(hall a ha).2.imp id fun⟨_,_,_,_,q,_⟩=>by rw[q];rfl
    obtain⟨_,e3,h4,h5⟩:=qfi (x:=x) (τ:=σ2) hd (.inr ⟨hpl2,[],by simp⟩) h1
    exact⟨_,_,h3,e3,h4,h5⟩
   ·rcases qgl h2 with h|⟨r,hr⟩
    ·exact absurd h hsame
    ·rw[hot]at hr
     simp only[qae,qdy,zob]at hr
     obtain⟨p,p1,v,p2,hr⟩:=hr
     unfold stP at hr
     split at hr
     ·rename_i oo g i off
      have het:e.get t=some (.ptr oo g i off):=by rw[←hett];exact p1
      have hτ : ∀k,k≠oo→σ2[k]? = σ1[k]?:=by
       split at hr
       ·rw[zob]at hr
        obtain⟨c,_,hr⟩:=hr
        split at hr
        ·cases hr
         intro k hk2
         rw[List.getElem?_set_ne (fun h=>hk2 h.symm)]
        ·cases hr
       ·cases hr
      obtain⟨_,e3,h4,h5⟩:=q8y (x:=x) (τ:=σ2) hd hall het hτ h1
      exact⟨_,_,h3,e3,h4,h5⟩
     ·cases hr
end Go.Ev
namespace Go.Ev
open Go.RowKit (Below)
variable {P:Program} {Γ Γ':Ctx} {w w':World} {σ σ':qf} {e:Env} {a:Act} {av:AV}
abbrev FR (ro:Option Nat):Fence:={ Fence.wide with round:=ro }
def Got (P:Program) (Γ:Ctx) (w:World) (r:AV) (σ':qf) (v:Value) (w':World):Prop:=∃ Γ',VR Γ' w' r v∧SR P Γ' σ' w'∧Ext Γ Γ' w w'
def qaky (G:Value→World→Prop):Ending→World→Prop
 | .returned v,w'=>G v w'
 | _,_=>False
def qtb (P:Program) (G:Value→World→Prop):Result Next→Prop
 | .ok (.value v) w'=>G v w'
 | .ok .skip w'=>G undef w'
 | .ok (.enter f args) w'=>CallsIn Fence.wide 0 P f args w' (qaky G)
 | .ok (.round l f tmps as body) w'=>RoundIn Fence.wide 0 P l f tmps as body w' (qaky G)
 | _=>False
theorem qaky.mono {G G':Value→World→Prop} (h : ∀v w,G v w→G' v w) : ∀e w,qaky G e w→qaky G' e w
 | .returned v,w,k=>h v w k
 | .panicked _,_,k=>k
 | .outgrown,_,k=>k
theorem qtb.mono {G G':Value→World→Prop} (h : ∀v w,G v w→G' v w) {r:Result Next} (k:qtb P G r):qtb P G' r:=by
 cases r with
 |ok nx w=>
  cases nx<;>simp only[qtb]at k⊢
  ·exact h _ _ k
  ·exact h _ _ k
  ·exact CallsIn.mono k (qaky.mono h)
  ·exact RoundIn.mono k (qaky.mono h)
 |halt _ _=>exact k
theorem qus.next {res:Result Next} (h:qus P Γ w res av σ'):qtb P (Got P Γ w av σ') res:=by
 obtain⟨nx,v,w',Γ',rfl,h2|h2,h3,h4,h5⟩:=h
 ·subst h2;exact⟨Γ',h3,h4,h5⟩
 ·obtain⟨rfl,rfl⟩:=h2;exact⟨Γ',h3,h4,h5⟩
def qxw (P:Program) (O:Orc):Prop:=∀k args σ r σ',O.call k args σ=some (r,σ') → ∀ Γ w vs,SR P Γ σ w→VRs Γ w args vs→qtb P (Got P Γ w r σ') ((callFunc k vs.toArray).run P w)
def quz (P:Program) (O:Orc):Prop:=∀l args σ r σ',O.round l args σ=some (r,σ') → ∀ Γ w b vs,SR P Γ σ w→VRs Γ w args vs→l<Γ.n→((Γ.loc l).g=0→b=(Γ.loc l).b)→qtb P (Got P Γ w r σ') ((Instr.yield b vs.toArray).run P w)
theorem qmt {α β:Type} {f:α→Option β} : ∀ {as:List α} {bs:List β},qil f as=some bs→bs.length=as.length
 | [],bs,h=>by simp only[qil]at h;cases h;rfl
 |a::as,bs,h=>by
  simp only[qil,zob]at h
  obtain⟨b,_,bs',h2,h⟩:=h
  cases h
  simp[qmt h2]
theorem q9o {α β:Type} {f:α→Option β} : ∀ {as as':List α} {bs bs':List β},qil f as=some bs→qil f as'=some bs'→qil f (as++as')=some (bs++bs')
 | [],as',bs,bs',h,k=>by simp only[qil]at h;cases h;exact k
 |a::as,as',bs,bs',h,k=>by
  simp only[qil,zob]at h
  obtain⟨b,h1,bs1,h2,h⟩:=h
  cases h
  simp only[List.cons_append,qil,h1,q9o h2 k,wd]
theorem q68 {α β:Type} {f:α→Option β} : ∀ {as:List α} {bs:List β},qil f as=some bs → ∀ {i:Nat} {a:α},as[i]? = some a → ∃b,bs[i]? = some b∧f a=some b
 | [],bs,h,i,a,hi=>by simp at hi
 |x::as,bs,h,i,a,hi=>by
  simp only[qil,zob]at h
  obtain⟨b,h1,bs1,h2,h⟩:=h
  cases h
  cases i with
  |zero=>simp at hi;subst hi;exact⟨b,by simp,h1⟩
  |succ i=>simpa using q68 h2 (i:=i) (a:=a) (by simpa using hi)
theorem q2l {f:AV→Option AV} : ∀ {es fs:List (List AV)},qil (qil f) es=some fs→qil f es.flatten=some fs.flatten
 | [],fs,h=>by simp only[qil]at h;cases h;rfl
 |x::es,fs,h=>by
  simp only[qil,zob]at h
  obtain⟨b,h1,bs1,h2,h⟩:=h
  cases h
  simp only[List.flatten_cons]
  exact q9o h1 (q2l h2)
theorem qv4 {f:AV→Option AV} {sz:Nat} : ∀ {es fs:List (List AV)},qil (qil f) es=some fs→(∀e∈es,e.length=sz) → ∀e∈fs,e.length=sz
 | [],fs,h,_=>by simp only[qil]at h;cases h;simp
 |x::es,fs,h,k=>by
  simp only[qil,zob]at h
  obtain⟨b,h1,bs1,h2,h⟩:=h
  cases h
  intro y hy
  rcases List.mem_cons.1 hy with rfl|hy
  ·rw[qmt h1];exact k x (by simp)
  ·exact qv4 h2 (tl k) y hy
theorem qzm {f:AV→Option AV} (hf : ∀a v r,f a=some r→VR Γ w a v→VR Γ' w r v) : ∀ {as bs:List AV} {vs:List Value},qil f as=some bs→VRs Γ w as vs→VRs Γ' w bs vs
 | [],bs,vs,h,k=>by simp only[qil]at h;cases h;simpa only[VRs]using k
 |x::as,bs,vs,h,k=>by
  simp only[qil,zob]at h
  obtain⟨b,h1,bs1,h2,h⟩:=h
  cases h
  simp only[VRs]at k⊢
  obtain⟨u,us,rfl,h3,h4⟩:=k
  exact⟨u,us,rfl,hf _ _ _ h1 h3,qzm hf h2 h4⟩
theorem qqu {f:AV→Option AV} (hf : ∀a v r,f a=some r→VR Γ w a v→VR Γ' w r v) {as bs:List AV} {get:Nat→Option Value} (h:qil f as=some bs) (k:qi Γ w as get):qi Γ' w bs get:=by
 obtain⟨vs,h1,h2⟩:=k.list
 exact qi.of_list (qzm hf h h1) h2
theorem frz_ok (s:SR P Γ σ w) (hc : ∀b,Γ'.own b∨Γ'.far b→Γ.far b∧¬ Γ.own b) : ∀d a v r,frz σ d a=some r→VR Γ w a v→VR Γ' w r v:=by
 have low : ∀a v,a.lo 0=true→VR Γ w a v→VR Γ' w a v:=fun a v hl hv=>VR.weaken (fun b hb => .inr (hc b hb).1) 0 (Nat.zero_le _) (fun o ho=>absurd ho (wi _)) a v hl hv
 have okb : ∀b,Γ.okB w b→Γ'.okB w b:=fun b hb=>⟨hb.1,fun h=>hb.2.2 (hc b (.inl h)).1,fun h=>hb.2.2 (hc b (.inr h)).1⟩
 have own : ∀b,Γ.own b→Γ'.okB w b:=fun b hb=>⟨s.ownlt b hb,fun h=>(hc b (.inl h)).2 hb,fun h=>(hc b (.inr h)).2 hb⟩
 intro d
 induction d with
 |zero=>
  intro a v r h hv
  simp only[frz]at h
  split at h
  ·cases h;exact low _ _ ‹_› hv
  ·cases h
 |succ d ih=>
  intro a v r h hv
  simp only[frz]at h
  split at h
  ·cases h;exact low _ _ ‹_› hv
  ·cases a with
   |v x=>cases h;simpa only[VR]using hv
   |agg cs=>
    simp only[zob]at h
    obtain⟨cs',h1,h⟩:=h
    cases h
    simp only[VR]at hv⊢
    obtain⟨vs,rfl,h2⟩:=hv
    exact⟨vs,rfl,qzm ih h1 h2⟩
   |tup cs=>
    simp only[zob]at h
    obtain⟨cs',h1,h⟩:=h
    cases h
    simp only[VR]at hv⊢
    obtain⟨vs,rfl,h2⟩:=hv
    exact⟨vs,rfl,qzm ih h1 h2⟩
   |fsl es c=>
    simp only[zob]at h
    obtain⟨es',h1,h⟩:=h
    cases h
    simp only[VR]at hv⊢
    obtain⟨A,c',rfl,h2,h3,h4⟩:=hv
    have hl:=qmt h1
    refine⟨A,c',by rw[hl],by omega,fun hx=>by rw[h3 hx,hl],?_⟩
    rcases h4 with h4|⟨b,off,sz,rfl,h5,h6,h7,h8⟩
    ·subst h4;exact .inl (wg (by simpa using hl))
    ·exact .inr ⟨b,off,sz,rfl,okb b h5,h6,qv4 h1 h7,(qmw (qv4 h1 h7)).2 (qqu ih (q2l h1) ((qmw h7).1 h8))⟩
   |fptr cs=>
    simp only[zob]at h
    obtain⟨cs',h1,h⟩:=h
    cases h
    simp only[VR]at hv⊢
    obtain⟨b,off,rfl,h5,h6⟩:=hv
    exact⟨b,off,rfl,okb b h5,qqu ih h1 h6⟩
   |sl o g off len c=>
    simp only at h
    split at h
    ·rename_i sz es g' ho
     split at h
     ·rename_i hg
      obtain⟨rfl,hle⟩:=hg
      rw[zob]at h
      obtain⟨es',h1,h⟩:=h
      cases h
      have hO:=s.obj o _ ho
      simp only[OR]at hO
      have hn:((es.drop off).take len).length=len:=by simp;omega
      have hl:=(qmt h1).trans hn
      by_cases hpos:0<len
      ·obtain⟨cap,h2,h3,_,h4,h5⟩:=qzq s hv ho hle hpos
       have hlens : ∀x∈(es.drop off).take len,x.length=sz:=fun x hx=>hO.2.2.2.2.1 x (List.mem_of_mem_drop (List.mem_of_mem_take hx))
       simp only[VR]
       refine⟨_,cap,by rw[h2,hl],by omega,fun hx=>(by cases hx),.inr ⟨_,_,sz,rfl,own _ (s.blk o (by rw[←s.len];exact(zei.1 ho).1) (by omega)),hO.2.2.1,qv4 h1 hlens,
        (qmw (qv4 h1 hlens)).2 (qqu ih (q2l h1) h5)⟩⟩
      ·obtain rfl:len=0:=by omega
       have:es'=[]:=wg hl
       subst this
       simp only[VR]at hv⊢
       obtain⟨A,cap,rfl,_⟩:=hv
       exact⟨A,cap,rfl,by simp,fun hx=>(by cases hx),.inl trivial⟩
     ·cases h
    ·cases h
   |ptr o g i off=>
    simp only at h
    split at h
    ·rename_i sz es g' ho
     split at h
     ·rename_i hg
      subst hg
      rw[zob]at h
      obtain⟨c,hi,h⟩:=h
      rw[zob]at h
      obtain⟨cs',h1,h⟩:=h
      cases h
      have hcs:qb σ (.ptr o g i off)=some (c.drop off):=by simp[qb,ho,hi]
      have hO:=s.obj o _ ho
      simp only[OR]at hO
      have hlt:=(zei.1 hi).1
      have hct:(Γ.loc o).ct≠0:=by omega
      obtain⟨b,off',h2,h3⟩:=q4i s hv hcs
      have hb:b=(Γ.loc o).b:=by
       simp only[VR]at hv
       obtain⟨p,rfl,_,_,h4⟩:=hv
       have:=h4 hO.1
       rw[this]at h2
       cases h2;rfl
      subst hb
      simp only[VR]
      exact⟨_,off',h2,own _ (s.blk o (by rw[←s.len];exact(zei.1 ho).1) hct),qqu ih h1 h3⟩
     ·cases h
    ·cases h
   |fn f first cap=>
    simp only[zob]at h
    obtain⟨as,h1,bs,h2,h⟩:=h
    cases h
    simp only[VR]at hv⊢
    obtain⟨fs,cs,rfl,h3,h4⟩:=hv
    exact⟨fs,cs,rfl,qzm ih h1 h3,qzm ih h2 h4⟩
   |yld o=>cases h
   |mp o=>cases h
def Ctx.far0 (Γ:Ctx):Ctx:={ n:=0,loc:=Γ.loc,own:=fun _=>False,far:=fun b=>Γ.own b∨Γ.far b }
theorem SR.far0 (s:SR P Γ σ w):SR P Γ.far0 [] w where
 len:=rfl
 obj o ob h:=by simp at h
 blk o h:=absurd h (wi _)
 inj o o' h:=absurd h (wi _)
 ownlt b h:=h.elim
 farlt b h:=h.elim (s.ownlt b) (s.farlt b)
 sep b h:=h.elim
theorem VRs.far0 {as:List AV} {vs:List Value} (hl:los 0 as=true) (h:VRs Γ w as vs):VRs Γ.far0 w as vs:=
 VRs.weaken (Γ:=Γ) (Γ':=Γ.far0) (fun b hb=>hb.elim (fun h=>False.elim h) id) 0 (Nat.zero_le _) (fun o ho=>absurd ho (wi _)) as vs hl h
theorem Got.frozen {r r':AV} {τ:qf} {v:Value} (s:SR P Γ σ w) (h:Got P Γ.far0 w r τ v w') (hf:frz τ 6 r=some r'):Got P Γ w r' σ v w':=by
 obtain⟨Γ1,h1,h2,h3⟩:=h
 have hsame : ∀b,b<w.heap.size→w'.heap[b]? = w.heap[b]?:=fun b hb=>h3.same b hb id
 have hown : ∀b,Γ1.own b→w.heap.size≤b:=fun b hb=>(h3.own b hb).resolve_left id
 have hext:Ext Γ Γ w w':=⟨wh _,h3.size,fun b hb _=>hsame b hb,fun _ h => .inl h,rfl,fun _ _ => .inl rfl,h3.os,h3.tape,h3.output⟩
 refine⟨Γ,frz_ok h2 (fun b hb=>⟨by rw[h3.far];exact hb,fun ho => ?_⟩) _ _ _ _ hf h1,?_,hext⟩
 ·have:=hown b ho
  have:=hb.elim (s.ownlt b) (s.farlt b)
  omega
 ·exact⟨s.len,fun o ob ho=>(s.obj o ob ho).mono hext rfl fun hc=>hsame _ (s.ownlt _ (s.blk o (by rw[←s.len];exact(zei.1 ho).1) hc)),s.blk,s.inj,
   fun b hb=>wc (s.ownlt b hb) h3.size,fun b hb=>wc (s.farlt b hb) h3.size,s.sep⟩
mutual
theorem VR.low : ∀(a:AV) (y:Value),VR Γ w a y→a.lo Γ.n=true
 | .v x,y,_=>rfl
 | .agg cs,y,h=>by
  simp only[VR]at h
  obtain⟨vs,_,h⟩:=h
  simp only[AV.lo];exact VRs.low cs vs h
 | .tup cs,y,h=>by
  simp only[VR]at h
  obtain⟨vs,_,h⟩:=h
  simp only[AV.lo];exact VRs.low cs vs h
 | .fsl es c,y,h=>by
  simp only[VR]at h
  obtain⟨A,c',_,_,_,h⟩:=h
  simp only[AV.lo]
  rcases h with rfl|⟨b,off,sz,_,_,_,_,h⟩
  ·rfl
  ·exact qhp.low sz es _ h
 | .fptr cs,y,h=>by
  simp only[VR]at h
  obtain⟨b,off,_,_,h⟩:=h
  simp only[AV.lo];exact qi.low cs _ h
 | .sl o g off len c,y,h=>by
  simp only[VR]at h
  obtain⟨A,c',_,_,_,h,_⟩:=h
  simpa only[AV.lo,decide_eq_true_eq]using h
 | .ptr o g i off,y,h=>by
  simp only[VR]at h
  obtain⟨p,_,h,_⟩:=h
  simpa only[AV.lo,decide_eq_true_eq]using h
 | .fn f first cap,y,h=>by
  simp only[VR]at h
  obtain⟨fs,cs,_,h1,h2⟩:=h
  simp only[AV.lo,wa];exact⟨VRs.low first fs h1,VRs.low cap cs h2⟩
 | .yld o,y,h=>by
  simp only[VR]at h
  obtain⟨l,_,h,_⟩:=h
  simpa only[AV.lo,decide_eq_true_eq]using h
 | .mp o,y,h=>by
  simp only[VR]at h
  obtain⟨l,_,h,_⟩:=h
  simpa only[AV.lo,decide_eq_true_eq]using h
theorem VRs.low : ∀(as:List AV) (ys:List Value),VRs Γ w as ys→los Γ.n as=true
 | [],_,_=>rfl
 |a::as,ys,h=>by
  simp only[VRs]at h
  obtain⟨u,us,rfl,h1,h2⟩:=h
  simp only[los,wa];exact⟨VR.low a u h1,VRs.low as us h2⟩
theorem qi.low : ∀(as:List AV) (get:Nat→Option Value),qi Γ w as get→los Γ.n as=true
 | [],_,_=>rfl
 |a::as,get,h=>by
  simp only[qi]at h
  obtain⟨⟨u,_,h1⟩,h2⟩:=h
  simp only[los,wa];exact⟨VR.low a u h1,qi.low as _ h2⟩
theorem qhp.low (sz:Nat) : ∀(es:List (List AV)) (get:Nat→Option Value),qhp Γ w sz es get→qk9 Γ.n es=true
 | [],_,_=>rfl
 |e::es,get,h=>by
  simp only[qhp]at h
  simp only[qk9,wa];exact⟨qi.low e _ h.1,qhp.low sz es _ h.2⟩
end
theorem qi.imp (hv : ∀a y,VR Γ w a y→VR Γ' w a y) : ∀ {as:List AV} {get:Nat→Option Value},qi Γ w as get→qi Γ' w as get
 | [],_,_=>by simp only[qi]
 |a::as,get,h=>by
  simp only[qi]at h⊢
  obtain⟨⟨u,h1,h2⟩,h3⟩:=h
  exact⟨⟨u,h1,hv _ _ h2⟩,qi.imp hv h3⟩
theorem OR.imp {o:Nat} {ob:SObj} (hv : ∀a y,VR Γ w a y→VR Γ' w a y) (hl:Γ'.loc o=Γ.loc o) (h:OR P Γ w o ob):OR P Γ' w o ob:=by
 cases ob with
 |row sz es g=>
  simp only[OR]at h⊢
  rw[hl]
  obtain⟨h1,h2,h3,h4,h5,h6⟩:=h
  refine⟨h1,h2,h3,h4,h5,h6.imp id ?_⟩
  rintro⟨arr,et,h7,h8,h9⟩
  exact⟨arr,et,h7,h8,qi.imp hv h9⟩
 |loop env ps as body st pend=>
  simp only[OR]at h⊢
  rw[hl]
  obtain⟨h1,h2,r,h3,h4,h5,h6,h7,h8,h9,h10⟩:=h
  exact⟨h1,h2,r,h3,h4,h5,h6,h7,h8,fun t a ht=>hv _ _ (h9 t a ht),h10⟩
 |defr=>simp only[OR]at h ⊢;rw[hl];exact h
 |dead=>trivial
 |mp k es=>
  simp only[OR]at h⊢
  rw[hl]
  obtain⟨h1,h2,arr,clock,h3,h4⟩:=h
  exact⟨h1,h2,arr,clock,h3,h4.imp fun a y _ hy=>hv a y hy⟩
 |hole=>simp only[OR]at h ⊢;rw[hl];exact h
def Ctx.mid (Γ:Ctx) (o:Nat):Ctx:={ n:=Γ.n,loc:=Γ.loc,own:=fun b=>Γ.own b∧((Γ.loc o).ct≠0→b≠(Γ.loc o).b),far:=fun b=>Γ.far b∨((Γ.loc o).ct≠0∧b=(Γ.loc o).b) }
def Ctx.hide (Γ:Ctx) (o:Nat):Ctx:={ n:=Γ.n,loc:=fun o'=>if o'=o then ⟨(Γ.loc o).g+1,0,(Γ.loc o).sz,0⟩else Γ.loc o',own:=(Γ.mid o).own,far:=(Γ.mid o).far }
theorem VR.hide (s:SR P Γ σ w) {o:Nat} (ho:o<Γ.n) : ∀a y,VR Γ w a y→VR (Γ.hide o) w a y:=by
 intro a y h
 have h1:VR (Γ.mid o) w a y:=VR.weaken (Γ:=Γ) (Γ':=Γ.mid o) (fun b hb=>by
  rcases hb with hb|hb|⟨hc,rfl⟩
  ·exact .inl hb.1
  ·exact .inr hb
  ·exact .inl (s.blk o ho hc)) Γ.n (wh _) (fun _ _=>rfl) a y (VR.low a y h) h
 refine VR.mono (Γ:=Γ.mid o) (Γ':=Γ.hide o) (w:=w) (w':=w) ⟨wh _,wh _,fun _ _ _=>rfl,fun b hb => .inl hb,rfl,fun o' _ => ?_,rfl,rfl,rfl⟩ a y h1
 by_cases he:o'=o
 ·subst he;right;simp[Ctx.hide,Ctx.mid]
 ·left;simp[Ctx.hide,Ctx.mid,he]
theorem SR.hide (s:SR P Γ σ w) {o:Nat} (ho:o<Γ.n):SR P (Γ.hide o) (σ.set o .dead) w where
 len:=by simp[Ctx.hide,s.len]
 obj o' ob hob:=by
  rw[List.getElem?_set]at hob
  by_cases he:o=o'
  ·subst he
   rw[if_pos rfl,if_pos (by rw[s.len];exact ho)]at hob
   cases hob
   trivial
  ·rw[if_neg he]at hob
   exact(s.obj o' ob hob).imp (VR.hide s ho) (by simp[Ctx.hide,Ne.symm he])
 blk o' ho' hc:=by
  by_cases he:o'=o
  ·subst he;simp[Ctx.hide]at hc
  ·have hl:(Γ.hide o).loc o'=Γ.loc o':=by simp[Ctx.hide,he]
   rw[hl]at hc⊢
   exact⟨s.blk o' ho' hc,fun h2 hb=>he (s.inj o' o ho' ho hc h2 hb)⟩
 inj o1 o2 h1 h2 c1 c2 hb:=by
  by_cases e1:o1=o
  ·subst e1;simp[Ctx.hide]at c1
  ·by_cases e2:o2=o
   ·subst e2;simp[Ctx.hide]at c2
   ·have l1:(Γ.hide o).loc o1=Γ.loc o1:=by simp[Ctx.hide,e1]
    have l2:(Γ.hide o).loc o2=Γ.loc o2:=by simp[Ctx.hide,e2]
    rw[l1]at c1 hb;rw[l2]at c2 hb
    exact s.inj o1 o2 h1 h2 c1 c2 hb
 ownlt b hb:=s.ownlt b hb.1
 farlt b hb:=by
  rcases hb with hb|⟨hc,rfl⟩
  ·exact s.farlt b hb
  ·exact s.ownlt _ (s.blk o ho hc)
 sep b hb hf:=by
  rcases hf with hf|⟨hc,rfl⟩
  ·exact s.sep b hb.1 hf
  ·exact hb.2 hc rfl
theorem Got.filled {o g len sz pos:Nat} {cl:Bool} {τ:qf} {es es':List (List AV)} {v:Value} (s:SR P Γ σ w) (h:Got P Γ.far0 w (.sl o g 0 len cl) τ v w') (ho:τ[o]? = some (.row sz es g))
  (hf:qil (qil (frz (τ.set o .dead) 5)) es=some es') (hp:σ[pos]? = some .hole):Got P Γ w (.sl pos 1 0 len cl) (σ.set pos (.row sz es' 1)) v w':=by
 obtain⟨Γ1,h1,h2,h3⟩:=h
 have hsame : ∀b,b<w.heap.size→w'.heap[b]? = w.heap[b]?:=fun b hb=>h3.same b hb id
 have hown : ∀b,Γ1.own b→w.heap.size≤b:=fun b hb=>(h3.own b hb).resolve_left id
 have hfar:Γ1.far=fun b=>Γ.own b∨Γ.far b:=h3.far
 have hn1:o<Γ1.n:=by rw[←h2.len];exact(zei.1 ho).1
 have hO:=h2.obj o _ ho
 simp only[OR]at hO
 obtain⟨k1,k2,k3,k4,k5,k6⟩:=hO
 have hn:pos<Γ.n:=by rw[←s.len];exact(zei.1 hp).1
 have hconv:=frz_ok (Γ':=Γ.upd pos ⟨1,(Γ1.loc o).b,sz,(Γ1.loc o).ct⟩) (h2.hide hn1) (fun b hb=>by
  rcases hb with (hb|⟨hc,rfl⟩)|hb
  ·exact⟨.inl (by rw[hfar];exact .inl hb),fun hx=>by have:=hown b hx.1;have:=s.ownlt b hb;omega⟩
  ·exact⟨.inr ⟨hc,rfl⟩,fun hx=>hx.2 hc rfl⟩
  ·exact⟨.inl (by rw[hfar];exact .inr hb),fun hx=>by have:=hown b hx.1;have:=s.farlt b hb;omega⟩)
 obtain⟨q1,q2⟩:=qac8 (P:=P) (w':=w') s hp h3.size hsame h3.os h3.tape h3.output (Γ1.loc o).b sz (Γ1.loc o).ct (fun hc=>⟨hown _ (h2.blk o hn1 hc),h2.ownlt _ (h2.blk o hn1 hc)⟩) es' (by
  simp only[OR,Ctx.upd_same]
  refine⟨trivial,trivial,k3,by rw[qmt hf];exact k4,qv4 hf k5,k6.imp id ?_⟩
  rintro⟨arr,et,h7,h8,h9⟩
  exact⟨arr,et,h7,h8,qqu (fun a v r=>hconv 5 a v r) (q2l hf) (qi.imp (VR.hide h2 hn1) h9)⟩)
 refine⟨_,?_,q1,q2⟩
 simp only[VR]at h1⊢
 obtain⟨A,c,rfl,a1,a2,_,_,a3⟩:=h1
 obtain⟨a4,a5⟩:=a3 k1
 rw[Ctx.upd_same]
 refine⟨A,c,rfl,a1,a2,hn,wh _,fun _=>⟨a4,?_⟩⟩
 rw[k2]at a5
 exact a5
theorem qaaz {d:Nat} : ∀(as:List AV),(qlh d as).length=as.length
 | []=>rfl
 |a::as=>by simp only[qlh,List.length_cons,qaaz as]
theorem q1l {d:Nat} : ∀(es:List (List AV)),(qlv d es).length=es.length
 | []=>rfl
 |a::as=>by simp only[qlv,List.length_cons,q1l as]
theorem qyc {d sz:Nat} : ∀(es:List (List AV)),(∀e∈es,e.length=sz) → ∀e∈qlv d es,e.length=sz
 | [],_=>by simp[qlv]
 |a::as,h=>by
  intro y hy
  rcases List.mem_cons.1 hy with rfl|hy
  ·rw[qaaz];exact h a (by simp)
  ·exact qyc as (tl h) y hy
theorem q29 {d:Nat} : ∀(as bs:List AV),qlh d (as++bs)=qlh d as++qlh d bs
 | [],_=>rfl
 |a::as,bs=>by simp only[List.cons_append,qlh,q29 as bs]
theorem q5k {d:Nat} : ∀(es:List (List AV)),(qlv d es).flatten=qlh d es.flatten
 | []=>rfl
 |a::as=>by simp only[qlv,List.flatten_cons,q29,q5k as]
section shift
variable {d:Nat} (hb : ∀b,Γ.okB w b→Γ'.okB w b) (hn:Γ.n+d≤Γ'.n) (hloc : ∀o,o<Γ.n→Γ'.loc (o+d)=Γ.loc o)
include hb hn hloc
mutual
theorem VR.shifted : ∀(a:AV) (y:Value),VR Γ w a y→VR Γ' w (a.shift d) y
 | .v x,y,hy=>by simpa only[VR,AV.shift]using hy
 | .agg cs,y,hy=>by
  simp only[VR,AV.shift]at hy⊢
  obtain⟨vs,rfl,h2⟩:=hy
  exact⟨vs,rfl,VRs.shifted cs vs h2⟩
 | .tup cs,y,hy=>by
  simp only[VR,AV.shift]at hy⊢
  obtain⟨vs,rfl,h2⟩:=hy
  exact⟨vs,rfl,VRs.shifted cs vs h2⟩
 | .fsl es clip,y,hy=>by
  simp only[VR,AV.shift]at hy⊢
  obtain⟨A,c,rfl,h1,h2,h3⟩:=hy
  have hl:=q1l (d:=d) es
  refine⟨A,c,by rw[hl],by omega,fun h=>by rw[h2 h,hl],?_⟩
  rcases h3 with h3|⟨b,off,sz,h4,h5,h6,h7,h8⟩
  ·subst h3;exact .inl rfl
  ·exact .inr ⟨b,off,sz,h4,hb b h5,h6,qyc es h7,qhp.shifted sz es _ h8⟩
 | .fptr cs,y,hy=>by
  simp only[VR,AV.shift]at hy⊢
  obtain⟨b,off,rfl,h5,h6⟩:=hy
  exact⟨b,off,rfl,hb b h5,qi.shifted cs _ h6⟩
 | .sl o g off len clip,y,hy=>by
  simp only[VR,AV.shift]at hy⊢
  obtain⟨A,c,rfl,h5,h6,h1,h2,h3⟩:=hy
  rw[hloc o h1]
  exact⟨A,c,rfl,h5,h6,by omega,h2,h3⟩
 | .ptr o g i off,y,hy=>by
  simp only[VR,AV.shift]at hy⊢
  obtain⟨p,rfl,h1,h2,h3⟩:=hy
  rw[hloc o h1]
  exact⟨p,rfl,by omega,h2,h3⟩
 | .fn f first cap,y,hy=>by
  simp only[VR,AV.shift]at hy⊢
  obtain⟨fs,cs,rfl,h1,h2⟩:=hy
  exact⟨fs,cs,rfl,VRs.shifted first fs h1,VRs.shifted cap cs h2⟩
 | .yld o,y,hy=>by
  simp only[VR,AV.shift]at hy⊢
  obtain⟨l,rfl,h1,h3⟩:=hy
  rw[hloc o h1]
  exact⟨l,rfl,by omega,h3⟩
 | .mp o,y,hy=>by
  simp only[VR,AV.shift]at hy⊢
  obtain⟨l,rfl,h1,h3⟩:=hy
  rw[hloc o h1]
  exact⟨l,rfl,by omega,h3⟩
theorem VRs.shifted : ∀(as:List AV) (ys:List Value),VRs Γ w as ys→VRs Γ' w (qlh d as) ys
 | [],ys,hy=>by simpa only[VRs,qlh]using hy
 |a::as,ys,hy=>by
  simp only[VRs,qlh]at hy⊢
  obtain⟨u,us,rfl,h1,h2⟩:=hy
  exact⟨u,us,rfl,VR.shifted a u h1,VRs.shifted as us h2⟩
theorem qi.shifted : ∀(as:List AV) (get:Nat→Option Value),qi Γ w as get→qi Γ' w (qlh d as) get
 | [],_,_=>by simp only[qi,qlh]
 |a::as,get,hy=>by
  simp only[qi,qlh]at hy⊢
  obtain⟨⟨u,h1,h2⟩,h3⟩:=hy
  exact⟨⟨u,h1,VR.shifted a u h2⟩,qi.shifted as _ h3⟩
theorem qhp.shifted (sz:Nat) : ∀(es:List (List AV)) (get:Nat→Option Value),qhp Γ w sz es get→qhp Γ' w sz (qlv d es) get
 | [],_,_=>by simp only[qhp,qlv]
 |e::es,get,hy=>by
  simp only[qhp,qlv]at hy⊢
  exact⟨qi.shifted e _ hy.1,qhp.shifted sz es _ hy.2⟩
end
end shift
def Ctx.join (Γ Γ1:Ctx):Ctx:={ n:=Γ.n+Γ1.n,loc:=fun o=>if o<Γ.n then Γ.loc o else Γ1.loc (o-Γ.n),own:=fun b=>Γ.own b∨Γ1.own b,far:=Γ.far }
theorem Ctx.join_old (Γ Γ1:Ctx) {o:Nat} (h:o<Γ.n):(Γ.join Γ1).loc o=Γ.loc o:=by simp[Ctx.join,h]
theorem Ctx.join_new (Γ Γ1:Ctx) (o:Nat):(Γ.join Γ1).loc (o+Γ.n)=Γ1.loc o:=by
 simp only[Ctx.join]
 rw[if_neg (by omega),Nat.add_sub_cancel]
theorem Got.taken {r:AV} {τ τ':qf} {v:Value} (s:SR P Γ σ w) (h:Got P Γ.far0 w r τ v w') {f:SObj→Option SObj}
  (hf : ∀o o',f o=some o'→(∃sz es g,o = .row sz es g∧o' = .row sz (qlv σ.length es) g) ∨ ∃k es,o = .mp k es∧o' = .mp k es) (ht:qil f τ=some τ'):Got P Γ w (r.shift σ.length) (σ++τ') v w':=by
 obtain⟨Γ1,h1,h2,h3⟩:=h
 have hsame : ∀b,b<w.heap.size→w'.heap[b]? = w.heap[b]?:=fun b hb=>h3.same b hb id
 have hown : ∀b,Γ1.own b→w.heap.size≤b:=fun b hb=>(h3.own b hb).resolve_left id
 have hfar:Γ1.far=fun b=>Γ.own b∨Γ.far b:=h3.far
 have hlen:τ'.length=Γ1.n:=(qmt ht).trans h2.len
 have hext:Ext Γ (Γ.join Γ1) w w':=⟨Nat.le_add_right _ _,h3.size,fun b hb _=>hsame b hb,fun b hb=>hb.imp id (hown b),rfl,fun o ho => .inl (Γ.join_old Γ1 ho),h3.os,h3.tape,h3.output⟩
 have okb : ∀b,Γ1.okB w' b→(Γ.join Γ1).okB w' b:=fun b hb=>by
  obtain⟨k1,k2,k3⟩:=hb
  rw[hfar]at k3
  exact⟨k1,fun h=>h.elim (fun h=>k3 (.inl h)) k2,fun h=>k3 (.inr h)⟩
 have hn:Γ1.n+Γ.n≤(Γ.join Γ1).n:=by simp[Ctx.join];omega
 have hloc : ∀o,o<Γ1.n→(Γ.join Γ1).loc (o+Γ.n)=Γ1.loc o:=fun o _=>Γ.join_new Γ1 o
 refine⟨Γ.join Γ1,?_,?_,hext⟩
 ·rw[s.len];exact VR.shifted okb hn hloc _ _ h1
 ·refine⟨by simp[Ctx.join,s.len,hlen],fun o ob ho => ?_,fun o ho hc => ?_,fun o o' ho ho' hc hc' hb => ?_,fun b hb=>hb.elim (fun h=>wc (s.ownlt b h) h3.size) (h2.ownlt b),fun b hb=>wc (s.farlt b hb) h3.size,fun b hb hf=>hb.elim (fun h=>s.sep b h hf) fun h=>h2.sep b h (by rw[hfar];exact .inr hf)⟩
  ·rcases Nat.lt_or_ge o σ.length with hlt|hge
   ·rw[List.getElem?_append_left hlt]at ho
    have hn':o<Γ.n:=by rw[←s.len];exact hlt
    exact(s.obj o ob ho).mono hext (Γ.join_old Γ1 hn') fun hc=>hsame _ (s.ownlt _ (s.blk o hn' hc))
   ·rw[wj hge]at ho
    have hlt:=(zei.1 ho).1
    obtain⟨ob1,hob1⟩ : ∃ob1,τ[o-σ.length]? = some ob1:=⟨_,zgE (by rw[←qmt ht];exact hlt)⟩
    obtain⟨ob2,h4,h5⟩:=q68 ht hob1
    rw[ho]at h4;cases h4
    have hO:=h2.obj _ _ hob1
    have hL:(Γ.join Γ1).loc o=Γ1.loc (o-σ.length):=by
     have:=Γ.join_new Γ1 (o-σ.length)
     rw[←s.len,Nat.sub_add_cancel hge]at this
     exact this
    rcases hf _ _ h5 with ⟨sz,es,g,rfl,rfl⟩|⟨k,es,rfl,rfl⟩
    case inr=>
     simp only[OR]at hO⊢
     rw[hL]
     obtain⟨k1,k2,arr,clock,k3,k4⟩:=hO
     exact⟨k1,k2,arr,clock,k3,k4.imp fun a y hl hy=>VR.weaken (Γ:=Γ1) (Γ':=Γ.join Γ1) (fun b hb=>by rw[hfar];rcases hb with (h|h)|h;exact .inr (.inl h);exact .inl h;exact .inr (.inr h)) 0 (Nat.zero_le _) (fun o ho=>absurd ho (wi _)) a y hl hy⟩
    simp only[OR]at hO⊢
    rw[hL]
    obtain⟨k1,k2,k3,k4,k5,k6⟩:=hO
    refine⟨k1,k2,k3,by rw[q1l];exact k4,qyc es k5,k6.imp id ?_⟩
    rintro⟨arr,et,k7,k8,k9⟩
    refine⟨arr,et,k7,k8,?_⟩
    rw[q5k,s.len]
    exact qi.shifted okb hn hloc _ _ k9
  ·by_cases hlt:o<Γ.n
   ·rw[Γ.join_old Γ1 hlt]at hc ⊢;exact .inl (s.blk o hlt hc)
   ·have hL:(Γ.join Γ1).loc o=Γ1.loc (o-Γ.n):=by simp[Ctx.join,hlt]
    rw[hL]at hc⊢
    refine .inr (h2.blk _ ?_ hc)
    simp only[Ctx.join]at ho;omega
  ·have hL : ∀o,¬o<Γ.n→(Γ.join Γ1).loc o=Γ1.loc (o-Γ.n):=fun o h=>by simp[Ctx.join,h]
   simp only[show (Γ.join Γ1).n=Γ.n+Γ1.n from rfl]at ho ho'
   by_cases e1:o<Γ.n<;>by_cases e2:o'<Γ.n
   ·rw[Γ.join_old Γ1 e1]at hc hb;rw[Γ.join_old Γ1 e2]at hc' hb
    exact s.inj o o' e1 e2 hc hc' hb
   ·rw[Γ.join_old Γ1 e1]at hc hb;rw[hL _ e2]at hc' hb
    have:=s.ownlt _ (s.blk o e1 hc)
    have:=hown _ (h2.blk (o'-Γ.n) (by omega) hc')
    omega
   ·rw[hL _ e1]at hc hb;rw[Γ.join_old Γ1 e2]at hc' hb
    have:=s.ownlt _ (s.blk o' e2 hc')
    have:=hown _ (h2.blk (o-Γ.n) (by omega) hc)
    omega
   ·rw[hL _ e1]at hc hb;rw[hL _ e2]at hc' hb
    have:=h2.inj (o-Γ.n) (o'-Γ.n) (by omega) (by omega) hc hc' hb
    omega
theorem qak3 : ∀(a b:List (Int×AV)),eqBm a b=true→a=b
 | [],[],_=>rfl
 |a::as,b::bs,h=>by
  simp only[eqBm,wa,beq_iff_eq]at h
  obtain⟨h1,h2,h3⟩:=h
  rw[qak3 as bs h3,Prod.ext h1 (AV.eqB_ok _ _ h2)]
 | [],_ :: _,h=>by simp[eqBm]at h
 | _ :: _,[],h=>by simp[eqBm]at h
theorem SObj.eqB_ok (a b:SObj) (h:a.eqB b=true):a=b:=by
 cases a<;>cases b<;>simp only[SObj.eqB,we,wa,beq_iff_eq,decide_eq_true_eq]at h
 ·rw[h.1,h.2.1,qac4 _ _ h.2.2]
 ·rfl
 ·rfl
 ·rw[h.1,qak3 _ _ h.2]
theorem qaa3 : ∀ {a b:qf},qyo a b=true→a=b
 | [],[],_=>rfl
 |a::as,b::bs,h=>by
  simp only[qyo,wa]at h
  rw[SObj.eqB_ok a b h.1,qaa3 h.2]
 | [],_ :: _,h=>by simp[qyo]at h
 | _ :: _,[],h=>by simp[qyo]at h
theorem qaiq {a a':AV} {v:Value} {σ1:qf} (hg:q53 a σ=some (a',σ1)) (s:SR P Γ σ w) (h:VR Γ w a v) : ∃ Γ',Ext Γ Γ' w w∧SR P Γ' σ1 w∧VR Γ' w a' v:=by
 unfold q53 at hg
 split at hg
 ·split at hg
  ·rename_i ho
   split at hg
   ·rename_i hc
    obtain⟨rfl,hle⟩:=hc
    cases hg
    obtain⟨q1,q2⟩:=qv7 s h ho hle
    exact⟨_,Ext.drop Γ w _,q1,q2⟩
   ·cases hg
  ·cases hg
 ·cases hg
  exact⟨Γ,Ext.refl Γ w,s,h⟩
theorem qac1 : ∀ {as as':List AV} {vs:List Value} {Γ:Ctx} {σ σ1:qf},qada as σ=some (as',σ1)→SR P Γ σ w→VRs Γ w as vs → ∃ Γ',Ext Γ Γ' w w∧SR P Γ' σ1 w∧VRs Γ' w as' vs
 | [],as',vs,Γ,σ,σ1,hg,s,h=>by
  simp only[qada]at hg;cases hg
  exact⟨Γ,Ext.refl Γ w,s,h⟩
 |a::as,as',vs,Γ,σ,σ1,hg,s,h=>by
  simp only[qada,zob]at hg
  obtain⟨⟨x,σ2⟩,h1,⟨y,σ3⟩,h2,hg⟩:=hg
  cases hg
  simp only[VRs]at h
  obtain⟨u,us,rfl,k1,k2⟩:=h
  obtain⟨Γ1,e1,s1,r1⟩:=qaiq h1 s k1
  obtain⟨Γ2,e2,s2,r2⟩:=qac1 h2 s1 (VRs.mono e1 _ _ k2)
  refine⟨Γ2,e1.trans e2,s2,?_⟩
  simp only[VRs]
  exact⟨u,us,rfl,VR.mono e2 _ _ r1,r2⟩
theorem giveG_ok {a a':AV} {v:Value} {σ1:qf} (hg:giveG a σ=some (a',σ1)) (s:SR P Γ σ w) (h:VR Γ w a v) : ∃ Γ',Ext Γ Γ' w w∧SR P Γ' σ1 w∧VR Γ' w a' v:=by
 unfold giveG at hg
 split at hg
 ·rename_i cs
  rw[zob]at hg
  obtain⟨⟨cs',σ2⟩,h1,hg⟩:=hg
  cases hg
  simp only[VR]at h
  obtain⟨vs,rfl,k⟩:=h
  obtain⟨Γ',e,s',r⟩:=qac1 h1 s k
  refine⟨Γ',e,s',?_⟩
  simp only[VR]
  exact⟨vs,rfl,r⟩
 ·exact qaiq hg s h
theorem qael : ∀ {as as':List AV} {vs:List Value} {Γ:Ctx} {σ σ1:qf},q5f as σ=some (as',σ1)→SR P Γ σ w→VRs Γ w as vs → ∃ Γ',Ext Γ Γ' w w∧SR P Γ' σ1 w∧VRs Γ' w as' vs
 | [],as',vs,Γ,σ,σ1,hg,s,h=>by
  simp only[q5f]at hg;cases hg
  exact⟨Γ,Ext.refl Γ w,s,h⟩
 |a::as,as',vs,Γ,σ,σ1,hg,s,h=>by
  simp only[q5f,zob]at hg
  obtain⟨⟨x,σ2⟩,h1,⟨y,σ3⟩,h2,hg⟩:=hg
  cases hg
  simp only[VRs]at h
  obtain⟨u,us,rfl,k1,k2⟩:=h
  obtain⟨Γ1,e1,s1,r1⟩:=giveG_ok h1 s k1
  obtain⟨Γ2,e2,s2,r2⟩:=qael h2 s1 (VRs.mono e1 _ _ k2)
  refine⟨Γ2,e1.trans e2,s2,?_⟩
  simp only[VRs]
  exact⟨u,us,rfl,VR.mono e2 _ _ r1,r2⟩
theorem Got.pre {Γ':Ctx} {r:AV} {v:Value} {w':World} (hx:Ext Γ Γ' w w) (h:Got P Γ' w r σ' v w'):Got P Γ w r σ' v w':=by
 obtain⟨Γ2,h1,h2,h3⟩:=h
 exact⟨Γ2,h1,h2,hx.trans h3⟩
theorem q1f {h:Hints} {o:Oper} {it:Item'} (hc:qagx P h o=some it):qabb P h o=some it∨(it = .op .bad∧qair o.op=true):=by
 unfold qagx at hc
 split at hc
 ·cases hc;exact .inl ‹_›
 ·split at hc
  ·cases hc;exact .inr ⟨rfl,(And.right ‹_›)⟩
  ·cases hc
theorem item_ok {O:Orc} (hO:qxw P O) (hR:quz P O) {h:Hints} {o:Oper} {it:Item'} {r:AV} (hc:qagx P h o=some it) (he:qae O e σ it=some (r,σ')) (hv:VE Γ w e a) (s:SR P Γ σ w) :
  qtb P (Got P Γ w r σ') ((execOp a.eval o).run P w):=by
 have hc:qabb P h o=some it:=by
  rcases q1f hc with hc|⟨rfl,_⟩
  ·exact hc
  ·simp[qae,qdy]at he
 have hop:(∃c,cOp P h o=some c∧it = .op c) ∨ ∃cl f,o.op = .call cl∧cl.callee = .value f ∧ ∃as,q8h cl.args.toList=some as ∧
   ((∃k,f = .func k∧(it = .callA k as∨it = .callI k as∨it = .callR k as∨it = .callP k as∨it = .callF k as ∨ ∃pos,it = .callH k as pos)) ∨ ∃f',qe0 f=some f'∧(it = .callv f' as ∨ ∃b off sz,it = .callK f' as b off sz)):=by
  unfold qabb at hc
  split at hc
  ·rename_i f args at' heq
   rw[zob]at hc
   obtain⟨as,h1,hc⟩:=hc
   refine .inr ⟨_,f,heq,rfl,as,h1,?_⟩
   split at hc
   ·rw[zob]at hc
    obtain⟨f',h2,hc⟩:=hc
    cases hc
    exact .inr ⟨f',h2,.inr ⟨_,_,_,rfl⟩⟩
   split at hc
   ·rename_i k
    split at hc
    ·cases hc;exact .inl ⟨k,rfl,.inr (.inr (.inr (.inr (.inr ⟨_,rfl⟩))))⟩
    split at hc
    ·cases hc;exact .inl ⟨k,rfl,.inl rfl⟩
    ·split at hc
     ·cases hc;exact .inl ⟨k,rfl,.inr (.inl rfl)⟩
     ·split at hc
      ·cases hc;exact .inl ⟨k,rfl,.inr (.inr (.inl rfl))⟩
      ·split at hc
       ·cases hc;exact .inl ⟨k,rfl,.inr (.inr (.inr (.inr (.inl rfl))))⟩
       ·cases hc;exact .inl ⟨k,rfl,.inr (.inr (.inr (.inl rfl)))⟩
   ·rw[zob]at hc
    obtain⟨f',h2,hc⟩:=hc
    cases hc
    exact .inr ⟨f',h2,.inl rfl⟩
  ·rw[zob]at hc
   obtain⟨c,h1,hc⟩:=hc
   cases hc
   exact .inl ⟨c,h1,rfl⟩
 rcases hop with ⟨c,h1,rfl⟩|⟨cl,f,ho,hcal,as,has,hf⟩
 ·exact(op_ok h1 he hv s).next
 ·have hex : ∀v,a.eval f=v→(execOp a.eval o).run P w=((Deferred.ofValue v (cl.args.map a.eval)).run P w).andThen (fun d w=>(invoke d.target d.args).run P w):=by
   rintro v rfl
   simp only[execOp,ho,resolve,hcal,Sem.run_bind]
  have hfn : ∀k (fs cs:List Value),a.eval f = .func (.func k) fs.toArray cs.toArray→(execOp a.eval o).run P w=(callFunc k (fs++(cl.args.toList.map a.eval++cs)).toArray).run P w:=by
   intro k fs cs hk
   have harr:fs.toArray++cl.args.map a.eval++cs.toArray=(fs++(cl.args.toList.map a.eval++cs)).toArray:=by
    apply Array.toList_inj.1;simp
   rw[hex _ hk]
   simp only[Deferred.ofValue,Sem.run_pure,Result.andThen_ok,invoke,harr]
  rcases hf with ⟨k,rfl,hit⟩|⟨f',hf',rfl|⟨kb,koff,ksz,rfl⟩⟩
  ·have hk:=hfn k [] [] (by simp[Act.eval])
   simp only[List.nil_append,List.append_nil]at hk
   rw[hk]
   rcases hit with rfl|rfl|rfl|rfl|rfl|⟨pos,rfl⟩
   ·simp only[qae,zob]at he
    obtain⟨vs,h1,he⟩:=he
    split at he
    ·rename_i hlo
     rw[zob]at he
     obtain⟨⟨u,τ⟩,h2,he⟩:=he
     rw[zob]at he
     obtain⟨τ',h3,he⟩:=he
     cases he
     exact(hO k vs [] u τ h2 Γ.far0 w _ s.far0 ((qny has h1 hv).far0 hlo)).mono fun v w' hg=>hg.taken s (fun o o' ho=>by
      unfold q2m at ho
      split at ho
      ·cases ho;exact .inl ⟨_,_,_,rfl,rfl⟩
      ·cases ho;exact .inr ⟨_,_,rfl,rfl⟩
      ·cases ho) h3
    ·cases he
   ·simp only[qae,zob]at he
    obtain⟨vs,h1,he⟩:=he
    exact hO k vs σ r σ' he Γ w _ s (qny has h1 hv)
   ·simp only[qae,zob]at he
    obtain⟨vs,h1,⟨u,τ⟩,h2,he⟩:=he
    split at he
    ·rename_i hst
     cases he
     obtain rfl:=qaa3 hst
     exact hO k vs σ _ _ h2 Γ w _ s (qny has h1 hv)
    ·cases he
   ·simp only[qae,zob]at he
    obtain⟨vs,h1,he⟩:=he
    split at he
    ·rename_i hlo
     rw[zob]at he
     obtain⟨⟨u,τ⟩,h2,he⟩:=he
     rw[zob]at he
     obtain⟨r',h3,he⟩:=he
     cases he
     exact(hO k vs [] u τ h2 Γ.far0 w _ s.far0 ((qny has h1 hv).far0 hlo)).mono fun v w' hg=>hg.frozen s h3
    ·cases he
   ·simp only[qae,zob]at he
    obtain⟨vs,h1,⟨vs',σ2⟩,hg,he⟩:=he
    obtain⟨Γ',hx,s',hv'⟩:=qael hg s (qny has h1 hv)
    split at he
    ·rename_i hlo
     rw[zob]at he
     obtain⟨⟨u,τ⟩,h2,he⟩:=he
     rw[zob]at he
     obtain⟨r',h3,he⟩:=he
     cases he
     exact(hO k vs' [] u τ h2 Γ'.far0 w _ s'.far0 (hv'.far0 hlo)).mono fun v w' hg=>Got.pre hx (hg.frozen s' h3)
    ·cases he
   ·simp only[qae,zob]at he
    obtain⟨vs,h1,he⟩:=he
    split at he
    ·rename_i hlo
     rw[zob]at he
     obtain⟨⟨u,τ⟩,h2,he⟩:=he
     simp only at he
     split at he
     ·split at he
      ·rename_i ho'
       split at he
       ·rename_i hg'
        rw[zob]at he
        obtain⟨es',h3,he⟩:=he
        split at he
        ·rename_i hh
         cases he
         subst hg'
         exact(hO k vs [] _ τ h2 Γ.far0 w _ s.far0 ((qny has h1 hv).far0 hlo)).mono fun v w' hg=>hg.filled s ho' h3 hh
        ·cases he
       ·cases he
      ·cases he
     ·cases he
    ·cases he
  ·simp only[qae,zob]at he
   obtain⟨g,h1,vs,h2,he⟩:=he
   have hg:=qak hf' h1 hv
   split at he
   ·rename_i k first cap
    simp only[VR]at hg
    obtain⟨fs,cs,h3,h4,h5⟩:=hg
    rw[hfn k fs cs h3]
    exact hO k _ σ r σ' he Γ w _ s (h4.append ((qny has h2 hv).append h5))
   ·rename_i l
    simp only[VR]at hg
    obtain⟨b,h3,h4,h5⟩:=hg
    have harr : #[]++cl.args.map a.eval=(cl.args.toList.map a.eval).toArray:=by
     apply Array.toList_inj.1;simp
    rw[hex _ h3]
    simp only[Deferred.ofValue,Sem.run_pure,Result.andThen_ok,invoke,harr]
    exact hR l vs σ r σ' he Γ w b _ s (qny has h2 hv) h4 h5
   ·cases he
  ·simp only[qae,zob]at he
   obtain⟨g,h1,vs,h2,he⟩:=he
   have hg:=qak hf' h1 hv
   split at he
   ·rename_i k first cap
    simp only[VR]at hg
    obtain⟨fs,cs,h3,h4,h5⟩:=hg
    rw[hfn k fs cs h3]
    rw[zob]at he
    obtain⟨⟨u,τ⟩,h6,he⟩:=he
    split at he
    ·cases he
     exact hO k _ σ _ _ h6 Γ w _ s (h4.append ((qny has h2 hv).append h5))
    ·cases he
   ·cases he
end Go.Ev
namespace Go.Ev
open Go.RowKit (Below)
variable {P:Program} {Γ Γ':Ctx} {w w':World} {σ σ':qf} {e e':Env} {a a':Act} {av:AV} {N:Nat}
def MR (Γ:Ctx):List Nat→List Deferred→Prop
 | [],ds=>ds=[]
 |m::ms,ds => ∃b ds',ds = { target:=.collected b,args:=#[] }::ds'∧m<Γ.n∧((Γ.loc m).g=0→b=(Γ.loc m).b)∧MR Γ ms ds'
structure AR (P:Program) (Γ:Ctx) (N:Nat) (e:Env) (σ:qf) (a:Act) (w:World):Prop where
 ve:VE Γ w e a
 sr:SR P Γ σ w
 sz:a.tmps.size=N
 mr:MR Γ e.marks a.defers
theorem MR.mono (x:Ext Γ Γ' w w') : ∀ {ms:List Nat} {ds:List Deferred},MR Γ ms ds→MR Γ' ms ds
 | [],ds,h=>h
 |m::ms,ds,h=>by
  simp only[MR]at h⊢
  obtain⟨b,ds',rfl,h1,h2,h3⟩:=h
  refine⟨b,ds',rfl,wc h1 x.n,fun hg => ?_,MR.mono x h3⟩
  rcases x.loc m h1 with h4|h4
  ·rw[h4]at hg ⊢;exact h2 hg
  ·omega
theorem qaig (a:Act) (d:Option Nat) (v:Value) (t:Nat) (hd : ∀k,d=some k→k<a.tmps.size):(a.put d v).tmps.getD t undef=if d=some t then v else a.tmps.getD t undef:=by
 cases d with
 |none=>simp[Act.put]
 |some k=>
  have:=hd k rfl
  by_cases h:k=t
  ·subst h;simp[Act.put,this]
  ·simp only[Act.put,Option.some.injEq,if_neg h]
   simp[Array.getElem?_setIfInBounds_ne h]
theorem qah0 (a:Act) (d:Option Nat) (v:Value):(a.put d v).tmps.size=a.tmps.size:=by cases d<;>simp[Act.put]
@[simp] theorem put_defers (a : Act) (d : Option Nat) (v : Value) : (a.put d v).defers = a.defers:=by cases d <;> rfl
theorem qahu {d:Option Nat} (h:qakc N d=true) : ∀k,d=some k→k<N:=by
 intro k hk;subst hk;simpa[qakc]using h
theorem AR.put (h:AR P Γ N e σ a w) {v:Value} {d:Option Nat} (hd:qakc N d=true) (hv:VR Γ' w' av v) (hs:SR P Γ' σ' w') (x:Ext Γ Γ' w w'):AR P Γ' N (e.set d av) σ' (a.put d v) w' where
 ve t u ht:=by
  rw[qaig a d v t (by rw[h.sz];exact qahu hd)]
  have ht:(e.set d av).get t=some u:=ht
  rw[q4q]at ht
  split at ht
  ·cases ht;rw[if_pos ‹_›];exact hv
  ·rw[if_neg ‹_›];exact VR.mono x _ _ (h.ve t u ht)
 sr:=hs
 sz:=by rw[qah0,h.sz]
 mr:=by rw[marks_set,put_defers];exact h.mr.mono x
theorem AR.unset (h:AR P Γ N e σ a w) {d:Option Nat} (hd:qakc N d=true):AR P Γ N (e.unset d) σ (a.put d undef) w where
 ve t u ht:=by
  rw[qaig a d undef t (by rw[h.sz];exact qahu hd)]
  have ht:(e.unset d).get t=some u:=ht
  rw[q3a]at ht
  split at ht
  ·cases ht
   rw[if_pos ‹_›]
   simp only[VR,VRs]
   exact⟨[],rfl,rfl⟩
  ·rw[if_neg ‹_›];exact h.ve t u ht
 sr:=h.sr
 sz:=by rw[qah0,h.sz]
 mr:=by rw[marks_unset,put_defers];exact h.mr
theorem AR.eqv (h:AR P Γ N e σ a w) (k:Eqv e e'):AR P Γ N e' σ a w:=⟨fun t u ht=>h.ve t u ((k.1 t).trans ht),h.sr,h.sz,by rw[←k.2];exact h.mr⟩
theorem AR.below (h:AR P Γ N e σ a w) (k:Below w.heap.size w w'):AR P Γ N e σ a w':=⟨h.ve.mono (.of_below Γ k),h.sr.of_below k,h.sz,h.mr⟩
theorem qanc {ro:Option Nat} {ops:Array Oper} {Q:Exit→Act→World→Prop} {i:Nat} {o:Oper} {K:Act→World→Prop} {G:Value→World→Prop} (hi:ops[i]? = some o) (hnd : ∀c,o.op ≠ .defer c)
  (hw:Region.wanted o (yielded ops a.tmps)=true) (h:qtb P G ((execOp a.eval o).run P w)) (hK : ∀v w',G v w'→K (a.put o.dst v) w'):wpOpIn (FR ro) 0 P ops Q i K a w:=by
 unfold wpOpIn
 simp only[hi,hw,if_true,Oper.wpIn]
 refine⟨fun _ _=>trivial,?_⟩
 rw[Oper.semAt_eq _ _ _ hnd]
 generalize (execOp a.eval o).run P w=r at h
 have hB : ∀e w',qaky G e w' → ∃v,e = .returned v∧K (a.put o.dst v) w':=fun e w' he=>by
  cases e with
  |returned v=>exact⟨v,rfl,hK v w' he⟩
  |panicked _=>exact he.elim
  |outgrown=>exact he.elim
 cases r with
 |ok nx w'=>
  cases nx<;>simp only[qtb]at h<;>simp only[Oper.uponIn]
  ·exact hK _ _ h
  ·exact hK _ _ h
  ·refine⟨fun hd=>by simp[Fence.wide]at hd,CallsIn.mono h fun e w' he => ?_⟩
   obtain⟨v,rfl,h2⟩:=hB e w' he
   exact h2
  ·refine⟨fun hd=>by simp[Fence.wide]at hd,RoundIn.mono h fun e w' he => ?_⟩
   obtain⟨v,rfl,h2⟩:=hB e w' he
   exact h2
 |halt _ _=>exact h.elim
theorem q08 {h:Hints} {n:Nat} {ops:Array Oper} {o:Oper} {c:COper} (hc:q8m P h n ops o=some c) :
  qakc n o.dst=true∧c.dst=o.dst∧qagx P h o=some c.it∧((o.guard=none∧c.guard=none) ∨ ∃j want t,o.guard=some (j,want)∧c.guard=some (t,want)∧(ops[j]?).bind (·.dst)=some t):=by
 unfold q8m at hc
 split at hc
 ·rename_i hd
  rw[zob]at hc
  obtain⟨it,h1,hc⟩:=hc
  split at hc
  ·rename_i hg
   cases hc
   exact⟨hd,rfl,h1,.inl ⟨hg,rfl⟩⟩
  ·rename_i j want hg
   rw[zob]at hc
   obtain⟨t,h2,hc⟩:=hc
   cases hc
   exact⟨hd,rfl,h1,.inr ⟨j,want,t,hg,rfl,h2⟩⟩
 ·cases hc
theorem qacb {h:Hints} {o:Oper} {it:Item'} (hc:qagx P h o=some it) : ∀c,o.op ≠ .defer c:=by
 intro c hd
 rcases q1f hc with hc|⟨_,hn⟩
 ·unfold qabb at hc
  rw[hd]at hc
  simp[cOp,hd]at hc
 ·rw[hd]at hn;cases hn
theorem qagk {ops:Array Oper} {o:Oper} {j t:Nat} {want b:Bool} (hg:o.guard=some (j,want)) (hj:(ops[j]?).bind (·.dst)=some t) (hb:a.tmps.getD t undef = .bool b) :
  Region.wanted o (yielded ops a.tmps)=(b==want):=by
 have hlt:a.tmps[t]? = some (.bool b):=by
  rw[Array.getD_eq_getD_getElem?]at hb
  cases h:a.tmps[t]? with
  |none=>rw[h]at hb;simp[undef]at hb
  |some x=>rw[h]at hb;simp at hb;rw[hb]
 simp only[Region.wanted,hg,yielded,hj,wd,hlt]
 cases b<;>cases want<;>rfl
theorem qac9 {O:Orc} (hO:qxw P O) (hR:quz P O) {ro:Option Nat} {h:Hints} {ops:Array Oper} {Q:Exit→Act→World→Prop} {i:Nat} {o:Oper} {c:COper} {K:Act→World→Prop} {e1:Env} {σ1:qf}
  (hi:ops[i]? = some o) (hc:q8m P h N ops o=some c) (he:qgy O e σ c=some (e1,σ1)) (ha:AR P Γ N e σ a w) (hK : ∀ Γ' a' w',Ext Γ Γ' w w'→AR P Γ' N e1 σ1 a' w'→K a' w') :
  wpOpIn (FR ro) 0 P ops Q i K a w:=by
 obtain⟨hd,hdst,hit,hg⟩:=q08 hc
 have run:(∃r,qae O e σ c.it=some (r,σ1)∧e1=e.set c.dst r)→Region.wanted o (yielded ops a.tmps)=true→wpOpIn (FR ro) 0 P ops Q i K a w:=by
  rintro⟨r,h1,rfl⟩ hw
  refine qanc hi (qacb hit) hw (item_ok hO hR hit h1 ha.ve ha.sr) ?_
  rintro v w' ⟨Γ',h2,h3,h4⟩
  rw[hdst]at hK
  exact hK Γ' _ w' h4 (ha.put hd h2 h3 h4)
 unfold qgy at he
 rcases hg with ⟨h1,h2⟩|⟨j,want,t,h1,h2,h3⟩
 ·rw[h2]at he
  simp only[zob]at he
  obtain⟨⟨r,s1⟩,h3,he⟩:=he
  cases he
  exact run ⟨r,h3,rfl⟩ (by simp[Region.wanted,h1])
 ·rw[h2]at he
  simp only[zob]at he
  obtain⟨bv,h4,he⟩:=he
  split at he
  ·rename_i b
   have hb:=ha.ve t _ h4
   simp only[VR]at hb
   have hw:=qagk h1 h3 hb
   split at he
   ·rename_i hbw
    simp only[zob]at he
    obtain⟨⟨r,s1⟩,h5,he⟩:=he
    cases he
    exact run ⟨r,h5,rfl⟩ (by rw[hw,hbw];simp)
   ·rename_i hbw
    cases he
    unfold wpOpIn
    simp only[hi]
    rw[if_neg (by rw[hw];simpa using hbw)]
    exact⟨fun _ _=>trivial,hK Γ _ w (Ext.refl _ _) (by rw[hdst];exact ha.unset hd)⟩
  ·have hb:=ha.ve t _ h4
   simp only[VR,VRs]at hb
   obtain⟨vs,hb,rfl⟩:=hb
   cases he
   have hw:¬Region.wanted o (yielded ops a.tmps)=true:=by
    have hx : ∀x,a.tmps[t]? = some x→x = .tuple #[]:=fun x hx=>by
     rw[Array.getD_eq_getD_getElem?,hx]at hb;exact hb
    simp only[Region.wanted,h1,yielded,h3,wd]
    cases hz:a.tmps[t]? with
    |none=>simp
    |some x=>rw[hx x hz];simp
   unfold wpOpIn
   simp only[hi]
   rw[if_neg hw]
   exact⟨fun _ _=>trivial,hK Γ _ w (Ext.refl _ _) (by rw[hdst];exact ha.unset hd)⟩
  ·cases he
def qkw (cs:List COper) (l:List Nat):List COper:=l.filterMap (cs[·]?)
theorem q5g {cs:List COper} {i:Nat} {c:COper} (h:cs[i]? = some c) (l:List Nat):qkw cs (i::l)=c::qkw cs l:=by simp[qkw,h]
theorem qxo : ∀(cs:List COper),qkw cs (List.range cs.length)=cs
 | []=>rfl
 |c::cs=>by
  have ih:=qxo cs
  unfold qkw at ih⊢
  rw[List.length_cons,List.range_succ_eq_map,List.filterMap_cons]
  simp only[List.getElem?_cons_zero,List.filterMap_map]
  rw[show ((fun x=>(c::cs)[x]?)∘Nat.succ)=fun x=>cs[x]? from funext fun x=>by simp]
  rw[ih]
theorem ops_wp {O:Orc} (hO:qxw P O) (hR:quz P O) {ro:Option Nat} {h:Hints} {ops:Array Oper} {cs:List COper} {Q:Exit→Act→World→Prop} (hcs:qil (q8m P h N ops) ops.toList=some cs) {e':Env} {σ':qf} :
  ∀(l:List Nat) {e:Env} {σ:qf} {Γ:Ctx} {a:Act} {w:World},(∀i∈l,i<ops.size)→qah O (qkw cs l) e σ=some (e',σ')→AR P Γ N e σ a w →
   (∀ Γ' a' w',Ext Γ Γ' w w'→AR P Γ' N e' σ' a' w'→Q .normal a' w')→wpOpsIn (FR ro) 0 P ops Q l a w
 | [],e,σ,Γ,a,w,_,he,ha,hq=>by
  simp only[qkw,List.filterMap_nil,qah]at he
  cases he
  exact hq Γ a w (Ext.refl _ _) ha
 |i::l,e,σ,Γ,a,w,hl,he,ha,hq=>by
  rw[wpOpsIn_cons]
  have hi:i<ops.size:=hl i (by simp)
  have ho:ops[i]? = some ops[i]:=by simp[hi]
  obtain⟨c,hc,hco⟩:=q68 hcs (i:=i) (a:=ops[i]) (by simp[hi])
  rw[q5g hc]at he
  simp only[qah,zob]at he
  obtain⟨⟨e1,σ1⟩,h1,h2⟩:=he
  exact qac9 hO hR ho hco h1 ha fun Γ1 a1 w1 x1 ha1=>ops_wp hO hR hcs l (fun j hj=>hl j (by simp[hj])) h2 ha1 fun Γ2 a2 w2 x2 ha2=>hq Γ2 a2 w2 (x1.trans x2) ha2
end Go.Ev
namespace Go.Ev
open Go.RowKit (Below)
variable {P:Program} {Γ Γ':Ctx} {w w':World} {σ σ':qf} {e e':Env} {a a':Act} {av:AV} {N:Nat}
theorem q85 : ∀(l:List Oper) (acc:List Nat),(qalo l acc).length=acc.length+l.length∧(qalo l acc).take acc.length=acc ∧
  ∀k o,l[k]? = some o→(qalo l acc)[acc.length+k]? = some (bits ((qalo l acc).take (acc.length+k)) o.after.toList)
 | [],acc=>⟨by simp[qalo],by simp[qalo],by simp⟩
 |o::r,acc=>by
  obtain⟨h1,h2,h3⟩:=q85 r (acc++[bits acc o.after.toList])
  have hlen:(acc++[bits acc o.after.toList]).length=acc.length+1:=by simp
  rw[hlen]at h1 h2 h3
  simp only[qalo]
  have hacc:(qalo r (acc++[bits acc o.after.toList])).take acc.length=acc:=by
   have:=congrArg (List.take acc.length) h2
   rw[List.take_take,Nat.min_eq_left (by omega)]at this
   rw[this];simp
  refine⟨by rw[h1];simp;omega,hacc,fun k o' hk => ?_⟩
  cases k with
  |zero=>
   simp at hk;subst hk
   rw[Nat.add_zero,hacc]
   have:=congrArg (fun l=>l[acc.length]?) h2
   simp only[wk]at this
   rw[if_pos (by omega)]at this
   rw[this];simp
  |succ k=>
   have:=h3 k o' (by simpa using hk)
   rw[show acc.length+(k+1)=acc.length+1+k from by omega]
   exact this
theorem qabh {b:COper} {bj:Nat} : ∀ {l:List COper} {i:Nat},rowOk b bj l i=true → ∀ {m:Nat} {a:COper},l[m]? = some a→bj.testBit (i+m)=true∨qaiw a b=true
 | [],_,_,m,a,hm=>by simp at hm
 |x::l,i,h,m,a,hm=>by
  simp only[rowOk,wa,Bool.or_eq_true]at h
  cases m with
  |zero=>simp at hm;subst hm;simpa using h.1
  |succ m=>
   have:=qabh h.2 (m:=m) (a:=a) (by simpa using hm)
   rw[show i+(m+1)=i+1+m from by omega];exact this
theorem q77 : ∀ {cs done:List COper} {bs:List Nat},qaea done cs bs=true → ∀ {k:Nat} {b:COper},cs[k]? = some b → ∃bj,bs[k]? = some bj∧rowOk b bj (done++cs.take k) 0=true
 | [],_,_,_,k,b,hk=>by simp at hk
 |c::cs,done,[],h,k,b,hk=>by simp[qaea]at h
 |c::cs,done,bj::bs,h,k,b,hk=>by
  simp only[qaea,wa]at h
  cases k with
  |zero=>simp at hk;subst hk;exact⟨bj,by simp,by simpa using h.1⟩
  |succ k=>
   obtain⟨b2,h1,h2⟩:=q77 h.2 (k:=k) (b:=b) (by simpa using hk)
   exact⟨b2,by simpa using h1,by simpa using h2⟩
theorem q7u {acc:List Nat} {j:Nat} : ∀ {l:List Edge},(bits acc l).testBit j=true → ∃ed∈l,Region.binds .any ed=true∧(j=ed.on∨(acc.getD ed.on 0).testBit j=true)
 | [],h=>by simp[bits]at h
 |x::l,h=>by
  simp only[bits]at h
  split at h
  ·rename_i hb
   simp only[Nat.testBit_or,Bool.or_eq_true]at h
   rcases h with h|h|h
   ·refine⟨x,by simp,hb,.inl ?_⟩
    rw[Nat.testBit_two_pow]at h
    simpa using (of_decide_eq_true h).symm
   ·exact⟨x,by simp,hb,.inr h⟩
   ·obtain⟨ed,h1,h2⟩:=q7u h
    exact⟨ed,by simp[h1],h2⟩
  ·obtain⟨ed,h1,h2⟩:=q7u h
   exact⟨ed,by simp[h1],h2⟩
theorem qyf : ∀ {l:List Oper} {i:Nat},q8c l i=true → ∀ {k:Nat} {o:Oper},l[k]? = some o → ∀ed∈o.after,Region.binds .any ed=true→ed.on<i+k
 | [],_,_,k,o,hk=>by simp at hk
 |x::l,i,h,k,o,hk=>by
  simp only[q8c,wa,List.all_eq_true,Bool.or_eq_true,Bool.not_eq_true',decide_eq_true_eq]at h
  cases k with
  |zero=>simp at hk;subst hk;intro ed hed hb;exact(h.1 ed (by simpa using hed)).resolve_left (by simp[hb])
  |succ k=>
   intro ed hed hb
   have:=qyf h.2 (k:=k) (o:=o) (by simpa using hk) ed hed hb
   omega
def Closed (ops:Array Oper) (listed:Array Bool):Prop:=∀(j:Nat) (o:Oper),ops[j]? = some o→listed.getD j false=true → ∀ed∈o.after,Region.binds .any ed=true→listed.getD ed.on false=true
theorem qag7 {ops:Array Oper} {listed:Array Bool} (hlt:q8c ops.toList 0=true) (hcl:Closed ops listed) : ∀(i:Nat) (o:Oper),ops[i]? = some o→(∀ed∈o.after,Region.binds .any ed=true→listed.getD ed.on false=true) →
  ∀bj,(qalo ops.toList [])[i]? = some bj → ∀j,bj.testBit j=true→listed.getD j false=true:=by
 intro i
 induction i using Nat.strongRecOn with
 | _ i ih=>
  intro o ho hall bj hbj j hj
  have hsp:=(q85 ops.toList []).2.2 i o (by simpa using ho)
  simp only[List.length_nil,Nat.zero_add]at hsp
  rw[hsp]at hbj
  cases hbj
  obtain⟨ed,h1,h2,h3⟩:=q7u hj
  have hed:ed∈o.after:=by simpa using h1
  rcases h3 with rfl|h3
  ·exact hall ed hed h2
  ·have hlt':ed.on<i:=by simpa using qyf hlt (k:=i) (o:=o) (by simpa using ho) ed hed h2
   obtain⟨o',ho'⟩ : ∃o',ops[ed.on]? = some o':=⟨_,Array.getElem?_eq_getElem (Nat.lt_trans hlt' (Array.getElem?_eq_some_iff.1 ho).1)⟩
   refine ih ed.on hlt' o' ho' (hcl ed.on o' ho' (hall ed hed h2)) _ ?_ j h3
   have hsp':=(q85 ops.toList []).2.2 ed.on o' (by simpa using ho')
   simp only[List.length_nil,Nat.zero_add]at hsp'
   rw[List.getD_eq_getElem?_getD,wk,if_pos hlt',hsp']
   rfl
theorem qali (n:Nat) (v:Value):(ofLeaf v).lo n=true:=by
 unfold ofLeaf;split<;>simp[AV.lo,qk9]
theorem lo_ofTop (n:Nat) (v:Value):(ofTop v).lo n=true:=by
 unfold ofTop;split<;>simp[AV.lo,qk9]
theorem qabe (n:Nat) : ∀(l:List Value),los n (l.map ofLeaf)=true
 | []=>rfl
 |v::vs=>by simp only[List.map_cons,los,qali,qabe n vs,Bool.and_self]
theorem lo_ofV (n:Nat) (v:Value):(ofV v).lo n=true:=by
 unfold ofV;split
 ·simp only[AV.lo];exact qabe n _
 ·exact lo_ofTop n _
theorem q8z {x:Operand} {x':Opnd} (h:qe0 x=some x'):x'.okC=true:=by
 unfold qe0 at h
 split at h
 ·cases h;rfl
 ·cases h
 ·cases h;exact lo_ofV 0 _
 ·cases h;rfl
 ·cases h
theorem load_okC {h:Hints} {o:Oper} {it:Item'} (hc:qagx P h o=some it):qy4 it=true:=by
 rcases q1f hc with hc|⟨rfl,_⟩
 case inr=>rfl
 unfold qabb at hc
 split at hc
 ·rw[zob]at hc
  obtain⟨as,h1,hc⟩:=hc
  split at hc
  ·rw[zob]at hc
   obtain⟨f',h2,hc⟩:=hc
   cases hc;rfl
  split at hc
  ·split at hc
   ·cases hc;rfl
   split at hc
   ·cases hc;rfl
   ·split at hc
    ·cases hc;rfl
    ·split at hc
     ·cases hc;rfl
     ·split at hc<;>(cases hc;rfl)
  ·rw[zob]at hc
   obtain⟨f',h2,hc⟩:=hc
   cases hc;rfl
 ·rw[zob]at hc
  obtain⟨c,h1,hc⟩:=hc
  cases hc
  unfold qy4
  split
  ·rename_i sz ag x heq
   cases heq
   unfold cOp at h1
   (repeat' (first|(obtain⟨_,_,h1⟩:=h1)|split at h1|rw[zob]at h1))<;>first
    |(cases h1;done)
    |exact q8z (by assumption)
  ·rename_i sz ag x av heq
   cases heq
   unfold cOp at h1
   (repeat' (first|(obtain⟨_,_,h1⟩:=h1)|split at h1|rw[zob]at h1))<;>first
    |(cases h1;done)
    |exact q8z (by assumption)
  ·rename_i sz ag x base heq
   cases heq
   unfold cOp at h1
   (repeat' (first|(obtain⟨_,_,h1⟩:=h1)|split at h1|rw[zob]at h1))<;>first
    |(cases h1;done)
    |exact q8z (by assumption)
  ·rename_i sz ag x base off heq
   cases heq
   unfold cOp at h1
   (repeat' (first|(obtain⟨_,_,h1⟩:=h1)|split at h1|rw[zob]at h1))<;>first
    |(cases h1;done)
    |exact q8z (by assumption)
  ·rename_i ok k z x key heq
   cases heq
   unfold cOp at h1
   (repeat' (first|(obtain⟨_,_,h1⟩:=h1)|split at h1|rw[zob]at h1))<;>first
    |(cases h1;done)
    |exact q8z (by assumption)
  ·rename_i sz x i heq
   cases heq
   unfold cOp at h1
   (repeat' (first|(obtain⟨_,_,h1⟩:=h1)|split at h1|rw[zob]at h1))<;>first
    |(cases h1;done)
    |exact q8z (by assumption)
  ·rename_i sz x lo hi mx heq
   cases heq
   unfold cOp at h1
   (repeat' (first|(obtain⟨_,_,h1⟩:=h1)|split at h1|rw[zob]at h1))<;>first
    |(cases h1;done)
    |exact q8z (by assumption)
  ·rfl
theorem AR.known (h:AR P Γ N e σ a w):qamn σ.length e:=by
 intro t av o ht ho
 have hv:=h.ve t av ht
 rw[h.sr.len]
 cases av<;>simp only[AV.obj?]at ho<;>first
  |(cases ho;done)
  |skip
 ·cases ho
  simp only[VR]at hv
  obtain⟨A,c,_,_,_,h1,_⟩:=hv
  exact h1
 ·cases ho
  simp only[VR]at hv
  obtain⟨p,_,h1,_⟩:=hv
  exact h1
 ·cases ho
  simp only[VR]at hv
  obtain⟨p,_,h1,_⟩:=hv
  exact h1
end Go.Ev
namespace Go.Ev
open Go.RowKit (Below)
variable {P:Program} {Γ Γ':Ctx} {w w':World} {σ σ':qf} {e e':Env} {a a':Act} {av:AV} {N:Nat}
def rest (n:Nat) (listed:Array Bool):List Nat:=(List.range n).filter (fun i => !listed.getD i false)
theorem q2s {n i:Nat} {listed:Array Bool}:i∈rest n listed↔i<n∧listed.getD i false=false:=by
 simp[rest,List.mem_filter]
theorem qah5 {listed:Array Bool} {i:Nat} (h:i<listed.size):listed.getD i true=listed.getD i false:=by
 simp[Array.getD,h]
theorem qaj2 {n i:Nat} {listed:Array Bool} (h:i∈rest n listed) (hs:listed.size=n) : ∃l1 l2,rest n listed=l1++i::l2∧(∀j∈l1,j<i)∧rest n (listed.setIfInBounds i true)=l1++l2:=by
 have hp:(rest n listed).Pairwise (· < ·):=List.Pairwise.filter _ List.pairwise_lt_range
 have hi:=(q2s.1 h).1
 have hr:rest n (listed.setIfInBounds i true)=(rest n listed).filter (fun j=>decide (j≠i)):=by
  unfold rest
  rw[List.filter_filter]
  apply List.filter_congr
  intro j _
  by_cases hj:i=j
  ·subst hj;simp[Array.getD,hs,hi]
  ·rw[getD_set_ne false hj];simp[Ne.symm hj]
 obtain⟨l1,l2,h1⟩:=List.append_of_mem h
 rw[h1]at hp
 have h2:=List.pairwise_append.1 hp
 have h3 : ∀j∈l1,j<i:=fun j hj=>h2.2.2 j hj i (by simp)
 have h4 : ∀j∈l2,i<j:=fun j hj=>(List.pairwise_cons.1 h2.2.1).1 j hj
 refine⟨l1,l2,h1,h3,?_⟩
 rw[hr,h1,List.filter_append,List.filter_cons]
 rw[List.filter_eq_self.2 fun j hj=>by have:=h3 j hj;simp;omega,List.filter_eq_self.2 fun j hj=>by have:=h4 j hj;simp;omega]
 simp
theorem qu4 {O:Orc} : ∀(l m:List COper) (e:Env) (σ:qf),qah O (l++m) e σ=(qah O l e σ).bind fun x=>qah O m x.1 x.2
 | [],m,e,σ=>rfl
 |o::l,m,e,σ=>by
  simp only[List.cons_append,qah]
  cases qgy O e σ o with
  |none=>rfl
  |some x=>simp only[wd];exact qu4 l m _ _
theorem any_wp {O:Orc} (hO:qxw P O) (hR:quz P O) {ro:Option Nat} {h:Hints} {ops:Array Oper} {cs:List COper} {Q:Exit→Act→World→Prop} (hcs:qil (q8m P h N ops) ops.toList=some cs) (hdr:qak8 ops cs=true) {e':Env} {σ':qf} :
  ∀(fuel:Nat) (listed:Array Bool) {e:Env} {σ:qf} {Γ:Ctx} {a:Act} {w:World},listed.size=ops.size→(rest ops.size listed).length≤fuel→Closed ops listed →
   (∃e2,qah O (qkw cs (rest ops.size listed)) e σ=some (e2,σ')∧Eqv e2 e')→AR P Γ N e σ a w →
   (∀ Γ' a' w',Ext Γ Γ' w w'→AR P Γ' N e' σ' a' w'→Q .normal a' w')→wpAnyIn (FR ro) 0 P .any ops Q fuel listed a w:=by
 unfold qak8 at hdr
 simp only[wa]at hdr
 obtain⟨hlt,hrows⟩:=hdr
 have inRest : ∀ {i:Nat} {listed:Array Bool},listed.size=ops.size→i∈Region.ready .any ops listed→i∈rest ops.size listed:=fun {i listed} hs hi=>by
  obtain⟨h1,o,h2,_⟩:=mem_ready.1 hi
  have:=(Array.getElem?_eq_some_iff.1 h2).1
  exact q2s.2 ⟨this,by rw[←qah5 (by omega)];exact h1⟩
 have done : ∀(listed:Array Bool) {e:Env} {σ:qf} {Γ:Ctx} {a:Act} {w:World},rest ops.size listed=[] →
   (∃e2,qah O (qkw cs (rest ops.size listed)) e σ=some (e2,σ')∧Eqv e2 e')→AR P Γ N e σ a w →
   (∀ Γ' a' w',Ext Γ Γ' w w'→AR P Γ' N e' σ' a' w'→Q .normal a' w')→Q .normal a w:=by
  rintro listed e σ Γ a w hr ⟨e2,h1,h2⟩ ha hq
  rw[hr]at h1
  simp only[qkw,List.filterMap_nil,qah]at h1
  cases h1
  exact hq Γ a w (Ext.refl _ _) (ha.eqv h2)
 have some_ready : ∀ {listed:Array Bool},listed.size=ops.size→rest ops.size listed ≠ []→Region.ready .any ops listed ≠ []:=by
  intro listed hs hne hnil
  obtain⟨i,tl,hi⟩:=List.exists_cons_of_ne_nil hne
  have hmem:i∈rest ops.size listed:=by rw[hi];simp
  obtain⟨hi1,hi2⟩:=q2s.1 hmem
  have hp:(rest ops.size listed).Pairwise (· < ·):=List.Pairwise.filter _ List.pairwise_lt_range
  rw[hi]at hp
  have hmin:=(List.pairwise_cons.1 hp).1
  have:i∈Region.ready .any ops listed:=by
   refine mem_ready.2 ⟨by rw[qah5 (by omega)];exact hi2,ops[i],by simp[hi1],fun ed hed hb => ?_⟩
   have hlt':ed.on<i:=by simpa using qyf hlt (k:=i) (o:=ops[i]) (by simp[hi1]) ed hed hb
   cases hbb:listed.getD ed.on false with
   |true=>rfl
   |false=>
    have:ed.on∈rest ops.size listed:=q2s.2 ⟨by omega,hbb⟩
    rw[hi]at this
    rcases List.mem_cons.1 this with h1|h1
    ·omega
    ·have:=hmin _ h1;omega
  rw[hnil]at this
  cases this
 intro fuel
 induction fuel with
 |zero=>
  intro listed e σ Γ a w hs hf hcl hex ha hq
  have hr:rest ops.size listed=[]:=wg (by omega)
  refine⟨?_,done listed hr hex ha hq⟩
  cases hrd:Region.ready .any ops listed with
  |nil=>rfl
  |cons i tl=>
   have:=inRest hs (i:=i) (by rw[hrd];simp)
   rw[hr]at this;cases this
 |succ fuel ih=>
  intro listed e σ Γ a w hs hf hcl hex ha hq
  refine⟨fun hnil => ?_,fun i hi => ?_⟩
  ·by_cases hr:rest ops.size listed=[]
   ·exact done listed hr hex ha hq
   ·exact absurd hnil (some_ready hs hr)
  ·have hir:=inRest hs hi
   obtain⟨l1,l2,h1,h2,h3⟩:=qaj2 hir hs
   obtain⟨hun,o,ho,hall⟩:=mem_ready.1 hi
   obtain⟨c,hc,hco⟩:=q68 hcs (i:=i) (a:=o) (by simpa using ho)
   obtain⟨e2,h4,h5⟩:=hex
   have hpk:qkw cs (rest ops.size listed)=qkw cs l1++c::qkw cs l2:=by
    rw[h1]
    have:=q5g hc l2
    unfold qkw at this⊢
    rw[List.filterMap_append,this]
   rw[hpk,qu4,zob]at h4
   obtain⟨⟨e3,σ3⟩,h6,h4⟩:=h4
   simp only[qah,zob]at h4
   obtain⟨⟨e4,σ4⟩,h7,h8⟩:=h4
   have hap : ∀b∈qkw cs l1,Ap b c:=by
    intro b hb
    obtain⟨j,hj,hjb⟩:=List.mem_filterMap.1 hb
    have hji:=h2 j hj
    obtain⟨bj,hbj,hrow⟩:=q77 hrows hc
    have:=qabh hrow (m:=j) (a:=b) (by rw[List.nil_append,wk,if_pos hji];exact hjb)
    rw[Nat.zero_add]at this
    rcases this with hbit|hap
    ·have hls:=qag7 hlt hcl i o ho hall bj hbj j hbit
     have hjr:j∈rest ops.size listed:=by rw[h1];simp[hj]
     have:=(q2s.1 hjr).2
     rw[hls]at this;cases this
    ·exact ap_of hap
   obtain⟨e1',τ,h9,e2',h10,h11⟩:=qaka hap ha.known (load_okC (q08 hco).2.2.1) h6 h7
   obtain⟨e5,h12,h13⟩:=qms h11.symm h8
   refine qac9 hO hR ho hco h9 ha fun Γ1 a1 w1 x1 ha1 => ?_
   refine ih (listed.setIfInBounds i true) (by simp[hs]) ?_ ?_ ⟨e5,?_,h13.symm.trans h5⟩ ha1 fun Γ2 a2 w2 x2 ha2=>hq Γ2 a2 w2 (x1.trans x2) ha2
   ·have hlen:=congrArg List.length h1
    have hlen3:=congrArg List.length h3
    simp only[List.length_append,List.length_cons]at hlen hlen3
    omega
   ·intro j oj hoj hl ed hed hb
    by_cases hji:i=j
    ·subst hji
     rw[ho]at hoj;cases hoj
     exact getD_set_true (hall ed hed hb)
    ·rw[getD_set_ne false hji]at hl
     exact getD_set_true (hcl j oj hoj hl ed hed hb)
   ·rw[h3]
    have:qkw cs (l1++l2)=qkw cs l1++qkw cs l2:=by simp[qkw]
    rw[this,qu4,h10]
    exact h12
theorem qals {O:Orc} (hO:qxw P O) (hR:quz P O) (hm:P.follows .mixedOrders=true) {ro:Option Nat} {h:Hints} {id:Nat} {ops:Array Oper} {draw:Bool} {cc:CCode} {i j:Nat} (hc:cReg P h N ops draw i=some (cc,j)) :
  ∃cs,cc = .region cs ∧ ∀ {Q:Exit→Act→World→Prop} {e':Env} {σ':qf},qah O cs e σ=some (e',σ')→AR P Γ N e σ a w →
   (∀ Γ' a' w',Ext Γ Γ' w w'→AR P Γ' N e' σ' a' w'→Q .normal a' w')→(Code.region id ops draw).wpIn (FR ro) 0 P Q a w:=by
 simp only[cReg,zob]at hc
 obtain⟨cs,hcs,hc⟩:=hc
 have hlen:cs.length=ops.size:=by simpa using qmt hcs
 have lex : ∀ {Q:Exit→Act→World→Prop} {e':Env} {σ':qf},qah O cs e σ=some (e',σ')→AR P Γ N e σ a w →
   (∀ Γ' a' w',Ext Γ Γ' w w'→AR P Γ' N e' σ' a' w'→Q .normal a' w')→(Code.region id ops false).wpIn (FR ro) 0 P Q a w:=fun he ha hq=>by
  refine wpIn_region (ops_wp hO hR hcs (List.range ops.size) (fun i hi=>by simpa using hi) ?_ ha hq)
  rw[←hlen,qxo];exact he
 split at hc
 ·rename_i hd
  split at hc
  ·rename_i hok
   cases hc
   subst hd
   refine⟨cs,rfl,fun he ha hq => ?_⟩
   have hb:=qzw w
   have hrest:rest ops.size (Array.replicate ops.size false)=List.range ops.size:=by
    unfold rest
    rw[List.filter_eq_self]
    intro i hi
    simp[Array.getD]
   refine wpIn_region_any hm (any_wp hO hR hcs hok ops.size _ (by simp) (by rw[hrest];simp) ?_ ⟨_,by rw[hrest,←hlen,qxo];exact he,Eqv.refl _⟩ (ha.below hb) ?_)
   ·intro j o _ hl
    simp[Array.getD]at hl
   ·exact fun Γ' a' w' x=>hq Γ' a' w' ((Ext.of_below Γ hb).trans x)
  ·cases hc
 ·rename_i hd
  cases hc
  have:draw=false:=by simpa using hd
  subst this
  exact⟨cs,rfl,lex⟩
end Go.Ev
namespace Go.Ev
open Go.RowKit (Below)
variable {P:Program} {Γ Γ':Ctx} {w w':World} {σ σ':qf} {e e':Env} {a a':Act} {av:AV} {N:Nat}
def Ctx.cut (Γ:Ctx) (k:Nat):Ctx:={ Γ with n:=k }
theorem q88 {n:Nat} : ∀ {l:qf} {i:Nat} {o:SObj},qer n l=true→l[i]? = some o→o.lo n=true
 | [],_,_,_,h=>by simp at h
 |x::l,i,o,hl,h=>by
  simp only[qer,wa]at hl
  cases i with
  |zero=>simp at h;subst h;exact hl.1
  |succ i=>exact q88 hl.2 (by simpa using h)
theorem q3t {n:Nat} : ∀ {l:List (Nat×AV)} {t:Nat} {av:AV},qy7 n l=true→look l t=some av→av.lo n=true
 | [],_,_,_,h=>by simp[look]at h
 |(k,v)::l,t,av,hl,h=>by
  simp only[qy7,wa]at hl
  simp only[look]at h
  split at h
  ·cases h;exact hl.1
  ·exact q3t hl.2 h
theorem qabx {n:Nat} : ∀ {l m:List AV},los n l=true→los n m=true→los n (l++m)=true
 | [],m,_,h=>h
 |x::l,m,h,k=>by
  simp only[los,wa,List.cons_append]at h⊢
  exact⟨h.1,qabx h.2 k⟩
theorem qafn {n:Nat} : ∀ {l:List (List AV)},qk9 n l=true→los n l.flatten=true
 | [],_=>rfl
 |x::l,h=>by
  simp only[qk9,wa]at h
  rw[List.flatten_cons]
  exact qabx h.1 (qafn h.2)
theorem VR.cut {v:Value} (k:Nat) (hl:av.lo k=true) (h:VR Γ w av v):VR (Γ.cut k) w av v:=VR.weaken (Γ:=Γ) (Γ':=Γ.cut k) (fun _ h=>h) k (wh _) (fun _ _=>rfl) _ _ hl h
theorem OR.cut {o k:Nat} {ob:SObj} (h:OR P Γ w o ob) (hl:ob.lo k=true):OR P (Γ.cut k) w o ob:=by
 cases ob with
 |row sz es g=>
  simp only[OR]at h⊢
  obtain⟨h1,h2,h3,h4,h5,h6⟩:=h
  refine⟨h1,h2,h3,h4,h5,h6.imp id ?_⟩
  rintro⟨arr,et,h7,h8,h9⟩
  exact⟨arr,et,h7,h8,qi.weaken (Γ:=Γ) (Γ':=Γ.cut k) (fun _ h=>h) k (wh _) (fun _ _=>rfl) _ _ (qafn (by simpa only[SObj.lo]using hl)) h9⟩
 |loop env ps as body st pend=>
  simp only[OR]at h⊢
  obtain⟨h1,h2,r,h3,h4,h5,h6,h7,h8,h9,h10⟩:=h
  exact⟨h1,h2,r,h3,h4,h5,h6,h7,h8,fun t av ht=>(h9 t av ht).cut k (q3t (by simpa only[SObj.lo]using hl) ht),h10⟩
 |defr=>exact h
 |dead=>trivial
 |hole=>exact h
 |mp kk es=>
  simp only[OR]at h⊢
  obtain⟨h1,h2,arr,clock,h3,h4⟩:=h
  exact⟨h1,h2,arr,clock,h3,h4.imp fun a y hl hy=>VR.weaken (Γ:=Γ) (Γ':=Γ.cut k) (fun _ h=>h) 0 (Nat.zero_le _) (fun o ho=>absurd ho (wi _)) a y hl hy⟩
theorem SR.cut (s:SR P Γ σ w) {k:Nat} (hk:k≤Γ.n) (hl:qer k (σ.take k)=true):SR P (Γ.cut k) (σ.take k) w where
 len:=by rw[List.length_take,s.len];exact Nat.min_eq_left hk
 obj o ob ho:=(s.obj o ob (by
  rw[wk]at ho
  split at ho
  ·exact ho
  ·cases ho)).cut (q88 hl ho)
 blk o ho:=s.blk o (wc ho hk)
 inj o o' ho ho':=s.inj o o' (wc ho hk) (wc ho' hk)
 ownlt:=s.ownlt
 farlt:=s.farlt
 sep:=s.sep
theorem Ext.cut {Γ0:Ctx} {w0:World} (x:Ext Γ0 Γ w0 w):Ext Γ0 (Γ.cut Γ0.n) w0 w:=⟨wh _,x.size,x.same,x.own,x.far,x.loc,x.os,x.tape,x.output⟩
theorem qso (e:Env) : ∀ {l:List Nat} {t:Nat} {av:AV},look (keep e l) t=some av→e.get t=some av
 | [],_,_,h=>by simp[keep,look]at h
 |k::l,t,av,h=>by
  simp only[keep]at h
  split at h
  ·rename_i u hu
   simp only[look]at h
   split at h
   ·rename_i hk
    subst hk
    cases h
    exact hu
   ·exact qso e h
  ·exact qso e h
theorem qaay {k:Nat} : ∀ {ms:List Nat} {ds:List Deferred},q4r k ms=true→MR Γ ms ds→MR (Γ.cut k) ms ds
 | [],_,_,h=>h
 |m::ms,ds,hl,h=>by
  simp only[q4r,wa,decide_eq_true_eq]at hl
  simp only[MR]at h⊢
  obtain⟨b,ds',rfl,h1,h2,h3⟩:=h
  exact⟨b,ds',rfl,hl.1,h2,qaay hl.2 h3⟩
theorem qaej {Γ0:Ctx} {w0:World} {live:List Nat} {trim:Bool} {e1:Env} {σ1:qf} (h:qao live trim Γ0.n e σ=some (e1,σ1)) (x:Ext Γ0 Γ w0 w) (ha:AR P Γ N e σ a w) : ∃ Γ',Ext Γ0 Γ' w0 w∧AR P Γ' N e1 σ1 a w:=by
 unfold qao at h
 split at h
 ·split at h
  ·rename_i hl
   cases h
   exact⟨Γ.cut Γ0.n,x.cut,fun t av ht=>(ha.ve t av (qso e ht)).cut _ (q3t hl.1 ht),ha.sr.cut x.n hl.2.2,ha.sz,qaay hl.2.1 ha.mr⟩
  ·cases h
 ·cases h
  exact⟨Γ,x,fun t av ht=>ha.ve t av (qso e ht),ha.sr,ha.sz,ha.mr⟩
theorem qaia {Γ0:Ctx} {w0:World} {v:Value} (x:Ext Γ0 Γ w0 w) (s:SR P Γ σ w) (hv:VR Γ w av v):Got P Γ0 w0 (qx6 Γ0.n av σ).1 (qx6 Γ0.n av σ).2 v w:=by
 unfold qx6
 split
 ·rename_i hl
  exact⟨Γ.cut Γ0.n,hv.cut _ hl.1,s.cut x.n hl.2,x.cut⟩
 ·exact⟨Γ,hv,s,x⟩
inductive Unroll (f:Env→qf→R3) (s:Env→qf→Option (Env×qf)):Env→qf→CExit×Env×qf→Prop where
 |stop {e:Env} {σ:qf} {e1:Env} {σ1:qf} {x:CExit} {e2:Env} {σ2:qf}:s e σ=some (e1,σ1)→f e1 σ1=some (x,e2,σ2)→x ≠ .normal→Unroll f s e σ (x,e2,σ2)
 |next {e:Env} {σ:qf} {e1:Env} {σ1:qf} {e2:Env} {σ2:qf} {r:CExit×Env×qf}:s e σ=some (e1,σ1)→f e1 σ1=some (.normal,e2,σ2)→Unroll f s e2 σ2 r→Unroll f s e σ r
def qae2 (I:qads):Prop:=∀f s e σ r,I f s e σ=some r→Unroll f s e σ r
theorem q6z : ∀m,qae2 (qs7 m)
 | 0=>fun f s e σ r h=>by simp[qs7]at h
 |m+1=>fun f s e σ r h=>by
  simp only[qs7,zob]at h
  obtain⟨⟨e1,σ1⟩,h1,⟨x,e2,σ2⟩,h2,h⟩:=h
  cases x with
  |normal=>exact .next h1 h2 (q6z m f s e2 σ2 r h)
  |exit id=>cases h;exact .stop h1 h2 (by simp)
  |ret=>cases h;exact .stop h1 h2 (by simp)
def CExit.ex:CExit→Exit
 | .normal => .normal
 | .exit id => .exit id
 | .ret => .ret
def q5b (P:Program) (Γ:Ctx) (w:World) (N:Nat) (x:CExit) (e':Env) (σ':qf) (ex:Exit) (a':Act) (w':World):Prop:=ex=x.ex ∧ ∃ Γ',Ext Γ Γ' w w'∧AR P Γ' N e' σ' a' w'
theorem q5b.of_ext {x:CExit} {ex:Exit} {Γ0:Ctx} {w0:World} (k:Ext Γ0 Γ w0 w) (h:q5b P Γ w N x e' σ' ex a' w'):q5b P Γ0 w0 N x e' σ' ex a' w':=let ⟨h1,Γ',h2,h3⟩:=h;⟨h1,Γ',k.trans h2,h3⟩
def RoOk (Γ:Ctx):Option Nat→Option Nat→Prop
 |none,none=>True
 |some o,some l=>o<Γ.n∧((Γ.loc o).g=0→l=(Γ.loc o).b)
 | _,_=>False
theorem RoOk.mono (x:Ext Γ Γ' w w') : ∀ {ro l:Option Nat},RoOk Γ ro l→RoOk Γ' ro l
 |none,none,_=>trivial
 |some o,some l,h=>by
  simp only[RoOk]at h⊢
  refine⟨wc h.1 x.n,fun hg => ?_⟩
  rcases x.loc o h.1 with h4|h4
  ·rw[h4]at hg ⊢;exact h.2 hg
  ·omega
 |none,some _,h=>h
 |some _,none,h=>h
def qaj6 (P:Program) (O:Orc):Prop:=∀k,O.ent k=true → ∀args σ r,O.call k args σ=some r → ∀vs w,(callFunc k vs).run P w = .ok (.enter k vs) w
def q5n (P:Program) (O:Orc) (I:qads) (N:Nat) (c:Code) (cc:CCode):Prop:=∀ {ro l:Option Nat} {e:Env} {σ:qf} {Γ:Ctx} {a:Act} {w:World} {x:CExit} {e':Env} {σ':qf},exec O I ro cc e σ=some (x,e',σ')→AR P Γ N e σ a w→RoOk Γ ro l →
 c.wpIn (FR l) 0 P (q5b P Γ w N x e' σ') a w
theorem loop_ok {O:Orc} {I:qads} {ro l:Option Nat} {live:List Nat} {trim:Bool} {c:Code} {cc:CCode} (hc:q5n P O I N c cc) {Γ0:Ctx} {w0:World} (hro:RoOk Γ0 ro l) :
  ∀ {e σ r},Unroll (exec O I ro cc) (qao live trim Γ0.n) e σ r → ∀ {Γ a w},Ext Γ0 Γ w0 w→AR P Γ N e σ a w → ∀(b:Frame) (k:List Item) (cs:List Frame),b.roundOf=l →
   ∃ex a' w',q5b P Γ0 w0 N r.1 r.2.1 r.2.2 ex a' w'∧ArrivesIn (Machine.fenced P (FR l)) P (lone (b.atR a (.code c :: .inLoop c::k)) cs w) b k cs ex a' w':=by
 have room : ∀n,(FR l).room n:=fun n d hd=>by simp[Fence.wide]at hd
 intro e σ r hu
 induction hu with
 | @stop e σ e1 σ1 x e2 σ2 h1 h2 h3=>
  intro Γ a w hx ha b k cs hb
  obtain⟨Γ1,x1,ha1⟩:=qaej h1 hx ha
  obtain⟨ex,a',w',hq,harr⟩:=hc h2 ha1 (hro.mono x1) b (.inLoop c::k) cs hb trivial (room _)
  refine⟨ex,a',w',hq.of_ext x1,.pass (x:=.inLoop c) rfl (fun _ _ => .inl ?_) harr⟩
  rw[hq.1];cases x<;>simp[CExit.ex]at h3⊢
 | @next e σ e1 σ1 e2 σ2 r h1 h2 _ ih=>
  intro Γ a w hx ha b k cs hb
  obtain⟨Γ1,x1,ha1⟩:=qaej h1 hx ha
  obtain⟨ex,a',w',⟨hex,Γ2,x2,ha2⟩,harr⟩:=hc h2 ha1 (hro.mono x1) b (.inLoop c::k) cs hb trivial (room _)
  subst hex
  obtain⟨ex',a2,w2,hq,harr2⟩:=ih (x1.trans x2) ha2 b k cs hb
  exact⟨ex',a2,w2,hq,.of_steps (StepsIn.trans harr (.one (fenced_calm (n:=0) trivial (room _) rfl) stepR_inLoop)) harr2⟩
end Go.Ev
namespace Go.Ev
open Go.RowKit (Below)
variable {P:Program} {Γ Γ':Ctx} {w w':World} {σ σ':qf} {e e':Env} {a a':Act} {av:AV} {N:Nat}
theorem qahx (s:SR P Γ σ w) {o:Nat} {ob:SObj} {x:Obj} (ho:o<Γ.n) (hc:(Γ.loc o).ct≠0)
  (hob : ∀ Γ',Γ'.loc o=Γ.loc o→Ext Γ Γ' w (w.putObj (Γ.loc o).b x)→OR P Γ' (w.putObj (Γ.loc o).b x) o ob) :
  ∃ Γ',SR P Γ' (σ.set o ob) (w.putObj (Γ.loc o).b x)∧Ext Γ Γ' w (w.putObj (Γ.loc o).b x):=by
 have hlt:=s.ownlt _ (s.blk o ho hc)
 have hsize:w.heap.size≤(w.putObj (Γ.loc o).b x).heap.size:=by simp[World.putObj]
 have hsame : ∀b,b<w.heap.size→(b=(Γ.loc o).b∧(Γ.loc o).ct≠0)∨(w.putObj (Γ.loc o).b x).heap[b]? = w.heap[b]?:=fun b _=>by
  by_cases hb:b=(Γ.loc o).b
  ·exact .inl ⟨hb,hc⟩
  ·exact .inr (World.putObj_heap_other hb)
 have hl:(Γ.loc o).ct≠0→((Γ.loc o).b=(Γ.loc o).b∧(Γ.loc o).ct≠0∨w.heap.size≤(Γ.loc o).b)∧(Γ.loc o).b<(w.putObj (Γ.loc o).b x).heap.size:=fun _=>⟨.inl ⟨rfl,hc⟩,wc hlt hsize⟩
 have hx:=Ext.upd s ho (l:=Γ.loc o) (.inl rfl) hsize hsame hl rfl rfl rfl
 exact⟨_,SR.upd s ho (l:=Γ.loc o) (.inl rfl) hsize hsame hl rfl rfl rfl (hob _ (Γ.upd_same o _) hx),hx⟩
theorem qacn (x:Ext Γ Γ' w w') {o:Nat} (ho:o<Γ.n) (hg:(Γ'.loc o).g=0):Γ'.loc o=Γ.loc o:=by
 rcases x.loc o ho with h|h
 ·exact h
 ·omega
theorem range_ok {O:Orc} (hO:qxw P O) (hE:qaj6 P O) {l:Option Nat} {k:Nat} {first cap:List AV} {e1 e':Env} {σ0 σ':qf} {lp:SObj} {x:CExit} {Γ1:Ctx} {w1:World} {a1:Act}
  (h:qw4 O k first cap e1 σ0 lp=some (x,e',σ')) (ha:AR P Γ1 N e1 (σ0++[lp]) a1 w1) {fs cs:List Value} (hf:VRs Γ1 w1 first fs) (hc:VRs Γ1 w1 cap cs) :
  (callFunc k (fs++(.func (.yield (Γ1.loc σ0.length).b) #[] #[]::cs)).toArray).run P w1 = .ok (.enter k (fs++(.func (.yield (Γ1.loc σ0.length).b) #[] #[]::cs)).toArray) w1 ∧
  CallsIn (FR l) 0 P k (fs++(.func (.yield (Γ1.loc σ0.length).b) #[] #[]::cs)).toArray w1 (rangePost (FR l) 0 P (Γ1.loc σ0.length).b (q5b P Γ1 w1 N x e' σ') a1):=by
 unfold qw4 at h
 split at h
 ·rename_i hent
  rw[zob]at h
  obtain⟨⟨r,σ2⟩,hcall,h⟩:=h
  have hlo:σ0.length<Γ1.n:=by rw[←ha.sr.len];simp
  have hvs:VRs Γ1 w1 (first++(.yld σ0.length::cap)) (fs++(.func (.yield (Γ1.loc σ0.length).b) #[] #[]::cs)):=hf.append (by
   simp only[VRs]
   exact⟨_,cs,rfl,by simp only[VR];exact⟨_,rfl,hlo,fun _=>rfl⟩,hc⟩)
  have hrun:=hE k hent _ _ _ hcall (fs++(.func (.yield (Γ1.loc σ0.length).b) #[] #[]::cs)).toArray w1
  have hn:=hO k _ _ _ _ hcall Γ1 w1 _ ha.sr hvs
  rw[hrun]at hn
  refine⟨hrun,CallsIn.mono (F:=FR l) hn ?_⟩
  intro en w3 hb
  cases en with
  |panicked _=>exact hb.elim
  |outgrown=>exact hb.elim
  |returned v=>
   obtain⟨Γ2,_,s2,x2⟩:=hb
   simp only at h
   split at h
   ·rename_i e2 ps as' body' st pend hob
    split at h
    ·rename_i hst
     have hO2:=s2.obj _ _ hob
     have hO2':=hO2
     simp only[OR]at hO2
     obtain⟨k1,k2,rec,k3,k4,k5,k6,k7,k8,k9,k10⟩:=hO2
     have hloc:=qacn x2 hlo k1
     obtain⟨Γ3,s3,x3⟩:=qahx s2 (o:=σ0.length) (ob:=.loop e2 ps as' body' .exhausted pend) (x:=.loop { rec with state:=.exhausted }) (wc hlo x2.n) k2 (by
      intro Γ3 hl3 x3
      simp only[OR]
      rw[hl3]
      exact⟨k1,k2,_,World.putObj_heap_same (Array.getElem?_eq_some_iff.1 k3).1,rfl,k5,k6,k7,k8,fun t av ht=>VR.mono x3 _ _ (k9 t av ht),k10⟩)
     rw[hloc]at k3 s3 x3
     have hend:=run_endLoop (P:=P) k3 (by rw[k4];exact hst)
     have ha3:AR P Γ3 N e1 (σ2.set σ0.length (.loop e2 ps as' body' .exhausted pend)) a1 (w3.putObj (Γ1.loc σ0.length).b (.loop { rec with state:=.exhausted })):=
      ⟨ha.ve.mono (x2.trans x3),s3,ha.sz,ha.mr.mono (x2.trans x3)⟩
     generalize w3.putObj (Γ1.loc σ0.length).b (.loop { rec with state:=.exhausted })=w4 at hend ha3 x3 s3
     rw[k5]at hend
     refine⟨_,_,hend,?_⟩
     cases pend with
     |none=>cases h;exact⟨rfl,Γ3,x2.trans x3,ha3⟩
     |some p=>
      cases p with
      |none=>cases h;exact wpIn_ret ⟨rfl,Γ3,x2.trans x3,ha3⟩
      |some id=>cases h;exact wpIn_exit ⟨rfl,Γ3,x2.trans x3,ha3⟩
    ·cases h
   ·cases h
 ·cases h
theorem qadk {g:Operand} {k l:Nat} {fs cs:List Value} (hg:a.eval g = .func (.func k) fs.toArray cs.toArray) :
  (resolve a.eval (rangeCall g l) 0).run P w = .ok { target:=.fn (.func k) cs.toArray,args:=fs.toArray ++ #[.func (.yield l) #[] #[]] } w:=by
 have h1:Array.map a.eval #[Operand.const (.func (.yield l) #[] #[])] = #[.func (.yield l) #[] #[]]:=by simp[Act.eval]
 simp only[resolve,hg,Deferred.ofValue,Sem.run_pure,h1]
theorem qad3 (s:SR P Γ σ w) {r:Loop} {e:Env} {ps:List Nat} {as body:CCode} (h1:r.state = .ready) (h2:r.pending=none) (h3:r.params=ps.toArray) (h4:CR P r.tmps.size r.assign as) (h5:CR P r.tmps.size r.body body)
  (h6:qamh Γ w e.vars r.tmps) (h7 : ∀p∈ps,p<r.tmps.size) :
  SR P (Γ.push ⟨0,w.heap.size,1,1⟩) (σ++[.loop e ps as body .ready none]) (w.alloc (.loop r))∧Ext Γ (Γ.push ⟨0,w.heap.size,1,1⟩) w (w.alloc (.loop r)):=by
 have x:=Ext.push (Γ:=Γ) (qd9 w (.loop r)) ⟨0,w.heap.size,1,1⟩ fun _=>wh _
 refine⟨s.push (qd9 w (.loop r)) _ (fun _=>⟨wh _,by simp⟩) ?_,x⟩
 simp only[OR,Ctx.push_new]
 exact⟨trivial,by simp,r,qki w _,h1,by rw[h2];rfl,h3,h4,h5,fun t av ht=>VR.mono x _ _ (h6 t av ht),h7⟩
theorem qal3 (s:SR P Γ σ w) :
  SR P (Γ.push ⟨0,w.heap.size,1,1⟩) (σ++[.defr]) (w.alloc (.deferred (some [])))∧Ext Γ (Γ.push ⟨0,w.heap.size,1,1⟩) w (w.alloc (.deferred (some []))):=by
 have x:=Ext.push (Γ:=Γ) (qd9 w (.deferred (some []))) ⟨0,w.heap.size,1,1⟩ fun _=>wh _
 refine⟨s.push (qd9 w (.deferred (some []))) _ (fun _=>⟨wh _,by simp⟩) ?_,x⟩
 simp only[OR,Ctx.push_new]
 exact⟨trivial,by simp,qki w _⟩
theorem qp4 {b:Frame} {a:Act} {k:List Item} {cs:List Frame} {c:Code}:step P (lone (b.atR a (.code (.scope c)::k)) cs w) = .next (lone (b.atR a (.code c :: .inScope c::k)) cs w):=
 step_lone_go (by simp[stepG,stepG.exec,Frame.atR])
theorem qab8 {b:Frame} {a:Act} {k:List Item} {cs:List Frame} {c:Code}:step P (lone (b.atR a (.inScope c::k)) cs w) = .next (lone (b.atR a k) cs w):=
 step_lone_go (by simp[stepG,stepG.exec,Frame.atR])
theorem qai9 {F:Fence} {n:Nat} {Q:Exit→Act→World→Prop} {a:Act} {c:Code} (h:c.wpIn F n P Q a w) (hg : ∀l a w,¬Q (.goto l) a w):(Code.scope c).wpIn F n P Q a w:=by
 intro b k cs hro hb hr
 have h0:(lone (b.atR a (.code (.scope c)::k)) cs w).fenced P F:=fenced_calm hb hr rfl
 obtain⟨e,a₁,w₁,hq,harr⟩:=h b (.inScope c::k) cs hro hb hr
 cases e with
 |normal=>exact⟨.normal,a₁,w₁,hq,.head h0 qp4 (StepsIn.trans harr (.one (fenced_calm hb hr rfl) qab8))⟩
 |exit id=>
  have hx:exitTo id (.inScope c::k)=exitTo id k:=by simp[exitTo]
  exact⟨.exit id,a₁,w₁,hq,fun k' hk => .head h0 qp4 (harr.1 k' (by rw[hx];exact hk)),
   fun hr' hk=>let ⟨k₁,h1,h2⟩:=harr.2 hr' (by rw[hx];exact hk);⟨k₁,h1,.head h0 qp4 h2⟩⟩
 |goto l=>exact(hg _ _ _ hq).elim
 |ret=>exact⟨_,a₁,w₁,hq,.of_steps (.one h0 qp4) harr⟩
 |panic ch=>exact⟨_,a₁,w₁,hq,.of_steps (.one h0 qp4) harr⟩
 |outgrown=>exact⟨_,a₁,w₁,hq,.of_steps (.one h0 qp4) harr⟩
theorem SR.setSame {Γ:Ctx} {σ:qf} {w:World} {o:Nat} {ob:SObj} (s:SR P Γ σ w) (h:OR P Γ w o ob):SR P Γ (σ.set o ob) w where
 len:=by rw[List.length_set];exact s.len
 obj o' ob' ho:=by
  rw[List.getElem?_set]at ho
  split at ho
  ·rename_i he;subst he
   split at ho
   ·cases ho;exact h
   ·cases ho
  ·exact s.obj o' ob' ho
 blk:=s.blk
 inj:=s.inj
 ownlt:=s.ownlt
 farlt:=s.farlt
 sep:=s.sep
theorem recell {Γ:Ctx} {σ σ2:qf} {w:World} {o i sz g sz2 g2:Nat} {es es2:List (List AV)} {c c':List AV} (s:SR P Γ σ w) (ho:σ[o]? = some (.row sz es g)) (hc:es[i]? = some c)
  (hg:qada c σ=some (c',σ2)) (ho2:σ2[o]? = some (.row sz2 es2 g2)) (he:g2=g) : ∃ Γ1,Ext Γ Γ1 w w∧SR P Γ1 (σ2.set o (.row sz (es.set i c') g)) w:=by
 have hn:o<Γ.n:=by rw[←s.len];exact(zei.1 ho).1
 have hil:=(zei.1 hc).1
 have hO:=s.obj o _ ho
 simp only[OR]at hO
 obtain⟨k1,k2,k3,k4,k5,k6⟩:=hO
 have hct:(Γ.loc o).ct≠0:=by omega
 obtain⟨arr,et,k7,k8,k9⟩:=k6.resolve_left hct
 have hcl:=k5 c (qtd hc)
 obtain⟨vs,v1,v2⟩:=(qi.elem k5 k9 hc).list
 obtain⟨Γ1,x1,s1,v3⟩:=qac1 hg s v1
 have hcl':c'.length=sz:=by rw[←v3.length,v1.length,hcl]
 have hO2:=s1.obj o _ ho2
 simp only[OR]at hO2
 have hl:Γ1.loc o=Γ.loc o:=by
  rcases x1.loc o hn with h|h
  ·exact h
  ·have:=hO2.1;omega
 refine⟨Γ1,x1,s1.setSame ?_⟩
 simp only[OR]
 rw[hl]
 refine⟨k1,k2,k3,by simpa using k4,fun e he => ?_,.inr ⟨arr,et,k7,k8,?_⟩⟩
 ·rcases List.mem_or_eq_of_mem_set he with he|rfl
  ·exact k5 e he
  ·exact hcl'
 ·have hm:=qi.mono x1 _ _ _ (fun _=>rfl) k9
  rw[qqg k5 hc,qi.append_iff,qi.append_iff]at hm
  rw[qqa k5 hil,qi.append_iff,qi.append_iff]
  have hlen:(es.flatten.take (i*sz)).length=i*sz:=by
   rw[List.length_take,qbo k5]
   exact Nat.min_eq_left (Nat.mul_le_mul_right _ (Nat.le_of_lt hil))
  refine⟨hm.1,?_,?_⟩
  ·refine qi.of_list v3 fun j v hj => ?_
   have:=v2 j v hj
   simpa[hlen]using this
  ·have h2:=hm.2.2
   rw[hcl]at h2
   rw[hcl'];exact h2
theorem qamz {t:Nat} {e1:Env} {σ1:qf} (h:iceE t e σ=some (e1,σ1)) (ha:AR P Γ N e σ a w) : ∃ Γ1,Ext Γ Γ1 w w∧AR P Γ1 N e1 σ1 a w:=by
 unfold iceE at h
 rw[zob]at h
 obtain⟨av,h1,h⟩:=h
 split at h
 ·split at h
  ·rename_i ho
   split at h
   ·rename_i hc
    obtain⟨rfl,h2⟩:=hc
    cases h
    obtain⟨s1,v1⟩:=qv7 ha.sr (ha.ve t _ h1) ho h2
    refine⟨_,Ext.drop Γ w _,fun k av hk => ?_,s1,ha.sz,ha.mr.mono (Ext.drop Γ w _)⟩
    simp only[Env.set,look]at hk
    split at hk
    ·rename_i ht;subst ht;cases hk;exact v1
    ·exact VR.mono (Ext.drop Γ w _) _ _ (ha.ve k av hk)
   ·cases h
  ·cases h
 ·split at h
  ·rename_i ho
   split at h
   ·rename_i hg
    rw[zob]at h
    obtain⟨c,hc,h⟩:=h
    rw[zob]at h
    obtain⟨⟨c',σ2⟩,hgv,h⟩:=h
    simp only at h
    split at h
    ·rename_i ho2
     split at h
     ·rename_i hg2
      cases h
      obtain⟨Γ1,x1,s1⟩:=recell ha.sr ho hc hgv ho2 hg2
      exact⟨Γ1,x1,fun k av hk=>VR.mono x1 _ _ (ha.ve k av hk),s1,ha.sz,ha.mr.mono x1⟩
     ·cases h
    ·cases h
   ·cases h
  ·cases h
 ·cases h
  obtain⟨q1,q2⟩:=qaez ha.sr
  exact⟨_,q2,fun k av hk=>VR.mono q2 _ _ (ha.ve k av hk),q1,ha.sz,ha.mr.mono q2⟩
 ·cases h
theorem q8i {O:Orc} {I:qads} (hO:qxw P O) (hR:quz P O) (hE:qaj6 P O) (hI:qae2 I) (hm:P.follows .mixedOrders=true) {h:Hints} : ∀(c:Code) {i j:Nat} {cc:CCode},qla P h N c i=some (cc,j)→q5n P O I N c cc:=by
 intro c
 induction c with
 |skip=>
  intro i j cc hc ro l e σ Γ a w x e' σ' he ha hro
  simp only[qla]at hc
  cases hc
  simp only[exec]at he
  cases he
  exact wpIn_skip ⟨rfl,Γ,Ext.refl _ _,ha⟩
 |region id ops draw=>
  intro i j cc hc ro l e σ Γ a w x e' σ' he ha hro
  simp only[qla,zob]at hc
  obtain⟨⟨c',i1⟩,hc,hx⟩:=hc
  obtain⟨cs,rfl,hw⟩:=qals (N:=N) hO hR hm (h:=h) (id:=id) hc
  cases hi:icAOf h id with
  |none=>
   rw[hi]at hx
   cases hx
   simp only[iceB,exec,zob]at he
   obtain⟨⟨e1,σ1⟩,h1,he⟩:=he
   cases he
   exact hw h1 ha fun Γ' a' w' x1 ha'=>⟨rfl,Γ',x1,ha'⟩
  |some t=>
   rw[hi]at hx
   cases hx
   simp only[iceB,exec,zob]at he
   obtain⟨⟨y,e2,σ2⟩,⟨⟨e1,σ1⟩,h1,he1⟩,he⟩:=he
   cases he1
   simp only[zob]at he
   obtain⟨⟨e3,σ3⟩,h3,he⟩:=he
   cases he
   exact hw h1 ha fun Γ' a' w' x1 ha'=>by
    obtain⟨Γ1,x2,ha2⟩:=qamz h3 ha'
    exact⟨rfl,Γ1,x1.trans x2,ha2⟩
 |seq p q ihp ihq=>
  intro i j cc hc ro l e σ Γ a w x e' σ' he ha hro
  simp only[qla,zob]at hc
  obtain⟨⟨p',i1⟩,h1,⟨q',i2⟩,h2,hc⟩:=hc
  have main : ∀ {Γ:Ctx} {e:Env} {σ:qf},exec O I ro (.seq p' q') e σ=some (x,e',σ')→AR P Γ N e σ a w→RoOk Γ ro l→(Code.seq p q).wpIn (FR l) 0 P (q5b P Γ w N x e' σ') a w:=by
   intro Γ e σ he ha hro
   simp only[exec,zob]at he
   obtain⟨⟨y,e1,σ1⟩,h3,he⟩:=he
   refine wpIn_seq (wpIn_mono (ihp h1 h3 ha hro) ?_)
   rintro ex a1 w1 ⟨rfl,Γ1,x1,ha1⟩
   cases y with
   |normal=>exact wpIn_mono (ihq h2 he ha1 (hro.mono x1)) fun ex a2 w2 hp=>hp.of_ext x1
   |exit id=>cases he;exact⟨rfl,Γ1,x1,ha1⟩
   |ret=>cases he;exact⟨rfl,Γ1,x1,ha1⟩
  cases hi:iceOf h p with
  |none=>
   rw[hi]at hc
   cases hc
   exact main he ha hro
  |some t=>
   rw[hi]at hc
   cases hc
   replace he:(iceE t e σ).bind (fun y=>exec O I ro (.seq p' q') y.1 y.2)=some (x,e',σ'):=he
   rw[zob]at he
   obtain⟨⟨e1,σ1⟩,h3,he⟩:=he
   obtain⟨Γ1,x1,ha1⟩:=qamz h3 ha
   exact wpIn_mono (main he ha1 (hro.mono x1)) fun ex a2 w2 hp=>hp.of_ext x1
 |cond t p q ihp ihq=>
  intro i j cc hc ro l e σ Γ a w x e' σ' he ha hro
  simp only[qla,zob]at hc
  obtain⟨t',h0,⟨p',i1⟩,h1,⟨q',i2⟩,h2,hc⟩:=hc
  cases hc
  simp only[exec,zob]at he
  obtain⟨b,h3,he⟩:=he
  split at he
  ·rename_i b
   have hb:=qak h0 h3 ha.ve
   simp only[VR]at hb
   refine wpIn_cond hb ?_
   split at he
   ·rename_i hbt;rw[if_pos hbt];exact ihp h1 he ha hro
   ·rename_i hbt;rw[if_neg hbt];exact ihq h2 he ha hro
  ·cases he
 |block id p ihp=>
  intro i j cc hc ro l e σ Γ a w x e' σ' he ha hro
  simp only[qla,zob]at hc
  obtain⟨⟨p',i1⟩,h1,hc⟩:=hc
  cases hc
  simp only[exec,zob]at he
  obtain⟨⟨y,e1,σ1⟩,h3,he⟩:=he
  refine wpIn_block (wpIn_mono (ihp h1 h3 ha hro) ?_)
  rintro ex a1 w1 ⟨rfl,Γ1,x1,ha1⟩
  cases y with
  |normal=>cases he;exact⟨rfl,Γ1,x1,ha1⟩
  |exit id'=>
   simp only[CExit.ex,Exit.inBlock]
   simp only at he
   split at he
   ·rename_i hid;rw[if_pos hid];cases he;exact⟨rfl,Γ1,x1,ha1⟩
   ·rename_i hid;rw[if_neg hid];cases he;exact⟨rfl,Γ1,x1,ha1⟩
  |ret=>cases he;exact⟨rfl,Γ1,x1,ha1⟩
 |loop p ihp=>
  intro i j cc hc ro l e σ Γ a w x e' σ' he ha hro
  simp only[qla,zob]at hc
  obtain⟨⟨live,trim⟩,h0,⟨p',i1⟩,h1,hc⟩:=hc
  cases hc
  simp only[exec]at he
  have hu:=hI _ _ _ _ _ he
  rw[ha.sr.len]at hu
  intro b k cs hb hF hroom
  obtain⟨ex,a',w',hq,harr⟩:=loop_ok (ihp h1) hro hu (Ext.refl _ _) ha b k cs hb
  exact⟨ex,a',w',hq,.of_steps (.one (fenced_calm hF hroom rfl) stepR_loop) harr⟩
 |scope p ihp=>
  intro i j cc hc ro l e σ Γ a w x e' σ' he ha hro
  simp only[qla]at hc
  exact qai9 (ihp hc he ha hro) fun l a w hq=>by
   obtain⟨hx,_⟩:=hq
   cases x<;>cases hx
 |label l0=>
  intro i j cc hc ro l e σ Γ a w x e' σ' he ha hro
  simp only[qla]at hc
  cases hc
  simp only[exec]at he
  cases he
  exact wpIn_label ⟨rfl,Γ,Ext.refl _ _,ha⟩
 |exit id=>
  intro i j cc hc ro l e σ Γ a w x e' σ' he ha hro
  simp only[qla]at hc
  cases hc
  simp only[exec]at he
  cases he
  exact wpIn_exit ⟨rfl,Γ,Ext.refl _ _,ha⟩
 |ret=>
  intro i j cc hc ro l e σ Γ a w x e' σ' he ha hro
  simp only[qla]at hc
  cases hc
  simp only[exec]at he
  cases he
  exact wpIn_ret ⟨rfl,Γ,Ext.refl _ _,ha⟩
 |rangeFunc g ps as body _ _=>
  intro i j cc hc ro l e σ Γ a w x e' σ' he ha hro
  simp only[qla]at hc
  split at hc
  ·rename_i hps
   simp only[zob]at hc
   obtain⟨⟨live,tr⟩,h0,g',h1,⟨as',i1⟩,h2,⟨body',i2⟩,h3,hc⟩:=hc
   cases hc
   simp only[exec,zob]at he
   obtain⟨f,h4,he⟩:=he
   split at he
   ·rename_i k first cap
    have hf:=qak h1 h4 ha.ve
    simp only[VR]at hf
    obtain⟨fs,cs,h5,h6,h7⟩:=hf
    have hpsz : ∀p∈ps.toList,p<a.tmps.size:=by
     rw[ha.sz]
     exact fun p hp=>of_decide_eq_true (List.all_eq_true.1 hps p hp)
    have hCa:CR P a.tmps.size as as':=⟨h,_,_,by rw[ha.sz];exact h2⟩
    have hCb:CR P a.tmps.size body body':=⟨h,_,_,by rw[ha.sz];exact h3⟩
    have fin : ∀ {Γ1:Ctx} {w1:World} {a1:Act} {σ0:qf} {lp:SObj} {e1:Env},qw4 O k first cap e1 σ0 lp=some (x,e',σ')→AR P Γ1 N e1 (σ0++[lp]) a1 w1→Ext Γ Γ1 w w1→a1.tmps=a.tmps →
      ∃d f args,(resolve a.eval (rangeCall g (Γ1.loc σ0.length).b) 0).run P w1 = .ok d w1∧(∀f',Target.leads P w1 d.target d.args=some f'→(FR l).fn f')∧(invoke d.target d.args).run P w1 = .ok (.enter f args) w1 ∧
       CallsIn (FR l) 0 P f args w1 (rangePost (FR l) 0 P (Γ1.loc σ0.length).b (q5b P Γ w N x e' σ') a1):=by
     intro Γ1 w1 a1 σ0 lp e1 hr ha1 x1 htm
     obtain⟨k1,k2⟩:=range_ok (l:=l) hO hE hr ha1 (VRs.mono x1 _ _ h6) (VRs.mono x1 _ _ h7)
     refine⟨_,k,_,qadk h5,fun _ _=>trivial,?_,CallsIn.mono k2 ?_⟩
     ·have harr:fs.toArray ++ #[.func (.yield (Γ1.loc σ0.length).b) #[] #[]]++cs.toArray=(fs++(.func (.yield (Γ1.loc σ0.length).b) #[] #[]::cs)).toArray:=by
       apply Array.toList_inj.1;simp
      simp only[invoke,harr]
      exact k1
     ·intro en w3 hp
      cases en with
      |panicked _=>exact absurd hp.1 (by cases x<;>simp[CExit.ex])
      |outgrown=>obtain⟨_,_,hp⟩:=hp;exact absurd hp.1 (by cases x<;>simp[CExit.ex])
      |returned v=>
       obtain⟨jump,w4,k3,k4⟩:=hp
       refine⟨jump,w4,k3,?_⟩
       cases jump with
       |none=>exact k4.of_ext x1
       |some c=>exact wpIn_mono k4 fun ex a2 w2 hp=>hp.of_ext x1
    refine wpIn_rangeFunc fun fn hfn => ?_
    cases ro with
    |none=>
     cases l with
     |some _=>exact hro.elim
     |none=>
      obtain⟨sA,xA⟩:=qal3 ha.sr
      obtain⟨sB,xB⟩:=qad3 sA (r:={ state:=.ready,pending:=none,fn,tmps:=a.tmps,params:=ps,assign:=as,body,defers:=w.heap.size }) (e:=⟨keep e live,[]⟩) (ps:=ps.toList) (as:=as') (body:=body')
       rfl rfl (by simp) hCa hCb (fun t av ht=>VR.mono xA _ _ (ha.ve t av (qso e ht))) hpsz
      have hlen:(σ++[SObj.defr]).length=(Γ.push ⟨0,w.heap.size,1,1⟩).n:=sA.len
      have hb:(((Γ.push ⟨0,w.heap.size,1,1⟩).push ⟨0,(w.alloc (.deferred (some []))).heap.size,1,1⟩).loc (σ++[SObj.defr]).length).b=w.heap.size+1:=by
       rw[hlen,Ctx.push_new];simp
      obtain⟨d,f,args,k1,k2,k3,k4⟩:=fin he (a1:={ a with defers:=[{ target:=.collected w.heap.size,args:=#[] }]++a.defers })
       ⟨fun t av ht=>VR.mono (xA.trans xB) _ _ (ha.ve t av ht),sB,ha.sz,by
        simp only[List.singleton_append,MR]
        refine⟨_,_,rfl,by rw[ha.sr.len];simp[Ctx.push];omega,fun _ => ?_,ha.mr.mono (xA.trans xB)⟩
        rw[ha.sr.len,Ctx.push_old _ _ (by simp[Ctx.push]),Ctx.push_new]⟩ (xA.trans xB) rfl
      rw[hb]at k1 k4
      exact⟨_,_,_,d,_,f,args,_,run_enterLoop_outer fn a.tmps ps as body,k1,k2,k3,fun hd=>by simp[Fence.wide]at hd,k4⟩
    |some o=>
     cases l with
     |none=>exact hro.elim
     |some l=>
      simp only at he
      split at he
      ·rename_i ob0 env0 ps0 as0 body0 st0 pend0 hob
       have hO0:=ha.sr.obj _ _ hob
       simp only[OR]at hO0
       obtain⟨k1,k2,rec,k3,_⟩:=hO0
       have hl:l=(Γ.loc o).b:=hro.2 k1
       obtain⟨sB,xB⟩:=qad3 ha.sr (r:={ state:=.ready,pending:=none,fn,tmps:=a.tmps,params:=ps,assign:=as,body,defers:=rec.defers }) (e:=⟨keep e live,[]⟩) (ps:=ps.toList) (as:=as') (body:=body')
        rfl rfl (by simp) hCa hCb (fun t av ht=>ha.ve t av (qso e ht)) hpsz
       have hb:((Γ.push ⟨0,w.heap.size,1,1⟩).loc σ.length).b=w.heap.size:=by
        rw[ha.sr.len,Ctx.push_new]
       obtain⟨d,f,args,m1,m2,m3,m4⟩:=fin he (a1:=a) ⟨fun t av ht=>VR.mono xB _ _ (ha.ve t av ht),sB,ha.sz,ha.mr.mono xB⟩ xB rfl
       rw[hb]at m1 m4
       exact⟨_,[],_,d,_,f,args,_,run_enterLoop_inner (by rw[hl];exact k3) fn a.tmps ps as body,m1,m2,m3,fun hd=>by simp[Fence.wide]at hd,m4⟩
      ·cases he
   ·cases he
  ·cases hc
 | _=>intro i j cc hc;simp[qla]at hc
end Go.Ev
namespace Go.Ev
open Go.RowKit (Below)
variable {P:Program} {Γ Γ':Ctx} {w w':World} {σ σ':qf} {e e':Env} {a a':Act} {av:AV} {N:Nat}
theorem q22 {k : Nat} {fn : Func} {c : Code} (hf : P.funcs[k]? = some fn) (hname : (fn.name == "runtime.NumGoroutine") = false) (hb : fn.body = some c) (args : Array Value) (w : World) :
  (callFunc k args).run P w = .ok (.enter k args) w:=by
 have h1 : fn.name ≠ "runtime.NumGoroutine" := by simpa using hname
 simp[callFunc,hf,h1,hb]
theorem q5c : ∀ {as:List AV} {i t:Nat} {av:AV},look (qxi i as) t=some av → ∃j,t=i+j∧as[j]? = some av
 | [],i,t,av,h=>by simp[qxi,look]at h
 |x::as,i,t,av,h=>by
  simp only[qxi,look]at h
  split at h
  ·cases h;exact⟨0,by omega,by simp⟩
  ·obtain⟨j,h1,h2⟩:=q5c h
   exact⟨j+1,by omega,by simpa using h2⟩
theorem qamu {r:ResultVar} {c:CRes} (hc:cRes P N r=some c) (s:SR P Γ σ w) (hv:VE Γ w e a) (h:q5j e σ c=some av) :
  ∃v,((match r with | .tmp t=>pure (a.tmps.getD t undef) | .cell x t=>do loadVar t (←asAddr (a.tmps.getD x undef)):Sem Value)).run P w = .ok v w∧VR Γ w av v:=by
 cases r with
 |tmp t=>
  simp only[cRes]at hc
  cases hc
  simp only[q5j]at h
  exact⟨_,by simp,hv t av h⟩
 |cell x t=>
  simp only[cRes,zob]at hc
  obtain⟨sz,h1,hc⟩:=hc
  split at hc
  ·rename_i hu
   cases hc
   simp only[q5j,zob]at h
   obtain⟨p,h2,cs,h3,h4⟩:=h
   obtain⟨b,off,h5,h6⟩:=q4i s (hv x p h2) h3
   obtain⟨v,h7,h8⟩:=qahw h1 hu.1 hu.2 h6 h4
   refine⟨v,?_,h8⟩
   simp only[Sem.run_bind]
   rw[h5]
   simp[asAddr,h7]
  ·cases hc
theorem qabd : ∀ {rs:List ResultVar} {cs:List CRes} {as:List AV},qil (cRes P N) rs=some cs→SR P Γ σ w→VE Γ w e a→qrb e σ cs=some as →
  ∃vs,(rs.mapM (fun r=>(match r with | .tmp t=>pure (a.tmps.getD t undef) | .cell x t=>do loadVar t (←asAddr (a.tmps.getD x undef)):Sem Value))).run P w = .ok vs w∧VRs Γ w as vs∧vs.length=rs.length
 | [],cs,as,hc,_,_,h=>by
  simp only[qil]at hc
  cases hc
  simp only[qrb]at h
  cases h
  exact⟨[],by simp,by simp[VRs],rfl⟩
 |r::rs,cs,as,hc,s,hv,h=>by
  simp only[qil,zob]at hc
  obtain⟨c,h1,cs',h2,hc⟩:=hc
  cases hc
  simp only[qrb,zob]at h
  obtain⟨x,h3,xs,h4,h⟩:=h
  cases h
  obtain⟨v,h5,h6⟩:=qamu h1 s hv h3
  obtain⟨vs,h7,h8,h9⟩:=qabd h2 s hv h4
  refine⟨v::vs,?_,by simp only[VRs];exact⟨v,vs,rfl,h6,h8⟩,by simp[h9]⟩
  simp only[List.mapM_cons,Sem.run_bind]
  rw[h5]
  simp only[Result.andThen_ok]
  rw[h7]
  simp
theorem q4l {fn:Func} {cs:List CRes} {as:List AV} (hc:qil (cRes P N) fn.results.toList=some cs) (s:SR P Γ σ w) (hv:VE Γ w e a) (h:qrb e σ cs=some as) :
  ∃v,(results fn a.tmps).run P w = .ok v w∧VR Γ w (ql as) v:=by
 obtain⟨vs,h1,h2,h3⟩:=qabd hc s hv h
 have hlen:=h2.length
 refine⟨if h:vs.toArray.size=1 then vs.toArray[0]else .tuple vs.toArray,?_,?_⟩
 ·unfold results
  simp only[Sem.run_bind]
  rw[Array.mapM_eq_mapM_toList]
  simp only[Sem.run_map]
  erw [h1]
  simp
 ·cases as with
  |nil=>
   have:vs=[]:=wg (by simpa using hlen)
   subst this
   simp[ql,VR,VRs]
  |cons x xs=>
   cases xs with
   |nil=>
    simp only[VRs]at h2
    obtain⟨u,us,rfl,h4,rfl⟩:=h2
    simpa[ql]using h4
   |cons y ys=>
    simp only[VRs]at h2
    obtain⟨u,us,rfl,h4,u',us',rfl,h5,h6⟩:=h2
    rw[dif_neg (by simp)]
    simp only[ql,VR,VRs]
    exact⟨_,rfl,u,_,rfl,h4,u',_,rfl,h5,h6⟩
theorem qam9 {fn:Func} {tmps:Array Value} {R:Ending→World→Prop} {σ'':qf} : ∀ {ms:List Nat} {ds:List Deferred} {σ:qf} {Γ:Ctx} {w:World},kill σ ms=some σ''→SR P Γ σ w→MR Γ ms ds →
  (∀ Γ' w',Ext Γ Γ' w w'→SR P Γ' σ'' w'→LeavesInM Fence.wide 0 P fn tmps R [] .returning w')→LeavesInM Fence.wide 0 P fn tmps R ds .returning w
 | [],ds,σ,Γ,w,h,s,hm,hR=>by
  simp only[kill]at h
  cases h
  simp only[MR]at hm
  subst hm
  exact hR Γ w (Ext.refl _ _) s
 |m::ms,ds,σ,Γ,w,h,s,hm,hR=>by
  simp only[kill]at h
  split at h
  ·rename_i hob
   simp only[MR]at hm
   obtain⟨b,ds',rfl,h1,h2,h3⟩:=hm
   have hO:=s.obj _ _ hob
   simp only[OR]at hO
   obtain⟨k1,k2,k3⟩:=hO
   have hb:=h2 k1
   subst hb
   obtain⟨Γ',s',x'⟩:=qahx s (ob:=.dead) (x:=.deferred none) h1 k2 fun Γ' _ _=>trivial
   exact⟨by simp,.inl ⟨_,_,rfl,run_takeDeferred k3,qam9 h s' (h3.mono x') fun Γ'' w'' x'' s''=>hR Γ'' w'' (x'.trans x'') s''⟩⟩
  ·cases h
theorem func_ok {O:Orc} {I:qads} (hO:qxw P O) (hR:quz P O) (hE:qaj6 P O) (hI:qae2 I) (hm:P.follows .mixedOrders=true) {h:Hints} {k:Nat} {f:CFunc} (hc:qdq P h k=some f) {args:List AV} {r:AV}
  (hr:qxf O I f args σ=some (r,σ')) {vs:List Value} (s:SR P Γ σ w) (hv:VRs Γ w args vs):qtb P (Got P Γ w r σ') ((callFunc k vs.toArray).run P w):=by
 simp only[qdq,zob]at hc
 obtain⟨fn,h1,c,h2,hc⟩:=hc
 split at hc
 ·rename_i hname
  simp only[zob]at hc
  obtain⟨⟨c',i⟩,h3,rs,h4,hc⟩:=hc
  cases hc
  rw[q22 h1 hname.1 h2]
  unfold qxf at hr
  split at hr
  ·rename_i hn
   simp only at hn
   rw[zob]at hr
   obtain⟨⟨x,e,σ1⟩,h5,hr⟩:=hr
   have hlen:=hv.length
   have hsz:(vs.toArray++Array.replicate (fn.ntmps-vs.toArray.size) undef).size=fn.ntmps:=by
    have:=hname.2
    simp;omega
   refine callsIn_of_wp_marks (F:=Fence.wide) (n:=0) h1 h2 trivial (wpIn_mono (q8i hO hR hE hI hm c h3 (l:=none) h5 (Γ:=Γ) ⟨?_,s,hsz,rfl⟩ trivial) ?_)
   ·intro t av ht
    obtain⟨j,rfl,hj⟩:=q5c ht
    obtain⟨v,h6,h7⟩:=hv.get hj
    have hlt:=(zei.1 h6).1
    have:(vs.toArray++Array.replicate (fn.ntmps-vs.toArray.size) undef).getD (0+j) undef=v:=by
     rw[Nat.zero_add,Array.getD_eq_getD_getElem?,Array.getElem?_append_left (by simpa using hlt)]
     simp[h6]
    simp only[this]
    exact h7
   ·rintro ex a' w' ⟨rfl,Γ',x',ha⟩
    have fin:(kill σ1 e.marks).bind (fun σ''=>(qrb e σ'' rs).bind fun rs=>some (qx6 σ.length (ql rs) σ''))=some (r,σ')→LeavesInM Fence.wide 0 P fn a'.tmps (qaky (Got P Γ w r σ')) a'.defers .returning w':=by
     intro hr
     rw[zob]at hr
     obtain⟨σ2,h6,hr⟩:=hr
     rw[zob]at hr
     obtain⟨as,h7,hr⟩:=hr
     refine qam9 h6 ha.sr ha.mr fun Γ2 w2 x2 s2 => ?_
     obtain⟨v,h8,h9⟩:=q4l h4 s2 (ha.ve.mono x2) h7
     refine⟨v,h8,?_⟩
     have:=qaia (x'.trans x2) s2 h9
     rw[←s.len]at this
     injection hr with hr
     rw[hr]at this
     exact this
    cases x with
    |normal=>exact fin hr
    |ret=>exact fin hr
    |exit id=>cases hr
  ·cases hr
 ·cases hc
theorem q5m : ∀ {ps:List Nat} {args:List AV} {vs:List Value} {e e1:Env} {tmps:Array Value},qsj e ps args=some e1→VRs Γ w args vs→qamh Γ w e.vars tmps→(∀p∈ps,p<tmps.size) →
  e1.marks=e.marks∧vs.length=ps.length∧((ps.zip vs).foldl (fun t (p,v)=>t.setIfInBounds p v) tmps).size=tmps.size∧qamh Γ w e1.vars ((ps.zip vs).foldl (fun t (p,v)=>t.setIfInBounds p v) tmps)
 | [],[],vs,e,e1,tmps,h,hv,he,_=>by
  simp only[qsj]at h
  cases h
  simp only[VRs]at hv
  subst hv
  exact⟨rfl,rfl,rfl,he⟩
 |p::ps,x::args,vs,e,e1,tmps,h,hv,he,hp=>by
  simp only[qsj]at h
  simp only[VRs]at hv
  obtain⟨u,us,rfl,h1,h2⟩:=hv
  have hpl:=hp p (by simp)
  obtain⟨k1,k2,k3,k4⟩:=q5m (tmps:=tmps.setIfInBounds p u) h h2 (fun t av ht=>by
   simp only[Env.set,look]at ht
   split at ht
   ·rename_i hpt
    subst hpt
    cases ht
    simpa[hpl]using h1
   ·rename_i hpt
    have:=he t av ht
    rwa[Array.getD_eq_getD_getElem?,Array.getElem?_setIfInBounds_ne hpt,←Array.getD_eq_getD_getElem?]) (fun q hq=>by simpa using hp q (by simp[hq]))
  refine⟨k1.trans (marks_set e _ _),by simp[k2],?_,by simpa using k4⟩
  simpa using k3
 | [],_ :: _,_,_,_,_,h,_,_,_=>by simp[qsj]at h
 | _ :: _,[],_,_,_,_,h,_,_,_=>by simp[qsj]at h
theorem round_ok {O:Orc} {I:qads} (hO:qxw P O) (hR:quz P O) (hE:qaj6 P O) (hI:qae2 I) (hm:P.follows .mixedOrders=true) {l b:Nat} {args:List AV} {r:AV}
  (hr:qxb O I l args σ=some (r,σ')) {vs:List Value} (s:SR P Γ σ w) (hv:VRs Γ w args vs) (hl:l<Γ.n) (hb:(Γ.loc l).g=0→b=(Γ.loc l).b):qtb P (Got P Γ w r σ') ((Instr.yield b vs.toArray).run P w):=by
 unfold qxb at hr
 split at hr
 ·rename_i e ps as body hob
  simp only[zob]at hr
  obtain⟨e1,h1,⟨x,e2,σ2⟩,h2,hr⟩:=hr
  have hOb:=s.obj _ _ hob
  simp only[OR]at hOb
  obtain⟨k1,k2,rec,k3,k4,k5,k6,⟨ha,ia,ja,k7⟩,⟨hb',ib,jb,k8⟩,k9,k10⟩:=hOb
  obtain rfl:=hb k1
  obtain⟨m1,m2,m3,m4⟩:=q5m h1 hv k9 k10
  have hzip:(rec.params.zip vs.toArray).foldl (fun t (p,v)=>t.setIfInBounds p v) rec.tmps=(ps.zip vs).foldl (fun t (p,v)=>t.setIfInBounds p v) rec.tmps:=by
   rw[k6];simp
  have hy:=run_yield (P:=P) (args:=vs.toArray) k3 (by rw[k6];simpa using m2)
  rw[hy]
  simp only at hr
  split at hr
  ·rename_i hx
   subst hx
   split at hr
   ·rename_i env' ps' as' body' hob2
    simp only[zob]at hr
    obtain⟨⟨x,e3,σ3⟩,h3,hr⟩:=hr
    refine roundIn_of_wpIn (F:=Fence.wide) trivial (wpIn_mono (q8i hO hR hE hI hm rec.assign k7 (l:=some (Γ.loc l).b) h2 (Γ:=Γ) (w:=w) ⟨?_,s,?_,?_⟩ ⟨hl,fun _=>rfl⟩) ?_)
    ·intro t av ht
     have:=m4 t av ht
     rw[←hzip]at this
     exact this
    ·show ((rec.params.zip vs.toArray).foldl _ rec.tmps).size = _
     rw[hzip];exact m3
    ·rw[m1];rfl
    ·rintro ex a1 w1 ⟨rfl,Γ1,x1,ha1⟩
     have hO1:=ha1.sr.obj _ _ hob2
     simp only[OR]at hO1
     obtain⟨q1,q2,rec2,q3,q4,q5,q6,q7,q8,q9,q10⟩:=hO1
     have hloc1:=qacn x1 hl q1
     obtain⟨Γ2,s2,x2⟩:=qahx ha1.sr (o:=l) (ob:=.loop env' ps' as' body' .busy none) (x:=.loop { rec2 with state:=.busy }) (wc hl x1.n) q2 (by
      intro Γ2 hl2 x2
      simp only[OR]
      rw[hl2]
      exact⟨q1,q2,_,World.putObj_heap_same (Array.getElem?_eq_some_iff.1 q3).1,rfl,q5,q6,q7,q8,fun t av ht=>VR.mono x2 _ _ (q9 t av ht),q10⟩)
     rw[hloc1]at q3 s2 x2
     refine⟨_,run_beginRound q3 q4,?_⟩
     have x12:=x1.trans x2
     refine wpIn_mono (q8i hO hR hE hI hm rec.body k8 (l:=some (Γ.loc l).b) h3 (Γ:=Γ2) ⟨ha1.ve.mono x2,s2,ha1.sz,ha1.mr.mono x2⟩ (RoOk.mono (ro:=some l) (l:=some (Γ.loc l).b) x12 ⟨hl,fun _=>rfl⟩)) ?_
     rintro ex a3 w3 ⟨rfl,Γ3,x3,ha3⟩
     have x13:=x12.trans x3
     simp only at hr
     split at hr
     ·rename_i env3 ps3 as3 body3 hob3
      have hO3:=ha3.sr.obj _ _ hob3
      simp only[OR]at hO3
      obtain⟨u1,u2,rec3,u3,u4,u5,u6,u7,u8,u9,u10⟩:=hO3
      have hloc3:=qacn x13 hl u1
      have fin : ∀(st:LoopState) (pe:Option (Option Nat)) (t:Bool),(r,σ')=qx6 σ.length (.v (.bool t)) (σ3.set l (.loop env3 ps3 as3 body3 st pe)) →
        (Instr.endRound (Γ.loc l).b (q2n pe)).run P w3 = .ok (.bool t) (w3.putObj (Γ.loc l).b (.loop { rec3 with state:=st,pending:=q2n pe })) →
        ∃v w',(Instr.endRound (Γ.loc l).b (q2n pe)).run P w3 = .ok v w'∧qaky (Got P Γ w r σ') (.returned v) w':=by
       intro st pe t hr hrun
       obtain⟨Γ4,s4,x4⟩:=qahx ha3.sr (o:=l) (ob:=.loop env3 ps3 as3 body3 st pe) (x:=.loop { rec3 with state:=st,pending:=q2n pe }) (wc hl x13.n) u2 (by
        intro Γ4 hl4 x4
        simp only[OR]
        rw[hl4]
        exact⟨u1,u2,_,World.putObj_heap_same (Array.getElem?_eq_some_iff.1 u3).1,rfl,rfl,u6,u7,u8,fun t av ht=>VR.mono x4 _ _ (u9 t av ht),u10⟩)
       rw[hloc3]at s4 x4
       refine⟨_,_,hrun,?_⟩
       have:=qaia (av:=.v (.bool t)) (v:=.bool t) (x13.trans x4) s4 (by simp only[VR])
       rw[←s.len,←hr]at this
       exact this
      rw[hloc3]at u3
      cases x with
      |normal=>
       refine fin .ready none true ?_ (run_endRound none u3)
       injection hr with hr;exact hr.symm
      |ret=>
       refine fin .done (some none) false ?_ (run_endRound (some .ret) u3)
       injection hr with hr;exact hr.symm
      |exit id=>
       refine fin .done (some (some id)) false ?_ (run_endRound (some (.exit id)) u3)
       injection hr with hr;exact hr.symm
     ·cases hr
   ·cases hr
  ·cases hr
 ·cases hr
def ExtOk (P:Program) (k:Nat) (F:List AV→Option (AV×qf)):Prop:=∀args r τ,los 0 args=true→F args=some (r,τ) → ∀ Γ w vs,SR P Γ [] w→VRs Γ w args vs→qtb P (Got P Γ w r τ) ((callFunc k vs.toArray).run P w)
def InsOk (P:Program) (k:Nat) (F:List AV→qf→Option (AV×qf)):Prop:=∀args σ r σ',F args σ=some (r,σ') → ∀ Γ w vs,SR P Γ σ w→VRs Γ w args vs→qtb P (Got P Γ w r σ') ((callFunc k vs.toArray).run P w)
structure TabOk (P:Program) (T:Tab):Prop where
 code : ∀k f,T.code k=some f → ∃h,qdq P h k=some f
 ext : ∀k F,T.ext k=some F→ExtOk P k F
 ins : ∀k p,T.ins k=some p→InsOk P k (insF p.1 p.2)
 mixed:P.follows .mixedOrders=true
theorem TabOk.enter {T:Tab} (hT:TabOk P T) {k:Nat} {f:CFunc} (h:T.code k=some f) (vs:Array Value) (w:World):(callFunc k vs).run P w = .ok (.enter k vs) w:=by
 obtain⟨h,hc⟩:=hT.code k f h
 simp only[qdq,zob]at hc
 obtain⟨fn,h1,c,h2,hc⟩:=hc
 split at hc
 ·rename_i hname;exact q22 h1 hname.1 h2 vs w
 ·cases hc
theorem evF_ok {T:Tab} (hT:TabOk P T) : ∀n,qxw P (evF T n)∧quz P (evF T n)∧qaj6 P (evF T n)
 | 0=>⟨fun k args σ r σ' h=>by simp[evF]at h,fun l args σ r σ' h=>by simp[evF]at h,fun k _ args σ r h=>by simp[evF]at h⟩
 |n+1=>by
  obtain⟨hO,hR,hE⟩:=evF_ok hT n
  refine⟨fun k args σ r σ' h Γ w vs s hv => ?_,fun l args σ r σ' h Γ w b vs s hv hl hb => ?_,fun k hk args σ r h vs w => ?_⟩
  ·simp only[evF]at h
   split at h
   ·rename_i F hF
    split at h
    ·rename_i hlo
     obtain⟨hlo,rfl⟩:=hlo
     exact hT.ext k F hF args _ _ hlo h Γ w vs s hv
    ·cases h
   ·split at h
    ·rename_i p hp
     exact hT.ins k p hp args σ _ _ h Γ w vs s hv
    ·rw[zob]at h
     obtain⟨f,h1,h⟩:=h
     obtain⟨hh,hc⟩:=hT.code k f h1
     exact func_ok hO hR hE (q6z n) hT.mixed hc h s hv
  ·simp only[evF]at h
   exact round_ok hO hR hE (q6z n) hT.mixed h s hv hl hb
  ·simp only[evF]at hk h
   split at h
   ·rename_i F hF
    rw[hF]at hk;simp at hk
   ·split at h
    ·rename_i p hp
     rw[hp]at hk;simp at hk
    ·rw[zob]at h
     obtain⟨f,h1,_⟩:=h
     exact hT.enter h1 vs w
end Go.Ev
