/- For every input the statement of this claim returns true: texts of its proof, joined (part 4). -/
import Derived.Test.YtfdoelhnnmcppaaGreatET2
set_option linter.unusedSectionVars false
set_option linter.unusedSimpArgs false
set_option linter.unusedVariables false
open Bool renaming false_eq_true → wa, and_eq_true → we
open Option renaming bind_some → wb
open Nat renaming not_lt_zero → wc, le_refl → wd
namespace Go.Ev
structure Cont {α:Type} (F:Nat→Option α) (L:Option α):Prop where
 up : ∀n r,F n=some r→F (n+1)=some r
 lim : ∀r,L=some r ↔ ∃n,F n=some r
theorem Cont.le {α:Type} {F:Nat→Option α} {L:Option α} (h:Cont F L) {r:α} : ∀ {m n:Nat},m≤n→F m=some r→F n=some r:=fun {m n} hmn hr=>by
 induction hmn with
 |refl=>exact hr
 |step _ ih=>exact h.up _ _ ih
theorem Cont.const {α:Type} (x:Option α):Cont (fun _=>x) x:=⟨fun _ _ h=>h,fun _=>⟨fun h=>⟨0,h⟩,fun⟨_,h⟩=>h⟩⟩
theorem Cont.bind {α β:Type} {F:Nat→Option α} {L:Option α} {G:Nat→α→Option β} {K:α→Option β} (h:Cont F L) (k : ∀a,Cont (fun n=>G n a) (K a)):Cont (fun n=>(F n).bind (G n)) (L.bind K) where
 up n r hr:=by
  rw[zob]at hr⊢
  obtain⟨a,h1,h2⟩:=hr
  exact⟨a,h.up n a h1,(k a).up n r h2⟩
 lim r:=by
  rw[zob]
  constructor
  ·rintro⟨a,h1,h2⟩
   obtain⟨n,h3⟩:=(h.lim a).1 h1
   obtain⟨m,h4⟩:=((k a).lim r).1 h2
   exact⟨max n m,by rw[zob];exact⟨a,h.le (Nat.le_max_left _ _) h3,(k a).le (Nat.le_max_right _ _) h4⟩⟩
  ·rintro⟨n,hn⟩
   rw[zob]at hn
   obtain⟨a,h1,h2⟩:=hn
   exact⟨a,(h.lim a).2 ⟨n,h1⟩,((k a).lim r).2 ⟨n,h2⟩⟩
theorem Cont.unique {α:Type} {F:Nat→Option α} {L L':Option α} (h:Cont F L) (k:Cont F L'):L=L':=by
 cases hL:L with
 |some r=>exact((k.lim r).2 ((h.lim r).1 hL)).symm
 |none=>
  cases hL':L' with
  |none=>rfl
  |some r=>
   have:=(h.lim r).2 ((k.lim r).1 hL')
   rw[hL]at this;cases this
theorem Cont.shift {α:Type} {F:Nat→Option α} {L:Option α} (h:Cont F L):Cont (fun n=>F (n+1)) L where
 up n:=h.up (n+1)
 lim r:=by
  rw[h.lim r]
  exact⟨fun⟨n,hn⟩=>⟨n,h.up n r hn⟩,fun⟨n,hn⟩=>⟨n+1,hn⟩⟩
theorem Cont.two {α:Type} {x y:Option α} (h : ∀r,x=some r→y=some r):Cont (fun n=>if n=0 then x else y) y where
 up n r hr:=by
  by_cases hn:n=0
  ·subst hn;simp at hr ⊢;exact h r hr
  ·simp[hn]at hr ⊢;exact hr
 lim r:=⟨fun hr=>⟨1,by simpa using hr⟩,fun⟨n,hn⟩=>by
  by_cases h0:n=0
  ·subst h0;simp at hn;exact h r hn
  ·simpa[h0]using hn⟩
structure OrcC (On:Nat→Orc) (O:Orc):Prop where
 call : ∀k as σ,Cont (fun n=>(On n).call k as σ) (O.call k as σ)
 round : ∀l as σ,Cont (fun n=>(On n).round l as σ) (O.round l as σ)
 ent : ∀n k,(On n).ent k=O.ent k
def qajf (In:Nat→qads) (I:qads):Prop:=∀(fn:Nat→Env→qf→R3) f s e σ,(∀e σ,Cont (fun n=>fn n e σ) (f e σ))→Cont (fun n=>In n (fn n) s e σ) (I f s e σ)
variable {On:Nat→Orc} {O:Orc} {In:Nat→qads} {I:qads}
theorem OrcC.item (h:OrcC On O) (e:Env) (σ:qf) (it:Item'):Cont (fun n=>qae (On n) e σ it) (qae O e σ it):=by
 cases it with
 |op o=>exact .const _
 |callP k args=>
  simp only[qae]
  refine .bind (.const _) fun as => ?_
  split
  ·exact .bind (h.call _ _ _) fun _ => .const _
  ·exact .const _
 |callA k args=>
  simp only[qae]
  refine .bind (.const _) fun as => ?_
  split
  ·exact .bind (h.call _ _ _) fun _ => .const _
  ·exact .const _
 |callI k args=>
  simp only[qae]
  exact .bind (.const _) fun as=>h.call _ _ _
 |callF k args=>
  simp only[qae]
  refine .bind (.const _) fun as => .bind (.const _) fun x => ?_
  split
  ·exact .bind (h.call _ _ _) fun _ => .const _
  ·exact .const _
 |callR k args=>
  simp only[qae]
  exact .bind (.const _) fun as => .bind (h.call _ _ _) fun _ => .const _
 |callH k args pos=>
  simp only[qae]
  refine .bind (.const _) fun as => ?_
  split
  ·exact .bind (h.call _ _ _) fun _ => .const _
  ·exact .const _
 |callv f args=>
  simp only[qae]
  refine .bind (.const _) fun g => .bind (.const _) fun as => ?_
  split
  ·exact h.call _ _ _
  ·exact h.round _ _ _
  ·exact .const _
 |callK f args b off sz=>
  simp only[qae]
  refine .bind (.const _) fun g => .bind (.const _) fun as => ?_
  split
  ·exact .bind (h.call _ _ _) fun _ => .const _
  ·exact .const _
theorem OrcC.oper (h:OrcC On O) (e:Env) (σ:qf) (o:COper):Cont (fun n=>qgy (On n) e σ o) (qgy O e σ o):=by
 simp only[qgy]
 split
 ·exact .bind (h.item _ _ _) fun _ => .const _
 ·refine .bind (.const _) fun b => ?_
  split
  ·split
   ·exact .bind (h.item _ _ _) fun _ => .const _
   ·exact .const _
  ·exact .const _
  ·exact .const _
theorem OrcC.opers (h:OrcC On O) : ∀(l:List COper) (e:Env) (σ:qf),Cont (fun n=>qah (On n) l e σ) (qah O l e σ)
 | [],_,_ => .const _
 |o::l,e,σ=>by
  simp only[qah]
  exact .bind (h.oper _ _ _) fun x=>OrcC.opers h l _ _
theorem OrcC.range (h:OrcC On O) (k:Nat) (first cap:List AV) (e1:Env) (σ:qf) (lp:SObj):Cont (fun n=>qw4 (On n) k first cap e1 σ lp) (qw4 O k first cap e1 σ lp):=by
 simp only[qw4,h.ent]
 split
 ·exact .bind (h.call _ _ _) fun _ => .const _
 ·exact .const _
theorem OrcC.exec (h:OrcC On O) (hI:qajf In I) : ∀(c:CCode) (ro:Option Nat) (e:Env) (σ:qf),Cont (fun n=>Ev.exec (On n) (In n) ro c e σ) (Ev.exec O I ro c e σ):=by
 intro c
 induction c with
 |skip=>intro ro e σ;exact .const _
 |region ops=>intro ro e σ;simp only[Ev.exec];exact .bind (h.opers _ _ _) fun _ => .const _
 |seq a b iha ihb=>
  intro ro e σ
  simp only[Ev.exec]
  refine .bind (iha _ _ _) fun x => ?_
  obtain⟨x,e',σ'⟩:=x
  cases x
  ·exact ihb _ _ _
  ·exact .const _
  ·exact .const _
 |cond c a b iha ihb=>
  intro ro e σ
  simp only[Ev.exec]
  refine .bind (.const _) fun t => ?_
  split
  ·split
   ·exact iha _ _ _
   ·exact ihb _ _ _
  ·exact .const _
 |block id c ih=>intro ro e σ;simp only[Ev.exec];exact .bind (ih _ _ _) fun _ => .const _
 |loop live trim c ih=>intro ro e σ;simp only[Ev.exec];exact hI _ _ _ _ _ fun e σ=>ih _ _ _
 |rangeFunc f live params as body _ _=>
  intro ro e σ
  simp only[Ev.exec]
  refine .bind (.const _) fun g => ?_
  split
  ·split
   ·exact h.range _ _ _ _ _ _
   ·split
    ·exact h.range _ _ _ _ _ _
    ·exact .const _
  ·exact .const _
 |exit id=>intro ro e σ;exact .const _
 |ret=>intro ro e σ;exact .const _
 |ice t c ih=>intro ro e σ;simp only[Ev.exec];exact .bind (.const _) fun x=>ih _ _ _
theorem OrcC.func (h:OrcC On O) (hI:qajf In I) (f:CFunc) (args:List AV) (σ:qf):Cont (fun n=>qxf (On n) (In n) f args σ) (qxf O I f args σ):=by
 simp only[qxf]
 split
 ·exact .bind (h.exec hI _ _ _ _) fun _ => .const _
 ·exact .const _
theorem OrcC.rnd (h:OrcC On O) (hI:qajf In I) (l:Nat) (args:List AV) (σ:qf):Cont (fun n=>qxb (On n) (In n) l args σ) (qxb O I l args σ):=by
 simp only[qxb]
 split
 ·refine .bind (.const _) fun e1 => .bind (h.exec hI _ _ _ _) fun x => ?_
  split
  ·split
   ·exact .bind (h.exec hI _ _ _ _) fun _ => .const _
   ·exact .const _
  ·exact .const _
 ·exact .const _
theorem qwg {fn:Nat→Env→qf→R3} {f:Env→qf→R3} {s:Env→qf→Option (Env×qf)} (h : ∀e σ,Cont (fun n=>fn n e σ) (f e σ)) : ∀(m:Nat) (e:Env) (σ:qf),Cont (fun n=>qs7 m (fn n) s e σ) (qs7 m f s e σ)
 | 0,_,_ => .const _
 |m+1,e,σ=>by
  simp only[qs7]
  refine .bind (.const _) fun x => .bind (h _ _) fun y => ?_
  obtain⟨y,e2,σ2⟩:=y
  cases y
  ·exact qwg h m _ _
  ·exact .const _
  ·exact .const _
theorem q7a {f:Env→qf→R3} {s:Env→qf→Option (Env×qf)} : ∀ {m:Nat} {e:Env} {σ:qf} {r:CExit×Env×qf},qs7 m f s e σ=some r→qs7 (m+1) f s e σ=some r
 | 0,e,σ,r,h=>by simp[qs7]at h
 |m+1,e,σ,r,h=>by
  rw[qs7]at h⊢
  simp only[zob]at h⊢
  obtain⟨x,h1,y,h2,h⟩:=h
  refine⟨x,h1,y,h2,?_⟩
  obtain⟨y,e2,σ2⟩:=y
  cases y
  ·exact q7a h
  ·exact h
  ·exact h
theorem qah1 {f:Env→qf→R3} {s:Env→qf→Option (Env×qf)} {m m':Nat} (hm:m≤m') {e:Env} {σ:qf} {r:CExit×Env×qf} (h:qs7 m f s e σ=some r):qs7 m' f s e σ=some r:=by
 induction hm with
 |refl=>exact h
 |step _ ih=>exact q7a ih
noncomputable def lim {α:Type} (f:Nat→Option α):Option α:=open Classical in if h : ∃n r,f n=some r then f (Classical.choose h)else none
theorem qacl {α:Type} {f:Nat→Option α} (up : ∀n r,f n=some r→f (n+1)=some r):Cont f (lim f) where
 up:=up
 lim r:=by
  have le : ∀ {m n:Nat} {r:α},m≤n→f m=some r→f n=some r:=fun {m n r} hmn hr=>by
   induction hmn with
   |refl=>exact hr
   |step _ ih=>exact up _ _ ih
  unfold lim
  constructor
  ·intro h
   split at h
   ·exact⟨_,h⟩
   ·cases h
  ·rintro⟨n,hn⟩
   have hex : ∃n r,f n=some r:=⟨n,r,hn⟩
   rw[dif_pos hex]
   obtain⟨r',hr'⟩:=Classical.choose_spec hex
   rcases Nat.le_total n (Classical.choose hex)with h|h
   ·exact le h hn
   ·rw[hr']
    have:=le h hr'
    rw[hn]at this
    exact this.symm
noncomputable def itL:qads:=fun f s e σ=>lim fun m=>qs7 m f s e σ
theorem q7d (f:Env→qf→R3) (s:Env→qf→Option (Env×qf)) (e:Env) (σ:qf):Cont (fun m=>qs7 m f s e σ) (itL f s e σ):=qacl fun _ _ h=>q7a h
theorem q71 {c:Nat→Nat} (hc : ∀n,c n≤c (n+1)) (hI : ∀f s e σ r,I f s e σ=some r ↔ ∃n,qs7 (c n) f s e σ=some r):qajf (fun n=>qs7 (c n)) I:=by
 intro fn f s e σ h
 have mono : ∀ {n n':Nat},n≤n'→c n≤c n':=fun {n n'} hn=>by
  induction hn with
  |refl=>exact wd _
  |step _ ih=>exact Nat.le_trans ih (hc _)
 refine⟨fun n r hr=>qah1 (hc n) ((qwg h (c n) e σ).up n r hr),fun r => ?_⟩
 rw[hI]
 constructor
 ·rintro⟨m,hm⟩
  obtain⟨n,hn⟩:=((qwg h (c m) e σ).lim r).1 hm
  exact⟨max m n,qah1 (mono (Nat.le_max_left _ _)) ((qwg h (c m) e σ).le (Nat.le_max_right _ _) hn)⟩
 ·rintro⟨n,hn⟩
  exact⟨n,((qwg h (c n) e σ).lim r).2 ⟨n,hn⟩⟩
theorem qald:qajf qs7 itL:=q71 (c:=id) (fun _=>Nat.le_succ _) fun f s e σ r=>(q7d f s e σ).lim r
theorem itL_ok:qae2 itL:=fun f s e σ r h=>by
 obtain⟨n,hn⟩:=((q7d f s e σ).lim r).1 h
 exact q6z n f s e σ r hn
theorem itL_eq (f:Env→qf→R3) (s:Env→qf→Option (Env×qf)) (e:Env) (σ:qf) :
  itL f s e σ=(s e σ).bind fun x=>(f x.1 x.2).bind fun y=>match y.1 with | .normal=>itL f s y.2.1 y.2.2 | .exit id=>some (.exit id,y.2) | .ret=>some (.ret,y.2):=by
 refine Cont.unique (q7d f s e σ).shift ?_
 simp only[qs7]
 refine .bind (.const _) fun x => .bind (.const _) fun y => ?_
 obtain⟨y,e2,σ2⟩:=y
 cases y
 ·exact q7d f s _ _
 ·exact .const _
 ·exact .const _
variable {T:Tab}
theorem qalc : ∀n,(∀k as σ r,(evF T n).call k as σ=some r→(evF T (n+1)).call k as σ=some r)∧(∀l as σ r,(evF T n).round l as σ=some r→(evF T (n+1)).round l as σ=some r)
 | 0=>⟨fun k as σ r h=>by simp[evF]at h,fun l as σ r h=>by simp[evF]at h⟩
 |n+1=>by
  obtain⟨h1,h2⟩:=qalc n
  have hO:OrcC (fun i=>if i=0 then evF T n else evF T (n+1)) (evF T (n+1)):=by
   refine⟨fun k as σ => ?_,fun l as σ => ?_,fun i k => ?_⟩
   ·have:=Cont.two (h1 k as σ)
    refine⟨fun i r hr => ?_,fun r => ?_⟩
    ·by_cases hi:i=0
     ·subst hi;simp at hr ⊢;exact h1 _ _ _ _ hr
     ·simp[hi]at hr ⊢;exact hr
    ·rw[this.lim r]
     constructor
     ·rintro⟨i,hi⟩;exact⟨i,by by_cases h0:i=0<;>simpa[h0]using hi⟩
     ·rintro⟨i,hi⟩;exact⟨i,by by_cases h0:i=0<;>simpa[h0]using hi⟩
   ·have:=Cont.two (h2 l as σ)
    refine⟨fun i r hr => ?_,fun r => ?_⟩
    ·by_cases hi:i=0
     ·subst hi;simp at hr ⊢;exact h2 _ _ _ _ hr
     ·simp[hi]at hr ⊢;exact hr
    ·rw[this.lim r]
     constructor
     ·rintro⟨i,hi⟩;exact⟨i,by by_cases h0:i=0<;>simpa[h0]using hi⟩
     ·rintro⟨i,hi⟩;exact⟨i,by by_cases h0:i=0<;>simpa[h0]using hi⟩
   ·have : ∀n,(evF T n).ent=fun k=>(T.ext k).isNone&&(T.ins k).isNone:=fun n=>by cases n<;>rfl
    by_cases hi:i=0<;>simp[hi,this]
  have hI:qajf (fun i=>qs7 (if i=0 then n else n+1)) (qs7 (n+1)):=q71 (fun i=>by by_cases hi:i=0<;>simp[hi]) fun f s e σ r=>
   ⟨fun h=>⟨1,by simpa using h⟩,fun⟨i,hi⟩=>by
    by_cases h0:i=0
    ·subst h0;simp at hi;exact q7a hi
    ·simpa[h0]using hi⟩
  refine⟨fun k as σ r h => ?_,fun l as σ r h => ?_⟩
  ·rw[evF]at h⊢
   simp only at h⊢
   split at h
   ·exact h
   ·split at h
    ·exact h
    ·rw[zob]at h⊢
     obtain⟨f,h3,h4⟩:=h
     exact⟨f,h3,(hO.func hI f as σ).up 0 r h4⟩
  ·rw[evF]at h⊢
   exact(hO.rnd hI l as σ).up 0 r h
noncomputable def evL (T:Tab):Orc:=⟨fun k as σ=>lim fun n=>(evF T n).call k as σ,fun l as σ=>lim fun n=>(evF T n).round l as σ,fun k=>(T.ext k).isNone&&(T.ins k).isNone⟩
theorem q2g:OrcC (evF T) (evL T):=⟨fun k as σ=>qacl fun n r h=>(qalc n).1 k as σ r h,fun l as σ=>qacl fun n r h=>(qalc n).2 l as σ r h,fun n k=>by cases n<;>rfl⟩
theorem qg {k:Nat} {f:CFunc} (hx:T.ext k=none∧T.ins k=none) (hc:T.code k=some f) (args:List AV) (σ:qf):(evL T).call k args σ=qxf (evL T) itL f args σ:=by
 refine Cont.unique (q2g.call k args σ).shift ?_
 simp only[evF,hx.1,hx.2,hc,wb]
 exact q2g.func qald f args σ
theorem q4g {k:Nat} {F:List AV→Option (AV×qf)} (hx:T.ext k=some F) (args:List AV) (σ:qf):(evL T).call k args σ=if los 0 args=true∧σ=[]then F args else none:=by
 refine Cont.unique (q2g.call k args σ).shift ?_
 simp only[evF,hx]
 exact .const _
theorem evL_ok {P:Program} (hT:TabOk P T):qxw P (evL T):=fun k args σ r σ' h Γ w vs s hv=>by
 obtain⟨n,hn⟩:=((q2g.call k args σ).lim (r,σ')).1 h
 exact(evF_ok hT n).1 k args σ r σ' hn Γ w vs s hv
end Go.Ev
namespace Go.Ev
open Go.RowKit (Below)
variable {P:Program} {Γ Γ':Ctx} {w w':World} {σ σ':qf} {e e':Env} {a a':Act} {av:AV} {N:Nat}
def qqp (sz bytes:Nat):List AV→Option (AV×qf)
 | [.fsl es _]=>if 0<sz∧qdk sz es=true∧es.length*bytes≤2^47 then some (.sl 0 0 0 es.length false,[.row sz es 0])else none
 | _=>none
structure CloneParts where
 fn:Func
 t:TypeId
 el:TypeId
 r0:Code
 i1:Nat
 o3:Oper
 o4:Oper
 y:TypeId
 A:Code
 B:Code
def qyp (P:Program) (k:Nat):Option CloneParts:=
 (P.funcs[k]?).bind fun fn=>
 match fn.body with
 |some (.seq r0 (.seq (.seq (.region i1 ops false) (.cond (.tmp 4) A .skip)) B))=>
  match ops.toList with
  | [o3,o4]=>
   match o4.op with
   | .binOp .eql t (.tmp 3) (.const (.slice none 0 0)) y=>
    match P.underlying t with
    |some (.slice el)=>some ⟨fn,t,el,r0,i1,o3,o4,y,A,B⟩
    | _=>none
   | _=>none
  | _=>none
 | _=>none
def qal7:List ResultVar→Bool
 | [.tmp 2]=>true
 | _=>false
def qtm (P:Program) (k:Nat):Option (Nat×Nat):=
 (qyp P k).bind fun p=>
 if (p.fn.name == "runtime.NumGoroutine") = false ∧ p.fn.params.size + p.fn.nfree = 1 ∧ p.fn.ntmps = 8 ∧ qal7 p.fn.results.toList = true ∧ p.o4.dst = some 4 ∧ p.o4.guard = none then
  match qla P {} 8 p.r0 0,q8m P {} 8 #[] p.o3,qla P {} 8 p.A 0,qla P { appN:=[7] } 8 p.B 0 with
  |some (.region [⟨some 2,none,.op (.mv (.c (.fsl [] true)))⟩],_),some ⟨some 3,none,.op (.mv (.t 0))⟩,some (.seq (.region [⟨some 2,none,.op (.mv (.c (.fsl [] true)))⟩]) .ret,_),
   some (.seq (.region [⟨some 5,none,.op (.bslF z 0 [])⟩,⟨some 6,none,.op (.mv (.t 0))⟩,⟨some 7,none,.op (.appN sz bytes (.t 5) (.t 6))⟩,⟨some 2,none,.op (.mv (.t 7))⟩]) .ret,_)=>
   if z ≠ []then some (sz,bytes)else none
  | _,_,_,_=>none
 else none
def qyq:Orc:=⟨fun _ _ _=>none,fun _ _ _=>none,fun _=>false⟩
theorem qub:qxw P qyq:=fun k args σ r σ' h=>by cases h
theorem qsf:quz P qyq:=fun k args σ r σ' h=>by cases h
theorem q8l:qaj6 P qyq:=fun k h=>by cases h
theorem qaly {t el:TypeId} {A:Option Addr} {n c:Nat} {x y:Operand} (ht:P.underlying t=some (.slice el)) :
  (do eqGuard .eql t x y (.slice A n c) (.slice none 0 0);binOp .eql t (.slice A n c) (.slice none 0 0):Sem Value).run P w = .ok (.bool A.isNone) w:=by
 have hg:(eqGuard .eql t x y (.slice A n c) (.slice none 0 0)).run P w = .ok () w:=by unfold eqGuard;simp
 have he:(Op.equal t (.slice A n c) (.slice none 0 0)).run P w = .ok A.isNone w:=by
  unfold Op.equal
  rw[show Op.maxDepth=9999+1 from rfl]
  unfold Op.equalIn
  simp only[Sem.run_bind,run_underlying ht,Result.andThen_ok]
  cases A<;>simp
 simp only[Sem.run_bind,hg,Result.andThen_ok]
 unfold binOp
 simp[he]
theorem own_empty {v:Value} {c:Bool} {sz:Nat} (s:SR P Γ [] w) (h0:0<sz) (hv:VR Γ w (.fsl [] c) v) (hc:v = .slice none 0 0∨c=true) {Γ0:Ctx} {w0:World} (x:Ext Γ0 Γ w0 w):Got P Γ0 w0 (.sl 0 0 0 0 false) [.row sz [] 0] v w:=by
 have hx:=Ext.push (Γ:=Γ) (Below.refl w.heap.size w) ⟨0,0,sz,0⟩ fun h=>absurd rfl h
 have hn:Γ.n=0:=by rw[←s.len];rfl
 have hs:=s.push (Below.refl w.heap.size w) ⟨0,0,sz,0⟩ (ob:=.row sz [] 0) (fun h=>absurd rfl h) (by
  simp only[OR,Ctx.push_new]
  exact⟨trivial,trivial,h0,wd _,by simp,.inl trivial⟩)
 refine⟨_,?_,by simpa using hs,x.trans hx⟩
 simp only[VR]at hv⊢
 have hl:(Γ.push ⟨0,0,sz,0⟩).loc 0=⟨0,0,sz,0⟩:=by have:=Γ.push_new ⟨0,0,sz,0⟩;rwa[hn]at this
 rw[hl]
 obtain⟨A,cap,rfl,h1,h2,_⟩:=hv
 rcases hc with hc|hc
 ·cases hc
  exact⟨none,0,rfl,wd _,fun _=>rfl,by simp[Ctx.push],wd _,fun _=>⟨wd _,.inl rfl⟩⟩
 ·have:=h2 hc
  simp at this
  subst this
  exact⟨A,0,rfl,wd _,fun _=>rfl,by simp[Ctx.push],wd _,fun _=>⟨wd _,.inl rfl⟩⟩
theorem qanq {h:Hints} {n:Nat} {ops ops':Array Oper} {o:Oper} {c:COper} (hc:q8m P h n ops o=some c) (hg:c.guard=none):q8m P h n ops' o=some c:=by
 obtain⟨h1,h2,h3,h4⟩:=q08 hc
 rcases h4 with ⟨h4,_⟩|⟨j,want,t,_,h5,_⟩
 ·unfold q8m
  rw[if_pos h1,h3,h4]
  obtain⟨d,g,it⟩:=c
  simp only at h2 hg
  simp[h2,hg]
 ·rw[hg]at h5;cases h5
theorem q48 {k:Nat} {p:CloneParts} (h:qyp P k=some p):P.funcs[k]? = some p.fn∧(∃ops,p.fn.body=some (.seq p.r0 (.seq (.seq (.region p.i1 ops false) (.cond (.tmp 4) p.A .skip)) p.B))∧ops.toList=[p.o3,p.o4]) ∧
  p.o4.op = .binOp .eql p.t (.tmp 3) (.const (.slice none 0 0)) p.y∧P.underlying p.t=some (.slice p.el):=by
 unfold qyp at h
 rw[zob]at h
 obtain⟨fn,h1,h⟩:=h
 split at h
 ·rename_i r0 i1 ops A B hb
  split at h
  ·rename_i o3 o4 ho
   split at h
   ·rename_i t y hop
    split at h
    ·rename_i el hu
     cases h
     exact⟨h1,⟨ops,hb,ho⟩,hop,hu⟩
    ·cases h
   ·cases h
  ·cases h
 ·cases h
theorem clone_ok {k sz bytes : Nat} (hm : P.follows .mixedOrders = true) (h : qtm P k = some (sz, bytes)) : ExtOk P k (qqp sz bytes) := by
  intro args r τ hlo hF Γ w vs s hv
  unfold qtm at h
  rw [zob] at h
  obtain ⟨p, hp, h⟩ := h
  obtain ⟨h1, ⟨ops, h2, hops⟩, hop, hu⟩ := q48 hp
  split at h
  · rename_i hcond
    obtain ⟨hname, hnp, hnt, hres, hd4, hg4⟩ := hcond
    split at h
    · rename_i j0 jA z sz' bytes' jB hr0 ho3 hA hB
      split at h
      · rename_i hz
        cases h
        unfold qqp at hF
        split at hF
        · rename_i es c
          split at hF
          · rename_i hes
            cases hF
            simp only [VRs] at hv
            obtain ⟨v, us, rfl, hv, rfl⟩ := hv
            rw [q22 h1 hname h2]
            have hE : ∀ {c : Code} {hh : Hints} {i j : Nat} {cc : CCode}, qla P hh 8 c i = some (cc, j) → q5n P qyq itL 8 c cc := fun hc => q8i qub qsf q8l itL_ok hm _ hc
            have hopsz : ops.size = 2 := by rw [← Array.length_toList, hops]; rfl
            have hg0 : ops[0]? = some p.o3 := by rw [← Array.getElem?_toList, hops]; rfl
            have hg1 : ops[1]? = some p.o4 := by rw [← Array.getElem?_toList, hops]; rfl
            have qx6 : ∀ {r : AV} {τ : qf} {e : Env} {Γ' : Ctx} {a' : Act} {w' : World}, e.marks = [] → AR P Γ' 8 e τ a' w' → (∀ v, VR Γ' w' ((e.get 2).getD (.v undef)) v → Got P Γ w r [.row sz es 0] v w') → (e.get 2).isSome = true →
                LeavesInM Fence.wide 0 P p.fn a'.tmps (qaky (Got P Γ w r [.row sz es 0])) a'.defers .returning w' := by
              intro r τ e Γ' a' w' hmk ha hgot hsome
              have hmr := ha.mr
              rw [hmk] at hmr
              simp only [MR] at hmr
              rw [hmr]
              obtain ⟨av, hav⟩ := Option.isSome_iff_exists.1 hsome
              have hrl : p.fn.results.toList = [.tmp 2] := by
                revert hres; unfold qal7; split
                · intro _; assumption
                · intro hh; cases hh
              obtain ⟨v, h8, h9⟩ := q4l (N := 8) (cs := [.tmp 2]) (as := [av]) (by rw [hrl]; rfl) ha.sr ha.ve (by simp [qrb, q5j, hav])
              refine ⟨v, h8, hgot v ?_⟩
              rw [hav]
              exact h9
            refine callsIn_of_wp_marks (F := Fence.wide) (n := 0) h1 h2 trivial ?_
            have ha0 : AR P Γ 8 ⟨[(0, .fsl es c)], []⟩ [] { tmps := #[v] ++ Array.replicate (p.fn.ntmps - 1) undef, defers := [] } w := by
              refine ⟨fun t av ht => ?_, s, by simp [hnt], rfl⟩
              simp only [look] at ht
              split at ht
              · rename_i h0
                subst h0
                cases ht
                have h0e : (#[v] ++ Array.replicate (p.fn.ntmps - 1) undef).getD 0 undef = v := by
                  rw [Array.getD_eq_getD_getElem?, Array.getElem?_append_left (by simp)]; simp
                simp only [h0e]
                exact hv
              · cases ht
            refine wpIn_seq (wpIn_mono (hE hr0 (ro := none) (l := none) (e' := ⟨[(2, .fsl [] true), (0, .fsl es c)], []⟩) (σ' := []) (x := .normal) rfl ha0 trivial) ?_)
            rintro ex a1 w1 ⟨rfl, Γ1, x1, ha1⟩
            refine wpIn_seq (wpIn_seq (wpIn_region ?_))
            rw [hopsz, show List.range 2 = [0, 1] from rfl, wpOpsIn_cons]
            refine qac9 (e := ⟨[(2, .fsl [] true), (0, .fsl es c)], []⟩) (σ := []) qub qsf hg0 (qanq ho3 rfl) (e1 := ⟨[(3, .fsl es c), (2, .fsl [] true), (0, .fsl es c)], []⟩) (σ1 := []) rfl ha1 fun Γ2 a2 w2 x2 ha2 => ?_
            rw [wpOpsIn_cons]
            unfold wpOpIn
            have hwant : Region.wanted p.o4 (yielded ops a2.tmps) = true := by simp [Region.wanted, hg4]
            simp only [hg1, hwant, if_true, Oper.wpIn]
            refine ⟨fun _ _ => trivial, ?_⟩
            rw [Oper.semAt_eq _ _ _ (by rw [hop]; intro c hc; cases hc)]
            have hv3 := ha2.ve 3 (.fsl es c) rfl
            have hv3' := hv3
            simp only [VR] at hv3'
            obtain ⟨A, cap, hAv, hle, hclip, hmem⟩ := hv3'
            have hrun : (execOp a2.eval p.o4).run P w2 = .ok (.value (.bool A.isNone)) w2 := by
              simp only [execOp, hop]
              have h3e : a2.eval (.tmp 3) = .slice A es.length cap := hAv
              rw [h3e]
              have h4e : a2.eval (.const (.slice none 0 0)) = .slice none 0 0 := rfl
              rw [h4e]
              have := qaly (P := P) (w := w2) (t := p.t) (A := A) (n := es.length) (c := cap) (x := .tmp 3) (y := .const (.slice none 0 0)) hu
              simp only [Sem.run_bind] at this ⊢
              rw [this]
              rfl
            rw [hrun]
            simp only [Oper.uponIn, wpOpsIn]
            have ha3 := ha2.put (d := p.o4.dst) (av := .v (.bool A.isNone)) (v := .bool A.isNone) (by rw [hd4]; rfl) (by simp only [VR]) ha2.sr (Ext.refl _ _)
            rw [hd4] at ha3 ⊢
            have hc4 : (a2.put (some 4) (.bool A.isNone)).eval (.tmp 4) = .bool A.isNone := by
              have := ha3.ve 4 (.v (.bool A.isNone)) rfl
              simp only [VR] at this
              exact this
            refine wpIn_cond hc4 ?_
            have x12 := x1.trans x2
            cases A with
            | none =>
              have hnil : es = [] := by
                rcases hmem with hmem | ⟨b, off, sz', hA', _⟩
                · exact hmem
                · cases hA'
              subst hnil
              refine wpIn_mono (hE hA (ro := none) (l := none) (e' := ⟨[(2, .fsl [] true), (4, .v (.bool true)), (3, .fsl [] c), (2, .fsl [] true), (0, .fsl [] c)], []⟩) (σ' := []) (x := .ret) rfl ha3 trivial) ?_
              rintro ex a4 w4 ⟨rfl, Γ4, x4, ha4⟩
              exact qx6 rfl ha4 (fun v hv => own_empty ha4.sr hes.1 hv (.inr rfl) (x12.trans x4)) rfl
            | some A =>
              refine wpIn_skip (wpIn_mono (hE hB (ro := none) (l := none) (e' := ⟨[(2, .sl 0 0 0 es.length false), (7, .sl 0 0 0 es.length false), (6, .fsl es c), (5, .fsl [] true), (4, .v (.bool false)), (3, .fsl es c), (2, .fsl [] true), (0, .fsl es c)], []⟩)
                (σ' := [.row sz es 0]) (x := .ret) ?_ ha3 trivial) ?_)
              · have hq : ∀ e σ, qdy e σ (.bslF z 0 []) = some (.fsl [] true, σ) := fun e σ => by simp [qdy, q37, hz]
                simp only [exec, qah, qgy, qae, hq, wb, Env.set]
                simp [qdy, Opnd.ev, Env.get, look, qdr, hes.1, hes.2.1, hes.2.2, Env.set]
              · rintro ex a4 w4 ⟨rfl, Γ4, x4, ha4⟩
                exact qx6 rfl ha4 (fun v hv => ⟨Γ4, hv, ha4.sr, x12.trans x4⟩) rfl
          · cases hF
        · cases hF
      · cases h
    · cases h
  · cases h
end Go.Ev
namespace Go.Ev
abbrev w64 (n:Int):Int:=IntKind.i64.wrap n
theorem qc {α β:Type} (x:Option α) (f:α→Option β):x.bind f=match x with|none=>none|some a=>f a:=by cases x<;>rfl
theorem lo_v (n:Nat) (x:Value):(AV.v x).lo n=true:=by simp only[AV.lo,los,qk9]
theorem lo_agg (n:Nat) (cs:List AV):(AV.agg cs).lo n=los n cs:=by simp only[AV.lo,los,qk9]
theorem lo_tup (n:Nat) (cs:List AV):(AV.tup cs).lo n=los n cs:=by simp only[AV.lo,los,qk9]
theorem qaik (n:Nat) (es:List (List AV)) (c:Bool):(AV.fsl es c).lo n=qk9 n es:=by simp only[AV.lo,los,qk9]
theorem lo_fptr (n:Nat) (cs:List AV):(AV.fptr cs).lo n=los n cs:=by simp only[AV.lo,los,qk9]
theorem qajm (n o g off len:Nat) (c:Bool):(AV.sl o g off len c).lo n=decide (o<n):=by simp only[AV.lo,los,qk9]
theorem lo_ptr (n o g i off:Nat):(AV.ptr o g i off).lo n=decide (o<n):=by simp only[AV.lo,los,qk9]
theorem lo_fn (n:Nat) (f:Go.Fn) (a b:List AV):(AV.fn f a b).lo n=(los n a&&los n b):=by simp only[AV.lo,los,qk9]
theorem lo_yld (n o:Nat):(AV.yld o).lo n=decide (o<n):=by simp only[AV.lo,los,qk9]
theorem lo_mp (n o:Nat):(AV.mp o).lo n=decide (o<n):=by simp only[AV.lo,los,qk9]
theorem q43 (n:Nat):los n []=true:=by simp only[AV.lo,los,qk9]
theorem qzp (n:Nat) (a:AV) (as:List AV):los n (a::as)=(a.lo n&&los n as):=by simp only[AV.lo,los,qk9]
theorem qr5 (n:Nat):qk9 n []=true:=by simp only[AV.lo,los,qk9]
theorem qli (n:Nat) (a:List AV) (as:List (List AV)):qk9 n (a::as)=(los n a&&qk9 n as):=by simp only[AV.lo,los,qk9]
section bin
variable (k:IntKind) (a b:Int)
theorem bin_add:qn2 .add (.v (.int k a)) (.v (.int k b))=some (.v (.int k (k.wrap (a+b)))):=by simp[qn2]
theorem bin_sub:qn2 .sub (.v (.int k a)) (.v (.int k b))=some (.v (.int k (k.wrap (a-b)))):=by simp[qn2]
theorem bin_mul:qn2 .mul (.v (.int k a)) (.v (.int k b))=some (.v (.int k (k.wrap (a*b)))):=by simp[qn2]
theorem bin_quo:qn2 .quo (.v (.int k a)) (.v (.int k b))=if b=0 then none else some (.v (.int k (k.wrap (a.tdiv b)))):=by simp[qn2]
theorem bin_rem:qn2 .rem (.v (.int k a)) (.v (.int k b))=if b=0 then none else some (.v (.int k (a.tmod b))):=by simp[qn2]
theorem qam2:qn2 .eql (.v (.int k a)) (.v (.int k b))=some (.v (.bool (decide (a=b)))):=by
 by_cases h:a=b<;>simp[qn2,h]
theorem bin_neq:qn2 .neq (.v (.int k a)) (.v (.int k b))=some (.v (.bool (decide (a≠b)))):=by
 by_cases h:a=b<;>simp[qn2,h]
theorem bin_lss:qn2 .lss (.v (.int k a)) (.v (.int k b))=some (.v (.bool (decide (a<b)))):=by simp[qn2]
theorem bin_leq:qn2 .leq (.v (.int k a)) (.v (.int k b))=some (.v (.bool (decide (a≤b)))):=by simp[qn2]
theorem qalw:qn2 .gtr (.v (.int k a)) (.v (.int k b))=some (.v (.bool (decide (a>b)))):=by simp[qn2]
theorem bin_geq:qn2 .geq (.v (.int k a)) (.v (.int k b))=some (.v (.bool (decide (a≥b)))):=by simp[qn2]
end bin
theorem qah2 {σ:qf} {d:Nat} {a:AV} (h:a.lo 0=true):frz σ d a=some a:=by
 cases d<;>simp[frz,h]
theorem qaco {σ:qf} {d:Nat} : ∀ {as:List AV},los 0 as=true→qil (frz σ d) as=some as
 | [],_=>rfl
 |a::as,h=>by
  simp only[los,we]at h
  simp only[qil,qah2 h.1,qaco h.2,wb]
theorem q7e {σ:qf} {d:Nat} : ∀ {es:List (List AV)},qk9 0 es=true→qil (qil (frz σ d)) es=some es
 | [],_=>rfl
 |a::as,h=>by
  simp only[qk9,we]at h
  simp only[qil,qaco h.1,q7e h.2,wb]
theorem frz_sl {σ:qf} {d o g off len:Nat} {c:Bool} {sz:Nat} {es:List (List AV)} (h:σ[o]? = some (.row sz es g)) (hl:off+len≤es.length) (hlo:qk9 0 ((es.drop off).take len)=true) :
  frz σ (d+1) (.sl o g off len c)=some (.fsl ((es.drop off).take len) false):=by
 simp only[frz,AV.lo,h,wc,decide_false,wa,if_false,true_and,hl,if_true,q7e hlo,wb]
theorem qk2 {α:Type} {n:Nat} {c:α→List AV} (h : ∀x,los n (c x)=true) : ∀(xs:List α),qk9 n (xs.map c)=true
 | []=>rfl
 |x::xs=>by simp only[List.map_cons,qk9,h,qk2 h xs,Bool.and_self]
theorem qp1 {α:Type} {sz:Nat} {c:α→List AV} (h : ∀x,(c x).length=sz∧qfk (c x)=true) : ∀(xs:List α),qdk sz (xs.map c)=true
 | []=>rfl
 |x::xs=>by simp only[List.map_cons,qdk,(h x).1,(h x).2,qp1 h xs,decide_true,Bool.and_self]
theorem qajy (sz:Nat):qdk sz []=true:=by simp only[qdk]
theorem qahf (sz:Nat) (e:List AV) (es:List (List AV)):qdk sz (e::es)=(decide (e.length=sz)&&(qfk e&&qdk sz es)):=by simp only[qdk]
theorem frz_agg {σ:qf} {d:Nat} {cs:List AV}:frz σ (d+1) (.agg cs)=(qil (frz σ d) cs).bind fun cs=>some (.agg cs):=by
 by_cases h:los 0 cs=true
 ·rw[qah2 (by simpa only[AV.lo]using h),qaco h];rfl
 ·simp only[frz,AV.lo,h];rfl
theorem frz_tup {σ:qf} {d:Nat} {cs:List AV}:frz σ (d+1) (.tup cs)=(qil (frz σ d) cs).bind fun cs=>some (.tup cs):=by
 by_cases h:los 0 cs=true
 ·rw[qah2 (by simpa only[AV.lo]using h),qaco h];rfl
 ·simp only[frz,AV.lo,h];rfl
theorem qalv {σ:qf} {d o g off len:Nat} {c:Bool}:frz σ (d+1) (.sl o g off len c)=match σ[o]? with
  |some (.row _ es g')=>if g=g'∧off+len≤es.length then (qil (qil (frz σ d)) ((es.drop off).take len)).bind fun es=>some (.fsl es false)else none
  | _=>none:=by
 simp only[frz,AV.lo,wc,decide_false,wa,if_false]
 rfl
theorem q62 {α β:Type} (f:α→Option β):qil f []=some []:=by simp only[qil]
theorem qwl {α β:Type} (f:α→Option β) (a:α) (as:List α):qil f (a::as)=(f a).bind fun b=>(qil f as).bind fun bs=>some (b::bs):=by simp only[qil]
theorem q92 (n k:Nat) (e:List AV) (h:los n e=true):qk9 n (List.replicate k e)=true:=by
 induction k with
 |zero=>simp only[List.replicate,qk9]
 |succ k ih=>simp only[List.replicate,qk9,h,ih,Bool.and_self]
def qaz (O:Orc) (k:Nat) (as:List AV):Option AV:=(O.call k as []).bind fun x=>frz x.2 6 x.1
section items
variable (O:Orc) (e:Env) (σ:qf)
theorem item_op (o:COp):qae O e σ (.op o)=qdy e σ o:=by simp only[qae]
theorem item_P (k:Nat) (args:List Opnd):qae O e σ (.callP k args)=(evs e args).bind fun as=>if los 0 as=true then (qaz O k as).bind fun r=>some (r,σ)else none:=by
 simp only[qae,qaz,Option.bind_assoc]
theorem item_A (k:Nat) (args:List Opnd):qae O e σ (.callA k args)=(evs e args).bind fun as=>if los 0 as=true then (O.call k as []).bind fun(r,σ')=>
   (qil (q2m σ.length) σ').bind fun τ=>some (r.shift σ.length,σ++τ)else none:=by simp only[qae]
theorem item_I (k:Nat) (args:List Opnd):qae O e σ (.callI k args)=(evs e args).bind fun as=>O.call k as σ:=by simp only[qae]
theorem item_R (k:Nat) (args:List Opnd):qae O e σ (.callR k args)=(evs e args).bind fun as=>(O.call k as σ).bind fun(r,σ')=>if qyo σ σ'=true then some (r,σ)else none:=by simp only[qae]
theorem item_F (k:Nat) (args:List Opnd):qae O e σ (.callF k args)=(evs e args).bind fun as=>(q5f as σ).bind fun x=>if los 0 x.1=true then (qaz O k x.1).bind fun r=>some (r,x.2)else none:=by
 simp only[qae,qaz,Option.bind_assoc]
theorem item_H (k:Nat) (args:List Opnd) (pos:Nat):qae O e σ (.callH k args pos)=(evs e args).bind fun as=>if los 0 as=true then (O.call k as []).bind fun(r,τ)=>match r with
  | .sl o g 0 len cl=>match τ[o]? with
   |some (.row sz es g')=>if g=g' then (qil (qil (frz (τ.set o .dead) 5)) es).bind fun es'=>match σ[pos]? with
    |some .hole=>some (.sl pos 1 0 len cl,σ.set pos (.row sz es' 1))
    | _=>none else none
   | _=>none
  | _=>none else none:=rfl
theorem item_v (f:Opnd) (args:List Opnd):qae O e σ (.callv f args)=(f.ev e).bind fun g=>(evs e args).bind fun as=>match g with
  | .fn (.func k) first cap=>O.call k (first++(as++cap)) σ
  | .yld o=>O.round o as σ
  | _=>none:=by simp only[qae];rfl
theorem item_K (f:Opnd) (args:List Opnd) (b off sz:Nat):qae O e σ (.callK f args b off sz)=(f.ev e).bind fun g=>(evs e args).bind fun as=>match g with
  | .fn (.func k) first cap=>(O.call k (first++(as++cap)) σ).bind fun x=>if qe2 e σ x.2 b off sz=true then some x else none
  | _=>none:=by simp only[qae];rfl
end items
mutual
theorem shift_lo (d:Nat) : ∀(a:AV),a.lo 0=true→a.shift d=a
 | .v _,_=>by simp only[AV.shift]
 | .agg cs,h=>by simp only[AV.lo]at h;simp only[AV.shift,qsw d cs h]
 | .tup cs,h=>by simp only[AV.lo]at h;simp only[AV.shift,qsw d cs h]
 | .fsl es c,h=>by simp only[AV.lo]at h;simp only[AV.shift,qlq d es h]
 | .fptr cs,h=>by simp only[AV.lo]at h;simp only[AV.shift,qsw d cs h]
 | .sl o _ _ _ _,h=>by simp only[AV.lo,wc,decide_false,wa]at h
 | .ptr o _ _ _,h=>by simp only[AV.lo,wc,decide_false,wa]at h
 | .fn f a b,h=>by simp only[AV.lo,we]at h;simp only[AV.shift,qsw d a h.1,qsw d b h.2]
 | .yld o,h=>by simp only[AV.lo,wc,decide_false,wa]at h
 | .mp o,h=>by simp only[AV.lo,wc,decide_false,wa]at h
theorem qsw (d:Nat) : ∀(as:List AV),los 0 as=true→qlh d as=as
 | [],_=>rfl
 |a::as,h=>by simp only[los,we]at h;simp only[qlh,shift_lo d a h.1,qsw d as h.2]
theorem qlq (d:Nat) : ∀(es:List (List AV)),qk9 0 es=true→qlv d es=es
 | [],_=>rfl
 |a::as,h=>by simp only[qk9,we]at h;simp only[qlv,qsw d a h.1,qlq d as h.2]
end
theorem q5d {α β:Type} (xs:List α) (f:α→β):(xs.map f).take xs.length=xs.map f:=ztl (by simp)
noncomputable def itB (f:Env→qf→R3) (s:Env→qf→Option (Env×qf)) (e:Env) (σ:qf):R3:=
 (f e σ).bind fun y=>match y.1 with | .normal=>itL f s y.2.1 y.2.2 | .exit id=>some (.exit id,y.2) | .ret=>some (.ret,y.2)
theorem qx {f:Env→qf→R3} {s:Env→qf→Option (Env×qf)} {e:Env} {σ:qf}:itL f s e σ=(s e σ).bind fun x=>itB f s x.1 x.2:=itL_eq f s e σ
def it1 (f:Env→qf→R3) (s:Env→qf→Option (Env×qf)) (e:Env) (σ:qf):Option ((Env×qf) ⊕ (CExit×Env×qf)):=
 (f e σ).bind fun y=>match y with
  |(.normal,e',σ')=>(s e' σ').bind fun x=>some (.inl x)
  |(.exit id,e',σ')=>some (.inr (.exit id,e',σ'))
  |(.ret,e',σ')=>some (.inr (.ret,e',σ'))
theorem q82 {f:Env→qf→R3} {s:Env→qf→Option (Env×qf)} {e:Env} {σ:qf}:itB f s e σ=(it1 f s e σ).bind fun x=>match x with | .inl x=>itB f s x.1 x.2 | .inr y=>some y:=by
 unfold it1
 rw[itB]
 cases f e σ with
 |none=>rfl
 |some y=>
  obtain⟨y,e',σ'⟩:=y
  cases y
  ·simp only[wb,qx]
   cases s e' σ'<;>rfl
  ·rfl
  ·rfl
theorem qh5 {f:Env→qf→R3} {s:Env→qf→Option (Env×qf)} {α:Type} (E:Nat→α→Env) (S:Nat→α→qf) (Inv:Nat→α→Prop) (n:Nat) (Q:CExit×Env×qf→Prop)
  (step : ∀i a,i<n→Inv i a→(∃a',it1 f s (E i a) (S i a)=some (.inl (E (i+1) a',S (i+1) a'))∧Inv (i+1) a') ∨ ∃y,it1 f s (E i a) (S i a)=some (.inr y)∧Q y)
  (last : ∀a,Inv n a → ∃y,it1 f s (E n a) (S n a)=some (.inr y)∧Q y) :
  ∀i a,i≤n→Inv i a → ∃y,itB f s (E i a) (S i a)=some y∧Q y:=by
 have : ∀k i a,n-i=k→i≤n→Inv i a → ∃y,itB f s (E i a) (S i a)=some y∧Q y:=by
  intro k
  induction k with
  |zero=>
   intro i a hk hi ha
   obtain rfl:i=n:=by omega
   obtain⟨y,h1,h2⟩:=last a ha
   exact⟨y,by rw[q82,h1];rfl,h2⟩
  |succ k ih=>
   intro i a hk hi ha
   rcases step i a (by omega) ha with ⟨a',h1,h2⟩|⟨y,h1,h2⟩
   ·obtain⟨y,h3,h4⟩:=ih (i+1) a' (by omega) (by omega) h2
    exact⟨y,by rw[q82,h1];exact h3,h4⟩
   ·exact⟨y,by rw[q82,h1];rfl,h2⟩
 exact fun i a=>this (n-i) i a rfl
theorem qk {n:Int} (h1 : -9223372036854775808≤n) (h2:n<9223372036854775808):IntKind.i64.wrap n=n:=by
 have h3:IntKind.i64.bits=64:=rfl
 have h4:IntKind.i64.signed=true:=rfl
 simp only[IntKind.wrap,h3,h4,Bool.true_and]
 rw[show (2:Int)^64=18446744073709551616 from rfl,show (2:Int)^(64-1)=9223372036854775808 from rfl]
 simp only[decide_eq_true_eq]
 split<;>omega
theorem qf6 {α:Type} {l:List α} {i:Nat} {x:α} (h:l[i]? = some x):l.take (i+1)=l.take i++[x]:=by
 rw[List.take_add_one,h];rfl
theorem qac2 {T:Tab} {k:Nat} {as:List AV} {σ:qf} {r:AV×qf} (n:Nat) (h:(evF T n).call k as σ=some r):(evL T).call k as σ=some r:=((q2g.call k as σ).lim r).2 ⟨n,h⟩
theorem qabl {T:Tab} {k:Nat} {as:List AV} {r:AV} (n:Nat) (h:((evF T n).call k as []).bind (fun x=>frz x.2 6 x.1)=some r):qaz (evL T) k as=some r:=by
 rw[zob]at h
 obtain⟨x,h1,h2⟩:=h
 unfold qaz
 rw[qac2 n h1]
 exact h2
end Go.Ev
namespace Go.Ev
theorem qib {f:Env→qf→R3} {s:Env→qf→Option (Env×qf)} {τ:Type} (l:List τ) (E:Nat→Env) (σ:qf) (p:τ→Bool) (Qg:CExit×Env×qf→Prop) (Qb:τ→CExit×Env×qf→Prop)
  (good : ∀(i:Nat) (x:τ),i<l.length→l[i]? = some x→p x=true→it1 f s (E i) σ=some (.inl (E (i+1),σ)))
  (bad : ∀(i:Nat) (x:τ),i<l.length→l[i]? = some x→p x=false → ∃y,it1 f s (E i) σ=some (.inr y)∧Qb x y)
  (last : ∃y,it1 f s (E l.length) σ=some (.inr y)∧Qg y) : ∃y,itB f s (E 0) σ=some y∧(l.all p=true∧Qg y∨l.all p=false ∧ ∃x,l.find? (fun x => !p x)=some x∧Qb x y):=by
 have:=qh5 (f:=f) (s:=s) (α:=Unit) (fun i _=>E i) (fun _ _=>σ) (fun i _=>(l.take i).all p=true) l.length
  (fun y=>l.all p=true∧Qg y∨l.all p=false ∧ ∃x,l.find? (fun x => !p x)=some x∧Qb x y) ?_ ?_ 0 () (Nat.zero_le _) (by simp)
 ·exact this
 ·intro i _ hi hp
  obtain⟨x,hx⟩ : ∃x,l[i]? = some x:=⟨_,zgE hi⟩
  cases hpx:p x with
  |true=>exact .inl ⟨(),good i _ hi hx hpx,by rw[qf6 hx,List.all_append,hp];simp[hpx]⟩
  |false=>
   obtain⟨y,h1,h2⟩:=bad i _ hi hx hpx
   refine .inr ⟨y,h1,.inr ⟨?_,x,?_,h2⟩⟩
   ·rw[Bool.eq_false_iff];intro h;rw[List.all_eq_true]at h
    rw[h _ (zmg hx)]at hpx;cases hpx
   ·have hd:l=l.take i++(x::l.drop (i+1)):=by
     obtain⟨_,rfl⟩:=zei.1 hx
     rw[List.getElem_cons_drop,List.take_append_drop]
    have hn:(l.take i).find? (fun x => !p x)=none:=by
     rw[List.find?_eq_none]
     intro x hx'
     rw[List.all_eq_true.1 hp x hx'];simp
    generalize l.take i=l1 at hd hn
    generalize l.drop (i+1)=l2 at hd
    subst hd
    rw[List.find?_append,hn,List.find?_cons,hpx];rfl
 ·intro _ hp
  rw[List.take_length]at hp
  obtain⟨y,h1,h2⟩:=last
  exact⟨y,h1,.inl ⟨hp,h2⟩⟩
end Go.Ev
namespace Go.Ev
theorem qmu {f:Env→qf→R3} {s:Env→qf→Option (Env×qf)} {e e':Env} {σ σ':qf} {y:CExit×Env×qf} (h:it1 f s e σ=some (.inl (e',σ'))) (k:itB f s e' σ'=some y):itB f s e σ=some y:=by
 rw[q82,h];exact k
theorem qr6 {f:Env→qf→R3} {s:Env→qf→Option (Env×qf)} {e:Env} {σ:qf} {y:CExit×Env×qf} (h:it1 f s e σ=some (.inr y)):itB f s e σ=some y:=by
 rw[q82,h];rfl
end Go.Ev
namespace Go.Ev
theorem qad1:qx1 [] []=true:=by simp only[qx1]
theorem qabs (a b:List AV) (as bs:List (List AV)):qx1 (a::as) (b::bs)=(qabj a b&&qx1 as bs):=by simp only[qx1]
theorem eqBs_nil:qabj [] []=true:=by simp only[qabj]
theorem qam6 (a b:AV) (as bs:List AV):qabj (a::as) (b::bs)=(a.eqB b&&qabj as bs):=by simp only[qabj]
theorem eqB_int (k k':IntKind) (n n':Int):(AV.v (.int k n)).eqB (.v (.int k' n'))=(decide (k=k')&&decide (n=n')):=by simp only[AV.eqB,qanu]
theorem eqB_bool (a b:Bool):(AV.v (.bool a)).eqB (.v (.bool b))=(a==b):=by simp only[AV.eqB,qanu]
theorem eqB_fsl (a b:List (List AV)) (c d:Bool):(AV.fsl a c).eqB (.fsl b d)=(qx1 a b&&c==d):=by simp only[AV.eqB]
theorem eqB_agg (a b:List AV):(AV.agg a).eqB (.agg b)=qabj a b:=by simp only[AV.eqB]
theorem eqB_sl (o g off len o' g' off' len':Nat) (c c':Bool):(AV.sl o g off len c).eqB (.sl o' g' off' len' c')=(o==o'&&(g==g'&&(off==off'&&(len==len'&&c==c')))):=by simp only[AV.eqB]
theorem eqB_ptr (o g i off o' g' i' off':Nat):(AV.ptr o g i off).eqB (.ptr o' g' i' off')=(o==o'&&(g==g'&&(i==i'&&off==off'))):=by simp only[AV.eqB]
theorem qzd {α:Type} {c:α→List AV} (h : ∀x,qabj (c x) (c x)=true) : ∀l:List α,qx1 (l.map c) (l.map c)=true
 | []=>qad1
 |x::l=>by rw[List.map_cons,qabs,h x,qzd h l];rfl
end Go.Ev
