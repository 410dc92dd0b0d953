/- For every input the statement of this claim returns true: texts of its proof, joined (part 3). -/
import Derived.RangeFuncLeaves
import Derived.Test.YtbhhifdhlafklaaEWT1
set_option linter.unusedSectionVars false
set_option linter.unusedSimpArgs false
set_option linter.unusedVariables false
namespace Go.Ev
variable {O : Orc} {e e' : Env} {σ σ' τ : qr}
theorem qty : ∀ (l : List (Nat × AV)) (d t : Nat), look (q59 l d) t = if t = d then none else look l t
  | [], d, t => by simp [look, q59]
  | (k, v) :: r, d, t => by
    simp only [q59]
    split
    · rename_i h
      rw [qty r d t]
      simp only [look]
      subst h
      split
      · rfl
      · rw [if_neg (Ne.symm ‹_›)]
    · simp only [look]
      rw [qty r d t]
      split
      · rename_i h1 h2
        subst h2
        rw [if_neg h1]
      · rfl
theorem quj (e : Env) (d : Option Nat) (v : AV) (t : Nat) : (e.set d v).get t = if d = some t then some v else e.get t := by
  cases d with
  | none => simp [Env.set]
  | some k => simp [Env.set, Env.get, look]
theorem q5x (e : Env) (d : Option Nat) (t : Nat) : (e.forget d).get t = if d = some t then none else e.get t := by
  cases d with
  | none => simp [Env.forget]
  | some k =>
    simp only [Env.forget, Env.get, qty]
    by_cases h : t = k
    · simp [h]
    · simp [h, Ne.symm h]
@[simp] theorem marks_set (e : Env) (d : Option Nat) (v : AV) : (e.set d v).marks = e.marks := by cases d <;> rfl
@[simp] theorem marks_unset (e : Env) (d : Option Nat) : (e.unset d).marks = e.marks := by cases d <;> rfl
@[simp] theorem marks_forget (e : Env) (d : Option Nat) : (e.forget d).marks = e.marks := by cases d <;> rfl
theorem qtf (e : Env) (d : Option Nat) (t : Nat) : (e.unset d).get t = if d = some t then some (.tup []) else e.get t := quj e d _ t
def Eqv (e e' : Env) : Prop := (∀ t, e.get t = e'.get t) ∧ e.marks = e'.marks
theorem Eqv.refl (e : Env) : Eqv e e := ⟨fun _ => rfl, rfl⟩
theorem Eqv.symm (h : Eqv e e') : Eqv e' e := ⟨fun t => (h.1 t).symm, h.2.symm⟩
theorem Eqv.trans {e'' : Env} (h : Eqv e e') (k : Eqv e' e'') : Eqv e e'' := ⟨fun t => (h.1 t).trans (k.1 t), h.2.trans k.2⟩
def qkw (l : List Nat) (e e' : Env) : Prop := ∀ t, t ∈ l → e.get t = e'.get t
theorem qkw.left {l m : List Nat} (h : qkw (l ++ m) e e') : qkw l e e' := fun t ht => h t (List.mem_append_left _ ht)
theorem qkw.right {l m : List Nat} (h : qkw (l ++ m) e e') : qkw m e e' := fun t ht => h t (List.mem_append_right _ ht)
theorem qy {x : Opnd} (h : qkw (opT x) e e') : x.ev e = x.ev e' := by
  cases x with
  | t i => exact h i (by simp [opT])
  | c a => rfl
theorem qg2 : ∀ {l : List Opnd}, qkw (q3y l) e e' → evs e l = evs e' l
  | [], _ => rfl
  | x :: xs, h => by simp only [evs, qy (qkw.left h), qg2 (qkw.right h)]
theorem qp2 {x : Option Opnd} {d : Int} (h : qkw (optT x) e e') : qf9 e d x = qf9 e' d x := by
  cases x with
  | none => rfl
  | some x =>
    have : x.ev e = x.ev e' := by
      cases x with
      | t i => exact h i (by simp [optT])
      | c a => rfl
    simp only [qf9, this]
theorem qsi : ∀ {ps : List (Nat × Nat × Opnd)} {cs : List AV}, qkw (q3y (ps.map (·.2.2))) e e' → qfz e cs ps = qfz e' cs ps
  | [], _, _ => rfl
  | (o, s, x) :: ps, cs, h => by
    simp only [List.map_cons, q3y] at h
    simp only [qfz, qy (qkw.left h)]
    cases x.ev e' with
    | none => rfl
    | some a => simp only [Option.bind_some]; split; exact qsi (qkw.right h); rfl
theorem qrw {sz : Nat} : ∀ {ps : List (Nat × Opnd)} {cs : List (List AV)}, qkw (q3y (ps.map (·.2))) e e' → qfm e sz cs ps = qfm e' sz cs ps
  | [], _, _ => rfl
  | (o, x) :: ps, cs, h => by
    simp only [List.map_cons, q3y] at h
    simp only [qfm, qy (qkw.left h)]
    cases x.ev e' with
    | none => rfl
    | some a => simp only [Option.bind_some]; split; exact qrw (qkw.right h); rfl
theorem qpa {p : AV} : ∀ {l : List Nat}, qkw l e e' → qmh e p l = qmh e' p l
  | [], _ => rfl
  | t :: l, h => by
    simp only [qmh, h t (by simp)]
    have ih := qpa (p := p) (l := l) fun t ht => h t (by simp [ht])
    rw [ih]
theorem q5a {c : COp} (h : qkw c.reads e e') : qai e σ c = qai e' σ c := by
  cases c <;> simp only [COp.reads] at h <;> simp only [qai]
  case mv => rw [qy h]
  case pick => rw [qy h.left, qy h.right.left, qy h.right.right]
  case frzv => rw [qy h]
  case box => rw [qy h]
  case boxO => rw [qy h]
  case boxF => rw [qy h]
  case build => rw [qsi h]
  case buildO => rw [qsi h]
  case bsl => rw [qrw h]
  case bslF => rw [qrw h]
  case ld => rw [qy h]
  case ldF => rw [qy h]
  case ldD => simp only [qy h.left, qpa h.right]
  case mput => rw [qy h.left, qy h.right.left, qy h.right.right]
  case mget => rw [qy h.left, qy h.right]
  case st => rw [qy h.left, qy h.right]
  case nilck => rw [qy h]
  case bin => rw [qy h.left, qy h.right]
  case eqs => rw [qy h.left, qy h.right]
  case eqb => rw [qy h.left, qy h.right]
  case un => rw [qy h]
  case conv => rw [qy h]
  case mkfn => rw [qg2 h.left, qg2 h.right]
  case mksl => rw [qy h.left, qy h.right]
  case slc => simp only [qy h.left, qp2 h.right.left, qp2 h.right.right.left, qp2 h.right.right.right]
  case slcS => simp only [qy h.left, qp2 h.right.left, qp2 h.right.right]
  case faddr => rw [qy h]
  case fld => rw [qy h]
  case iaddr => rw [qy h.left, qy h.right]
  case iaddrA => rw [qy h.left, qy h.right]
  case iaddrF => rw [qy h.left, qy h.right]
  case idxS => rw [qy h.left, qy h.right]
  case idxA => rw [qy h.left, qy h.right]
  case ext => rw [qy h]
  case len => rw [qy h]
  case lenS => rw [qy h]
  case app => rw [qy h.left, qy h.right]
  case appZ => rw [qy h.left, qy h.right]
  case appN => rw [qy h.left, qy h.right]
  case appF => rw [qy h.left, qy h.right]
  case copy => rw [qy h.left, qy h.right]
  case mm => rw [qy h.left, qy h.right]
  case cap => rw [qy h]
  case clr => rw [qy h]
  case boxFW => rw [qy h]
  case allocH => rw [h _ (by simp)]
  case mkslO => rw [qy h.left, qy h.right]
  case appM => rw [qy h.left, qy h.right]
  case appB => simp only [qy h.left, qy h.right.left, qpa h.right.right]
  case ldB sz ag x base =>
    have hb : ∀ p, q7p e p base = q7p e' p base := fun p => by unfold q7p; rw [h.right base (by simp)]
    simp only [qy h.left, hb]
def qo1 : Item' → List Nat
  | .op c => c.reads
  | .callP _ as | .callA _ as | .callI _ as | .callR _ as | .callF _ as | .callH _ as _ => q3y as
  | .callv f as => opT f ++ q3y as
theorem qho {it : Item'} (h : qkw (qo1 it) e e') : qba O e σ it = qba O e' σ it := by
  cases it <;> simp only [qo1] at h <;> simp only [qba]
  case op => exact q5a h
  case callP => rw [qg2 h]
  case callA => rw [qg2 h]
  case callI => rw [qg2 h]
  case callR => rw [qg2 h]
  case callF => rw [qg2 h]
  case callH => rw [qg2 h]
  case callv => rw [qy h.left, qg2 h.right]
theorem qq0 (o : COper) : o.reads = (match o.guard with | some (t, _) => [t] | none => []) ++ qo1 o.it := by
  unfold COper.reads qo1
  cases o.it <;> rfl
def q2y (o : COper) (e e1 : Env) : Prop := (∃ r, e1 = e.set o.dst r) ∨ e1 = e.unset o.dst
theorem ql3 {o : COper} {e1 : Env} {σ1 : qr} : qe O e σ o = some (e1, σ1) ↔
    ((o.guard = none ∨ ∃ t b, o.guard = some (t, b) ∧ e.get t = some (.v (.bool b))) ∧ ∃ r, qba O e σ o.it = some (r, σ1) ∧ e1 = e.set o.dst r) ∨
    ((∃ t b, o.guard = some (t, b) ∧ (e.get t = some (.v (.bool !b)) ∨ e.get t = some (.tup []))) ∧ e1 = e.unset o.dst ∧ σ1 = σ) := by
  unfold qe
  cases hg : o.guard with
  | none =>
    simp only [Option.bind_eq_some_iff, true_or, true_and, reduceCtorEq, false_and, exists_false, or_false]
    constructor
    · rintro ⟨⟨r, s⟩, h1, h2⟩; cases h2; exact ⟨r, h1, rfl⟩
    · rintro ⟨r, h1, rfl⟩; exact ⟨(r, σ1), h1, rfl⟩
  | some tw =>
    obtain ⟨t, want⟩ := tw
    simp only [Option.bind_eq_some_iff]
    constructor
    · rintro ⟨b, hb, h⟩
      split at h
      · rename_i b
        split at h
        · rename_i hw
          subst hw
          rw [Option.bind_eq_some_iff] at h
          obtain ⟨⟨r, s⟩, h1, h2⟩ := h
          cases h2
          exact .inl ⟨.inr ⟨t, b, rfl, hb⟩, r, h1, rfl⟩
        · rename_i hw
          cases h
          refine .inr ⟨⟨t, want, rfl, .inl ?_⟩, rfl, rfl⟩
          rw [hb]; cases b <;> cases want <;> simp_all
      · cases h
        exact .inr ⟨⟨t, want, rfl, .inr hb⟩, rfl, rfl⟩
      · cases h
    · rintro (⟨h1, r, h2, rfl⟩ | ⟨⟨t', b', h1, h2⟩, rfl, rfl⟩)
      · rcases h1 with h1 | ⟨t', b', h1, h3⟩
        · cases h1
        · cases h1
          refine ⟨_, h3, ?_⟩
          simp [h2]
      · cases h1
        rcases h2 with h2 | h2
        · refine ⟨_, h2, ?_⟩
          cases want <;> simp
        · exact ⟨_, h2, rfl⟩
theorem qub {o : COper} {e1 : Env} {σ1 : qr} (h : qe O e σ o = some (e1, σ1)) : q2y o e e1 := by
  rcases ql3.1 h with ⟨_, r, _, h⟩ | ⟨_, h, _⟩
  · exact .inl ⟨r, h⟩
  · exact .inr h
theorem q2y.get {o : COper} {e1 : Env} (h : q2y o e e1) {t : Nat} (ht : o.dst ≠ some t) : e1.get t = e.get t := by
  rcases h with ⟨r, rfl⟩ | rfl
  · rw [quj, if_neg ht]
  · rw [qtf, if_neg ht]
theorem qxn {o : COper} {e1 : Env} {σ1 τ1 : qr} (h : qe O e σ o = some (e1, σ1)) (ha : qkw o.reads e e')
    (hit : ∀ r, qba O e σ o.it = some (r, σ1) → qba O e σ o.it = some (r, σ1) ∧ qba O e' τ o.it = some (r, τ1)) (hsk : σ1 = σ → τ1 = τ) :
    ∃ e1', qe O e' τ o = some (e1', τ1) ∧ ((∃ r, e1 = e.set o.dst r ∧ e1' = e'.set o.dst r) ∨ (e1 = e.unset o.dst ∧ e1' = e'.unset o.dst)) := by
  rw [qq0] at ha
  rcases ql3.1 h with ⟨hg, r, h2, rfl⟩ | ⟨⟨t, b, hg, h2⟩, rfl, rfl⟩
  · refine ⟨e'.set o.dst r, ql3.2 (.inl ⟨?_, r, (hit r h2).2, rfl⟩), .inl ⟨r, rfl, rfl⟩⟩
    rcases hg with hg | ⟨t, b, hg, h3⟩
    · exact .inl hg
    · exact .inr ⟨t, b, hg, by rw [← ha t (by simp [hg])]; exact h3⟩
  · refine ⟨e'.unset o.dst, ql3.2 (.inr ⟨⟨t, b, hg, by rw [← ha t (by simp [hg])]; exact h2⟩, rfl, hsk rfl⟩), .inr ⟨rfl, rfl⟩⟩
theorem step_eqv {o : COper} {e1 e1' : Env} (he : Eqv e e') (h : (∃ r, e1 = e.set o.dst r ∧ e1' = e'.set o.dst r) ∨ (e1 = e.unset o.dst ∧ e1' = e'.unset o.dst)) : Eqv e1 e1' := by
  rcases h with ⟨r, rfl, rfl⟩ | ⟨rfl, rfl⟩
  · exact ⟨fun t => by rw [quj, quj, he.1], by simp [he.2]⟩
  · exact ⟨fun t => by rw [qtf, qtf, he.1], by simp [he.2]⟩
theorem q5c {o : COper} {e1 : Env} {σ1 : qr} (he : Eqv e e') (h : qe O e σ o = some (e1, σ1)) : ∃ e1', qe O e' σ o = some (e1', σ1) ∧ Eqv e1 e1' := by
  obtain ⟨e1', h1, h2⟩ := qxn (τ := σ) (τ1 := σ1) h (fun t _ => he.1 t) (fun r hr => ⟨hr, by rw [← qho (fun t _ => he.1 t)]; exact hr⟩) (fun h => h)
  exact ⟨e1', h1, step_eqv he h2⟩
theorem qj6 : ∀ {l : List COper} {e e' e1 : Env} {σ σ1 : qr}, Eqv e e' → qb O l e σ = some (e1, σ1) → ∃ e1', qb O l e' σ = some (e1', σ1) ∧ Eqv e1 e1'
  | [], e, e', e1, σ, σ1, he, h => by simp only [qb] at h; cases h; exact ⟨e', rfl, he⟩
  | o :: l, e, e', e1, σ, σ1, he, h => by
    simp only [qb, Option.bind_eq_some_iff] at h
    obtain ⟨⟨e2, σ2⟩, h1, h2⟩ := h
    obtain ⟨e2', h3, h4⟩ := q5c he h1
    obtain ⟨e1', h5, h6⟩ := qj6 h4 h2
    exact ⟨e1', by simp only [qb, h3, Option.bind_some]; exact h5, h6⟩
theorem qfl {it : Item'} {r : AV} (hk : it.kind = .pure) (h : qba O e σ it = some (r, σ')) : σ' = σ ∧ ∀ τ, qba O e τ it = some (r, τ) := by
  cases it with
  | op c =>
    simp only [Item'.kind] at hk
    simp only [qba] at h ⊢
    cases c <;> simp only [COp.kind] at hk <;> first
      | (cases hk; done)
      | (simp only [qai, Option.bind_eq_some_iff] at h ⊢
         (repeat' (first | (obtain ⟨_, _, h⟩ := h) | split at h | rw [Option.bind_eq_some_iff] at h)) <;> simp_all)
  | callP k as =>
    simp only [qba, Option.bind_eq_some_iff] at h ⊢
    obtain ⟨vs, h1, h⟩ := h
    split at h
    · rw [Option.bind_eq_some_iff] at h
      obtain ⟨⟨u, s⟩, h2, h⟩ := h
      simp only [Option.bind_eq_some_iff] at h
      obtain ⟨v, h3, h⟩ := h
      cases h
      refine ⟨rfl, fun τ => ⟨vs, h1, ?_⟩⟩
      rw [if_pos ‹_›]
      simp [h2, h3]
    · cases h
  | callA _ _ => cases hk
  | callI _ _ => cases hk
  | callF _ _ => cases hk
  | callH _ _ _ => cases hk
  | callR _ _ => cases hk
  | callv _ _ => cases hk
theorem q3j {σ τ : qr} {o : Nat} {ob : SObj} (h : σ[o]? = some ob) : (σ ++ τ)[o]? = some ob := by
  rw [List.getElem?_append_left (List.getElem?_eq_some_iff.1 h).1]; exact h
def Up (σ τ : qr) : Prop := ∀ (o : Nat) (ob : SObj), σ[o]? = some ob → ob ≠ SObj.hole → τ[o]? = some ob
theorem Up.app (σ τ : qr) : Up σ (σ ++ τ) := fun o ob h _ => q3j h
theorem Up.refl (σ : qr) : Up σ σ := fun o ob h _ => h
theorem Up.more {σ τ : qr} (h : Up σ τ) (hl : τ.length = σ.length) (ρ : qr) : Up (σ ++ ρ) (τ ++ ρ) := fun o ob ho hne => by
  rcases Nat.lt_or_ge o σ.length with hlt | hge
  · rw [List.getElem?_append_left hlt] at ho
    exact q3j (h o ob ho hne)
  · rw [List.getElem?_append_right hge] at ho
    rw [List.getElem?_append_right (by omega), hl]; exact ho
theorem Up.fill {σ : qr} {p : Nat} {ob : SObj} (h : σ[p]? = some .hole) : Up σ (σ.set p ob) := fun o ob' ho hne => by
  by_cases hp : p = o
  · subst hp; rw [h] at ho; cases ho; exact absurd rfl hne
  · rw [List.getElem?_set_ne hp]; exact ho
theorem qtx {σ τ : qr} {p : AV} {cs : List AV} (hu : Up σ τ) (h : qf σ p = some cs) : qf τ p = some cs := by
  unfold qf at h ⊢
  cases p <;> simp only at h ⊢ <;> try exact h
  rename_i o g i off
  cases ho : σ[o]? with
  | none => rw [ho] at h; cases h
  | some ob =>
    rw [ho] at h
    rw [hu o ob ho (by rintro rfl; cases h)]; exact h
theorem qqp {σ τ : qr} {p : AV} {cs : List (List AV)} (hu : Up σ τ) (h : qbq σ p = some cs) : qbq τ p = some cs := by
  unfold qbq at h ⊢
  split at h
  · exact h
  · rename_i o g off len c
    cases ho : σ[o]? with
    | none => rw [ho] at h; cases h
    | some ob =>
      rw [ho] at h
      rw [hu o ob ho (by rintro rfl; cases h)]; exact h
  · exact h
  · cases h
theorem qwh {it : Item'} {r : AV} {τ : qr} (hk : it.kind = .load) (h : qba O e σ it = some (r, σ')) (hu : Up σ τ) : σ' = σ ∧ qba O e τ it = some (r, τ) := by
  cases it with
  | op c =>
    simp only [Item'.kind] at hk
    simp only [qba] at h ⊢
    cases c <;> simp only [COp.kind] at hk <;> first
      | (cases hk; done)
      | skip
    case ld =>
      simp only [qai, Option.bind_eq_some_iff] at h ⊢
      obtain ⟨p, h1, cs, h2, v, h3, h⟩ := h
      cases h
      exact ⟨rfl, p, h1, cs, qtx hu h2, _, h3, rfl⟩
    case ldD =>
      simp only [qai, Option.bind_eq_some_iff] at h ⊢
      obtain ⟨p, h1, h⟩ := h
      split at h
      · rename_i haw
        simp only [Option.bind_eq_some_iff] at h
        obtain ⟨cs, h2, v, h3, h⟩ := h
        cases h
        refine ⟨rfl, p, h1, ?_⟩
        rw [if_pos haw]
        simp only [Option.bind_eq_some_iff]
        exact ⟨cs, qtx hu h2, _, h3, rfl⟩
      · cases h
    case ldB =>
      simp only [qai, Option.bind_eq_some_iff] at h ⊢
      obtain ⟨p, h1, h⟩ := h
      split at h
      · rename_i haw
        simp only [Option.bind_eq_some_iff] at h
        obtain ⟨cs, h2, v, h3, h⟩ := h
        cases h
        refine ⟨rfl, p, h1, ?_⟩
        rw [if_pos haw]
        simp only [Option.bind_eq_some_iff]
        exact ⟨cs, qtx hu h2, _, h3, rfl⟩
      · cases h
    case mget =>
      simp only [qai, Option.bind_eq_some_iff] at h ⊢
      obtain ⟨p, h1, i, h2, h⟩ := h
      split at h
      · split at h
        · rename_i ho
          split at h
          · cases h
            refine ⟨rfl, _, h1, _, h2, ?_⟩
            simp only [hu _ _ ho (by simp)]
            rw [if_pos ‹_›]
          · cases h
        · cases h
      · cases h
    case slc sz x lo hi mx =>
      simp only [qai, Option.bind_eq_some_iff] at h ⊢
      obtain ⟨p, h1, h⟩ := h
      split at h
      · simp only [Option.bind_eq_some_iff] at h
        obtain ⟨l, h2, m, h3, n, h4, h⟩ := h
        split at h
        · cases h
          refine ⟨rfl, _, h1, ?_⟩
          simp only [Option.bind_eq_some_iff]
          exact ⟨l, h2, m, h3, n, h4, by rw [if_pos ‹_›]⟩
        · cases h
      · rename_i o g off len clip
        split at h
        · rename_i ho
          simp only [Option.bind_eq_some_iff] at h
          obtain ⟨l, h2, m, h3, n, h4, h⟩ := h
          split at h
          · cases h
            refine ⟨rfl, _, h1, ?_⟩
            simp only [hu _ _ ho (by simp), Option.bind_eq_some_iff]
            exact ⟨l, h2, m, h3, n, h4, by rw [if_pos ‹_›]⟩
          · cases h
        · cases h
      · cases h
    case iaddr sz x i =>
      simp only [qai, Option.bind_eq_some_iff] at h ⊢
      obtain ⟨p, h1, n, h2, h⟩ := h
      split at h
      · rename_i k n
        split at h
        · rename_i h0
          split at h
          · simp only [Option.bind_eq_some_iff] at h
            obtain ⟨c, h3, h⟩ := h
            split at h
            · cases h
              refine ⟨rfl, _, h1, _, h2, ?_⟩
              simp only [if_pos h0, Option.bind_eq_some_iff]
              exact ⟨c, h3, by rw [if_pos ‹_›]⟩
            · cases h
          · rename_i o g off len clip
            split at h
            · rename_i ho
              split at h
              · cases h
                refine ⟨rfl, _, h1, _, h2, ?_⟩
                simp only [if_pos h0, hu _ _ ho (by simp)]
                rw [if_pos ‹_›]
              · cases h
            · cases h
          · cases h
        · cases h
      · cases h
  | _ => cases hk
theorem qxz {it : Item'} {r : AV} (hk : it.kind = .load) (h : qba O e σ it = some (r, σ')) (τ : qr) : σ' = σ ∧ qba O e (σ ++ τ) it = some (r, σ ++ τ) := qwh hk h (Up.app σ τ)
def Known (n : Nat) (e : Env) : Prop := ∀ t a o, e.get t = some a → a.obj? = some o → o < n
theorem ql2 {n : Nat} {x : Opnd} {a : AV} {o : Nat} (hk : Known n e) (h : x.ev e = some a) (hc : ∀ c, x = .c c → c.lo 0 = true) (ho : a.obj? = some o) : o < n := by
  cases x with
  | t i => exact hk i a o h ho
  | c c =>
    simp only [Opnd.ev] at h; cases h
    have := hc _ rfl
    cases a <;> simp_all [AV.lo, AV.obj?]
def Opnd.okC : Opnd → Bool
  | .t _ => true
  | .c a => a.lo 0
theorem qnh {σ τ : qr} {o : Nat} {ob : SObj} (h : (σ ++ τ)[o]? = some ob) (ho : o < σ.length) : σ[o]? = some ob := by
  rw [List.getElem?_append_left ho] at h; exact h
def qri : Item' → Bool
  | .op (.ld _ _ x) => x.okC
  | .op (.ldD _ _ x _) => x.okC
  | .op (.ldB _ _ x _) => x.okC
  | .op (.mget _ _ _ x _) => x.okC
  | .op (.iaddr _ x _) => x.okC
  | .op (.slc _ x _ _ _) => x.okC
  | _ => true
theorem q8f {it : Item'} {r : AV} {τ : qr} (hk : it.kind = .load) (hkn : Known σ.length e) (hc : qri it = true)
    (h : qba O e (σ ++ τ) it = some (r, σ')) : qba O e σ it = some (r, σ) := by
  cases it with
  | op c =>
    simp only [Item'.kind] at hk
    simp only [qba] at h ⊢
    cases c <;> simp only [COp.kind] at hk <;> first
      | (cases hk; done)
      | skip
    case ld sz ag x =>
      simp only [qri] at hc
      simp only [qai, Option.bind_eq_some_iff] at h ⊢
      obtain ⟨p, h1, cs, h2, v, h3, h⟩ := h
      cases h
      refine ⟨p, h1, cs, ?_, _, h3, rfl⟩
      unfold qf at h2 ⊢
      cases p <;> simp only at h2 ⊢ <;> try exact h2
      rename_i o g i off
      have hn := ql2 hkn h1 (fun c hx => by subst hx; exact hc) (o := o) rfl
      cases ho : (σ ++ τ)[o]? with
      | none => rw [ho] at h2; cases h2
      | some ob => rw [qnh ho hn]; rw [ho] at h2; exact h2
    case ldD sz ag x av =>
      simp only [qri] at hc
      simp only [qai, Option.bind_eq_some_iff] at h ⊢
      obtain ⟨p, h1, h⟩ := h
      split at h
      · rename_i haw
        simp only [Option.bind_eq_some_iff] at h
        obtain ⟨cs, h2, v, h3, h⟩ := h
        cases h
        refine ⟨p, h1, ?_⟩
        rw [if_pos haw]
        simp only [Option.bind_eq_some_iff]
        refine ⟨cs, ?_, _, h3, rfl⟩
        unfold qf at h2 ⊢
        cases p <;> simp only at h2 ⊢ <;> try exact h2
        rename_i o g i off
        have hn := ql2 hkn h1 (fun c hx => by subst hx; exact hc) (o := o) rfl
        cases ho : (σ ++ τ)[o]? with
        | none => rw [ho] at h2; cases h2
        | some ob => rw [qnh ho hn]; rw [ho] at h2; exact h2
      · cases h
    case ldB sz ag x base =>
      simp only [qri] at hc
      simp only [qai, Option.bind_eq_some_iff] at h ⊢
      obtain ⟨p, h1, h⟩ := h
      split at h
      · rename_i haw
        simp only [Option.bind_eq_some_iff] at h
        obtain ⟨cs, h2, v, h3, h⟩ := h
        cases h
        refine ⟨p, h1, ?_⟩
        rw [if_pos haw]
        simp only [Option.bind_eq_some_iff]
        refine ⟨cs, ?_, _, h3, rfl⟩
        unfold qf at h2 ⊢
        cases p <;> simp only at h2 ⊢ <;> try exact h2
        rename_i o g i off
        have hn := ql2 hkn h1 (fun c hx => by subst hx; exact hc) (o := o) rfl
        cases ho : (σ ++ τ)[o]? with
        | none => rw [ho] at h2; cases h2
        | some ob => rw [qnh ho hn]; rw [ho] at h2; exact h2
      · cases h
    case mget ok k z m key =>
      simp only [qri] at hc
      simp only [qai, Option.bind_eq_some_iff] at h ⊢
      obtain ⟨p, h1, i, h2, h⟩ := h
      split at h
      · rename_i o k' n
        have hn := ql2 hkn h1 (fun c hx => by subst hx; exact hc) (o := o) rfl
        split at h
        · rename_i ho
          split at h
          · cases h
            refine ⟨_, h1, _, h2, ?_⟩
            simp only [qnh ho hn]
            rw [if_pos ‹_›]
          · cases h
        · cases h
      · cases h
    case slc sz x lo hi mx =>
      simp only [qri] at hc
      simp only [qai, Option.bind_eq_some_iff] at h ⊢
      obtain ⟨p, h1, h⟩ := h
      split at h
      · simp only [Option.bind_eq_some_iff] at h
        obtain ⟨l, h2, m, h3, n, h4, h⟩ := h
        split at h
        · cases h
          refine ⟨_, h1, ?_⟩
          simp only [Option.bind_eq_some_iff]
          exact ⟨l, h2, m, h3, n, h4, by rw [if_pos ‹_›]⟩
        · cases h
      · rename_i o g off len clip
        have hn := ql2 hkn h1 (fun c hx => by subst hx; exact hc) (o := o) rfl
        split at h
        · rename_i ho
          simp only [Option.bind_eq_some_iff] at h
          obtain ⟨l, h2, m, h3, n, h4, h⟩ := h
          split at h
          · cases h
            refine ⟨_, h1, ?_⟩
            simp only [qnh ho hn, Option.bind_eq_some_iff]
            exact ⟨l, h2, m, h3, n, h4, by rw [if_pos ‹_›]⟩
          · cases h
        · cases h
      · cases h
    case iaddr sz x i =>
      simp only [qri] at hc
      simp only [qai, Option.bind_eq_some_iff] at h ⊢
      obtain ⟨p, h1, n, h2, h⟩ := h
      split at h
      · rename_i k n
        split at h
        · rename_i h0
          split at h
          · simp only [Option.bind_eq_some_iff] at h
            obtain ⟨c, h3, h⟩ := h
            split at h
            · cases h
              refine ⟨_, h1, _, h2, ?_⟩
              simp only [if_pos h0, Option.bind_eq_some_iff]
              exact ⟨c, h3, by rw [if_pos ‹_›]⟩
            · cases h
          · rename_i o g off len clip
            have hn := ql2 hkn h1 (fun c hx => by subst hx; exact hc) (o := o) rfl
            split at h
            · rename_i ho
              split at h
              · cases h
                refine ⟨_, h1, _, h2, ?_⟩
                simp only [if_pos h0, qnh ho hn]
                rw [if_pos ‹_›]
              · cases h
            · cases h
          · cases h
        · cases h
      · cases h
  | _ => cases hk
def qme (τ : qr) : Prop := ∀ ob ∈ τ, ob ≠ SObj.hole
theorem q39 : ∀ {os : List (Nat × Nat)} {σ σ2 : qr} {cs cs2 : List AV}, q25 σ cs os = some (cs2, σ2) → ∃ ρ, σ2 = σ ++ ρ ∧ qme ρ ∧ ∀ τ : qr, τ.length = σ.length → q25 τ cs os = some (cs2, τ ++ ρ)
  | [], σ, σ2, cs, cs2, h => by simp only [q25] at h; cases h; exact ⟨[], by simp, by simp [qme], fun τ _ => by simp [q25]⟩
  | (off, sz) :: os, σ, σ2, cs, cs2, h => by
    simp only [q25] at h
    split at h
    · rename_i hc
      split at h
      · rename_i h0
        obtain ⟨ρ, rfl, h1, h2⟩ := q39 h
        refine ⟨[.row sz [] 0] ++ ρ, by simp, fun ob hob => ?_, fun τ hτ => ?_⟩
        · rcases List.mem_append.1 hob with hob | hob
          · rw [List.mem_singleton] at hob; subst hob; simp
          · exact h1 ob hob
        · simp only [q25, hc, if_pos h0, hτ]
          have := h2 (τ ++ [.row sz [] 0]) (by simp [hτ])
          rw [List.append_assoc] at this
          exact this
      · cases h
    · cases h
theorem qx7 {it : Item'} {r : AV} (hk : it.kind = .read) (h : qba O e σ it = some (r, σ')) : σ' = σ := by
  cases it with
  | op c => simp only [Item'.kind] at hk; cases c <;> simp only [COp.kind] at hk <;> cases hk
  | callR k as =>
    simp only [qba, Option.bind_eq_some_iff] at h
    obtain ⟨vs, _, ⟨u, τ⟩, _, h⟩ := h
    split at h
    · cases h; rfl
    · cases h
  | callP _ _ => cases hk
  | callA _ _ => cases hk
  | callI _ _ => cases hk
  | callF _ _ => cases hk
  | callH _ _ _ => cases hk
  | callv _ _ => cases hk
theorem qwr {it : Item'} {r : AV} (hk : it.kind = .alloc) (h : qba O e σ it = some (r, σ')) : ∃ ρ, σ' = σ ++ ρ ∧ qme ρ ∧ ∀ τ, Up σ τ → τ.length = σ.length → qba O e τ it = some (r, τ ++ ρ) := by
  cases it with
  | op c =>
    simp only [Item'.kind] at hk
    simp only [qba] at h ⊢
    cases c
    case buildO =>
      simp only [qai, Option.bind_eq_some_iff] at h ⊢
      obtain ⟨cs, h1, ⟨cs2, σ2⟩, h2, h⟩ := h
      cases h
      obtain ⟨ρ, q1, q2, q3⟩ := q39 h2
      exact ⟨ρ, q1, q2, fun τ _ hl => ⟨cs, h1, _, q3 τ hl, rfl⟩⟩
    case mkslO =>
      simp only [qai, Option.bind_eq_some_iff] at h ⊢
      obtain ⟨l, h1, c, h2, h⟩ := h
      split at h
      · split at h
        · cases h
          refine ⟨_, rfl, fun ob hob => ?_, fun τ _ hl => ⟨_, h1, _, h2, ?_⟩⟩
          · rcases List.mem_append.1 hob with hob | hob
            · rw [List.eq_of_mem_replicate hob]; simp
            · rw [List.mem_singleton] at hob; subst hob; simp
          · simp only [hl]
            rw [if_pos ‹_›]
        · cases h
      · cases h
    case appN =>
      simp only [qai, Option.bind_eq_some_iff] at h ⊢
      obtain ⟨a, h1, y, h2, xs, h3, h⟩ := h
      split at h
      · split at h
        · rename_i hc
          split at h
          · rename_i hc2
            cases h
            exact ⟨[], by simp, by simp [qme], fun τ hu hl => ⟨_, h1, _, h2, _, qqp hu h3, by simp only [if_pos hc, if_pos hc2]; simp⟩⟩
          · rename_i hc2
            cases h
            exact ⟨_, rfl, by simp [qme], fun τ hu hl => ⟨_, h1, _, h2, _, qqp hu h3, by simp only [if_pos hc, if_neg hc2, hl]⟩⟩
        · cases h
      · cases h
    case appF =>
      simp only [qai, Option.bind_eq_some_iff] at h ⊢
      obtain ⟨a, h1, y, h2, xs, h3, h⟩ := h
      split at h
      · split at h
        · rename_i hc
          split at h
          · rename_i hc2
            cases h
            exact ⟨[], by simp, by simp [qme], fun τ hu hl => ⟨_, h1, _, h2, _, qqp hu h3, by simp only [if_pos hc, if_pos hc2]; simp⟩⟩
          · rename_i hc2
            cases h
            exact ⟨_, rfl, by simp [qme], fun τ hu hl => ⟨_, h1, _, h2, _, qqp hu h3, by simp only [if_pos hc, if_neg hc2]⟩⟩
        · cases h
      · cases h
    all_goals simp only [COp.kind] at hk
    all_goals first
      | (cases hk; done)
      | (simp only [qai] at h ⊢
         (repeat' (first | (obtain ⟨_, _, h⟩ := h) | split at h | rw [Option.bind_eq_some_iff] at h)) <;> first
           | (cases h; done)
           | (cases h; exact ⟨_, rfl, by simp [qme], fun τ _ hl => by simp_all⟩)
           | exact ⟨_, rfl, by simp [qme], fun τ _ hl => by simp_all⟩)
  | callA k as =>
    simp only [qba, Option.bind_eq_some_iff] at h ⊢
    obtain ⟨vs, h1, h⟩ := h
    split at h
    · rename_i hlo
      rw [Option.bind_eq_some_iff] at h
      obtain ⟨⟨u, s⟩, h2, h⟩ := h
      rw [Option.bind_eq_some_iff] at h
      obtain ⟨v, h3, h⟩ := h
      cases h
      refine ⟨v, rfl, fun ob hob => ?_, fun τ _ hl => ⟨vs, h1, ?_⟩⟩
      · have : ∀ {l : List SObj} {m : List SObj}, qgn (q1h σ.length) l = some m → ∀ ob ∈ m, ob ≠ .hole := by
          intro l
          induction l with
          | nil => intro m hm ob hob; simp only [qgn] at hm; cases hm; cases hob
          | cons x l ih =>
            intro m hm ob hob
            simp only [qgn, Option.bind_eq_some_iff] at hm
            obtain ⟨y, hy, ys, hys, hm⟩ := hm
            cases hm
            rcases List.mem_cons.1 hob with rfl | hob
            · unfold q1h at hy
              split at hy <;> first | (cases hy; simp; done) | (cases hy; done)
            · exact ih hys ob hob
        exact this h3 ob hob
      · rw [if_pos hlo, hl]
        simp [h2, h3]
    · cases h
  | callP _ _ => cases hk
  | callI _ _ => cases hk
  | callF _ _ => cases hk
  | callH _ _ _ => cases hk
  | callR _ _ => cases hk
  | callv _ _ => cases hk
theorem qqt {it : Item'} {r : AV} (hk : it.kind = .alloc ∨ it.kind = .room) (h : qba O e σ it = some (r, σ')) : ∃ τ, σ' = σ ++ τ := by
  rcases hk with hk | hk
  · obtain ⟨ρ, h1, _⟩ := qwr hk h; exact ⟨ρ, h1⟩
  cases it with
  | op c =>
    simp only [Item'.kind] at hk
    simp only [qba] at h
    cases c
    all_goals simp only [COp.kind] at hk
    all_goals first
      | (cases hk; done)
      | (simp only [qai] at h
         (repeat' (first | (obtain ⟨_, _, h⟩ := h) | split at h | rw [Option.bind_eq_some_iff] at h)) <;> first
           | (cases h; done)
           | (cases h; exact ⟨_, rfl⟩)
           | exact ⟨_, rfl⟩)
  | callA _ _ => cases hk
  | callP _ _ => cases hk
  | callI _ _ => cases hk
  | callF _ _ => cases hk
  | callH _ _ _ => cases hk
  | callR _ _ => cases hk
  | callv _ _ => cases hk
theorem qxu {it : Item'} {r : AV} (hk : it.kind = .fill) (h : qba O e σ it = some (r, σ')) : ∃ p ob, σ[p]? = some .hole ∧ σ' = σ.set p ob ∧ ∀ τ : qr, τ[p]? = some .hole → qba O e τ it = some (r, τ.set p ob) := by
  cases it with
  | op c =>
    simp only [Item'.kind] at hk
    simp only [qba] at h ⊢
    cases c
    case allocH base z =>
      simp only [qai, Option.bind_eq_some_iff] at h ⊢
      obtain ⟨y, h1, h⟩ := h
      split at h
      · split at h
        · rename_i hh
          split at h
          · cases h
            exact ⟨_, _, hh, rfl, fun τ hτ => ⟨_, h1, by simp only [hτ]; rw [if_pos ‹_›]⟩⟩
          · cases h
        · cases h
      · cases h
    all_goals simp only [COp.kind] at hk
    all_goals cases hk
  | callH k as pos =>
    simp only [qba, Option.bind_eq_some_iff] at h ⊢
    obtain ⟨vs, h1, h⟩ := h
    split at h
    · rename_i hlo
      rw [Option.bind_eq_some_iff] at h
      obtain ⟨⟨u, s⟩, h2, h⟩ := h
      simp only at h
      split at h
      · split at h
        · rename_i ho
          split at h
          · rename_i hg
            rw [Option.bind_eq_some_iff] at h
            obtain ⟨es', h3, h⟩ := h
            split at h
            · rename_i hh
              cases h
              refine ⟨_, _, hh, rfl, fun τ hτ => ⟨vs, h1, ?_⟩⟩
              rw [if_pos hlo, h2]
              simp only [Option.bind_some, ho]
              rw [if_pos hg, h3]
              simp only [Option.bind_some, hτ]
            · cases h
          · cases h
        · cases h
      · cases h
    · cases h
  | callA _ _ => cases hk
  | callP _ _ => cases hk
  | callI _ _ => cases hk
  | callF _ _ => cases hk
  | callR _ _ => cases hk
  | callv _ _ => cases hk
end Go.Ev
namespace Go.Ev
variable {O : Orc} {e e' : Env} {σ σ' τ : qr}
def Env.put (e : Env) (d : Option Nat) : Option AV → Env
  | some r => e.set d r
  | none => e.forget d
theorem q0z (e : Env) (d : Option Nat) (x : Option AV) (t : Nat) : (e.put d x).get t = if d = some t then x else e.get t := by
  cases x with
  | some r => exact quj e d r t
  | none => exact q5x e d t
theorem qxm (e : Env) (d : Option Nat) (x : Option AV) : (e.put d x).marks = e.marks := by cases x <;> simp [Env.put]
theorem Eqv.put (h : Eqv e e') (d : Option Nat) (x : Option AV) : Eqv (e.put d x) (e'.put d x) := ⟨fun t => by rw [q0z, q0z, h.1], by rw [qxm, qxm, h.2]⟩
theorem qsn (e : Env) {d d' : Option Nat} (h : ∀ k, d = some k → d' ≠ some k) (x y : Option AV) : Eqv ((e.put d x).put d' y) ((e.put d' y).put d x) := by
  refine ⟨fun t => ?_, by simp [qxm]⟩
  simp only [q0z]
  by_cases h1 : d = some t
  · rw [if_neg (h t h1), if_pos h1, if_pos h1]
  · simp [h1]
theorem qfk {o : COper} {e1 : Env} {σ1 τ1 : qr} (h : qe O e σ o = some (e1, σ1)) (ha : qkw o.reads e e') (hit : ∀ r, qba O e σ o.it = some (r, σ1) → qba O e τ o.it = some (r, τ1)) (hsk : σ1 = σ → τ1 = τ) :
    ∃ x, e1 = e.put o.dst x ∧ qe O e' τ o = some (e'.put o.dst x, τ1) := by
  have ha' : qkw (qo1 o.it) e e' := by rw [qq0] at ha; exact ha.right
  obtain ⟨e1', h1, h2⟩ := qxn (τ := τ) (τ1 := τ1) h ha (fun r hr => ⟨hr, by rw [← qho ha']; exact hit r hr⟩) hsk
  rcases h2 with ⟨r, rfl, rfl⟩ | ⟨rfl, rfl⟩
  · exact ⟨some r, rfl, h1⟩
  · exact ⟨some (.tup []), rfl, h1⟩
theorem qgs {o : COper} {e1 : Env} {σ1 : qr} (h : qe O e σ o = some (e1, σ1)) : σ1 = σ ∨ ∃ r, qba O e σ o.it = some (r, σ1) := by
  rcases ql3.1 h with ⟨_, r, h, _⟩ | ⟨_, _, h⟩
  · exact .inr ⟨r, h⟩
  · exact .inl h
structure Ap (a b : COper) : Prop where
  free : a.it.kind.free b.it.kind = true ∨ q57 a.it b.it = true
  r1 : ∀ d, a.dst = some d → d ∉ b.reads
  r2 : ∀ d, b.dst = some d → d ∉ a.reads
  ne : ∀ d, b.dst = some d → a.dst ≠ some d
theorem ap_of {a b : COper} (h : q4d a b = true) : Ap a b := by
  unfold q4d at h
  simp only [Bool.and_eq_true, Bool.or_eq_true] at h
  obtain ⟨h1, h2, h3, h4⟩ := h
  refine ⟨h1, fun d hd => ?_, fun d hd => ?_, fun d hd h5 => ?_⟩
  · simpa [disj, hd] using h2
  · simpa [disj, hd] using h3
  · simp [hd, h5] at h4
theorem qpu {l : List Nat} {d : Option Nat} {x : Option AV} (h : ∀ k, d = some k → k ∉ l) : qkw l e (e.put d x) := fun t ht => by
  rw [q0z, if_neg]
  intro h2
  exact h t h2 ht
theorem qq1 {d : Option Nat} {x : Option AV} : ∀ {l : List COper} {e e1 : Env} {σ σ1 : qr}, (∀ a ∈ l, (∀ k, d = some k → k ∉ a.reads) ∧ (∀ k, d = some k → a.dst ≠ some k)) → qb O l e σ = some (e1, σ1) →
    ∃ e1', qb O l (e.put d x) σ = some (e1', σ1) ∧ Eqv e1' (e1.put d x)
  | [], e, e1, σ, σ1, _, h => by simp only [qb] at h ⊢; cases h; exact ⟨_, rfl, Eqv.refl _⟩
  | o :: l, e, e1, σ, σ1, hl, h => by
    simp only [qb, Option.bind_eq_some_iff] at h
    obtain ⟨⟨e2, σ2⟩, h1, h2⟩ := h
    obtain ⟨ha, hb⟩ := hl o (by simp)
    obtain ⟨y, rfl, h4⟩ := qfk (τ := σ) (τ1 := σ2) h1 (qpu (d := d) (x := x) ha) (fun r hr => hr) (fun h => h)
    obtain ⟨e3, h5, h6⟩ := qq1 (d := d) (x := x) (fun a ha => hl a (List.mem_cons_of_mem _ ha)) h2
    obtain ⟨e4, h7, h8⟩ := qj6 (qsn e (d := o.dst) (d' := d) (fun k hk hd => hb k hd hk) y x) h5
    exact ⟨e4, by simp only [qb, h4, Option.bind_some]; exact h7, h8.symm.trans h6⟩
theorem qft {d : Option Nat} {x : Option AV} : ∀ {l : List COper} {e e1 : Env} {σ σ1 τ : qr}, (∀ a ∈ l, (∀ k, d = some k → k ∉ a.reads) ∧ (∀ k, d = some k → a.dst ≠ some k)) →
    ((∀ a ∈ l, a.it.kind = .pure) ∨ ((∀ a ∈ l, a.it.kind = .pure ∨ a.it.kind = .load) ∧ ∃ ρ, τ = σ ++ ρ)) → qb O l e σ = some (e1, σ1) →
    σ1 = σ ∧ ∃ e1', qb O l (e.put d x) τ = some (e1', τ) ∧ Eqv e1' (e1.put d x)
  | [], e, e1, σ, σ1, τ, _, _, h => by simp only [qb] at h ⊢; cases h; exact ⟨rfl, _, rfl, Eqv.refl _⟩
  | o :: l, e, e1, σ, σ1, τ, hl, hk, h => by
    simp only [qb, Option.bind_eq_some_iff] at h
    obtain ⟨⟨e2, σ2⟩, h1, h2⟩ := h
    obtain ⟨ha, hb⟩ := hl o (by simp)
    have hone : ∀ r, qba O e σ o.it = some (r, σ2) → σ2 = σ ∧ qba O e τ o.it = some (r, τ) := fun r hr => by
      rcases hk with hk | ⟨hk, ρ, rfl⟩
      · exact ⟨(qfl (hk o (by simp)) hr).1, (qfl (hk o (by simp)) hr).2 τ⟩
      · rcases hk o (by simp) with hk | hk
        · exact ⟨(qfl hk hr).1, (qfl hk hr).2 _⟩
        · exact qxz hk hr ρ
    have hσ : σ2 = σ := by
      rcases qgs h1 with h | ⟨r, hr⟩
      · exact h
      · exact (hone r hr).1
    subst hσ
    obtain ⟨y, rfl, h4⟩ := qfk (τ := τ) (τ1 := τ) h1 (qpu (d := d) (x := x) ha) (fun r hr => (hone r hr).2) (fun _ => rfl)
    obtain ⟨h9, e3, h5, h6⟩ := qft (d := d) (x := x) (τ := τ) (fun a ha => hl a (List.mem_cons_of_mem _ ha)) (hk.imp (fun hk a ha => hk a (List.mem_cons_of_mem _ ha)) (fun hk => ⟨fun a ha => hk.1 a (List.mem_cons_of_mem _ ha), hk.2⟩)) h2
    obtain ⟨e4, h7, h8⟩ := qj6 (qsn e (d := o.dst) (d' := d) (fun k hk hd => hb k hd hk) y x) h5
    exact ⟨h9, e4, by simp only [qb, h4, Option.bind_some]; exact h7, h8.symm.trans h6⟩
theorem qwj {d : Option Nat} {x : Option AV} : ∀ {l : List COper} {e e1 : Env} {σ σ1 : qr}, (∀ a ∈ l, (∀ k, d = some k → k ∉ a.reads) ∧ (∀ k, d = some k → a.dst ≠ some k)) →
    (∀ a ∈ l, a.it.kind = .pure ∨ a.it.kind = .load ∨ a.it.kind = .alloc) → qb O l e σ = some (e1, σ1) →
    ∃ ρ, σ1 = σ ++ ρ ∧ qme ρ ∧ ∀ τ : qr, Up σ τ → τ.length = σ.length → ∃ e1', qb O l (e.put d x) τ = some (e1', τ ++ ρ) ∧ Eqv e1' (e1.put d x)
  | [], e, e1, σ, σ1, _, _, h => by simp only [qb] at h ⊢; cases h; exact ⟨[], by simp, by simp [qme], fun τ _ _ => ⟨_, by simp, Eqv.refl _⟩⟩
  | o :: l, e, e1, σ, σ1, hl, hk, h => by
    simp only [qb, Option.bind_eq_some_iff] at h
    obtain ⟨⟨e2, σ2⟩, h1, h2⟩ := h
    obtain ⟨ha, hb⟩ := hl o (by simp)
    have hone : ∃ ρ, σ2 = σ ++ ρ ∧ qme ρ ∧ ∀ τ : qr, Up σ τ → τ.length = σ.length → (∀ r, qba O e σ o.it = some (r, σ2) → qba O e τ o.it = some (r, τ ++ ρ)) ∧ (σ2 = σ → τ ++ ρ = τ) := by
      rcases qgs h1 with rfl | ⟨r0, hr0⟩
      · refine ⟨[], by simp, by simp [qme], fun τ hu hle => ⟨fun r hr => ?_, fun _ => by simp⟩⟩
        rcases hk o (by simp) with hk | hk | hk
        · simpa using (qfl hk hr).2 τ
        · simpa using (qwh hk hr hu).2
        · obtain ⟨ρ, q1, _, q3⟩ := qwr hk hr
          have : ρ = [] := by
            have := congrArg List.length q1
            simp at this
            exact this
          subst this
          exact q3 τ hu hle
      · rcases hk o (by simp) with hk | hk | hk
        · obtain ⟨rfl, _⟩ := qfl hk hr0
          exact ⟨[], by simp, by simp [qme], fun τ hu hle => ⟨fun r hr => by simpa using (qfl hk hr).2 τ, fun _ => by simp⟩⟩
        · obtain ⟨rfl, _⟩ := qwh hk hr0 (Up.refl σ)
          exact ⟨[], by simp, by simp [qme], fun τ hu hle => ⟨fun r hr => by simpa using (qwh hk hr hu).2, fun _ => by simp⟩⟩
        · obtain ⟨ρ, q1, q2, q3⟩ := qwr hk hr0
          refine ⟨ρ, q1, q2, fun τ hu hle => ⟨fun r hr => ?_, fun h => ?_⟩⟩
          · rw [hr0] at hr; cases hr; exact q3 τ hu hle
          · rw [q1] at h
            have := congrArg List.length h
            simp at this
            rw [this]; simp
    obtain ⟨ρ, rfl, hn, hone⟩ := hone
    obtain ⟨y, rfl, h4⟩ := qfk (τ := σ) (τ1 := σ ++ ρ) h1 (fun _ _ => rfl) (fun r hr => hr) (fun h => h)
    obtain ⟨ρ2, rfl, hn2, hrec⟩ := qwj (d := d) (x := x) (fun a ha => hl a (List.mem_cons_of_mem _ ha)) (fun a ha => hk a (List.mem_cons_of_mem _ ha)) h2
    refine ⟨ρ ++ ρ2, by simp, fun ob hob => (List.mem_append.1 hob).elim (hn ob) (hn2 ob), fun τ hu hle => ?_⟩
    obtain ⟨q1, q2⟩ := hone τ hu hle
    obtain ⟨y', hy', h5⟩ := qfk (τ := τ) (τ1 := τ ++ ρ) h1 (qpu (d := d) (x := x) ha) q1 q2
    have hyy : Eqv (e.put o.dst y) (e.put o.dst y') := by rw [hy']; exact Eqv.refl _
    obtain ⟨e3, h6, h7⟩ := hrec (τ ++ ρ) (hu.more hle ρ) (by simp [hle])
    have hc : Eqv ((e.put o.dst y).put d x) ((e.put d x).put o.dst y') := (hyy.put d x).trans (qsn e (d := o.dst) (d' := d) (fun k hk hd => hb k hd hk) y' x)
    obtain ⟨e4, h8, h9⟩ := qj6 hc h6
    exact ⟨e4, by simp only [qb, h5, Option.bind_some]; rw [h8]; simp, h9.symm.trans h7⟩
theorem qo7 {a b : Item'} (h : q57 a b = true) : (∃ s ag x av s' t y, a = .op (.ldD s ag x av) ∧ b = .op (.st s' (.t t) y) ∧ av.contains t = true) ∨ ∃ s ag x t s' n y z av, a = .op (.ldB s ag x t) ∧ b = .op (.appB s' n y z av) ∧ av.contains t = true := by
  unfold q57 at h
  split at h
  · exact .inl ⟨_, _, _, _, _, _, _, rfl, rfl, h⟩
  · exact .inr ⟨_, _, _, _, _, _, _, _, _, rfl, rfl, h⟩
  · cases h
theorem qmm {a b : Item'} (h : q57 a b = true) : b.kind = .write := by
  rcases qo7 h with ⟨_, _, _, _, _, _, _, _, q, _⟩ | ⟨_, _, _, _, _, _, _, _, _, _, q, _⟩ <;> rw [q] <;> rfl
theorem qud {p : AV} : ∀ {l : List Nat} {t : Nat}, qmh e p l = true → l.contains t = true → ∃ o g i off, e.get t = some (.ptr o g i off) ∧ ∀ o', p.obj? = some o' → o' ≠ o
  | [], t, _, h => by simp at h
  | u :: l, t, h, ht => by
    simp only [qmh] at h
    split at h
    · rename_i o g i off hu
      simp only [Bool.and_eq_true] at h
      by_cases hut : t = u
      · subst hut
        refine ⟨o, g, i, off, hu, fun o' ho' => ?_⟩
        have h1 := h.1
        rw [ho'] at h1
        simp only [Bool.not_eq_true', beq_eq_false_iff_ne, ne_eq] at h1
        exact fun e => h1 e.symm
      · refine qud h.2 ?_
        simpa [List.contains_cons, hut] using ht
    · cases h
theorem q8h {s : Nat} {ag : Bool} {x : Opnd} {t : Nat} {r p : AV} {av : List Nat} (h : qba O e σ (.op (.ldB s ag x t)) = some (r, σ')) (ht : av.contains t = true) (ha : qmh e p av = true) (hτ : ∀ (k : Nat) (ob : SObj), σ[k]? = some ob → p.obj? ≠ some k → τ[k]? = some ob) :
    σ' = σ ∧ qba O e τ (.op (.ldB s ag x t)) = some (r, τ) := by
  simp only [qba, qai, Option.bind_eq_some_iff] at h ⊢
  obtain ⟨q, h1, h⟩ := h
  split at h
  · rename_i hb
    simp only [Option.bind_eq_some_iff] at h
    obtain ⟨cs, h2, v, h3, h⟩ := h
    cases h
    refine ⟨rfl, q, h1, ?_⟩
    rw [if_pos hb]
    simp only [Option.bind_eq_some_iff]
    refine ⟨cs, ?_, _, h3, rfl⟩
    obtain ⟨o2, g2, i2, off2, k1, k2⟩ := qud ha ht
    unfold qf at h2 ⊢
    cases q <;> simp only at h2 ⊢ <;> try exact h2
    rename_i o' g' i' off'
    have ho' : o' = o2 := by
      simp only [q7p, AV.obj?, k1] at hb
      simpa using hb
    subst ho'
    cases ho : σ[o']? with
    | none => rw [ho] at h2; cases h2
    | some ob =>
      rw [hτ o' ob ho (fun hc => k2 o' hc rfl)]
      rw [ho] at h2; exact h2
  · cases h
theorem qu6 {d : Option Nat} {x : Option AV} {p : AV} {av : List Nat} : ∀ {l : List COper} {e e1 : Env} {σ σ1 τ : qr}, (∀ a ∈ l, (∀ k, d = some k → k ∉ a.reads) ∧ (∀ k, d = some k → a.dst ≠ some k)) →
    (∀ a ∈ l, (∀ t, t ∈ av → a.dst ≠ some t) ∧ (a.it.kind = .pure ∨ ∃ s ag y t, a.it = .op (.ldB s ag y t) ∧ av.contains t = true)) → qmh e p av = true → (∀ (k : Nat) (ob : SObj), σ[k]? = some ob → p.obj? ≠ some k → τ[k]? = some ob) → qb O l e σ = some (e1, σ1) →
    σ1 = σ ∧ ∃ e1', qb O l (e.put d x) τ = some (e1', τ) ∧ Eqv e1' (e1.put d x)
  | [], e, e1, σ, σ1, τ, _, _, _, _, h => by simp only [qb] at h ⊢; cases h; exact ⟨rfl, _, rfl, Eqv.refl _⟩
  | q :: l, e, e1, σ, σ1, τ, hl, hk, het, hτ, h => by
    simp only [qb, Option.bind_eq_some_iff] at h
    obtain ⟨⟨e2, σ2⟩, h1, h2⟩ := h
    obtain ⟨ha, hb⟩ := hl q (by simp)
    obtain ⟨hd, hkq⟩ := hk q (by simp)
    have hone : ∀ r, qba O e σ q.it = some (r, σ2) → σ2 = σ ∧ qba O e τ q.it = some (r, τ) := fun r hr => by
      rcases hkq with hkq | ⟨s, ag, y, t, hit, hav⟩
      · exact ⟨(qfl hkq hr).1, (qfl hkq hr).2 τ⟩
      · rw [hit] at hr ⊢
        exact q8h hr hav het hτ
    have hσ : σ2 = σ := by
      rcases qgs h1 with h | ⟨r, hr⟩
      · exact h
      · exact (hone r hr).1
    subst hσ
    have het2 : qmh e2 p av = true := by
      rw [← het]
      exact qpa fun t ht => (qub h1).get (hd t ht)
    obtain ⟨y, rfl, h4⟩ := qfk (τ := τ) (τ1 := τ) h1 (qpu (d := d) (x := x) ha) (fun r hr => (hone r hr).2) (fun _ => rfl)
    obtain ⟨h9, e3, h5, h6⟩ := qu6 (d := d) (x := x) (τ := τ) (fun a ha => hl a (List.mem_cons_of_mem _ ha)) (fun a ha => hk a (List.mem_cons_of_mem _ ha)) het2 hτ h2
    obtain ⟨e4, h7, h8⟩ := qj6 (qsn e (d := q.dst) (d' := d) (fun k hk hd => hb k hd hk) y x) h5
    exact ⟨h9, e4, by simp only [qb, h4, Option.bind_some]; exact h7, h8.symm.trans h6⟩
theorem q7g {s n : Nat} {y z : Opnd} {av : List Nat} {r : AV} (h : qba O e σ (.op (.appB s n y z av)) = some (r, σ')) : ∃ p, y.ev e = some p ∧ qmh e p av = true ∧ ∀ (k : Nat) (ob : SObj), σ[k]? = some ob → p.obj? ≠ some k → σ'[k]? = some ob := by
  simp only [qba, qai, Option.bind_eq_some_iff] at h
  obtain ⟨p, h1, h⟩ := h
  split at h
  · rename_i haw
    simp only [Option.bind_eq_some_iff] at h
    obtain ⟨v, h2, xs, h3, h⟩ := h
    refine ⟨p, h1, haw, fun k ob hk hne => ?_⟩
    unfold qm4 at h
    split at h
    · split at h
      · split at h
        · split at h
          · split at h
            · cases h; exact hk
            · cases h
              rw [List.getElem?_set_ne (fun hc => hne (by rw [← hc]; rfl))]; exact hk
          · cases h
        · cases h
      · cases h
    · split at h
      · split at h
        · cases h; exact hk
        · cases h; exact q3j hk
      · cases h
    · cases h
  · cases h
theorem q8u {s : Nat} {ag : Bool} {x : Opnd} {av : List Nat} {r : AV} {t o g i off : Nat} (h : qba O e σ (.op (.ldD s ag x av)) = some (r, σ')) (ht : av.contains t = true) (he : e.get t = some (.ptr o g i off)) (hτ : ∀ k, k ≠ o → τ[k]? = σ[k]?) :
    σ' = σ ∧ qba O e τ (.op (.ldD s ag x av)) = some (r, τ) := by
  simp only [qba, qai, Option.bind_eq_some_iff] at h ⊢
  obtain ⟨p, h1, h⟩ := h
  split at h
  · rename_i haw
    simp only [Option.bind_eq_some_iff] at h
    obtain ⟨cs, h2, v, h3, h⟩ := h
    cases h
    refine ⟨rfl, p, h1, ?_⟩
    rw [if_pos haw]
    simp only [Option.bind_eq_some_iff]
    refine ⟨cs, ?_, _, h3, rfl⟩
    obtain ⟨o2, g2, i2, off2, k1, k2⟩ := qud haw ht
    rw [he] at k1
    cases k1
    unfold qf at h2 ⊢
    cases p <;> simp only at h2 ⊢ <;> try exact h2
    rename_i o' g' i' off'
    rw [hτ o' (k2 o' rfl)]
    exact h2
  · cases h
theorem qyc {d : Option Nat} {x : Option AV} {t o g i off : Nat} : ∀ {l : List COper} {e e1 : Env} {σ σ1 τ : qr}, (∀ a ∈ l, (∀ k, d = some k → k ∉ a.reads) ∧ (∀ k, d = some k → a.dst ≠ some k)) →
    (∀ a ∈ l, a.dst ≠ some t ∧ (a.it.kind = .pure ∨ ∃ s ag y av, a.it = .op (.ldD s ag y av) ∧ av.contains t = true)) → e.get t = some (.ptr o g i off) → (∀ k, k ≠ o → τ[k]? = σ[k]?) → qb O l e σ = some (e1, σ1) →
    σ1 = σ ∧ ∃ e1', qb O l (e.put d x) τ = some (e1', τ) ∧ Eqv e1' (e1.put d x)
  | [], e, e1, σ, σ1, τ, _, _, _, _, h => by simp only [qb] at h ⊢; cases h; exact ⟨rfl, _, rfl, Eqv.refl _⟩
  | q :: l, e, e1, σ, σ1, τ, hl, hk, het, hτ, h => by
    simp only [qb, Option.bind_eq_some_iff] at h
    obtain ⟨⟨e2, σ2⟩, h1, h2⟩ := h
    obtain ⟨ha, hb⟩ := hl q (by simp)
    obtain ⟨hd, hkq⟩ := hk q (by simp)
    have hone : ∀ r, qba O e σ q.it = some (r, σ2) → σ2 = σ ∧ qba O e τ q.it = some (r, τ) := fun r hr => by
      rcases hkq with hkq | ⟨s, ag, y, av, hit, hav⟩
      · exact ⟨(qfl hkq hr).1, (qfl hkq hr).2 τ⟩
      · rw [hit] at hr ⊢
        exact q8u hr hav het hτ
    have hσ : σ2 = σ := by
      rcases qgs h1 with h | ⟨r, hr⟩
      · exact h
      · exact (hone r hr).1
    subst hσ
    have het2 : e2.get t = some (.ptr o g i off) := by rw [(qub h1).get hd]; exact het
    obtain ⟨y, rfl, h4⟩ := qfk (τ := τ) (τ1 := τ) h1 (qpu (d := d) (x := x) ha) (fun r hr => (hone r hr).2) (fun _ => rfl)
    obtain ⟨h9, e3, h5, h6⟩ := qyc (d := d) (x := x) (τ := τ) (fun a ha => hl a (List.mem_cons_of_mem _ ha)) (fun a ha => hk a (List.mem_cons_of_mem _ ha)) het2 hτ h2
    obtain ⟨e4, h7, h8⟩ := qj6 (qsn e (d := q.dst) (d' := d) (fun k hk hd => hb k hd hk) y x) h5
    exact ⟨h9, e4, by simp only [qb, h4, Option.bind_some]; exact h7, h8.symm.trans h6⟩
theorem qxb {L : List Nat} : ∀ {l : List COper} {e e1 : Env} {σ σ1 : qr}, (∀ a ∈ l, ∀ k, a.dst = some k → k ∉ L) → qb O l e σ = some (e1, σ1) → qkw L e1 e
  | [], e, e1, σ, σ1, _, h => by simp only [qb] at h; cases h; exact fun _ _ => rfl
  | o :: l, e, e1, σ, σ1, hl, h => by
    simp only [qb, Option.bind_eq_some_iff] at h
    obtain ⟨⟨e2, σ2⟩, h1, h2⟩ := h
    have h3 := qxb (fun a ha => hl a (List.mem_cons_of_mem _ ha)) h2
    intro t ht
    rw [h3 t ht, (qub h1).get (fun hd => hl o (by simp) t hd ht)]
theorem qzz : ∀ {l : List COper} {e e1 : Env} {σ σ1 : qr}, (∀ a ∈ l, a.it.kind ≠ .write ∧ a.it.kind ≠ .fill) → qb O l e σ = some (e1, σ1) → ∃ ρ, σ1 = σ ++ ρ
  | [], e, e1, σ, σ1, _, h => by simp only [qb] at h; cases h; exact ⟨[], by simp⟩
  | o :: l, e, e1, σ, σ1, hl, h => by
    simp only [qb, Option.bind_eq_some_iff] at h
    obtain ⟨⟨e2, σ2⟩, h1, h2⟩ := h
    obtain ⟨ρ, rfl⟩ := qzz (fun a ha => hl a (List.mem_cons_of_mem _ ha)) h2
    have : ∃ ρ', σ2 = σ ++ ρ' := by
      rcases qgs h1 with rfl | ⟨r, hr⟩
      · exact ⟨[], by simp⟩
      · cases hk : o.it.kind with
        | pure => exact ⟨[], by rw [(qfl hk hr).1]; simp⟩
        | load => exact ⟨[], by rw [(qxz hk hr []).1]; simp⟩
        | alloc => exact qqt (.inl hk) hr
        | room => exact qqt (.inr hk) hr
        | read => exact ⟨[], by rw [qx7 hk hr]; simp⟩
        | write => exact absurd hk (hl o (by simp)).1
        | fill => exact absurd hk (hl o (by simp)).2
    obtain ⟨ρ', rfl⟩ := this
    exact ⟨ρ' ++ ρ, by rw [List.append_assoc]⟩
theorem qw1 : ∀ {l : List COper} {e e1 : Env} {σ σ1 : qr}, (∀ a ∈ l, a.it.kind = .pure ∨ a.it.kind = .load ∨ a.it.kind = .read) → qb O l e σ = some (e1, σ1) → σ1 = σ
  | [], e, e1, σ, σ1, _, h => by simp only [qb] at h; cases h; rfl
  | o :: l, e, e1, σ, σ1, hl, h => by
    simp only [qb, Option.bind_eq_some_iff] at h
    obtain ⟨⟨e2, σ2⟩, h1, h2⟩ := h
    rw [qw1 (fun a ha => hl a (List.mem_cons_of_mem _ ha)) h2]
    rcases qgs h1 with h | ⟨r, hr⟩
    · exact h
    · rcases hl o (by simp) with hk | hk | hk
      · exact (qfl hk hr).1
      · exact (qxz hk hr []).1
      · exact qx7 hk hr
theorem q5s {l : List COper} {o : COper} {e1 e2 : Env} {σ1 σ2 : qr} (hl : ∀ a ∈ l, Ap a o) (hkn : Known σ.length e) (hc : qri o.it = true) (h1 : qb O l e σ = some (e1, σ1)) (h2 : qe O e1 σ1 o = some (e2, σ2)) :
    ∃ e1' τ, qe O e σ o = some (e1', τ) ∧ ∃ e2', qb O l e1' τ = some (e2', σ2) ∧ Eqv e2' e2 := by
  have hag : qkw o.reads e1 e := qxb (fun a ha k hk => (hl a ha).r1 k hk) h1
  have hag' : qkw (qo1 o.it) e1 e := by rw [qq0] at hag; exact hag.right
  have hd : ∀ a ∈ l, (∀ k, o.dst = some k → k ∉ a.reads) ∧ (∀ k, o.dst = some k → a.dst ≠ some k) := fun a ha => ⟨(hl a ha).r2, (hl a ha).ne⟩
  cases hk : o.it.kind with
  | pure =>
    have hσ : σ2 = σ1 := by
      rcases qgs h2 with h | ⟨r, hr⟩
      · exact h
      · exact (qfl hk hr).1
    subst hσ
    obtain ⟨x, rfl, h3⟩ := qfk (τ := σ) (τ1 := σ) h2 hag (fun r hr => (qfl hk hr).2 σ) (fun _ => rfl)
    obtain ⟨e3, h4, h5⟩ := qq1 (x := x) hd h1
    exact ⟨_, _, h3, e3, h4, h5⟩
  | load =>
    have hnw : ∀ a ∈ l, a.it.kind ≠ .write ∧ a.it.kind ≠ .fill := fun a ha => by
      rcases (hl a ha).free with this | this
      · rw [hk] at this
        revert this
        cases a.it.kind <;> simp [Kind.free]
      · rw [qmm this] at hk; cases hk
    obtain ⟨ρ, rfl⟩ := qzz hnw h1
    have hσ : σ2 = σ ++ ρ := by
      rcases qgs h2 with h | ⟨r, hr⟩
      · exact h
      · exact (qxz hk hr []).1
    subst hσ
    obtain ⟨x, rfl, h3⟩ := qfk (e' := e) (τ := σ) (τ1 := σ) h2 hag (fun r hr => by
      rw [qho hag'] at hr ⊢
      exact q8f hk hkn hc hr) (fun _ => rfl)
    obtain ⟨e3, h4, h5⟩ := qq1 (x := x) hd h1
    exact ⟨_, _, h3, e3, h4, h5⟩
  | alloc =>
    have hpl : ∀ a ∈ l, a.it.kind = .pure ∨ a.it.kind = .load := fun a ha => by
      rcases (hl a ha).free with this | this
      · rw [hk] at this
        revert this
        cases a.it.kind <;> simp [Kind.free]
      · rw [qmm this] at hk; cases hk
    have hσ : σ1 = σ := by
      have := qft (d := none) (x := none) (τ := σ) (fun a ha => ⟨fun k h => (by cases h), fun k h => (by cases h)⟩) (.inr ⟨hpl, [], by simp⟩) h1
      exact this.1
    subst hσ
    obtain ⟨x, rfl, h3⟩ := qfk (τ := σ1) (τ1 := σ2) h2 hag (fun r hr => hr) (fun h => h)
    have hρ : ∃ ρ, σ2 = σ1 ++ ρ := by
      rcases qgs h2 with rfl | ⟨r, hr⟩
      · exact ⟨[], by simp⟩
      · exact qqt (.inl hk) hr
    obtain ⟨_, e3, h4, h5⟩ := qft (x := x) (τ := σ2) hd (.inr ⟨hpl, hρ⟩) h1
    exact ⟨_, _, h3, e3, h4, h5⟩
  | room =>
    have hpl : ∀ a ∈ l, a.it.kind = .pure ∨ a.it.kind = .load := fun a ha => by
      rcases (hl a ha).free with this | this
      · rw [hk] at this
        revert this
        cases a.it.kind <;> simp [Kind.free]
      · rw [qmm this] at hk; cases hk
    have hσ : σ1 = σ := by
      have := qft (d := none) (x := none) (τ := σ) (fun a ha => ⟨fun k h => (by cases h), fun k h => (by cases h)⟩) (.inr ⟨hpl, [], by simp⟩) h1
      exact this.1
    subst hσ
    obtain ⟨x, rfl, h3⟩ := qfk (τ := σ1) (τ1 := σ2) h2 hag (fun r hr => hr) (fun h => h)
    have hρ : ∃ ρ, σ2 = σ1 ++ ρ := by
      rcases qgs h2 with rfl | ⟨r, hr⟩
      · exact ⟨[], by simp⟩
      · exact qqt (.inr hk) hr
    obtain ⟨_, e3, h4, h5⟩ := qft (x := x) (τ := σ2) hd (.inr ⟨hpl, hρ⟩) h1
    exact ⟨_, _, h3, e3, h4, h5⟩
  | fill =>
    have hpl : ∀ a ∈ l, a.it.kind = .pure ∨ a.it.kind = .load ∨ a.it.kind = .alloc := fun a ha => by
      rcases (hl a ha).free with this | this
      · rw [hk] at this
        revert this
        cases a.it.kind <;> simp [Kind.free]
      · rw [qmm this] at hk; cases hk
    obtain ⟨ρ0, q1, q2, _⟩ := qwj (d := none) (x := none) (fun a ha => ⟨fun k h => (by cases h), fun k h => (by cases h)⟩) hpl h1
    subst q1
    rcases ql3.1 h2 with ⟨hg, r, h3, rfl⟩ | ⟨hg, rfl, rfl⟩
    · obtain ⟨p, ob, f1, f2, f3⟩ := qxu hk h3
      have hp : p < σ.length := by
        rcases Nat.lt_or_ge p σ.length with hlt | hge
        · exact hlt
        · rw [List.getElem?_append_right hge] at f1
          exact absurd rfl (q2 _ (List.mem_of_getElem? f1))
      have f4 : σ[p]? = some .hole := qnh f1 hp
      subst f2
      obtain ⟨x, hx, h4⟩ := qfk (e' := e) (τ := σ) (τ1 := σ.set p ob) h2 hag (fun r hr => by
        rw [qho hag'] at hr ⊢
        obtain ⟨p', ob', g1, g2, g3⟩ := qxu hk hr
        have hpp : qba O e σ o.it = some (r, σ.set p ob) := by
          have g4 := g3 (σ ++ ρ0) g1
          rw [qho hag'] at h3
          have g5 := f3
          have := f3 σ f4
          rw [qho hag'] at this
          have g6 := f3 (σ ++ ρ0) f1
          rw [qho hag', hr] at g6
          rw [show r = _ from by cases g6; rfl]
          exact this
        exact hpp) (fun hs => by
        have : (σ ++ ρ0)[p]? = ((σ ++ ρ0).set p ob)[p]? := by rw [hs]
        rw [f1, List.getElem?_set_self (by simp; omega)] at this
        rw [← Option.some.inj this]
        obtain ⟨hlt, hge⟩ := List.getElem?_eq_some_iff.1 f4
        rw [← hge, List.set_getElem_self])
      obtain ⟨ρ, q3, _, q4⟩ := qwj (d := o.dst) (x := x) hd hpl h1
      have hρ : ρ = ρ0 := List.append_cancel_left q3.symm
      subst hρ
      obtain ⟨e3, h5, h6⟩ := q4 (σ.set p ob) (Up.fill f4) (by simp)
      refine ⟨_, _, h4, e3, ?_, ?_⟩
      · rw [h5, List.set_append_left _ _ hp]
      · rw [hx]; exact h6
    · obtain ⟨x, hx, h4⟩ := qfk (e' := e) (τ := σ) (τ1 := σ) h2 hag (fun r hr => by
        obtain ⟨p', ob', g1, g2, g3⟩ := qxu hk hr
        have hp : p' < σ.length := by
          rcases Nat.lt_or_ge p' σ.length with hlt | hge
          · exact hlt
          · rw [List.getElem?_append_right hge] at g1
            exact absurd rfl (q2 _ (List.mem_of_getElem? g1))
        have g4 : σ[p']? = some .hole := qnh g1 hp
        have g5 := g3 σ g4
        have hob : ob' = .hole := by
          have : (σ ++ ρ0)[p']? = ((σ ++ ρ0).set p' ob')[p']? := by rw [← g2]
          rw [g1, List.getElem?_set_self (by simp; omega)] at this
          exact (Option.some.inj this).symm
        subst hob
        rw [g5]
        obtain ⟨hlt, hge⟩ := List.getElem?_eq_some_iff.1 g4
        rw [← hge, List.set_getElem_self]) (fun _ => rfl)
      obtain ⟨ρ, q3, _, q4⟩ := qwj (d := o.dst) (x := x) hd hpl h1
      have hρ : ρ = ρ0 := List.append_cancel_left q3.symm
      subst hρ
      obtain ⟨e3, h5, h6⟩ := q4 σ (Up.refl σ) rfl
      refine ⟨_, _, h4, e3, h5, ?_⟩
      rw [hx]; exact h6
  | read =>
    have hpl : ∀ a ∈ l, a.it.kind = .pure ∨ a.it.kind = .load ∨ a.it.kind = .read := fun a ha => by
      rcases (hl a ha).free with this | this
      · rw [hk] at this
        revert this
        cases a.it.kind <;> simp [Kind.free]
      · rw [qmm this] at hk; cases hk
    have hσ := qw1 hpl h1
    subst hσ
    have hσ2 : σ2 = σ1 := by
      rcases qgs h2 with h | ⟨r, hr⟩
      · exact h
      · exact qx7 hk hr
    subst hσ2
    obtain ⟨x, rfl, h3⟩ := qfk (τ := σ2) (τ1 := σ2) h2 hag (fun r hr => hr) (fun h => h)
    obtain ⟨e3, h4, h5⟩ := qq1 (x := x) hd h1
    exact ⟨_, _, h3, e3, h4, h5⟩
  | write =>
    by_cases hpl : ∀ a ∈ l, a.it.kind = .pure
    · have hσ : σ1 = σ := by
        have := qft (d := none) (x := none) (τ := σ) (fun a ha => ⟨fun k h => (by cases h), fun k h => (by cases h)⟩) (.inl hpl) h1
        exact this.1
      subst hσ
      obtain ⟨x, rfl, h3⟩ := qfk (τ := σ1) (τ1 := σ2) h2 hag (fun r hr => hr) (fun h => h)
      obtain ⟨_, e3, h4, h5⟩ := qft (x := x) (τ := σ2) hd (.inl hpl) h1
      exact ⟨_, _, h3, e3, h4, h5⟩
    · have hex : ∃ a ∈ l, q57 a.it o.it = true := by
        simp only [Classical.not_forall] at hpl
        obtain ⟨a, ha, hne⟩ := hpl
        refine ⟨a, ha, (hl a ha).free.resolve_left fun this => ?_⟩
        rw [hk] at this
        revert this hne
        cases a.it.kind <;> simp [Kind.free]
      obtain ⟨a0, ha0, has⟩ := hex
      rcases qo7 has with ⟨_, _, _, _, s', t, y, _, hot, _⟩ | ⟨_, _, _, _, s', n, y, z, av, _, hot, _⟩
      case inr =>
        have hall : ∀ a ∈ l, (∀ t, t ∈ av → a.dst ≠ some t) ∧ (a.it.kind = .pure ∨ ∃ s ag y t, a.it = .op (.ldB s ag y t) ∧ av.contains t = true) := fun a ha => by
          refine ⟨fun t ht hda => (hl a ha).r1 t hda ?_, ?_⟩
          · rw [qq0, hot]
            exact List.mem_append_right _ (by simp [qo1, COp.reads, ht])
          · rcases (hl a ha).free with this | this
            · left
              rw [hk] at this
              revert this
              cases a.it.kind <;> simp [Kind.free]
            · rcases qo7 this with ⟨_, _, _, _, _, _, _, _, q2, _⟩ | ⟨s, ag, x, t2, _, _, _, _, av2, q1, q2, q3⟩
              · rw [hot] at q2; cases q2
              · rw [hot] at q2
                cases q2
                exact .inr ⟨s, ag, x, t2, q1, q3⟩
        have hpl2 : ∀ a ∈ l, a.it.kind = .pure ∨ a.it.kind = .load := fun a ha => (hall a ha).2.imp id fun ⟨_, _, _, _, q, _⟩ => by rw [q]; rfl
        have hσ : σ1 = σ := by
          have := qft (d := none) (x := none) (τ := σ) (fun a ha => ⟨fun k h => (by cases h), fun k h => (by cases h)⟩) (.inr ⟨hpl2, [], by simp⟩) h1
          exact this.1
        subst hσ
        obtain ⟨x, rfl, h3⟩ := qfk (τ := σ1) (τ1 := σ2) h2 hag (fun r hr => hr) (fun h => h)
        rcases qgs h2 with h | ⟨r, hr⟩
        · subst h
          obtain ⟨_, e3, h4, h5⟩ := qft (x := x) (τ := σ2) hd (.inr ⟨hpl2, [], by simp⟩) h1
          exact ⟨_, _, h3, e3, h4, h5⟩
        · rw [qho hag', hot] at hr
          obtain ⟨p, _, p2, p3⟩ := q7g hr
          obtain ⟨_, e3, h4, h5⟩ := qu6 (x := x) (τ := σ2) hd hall p2 p3 h1
          exact ⟨_, _, h3, e3, h4, h5⟩
      have hall : ∀ a ∈ l, a.dst ≠ some t ∧ (a.it.kind = .pure ∨ ∃ s ag y av, a.it = .op (.ldD s ag y av) ∧ av.contains t = true) := fun a ha => by
        refine ⟨fun hda => (hl a ha).r1 t hda ?_, ?_⟩
        · rw [qq0, hot]
          exact List.mem_append_right _ (by simp [qo1, COp.reads, opT])
        · rcases (hl a ha).free with this | this
          · left
            rw [hk] at this
            revert this
            cases a.it.kind <;> simp [Kind.free]
          · rcases qo7 this with ⟨s, ag, x, av, _, t2, _, q1, q2, q3⟩ | ⟨_, _, _, _, _, _, _, _, _, _, q2, _⟩
            · rw [hot] at q2
              cases q2
              exact .inr ⟨s, ag, x, av, q1, q3⟩
            · rw [hot] at q2; cases q2
      have hett : e1.get t = e.get t := hag t (by rw [qq0, hot]; exact List.mem_append_right _ (by simp [qo1, COp.reads, opT]))
      have hσ : σ1 = σ := by
        clear h2
        have : ∀ (l : List COper), (∀ a ∈ l, a.it.kind = .pure ∨ ∃ s ag y av, a.it = .op (.ldD s ag y av) ∧ av.contains t = true) → ∀ {e e1 : Env} {σ σ1 : qr}, qb O l e σ = some (e1, σ1) → σ1 = σ := by
          intro l
          induction l with
          | nil => intro _ e e1 σ σ1 h; simp only [qb] at h; cases h; rfl
          | cons q l ih =>
            intro hq e e1 σ σ1 h
            simp only [qb, Option.bind_eq_some_iff] at h
            obtain ⟨⟨e2, σ2⟩, k1, k2⟩ := h
            rw [ih (fun a ha => hq a (List.mem_cons_of_mem _ ha)) k2]
            rcases qgs k1 with h | ⟨r, hr⟩
            · exact h
            · rcases hq q (by simp) with hp | ⟨s, ag, y, av, hit, _⟩
              · exact (qfl hp hr).1
              · exact (qxz (by rw [hit]; rfl) hr []).1
        exact this l (fun a ha => (hall a ha).2) h1
      subst hσ
      obtain ⟨x, rfl, h3⟩ := qfk (τ := σ1) (τ1 := σ2) h2 hag (fun r hr => hr) (fun h => h)
      by_cases hsame : σ2 = σ1
      · subst hsame
        -- the store was passed over, or has changed nothing
        have hpl2 : ∀ a ∈ l, a.it.kind = .pure ∨ a.it.kind = .load := fun a ha => (hall a ha).2.imp id fun ⟨_, _, _, _, q, _⟩ => by rw [q]; rfl
        obtain ⟨_, e3, h4, h5⟩ := qft (x := x) (τ := σ2) hd (.inr ⟨hpl2, [], by simp⟩) h1
        exact ⟨_, _, h3, e3, h4, h5⟩
      · rcases qgs h2 with h | ⟨r, hr⟩
        · exact absurd h hsame
        · rw [hot] at hr
          simp only [qba, qai, Option.bind_eq_some_iff] at hr
          obtain ⟨p, p1, v, p2, hr⟩ := hr
          split at hr
          · rename_i oo g i off
            have het : e.get t = some (.ptr oo g i off) := by rw [← hett]; exact p1
            have hτ : ∀ k, k ≠ oo → σ2[k]? = σ1[k]? := by
              split at hr
              · rw [Option.bind_eq_some_iff] at hr
                obtain ⟨c, _, hr⟩ := hr
                split at hr
                · cases hr
                  intro k hk2
                  rw [List.getElem?_set_ne (fun h => hk2 h.symm)]
                · cases hr
              · cases hr
            obtain ⟨_, e3, h4, h5⟩ := qyc (x := x) (τ := σ2) hd hall het hτ h1
            exact ⟨_, _, h3, e3, h4, h5⟩
          · cases hr
end Go.Ev
namespace Go.Ev
open Go.RowKit (Below)
variable {P : Program} {Γ Γ' : Ctx} {w w' : World} {σ σ' : qr} {e : Env} {a : Act} {av : AV}
abbrev FR (ro : Option Nat) : Fence := { Fence.wide with round := ro }
def Got (P : Program) (Γ : Ctx) (w : World) (r : AV) (σ' : qr) (v : Value) (w' : World) : Prop := ∃ Γ', VR Γ' w' r v ∧ SR P Γ' σ' w' ∧ Ext Γ Γ' w w'
def q6d (G : Value → World → Prop) : Ending → World → Prop
  | .returned v, w' => G v w'
  | _, _ => False
def qmd (P : Program) (G : Value → World → Prop) : Result Next → Prop
  | .ok (.value v) w' => G v w'
  | .ok .skip w' => G undef w'
  | .ok (.enter f args) w' => CallsIn Fence.wide 0 P f args w' (q6d G)
  | .ok (.round l f tmps as body) w' => RoundIn Fence.wide 0 P l f tmps as body w' (q6d G)
  | _ => False
theorem q6d.mono {G G' : Value → World → Prop} (h : ∀ v w, G v w → G' v w) : ∀ e w, q6d G e w → q6d G' e w
  | .returned v, w, k => h v w k
  | .panicked _, _, k => k
  | .outgrown, _, k => k
theorem qmd.mono {G G' : Value → World → Prop} (h : ∀ v w, G v w → G' v w) {r : Result Next} (k : qmd P G r) : qmd P G' r := by
  cases r with
  | ok nx w =>
    cases nx <;> simp only [qmd] at k ⊢
    · exact h _ _ k
    · exact h _ _ k
    · exact CallsIn.mono k (q6d.mono h)
    · exact RoundIn.mono k (q6d.mono h)
  | halt _ _ => exact k
theorem qoq.next {res : Result Next} (h : qoq P Γ w res av σ') : qmd P (Got P Γ w av σ') res := by
  obtain ⟨nx, v, w', Γ', rfl, h2 | h2, h3, h4, h5⟩ := h
  · subst h2; exact ⟨Γ', h3, h4, h5⟩
  · obtain ⟨rfl, rfl⟩ := h2; exact ⟨Γ', h3, h4, h5⟩
def qph (P : Program) (O : Orc) : Prop := ∀ k args σ r σ', O.call k args σ = some (r, σ') → ∀ Γ w vs, SR P Γ σ w → VRs Γ w args vs → qmd P (Got P Γ w r σ') ((callFunc k vs.toArray).run P w)
def qnk (P : Program) (O : Orc) : Prop := ∀ l args σ r σ', O.round l args σ = some (r, σ') → ∀ Γ w b vs, SR P Γ σ w → VRs Γ w args vs → l < Γ.n → ((Γ.loc l).g = 0 → b = (Γ.loc l).b) → qmd P (Got P Γ w r σ') ((Instr.yield b vs.toArray).run P w)
theorem qi6 {α β : Type} {f : α → Option β} : ∀ {as : List α} {bs : List β}, qgn f as = some bs → bs.length = as.length
  | [], bs, h => by simp only [qgn] at h; cases h; rfl
  | a :: as, bs, h => by
    simp only [qgn, Option.bind_eq_some_iff] at h
    obtain ⟨b, _, bs', h2, h⟩ := h
    cases h
    simp [qi6 h2]
theorem qxh {α β : Type} {f : α → Option β} : ∀ {as as' : List α} {bs bs' : List β}, qgn f as = some bs → qgn f as' = some bs' → qgn f (as ++ as') = some (bs ++ bs')
  | [], as', bs, bs', h, k => by simp only [qgn] at h; cases h; exact k
  | a :: as, as', bs, bs', h, k => by
    simp only [qgn, Option.bind_eq_some_iff] at h
    obtain ⟨b, h1, bs1, h2, h⟩ := h
    cases h
    simp only [List.cons_append, qgn, h1, qxh h2 k, Option.bind_some]
theorem qwd {α β : Type} {f : α → Option β} : ∀ {as : List α} {bs : List β}, qgn f as = some bs → ∀ {i : Nat} {a : α}, as[i]? = some a → ∃ b, bs[i]? = some b ∧ f a = some b
  | [], bs, h, i, a, hi => by simp at hi
  | x :: as, bs, h, i, a, hi => by
    simp only [qgn, Option.bind_eq_some_iff] at h
    obtain ⟨b, h1, bs1, h2, h⟩ := h
    cases h
    cases i with
    | zero => simp at hi; subst hi; exact ⟨b, by simp, h1⟩
    | succ i => simpa using qwd h2 (i := i) (a := a) (by simpa using hi)
theorem qs2 {f : AV → Option AV} : ∀ {es fs : List (List AV)}, qgn (qgn f) es = some fs → qgn f es.flatten = some fs.flatten
  | [], fs, h => by simp only [qgn] at h; cases h; rfl
  | x :: es, fs, h => by
    simp only [qgn, Option.bind_eq_some_iff] at h
    obtain ⟨b, h1, bs1, h2, h⟩ := h
    cases h
    simp only [List.flatten_cons]
    exact qxh h1 (qs2 h2)
theorem qoa {f : AV → Option AV} {sz : Nat} : ∀ {es fs : List (List AV)}, qgn (qgn f) es = some fs → (∀ e ∈ es, e.length = sz) → ∀ e ∈ fs, e.length = sz
  | [], fs, h, _ => by simp only [qgn] at h; cases h; simp
  | x :: es, fs, h, k => by
    simp only [qgn, Option.bind_eq_some_iff] at h
    obtain ⟨b, h1, bs1, h2, h⟩ := h
    cases h
    intro y hy
    rcases List.mem_cons.1 hy with rfl | hy
    · rw [qi6 h1]; exact k x (by simp)
    · exact qoa h2 (tl k) y hy
theorem qqz {f : AV → Option AV} (hf : ∀ a v r, f a = some r → VR Γ w a v → VR Γ' w r v) : ∀ {as bs : List AV} {vs : List Value}, qgn f as = some bs → VRs Γ w as vs → VRs Γ' w bs vs
  | [], bs, vs, h, k => by simp only [qgn] at h; cases h; simpa only [VRs] using k
  | x :: as, bs, vs, h, k => by
    simp only [qgn, Option.bind_eq_some_iff] at h
    obtain ⟨b, h1, bs1, h2, h⟩ := h
    cases h
    simp only [VRs] at k ⊢
    obtain ⟨u, us, rfl, h3, h4⟩ := k
    exact ⟨u, us, rfl, hf _ _ _ h1 h3, qqz hf h2 h4⟩
theorem qk8 {f : AV → Option AV} (hf : ∀ a v r, f a = some r → VR Γ w a v → VR Γ' w r v) {as bs : List AV} {get : Nat → Option Value} (h : qgn f as = some bs) (k : qab Γ w as get) : qab Γ' w bs get := by
  obtain ⟨vs, h1, h2⟩ := k.list
  exact qab.of_list (qqz hf h h1) h2
theorem frz_ok (s : SR P Γ σ w) (hc : ∀ b, Γ'.own b ∨ Γ'.far b → Γ.far b ∧ ¬ Γ.own b) : ∀ d a v r, frz σ d a = some r → VR Γ w a v → VR Γ' w r v := by
  have low : ∀ a v, a.lo 0 = true → VR Γ w a v → VR Γ' w a v := fun a v hl hv => VR.weaken (fun b hb => .inr (hc b hb).1) 0 (Nat.zero_le _) (fun o ho => absurd ho (Nat.not_lt_zero _)) a v hl hv
  have okb : ∀ b, Γ.okB w b → Γ'.okB w b := fun b hb => ⟨hb.1, fun h => hb.2.2 (hc b (.inl h)).1, fun h => hb.2.2 (hc b (.inr h)).1⟩
  have own : ∀ b, Γ.own b → Γ'.okB w b := fun b hb => ⟨s.ownlt b hb, fun h => (hc b (.inl h)).2 hb, fun h => (hc b (.inr h)).2 hb⟩
  intro d
  induction d with
  | zero =>
    intro a v r h hv
    simp only [frz] at h
    split at h
    · cases h; exact low _ _ ‹_› hv
    · cases h
  | succ d ih =>
    intro a v r h hv
    simp only [frz] at h
    split at h
    · cases h; exact low _ _ ‹_› hv
    · cases a with
      | v x => cases h; simpa only [VR] using hv
      | agg cs =>
        simp only [Option.bind_eq_some_iff] at h
        obtain ⟨cs', h1, h⟩ := h
        cases h
        simp only [VR] at hv ⊢
        obtain ⟨vs, rfl, h2⟩ := hv
        exact ⟨vs, rfl, qqz ih h1 h2⟩
      | tup cs =>
        simp only [Option.bind_eq_some_iff] at h
        obtain ⟨cs', h1, h⟩ := h
        cases h
        simp only [VR] at hv ⊢
        obtain ⟨vs, rfl, h2⟩ := hv
        exact ⟨vs, rfl, qqz ih h1 h2⟩
      | fsl es c =>
        simp only [Option.bind_eq_some_iff] at h
        obtain ⟨es', h1, h⟩ := h
        cases h
        simp only [VR] at hv ⊢
        obtain ⟨A, c', rfl, h2, h3, h4⟩ := hv
        have hl := qi6 h1
        refine ⟨A, c', by rw [hl], by omega, fun hx => by rw [h3 hx, hl], ?_⟩
        rcases h4 with h4 | ⟨b, off, sz, rfl, h5, h6, h7, h8⟩
        · subst h4; exact .inl (List.eq_nil_of_length_eq_zero (by simpa using hl))
        · exact .inr ⟨b, off, sz, rfl, okb b h5, h6, qoa h1 h7, (qkd (qoa h1 h7)).2 (qk8 ih (qs2 h1) ((qkd h7).1 h8))⟩
      | fptr cs =>
        simp only [Option.bind_eq_some_iff] at h
        obtain ⟨cs', h1, h⟩ := h
        cases h
        simp only [VR] at hv ⊢
        obtain ⟨b, off, rfl, h5, h6⟩ := hv
        exact ⟨b, off, rfl, okb b h5, qk8 ih h1 h6⟩
      | sl o g off len c =>
        simp only at h
        split at h
        · rename_i sz es g' ho
          split at h
          · rename_i hg
            obtain ⟨rfl, hle⟩ := hg
            rw [Option.bind_eq_some_iff] at h
            obtain ⟨es', h1, h⟩ := h
            cases h
            have hO := s.obj o _ ho
            simp only [OR] at hO
            have hn : ((es.drop off).take len).length = len := by simp; omega
            have hl := (qi6 h1).trans hn
            by_cases hpos : 0 < len
            · obtain ⟨cap, h2, h3, _, h4, h5⟩ := qqs s hv ho hle hpos
              have hlens : ∀ x ∈ (es.drop off).take len, x.length = sz := fun x hx => hO.2.2.2.2.1 x (List.mem_of_mem_drop (List.mem_of_mem_take hx))
              simp only [VR]
              refine ⟨_, cap, by rw [h2, hl], by omega, fun hx => (by cases hx), .inr ⟨_, _, sz, rfl, own _ (s.blk o (by rw [← s.len]; exact (List.getElem?_eq_some_iff.1 ho).1) (by omega)), hO.2.2.1, qoa h1 hlens,
                (qkd (qoa h1 hlens)).2 (qk8 ih (qs2 h1) h5)⟩⟩
            · obtain rfl : len = 0 := by omega
              have : es' = [] := List.eq_nil_of_length_eq_zero hl
              subst this
              simp only [VR] at hv ⊢
              obtain ⟨A, cap, rfl, _⟩ := hv
              exact ⟨A, cap, rfl, by simp, fun hx => (by cases hx), .inl trivial⟩
          · cases h
        · cases h
      | ptr o g i off =>
        simp only at h
        split at h
        · rename_i sz es g' ho
          split at h
          · rename_i hg
            subst hg
            rw [Option.bind_eq_some_iff] at h
            obtain ⟨c, hi, h⟩ := h
            rw [Option.bind_eq_some_iff] at h
            obtain ⟨cs', h1, h⟩ := h
            cases h
            have hcs : qf σ (.ptr o g i off) = some (c.drop off) := by simp [qf, ho, hi]
            have hO := s.obj o _ ho
            simp only [OR] at hO
            have hlt := (List.getElem?_eq_some_iff.1 hi).1
            have hct : (Γ.loc o).ct ≠ 0 := by omega
            obtain ⟨b, off', h2, h3⟩ := quh s hv hcs
            have hb : b = (Γ.loc o).b := by
              simp only [VR] at hv
              obtain ⟨p, rfl, _, _, h4⟩ := hv
              have := h4 hO.1
              rw [this] at h2
              cases h2; rfl
            subst hb
            simp only [VR]
            exact ⟨_, off', h2, own _ (s.blk o (by rw [← s.len]; exact (List.getElem?_eq_some_iff.1 ho).1) hct), qk8 ih h1 h3⟩
          · cases h
        · cases h
      | fn f first cap =>
        simp only [Option.bind_eq_some_iff] at h
        obtain ⟨as, h1, bs, h2, h⟩ := h
        cases h
        simp only [VR] at hv ⊢
        obtain ⟨fs, cs, rfl, h3, h4⟩ := hv
        exact ⟨fs, cs, rfl, qqz ih h1 h3, qqz ih h2 h4⟩
      | yld o => cases h
      | mp o => cases h
def Ctx.far0 (Γ : Ctx) : Ctx := { n := 0, loc := Γ.loc, own := fun _ => False, far := fun b => Γ.own b ∨ Γ.far b }
theorem SR.far0 (s : SR P Γ σ w) : SR P Γ.far0 [] w where
  len := rfl
  obj o ob h := by simp at h
  blk o h := absurd h (Nat.not_lt_zero _)
  inj o o' h := absurd h (Nat.not_lt_zero _)
  ownlt b h := h.elim
  farlt b h := h.elim (s.ownlt b) (s.farlt b)
  sep b h := h.elim
theorem VRs.far0 {as : List AV} {vs : List Value} (hl : los 0 as = true) (h : VRs Γ w as vs) : VRs Γ.far0 w as vs :=
  VRs.weaken (Γ := Γ) (Γ' := Γ.far0) (fun b hb => hb.elim (fun h => False.elim h) id) 0 (Nat.zero_le _) (fun o ho => absurd ho (Nat.not_lt_zero _)) as vs hl h
theorem Got.frozen {r r' : AV} {τ : qr} {v : Value} (s : SR P Γ σ w) (h : Got P Γ.far0 w r τ v w') (hf : frz τ 6 r = some r') : Got P Γ w r' σ v w' := by
  obtain ⟨Γ1, h1, h2, h3⟩ := h
  have hsame : ∀ b, b < w.heap.size → w'.heap[b]? = w.heap[b]? := fun b hb => h3.same b hb id
  have hown : ∀ b, Γ1.own b → w.heap.size ≤ b := fun b hb => (h3.own b hb).resolve_left id
  have hext : Ext Γ Γ w w' := ⟨Nat.le_refl _, h3.size, fun b hb _ => hsame b hb, fun _ h => .inl h, rfl, fun _ _ => .inl rfl, h3.os, h3.tape, h3.output⟩
  refine ⟨Γ, frz_ok h2 (fun b hb => ⟨by rw [h3.far]; exact hb, fun ho => ?_⟩) _ _ _ _ hf h1, ?_, hext⟩
  · have := hown b ho
    have := hb.elim (s.ownlt b) (s.farlt b)
    omega
  · exact ⟨s.len, fun o ob ho => (s.obj o ob ho).mono hext rfl fun hc => hsame _ (s.ownlt _ (s.blk o (by rw [← s.len]; exact (List.getElem?_eq_some_iff.1 ho).1) hc)), s.blk, s.inj,
      fun b hb => Nat.lt_of_lt_of_le (s.ownlt b hb) h3.size, fun b hb => Nat.lt_of_lt_of_le (s.farlt b hb) h3.size, s.sep⟩
mutual
theorem VR.low : ∀ (a : AV) (y : Value), VR Γ w a y → a.lo Γ.n = true
  | .v x, y, _ => rfl
  | .agg cs, y, h => by
    simp only [VR] at h
    obtain ⟨vs, _, h⟩ := h
    simp only [AV.lo]; exact VRs.low cs vs h
  | .tup cs, y, h => by
    simp only [VR] at h
    obtain ⟨vs, _, h⟩ := h
    simp only [AV.lo]; exact VRs.low cs vs h
  | .fsl es c, y, h => by
    simp only [VR] at h
    obtain ⟨A, c', _, _, _, h⟩ := h
    simp only [AV.lo]
    rcases h with rfl | ⟨b, off, sz, _, _, _, _, h⟩
    · rfl
    · exact qe8.low sz es _ h
  | .fptr cs, y, h => by
    simp only [VR] at h
    obtain ⟨b, off, _, _, h⟩ := h
    simp only [AV.lo]; exact qab.low cs _ h
  | .sl o g off len c, y, h => by
    simp only [VR] at h
    obtain ⟨A, c', _, _, _, h, _⟩ := h
    simpa only [AV.lo, decide_eq_true_eq] using h
  | .ptr o g i off, y, h => by
    simp only [VR] at h
    obtain ⟨p, _, h, _⟩ := h
    simpa only [AV.lo, decide_eq_true_eq] using h
  | .fn f first cap, y, h => by
    simp only [VR] at h
    obtain ⟨fs, cs, _, h1, h2⟩ := h
    simp only [AV.lo, Bool.and_eq_true]; exact ⟨VRs.low first fs h1, VRs.low cap cs h2⟩
  | .yld o, y, h => by
    simp only [VR] at h
    obtain ⟨l, _, h, _⟩ := h
    simpa only [AV.lo, decide_eq_true_eq] using h
  | .mp o, y, h => by
    simp only [VR] at h
    obtain ⟨l, _, h, _⟩ := h
    simpa only [AV.lo, decide_eq_true_eq] using h
theorem VRs.low : ∀ (as : List AV) (ys : List Value), VRs Γ w as ys → los Γ.n as = true
  | [], _, _ => rfl
  | a :: as, ys, h => by
    simp only [VRs] at h
    obtain ⟨u, us, rfl, h1, h2⟩ := h
    simp only [los, Bool.and_eq_true]; exact ⟨VR.low a u h1, VRs.low as us h2⟩
theorem qab.low : ∀ (as : List AV) (get : Nat → Option Value), qab Γ w as get → los Γ.n as = true
  | [], _, _ => rfl
  | a :: as, get, h => by
    simp only [qab] at h
    obtain ⟨⟨u, _, h1⟩, h2⟩ := h
    simp only [los, Bool.and_eq_true]; exact ⟨VR.low a u h1, qab.low as _ h2⟩
theorem qe8.low (sz : Nat) : ∀ (es : List (List AV)) (get : Nat → Option Value), qe8 Γ w sz es get → qiu Γ.n es = true
  | [], _, _ => rfl
  | e :: es, get, h => by
    simp only [qe8] at h
    simp only [qiu, Bool.and_eq_true]; exact ⟨qab.low e _ h.1, qe8.low sz es _ h.2⟩
end
theorem qab.imp (hv : ∀ a y, VR Γ w a y → VR Γ' w a y) : ∀ {as : List AV} {get : Nat → Option Value}, qab Γ w as get → qab Γ' w as get
  | [], _, _ => by simp only [qab]
  | a :: as, get, h => by
    simp only [qab] at h ⊢
    obtain ⟨⟨u, h1, h2⟩, h3⟩ := h
    exact ⟨⟨u, h1, hv _ _ h2⟩, qab.imp hv h3⟩
theorem OR.imp {o : Nat} {ob : SObj} (hv : ∀ a y, VR Γ w a y → VR Γ' w a y) (hl : Γ'.loc o = Γ.loc o) (h : OR P Γ w o ob) : OR P Γ' w o ob := by
  cases ob with
  | row sz es g =>
    simp only [OR] at h ⊢
    rw [hl]
    obtain ⟨h1, h2, h3, h4, h5, h6⟩ := h
    refine ⟨h1, h2, h3, h4, h5, h6.imp id ?_⟩
    rintro ⟨arr, et, h7, h8, h9⟩
    exact ⟨arr, et, h7, h8, qab.imp hv h9⟩
  | loop env ps as body st pend =>
    simp only [OR] at h ⊢
    rw [hl]
    obtain ⟨h1, h2, r, h3, h4, h5, h6, h7, h8, h9, h10⟩ := h
    exact ⟨h1, h2, r, h3, h4, h5, h6, h7, h8, fun t a ht => hv _ _ (h9 t a ht), h10⟩
  | defr => simp only [OR] at h ⊢; rw [hl]; exact h
  | dead => trivial
  | mp k es =>
    simp only [OR] at h ⊢
    rw [hl]
    obtain ⟨h1, h2, arr, clock, h3, h4⟩ := h
    exact ⟨h1, h2, arr, clock, h3, h4.imp fun a y _ hy => hv a y hy⟩
  | hole => simp only [OR] at h ⊢; rw [hl]; exact h
def Ctx.mid (Γ : Ctx) (o : Nat) : Ctx := { n := Γ.n, loc := Γ.loc, own := fun b => Γ.own b ∧ ((Γ.loc o).ct ≠ 0 → b ≠ (Γ.loc o).b), far := fun b => Γ.far b ∨ ((Γ.loc o).ct ≠ 0 ∧ b = (Γ.loc o).b) }
def Ctx.hide (Γ : Ctx) (o : Nat) : Ctx := { n := Γ.n, loc := fun o' => if o' = o then ⟨(Γ.loc o).g + 1, 0, (Γ.loc o).sz, 0⟩ else Γ.loc o', own := (Γ.mid o).own, far := (Γ.mid o).far }
theorem VR.hide (s : SR P Γ σ w) {o : Nat} (ho : o < Γ.n) : ∀ a y, VR Γ w a y → VR (Γ.hide o) w a y := by
  intro a y h
  have h1 : VR (Γ.mid o) w a y := VR.weaken (Γ := Γ) (Γ' := Γ.mid o) (fun b hb => by
    rcases hb with hb | hb | ⟨hc, rfl⟩
    · exact .inl hb.1
    · exact .inr hb
    · exact .inl (s.blk o ho hc)) Γ.n (Nat.le_refl _) (fun _ _ => rfl) a y (VR.low a y h) h
  refine VR.mono (Γ := Γ.mid o) (Γ' := Γ.hide o) (w := w) (w' := w) ⟨Nat.le_refl _, Nat.le_refl _, fun _ _ _ => rfl, fun b hb => .inl hb, rfl, fun o' _ => ?_, rfl, rfl, rfl⟩ a y h1
  by_cases he : o' = o
  · subst he; right; simp [Ctx.hide, Ctx.mid]
  · left; simp [Ctx.hide, Ctx.mid, he]
theorem SR.hide (s : SR P Γ σ w) {o : Nat} (ho : o < Γ.n) : SR P (Γ.hide o) (σ.set o .dead) w where
  len := by simp [Ctx.hide, s.len]
  obj o' ob hob := by
    rw [List.getElem?_set] at hob
    by_cases he : o = o'
    · subst he
      rw [if_pos rfl, if_pos (by rw [s.len]; exact ho)] at hob
      cases hob
      trivial
    · rw [if_neg he] at hob
      exact (s.obj o' ob hob).imp (VR.hide s ho) (by simp [Ctx.hide, Ne.symm he])
  blk o' ho' hc := by
    by_cases he : o' = o
    · subst he; simp [Ctx.hide] at hc
    · have hl : (Γ.hide o).loc o' = Γ.loc o' := by simp [Ctx.hide, he]
      rw [hl] at hc ⊢
      exact ⟨s.blk o' ho' hc, fun h2 hb => he (s.inj o' o ho' ho hc h2 hb)⟩
  inj o1 o2 h1 h2 c1 c2 hb := by
    by_cases e1 : o1 = o
    · subst e1; simp [Ctx.hide] at c1
    · by_cases e2 : o2 = o
      · subst e2; simp [Ctx.hide] at c2
      · have l1 : (Γ.hide o).loc o1 = Γ.loc o1 := by simp [Ctx.hide, e1]
        have l2 : (Γ.hide o).loc o2 = Γ.loc o2 := by simp [Ctx.hide, e2]
        rw [l1] at c1 hb; rw [l2] at c2 hb
        exact s.inj o1 o2 h1 h2 c1 c2 hb
  ownlt b hb := s.ownlt b hb.1
  farlt b hb := by
    rcases hb with hb | ⟨hc, rfl⟩
    · exact s.farlt b hb
    · exact s.ownlt _ (s.blk o ho hc)
  sep b hb hf := by
    rcases hf with hf | ⟨hc, rfl⟩
    · exact s.sep b hb.1 hf
    · exact hb.2 hc rfl
theorem Got.filled {o g len sz pos : Nat} {cl : Bool} {τ : qr} {es es' : List (List AV)} {v : Value} (s : SR P Γ σ w) (h : Got P Γ.far0 w (.sl o g 0 len cl) τ v w') (ho : τ[o]? = some (.row sz es g))
    (hf : qgn (qgn (frz (τ.set o .dead) 5)) es = some es') (hp : σ[pos]? = some .hole) : Got P Γ w (.sl pos 1 0 len cl) (σ.set pos (.row sz es' 1)) v w' := by
  obtain ⟨Γ1, h1, h2, h3⟩ := h
  have hsame : ∀ b, b < w.heap.size → w'.heap[b]? = w.heap[b]? := fun b hb => h3.same b hb id
  have hown : ∀ b, Γ1.own b → w.heap.size ≤ b := fun b hb => (h3.own b hb).resolve_left id
  have hfar : Γ1.far = fun b => Γ.own b ∨ Γ.far b := h3.far
  have hn1 : o < Γ1.n := by rw [← h2.len]; exact (List.getElem?_eq_some_iff.1 ho).1
  have hO := h2.obj o _ ho
  simp only [OR] at hO
  obtain ⟨k1, k2, k3, k4, k5, k6⟩ := hO
  have hn : pos < Γ.n := by rw [← s.len]; exact (List.getElem?_eq_some_iff.1 hp).1
  have hconv := frz_ok (Γ' := Γ.upd pos ⟨1, (Γ1.loc o).b, sz, (Γ1.loc o).ct⟩) (h2.hide hn1) (fun b hb => by
    rcases hb with (hb | ⟨hc, rfl⟩) | hb
    · exact ⟨.inl (by rw [hfar]; exact .inl hb), fun hx => by have := hown b hx.1; have := s.ownlt b hb; omega⟩
    · exact ⟨.inr ⟨hc, rfl⟩, fun hx => hx.2 hc rfl⟩
    · exact ⟨.inl (by rw [hfar]; exact .inr hb), fun hx => by have := hown b hx.1; have := s.farlt b hb; omega⟩)
  obtain ⟨q1, q2⟩ := q36 (P := P) (w' := w') s hp h3.size hsame h3.os h3.tape h3.output (Γ1.loc o).b sz (Γ1.loc o).ct (fun hc => ⟨hown _ (h2.blk o hn1 hc), h2.ownlt _ (h2.blk o hn1 hc)⟩) es' (by
    simp only [OR, Ctx.upd_same]
    refine ⟨trivial, trivial, k3, by rw [qi6 hf]; exact k4, qoa hf k5, k6.imp id ?_⟩
    rintro ⟨arr, et, h7, h8, h9⟩
    exact ⟨arr, et, h7, h8, qk8 (fun a v r => hconv 5 a v r) (qs2 hf) (qab.imp (VR.hide h2 hn1) h9)⟩)
  refine ⟨_, ?_, q1, q2⟩
  simp only [VR] at h1 ⊢
  obtain ⟨A, c, rfl, a1, a2, _, _, a3⟩ := h1
  obtain ⟨a4, a5⟩ := a3 k1
  rw [Ctx.upd_same]
  refine ⟨A, c, rfl, a1, a2, hn, Nat.le_refl _, fun _ => ⟨a4, ?_⟩⟩
  rw [k2] at a5
  exact a5
theorem qzv {d : Nat} : ∀ (as : List AV), (qjn d as).length = as.length
  | [] => rfl
  | a :: as => by simp only [qjn, List.length_cons, qzv as]
theorem qrr {d : Nat} : ∀ (es : List (List AV)), (qj8 d es).length = es.length
  | [] => rfl
  | a :: as => by simp only [qj8, List.length_cons, qrr as]
theorem qpv {d sz : Nat} : ∀ (es : List (List AV)), (∀ e ∈ es, e.length = sz) → ∀ e ∈ qj8 d es, e.length = sz
  | [], _ => by simp [qj8]
  | a :: as, h => by
    intro y hy
    rcases List.mem_cons.1 hy with rfl | hy
    · rw [qzv]; exact h a (by simp)
    · exact qpv as (tl h) y hy
theorem qss {d : Nat} : ∀ (as bs : List AV), qjn d (as ++ bs) = qjn d as ++ qjn d bs
  | [], _ => rfl
  | a :: as, bs => by simp only [List.cons_append, qjn, qss as bs]
theorem qu8 {d : Nat} : ∀ (es : List (List AV)), (qj8 d es).flatten = qjn d es.flatten
  | [] => rfl
  | a :: as => by simp only [qj8, List.flatten_cons, qss, qu8 as]
section shift
variable {d : Nat} (hb : ∀ b, Γ.okB w b → Γ'.okB w b) (hn : Γ.n + d ≤ Γ'.n) (hloc : ∀ o, o < Γ.n → Γ'.loc (o + d) = Γ.loc o)
include hb hn hloc
mutual
theorem VR.shifted : ∀ (a : AV) (y : Value), VR Γ w a y → VR Γ' w (a.shift d) y
  | .v x, y, hy => by simpa only [VR, AV.shift] using hy
  | .agg cs, y, hy => by
    simp only [VR, AV.shift] at hy ⊢
    obtain ⟨vs, rfl, h2⟩ := hy
    exact ⟨vs, rfl, VRs.shifted cs vs h2⟩
  | .tup cs, y, hy => by
    simp only [VR, AV.shift] at hy ⊢
    obtain ⟨vs, rfl, h2⟩ := hy
    exact ⟨vs, rfl, VRs.shifted cs vs h2⟩
  | .fsl es clip, y, hy => by
    simp only [VR, AV.shift] at hy ⊢
    obtain ⟨A, c, rfl, h1, h2, h3⟩ := hy
    have hl := qrr (d := d) es
    refine ⟨A, c, by rw [hl], by omega, fun h => by rw [h2 h, hl], ?_⟩
    rcases h3 with h3 | ⟨b, off, sz, h4, h5, h6, h7, h8⟩
    · subst h3; exact .inl rfl
    · exact .inr ⟨b, off, sz, h4, hb b h5, h6, qpv es h7, qe8.shifted sz es _ h8⟩
  | .fptr cs, y, hy => by
    simp only [VR, AV.shift] at hy ⊢
    obtain ⟨b, off, rfl, h5, h6⟩ := hy
    exact ⟨b, off, rfl, hb b h5, qab.shifted cs _ h6⟩
  | .sl o g off len clip, y, hy => by
    simp only [VR, AV.shift] at hy ⊢
    obtain ⟨A, c, rfl, h5, h6, h1, h2, h3⟩ := hy
    rw [hloc o h1]
    exact ⟨A, c, rfl, h5, h6, by omega, h2, h3⟩
  | .ptr o g i off, y, hy => by
    simp only [VR, AV.shift] at hy ⊢
    obtain ⟨p, rfl, h1, h2, h3⟩ := hy
    rw [hloc o h1]
    exact ⟨p, rfl, by omega, h2, h3⟩
  | .fn f first cap, y, hy => by
    simp only [VR, AV.shift] at hy ⊢
    obtain ⟨fs, cs, rfl, h1, h2⟩ := hy
    exact ⟨fs, cs, rfl, VRs.shifted first fs h1, VRs.shifted cap cs h2⟩
  | .yld o, y, hy => by
    simp only [VR, AV.shift] at hy ⊢
    obtain ⟨l, rfl, h1, h3⟩ := hy
    rw [hloc o h1]
    exact ⟨l, rfl, by omega, h3⟩
  | .mp o, y, hy => by
    simp only [VR, AV.shift] at hy ⊢
    obtain ⟨l, rfl, h1, h3⟩ := hy
    rw [hloc o h1]
    exact ⟨l, rfl, by omega, h3⟩
theorem VRs.shifted : ∀ (as : List AV) (ys : List Value), VRs Γ w as ys → VRs Γ' w (qjn d as) ys
  | [], ys, hy => by simpa only [VRs, qjn] using hy
  | a :: as, ys, hy => by
    simp only [VRs, qjn] at hy ⊢
    obtain ⟨u, us, rfl, h1, h2⟩ := hy
    exact ⟨u, us, rfl, VR.shifted a u h1, VRs.shifted as us h2⟩
theorem qab.shifted : ∀ (as : List AV) (get : Nat → Option Value), qab Γ w as get → qab Γ' w (qjn d as) get
  | [], _, _ => by simp only [qab, qjn]
  | a :: as, get, hy => by
    simp only [qab, qjn] at hy ⊢
    obtain ⟨⟨u, h1, h2⟩, h3⟩ := hy
    exact ⟨⟨u, h1, VR.shifted a u h2⟩, qab.shifted as _ h3⟩
theorem qe8.shifted (sz : Nat) : ∀ (es : List (List AV)) (get : Nat → Option Value), qe8 Γ w sz es get → qe8 Γ' w sz (qj8 d es) get
  | [], _, _ => by simp only [qe8, qj8]
  | e :: es, get, hy => by
    simp only [qe8, qj8] at hy ⊢
    exact ⟨qab.shifted e _ hy.1, qe8.shifted sz es _ hy.2⟩
end
end shift
def Ctx.join (Γ Γ1 : Ctx) : Ctx := { n := Γ.n + Γ1.n, loc := fun o => if o < Γ.n then Γ.loc o else Γ1.loc (o - Γ.n), own := fun b => Γ.own b ∨ Γ1.own b, far := Γ.far }
theorem Ctx.join_old (Γ Γ1 : Ctx) {o : Nat} (h : o < Γ.n) : (Γ.join Γ1).loc o = Γ.loc o := by simp [Ctx.join, h]
theorem Ctx.join_new (Γ Γ1 : Ctx) (o : Nat) : (Γ.join Γ1).loc (o + Γ.n) = Γ1.loc o := by
  simp only [Ctx.join]
  rw [if_neg (by omega), Nat.add_sub_cancel]
theorem Got.taken {r : AV} {τ τ' : qr} {v : Value} (s : SR P Γ σ w) (h : Got P Γ.far0 w r τ v w') {f : SObj → Option SObj}
    (hf : ∀ o o', f o = some o' → (∃ sz es g, o = .row sz es g ∧ o' = .row sz (qj8 σ.length es) g) ∨ ∃ k es, o = .mp k es ∧ o' = .mp k es) (ht : qgn f τ = some τ') : Got P Γ w (r.shift σ.length) (σ ++ τ') v w' := by
  obtain ⟨Γ1, h1, h2, h3⟩ := h
  have hsame : ∀ b, b < w.heap.size → w'.heap[b]? = w.heap[b]? := fun b hb => h3.same b hb id
  have hown : ∀ b, Γ1.own b → w.heap.size ≤ b := fun b hb => (h3.own b hb).resolve_left id
  have hfar : Γ1.far = fun b => Γ.own b ∨ Γ.far b := h3.far
  have hlen : τ'.length = Γ1.n := (qi6 ht).trans h2.len
  have hext : Ext Γ (Γ.join Γ1) w w' := ⟨Nat.le_add_right _ _, h3.size, fun b hb _ => hsame b hb, fun b hb => hb.imp id (hown b), rfl, fun o ho => .inl (Γ.join_old Γ1 ho), h3.os, h3.tape, h3.output⟩
  have okb : ∀ b, Γ1.okB w' b → (Γ.join Γ1).okB w' b := fun b hb => by
    obtain ⟨k1, k2, k3⟩ := hb
    rw [hfar] at k3
    exact ⟨k1, fun h => h.elim (fun h => k3 (.inl h)) k2, fun h => k3 (.inr h)⟩
  have hn : Γ1.n + Γ.n ≤ (Γ.join Γ1).n := by simp [Ctx.join]; omega
  have hloc : ∀ o, o < Γ1.n → (Γ.join Γ1).loc (o + Γ.n) = Γ1.loc o := fun o _ => Γ.join_new Γ1 o
  refine ⟨Γ.join Γ1, ?_, ?_, hext⟩
  · rw [s.len]; exact VR.shifted okb hn hloc _ _ h1
  · refine ⟨by simp [Ctx.join, s.len, hlen], fun o ob ho => ?_, fun o ho hc => ?_, fun o o' ho ho' hc hc' hb => ?_, fun b hb => hb.elim (fun h => Nat.lt_of_lt_of_le (s.ownlt b h) h3.size) (h2.ownlt b), fun b hb => Nat.lt_of_lt_of_le (s.farlt b hb) h3.size, fun b hb hf => hb.elim (fun h => s.sep b h hf) fun h => h2.sep b h (by rw [hfar]; exact .inr hf)⟩
    · rcases Nat.lt_or_ge o σ.length with hlt | hge
      · rw [List.getElem?_append_left hlt] at ho
        have hn' : o < Γ.n := by rw [← s.len]; exact hlt
        exact (s.obj o ob ho).mono hext (Γ.join_old Γ1 hn') fun hc => hsame _ (s.ownlt _ (s.blk o hn' hc))
      · rw [List.getElem?_append_right hge] at ho
        have hlt := (List.getElem?_eq_some_iff.1 ho).1
        obtain ⟨ob1, hob1⟩ : ∃ ob1, τ[o - σ.length]? = some ob1 := ⟨_, List.getElem?_eq_getElem (by rw [← qi6 ht]; exact hlt)⟩
        obtain ⟨ob2, h4, h5⟩ := qwd ht hob1
        rw [ho] at h4; cases h4
        have hO := h2.obj _ _ hob1
        have hL : (Γ.join Γ1).loc o = Γ1.loc (o - σ.length) := by
          have := Γ.join_new Γ1 (o - σ.length)
          rw [← s.len, Nat.sub_add_cancel hge] at this
          exact this
        rcases hf _ _ h5 with ⟨sz, es, g, rfl, rfl⟩ | ⟨k, es, rfl, rfl⟩
        case inr =>
          simp only [OR] at hO ⊢
          rw [hL]
          obtain ⟨k1, k2, arr, clock, k3, k4⟩ := hO
          exact ⟨k1, k2, arr, clock, k3, k4.imp fun a y hl hy => VR.weaken (Γ := Γ1) (Γ' := Γ.join Γ1) (fun b hb => by rw [hfar]; rcases hb with (h | h) | h; exact .inr (.inl h); exact .inl h; exact .inr (.inr h)) 0 (Nat.zero_le _) (fun o ho => absurd ho (Nat.not_lt_zero _)) a y hl hy⟩
        simp only [OR] at hO ⊢
        rw [hL]
        obtain ⟨k1, k2, k3, k4, k5, k6⟩ := hO
        refine ⟨k1, k2, k3, by rw [qrr]; exact k4, qpv es k5, k6.imp id ?_⟩
        rintro ⟨arr, et, k7, k8, k9⟩
        refine ⟨arr, et, k7, k8, ?_⟩
        rw [qu8, s.len]
        exact qab.shifted okb hn hloc _ _ k9
    · by_cases hlt : o < Γ.n
      · rw [Γ.join_old Γ1 hlt] at hc ⊢; exact .inl (s.blk o hlt hc)
      · have hL : (Γ.join Γ1).loc o = Γ1.loc (o - Γ.n) := by simp [Ctx.join, hlt]
        rw [hL] at hc ⊢
        refine .inr (h2.blk _ ?_ hc)
        simp only [Ctx.join] at ho; omega
    · have hL : ∀ o, ¬ o < Γ.n → (Γ.join Γ1).loc o = Γ1.loc (o - Γ.n) := fun o h => by simp [Ctx.join, h]
      simp only [show (Γ.join Γ1).n = Γ.n + Γ1.n from rfl] at ho ho'
      by_cases e1 : o < Γ.n <;> by_cases e2 : o' < Γ.n
      · rw [Γ.join_old Γ1 e1] at hc hb; rw [Γ.join_old Γ1 e2] at hc' hb
        exact s.inj o o' e1 e2 hc hc' hb
      · rw [Γ.join_old Γ1 e1] at hc hb; rw [hL _ e2] at hc' hb
        have := s.ownlt _ (s.blk o e1 hc)
        have := hown _ (h2.blk (o' - Γ.n) (by omega) hc')
        omega
      · rw [hL _ e1] at hc hb; rw [Γ.join_old Γ1 e2] at hc' hb
        have := s.ownlt _ (s.blk o' e2 hc')
        have := hown _ (h2.blk (o - Γ.n) (by omega) hc)
        omega
      · rw [hL _ e1] at hc hb; rw [hL _ e2] at hc' hb
        have := h2.inj (o - Γ.n) (o' - Γ.n) (by omega) (by omega) hc hc' hb
        omega
theorem valEq_ok {x y : Value} (h : q6p x y = true) : x = y := by
  unfold q6p at h
  split at h <;> simp_all
mutual
theorem AV.eqB_ok : ∀ (a b : AV), a.eqB b = true → a = b
  | .v x, b, h => by
    cases b <;> simp only [AV.eqB, Bool.false_eq_true] at h
    rw [valEq_ok h]
  | .agg a, b, h => by
    cases b <;> simp only [AV.eqB, Bool.false_eq_true] at h
    rw [qsh _ _ h]
  | .tup a, b, h => by
    cases b <;> simp only [AV.eqB, Bool.false_eq_true] at h
    rw [qsh _ _ h]
  | .fsl a c, b, h => by
    cases b <;> simp only [AV.eqB, Bool.false_eq_true] at h
    rw [Bool.and_eq_true] at h
    rw [q0r _ _ h.1, eq_of_beq h.2]
  | .fptr a, b, h => by
    cases b <;> simp only [AV.eqB, Bool.false_eq_true] at h
    rw [qsh _ _ h]
  | .sl o g off len c, b, h => by
    cases b <;> simp only [AV.eqB, Bool.false_eq_true] at h
    simp only [Bool.and_eq_true, beq_iff_eq] at h
    obtain ⟨h1, h2, h3, h4, h5⟩ := h
    rw [h1, h2, h3, h4, h5]
  | .ptr o g i off, b, h => by
    cases b <;> simp only [AV.eqB, Bool.false_eq_true] at h
    simp only [Bool.and_eq_true, beq_iff_eq] at h
    obtain ⟨h1, h2, h3, h4⟩ := h
    rw [h1, h2, h3, h4]
  | .fn f x y, b, h => by
    cases b <;> simp only [AV.eqB, Bool.false_eq_true] at h
    simp only [Bool.and_eq_true, decide_eq_true_eq] at h
    rw [h.1, qsh _ _ h.2.1, qsh _ _ h.2.2]
  | .yld o, b, h => by cases b <;> simp only [AV.eqB, Bool.false_eq_true] at h
  | .mp o, b, h => by
    cases b <;> simp only [AV.eqB, Bool.false_eq_true] at h
    rw [eq_of_beq h]
theorem qsh : ∀ (a b : List AV), q08 a b = true → a = b
  | [], [], _ => rfl
  | a :: as, b :: bs, h => by
    simp only [q08, Bool.and_eq_true] at h
    rw [AV.eqB_ok a b h.1, qsh as bs h.2]
  | [], _ :: _, h => by simp [q08] at h
  | _ :: _, [], h => by simp [q08] at h
theorem q0r : ∀ (a b : List (List AV)), qpk a b = true → a = b
  | [], [], _ => rfl
  | a :: as, b :: bs, h => by
    simp only [qpk, Bool.and_eq_true] at h
    rw [qsh a b h.1, q0r as bs h.2]
  | [], _ :: _, h => by simp [qpk] at h
  | _ :: _, [], h => by simp [qpk] at h
end
theorem q7j : ∀ (a b : List (Int × AV)), eqBm a b = true → a = b
  | [], [], _ => rfl
  | a :: as, b :: bs, h => by
    simp only [eqBm, Bool.and_eq_true, beq_iff_eq] at h
    obtain ⟨h1, h2, h3⟩ := h
    rw [q7j as bs h3, Prod.ext h1 (AV.eqB_ok _ _ h2)]
  | [], _ :: _, h => by simp [eqBm] at h
  | _ :: _, [], h => by simp [eqBm] at h
theorem SObj.eqB_ok (a b : SObj) (h : a.eqB b = true) : a = b := by
  cases a <;> cases b <;> simp only [SObj.eqB, Bool.false_eq_true, Bool.and_eq_true, beq_iff_eq, decide_eq_true_eq] at h
  · rw [h.1, h.2.1, q0r _ _ h.2.2]
  · rfl
  · rfl
  · rw [h.1, q7j _ _ h.2]
theorem qzs : ∀ {a b : qr}, qpx a b = true → a = b
  | [], [], _ => rfl
  | a :: as, b :: bs, h => by
    simp only [qpx, Bool.and_eq_true] at h
    rw [SObj.eqB_ok a b h.1, qzs h.2]
  | [], _ :: _, h => by simp [qpx] at h
  | _ :: _, [], h => by simp [qpx] at h
theorem q4f {a a' : AV} {v : Value} {σ1 : qr} (hg : qx3 a σ = some (a', σ1)) (s : SR P Γ σ w) (h : VR Γ w a v) : ∃ Γ', Ext Γ Γ' w w ∧ SR P Γ' σ1 w ∧ VR Γ' w a' v := by
  unfold qx3 at hg
  split at hg
  · split at hg
    · rename_i ho
      split at hg
      · rename_i hc
        obtain ⟨rfl, hle⟩ := hc
        cases hg
        obtain ⟨q1, q2⟩ := qoo s h ho hle
        exact ⟨_, Ext.drop Γ w _, q1, q2⟩
      · cases hg
    · cases hg
  · cases hg
    exact ⟨Γ, Ext.refl Γ w, s, h⟩
theorem q37 : ∀ {as as' : List AV} {vs : List Value} {Γ : Ctx} {σ σ1 : qr}, q8v as σ = some (as', σ1) → SR P Γ σ w → VRs Γ w as vs → ∃ Γ', Ext Γ Γ' w w ∧ SR P Γ' σ1 w ∧ VRs Γ' w as' vs
  | [], as', vs, Γ, σ, σ1, hg, s, h => by
    simp only [q8v] at hg; cases hg
    exact ⟨Γ, Ext.refl Γ w, s, h⟩
  | a :: as, as', vs, Γ, σ, σ1, hg, s, h => by
    simp only [q8v, Option.bind_eq_some_iff] at hg
    obtain ⟨⟨x, σ2⟩, h1, ⟨y, σ3⟩, h2, hg⟩ := hg
    cases hg
    simp only [VRs] at h
    obtain ⟨u, us, rfl, k1, k2⟩ := h
    obtain ⟨Γ1, e1, s1, r1⟩ := q4f h1 s k1
    obtain ⟨Γ2, e2, s2, r2⟩ := q37 h2 s1 (VRs.mono e1 _ _ k2)
    refine ⟨Γ2, e1.trans e2, s2, ?_⟩
    simp only [VRs]
    exact ⟨u, us, rfl, VR.mono e2 _ _ r1, r2⟩
theorem giveG_ok {a a' : AV} {v : Value} {σ1 : qr} (hg : giveG a σ = some (a', σ1)) (s : SR P Γ σ w) (h : VR Γ w a v) : ∃ Γ', Ext Γ Γ' w w ∧ SR P Γ' σ1 w ∧ VR Γ' w a' v := by
  unfold giveG at hg
  split at hg
  · rename_i cs
    rw [Option.bind_eq_some_iff] at hg
    obtain ⟨⟨cs', σ2⟩, h1, hg⟩ := hg
    cases hg
    simp only [VR] at h
    obtain ⟨vs, rfl, k⟩ := h
    obtain ⟨Γ', e, s', r⟩ := q37 h1 s k
    refine ⟨Γ', e, s', ?_⟩
    simp only [VR]
    exact ⟨vs, rfl, r⟩
  · exact q4f hg s h
theorem q1v : ∀ {as as' : List AV} {vs : List Value} {Γ : Ctx} {σ σ1 : qr}, q2f as σ = some (as', σ1) → SR P Γ σ w → VRs Γ w as vs → ∃ Γ', Ext Γ Γ' w w ∧ SR P Γ' σ1 w ∧ VRs Γ' w as' vs
  | [], as', vs, Γ, σ, σ1, hg, s, h => by
    simp only [q2f] at hg; cases hg
    exact ⟨Γ, Ext.refl Γ w, s, h⟩
  | a :: as, as', vs, Γ, σ, σ1, hg, s, h => by
    simp only [q2f, Option.bind_eq_some_iff] at hg
    obtain ⟨⟨x, σ2⟩, h1, ⟨y, σ3⟩, h2, hg⟩ := hg
    cases hg
    simp only [VRs] at h
    obtain ⟨u, us, rfl, k1, k2⟩ := h
    obtain ⟨Γ1, e1, s1, r1⟩ := giveG_ok h1 s k1
    obtain ⟨Γ2, e2, s2, r2⟩ := q1v h2 s1 (VRs.mono e1 _ _ k2)
    refine ⟨Γ2, e1.trans e2, s2, ?_⟩
    simp only [VRs]
    exact ⟨u, us, rfl, VR.mono e2 _ _ r1, r2⟩
theorem Got.pre {Γ' : Ctx} {r : AV} {v : Value} {w' : World} (hx : Ext Γ Γ' w w) (h : Got P Γ' w r σ' v w') : Got P Γ w r σ' v w' := by
  obtain ⟨Γ2, h1, h2, h3⟩ := h
  exact ⟨Γ2, h1, h2, hx.trans h3⟩
theorem qsd {h : Hints} {o : Oper} {it : Item'} (hc : q3p P h o = some it) : qz4 P h o = some it ∨ (it = .op .bad ∧ q4s o.op = true) := by
  unfold q3p at hc
  split at hc
  · cases hc; exact .inl ‹_›
  · split at hc
    · cases hc; exact .inr ⟨rfl, (And.right ‹_›)⟩
    · cases hc
theorem item_ok {O : Orc} (hO : qph P O) (hR : qnk P O) {h : Hints} {o : Oper} {it : Item'} {r : AV} (hc : q3p P h o = some it) (he : qba O e σ it = some (r, σ')) (hv : VE Γ w e a) (s : SR P Γ σ w) :
    qmd P (Got P Γ w r σ') ((execOp a.eval o).run P w) := by
  have hc : qz4 P h o = some it := by
    rcases qsd hc with hc | ⟨rfl, _⟩
    · exact hc
    · simp [qba, qai] at he
  have hop : (∃ c, cOp P h o = some c ∧ it = .op c) ∨ ∃ cl f, o.op = .call cl ∧ cl.callee = .value f ∧ ∃ as, qx8 cl.args.toList = some as ∧
      ((∃ k, f = .func k ∧ (it = .callA k as ∨ it = .callI k as ∨ it = .callR k as ∨ it = .callP k as ∨ it = .callF k as ∨ ∃ pos, it = .callH k as pos)) ∨ ∃ f', qdh f = some f' ∧ it = .callv f' as) := by
    unfold qz4 at hc
    split at hc
    · rename_i f args at' heq
      rw [Option.bind_eq_some_iff] at hc
      obtain ⟨as, h1, hc⟩ := hc
      refine .inr ⟨_, f, heq, rfl, as, h1, ?_⟩
      split at hc
      · rename_i k
        split at hc
        · cases hc; exact .inl ⟨k, rfl, .inr (.inr (.inr (.inr (.inr ⟨_, rfl⟩))))⟩
        split at hc
        · cases hc; exact .inl ⟨k, rfl, .inl rfl⟩
        · split at hc
          · cases hc; exact .inl ⟨k, rfl, .inr (.inl rfl)⟩
          · split at hc
            · cases hc; exact .inl ⟨k, rfl, .inr (.inr (.inl rfl))⟩
            · split at hc
              · cases hc; exact .inl ⟨k, rfl, .inr (.inr (.inr (.inr (.inl rfl))))⟩
              · cases hc; exact .inl ⟨k, rfl, .inr (.inr (.inr (.inl rfl)))⟩
      · rw [Option.bind_eq_some_iff] at hc
        obtain ⟨f', h2, hc⟩ := hc
        cases hc
        exact .inr ⟨f', h2, rfl⟩
    · rw [Option.bind_eq_some_iff] at hc
      obtain ⟨c, h1, hc⟩ := hc
      cases hc
      exact .inl ⟨c, h1, rfl⟩
  rcases hop with ⟨c, h1, rfl⟩ | ⟨cl, f, ho, hcal, as, has, hf⟩
  · exact (op_ok h1 he hv s).next
  · have hex : ∀ v, a.eval f = v → (execOp a.eval o).run P w = ((Deferred.ofValue v (cl.args.map a.eval)).run P w).andThen (fun d w => (invoke d.target d.args).run P w) := by
      rintro v rfl
      simp only [execOp, ho, resolve, hcal, Sem.run_bind]
    have hfn : ∀ k (fs cs : List Value), a.eval f = .func (.func k) fs.toArray cs.toArray → (execOp a.eval o).run P w = (callFunc k (fs ++ (cl.args.toList.map a.eval ++ cs)).toArray).run P w := by
      intro k fs cs hk
      have harr : fs.toArray ++ cl.args.map a.eval ++ cs.toArray = (fs ++ (cl.args.toList.map a.eval ++ cs)).toArray := by
        apply Array.toList_inj.1; simp
      rw [hex _ hk]
      simp only [Deferred.ofValue, Sem.run_pure, Result.andThen_ok, invoke, harr]
    rcases hf with ⟨k, rfl, hit⟩ | ⟨f', hf', rfl⟩
    · have hk := hfn k [] [] (by simp [Act.eval])
      simp only [List.nil_append, List.append_nil] at hk
      rw [hk]
      rcases hit with rfl | rfl | rfl | rfl | rfl | ⟨pos, rfl⟩
      · simp only [qba, Option.bind_eq_some_iff] at he
        obtain ⟨vs, h1, he⟩ := he
        split at he
        · rename_i hlo
          rw [Option.bind_eq_some_iff] at he
          obtain ⟨⟨u, τ⟩, h2, he⟩ := he
          rw [Option.bind_eq_some_iff] at he
          obtain ⟨τ', h3, he⟩ := he
          cases he
          exact (hO k vs [] u τ h2 Γ.far0 w _ s.far0 ((qko has h1 hv).far0 hlo)).mono fun v w' hg => hg.taken s (fun o o' ho => by
            unfold q1h at ho
            split at ho
            · cases ho; exact .inl ⟨_, _, _, rfl, rfl⟩
            · cases ho; exact .inr ⟨_, _, rfl, rfl⟩
            · cases ho) h3
        · cases he
      · simp only [qba, Option.bind_eq_some_iff] at he
        obtain ⟨vs, h1, he⟩ := he
        exact hO k vs σ r σ' he Γ w _ s (qko has h1 hv)
      · simp only [qba, Option.bind_eq_some_iff] at he
        obtain ⟨vs, h1, ⟨u, τ⟩, h2, he⟩ := he
        split at he
        · rename_i hst
          cases he
          obtain rfl := qzs hst
          exact hO k vs σ _ _ h2 Γ w _ s (qko has h1 hv)
        · cases he
      · simp only [qba, Option.bind_eq_some_iff] at he
        obtain ⟨vs, h1, he⟩ := he
        split at he
        · rename_i hlo
          rw [Option.bind_eq_some_iff] at he
          obtain ⟨⟨u, τ⟩, h2, he⟩ := he
          rw [Option.bind_eq_some_iff] at he
          obtain ⟨r', h3, he⟩ := he
          cases he
          exact (hO k vs [] u τ h2 Γ.far0 w _ s.far0 ((qko has h1 hv).far0 hlo)).mono fun v w' hg => hg.frozen s h3
        · cases he
      · simp only [qba, Option.bind_eq_some_iff] at he
        obtain ⟨vs, h1, ⟨vs', σ2⟩, hg, he⟩ := he
        obtain ⟨Γ', hx, s', hv'⟩ := q1v hg s (qko has h1 hv)
        split at he
        · rename_i hlo
          rw [Option.bind_eq_some_iff] at he
          obtain ⟨⟨u, τ⟩, h2, he⟩ := he
          rw [Option.bind_eq_some_iff] at he
          obtain ⟨r', h3, he⟩ := he
          cases he
          exact (hO k vs' [] u τ h2 Γ'.far0 w _ s'.far0 (hv'.far0 hlo)).mono fun v w' hg => Got.pre hx (hg.frozen s' h3)
        · cases he
      · simp only [qba, Option.bind_eq_some_iff] at he
        obtain ⟨vs, h1, he⟩ := he
        split at he
        · rename_i hlo
          rw [Option.bind_eq_some_iff] at he
          obtain ⟨⟨u, τ⟩, h2, he⟩ := he
          simp only at he
          split at he
          · split at he
            · rename_i ho'
              split at he
              · rename_i hg'
                rw [Option.bind_eq_some_iff] at he
                obtain ⟨es', h3, he⟩ := he
                split at he
                · rename_i hh
                  cases he
                  subst hg'
                  exact (hO k vs [] _ τ h2 Γ.far0 w _ s.far0 ((qko has h1 hv).far0 hlo)).mono fun v w' hg => hg.filled s ho' h3 hh
                · cases he
              · cases he
            · cases he
          · cases he
        · cases he
    · simp only [qba, Option.bind_eq_some_iff] at he
      obtain ⟨g, h1, vs, h2, he⟩ := he
      have hg := qa7 hf' h1 hv
      split at he
      · rename_i k first cap
        simp only [VR] at hg
        obtain ⟨fs, cs, h3, h4, h5⟩ := hg
        rw [hfn k fs cs h3]
        exact hO k _ σ r σ' he Γ w _ s (h4.append ((qko has h2 hv).append h5))
      · rename_i l
        simp only [VR] at hg
        obtain ⟨b, h3, h4, h5⟩ := hg
        have harr : #[] ++ cl.args.map a.eval = (cl.args.toList.map a.eval).toArray := by
          apply Array.toList_inj.1; simp
        rw [hex _ h3]
        simp only [Deferred.ofValue, Sem.run_pure, Result.andThen_ok, invoke, harr]
        exact hR l vs σ r σ' he Γ w b _ s (qko has h2 hv) h4 h5
      · cases he
end Go.Ev
namespace Go.Ev
open Go.RowKit (Below)
variable {P : Program} {Γ Γ' : Ctx} {w w' : World} {σ σ' : qr} {e e' : Env} {a a' : Act} {av : AV} {N : Nat}
def MR (Γ : Ctx) : List Nat → List Deferred → Prop
  | [], ds => ds = []
  | m :: ms, ds => ∃ b ds', ds = { target := .collected b, args := #[] } :: ds' ∧ m < Γ.n ∧ ((Γ.loc m).g = 0 → b = (Γ.loc m).b) ∧ MR Γ ms ds'
structure AR (P : Program) (Γ : Ctx) (N : Nat) (e : Env) (σ : qr) (a : Act) (w : World) : Prop where
  ve : VE Γ w e a
  sr : SR P Γ σ w
  sz : a.tmps.size = N
  mr : MR Γ e.marks a.defers
theorem MR.mono (x : Ext Γ Γ' w w') : ∀ {ms : List Nat} {ds : List Deferred}, MR Γ ms ds → MR Γ' ms ds
  | [], ds, h => h
  | m :: ms, ds, h => by
    simp only [MR] at h ⊢
    obtain ⟨b, ds', rfl, h1, h2, h3⟩ := h
    refine ⟨b, ds', rfl, Nat.lt_of_lt_of_le h1 x.n, fun hg => ?_, MR.mono x h3⟩
    rcases x.loc m h1 with h4 | h4
    · rw [h4] at hg ⊢; exact h2 hg
    · omega
theorem q4m (a : Act) (d : Option Nat) (v : Value) (t : Nat) (hd : ∀ k, d = some k → k < a.tmps.size) : (a.put d v).tmps.getD t undef = if d = some t then v else a.tmps.getD t undef := by
  cases d with
  | none => simp [Act.put]
  | some k =>
    have := hd k rfl
    by_cases h : k = t
    · subst h; simp [Act.put, this]
    · simp only [Act.put, Option.some.injEq, if_neg h]
      simp [Array.getElem?_setIfInBounds_ne h]
theorem q3x (a : Act) (d : Option Nat) (v : Value) : (a.put d v).tmps.size = a.tmps.size := by cases d <;> simp [Act.put]
@[simp] theorem put_defers (a : Act) (d : Option Nat) (v : Value) : (a.put d v).defers = a.defers := by cases d <;> rfl
theorem q38 {d : Option Nat} (h : q5g N d = true) : ∀ k, d = some k → k < N := by
  intro k hk; subst hk; simpa [q5g] using h
theorem AR.put (h : AR P Γ N e σ a w) {v : Value} {d : Option Nat} (hd : q5g N d = true) (hv : VR Γ' w' av v) (hs : SR P Γ' σ' w') (x : Ext Γ Γ' w w') : AR P Γ' N (e.set d av) σ' (a.put d v) w' where
  ve t u ht := by
    rw [q4m a d v t (by rw [h.sz]; exact q38 hd)]
    have ht : (e.set d av).get t = some u := ht
    rw [quj] at ht
    split at ht
    · cases ht; rw [if_pos ‹_›]; exact hv
    · rw [if_neg ‹_›]; exact VR.mono x _ _ (h.ve t u ht)
  sr := hs
  sz := by rw [q3x, h.sz]
  mr := by rw [marks_set, put_defers]; exact h.mr.mono x
theorem AR.unset (h : AR P Γ N e σ a w) {d : Option Nat} (hd : q5g N d = true) : AR P Γ N (e.unset d) σ (a.put d undef) w where
  ve t u ht := by
    rw [q4m a d undef t (by rw [h.sz]; exact q38 hd)]
    have ht : (e.unset d).get t = some u := ht
    rw [qtf] at ht
    split at ht
    · cases ht
      rw [if_pos ‹_›]
      simp only [VR, VRs]
      exact ⟨[], rfl, rfl⟩
    · rw [if_neg ‹_›]; exact h.ve t u ht
  sr := h.sr
  sz := by rw [q3x, h.sz]
  mr := by rw [marks_unset, put_defers]; exact h.mr
theorem AR.eqv (h : AR P Γ N e σ a w) (k : Eqv e e') : AR P Γ N e' σ a w := ⟨fun t u ht => h.ve t u ((k.1 t).trans ht), h.sr, h.sz, by rw [← k.2]; exact h.mr⟩
theorem AR.below (h : AR P Γ N e σ a w) (k : Below w.heap.size w w') : AR P Γ N e σ a w' := ⟨h.ve.mono (.of_below Γ k), h.sr.of_below k, h.sz, h.mr⟩
theorem q8a {ro : Option Nat} {ops : Array Oper} {Q : Exit → Act → World → Prop} {i : Nat} {o : Oper} {K : Act → World → Prop} {G : Value → World → Prop} (hi : ops[i]? = some o) (hnd : ∀ c, o.op ≠ .defer c)
    (hw : Region.wanted o (yielded ops a.tmps) = true) (h : qmd P G ((execOp a.eval o).run P w)) (hK : ∀ v w', G v w' → K (a.put o.dst v) w') : wpOpIn (FR ro) 0 P ops Q i K a w := by
  unfold wpOpIn
  simp only [hi, hw, if_true, Oper.wpIn]
  refine ⟨fun _ _ => trivial, ?_⟩
  rw [Oper.semAt_eq _ _ _ hnd]
  generalize (execOp a.eval o).run P w = r at h
  have hB : ∀ e w', q6d G e w' → ∃ v, e = .returned v ∧ K (a.put o.dst v) w' := fun e w' he => by
    cases e with
    | returned v => exact ⟨v, rfl, hK v w' he⟩
    | panicked _ => exact he.elim
    | outgrown => exact he.elim
  cases r with
  | ok nx w' =>
    cases nx <;> simp only [qmd] at h <;> simp only [Oper.uponIn]
    · exact hK _ _ h
    · exact hK _ _ h
    · refine ⟨fun hd => by simp [Fence.wide] at hd, CallsIn.mono h fun e w' he => ?_⟩
      obtain ⟨v, rfl, h2⟩ := hB e w' he
      exact h2
    · refine ⟨fun hd => by simp [Fence.wide] at hd, RoundIn.mono h fun e w' he => ?_⟩
      obtain ⟨v, rfl, h2⟩ := hB e w' he
      exact h2
  | halt _ _ => exact h.elim
theorem qsc {h : Hints} {n : Nat} {ops : Array Oper} {o : Oper} {c : COper} (hc : qyb P h n ops o = some c) :
    q5g n o.dst = true ∧ c.dst = o.dst ∧ q3p P h o = some c.it ∧ ((o.guard = none ∧ c.guard = none) ∨ ∃ j want t, o.guard = some (j, want) ∧ c.guard = some (t, want) ∧ (ops[j]?).bind (·.dst) = some t) := by
  unfold qyb at hc
  split at hc
  · rename_i hd
    rw [Option.bind_eq_some_iff] at hc
    obtain ⟨it, h1, hc⟩ := hc
    split at hc
    · rename_i hg
      cases hc
      exact ⟨hd, rfl, h1, .inl ⟨hg, rfl⟩⟩
    · rename_i j want hg
      rw [Option.bind_eq_some_iff] at hc
      obtain ⟨t, h2, hc⟩ := hc
      cases hc
      exact ⟨hd, rfl, h1, .inr ⟨j, want, t, hg, rfl, h2⟩⟩
  · cases hc
theorem q0m {h : Hints} {o : Oper} {it : Item'} (hc : q3p P h o = some it) : ∀ c, o.op ≠ .defer c := by
  intro c hd
  rcases qsd hc with hc | ⟨_, hn⟩
  · unfold qz4 at hc
    rw [hd] at hc
    simp [cOp, hd] at hc
  · rw [hd] at hn; cases hn
theorem q2z {ops : Array Oper} {o : Oper} {j t : Nat} {want b : Bool} (hg : o.guard = some (j, want)) (hj : (ops[j]?).bind (·.dst) = some t) (hb : a.tmps.getD t undef = .bool b) :
    Region.wanted o (yielded ops a.tmps) = (b == want) := by
  have hlt : a.tmps[t]? = some (.bool b) := by
    rw [Array.getD_eq_getD_getElem?] at hb
    cases h : a.tmps[t]? with
    | none => rw [h] at hb; simp [undef] at hb
    | some x => rw [h] at hb; simp at hb; rw [hb]
  simp only [Region.wanted, hg, yielded, hj, Option.bind_some, hlt]
  cases b <;> cases want <;> rfl
theorem q0v {O : Orc} (hO : qph P O) (hR : qnk P O) {ro : Option Nat} {h : Hints} {ops : Array Oper} {Q : Exit → Act → World → Prop} {i : Nat} {o : Oper} {c : COper} {K : Act → World → Prop} {e1 : Env} {σ1 : qr}
    (hi : ops[i]? = some o) (hc : qyb P h N ops o = some c) (he : qe O e σ c = some (e1, σ1)) (ha : AR P Γ N e σ a w) (hK : ∀ Γ' a' w', Ext Γ Γ' w w' → AR P Γ' N e1 σ1 a' w' → K a' w') :
    wpOpIn (FR ro) 0 P ops Q i K a w := by
  obtain ⟨hd, hdst, hit, hg⟩ := qsc hc
  have run : (∃ r, qba O e σ c.it = some (r, σ1) ∧ e1 = e.set c.dst r) → Region.wanted o (yielded ops a.tmps) = true → wpOpIn (FR ro) 0 P ops Q i K a w := by
    rintro ⟨r, h1, rfl⟩ hw
    refine q8a hi (q0m hit) hw (item_ok hO hR hit h1 ha.ve ha.sr) ?_
    rintro v w' ⟨Γ', h2, h3, h4⟩
    rw [hdst] at hK
    exact hK Γ' _ w' h4 (ha.put hd h2 h3 h4)
  unfold qe at he
  rcases hg with ⟨h1, h2⟩ | ⟨j, want, t, h1, h2, h3⟩
  · rw [h2] at he
    simp only [Option.bind_eq_some_iff] at he
    obtain ⟨⟨r, s1⟩, h3, he⟩ := he
    cases he
    exact run ⟨r, h3, rfl⟩ (by simp [Region.wanted, h1])
  · rw [h2] at he
    simp only [Option.bind_eq_some_iff] at he
    obtain ⟨bv, h4, he⟩ := he
    split at he
    · rename_i b
      have hb := ha.ve t _ h4
      simp only [VR] at hb
      have hw := q2z h1 h3 hb
      split at he
      · rename_i hbw
        simp only [Option.bind_eq_some_iff] at he
        obtain ⟨⟨r, s1⟩, h5, he⟩ := he
        cases he
        exact run ⟨r, h5, rfl⟩ (by rw [hw, hbw]; simp)
      · rename_i hbw
        cases he
        unfold wpOpIn
        simp only [hi]
        rw [if_neg (by rw [hw]; simpa using hbw)]
        exact ⟨fun _ _ => trivial, hK Γ _ w (Ext.refl _ _) (by rw [hdst]; exact ha.unset hd)⟩
    · have hb := ha.ve t _ h4
      simp only [VR, VRs] at hb
      obtain ⟨vs, hb, rfl⟩ := hb
      cases he
      have hw : ¬ Region.wanted o (yielded ops a.tmps) = true := by
        have hx : ∀ x, a.tmps[t]? = some x → x = .tuple #[] := fun x hx => by
          rw [Array.getD_eq_getD_getElem?, hx] at hb; exact hb
        simp only [Region.wanted, h1, yielded, h3, Option.bind_some]
        cases hz : a.tmps[t]? with
        | none => simp
        | some x => rw [hx x hz]; simp
      unfold wpOpIn
      simp only [hi]
      rw [if_neg hw]
      exact ⟨fun _ _ => trivial, hK Γ _ w (Ext.refl _ _) (by rw [hdst]; exact ha.unset hd)⟩
    · cases he
def qht (cs : List COper) (l : List Nat) : List COper := l.filterMap (cs[·]?)
theorem qu2 {cs : List COper} {i : Nat} {c : COper} (h : cs[i]? = some c) (l : List Nat) : qht cs (i :: l) = c :: qht cs l := by simp [qht, h]
theorem qo9 : ∀ (cs : List COper), qht cs (List.range cs.length) = cs
  | [] => rfl
  | c :: cs => by
    have ih := qo9 cs
    unfold qht at ih ⊢
    rw [List.length_cons, List.range_succ_eq_map, List.filterMap_cons]
    simp only [List.getElem?_cons_zero, List.filterMap_map]
    rw [show ((fun x => (c :: cs)[x]?) ∘ Nat.succ) = fun x => cs[x]? from funext fun x => by simp]
    rw [ih]
theorem ops_wp {O : Orc} (hO : qph P O) (hR : qnk P O) {ro : Option Nat} {h : Hints} {ops : Array Oper} {cs : List COper} {Q : Exit → Act → World → Prop} (hcs : qgn (qyb P h N ops) ops.toList = some cs) {e' : Env} {σ' : qr} :
    ∀ (l : List Nat) {e : Env} {σ : qr} {Γ : Ctx} {a : Act} {w : World}, (∀ i ∈ l, i < ops.size) → qb O (qht cs l) e σ = some (e', σ') → AR P Γ N e σ a w →
      (∀ Γ' a' w', Ext Γ Γ' w w' → AR P Γ' N e' σ' a' w' → Q .normal a' w') → wpOpsIn (FR ro) 0 P ops Q l a w
  | [], e, σ, Γ, a, w, _, he, ha, hq => by
    simp only [qht, List.filterMap_nil, qb] at he
    cases he
    exact hq Γ a w (Ext.refl _ _) ha
  | i :: l, e, σ, Γ, a, w, hl, he, ha, hq => by
    rw [wpOpsIn_cons]
    have hi : i < ops.size := hl i (by simp)
    have ho : ops[i]? = some ops[i] := by simp [hi]
    obtain ⟨c, hc, hco⟩ := qwd hcs (i := i) (a := ops[i]) (by simp [hi])
    rw [qu2 hc] at he
    simp only [qb, Option.bind_eq_some_iff] at he
    obtain ⟨⟨e1, σ1⟩, h1, h2⟩ := he
    exact q0v hO hR ho hco h1 ha fun Γ1 a1 w1 x1 ha1 => ops_wp hO hR hcs l (fun j hj => hl j (by simp [hj])) h2 ha1 fun Γ2 a2 w2 x2 ha2 => hq Γ2 a2 w2 (x1.trans x2) ha2
end Go.Ev
namespace Go.Ev
open Go.RowKit (Below)
variable {P : Program} {Γ Γ' : Ctx} {w w' : World} {σ σ' : qr} {e e' : Env} {a a' : Act} {av : AV} {N : Nat}
theorem qyh : ∀ (l : List Oper) (acc : List Nat), (q7d l acc).length = acc.length + l.length ∧ (q7d l acc).take acc.length = acc ∧
    ∀ k o, l[k]? = some o → (q7d l acc)[acc.length + k]? = some (bits ((q7d l acc).take (acc.length + k)) o.after.toList)
  | [], acc => ⟨by simp [q7d], by simp [q7d], by simp⟩
  | o :: r, acc => by
    obtain ⟨h1, h2, h3⟩ := qyh r (acc ++ [bits acc o.after.toList])
    have hlen : (acc ++ [bits acc o.after.toList]).length = acc.length + 1 := by simp
    rw [hlen] at h1 h2 h3
    simp only [q7d]
    have hacc : (q7d r (acc ++ [bits acc o.after.toList])).take acc.length = acc := by
      have := congrArg (List.take acc.length) h2
      rw [List.take_take, Nat.min_eq_left (by omega)] at this
      rw [this]; simp
    refine ⟨by rw [h1]; simp; omega, hacc, fun k o' hk => ?_⟩
    cases k with
    | zero =>
      simp at hk; subst hk
      rw [Nat.add_zero, hacc]
      have := congrArg (fun l => l[acc.length]?) h2
      simp only [List.getElem?_take] at this
      rw [if_pos (by omega)] at this
      rw [this]; simp
    | succ k =>
      have := h3 k o' (by simpa using hk)
      rw [show acc.length + (k + 1) = acc.length + 1 + k from by omega]
      exact this
theorem qzn {b : COper} {bj : Nat} : ∀ {l : List COper} {i : Nat}, q8k b bj l i = true → ∀ {m : Nat} {a : COper}, l[m]? = some a → bj.testBit (i + m) = true ∨ q4d a b = true
  | [], _, _, m, a, hm => by simp at hm
  | x :: l, i, h, m, a, hm => by
    simp only [q8k, Bool.and_eq_true, Bool.or_eq_true] at h
    cases m with
    | zero => simp at hm; subst hm; simpa using h.1
    | succ m =>
      have := qzn h.2 (m := m) (a := a) (by simpa using hm)
      rw [show i + (m + 1) = i + 1 + m from by omega]; exact this
theorem qx5 : ∀ {cs done : List COper} {bs : List Nat}, q1b done cs bs = true → ∀ {k : Nat} {b : COper}, cs[k]? = some b → ∃ bj, bs[k]? = some bj ∧ q8k b bj (done ++ cs.take k) 0 = true
  | [], _, _, _, k, b, hk => by simp at hk
  | c :: cs, done, [], h, k, b, hk => by simp [q1b] at h
  | c :: cs, done, bj :: bs, h, k, b, hk => by
    simp only [q1b, Bool.and_eq_true] at h
    cases k with
    | zero => simp at hk; subst hk; exact ⟨bj, by simp, by simpa using h.1⟩
    | succ k =>
      obtain ⟨b2, h1, h2⟩ := qx5 h.2 (k := k) (b := b) (by simpa using hk)
      exact ⟨b2, by simpa using h1, by simpa using h2⟩
theorem qxf {acc : List Nat} {j : Nat} : ∀ {l : List Edge}, (bits acc l).testBit j = true → ∃ ed ∈ l, Region.binds .any ed = true ∧ (j = ed.on ∨ (acc.getD ed.on 0).testBit j = true)
  | [], h => by simp [bits] at h
  | x :: l, h => by
    simp only [bits] at h
    split at h
    · rename_i hb
      simp only [Nat.testBit_or, Bool.or_eq_true] at h
      rcases h with h | h | h
      · refine ⟨x, by simp, hb, .inl ?_⟩
        rw [Nat.testBit_two_pow] at h
        simpa using (of_decide_eq_true h).symm
      · exact ⟨x, by simp, hb, .inr h⟩
      · obtain ⟨ed, h1, h2⟩ := qxf h
        exact ⟨ed, by simp [h1], h2⟩
    · obtain ⟨ed, h1, h2⟩ := qxf h
      exact ⟨ed, by simp [h1], h2⟩
theorem qp0 : ∀ {l : List Oper} {i : Nat}, qw8 l i = true → ∀ {k : Nat} {o : Oper}, l[k]? = some o → ∀ ed ∈ o.after, Region.binds .any ed = true → ed.on < i + k
  | [], _, _, k, o, hk => by simp at hk
  | x :: l, i, h, k, o, hk => by
    simp only [qw8, Bool.and_eq_true, List.all_eq_true, Bool.or_eq_true, Bool.not_eq_true', decide_eq_true_eq] at h
    cases k with
    | zero => simp at hk; subst hk; intro ed hed hb; exact (h.1 ed (by simpa using hed)).resolve_left (by simp [hb])
    | succ k =>
      intro ed hed hb
      have := qp0 h.2 (k := k) (o := o) (by simpa using hk) ed hed hb
      omega
def Closed (ops : Array Oper) (listed : Array Bool) : Prop := ∀ (j : Nat) (o : Oper), ops[j]? = some o → listed.getD j false = true → ∀ ed ∈ o.after, Region.binds .any ed = true → listed.getD ed.on false = true
theorem q3t {ops : Array Oper} {listed : Array Bool} (hlt : qw8 ops.toList 0 = true) (hcl : Closed ops listed) : ∀ (i : Nat) (o : Oper), ops[i]? = some o → (∀ ed ∈ o.after, Region.binds .any ed = true → listed.getD ed.on false = true) →
    ∀ bj, (q7d ops.toList [])[i]? = some bj → ∀ j, bj.testBit j = true → listed.getD j false = true := by
  intro i
  induction i using Nat.strongRecOn with
  | _ i ih =>
    intro o ho hall bj hbj j hj
    have hsp := (qyh ops.toList []).2.2 i o (by simpa using ho)
    simp only [List.length_nil, Nat.zero_add] at hsp
    rw [hsp] at hbj
    cases hbj
    obtain ⟨ed, h1, h2, h3⟩ := qxf hj
    have hed : ed ∈ o.after := by simpa using h1
    rcases h3 with rfl | h3
    · exact hall ed hed h2
    · have hlt' : ed.on < i := by simpa using qp0 hlt (k := i) (o := o) (by simpa using ho) ed hed h2
      obtain ⟨o', ho'⟩ : ∃ o', ops[ed.on]? = some o' := ⟨_, Array.getElem?_eq_getElem (Nat.lt_trans hlt' (Array.getElem?_eq_some_iff.1 ho).1)⟩
      refine ih ed.on hlt' o' ho' (hcl ed.on o' ho' (hall ed hed h2)) _ ?_ j h3
      have hsp' := (qyh ops.toList []).2.2 ed.on o' (by simpa using ho')
      simp only [List.length_nil, Nat.zero_add] at hsp'
      rw [List.getD_eq_getElem?_getD, List.getElem?_take, if_pos hlt', hsp']
      rfl
theorem q7q (n : Nat) (v : Value) : (ofLeaf v).lo n = true := by
  unfold ofLeaf; split <;> simp [AV.lo, qiu]
theorem lo_ofTop (n : Nat) (v : Value) : (ofTop v).lo n = true := by
  unfold ofTop; split <;> simp [AV.lo, qiu]
theorem qz6 (n : Nat) : ∀ (l : List Value), los n (l.map ofLeaf) = true
  | [] => rfl
  | v :: vs => by simp only [List.map_cons, los, q7q, qz6 n vs, Bool.and_self]
theorem lo_ofV (n : Nat) (v : Value) : (ofV v).lo n = true := by
  unfold ofV; split
  · simp only [AV.lo]; exact qz6 n _
  · exact lo_ofTop n _
theorem qz2 {x : Operand} {x' : Opnd} (h : qdh x = some x') : x'.okC = true := by
  unfold qdh at h
  split at h
  · cases h; rfl
  · cases h
  · cases h; exact lo_ofV 0 _
  · cases h; rfl
  · cases h
theorem load_okC {h : Hints} {o : Oper} {it : Item'} (hc : q3p P h o = some it) : qri it = true := by
  rcases qsd hc with hc | ⟨rfl, _⟩
  case inr => rfl
  unfold qz4 at hc
  split at hc
  · rw [Option.bind_eq_some_iff] at hc
    obtain ⟨as, h1, hc⟩ := hc
    split at hc
    · split at hc
      · cases hc; rfl
      split at hc
      · cases hc; rfl
      · split at hc
        · cases hc; rfl
        · split at hc
          · cases hc; rfl
          · split at hc <;> (cases hc; rfl)
    · rw [Option.bind_eq_some_iff] at hc
      obtain ⟨f', h2, hc⟩ := hc
      cases hc; rfl
  · rw [Option.bind_eq_some_iff] at hc
    obtain ⟨c, h1, hc⟩ := hc
    cases hc
    unfold qri
    split
    · rename_i sz ag x heq
      cases heq
      unfold cOp at h1
      (repeat' (first | (obtain ⟨_, _, h1⟩ := h1) | split at h1 | rw [Option.bind_eq_some_iff] at h1)) <;> first
        | (cases h1; done)
        | exact qz2 (by assumption)
    · rename_i sz ag x av heq
      cases heq
      unfold cOp at h1
      (repeat' (first | (obtain ⟨_, _, h1⟩ := h1) | split at h1 | rw [Option.bind_eq_some_iff] at h1)) <;> first
        | (cases h1; done)
        | exact qz2 (by assumption)
    · rename_i sz ag x base heq
      cases heq
      unfold cOp at h1
      (repeat' (first | (obtain ⟨_, _, h1⟩ := h1) | split at h1 | rw [Option.bind_eq_some_iff] at h1)) <;> first
        | (cases h1; done)
        | exact qz2 (by assumption)
    · rename_i ok k z x key heq
      cases heq
      unfold cOp at h1
      (repeat' (first | (obtain ⟨_, _, h1⟩ := h1) | split at h1 | rw [Option.bind_eq_some_iff] at h1)) <;> first
        | (cases h1; done)
        | exact qz2 (by assumption)
    · rename_i sz x i heq
      cases heq
      unfold cOp at h1
      (repeat' (first | (obtain ⟨_, _, h1⟩ := h1) | split at h1 | rw [Option.bind_eq_some_iff] at h1)) <;> first
        | (cases h1; done)
        | exact qz2 (by assumption)
    · rename_i sz x lo hi mx heq
      cases heq
      unfold cOp at h1
      (repeat' (first | (obtain ⟨_, _, h1⟩ := h1) | split at h1 | rw [Option.bind_eq_some_iff] at h1)) <;> first
        | (cases h1; done)
        | exact qz2 (by assumption)
    · rfl
theorem AR.known (h : AR P Γ N e σ a w) : Known σ.length e := by
  intro t av o ht ho
  have hv := h.ve t av ht
  rw [h.sr.len]
  cases av <;> simp only [AV.obj?] at ho <;> first
    | (cases ho; done)
    | skip
  · cases ho
    simp only [VR] at hv
    obtain ⟨A, c, _, _, _, h1, _⟩ := hv
    exact h1
  · cases ho
    simp only [VR] at hv
    obtain ⟨p, _, h1, _⟩ := hv
    exact h1
  · cases ho
    simp only [VR] at hv
    obtain ⟨p, _, h1, _⟩ := hv
    exact h1
end Go.Ev
namespace Go.Ev
open Go.RowKit (Below)
variable {P : Program} {Γ Γ' : Ctx} {w w' : World} {σ σ' : qr} {e e' : Env} {a a' : Act} {av : AV} {N : Nat}
def rest (n : Nat) (listed : Array Bool) : List Nat := (List.range n).filter (fun i => !listed.getD i false)
theorem qs0 {n i : Nat} {listed : Array Bool} : i ∈ rest n listed ↔ i < n ∧ listed.getD i false = false := by
  simp [rest, List.mem_filter]
theorem q4t {listed : Array Bool} {i : Nat} (h : i < listed.size) : listed.getD i true = listed.getD i false := by
  simp [Array.getD, h]
theorem q5r {n i : Nat} {listed : Array Bool} (h : i ∈ rest n listed) (hs : listed.size = n) : ∃ l1 l2, rest n listed = l1 ++ i :: l2 ∧ (∀ j ∈ l1, j < i) ∧ rest n (listed.setIfInBounds i true) = l1 ++ l2 := by
  have hp : (rest n listed).Pairwise (· < ·) := List.Pairwise.filter _ List.pairwise_lt_range
  have hi := (qs0.1 h).1
  have hr : rest n (listed.setIfInBounds i true) = (rest n listed).filter (fun j => decide (j ≠ i)) := by
    unfold rest
    rw [List.filter_filter]
    apply List.filter_congr
    intro j _
    by_cases hj : i = j
    · subst hj; simp [Array.getD, hs, hi]
    · rw [getD_set_ne false hj]; simp [Ne.symm hj]
  obtain ⟨l1, l2, h1⟩ := List.append_of_mem h
  rw [h1] at hp
  have h2 := List.pairwise_append.1 hp
  have h3 : ∀ j ∈ l1, j < i := fun j hj => h2.2.2 j hj i (by simp)
  have h4 : ∀ j ∈ l2, i < j := fun j hj => (List.pairwise_cons.1 h2.2.1).1 j hj
  refine ⟨l1, l2, h1, h3, ?_⟩
  rw [hr, h1, List.filter_append, List.filter_cons]
  rw [List.filter_eq_self.2 fun j hj => by have := h3 j hj; simp; omega, List.filter_eq_self.2 fun j hj => by have := h4 j hj; simp; omega]
  simp
theorem qnw {O : Orc} : ∀ (l m : List COper) (e : Env) (σ : qr), qb O (l ++ m) e σ = (qb O l e σ).bind fun x => qb O m x.1 x.2
  | [], m, e, σ => rfl
  | o :: l, m, e, σ => by
    simp only [List.cons_append, qb]
    cases qe O e σ o with
    | none => rfl
    | some x => simp only [Option.bind_some]; exact qnw l m _ _
theorem any_wp {O : Orc} (hO : qph P O) (hR : qnk P O) {ro : Option Nat} {h : Hints} {ops : Array Oper} {cs : List COper} {Q : Exit → Act → World → Prop} (hcs : qgn (qyb P h N ops) ops.toList = some cs) (hdr : q7y ops cs = true) {e' : Env} {σ' : qr} :
    ∀ (fuel : Nat) (listed : Array Bool) {e : Env} {σ : qr} {Γ : Ctx} {a : Act} {w : World}, listed.size = ops.size → (rest ops.size listed).length ≤ fuel → Closed ops listed →
      (∃ e2, qb O (qht cs (rest ops.size listed)) e σ = some (e2, σ') ∧ Eqv e2 e') → AR P Γ N e σ a w →
      (∀ Γ' a' w', Ext Γ Γ' w w' → AR P Γ' N e' σ' a' w' → Q .normal a' w') → wpAnyIn (FR ro) 0 P .any ops Q fuel listed a w := by
  unfold q7y at hdr
  simp only [Bool.and_eq_true] at hdr
  obtain ⟨hlt, hrows⟩ := hdr
  have inRest : ∀ {i : Nat} {listed : Array Bool}, listed.size = ops.size → i ∈ Region.ready .any ops listed → i ∈ rest ops.size listed := fun {i listed} hs hi => by
    obtain ⟨h1, o, h2, _⟩ := mem_ready.1 hi
    have := (Array.getElem?_eq_some_iff.1 h2).1
    exact qs0.2 ⟨this, by rw [← q4t (by omega)]; exact h1⟩
  have done : ∀ (listed : Array Bool) {e : Env} {σ : qr} {Γ : Ctx} {a : Act} {w : World}, rest ops.size listed = [] →
      (∃ e2, qb O (qht cs (rest ops.size listed)) e σ = some (e2, σ') ∧ Eqv e2 e') → AR P Γ N e σ a w →
      (∀ Γ' a' w', Ext Γ Γ' w w' → AR P Γ' N e' σ' a' w' → Q .normal a' w') → Q .normal a w := by
    rintro listed e σ Γ a w hr ⟨e2, h1, h2⟩ ha hq
    rw [hr] at h1
    simp only [qht, List.filterMap_nil, qb] at h1
    cases h1
    exact hq Γ a w (Ext.refl _ _) (ha.eqv h2)
  have some_ready : ∀ {listed : Array Bool}, listed.size = ops.size → rest ops.size listed ≠ [] → Region.ready .any ops listed ≠ [] := by
    intro listed hs hne hnil
    obtain ⟨i, tl, hi⟩ := List.exists_cons_of_ne_nil hne
    have hmem : i ∈ rest ops.size listed := by rw [hi]; simp
    obtain ⟨hi1, hi2⟩ := qs0.1 hmem
    have hp : (rest ops.size listed).Pairwise (· < ·) := List.Pairwise.filter _ List.pairwise_lt_range
    rw [hi] at hp
    have hmin := (List.pairwise_cons.1 hp).1
    have : i ∈ Region.ready .any ops listed := by
      refine mem_ready.2 ⟨by rw [q4t (by omega)]; exact hi2, ops[i], by simp [hi1], fun ed hed hb => ?_⟩
      have hlt' : ed.on < i := by simpa using qp0 hlt (k := i) (o := ops[i]) (by simp [hi1]) ed hed hb
      cases hbb : listed.getD ed.on false with
      | true => rfl
      | false =>
        have : ed.on ∈ rest ops.size listed := qs0.2 ⟨by omega, hbb⟩
        rw [hi] at this
        rcases List.mem_cons.1 this with h1 | h1
        · omega
        · have := hmin _ h1; omega
    rw [hnil] at this
    cases this
  intro fuel
  induction fuel with
  | zero =>
    intro listed e σ Γ a w hs hf hcl hex ha hq
    have hr : rest ops.size listed = [] := List.eq_nil_of_length_eq_zero (by omega)
    refine ⟨?_, done listed hr hex ha hq⟩
    cases hrd : Region.ready .any ops listed with
    | nil => rfl
    | cons i tl =>
      have := inRest hs (i := i) (by rw [hrd]; simp)
      rw [hr] at this; cases this
  | succ fuel ih =>
    intro listed e σ Γ a w hs hf hcl hex ha hq
    refine ⟨fun hnil => ?_, fun i hi => ?_⟩
    · by_cases hr : rest ops.size listed = []
      · exact done listed hr hex ha hq
      · exact absurd hnil (some_ready hs hr)
    · have hir := inRest hs hi
      obtain ⟨l1, l2, h1, h2, h3⟩ := q5r hir hs
      obtain ⟨hun, o, ho, hall⟩ := mem_ready.1 hi
      obtain ⟨c, hc, hco⟩ := qwd hcs (i := i) (a := o) (by simpa using ho)
      obtain ⟨e2, h4, h5⟩ := hex
      have hpk : qht cs (rest ops.size listed) = qht cs l1 ++ c :: qht cs l2 := by
        rw [h1]
        have := qu2 hc l2
        unfold qht at this ⊢
        rw [List.filterMap_append, this]
      rw [hpk, qnw, Option.bind_eq_some_iff] at h4
      obtain ⟨⟨e3, σ3⟩, h6, h4⟩ := h4
      simp only [qb, Option.bind_eq_some_iff] at h4
      obtain ⟨⟨e4, σ4⟩, h7, h8⟩ := h4
      have hap : ∀ b ∈ qht cs l1, Ap b c := by
        intro b hb
        obtain ⟨j, hj, hjb⟩ := List.mem_filterMap.1 hb
        have hji := h2 j hj
        obtain ⟨bj, hbj, hrow⟩ := qx5 hrows hc
        have := qzn hrow (m := j) (a := b) (by rw [List.nil_append, List.getElem?_take, if_pos hji]; exact hjb)
        rw [Nat.zero_add] at this
        rcases this with hbit | hap
        · have hls := q3t hlt hcl i o ho hall bj hbj j hbit
          have hjr : j ∈ rest ops.size listed := by rw [h1]; simp [hj]
          have := (qs0.1 hjr).2
          rw [hls] at this; cases this
        · exact ap_of hap
      obtain ⟨e1', τ, h9, e2', h10, h11⟩ := q5s hap ha.known (load_okC (qsc hco).2.2.1) h6 h7
      obtain ⟨e5, h12, h13⟩ := qj6 h11.symm h8
      refine q0v hO hR ho hco h9 ha fun Γ1 a1 w1 x1 ha1 => ?_
      refine ih (listed.setIfInBounds i true) (by simp [hs]) ?_ ?_ ⟨e5, ?_, h13.symm.trans h5⟩ ha1 fun Γ2 a2 w2 x2 ha2 => hq Γ2 a2 w2 (x1.trans x2) ha2
      · have hlen := congrArg List.length h1
        have hlen3 := congrArg List.length h3
        simp only [List.length_append, List.length_cons] at hlen hlen3
        omega
      · intro j oj hoj hl ed hed hb
        by_cases hji : i = j
        · subst hji
          rw [ho] at hoj; cases hoj
          exact getD_set_true (hall ed hed hb)
        · rw [getD_set_ne false hji] at hl
          exact getD_set_true (hcl j oj hoj hl ed hed hb)
      · rw [h3]
        have : qht cs (l1 ++ l2) = qht cs l1 ++ qht cs l2 := by simp [qht]
        rw [this, qnw, h10]
        exact h12
theorem q8e {O : Orc} (hO : qph P O) (hR : qnk P O) (hm : P.follows .mixedOrders = true) {ro : Option Nat} {h : Hints} {id : Nat} {ops : Array Oper} {draw : Bool} {cc : CCode} {i j : Nat} (hc : qhs P h N (.region id ops draw) i = some (cc, j)) :
    ∃ cs, cc = .region cs ∧ ∀ {Q : Exit → Act → World → Prop} {e' : Env} {σ' : qr}, qb O cs e σ = some (e', σ') → AR P Γ N e σ a w →
      (∀ Γ' a' w', Ext Γ Γ' w w' → AR P Γ' N e' σ' a' w' → Q .normal a' w') → (Code.region id ops draw).wpIn (FR ro) 0 P Q a w := by
  simp only [qhs, Option.bind_eq_some_iff] at hc
  obtain ⟨cs, hcs, hc⟩ := hc
  have hlen : cs.length = ops.size := by simpa using qi6 hcs
  have lex : ∀ {Q : Exit → Act → World → Prop} {e' : Env} {σ' : qr}, qb O cs e σ = some (e', σ') → AR P Γ N e σ a w →
      (∀ Γ' a' w', Ext Γ Γ' w w' → AR P Γ' N e' σ' a' w' → Q .normal a' w') → (Code.region id ops false).wpIn (FR ro) 0 P Q a w := fun he ha hq => by
    refine wpIn_region (ops_wp hO hR hcs (List.range ops.size) (fun i hi => by simpa using hi) ?_ ha hq)
    rw [← hlen, qo9]; exact he
  split at hc
  · rename_i hd
    split at hc
    · rename_i hok
      cases hc
      subst hd
      refine ⟨cs, rfl, fun he ha hq => ?_⟩
      have hb := qqr w
      have hrest : rest ops.size (Array.replicate ops.size false) = List.range ops.size := by
        unfold rest
        rw [List.filter_eq_self]
        intro i hi
        simp [Array.getD]
      refine wpIn_region_any hm (any_wp hO hR hcs hok ops.size _ (by simp) (by rw [hrest]; simp) ?_ ⟨_, by rw [hrest, ← hlen, qo9]; exact he, Eqv.refl _⟩ (ha.below hb) ?_)
      · intro j o _ hl
        simp [Array.getD] at hl
      · exact fun Γ' a' w' x => hq Γ' a' w' ((Ext.of_below Γ hb).trans x)
    · cases hc
  · rename_i hd
    cases hc
    have : draw = false := by simpa using hd
    subst this
    exact ⟨cs, rfl, lex⟩
end Go.Ev
namespace Go.Ev
open Go.RowKit (Below)
variable {P : Program} {Γ Γ' : Ctx} {w w' : World} {σ σ' : qr} {e e' : Env} {a a' : Act} {av : AV} {N : Nat}
def Ctx.cut (Γ : Ctx) (k : Nat) : Ctx := { Γ with n := k }
theorem qxx {n : Nat} : ∀ {l : qr} {i : Nat} {o : SObj}, qg n l = true → l[i]? = some o → o.lo n = true
  | [], _, _, _, h => by simp at h
  | x :: l, i, o, hl, h => by
    simp only [qg, Bool.and_eq_true] at hl
    cases i with
    | zero => simp at h; subst h; exact hl.1
    | succ i => exact qxx hl.2 (by simpa using h)
theorem qur {n : Nat} : ∀ {l : List (Nat × AV)} {t : Nat} {av : AV}, qal n l = true → look l t = some av → av.lo n = true
  | [], _, _, _, h => by simp [look] at h
  | (k, v) :: l, t, av, hl, h => by
    simp only [qal, Bool.and_eq_true] at hl
    simp only [look] at h
    split at h
    · cases h; exact hl.1
    · exact qur hl.2 h
theorem qzy {n : Nat} : ∀ {l m : List AV}, los n l = true → los n m = true → los n (l ++ m) = true
  | [], m, _, h => h
  | x :: l, m, h, k => by
    simp only [los, Bool.and_eq_true, List.cons_append] at h ⊢
    exact ⟨h.1, qzy h.2 k⟩
theorem q2i {n : Nat} : ∀ {l : List (List AV)}, qiu n l = true → los n l.flatten = true
  | [], _ => rfl
  | x :: l, h => by
    simp only [qiu, Bool.and_eq_true] at h
    rw [List.flatten_cons]
    exact qzy h.1 (q2i h.2)
theorem VR.cut {v : Value} (k : Nat) (hl : av.lo k = true) (h : VR Γ w av v) : VR (Γ.cut k) w av v := VR.weaken (Γ := Γ) (Γ' := Γ.cut k) (fun _ h => h) k (Nat.le_refl _) (fun _ _ => rfl) _ _ hl h
theorem OR.cut {o k : Nat} {ob : SObj} (h : OR P Γ w o ob) (hl : ob.lo k = true) : OR P (Γ.cut k) w o ob := by
  cases ob with
  | row sz es g =>
    simp only [OR] at h ⊢
    obtain ⟨h1, h2, h3, h4, h5, h6⟩ := h
    refine ⟨h1, h2, h3, h4, h5, h6.imp id ?_⟩
    rintro ⟨arr, et, h7, h8, h9⟩
    exact ⟨arr, et, h7, h8, qab.weaken (Γ := Γ) (Γ' := Γ.cut k) (fun _ h => h) k (Nat.le_refl _) (fun _ _ => rfl) _ _ (q2i (by simpa only [SObj.lo] using hl)) h9⟩
  | loop env ps as body st pend =>
    simp only [OR] at h ⊢
    obtain ⟨h1, h2, r, h3, h4, h5, h6, h7, h8, h9, h10⟩ := h
    exact ⟨h1, h2, r, h3, h4, h5, h6, h7, h8, fun t av ht => (h9 t av ht).cut k (qur (by simpa only [SObj.lo] using hl) ht), h10⟩
  | defr => exact h
  | dead => trivial
  | hole => exact h
  | mp kk es =>
    simp only [OR] at h ⊢
    obtain ⟨h1, h2, arr, clock, h3, h4⟩ := h
    exact ⟨h1, h2, arr, clock, h3, h4.imp fun a y hl hy => VR.weaken (Γ := Γ) (Γ' := Γ.cut k) (fun _ h => h) 0 (Nat.zero_le _) (fun o ho => absurd ho (Nat.not_lt_zero _)) a y hl hy⟩
theorem SR.cut (s : SR P Γ σ w) {k : Nat} (hk : k ≤ Γ.n) (hl : qg k (σ.take k) = true) : SR P (Γ.cut k) (σ.take k) w where
  len := by rw [List.length_take, s.len]; exact Nat.min_eq_left hk
  obj o ob ho := (s.obj o ob (by
    rw [List.getElem?_take] at ho
    split at ho
    · exact ho
    · cases ho)).cut (qxx hl ho)
  blk o ho := s.blk o (Nat.lt_of_lt_of_le ho hk)
  inj o o' ho ho' := s.inj o o' (Nat.lt_of_lt_of_le ho hk) (Nat.lt_of_lt_of_le ho' hk)
  ownlt := s.ownlt
  farlt := s.farlt
  sep := s.sep
theorem Ext.cut {Γ0 : Ctx} {w0 : World} (x : Ext Γ0 Γ w0 w) : Ext Γ0 (Γ.cut Γ0.n) w0 w := ⟨Nat.le_refl _, x.size, x.same, x.own, x.far, x.loc, x.os, x.tape, x.output⟩
theorem qml (e : Env) : ∀ {l : List Nat} {t : Nat} {av : AV}, look (keep e l) t = some av → e.get t = some av
  | [], _, _, h => by simp [keep, look] at h
  | k :: l, t, av, h => by
    simp only [keep] at h
    split at h
    · rename_i u hu
      simp only [look] at h
      split at h
      · rename_i hk
        subst hk
        cases h
        exact hu
      · exact qml e h
    · exact qml e h
theorem qzw {k : Nat} : ∀ {ms : List Nat} {ds : List Deferred}, qaf k ms = true → MR Γ ms ds → MR (Γ.cut k) ms ds
  | [], _, _, h => h
  | m :: ms, ds, hl, h => by
    simp only [qaf, Bool.and_eq_true, decide_eq_true_eq] at hl
    simp only [MR] at h ⊢
    obtain ⟨b, ds', rfl, h1, h2, h3⟩ := h
    exact ⟨b, ds', rfl, hl.1, h2, qzw hl.2 h3⟩
theorem q1f {Γ0 : Ctx} {w0 : World} {live : List Nat} {trim : Bool} {e1 : Env} {σ1 : qr} (h : qs live trim Γ0.n e σ = some (e1, σ1)) (x : Ext Γ0 Γ w0 w) (ha : AR P Γ N e σ a w) : ∃ Γ', Ext Γ0 Γ' w0 w ∧ AR P Γ' N e1 σ1 a w := by
  unfold qs at h
  split at h
  · split at h
    · rename_i hl
      cases h
      exact ⟨Γ.cut Γ0.n, x.cut, fun t av ht => (ha.ve t av (qml e ht)).cut _ (qur hl.1 ht), ha.sr.cut x.n hl.2.2, ha.sz, qzw hl.2.1 ha.mr⟩
    · cases h
  · cases h
    exact ⟨Γ, x, fun t av ht => ha.ve t av (qml e ht), ha.sr, ha.sz, ha.mr⟩
theorem q4e {Γ0 : Ctx} {w0 : World} {v : Value} (x : Ext Γ0 Γ w0 w) (s : SR P Γ σ w) (hv : VR Γ w av v) : Got P Γ0 w0 (qag Γ0.n av σ).1 (qag Γ0.n av σ).2 v w := by
  unfold qag
  split
  · rename_i hl
    exact ⟨Γ.cut Γ0.n, hv.cut _ hl.1, s.cut x.n hl.2, x.cut⟩
  · exact ⟨Γ, hv, s, x⟩
inductive Unroll (f : Env → qr → R3) (s : Env → qr → Option (Env × qr)) : Env → qr → CExit × Env × qr → Prop where
  | stop {e : Env} {σ : qr} {e1 : Env} {σ1 : qr} {x : CExit} {e2 : Env} {σ2 : qr} : s e σ = some (e1, σ1) → f e1 σ1 = some (x, e2, σ2) → x ≠ .normal → Unroll f s e σ (x, e2, σ2)
  | next {e : Env} {σ : qr} {e1 : Env} {σ1 : qr} {e2 : Env} {σ2 : qr} {r : CExit × Env × qr} : s e σ = some (e1, σ1) → f e1 σ1 = some (.normal, e2, σ2) → Unroll f s e2 σ2 r → Unroll f s e σ r
def q2h (I : q07) : Prop := ∀ f s e σ r, I f s e σ = some r → Unroll f s e σ r
theorem qwe : ∀ m, q2h (qmk m)
  | 0 => fun f s e σ r h => by simp [qmk] at h
  | m + 1 => fun f s e σ r h => by
    simp only [qmk, Option.bind_eq_some_iff] at h
    obtain ⟨⟨e1, σ1⟩, h1, ⟨x, e2, σ2⟩, h2, h⟩ := h
    cases x with
    | normal => exact .next h1 h2 (qwe m f s e2 σ2 r h)
    | exit id => cases h; exact .stop h1 h2 (by simp)
    | ret => cases h; exact .stop h1 h2 (by simp)
def CExit.ex : CExit → Exit
  | .normal => .normal
  | .exit id => .exit id
  | .ret => .ret
def qve (P : Program) (Γ : Ctx) (w : World) (N : Nat) (x : CExit) (e' : Env) (σ' : qr) (ex : Exit) (a' : Act) (w' : World) : Prop := ex = x.ex ∧ ∃ Γ', Ext Γ Γ' w w' ∧ AR P Γ' N e' σ' a' w'
theorem qve.of_ext {x : CExit} {ex : Exit} {Γ0 : Ctx} {w0 : World} (k : Ext Γ0 Γ w0 w) (h : qve P Γ w N x e' σ' ex a' w') : qve P Γ0 w0 N x e' σ' ex a' w' := let ⟨h1, Γ', h2, h3⟩ := h; ⟨h1, Γ', k.trans h2, h3⟩
def RoOk (Γ : Ctx) : Option Nat → Option Nat → Prop
  | none, none => True
  | some o, some l => o < Γ.n ∧ ((Γ.loc o).g = 0 → l = (Γ.loc o).b)
  | _, _ => False
theorem RoOk.mono (x : Ext Γ Γ' w w') : ∀ {ro l : Option Nat}, RoOk Γ ro l → RoOk Γ' ro l
  | none, none, _ => trivial
  | some o, some l, h => by
    simp only [RoOk] at h ⊢
    refine ⟨Nat.lt_of_lt_of_le h.1 x.n, fun hg => ?_⟩
    rcases x.loc o h.1 with h4 | h4
    · rw [h4] at hg ⊢; exact h.2 hg
    · omega
  | none, some _, h => h
  | some _, none, h => h
def q48 (P : Program) (O : Orc) : Prop := ∀ k, O.ent k = true → ∀ args σ r, O.call k args σ = some r → ∀ vs w, (callFunc k vs).run P w = .ok (.enter k vs) w
def qth (P : Program) (O : Orc) (I : q07) (N : Nat) (c : Code) (cc : CCode) : Prop := ∀ {ro l : Option Nat} {e : Env} {σ : qr} {Γ : Ctx} {a : Act} {w : World} {x : CExit} {e' : Env} {σ' : qr}, exec O I ro cc e σ = some (x, e', σ') → AR P Γ N e σ a w → RoOk Γ ro l →
  c.wpIn (FR l) 0 P (qve P Γ w N x e' σ') a w
theorem loop_ok {O : Orc} {I : q07} {ro l : Option Nat} {live : List Nat} {trim : Bool} {c : Code} {cc : CCode} (hc : qth P O I N c cc) {Γ0 : Ctx} {w0 : World} (hro : RoOk Γ0 ro l) :
    ∀ {e σ r}, Unroll (exec O I ro cc) (qs live trim Γ0.n) e σ r → ∀ {Γ a w}, Ext Γ0 Γ w0 w → AR P Γ N e σ a w → ∀ (b : Frame) (k : List Item) (cs : List Frame), b.roundOf = l →
      ∃ ex a' w', qve P Γ0 w0 N r.1 r.2.1 r.2.2 ex a' w' ∧ ArrivesIn (Machine.fenced P (FR l)) P (lone (b.atR a (.code c :: .inLoop c :: k)) cs w) b k cs ex a' w' := by
  have room : ∀ n, (FR l).room n := fun n d hd => by simp [Fence.wide] at hd
  intro e σ r hu
  induction hu with
  | @stop e σ e1 σ1 x e2 σ2 h1 h2 h3 =>
    intro Γ a w hx ha b k cs hb
    obtain ⟨Γ1, x1, ha1⟩ := q1f h1 hx ha
    obtain ⟨ex, a', w', hq, harr⟩ := hc h2 ha1 (hro.mono x1) b (.inLoop c :: k) cs hb trivial (room _)
    refine ⟨ex, a', w', hq.of_ext x1, .pass (x := .inLoop c) rfl (fun _ _ => .inl ?_) harr⟩
    rw [hq.1]; cases x <;> simp [CExit.ex] at h3 ⊢
  | @next e σ e1 σ1 e2 σ2 r h1 h2 _ ih =>
    intro Γ a w hx ha b k cs hb
    obtain ⟨Γ1, x1, ha1⟩ := q1f h1 hx ha
    obtain ⟨ex, a', w', ⟨hex, Γ2, x2, ha2⟩, harr⟩ := hc h2 ha1 (hro.mono x1) b (.inLoop c :: k) cs hb trivial (room _)
    subst hex
    obtain ⟨ex', a2, w2, hq, harr2⟩ := ih (x1.trans x2) ha2 b k cs hb
    exact ⟨ex', a2, w2, hq, .of_steps (StepsIn.trans harr (.one (fenced_calm (n := 0) trivial (room _) rfl) stepR_inLoop)) harr2⟩
end Go.Ev
