/- For every input the statement of this claim returns true: texts of its proof, joined (part 3). -/
import Derived.RangeFuncLeaves
import Derived.Test.YtbhhifdhlafklaaEWS1
set_option linter.unusedSectionVars false
set_option linter.unusedSimpArgs false
set_option linter.unusedVariables false
namespace Go.Ev
variable {O : Orc} {e e' : Env} {σ σ' τ : qq}
theorem qtl : ∀ (l : List (Nat × AV)) (d t : Nat), look (q5l l d) t = if t = d then none else look l t
  | [], d, t => by simp [look, q5l]
  | (k, v) :: r, d, t => by
    simp only [q5l]
    split
    · rename_i h
      rw [qtl r d t]
      simp only [look]
      subst h
      split
      · rfl
      · rw [if_neg (Ne.symm ‹_›)]
    · simp only [look]
      rw [qtl r d t]
      split
      · rename_i h1 h2
        subst h2
        rw [if_neg h1]
      · rfl
theorem qts (e : Env) (d : Option Nat) (v : AV) (t : Nat) : (e.set d v).get t = if d = some t then some v else e.get t := by
  cases d with
  | none => simp [Env.set]
  | some k => simp [Env.set, Env.get, look]
theorem q5c (e : Env) (d : Option Nat) (t : Nat) : (e.forget d).get t = if d = some t then none else e.get t := by
  cases d with
  | none => simp [Env.forget]
  | some k =>
    simp only [Env.forget, Env.get, qtl]
    by_cases h : t = k
    · simp [h]
    · simp [h, Ne.symm h]
@[simp] theorem marks_set (e : Env) (d : Option Nat) (v : AV) : (e.set d v).marks = e.marks := by cases d <;> rfl
@[simp] theorem marks_unset (e : Env) (d : Option Nat) : (e.unset d).marks = e.marks := by cases d <;> rfl
@[simp] theorem marks_forget (e : Env) (d : Option Nat) : (e.forget d).marks = e.marks := by cases d <;> rfl
theorem qtc (e : Env) (d : Option Nat) (t : Nat) : (e.unset d).get t = if d = some t then some (.tup []) else e.get t := qts e d _ t
def Eqv (e e' : Env) : Prop := (∀ t, e.get t = e'.get t) ∧ e.marks = e'.marks
theorem Eqv.refl (e : Env) : Eqv e e := ⟨fun _ => rfl, rfl⟩
theorem Eqv.symm (h : Eqv e e') : Eqv e' e := ⟨fun t => (h.1 t).symm, h.2.symm⟩
theorem Eqv.trans {e'' : Env} (h : Eqv e e') (k : Eqv e' e'') : Eqv e e'' := ⟨fun t => (h.1 t).trans (k.1 t), h.2.trans k.2⟩
def qks (l : List Nat) (e e' : Env) : Prop := ∀ t, t ∈ l → e.get t = e'.get t
theorem qks.left {l m : List Nat} (h : qks (l ++ m) e e') : qks l e e' := fun t ht => h t (List.mem_append_left _ ht)
theorem qks.right {l m : List Nat} (h : qks (l ++ m) e e') : qks m e e' := fun t ht => h t (List.mem_append_right _ ht)
theorem qw {x : Opnd} (h : qks (opT x) e e') : x.ev e = x.ev e' := by
  cases x with
  | t i => exact h i (by simp [opT])
  | c a => rfl
theorem qgz : ∀ {l : List Opnd}, qks (q4a l) e e' → evs e l = evs e' l
  | [], _ => rfl
  | x :: xs, h => by simp only [evs, qw (qks.left h), qgz (qks.right h)]
theorem qp1 {x : Option Opnd} {d : Int} (h : qks (optT x) e e') : qf0 e d x = qf0 e' d x := by
  cases x with
  | none => rfl
  | some x =>
    have : x.ev e = x.ev e' := by
      cases x with
      | t i => exact h i (by simp [optT])
      | c a => rfl
    simp only [qf0, this]
theorem qrw : ∀ {ps : List (Nat × Nat × Opnd)} {cs : List AV}, qks (q4a (ps.map (·.2.2))) e e' → qfs e cs ps = qfs e' cs ps
  | [], _, _ => rfl
  | (o, s, x) :: ps, cs, h => by
    simp only [List.map_cons, q4a] at h
    simp only [qfs, qw (qks.left h)]
    cases x.ev e' with
    | none => rfl
    | some a => simp only [Option.bind_some]; split; exact qrw (qks.right h); rfl
theorem qr6 {sz : Nat} : ∀ {ps : List (Nat × Opnd)} {cs : List (List AV)}, qks (q4a (ps.map (·.2))) e e' → qfz e sz cs ps = qfz e' sz cs ps
  | [], _, _ => rfl
  | (o, x) :: ps, cs, h => by
    simp only [List.map_cons, q4a] at h
    simp only [qfz, qw (qks.left h)]
    cases x.ev e' with
    | none => rfl
    | some a => simp only [Option.bind_some]; split; exact qr6 (qks.right h); rfl
theorem qou {p : AV} : ∀ {l : List Nat}, qks l e e' → ql8 e p l = ql8 e' p l
  | [], _ => rfl
  | t :: l, h => by
    simp only [ql8, h t (by simp)]
    have ih := qou (p := p) (l := l) fun t ht => h t (by simp [ht])
    rw [ih]
theorem q5j {c : COp} (h : qks c.reads e e') : qah e σ c = qah e' σ c := by
  cases c <;> simp only [COp.reads] at h <;> simp only [qah]
  case mv => rw [qw h]
  case pick => rw [qw h.left, qw h.right.left, qw h.right.right]
  case frzv => rw [qw h]
  case box => rw [qw h]
  case boxO => rw [qw h]
  case boxF => rw [qw h]
  case build => rw [qrw h]
  case buildO => rw [qrw h]
  case bsl => rw [qr6 h]
  case bslF => rw [qr6 h]
  case ld => rw [qw h]
  case ldF => rw [qw h]
  case ldD => simp only [qw h.left, qou h.right]
  case mput => rw [qw h.left, qw h.right.left, qw h.right.right]
  case mget => rw [qw h.left, qw h.right]
  case st => rw [qw h.left, qw h.right]
  case nilck => rw [qw h]
  case bin => rw [qw h.left, qw h.right]
  case eqs => rw [qw h.left, qw h.right]
  case eqb => rw [qw h.left, qw h.right]
  case un => rw [qw h]
  case conv => rw [qw h]
  case mkfn => rw [qgz h.left, qgz h.right]
  case mksl => rw [qw h.left, qw h.right]
  case slc => simp only [qw h.left, qp1 h.right.left, qp1 h.right.right.left, qp1 h.right.right.right]
  case slcS => simp only [qw h.left, qp1 h.right.left, qp1 h.right.right]
  case faddr => rw [qw h]
  case fld => rw [qw h]
  case iaddr => rw [qw h.left, qw h.right]
  case iaddrA => rw [qw h.left, qw h.right]
  case iaddrF => rw [qw h.left, qw h.right]
  case idxS => rw [qw h.left, qw h.right]
  case idxA => rw [qw h.left, qw h.right]
  case ext => rw [qw h]
  case len => rw [qw h]
  case lenS => rw [qw h]
  case app => rw [qw h.left, qw h.right]
  case appZ => rw [qw h.left, qw h.right]
  case appN => rw [qw h.left, qw h.right]
  case appF => rw [qw h.left, qw h.right]
  case copy => rw [qw h.left, qw h.right]
  case mm => rw [qw h.left, qw h.right]
  case cap => rw [qw h]
  case clr => rw [qw h]
  case boxFW => rw [qw h]
  case allocH => rw [h _ (by simp)]
  case mkslO => rw [qw h.left, qw h.right]
  case appM => rw [qw h.left, qw h.right]
  case appB => simp only [qw h.left, qw h.right.left, qou h.right.right]
  case ldB sz ag x base =>
    have hb : ∀ p, q8n e p base = q8n e' p base := fun p => by unfold q8n; rw [h.right base (by simp)]
    simp only [qw h.left, hb]
def qor : Item' → List Nat
  | .op c => c.reads
  | .callP _ as | .callA _ as | .callI _ as | .callR _ as | .callF _ as | .callH _ as _ => q4a as
  | .callv f as => opT f ++ q4a as
theorem qhi {it : Item'} (h : qks (qor it) e e') : qba O e σ it = qba O e' σ it := by
  cases it <;> simp only [qor] at h <;> simp only [qba]
  case op => exact q5j h
  case callP => rw [qgz h]
  case callA => rw [qgz h]
  case callI => rw [qgz h]
  case callR => rw [qgz h]
  case callF => rw [qgz h]
  case callH => rw [qgz h]
  case callv => rw [qw h.left, qgz h.right]
theorem qqr (o : COper) : o.reads = (match o.guard with | some (t, _) => [t] | none => []) ++ qor o.it := by
  unfold COper.reads qor
  cases o.it <;> rfl
def q2h (o : COper) (e e1 : Env) : Prop := (∃ r, e1 = e.set o.dst r) ∨ e1 = e.unset o.dst
theorem ql1 {o : COper} {e1 : Env} {σ1 : qq} : qe O e σ o = some (e1, σ1) ↔
    ((o.guard = none ∨ ∃ t b, o.guard = some (t, b) ∧ e.get t = some (.v (.bool b))) ∧ ∃ r, qba O e σ o.it = some (r, σ1) ∧ e1 = e.set o.dst r) ∨
    ((∃ t b, o.guard = some (t, b) ∧ (e.get t = some (.v (.bool !b)) ∨ e.get t = some (.tup []))) ∧ e1 = e.unset o.dst ∧ σ1 = σ) := by
  unfold qe
  cases hg : o.guard with
  | none =>
    simp only [Option.bind_eq_some_iff, true_or, true_and, reduceCtorEq, false_and, exists_false, or_false]
    constructor
    · rintro ⟨⟨r, s⟩, h1, h2⟩; cases h2; exact ⟨r, h1, rfl⟩
    · rintro ⟨r, h1, rfl⟩; exact ⟨(r, σ1), h1, rfl⟩
  | some tw =>
    obtain ⟨t, want⟩ := tw
    simp only [Option.bind_eq_some_iff]
    constructor
    · rintro ⟨b, hb, h⟩
      split at h
      · rename_i b
        split at h
        · rename_i hw
          subst hw
          rw [Option.bind_eq_some_iff] at h
          obtain ⟨⟨r, s⟩, h1, h2⟩ := h
          cases h2
          exact .inl ⟨.inr ⟨t, b, rfl, hb⟩, r, h1, rfl⟩
        · rename_i hw
          cases h
          refine .inr ⟨⟨t, want, rfl, .inl ?_⟩, rfl, rfl⟩
          rw [hb]; cases b <;> cases want <;> simp_all
      · cases h
        exact .inr ⟨⟨t, want, rfl, .inr hb⟩, rfl, rfl⟩
      · cases h
    · rintro (⟨h1, r, h2, rfl⟩ | ⟨⟨t', b', h1, h2⟩, rfl, rfl⟩)
      · rcases h1 with h1 | ⟨t', b', h1, h3⟩
        · cases h1
        · cases h1
          refine ⟨_, h3, ?_⟩
          simp [h2]
      · cases h1
        rcases h2 with h2 | h2
        · refine ⟨_, h2, ?_⟩
          cases want <;> simp
        · exact ⟨_, h2, rfl⟩
theorem qui {o : COper} {e1 : Env} {σ1 : qq} (h : qe O e σ o = some (e1, σ1)) : q2h o e e1 := by
  rcases ql1.1 h with ⟨_, r, _, h⟩ | ⟨_, h, _⟩
  · exact .inl ⟨r, h⟩
  · exact .inr h
theorem q2h.get {o : COper} {e1 : Env} (h : q2h o e e1) {t : Nat} (ht : o.dst ≠ some t) : e1.get t = e.get t := by
  rcases h with ⟨r, rfl⟩ | rfl
  · rw [qts, if_neg ht]
  · rw [qtc, if_neg ht]
theorem qv7 {o : COper} {e1 : Env} {σ1 τ1 : qq} (h : qe O e σ o = some (e1, σ1)) (ha : qks o.reads e e')
    (hit : ∀ r, qba O e σ o.it = some (r, σ1) → qba O e σ o.it = some (r, σ1) ∧ qba O e' τ o.it = some (r, τ1)) (hsk : σ1 = σ → τ1 = τ) :
    ∃ e1', qe O e' τ o = some (e1', τ1) ∧ ((∃ r, e1 = e.set o.dst r ∧ e1' = e'.set o.dst r) ∨ (e1 = e.unset o.dst ∧ e1' = e'.unset o.dst)) := by
  rw [qqr] at ha
  rcases ql1.1 h with ⟨hg, r, h2, rfl⟩ | ⟨⟨t, b, hg, h2⟩, rfl, rfl⟩
  · refine ⟨e'.set o.dst r, ql1.2 (.inl ⟨?_, r, (hit r h2).2, rfl⟩), .inl ⟨r, rfl, rfl⟩⟩
    rcases hg with hg | ⟨t, b, hg, h3⟩
    · exact .inl hg
    · exact .inr ⟨t, b, hg, by rw [← ha t (by simp [hg])]; exact h3⟩
  · refine ⟨e'.unset o.dst, ql1.2 (.inr ⟨⟨t, b, hg, by rw [← ha t (by simp [hg])]; exact h2⟩, rfl, hsk rfl⟩), .inr ⟨rfl, rfl⟩⟩
theorem step_eqv {o : COper} {e1 e1' : Env} (he : Eqv e e') (h : (∃ r, e1 = e.set o.dst r ∧ e1' = e'.set o.dst r) ∨ (e1 = e.unset o.dst ∧ e1' = e'.unset o.dst)) : Eqv e1 e1' := by
  rcases h with ⟨r, rfl, rfl⟩ | ⟨rfl, rfl⟩
  · exact ⟨fun t => by rw [qts, qts, he.1], by simp [he.2]⟩
  · exact ⟨fun t => by rw [qtc, qtc, he.1], by simp [he.2]⟩
theorem q49 {o : COper} {e1 : Env} {σ1 : qq} (he : Eqv e e') (h : qe O e σ o = some (e1, σ1)) : ∃ e1', qe O e' σ o = some (e1', σ1) ∧ Eqv e1 e1' := by
  obtain ⟨e1', h1, h2⟩ := qv7 (τ := σ) (τ1 := σ1) h (fun t _ => he.1 t) (fun r hr => ⟨hr, by rw [← qhi (fun t _ => he.1 t)]; exact hr⟩) (fun h => h)
  exact ⟨e1', h1, step_eqv he h2⟩
theorem qj5 : ∀ {l : List COper} {e e' e1 : Env} {σ σ1 : qq}, Eqv e e' → qb O l e σ = some (e1, σ1) → ∃ e1', qb O l e' σ = some (e1', σ1) ∧ Eqv e1 e1'
  | [], e, e', e1, σ, σ1, he, h => by simp only [qb] at h; cases h; exact ⟨e', rfl, he⟩
  | o :: l, e, e', e1, σ, σ1, he, h => by
    simp only [qb, Option.bind_eq_some_iff] at h
    obtain ⟨⟨e2, σ2⟩, h1, h2⟩ := h
    obtain ⟨e2', h3, h4⟩ := q49 he h1
    obtain ⟨e1', h5, h6⟩ := qj5 h4 h2
    exact ⟨e1', by simp only [qb, h3, Option.bind_some]; exact h5, h6⟩
theorem qfd {it : Item'} {r : AV} (hk : it.kind = .pure) (h : qba O e σ it = some (r, σ')) : σ' = σ ∧ ∀ τ, qba O e τ it = some (r, τ) := by
  cases it with
  | op c =>
    simp only [Item'.kind] at hk
    simp only [qba] at h ⊢
    cases c <;> simp only [COp.kind] at hk <;> first
      | (cases hk; done)
      | (simp only [qah, Option.bind_eq_some_iff] at h ⊢
         (repeat' (first | (obtain ⟨_, _, h⟩ := h) | split at h | rw [Option.bind_eq_some_iff] at h)) <;> simp_all)
  | callP k as =>
    simp only [qba, Option.bind_eq_some_iff] at h ⊢
    obtain ⟨vs, h1, h⟩ := h
    split at h
    · rw [Option.bind_eq_some_iff] at h
      obtain ⟨⟨u, s⟩, h2, h⟩ := h
      simp only [Option.bind_eq_some_iff] at h
      obtain ⟨v, h3, h⟩ := h
      cases h
      refine ⟨rfl, fun τ => ⟨vs, h1, ?_⟩⟩
      rw [if_pos ‹_›]
      simp [h2, h3]
    · cases h
  | callA _ _ => cases hk
  | callI _ _ => cases hk
  | callF _ _ => cases hk
  | callH _ _ _ => cases hk
  | callR _ _ => cases hk
  | callv _ _ => cases hk
theorem q2m {σ τ : qq} {o : Nat} {ob : SObj} (h : σ[o]? = some ob) : (σ ++ τ)[o]? = some ob := by
  rw [List.getElem?_append_left (List.getElem?_eq_some_iff.1 h).1]; exact h
def Up (σ τ : qq) : Prop := ∀ (o : Nat) (ob : SObj), σ[o]? = some ob → ob ≠ SObj.hole → τ[o]? = some ob
theorem Up.app (σ τ : qq) : Up σ (σ ++ τ) := fun o ob h _ => q2m h
theorem Up.refl (σ : qq) : Up σ σ := fun o ob h _ => h
theorem Up.more {σ τ : qq} (h : Up σ τ) (hl : τ.length = σ.length) (ρ : qq) : Up (σ ++ ρ) (τ ++ ρ) := fun o ob ho hne => by
  rcases Nat.lt_or_ge o σ.length with hlt | hge
  · rw [List.getElem?_append_left hlt] at ho
    exact q2m (h o ob ho hne)
  · rw [List.getElem?_append_right hge] at ho
    rw [List.getElem?_append_right (by omega), hl]; exact ho
theorem Up.fill {σ : qq} {p : Nat} {ob : SObj} (h : σ[p]? = some .hole) : Up σ (σ.set p ob) := fun o ob' ho hne => by
  by_cases hp : p = o
  · subst hp; rw [h] at ho; cases ho; exact absurd rfl hne
  · rw [List.getElem?_set_ne hp]; exact ho
theorem qtv {σ τ : qq} {p : AV} {cs : List AV} (hu : Up σ τ) (h : qf σ p = some cs) : qf τ p = some cs := by
  unfold qf at h ⊢
  cases p <;> simp only at h ⊢ <;> try exact h
  rename_i o g i off
  cases ho : σ[o]? with
  | none => rw [ho] at h; cases h
  | some ob =>
    rw [ho] at h
    rw [hu o ob ho (by rintro rfl; cases h)]; exact h
theorem qqo {σ τ : qq} {p : AV} {cs : List (List AV)} (hu : Up σ τ) (h : qbt σ p = some cs) : qbt τ p = some cs := by
  unfold qbt at h ⊢
  split at h
  · exact h
  · rename_i o g off len c
    cases ho : σ[o]? with
    | none => rw [ho] at h; cases h
    | some ob =>
      rw [ho] at h
      rw [hu o ob ho (by rintro rfl; cases h)]; exact h
  · exact h
  · cases h
theorem qv4 {it : Item'} {r : AV} {τ : qq} (hk : it.kind = .load) (h : qba O e σ it = some (r, σ')) (hu : Up σ τ) : σ' = σ ∧ qba O e τ it = some (r, τ) := by
  cases it with
  | op c =>
    simp only [Item'.kind] at hk
    simp only [qba] at h ⊢
    cases c <;> simp only [COp.kind] at hk <;> first
      | (cases hk; done)
      | skip
    case ld =>
      simp only [qah, Option.bind_eq_some_iff] at h ⊢
      obtain ⟨p, h1, cs, h2, v, h3, h⟩ := h
      cases h
      exact ⟨rfl, p, h1, cs, qtv hu h2, _, h3, rfl⟩
    case ldD =>
      simp only [qah, Option.bind_eq_some_iff] at h ⊢
      obtain ⟨p, h1, h⟩ := h
      split at h
      · rename_i haw
        simp only [Option.bind_eq_some_iff] at h
        obtain ⟨cs, h2, v, h3, h⟩ := h
        cases h
        refine ⟨rfl, p, h1, ?_⟩
        rw [if_pos haw]
        simp only [Option.bind_eq_some_iff]
        exact ⟨cs, qtv hu h2, _, h3, rfl⟩
      · cases h
    case ldB =>
      simp only [qah, Option.bind_eq_some_iff] at h ⊢
      obtain ⟨p, h1, h⟩ := h
      split at h
      · rename_i haw
        simp only [Option.bind_eq_some_iff] at h
        obtain ⟨cs, h2, v, h3, h⟩ := h
        cases h
        refine ⟨rfl, p, h1, ?_⟩
        rw [if_pos haw]
        simp only [Option.bind_eq_some_iff]
        exact ⟨cs, qtv hu h2, _, h3, rfl⟩
      · cases h
    case mget =>
      simp only [qah, Option.bind_eq_some_iff] at h ⊢
      obtain ⟨p, h1, i, h2, h⟩ := h
      split at h
      · split at h
        · rename_i ho
          split at h
          · cases h
            refine ⟨rfl, _, h1, _, h2, ?_⟩
            simp only [hu _ _ ho (by simp)]
            rw [if_pos ‹_›]
          · cases h
        · cases h
      · cases h
    case slc sz x lo hi mx =>
      simp only [qah, Option.bind_eq_some_iff] at h ⊢
      obtain ⟨p, h1, h⟩ := h
      split at h
      · simp only [Option.bind_eq_some_iff] at h
        obtain ⟨l, h2, m, h3, n, h4, h⟩ := h
        split at h
        · cases h
          refine ⟨rfl, _, h1, ?_⟩
          simp only [Option.bind_eq_some_iff]
          exact ⟨l, h2, m, h3, n, h4, by rw [if_pos ‹_›]⟩
        · cases h
      · rename_i o g off len clip
        split at h
        · rename_i ho
          simp only [Option.bind_eq_some_iff] at h
          obtain ⟨l, h2, m, h3, n, h4, h⟩ := h
          split at h
          · cases h
            refine ⟨rfl, _, h1, ?_⟩
            simp only [hu _ _ ho (by simp), Option.bind_eq_some_iff]
            exact ⟨l, h2, m, h3, n, h4, by rw [if_pos ‹_›]⟩
          · cases h
        · cases h
      · cases h
    case iaddr sz x i =>
      simp only [qah, Option.bind_eq_some_iff] at h ⊢
      obtain ⟨p, h1, n, h2, h⟩ := h
      split at h
      · rename_i k n
        split at h
        · rename_i h0
          split at h
          · simp only [Option.bind_eq_some_iff] at h
            obtain ⟨c, h3, h⟩ := h
            split at h
            · cases h
              refine ⟨rfl, _, h1, _, h2, ?_⟩
              simp only [if_pos h0, Option.bind_eq_some_iff]
              exact ⟨c, h3, by rw [if_pos ‹_›]⟩
            · cases h
          · rename_i o g off len clip
            split at h
            · rename_i ho
              split at h
              · cases h
                refine ⟨rfl, _, h1, _, h2, ?_⟩
                simp only [if_pos h0, hu _ _ ho (by simp)]
                rw [if_pos ‹_›]
              · cases h
            · cases h
          · cases h
        · cases h
      · cases h
  | _ => cases hk
theorem qw5 {it : Item'} {r : AV} (hk : it.kind = .load) (h : qba O e σ it = some (r, σ')) (τ : qq) : σ' = σ ∧ qba O e (σ ++ τ) it = some (r, σ ++ τ) := qv4 hk h (Up.app σ τ)
def Known (n : Nat) (e : Env) : Prop := ∀ t a o, e.get t = some a → a.obj? = some o → o < n
theorem ql2 {n : Nat} {x : Opnd} {a : AV} {o : Nat} (hk : Known n e) (h : x.ev e = some a) (hc : ∀ c, x = .c c → c.lo 0 = true) (ho : a.obj? = some o) : o < n := by
  cases x with
  | t i => exact hk i a o h ho
  | c c =>
    simp only [Opnd.ev] at h; cases h
    have := hc _ rfl
    cases a <;> simp_all [AV.lo, AV.obj?]
def Opnd.okC : Opnd → Bool
  | .t _ => true
  | .c a => a.lo 0
theorem qnc {σ τ : qq} {o : Nat} {ob : SObj} (h : (σ ++ τ)[o]? = some ob) (ho : o < σ.length) : σ[o]? = some ob := by
  rw [List.getElem?_append_left ho] at h; exact h
def qq9 : Item' → Bool
  | .op (.ld _ _ x) => x.okC
  | .op (.ldD _ _ x _) => x.okC
  | .op (.ldB _ _ x _) => x.okC
  | .op (.mget _ _ _ x _) => x.okC
  | .op (.iaddr _ x _) => x.okC
  | .op (.slc _ x _ _ _) => x.okC
  | _ => true
theorem q8l {it : Item'} {r : AV} {τ : qq} (hk : it.kind = .load) (hkn : Known σ.length e) (hc : qq9 it = true)
    (h : qba O e (σ ++ τ) it = some (r, σ')) : qba O e σ it = some (r, σ) := by
  cases it with
  | op c =>
    simp only [Item'.kind] at hk
    simp only [qba] at h ⊢
    cases c <;> simp only [COp.kind] at hk <;> first
      | (cases hk; done)
      | skip
    case ld sz ag x =>
      simp only [qq9] at hc
      simp only [qah, Option.bind_eq_some_iff] at h ⊢
      obtain ⟨p, h1, cs, h2, v, h3, h⟩ := h
      cases h
      refine ⟨p, h1, cs, ?_, _, h3, rfl⟩
      unfold qf at h2 ⊢
      cases p <;> simp only at h2 ⊢ <;> try exact h2
      rename_i o g i off
      have hn := ql2 hkn h1 (fun c hx => by subst hx; exact hc) (o := o) rfl
      cases ho : (σ ++ τ)[o]? with
      | none => rw [ho] at h2; cases h2
      | some ob => rw [qnc ho hn]; rw [ho] at h2; exact h2
    case ldD sz ag x av =>
      simp only [qq9] at hc
      simp only [qah, Option.bind_eq_some_iff] at h ⊢
      obtain ⟨p, h1, h⟩ := h
      split at h
      · rename_i haw
        simp only [Option.bind_eq_some_iff] at h
        obtain ⟨cs, h2, v, h3, h⟩ := h
        cases h
        refine ⟨p, h1, ?_⟩
        rw [if_pos haw]
        simp only [Option.bind_eq_some_iff]
        refine ⟨cs, ?_, _, h3, rfl⟩
        unfold qf at h2 ⊢
        cases p <;> simp only at h2 ⊢ <;> try exact h2
        rename_i o g i off
        have hn := ql2 hkn h1 (fun c hx => by subst hx; exact hc) (o := o) rfl
        cases ho : (σ ++ τ)[o]? with
        | none => rw [ho] at h2; cases h2
        | some ob => rw [qnc ho hn]; rw [ho] at h2; exact h2
      · cases h
    case ldB sz ag x base =>
      simp only [qq9] at hc
      simp only [qah, Option.bind_eq_some_iff] at h ⊢
      obtain ⟨p, h1, h⟩ := h
      split at h
      · rename_i haw
        simp only [Option.bind_eq_some_iff] at h
        obtain ⟨cs, h2, v, h3, h⟩ := h
        cases h
        refine ⟨p, h1, ?_⟩
        rw [if_pos haw]
        simp only [Option.bind_eq_some_iff]
        refine ⟨cs, ?_, _, h3, rfl⟩
        unfold qf at h2 ⊢
        cases p <;> simp only at h2 ⊢ <;> try exact h2
        rename_i o g i off
        have hn := ql2 hkn h1 (fun c hx => by subst hx; exact hc) (o := o) rfl
        cases ho : (σ ++ τ)[o]? with
        | none => rw [ho] at h2; cases h2
        | some ob => rw [qnc ho hn]; rw [ho] at h2; exact h2
      · cases h
    case mget ok k z m key =>
      simp only [qq9] at hc
      simp only [qah, Option.bind_eq_some_iff] at h ⊢
      obtain ⟨p, h1, i, h2, h⟩ := h
      split at h
      · rename_i o k' n
        have hn := ql2 hkn h1 (fun c hx => by subst hx; exact hc) (o := o) rfl
        split at h
        · rename_i ho
          split at h
          · cases h
            refine ⟨_, h1, _, h2, ?_⟩
            simp only [qnc ho hn]
            rw [if_pos ‹_›]
          · cases h
        · cases h
      · cases h
    case slc sz x lo hi mx =>
      simp only [qq9] at hc
      simp only [qah, Option.bind_eq_some_iff] at h ⊢
      obtain ⟨p, h1, h⟩ := h
      split at h
      · simp only [Option.bind_eq_some_iff] at h
        obtain ⟨l, h2, m, h3, n, h4, h⟩ := h
        split at h
        · cases h
          refine ⟨_, h1, ?_⟩
          simp only [Option.bind_eq_some_iff]
          exact ⟨l, h2, m, h3, n, h4, by rw [if_pos ‹_›]⟩
        · cases h
      · rename_i o g off len clip
        have hn := ql2 hkn h1 (fun c hx => by subst hx; exact hc) (o := o) rfl
        split at h
        · rename_i ho
          simp only [Option.bind_eq_some_iff] at h
          obtain ⟨l, h2, m, h3, n, h4, h⟩ := h
          split at h
          · cases h
            refine ⟨_, h1, ?_⟩
            simp only [qnc ho hn, Option.bind_eq_some_iff]
            exact ⟨l, h2, m, h3, n, h4, by rw [if_pos ‹_›]⟩
          · cases h
        · cases h
      · cases h
    case iaddr sz x i =>
      simp only [qq9] at hc
      simp only [qah, Option.bind_eq_some_iff] at h ⊢
      obtain ⟨p, h1, n, h2, h⟩ := h
      split at h
      · rename_i k n
        split at h
        · rename_i h0
          split at h
          · simp only [Option.bind_eq_some_iff] at h
            obtain ⟨c, h3, h⟩ := h
            split at h
            · cases h
              refine ⟨_, h1, _, h2, ?_⟩
              simp only [if_pos h0, Option.bind_eq_some_iff]
              exact ⟨c, h3, by rw [if_pos ‹_›]⟩
            · cases h
          · rename_i o g off len clip
            have hn := ql2 hkn h1 (fun c hx => by subst hx; exact hc) (o := o) rfl
            split at h
            · rename_i ho
              split at h
              · cases h
                refine ⟨_, h1, _, h2, ?_⟩
                simp only [if_pos h0, qnc ho hn]
                rw [if_pos ‹_›]
              · cases h
            · cases h
          · cases h
        · cases h
      · cases h
  | _ => cases hk
def ql5 (τ : qq) : Prop := ∀ ob ∈ τ, ob ≠ SObj.hole
theorem q39 : ∀ {os : List (Nat × Nat)} {σ σ2 : qq} {cs cs2 : List AV}, q2u σ cs os = some (cs2, σ2) → ∃ ρ, σ2 = σ ++ ρ ∧ ql5 ρ ∧ ∀ τ : qq, τ.length = σ.length → q2u τ cs os = some (cs2, τ ++ ρ)
  | [], σ, σ2, cs, cs2, h => by simp only [q2u] at h; cases h; exact ⟨[], by simp, by simp [ql5], fun τ _ => by simp [q2u]⟩
  | (off, sz) :: os, σ, σ2, cs, cs2, h => by
    simp only [q2u] at h
    split at h
    · rename_i hc
      split at h
      · rename_i h0
        obtain ⟨ρ, rfl, h1, h2⟩ := q39 h
        refine ⟨[.row sz [] 0] ++ ρ, by simp, fun ob hob => ?_, fun τ hτ => ?_⟩
        · rcases List.mem_append.1 hob with hob | hob
          · rw [List.mem_singleton] at hob; subst hob; simp
          · exact h1 ob hob
        · simp only [q2u, hc, if_pos h0, hτ]
          have := h2 (τ ++ [.row sz [] 0]) (by simp [hτ])
          rw [List.append_assoc] at this
          exact this
      · cases h
    · cases h
theorem qwx {it : Item'} {r : AV} (hk : it.kind = .read) (h : qba O e σ it = some (r, σ')) : σ' = σ := by
  cases it with
  | op c => simp only [Item'.kind] at hk; cases c <;> simp only [COp.kind] at hk <;> cases hk
  | callR k as =>
    simp only [qba, Option.bind_eq_some_iff] at h
    obtain ⟨vs, _, ⟨u, τ⟩, _, h⟩ := h
    split at h
    · cases h; rfl
    · cases h
  | callP _ _ => cases hk
  | callA _ _ => cases hk
  | callI _ _ => cases hk
  | callF _ _ => cases hk
  | callH _ _ _ => cases hk
  | callv _ _ => cases hk
theorem qwl {it : Item'} {r : AV} (hk : it.kind = .alloc) (h : qba O e σ it = some (r, σ')) : ∃ ρ, σ' = σ ++ ρ ∧ ql5 ρ ∧ ∀ τ, Up σ τ → τ.length = σ.length → qba O e τ it = some (r, τ ++ ρ) := by
  cases it with
  | op c =>
    simp only [Item'.kind] at hk
    simp only [qba] at h ⊢
    cases c
    case buildO =>
      simp only [qah, Option.bind_eq_some_iff] at h ⊢
      obtain ⟨cs, h1, ⟨cs2, σ2⟩, h2, h⟩ := h
      cases h
      obtain ⟨ρ, q1, q2, q3⟩ := q39 h2
      exact ⟨ρ, q1, q2, fun τ _ hl => ⟨cs, h1, _, q3 τ hl, rfl⟩⟩
    case mkslO =>
      simp only [qah, Option.bind_eq_some_iff] at h ⊢
      obtain ⟨l, h1, c, h2, h⟩ := h
      split at h
      · split at h
        · cases h
          refine ⟨_, rfl, fun ob hob => ?_, fun τ _ hl => ⟨_, h1, _, h2, ?_⟩⟩
          · rcases List.mem_append.1 hob with hob | hob
            · rw [List.eq_of_mem_replicate hob]; simp
            · rw [List.mem_singleton] at hob; subst hob; simp
          · simp only [hl]
            rw [if_pos ‹_›]
        · cases h
      · cases h
    case appN =>
      simp only [qah, Option.bind_eq_some_iff] at h ⊢
      obtain ⟨a, h1, y, h2, xs, h3, h⟩ := h
      split at h
      · split at h
        · rename_i hc
          split at h
          · rename_i hc2
            cases h
            exact ⟨[], by simp, by simp [ql5], fun τ hu hl => ⟨_, h1, _, h2, _, qqo hu h3, by simp only [if_pos hc, if_pos hc2]; simp⟩⟩
          · rename_i hc2
            cases h
            exact ⟨_, rfl, by simp [ql5], fun τ hu hl => ⟨_, h1, _, h2, _, qqo hu h3, by simp only [if_pos hc, if_neg hc2, hl]⟩⟩
        · cases h
      · cases h
    case appF =>
      simp only [qah, Option.bind_eq_some_iff] at h ⊢
      obtain ⟨a, h1, y, h2, xs, h3, h⟩ := h
      split at h
      · split at h
        · rename_i hc
          split at h
          · rename_i hc2
            cases h
            exact ⟨[], by simp, by simp [ql5], fun τ hu hl => ⟨_, h1, _, h2, _, qqo hu h3, by simp only [if_pos hc, if_pos hc2]; simp⟩⟩
          · rename_i hc2
            cases h
            exact ⟨_, rfl, by simp [ql5], fun τ hu hl => ⟨_, h1, _, h2, _, qqo hu h3, by simp only [if_pos hc, if_neg hc2]⟩⟩
        · cases h
      · cases h
    all_goals simp only [COp.kind] at hk
    all_goals first
      | (cases hk; done)
      | (simp only [qah] at h ⊢
         (repeat' (first | (obtain ⟨_, _, h⟩ := h) | split at h | rw [Option.bind_eq_some_iff] at h)) <;> first
           | (cases h; done)
           | (cases h; exact ⟨_, rfl, by simp [ql5], fun τ _ hl => by simp_all⟩)
           | exact ⟨_, rfl, by simp [ql5], fun τ _ hl => by simp_all⟩)
  | callA k as =>
    simp only [qba, Option.bind_eq_some_iff] at h ⊢
    obtain ⟨vs, h1, h⟩ := h
    split at h
    · rename_i hlo
      rw [Option.bind_eq_some_iff] at h
      obtain ⟨⟨u, s⟩, h2, h⟩ := h
      rw [Option.bind_eq_some_iff] at h
      obtain ⟨v, h3, h⟩ := h
      cases h
      refine ⟨v, rfl, fun ob hob => ?_, fun τ _ hl => ⟨vs, h1, ?_⟩⟩
      · have : ∀ {l : List SObj} {m : List SObj}, qgb (q0y σ.length) l = some m → ∀ ob ∈ m, ob ≠ .hole := by
          intro l
          induction l with
          | nil => intro m hm ob hob; simp only [qgb] at hm; cases hm; cases hob
          | cons x l ih =>
            intro m hm ob hob
            simp only [qgb, Option.bind_eq_some_iff] at hm
            obtain ⟨y, hy, ys, hys, hm⟩ := hm
            cases hm
            rcases List.mem_cons.1 hob with rfl | hob
            · unfold q0y at hy
              split at hy <;> first | (cases hy; simp; done) | (cases hy; done)
            · exact ih hys ob hob
        exact this h3 ob hob
      · rw [if_pos hlo, hl]
        simp [h2, h3]
    · cases h
  | callP _ _ => cases hk
  | callI _ _ => cases hk
  | callF _ _ => cases hk
  | callH _ _ _ => cases hk
  | callR _ _ => cases hk
  | callv _ _ => cases hk
theorem qqt {it : Item'} {r : AV} (hk : it.kind = .alloc ∨ it.kind = .room) (h : qba O e σ it = some (r, σ')) : ∃ τ, σ' = σ ++ τ := by
  rcases hk with hk | hk
  · obtain ⟨ρ, h1, _⟩ := qwl hk h; exact ⟨ρ, h1⟩
  cases it with
  | op c =>
    simp only [Item'.kind] at hk
    simp only [qba] at h
    cases c
    all_goals simp only [COp.kind] at hk
    all_goals first
      | (cases hk; done)
      | (simp only [qah] at h
         (repeat' (first | (obtain ⟨_, _, h⟩ := h) | split at h | rw [Option.bind_eq_some_iff] at h)) <;> first
           | (cases h; done)
           | (cases h; exact ⟨_, rfl⟩)
           | exact ⟨_, rfl⟩)
  | callA _ _ => cases hk
  | callP _ _ => cases hk
  | callI _ _ => cases hk
  | callF _ _ => cases hk
  | callH _ _ _ => cases hk
  | callR _ _ => cases hk
  | callv _ _ => cases hk
theorem qwg {it : Item'} {r : AV} (hk : it.kind = .fill) (h : qba O e σ it = some (r, σ')) : ∃ p ob, σ[p]? = some .hole ∧ σ' = σ.set p ob ∧ ∀ τ : qq, τ[p]? = some .hole → qba O e τ it = some (r, τ.set p ob) := by
  cases it with
  | op c =>
    simp only [Item'.kind] at hk
    simp only [qba] at h ⊢
    cases c
    case allocH base z =>
      simp only [qah, Option.bind_eq_some_iff] at h ⊢
      obtain ⟨y, h1, h⟩ := h
      split at h
      · split at h
        · rename_i hh
          split at h
          · cases h
            exact ⟨_, _, hh, rfl, fun τ hτ => ⟨_, h1, by simp only [hτ]; rw [if_pos ‹_›]⟩⟩
          · cases h
        · cases h
      · cases h
    all_goals simp only [COp.kind] at hk
    all_goals cases hk
  | callH k as pos =>
    simp only [qba, Option.bind_eq_some_iff] at h ⊢
    obtain ⟨vs, h1, h⟩ := h
    split at h
    · rename_i hlo
      rw [Option.bind_eq_some_iff] at h
      obtain ⟨⟨u, s⟩, h2, h⟩ := h
      simp only at h
      split at h
      · split at h
        · rename_i ho
          split at h
          · rename_i hg
            rw [Option.bind_eq_some_iff] at h
            obtain ⟨es', h3, h⟩ := h
            split at h
            · rename_i hh
              cases h
              refine ⟨_, _, hh, rfl, fun τ hτ => ⟨vs, h1, ?_⟩⟩
              rw [if_pos hlo, h2]
              simp only [Option.bind_some, ho]
              rw [if_pos hg, h3]
              simp only [Option.bind_some, hτ]
            · cases h
          · cases h
        · cases h
      · cases h
    · cases h
  | callA _ _ => cases hk
  | callP _ _ => cases hk
  | callI _ _ => cases hk
  | callF _ _ => cases hk
  | callR _ _ => cases hk
  | callv _ _ => cases hk
end Go.Ev
namespace Go.Ev
variable {O : Orc} {e e' : Env} {σ σ' τ : qq}
def Env.put (e : Env) (d : Option Nat) : Option AV → Env
  | some r => e.set d r
  | none => e.forget d
theorem q0s (e : Env) (d : Option Nat) (x : Option AV) (t : Nat) : (e.put d x).get t = if d = some t then x else e.get t := by
  cases x with
  | some r => exact qts e d r t
  | none => exact q5c e d t
theorem qxa (e : Env) (d : Option Nat) (x : Option AV) : (e.put d x).marks = e.marks := by cases x <;> simp [Env.put]
theorem Eqv.put (h : Eqv e e') (d : Option Nat) (x : Option AV) : Eqv (e.put d x) (e'.put d x) := ⟨fun t => by rw [q0s, q0s, h.1], by rw [qxa, qxa, h.2]⟩
theorem qs8 (e : Env) {d d' : Option Nat} (h : ∀ k, d = some k → d' ≠ some k) (x y : Option AV) : Eqv ((e.put d x).put d' y) ((e.put d' y).put d x) := by
  refine ⟨fun t => ?_, by simp [qxa]⟩
  simp only [q0s]
  by_cases h1 : d = some t
  · rw [if_neg (h t h1), if_pos h1, if_pos h1]
  · simp [h1]
theorem qfc {o : COper} {e1 : Env} {σ1 τ1 : qq} (h : qe O e σ o = some (e1, σ1)) (ha : qks o.reads e e') (hit : ∀ r, qba O e σ o.it = some (r, σ1) → qba O e τ o.it = some (r, τ1)) (hsk : σ1 = σ → τ1 = τ) :
    ∃ x, e1 = e.put o.dst x ∧ qe O e' τ o = some (e'.put o.dst x, τ1) := by
  have ha' : qks (qor o.it) e e' := by rw [qqr] at ha; exact ha.right
  obtain ⟨e1', h1, h2⟩ := qv7 (τ := τ) (τ1 := τ1) h ha (fun r hr => ⟨hr, by rw [← qhi ha']; exact hit r hr⟩) hsk
  rcases h2 with ⟨r, rfl, rfl⟩ | ⟨rfl, rfl⟩
  · exact ⟨some r, rfl, h1⟩
  · exact ⟨some (.tup []), rfl, h1⟩
theorem qgq {o : COper} {e1 : Env} {σ1 : qq} (h : qe O e σ o = some (e1, σ1)) : σ1 = σ ∨ ∃ r, qba O e σ o.it = some (r, σ1) := by
  rcases ql1.1 h with ⟨_, r, h, _⟩ | ⟨_, _, h⟩
  · exact .inr ⟨r, h⟩
  · exact .inl h
structure Ap (a b : COper) : Prop where
  free : a.it.kind.free b.it.kind = true ∨ q51 a.it b.it = true
  r1 : ∀ d, a.dst = some d → d ∉ b.reads
  r2 : ∀ d, b.dst = some d → d ∉ a.reads
  ne : ∀ d, b.dst = some d → a.dst ≠ some d
theorem ap_of {a b : COper} (h : q3z a b = true) : Ap a b := by
  unfold q3z at h
  simp only [Bool.and_eq_true, Bool.or_eq_true] at h
  obtain ⟨h1, h2, h3, h4⟩ := h
  refine ⟨h1, fun d hd => ?_, fun d hd => ?_, fun d hd h5 => ?_⟩
  · simpa [disj, hd] using h2
  · simpa [disj, hd] using h3
  · simp [hd, h5] at h4
theorem qpy {l : List Nat} {d : Option Nat} {x : Option AV} (h : ∀ k, d = some k → k ∉ l) : qks l e (e.put d x) := fun t ht => by
  rw [q0s, if_neg]
  intro h2
  exact h t h2 ht
theorem qqv {d : Option Nat} {x : Option AV} : ∀ {l : List COper} {e e1 : Env} {σ σ1 : qq}, (∀ a ∈ l, (∀ k, d = some k → k ∉ a.reads) ∧ (∀ k, d = some k → a.dst ≠ some k)) → qb O l e σ = some (e1, σ1) →
    ∃ e1', qb O l (e.put d x) σ = some (e1', σ1) ∧ Eqv e1' (e1.put d x)
  | [], e, e1, σ, σ1, _, h => by simp only [qb] at h ⊢; cases h; exact ⟨_, rfl, Eqv.refl _⟩
  | o :: l, e, e1, σ, σ1, hl, h => by
    simp only [qb, Option.bind_eq_some_iff] at h
    obtain ⟨⟨e2, σ2⟩, h1, h2⟩ := h
    obtain ⟨ha, hb⟩ := hl o (by simp)
    obtain ⟨y, rfl, h4⟩ := qfc (τ := σ) (τ1 := σ2) h1 (qpy (d := d) (x := x) ha) (fun r hr => hr) (fun h => h)
    obtain ⟨e3, h5, h6⟩ := qqv (d := d) (x := x) (fun a ha => hl a (List.mem_cons_of_mem _ ha)) h2
    obtain ⟨e4, h7, h8⟩ := qj5 (qs8 e (d := o.dst) (d' := d) (fun k hk hd => hb k hd hk) y x) h5
    exact ⟨e4, by simp only [qb, h4, Option.bind_some]; exact h7, h8.symm.trans h6⟩
theorem qfm {d : Option Nat} {x : Option AV} : ∀ {l : List COper} {e e1 : Env} {σ σ1 τ : qq}, (∀ a ∈ l, (∀ k, d = some k → k ∉ a.reads) ∧ (∀ k, d = some k → a.dst ≠ some k)) →
    ((∀ a ∈ l, a.it.kind = .pure) ∨ ((∀ a ∈ l, a.it.kind = .pure ∨ a.it.kind = .load) ∧ ∃ ρ, τ = σ ++ ρ)) → qb O l e σ = some (e1, σ1) →
    σ1 = σ ∧ ∃ e1', qb O l (e.put d x) τ = some (e1', τ) ∧ Eqv e1' (e1.put d x)
  | [], e, e1, σ, σ1, τ, _, _, h => by simp only [qb] at h ⊢; cases h; exact ⟨rfl, _, rfl, Eqv.refl _⟩
  | o :: l, e, e1, σ, σ1, τ, hl, hk, h => by
    simp only [qb, Option.bind_eq_some_iff] at h
    obtain ⟨⟨e2, σ2⟩, h1, h2⟩ := h
    obtain ⟨ha, hb⟩ := hl o (by simp)
    have hone : ∀ r, qba O e σ o.it = some (r, σ2) → σ2 = σ ∧ qba O e τ o.it = some (r, τ) := fun r hr => by
      rcases hk with hk | ⟨hk, ρ, rfl⟩
      · exact ⟨(qfd (hk o (by simp)) hr).1, (qfd (hk o (by simp)) hr).2 τ⟩
      · rcases hk o (by simp) with hk | hk
        · exact ⟨(qfd hk hr).1, (qfd hk hr).2 _⟩
        · exact qw5 hk hr ρ
    have hσ : σ2 = σ := by
      rcases qgq h1 with h | ⟨r, hr⟩
      · exact h
      · exact (hone r hr).1
    subst hσ
    obtain ⟨y, rfl, h4⟩ := qfc (τ := τ) (τ1 := τ) h1 (qpy (d := d) (x := x) ha) (fun r hr => (hone r hr).2) (fun _ => rfl)
    obtain ⟨h9, e3, h5, h6⟩ := qfm (d := d) (x := x) (τ := τ) (fun a ha => hl a (List.mem_cons_of_mem _ ha)) (hk.imp (fun hk a ha => hk a (List.mem_cons_of_mem _ ha)) (fun hk => ⟨fun a ha => hk.1 a (List.mem_cons_of_mem _ ha), hk.2⟩)) h2
    obtain ⟨e4, h7, h8⟩ := qj5 (qs8 e (d := o.dst) (d' := d) (fun k hk hd => hb k hd hk) y x) h5
    exact ⟨h9, e4, by simp only [qb, h4, Option.bind_some]; exact h7, h8.symm.trans h6⟩
theorem qv0 {d : Option Nat} {x : Option AV} : ∀ {l : List COper} {e e1 : Env} {σ σ1 : qq}, (∀ a ∈ l, (∀ k, d = some k → k ∉ a.reads) ∧ (∀ k, d = some k → a.dst ≠ some k)) →
    (∀ a ∈ l, a.it.kind = .pure ∨ a.it.kind = .load ∨ a.it.kind = .alloc) → qb O l e σ = some (e1, σ1) →
    ∃ ρ, σ1 = σ ++ ρ ∧ ql5 ρ ∧ ∀ τ : qq, Up σ τ → τ.length = σ.length → ∃ e1', qb O l (e.put d x) τ = some (e1', τ ++ ρ) ∧ Eqv e1' (e1.put d x)
  | [], e, e1, σ, σ1, _, _, h => by simp only [qb] at h ⊢; cases h; exact ⟨[], by simp, by simp [ql5], fun τ _ _ => ⟨_, by simp, Eqv.refl _⟩⟩
  | o :: l, e, e1, σ, σ1, hl, hk, h => by
    simp only [qb, Option.bind_eq_some_iff] at h
    obtain ⟨⟨e2, σ2⟩, h1, h2⟩ := h
    obtain ⟨ha, hb⟩ := hl o (by simp)
    have hone : ∃ ρ, σ2 = σ ++ ρ ∧ ql5 ρ ∧ ∀ τ : qq, Up σ τ → τ.length = σ.length → (∀ r, qba O e σ o.it = some (r, σ2) → qba O e τ o.it = some (r, τ ++ ρ)) ∧ (σ2 = σ → τ ++ ρ = τ) := by
      rcases qgq h1 with rfl | ⟨r0, hr0⟩
      · refine ⟨[], by simp, by simp [ql5], fun τ hu hle => ⟨fun r hr => ?_, fun _ => by simp⟩⟩
        rcases hk o (by simp) with hk | hk | hk
        · simpa using (qfd hk hr).2 τ
        · simpa using (qv4 hk hr hu).2
        · obtain ⟨ρ, q1, _, q3⟩ := qwl hk hr
          have : ρ = [] := by
            have := congrArg List.length q1
            simp at this
            exact this
          subst this
          exact q3 τ hu hle
      · rcases hk o (by simp) with hk | hk | hk
        · obtain ⟨rfl, _⟩ := qfd hk hr0
          exact ⟨[], by simp, by simp [ql5], fun τ hu hle => ⟨fun r hr => by simpa using (qfd hk hr).2 τ, fun _ => by simp⟩⟩
        · obtain ⟨rfl, _⟩ := qv4 hk hr0 (Up.refl σ)
          exact ⟨[], by simp, by simp [ql5], fun τ hu hle => ⟨fun r hr => by simpa using (qv4 hk hr hu).2, fun _ => by simp⟩⟩
        · obtain ⟨ρ, q1, q2, q3⟩ := qwl hk hr0
          refine ⟨ρ, q1, q2, fun τ hu hle => ⟨fun r hr => ?_, fun h => ?_⟩⟩
          · rw [hr0] at hr; cases hr; exact q3 τ hu hle
          · rw [q1] at h
            have := congrArg List.length h
            simp at this
            rw [this]; simp
    obtain ⟨ρ, rfl, hn, hone⟩ := hone
    obtain ⟨y, rfl, h4⟩ := qfc (τ := σ) (τ1 := σ ++ ρ) h1 (fun _ _ => rfl) (fun r hr => hr) (fun h => h)
    obtain ⟨ρ2, rfl, hn2, hrec⟩ := qv0 (d := d) (x := x) (fun a ha => hl a (List.mem_cons_of_mem _ ha)) (fun a ha => hk a (List.mem_cons_of_mem _ ha)) h2
    refine ⟨ρ ++ ρ2, by simp, fun ob hob => (List.mem_append.1 hob).elim (hn ob) (hn2 ob), fun τ hu hle => ?_⟩
    obtain ⟨q1, q2⟩ := hone τ hu hle
    obtain ⟨y', hy', h5⟩ := qfc (τ := τ) (τ1 := τ ++ ρ) h1 (qpy (d := d) (x := x) ha) q1 q2
    have hyy : Eqv (e.put o.dst y) (e.put o.dst y') := by rw [hy']; exact Eqv.refl _
    obtain ⟨e3, h6, h7⟩ := hrec (τ ++ ρ) (hu.more hle ρ) (by simp [hle])
    have hc : Eqv ((e.put o.dst y).put d x) ((e.put d x).put o.dst y') := (hyy.put d x).trans (qs8 e (d := o.dst) (d' := d) (fun k hk hd => hb k hd hk) y' x)
    obtain ⟨e4, h8, h9⟩ := qj5 hc h6
    exact ⟨e4, by simp only [qb, h5, Option.bind_some]; rw [h8]; simp, h9.symm.trans h7⟩
theorem qoy {a b : Item'} (h : q51 a b = true) : (∃ s ag x av s' t y, a = .op (.ldD s ag x av) ∧ b = .op (.st s' (.t t) y) ∧ av.contains t = true) ∨ ∃ s ag x t s' n y z av, a = .op (.ldB s ag x t) ∧ b = .op (.appB s' n y z av) ∧ av.contains t = true := by
  unfold q51 at h
  split at h
  · exact .inl ⟨_, _, _, _, _, _, _, rfl, rfl, h⟩
  · exact .inr ⟨_, _, _, _, _, _, _, _, _, rfl, rfl, h⟩
  · cases h
theorem qma {a b : Item'} (h : q51 a b = true) : b.kind = .write := by
  rcases qoy h with ⟨_, _, _, _, _, _, _, _, q, _⟩ | ⟨_, _, _, _, _, _, _, _, _, _, q, _⟩ <;> rw [q] <;> rfl
theorem qti {p : AV} : ∀ {l : List Nat} {t : Nat}, ql8 e p l = true → l.contains t = true → ∃ o g i off, e.get t = some (.ptr o g i off) ∧ ∀ o', p.obj? = some o' → o' ≠ o
  | [], t, _, h => by simp at h
  | u :: l, t, h, ht => by
    simp only [ql8] at h
    split at h
    · rename_i o g i off hu
      simp only [Bool.and_eq_true] at h
      by_cases hut : t = u
      · subst hut
        refine ⟨o, g, i, off, hu, fun o' ho' => ?_⟩
        have h1 := h.1
        rw [ho'] at h1
        simp only [Bool.not_eq_true', beq_eq_false_iff_ne, ne_eq] at h1
        exact fun e => h1 e.symm
      · refine qti h.2 ?_
        simpa [List.contains_cons, hut] using ht
    · cases h
theorem q6e {s : Nat} {ag : Bool} {x : Opnd} {t : Nat} {r p : AV} {av : List Nat} (h : qba O e σ (.op (.ldB s ag x t)) = some (r, σ')) (ht : av.contains t = true) (ha : ql8 e p av = true) (hτ : ∀ (k : Nat) (ob : SObj), σ[k]? = some ob → p.obj? ≠ some k → τ[k]? = some ob) :
    σ' = σ ∧ qba O e τ (.op (.ldB s ag x t)) = some (r, τ) := by
  simp only [qba, qah, Option.bind_eq_some_iff] at h ⊢
  obtain ⟨q, h1, h⟩ := h
  split at h
  · rename_i hb
    simp only [Option.bind_eq_some_iff] at h
    obtain ⟨cs, h2, v, h3, h⟩ := h
    cases h
    refine ⟨rfl, q, h1, ?_⟩
    rw [if_pos hb]
    simp only [Option.bind_eq_some_iff]
    refine ⟨cs, ?_, _, h3, rfl⟩
    obtain ⟨o2, g2, i2, off2, k1, k2⟩ := qti ha ht
    unfold qf at h2 ⊢
    cases q <;> simp only at h2 ⊢ <;> try exact h2
    rename_i o' g' i' off'
    have ho' : o' = o2 := by
      simp only [q8n, AV.obj?, k1] at hb
      simpa using hb
    subst ho'
    cases ho : σ[o']? with
    | none => rw [ho] at h2; cases h2
    | some ob =>
      rw [hτ o' ob ho (fun hc => k2 o' hc rfl)]
      rw [ho] at h2; exact h2
  · cases h
theorem qum {d : Option Nat} {x : Option AV} {p : AV} {av : List Nat} : ∀ {l : List COper} {e e1 : Env} {σ σ1 τ : qq}, (∀ a ∈ l, (∀ k, d = some k → k ∉ a.reads) ∧ (∀ k, d = some k → a.dst ≠ some k)) →
    (∀ a ∈ l, (∀ t, t ∈ av → a.dst ≠ some t) ∧ (a.it.kind = .pure ∨ ∃ s ag y t, a.it = .op (.ldB s ag y t) ∧ av.contains t = true)) → ql8 e p av = true → (∀ (k : Nat) (ob : SObj), σ[k]? = some ob → p.obj? ≠ some k → τ[k]? = some ob) → qb O l e σ = some (e1, σ1) →
    σ1 = σ ∧ ∃ e1', qb O l (e.put d x) τ = some (e1', τ) ∧ Eqv e1' (e1.put d x)
  | [], e, e1, σ, σ1, τ, _, _, _, _, h => by simp only [qb] at h ⊢; cases h; exact ⟨rfl, _, rfl, Eqv.refl _⟩
  | q :: l, e, e1, σ, σ1, τ, hl, hk, het, hτ, h => by
    simp only [qb, Option.bind_eq_some_iff] at h
    obtain ⟨⟨e2, σ2⟩, h1, h2⟩ := h
    obtain ⟨ha, hb⟩ := hl q (by simp)
    obtain ⟨hd, hkq⟩ := hk q (by simp)
    have hone : ∀ r, qba O e σ q.it = some (r, σ2) → σ2 = σ ∧ qba O e τ q.it = some (r, τ) := fun r hr => by
      rcases hkq with hkq | ⟨s, ag, y, t, hit, hav⟩
      · exact ⟨(qfd hkq hr).1, (qfd hkq hr).2 τ⟩
      · rw [hit] at hr ⊢
        exact q6e hr hav het hτ
    have hσ : σ2 = σ := by
      rcases qgq h1 with h | ⟨r, hr⟩
      · exact h
      · exact (hone r hr).1
    subst hσ
    have het2 : ql8 e2 p av = true := by
      rw [← het]
      exact qou fun t ht => (qui h1).get (hd t ht)
    obtain ⟨y, rfl, h4⟩ := qfc (τ := τ) (τ1 := τ) h1 (qpy (d := d) (x := x) ha) (fun r hr => (hone r hr).2) (fun _ => rfl)
    obtain ⟨h9, e3, h5, h6⟩ := qum (d := d) (x := x) (τ := τ) (fun a ha => hl a (List.mem_cons_of_mem _ ha)) (fun a ha => hk a (List.mem_cons_of_mem _ ha)) het2 hτ h2
    obtain ⟨e4, h7, h8⟩ := qj5 (qs8 e (d := q.dst) (d' := d) (fun k hk hd => hb k hd hk) y x) h5
    exact ⟨h9, e4, by simp only [qb, h4, Option.bind_some]; exact h7, h8.symm.trans h6⟩
theorem q57 {s n : Nat} {y z : Opnd} {av : List Nat} {r : AV} (h : qba O e σ (.op (.appB s n y z av)) = some (r, σ')) : ∃ p, y.ev e = some p ∧ ql8 e p av = true ∧ ∀ (k : Nat) (ob : SObj), σ[k]? = some ob → p.obj? ≠ some k → σ'[k]? = some ob := by
  simp only [qba, qah, Option.bind_eq_some_iff] at h
  obtain ⟨p, h1, h⟩ := h
  split at h
  · rename_i haw
    simp only [Option.bind_eq_some_iff] at h
    obtain ⟨v, h2, xs, h3, h⟩ := h
    refine ⟨p, h1, haw, fun k ob hk hne => ?_⟩
    unfold qn4 at h
    split at h
    · split at h
      · split at h
        · split at h
          · split at h
            · cases h; exact hk
            · cases h
              rw [List.getElem?_set_ne (fun hc => hne (by rw [← hc]; rfl))]; exact hk
          · cases h
        · cases h
      · cases h
    · split at h
      · split at h
        · cases h; exact hk
        · cases h; exact q2m hk
      · cases h
    · cases h
  · cases h
theorem q73 {s : Nat} {ag : Bool} {x : Opnd} {av : List Nat} {r : AV} {t o g i off : Nat} (h : qba O e σ (.op (.ldD s ag x av)) = some (r, σ')) (ht : av.contains t = true) (he : e.get t = some (.ptr o g i off)) (hτ : ∀ k, k ≠ o → τ[k]? = σ[k]?) :
    σ' = σ ∧ qba O e τ (.op (.ldD s ag x av)) = some (r, τ) := by
  simp only [qba, qah, Option.bind_eq_some_iff] at h ⊢
  obtain ⟨p, h1, h⟩ := h
  split at h
  · rename_i haw
    simp only [Option.bind_eq_some_iff] at h
    obtain ⟨cs, h2, v, h3, h⟩ := h
    cases h
    refine ⟨rfl, p, h1, ?_⟩
    rw [if_pos haw]
    simp only [Option.bind_eq_some_iff]
    refine ⟨cs, ?_, _, h3, rfl⟩
    obtain ⟨o2, g2, i2, off2, k1, k2⟩ := qti haw ht
    rw [he] at k1
    cases k1
    unfold qf at h2 ⊢
    cases p <;> simp only at h2 ⊢ <;> try exact h2
    rename_i o' g' i' off'
    rw [hτ o' (k2 o' rfl)]
    exact h2
  · cases h
theorem qxy {d : Option Nat} {x : Option AV} {t o g i off : Nat} : ∀ {l : List COper} {e e1 : Env} {σ σ1 τ : qq}, (∀ a ∈ l, (∀ k, d = some k → k ∉ a.reads) ∧ (∀ k, d = some k → a.dst ≠ some k)) →
    (∀ a ∈ l, a.dst ≠ some t ∧ (a.it.kind = .pure ∨ ∃ s ag y av, a.it = .op (.ldD s ag y av) ∧ av.contains t = true)) → e.get t = some (.ptr o g i off) → (∀ k, k ≠ o → τ[k]? = σ[k]?) → qb O l e σ = some (e1, σ1) →
    σ1 = σ ∧ ∃ e1', qb O l (e.put d x) τ = some (e1', τ) ∧ Eqv e1' (e1.put d x)
  | [], e, e1, σ, σ1, τ, _, _, _, _, h => by simp only [qb] at h ⊢; cases h; exact ⟨rfl, _, rfl, Eqv.refl _⟩
  | q :: l, e, e1, σ, σ1, τ, hl, hk, het, hτ, h => by
    simp only [qb, Option.bind_eq_some_iff] at h
    obtain ⟨⟨e2, σ2⟩, h1, h2⟩ := h
    obtain ⟨ha, hb⟩ := hl q (by simp)
    obtain ⟨hd, hkq⟩ := hk q (by simp)
    have hone : ∀ r, qba O e σ q.it = some (r, σ2) → σ2 = σ ∧ qba O e τ q.it = some (r, τ) := fun r hr => by
      rcases hkq with hkq | ⟨s, ag, y, av, hit, hav⟩
      · exact ⟨(qfd hkq hr).1, (qfd hkq hr).2 τ⟩
      · rw [hit] at hr ⊢
        exact q73 hr hav het hτ
    have hσ : σ2 = σ := by
      rcases qgq h1 with h | ⟨r, hr⟩
      · exact h
      · exact (hone r hr).1
    subst hσ
    have het2 : e2.get t = some (.ptr o g i off) := by rw [(qui h1).get hd]; exact het
    obtain ⟨y, rfl, h4⟩ := qfc (τ := τ) (τ1 := τ) h1 (qpy (d := d) (x := x) ha) (fun r hr => (hone r hr).2) (fun _ => rfl)
    obtain ⟨h9, e3, h5, h6⟩ := qxy (d := d) (x := x) (τ := τ) (fun a ha => hl a (List.mem_cons_of_mem _ ha)) (fun a ha => hk a (List.mem_cons_of_mem _ ha)) het2 hτ h2
    obtain ⟨e4, h7, h8⟩ := qj5 (qs8 e (d := q.dst) (d' := d) (fun k hk hd => hb k hd hk) y x) h5
    exact ⟨h9, e4, by simp only [qb, h4, Option.bind_some]; exact h7, h8.symm.trans h6⟩
theorem qwi {L : List Nat} : ∀ {l : List COper} {e e1 : Env} {σ σ1 : qq}, (∀ a ∈ l, ∀ k, a.dst = some k → k ∉ L) → qb O l e σ = some (e1, σ1) → qks L e1 e
  | [], e, e1, σ, σ1, _, h => by simp only [qb] at h; cases h; exact fun _ _ => rfl
  | o :: l, e, e1, σ, σ1, hl, h => by
    simp only [qb, Option.bind_eq_some_iff] at h
    obtain ⟨⟨e2, σ2⟩, h1, h2⟩ := h
    have h3 := qwi (fun a ha => hl a (List.mem_cons_of_mem _ ha)) h2
    intro t ht
    rw [h3 t ht, (qui h1).get (fun hd => hl o (by simp) t hd ht)]
theorem qzh : ∀ {l : List COper} {e e1 : Env} {σ σ1 : qq}, (∀ a ∈ l, a.it.kind ≠ .write ∧ a.it.kind ≠ .fill) → qb O l e σ = some (e1, σ1) → ∃ ρ, σ1 = σ ++ ρ
  | [], e, e1, σ, σ1, _, h => by simp only [qb] at h; cases h; exact ⟨[], by simp⟩
  | o :: l, e, e1, σ, σ1, hl, h => by
    simp only [qb, Option.bind_eq_some_iff] at h
    obtain ⟨⟨e2, σ2⟩, h1, h2⟩ := h
    obtain ⟨ρ, rfl⟩ := qzh (fun a ha => hl a (List.mem_cons_of_mem _ ha)) h2
    have : ∃ ρ', σ2 = σ ++ ρ' := by
      rcases qgq h1 with rfl | ⟨r, hr⟩
      · exact ⟨[], by simp⟩
      · cases hk : o.it.kind with
        | pure => exact ⟨[], by rw [(qfd hk hr).1]; simp⟩
        | load => exact ⟨[], by rw [(qw5 hk hr []).1]; simp⟩
        | alloc => exact qqt (.inl hk) hr
        | room => exact qqt (.inr hk) hr
        | read => exact ⟨[], by rw [qwx hk hr]; simp⟩
        | write => exact absurd hk (hl o (by simp)).1
        | fill => exact absurd hk (hl o (by simp)).2
    obtain ⟨ρ', rfl⟩ := this
    exact ⟨ρ' ++ ρ, by rw [List.append_assoc]⟩
theorem qxq : ∀ {l : List COper} {e e1 : Env} {σ σ1 : qq}, (∀ a ∈ l, a.it.kind = .pure ∨ a.it.kind = .load ∨ a.it.kind = .read) → qb O l e σ = some (e1, σ1) → σ1 = σ
  | [], e, e1, σ, σ1, _, h => by simp only [qb] at h; cases h; rfl
  | o :: l, e, e1, σ, σ1, hl, h => by
    simp only [qb, Option.bind_eq_some_iff] at h
    obtain ⟨⟨e2, σ2⟩, h1, h2⟩ := h
    rw [qxq (fun a ha => hl a (List.mem_cons_of_mem _ ha)) h2]
    rcases qgq h1 with h | ⟨r, hr⟩
    · exact h
    · rcases hl o (by simp) with hk | hk | hk
      · exact (qfd hk hr).1
      · exact (qw5 hk hr []).1
      · exact qwx hk hr
theorem q5p {l : List COper} {o : COper} {e1 e2 : Env} {σ1 σ2 : qq} (hl : ∀ a ∈ l, Ap a o) (hkn : Known σ.length e) (hc : qq9 o.it = true) (h1 : qb O l e σ = some (e1, σ1)) (h2 : qe O e1 σ1 o = some (e2, σ2)) :
    ∃ e1' τ, qe O e σ o = some (e1', τ) ∧ ∃ e2', qb O l e1' τ = some (e2', σ2) ∧ Eqv e2' e2 := by
  have hag : qks o.reads e1 e := qwi (fun a ha k hk => (hl a ha).r1 k hk) h1
  have hag' : qks (qor o.it) e1 e := by rw [qqr] at hag; exact hag.right
  have hd : ∀ a ∈ l, (∀ k, o.dst = some k → k ∉ a.reads) ∧ (∀ k, o.dst = some k → a.dst ≠ some k) := fun a ha => ⟨(hl a ha).r2, (hl a ha).ne⟩
  cases hk : o.it.kind with
  | pure =>
    have hσ : σ2 = σ1 := by
      rcases qgq h2 with h | ⟨r, hr⟩
      · exact h
      · exact (qfd hk hr).1
    subst hσ
    obtain ⟨x, rfl, h3⟩ := qfc (τ := σ) (τ1 := σ) h2 hag (fun r hr => (qfd hk hr).2 σ) (fun _ => rfl)
    obtain ⟨e3, h4, h5⟩ := qqv (x := x) hd h1
    exact ⟨_, _, h3, e3, h4, h5⟩
  | load =>
    have hnw : ∀ a ∈ l, a.it.kind ≠ .write ∧ a.it.kind ≠ .fill := fun a ha => by
      rcases (hl a ha).free with this | this
      · rw [hk] at this
        revert this
        cases a.it.kind <;> simp [Kind.free]
      · rw [qma this] at hk; cases hk
    obtain ⟨ρ, rfl⟩ := qzh hnw h1
    have hσ : σ2 = σ ++ ρ := by
      rcases qgq h2 with h | ⟨r, hr⟩
      · exact h
      · exact (qw5 hk hr []).1
    subst hσ
    obtain ⟨x, rfl, h3⟩ := qfc (e' := e) (τ := σ) (τ1 := σ) h2 hag (fun r hr => by
      rw [qhi hag'] at hr ⊢
      exact q8l hk hkn hc hr) (fun _ => rfl)
    obtain ⟨e3, h4, h5⟩ := qqv (x := x) hd h1
    exact ⟨_, _, h3, e3, h4, h5⟩
  | alloc =>
    have hpl : ∀ a ∈ l, a.it.kind = .pure ∨ a.it.kind = .load := fun a ha => by
      rcases (hl a ha).free with this | this
      · rw [hk] at this
        revert this
        cases a.it.kind <;> simp [Kind.free]
      · rw [qma this] at hk; cases hk
    have hσ : σ1 = σ := by
      have := qfm (d := none) (x := none) (τ := σ) (fun a ha => ⟨fun k h => (by cases h), fun k h => (by cases h)⟩) (.inr ⟨hpl, [], by simp⟩) h1
      exact this.1
    subst hσ
    obtain ⟨x, rfl, h3⟩ := qfc (τ := σ1) (τ1 := σ2) h2 hag (fun r hr => hr) (fun h => h)
    have hρ : ∃ ρ, σ2 = σ1 ++ ρ := by
      rcases qgq h2 with rfl | ⟨r, hr⟩
      · exact ⟨[], by simp⟩
      · exact qqt (.inl hk) hr
    obtain ⟨_, e3, h4, h5⟩ := qfm (x := x) (τ := σ2) hd (.inr ⟨hpl, hρ⟩) h1
    exact ⟨_, _, h3, e3, h4, h5⟩
  | room =>
    have hpl : ∀ a ∈ l, a.it.kind = .pure ∨ a.it.kind = .load := fun a ha => by
      rcases (hl a ha).free with this | this
      · rw [hk] at this
        revert this
        cases a.it.kind <;> simp [Kind.free]
      · rw [qma this] at hk; cases hk
    have hσ : σ1 = σ := by
      have := qfm (d := none) (x := none) (τ := σ) (fun a ha => ⟨fun k h => (by cases h), fun k h => (by cases h)⟩) (.inr ⟨hpl, [], by simp⟩) h1
      exact this.1
    subst hσ
    obtain ⟨x, rfl, h3⟩ := qfc (τ := σ1) (τ1 := σ2) h2 hag (fun r hr => hr) (fun h => h)
    have hρ : ∃ ρ, σ2 = σ1 ++ ρ := by
      rcases qgq h2 with rfl | ⟨r, hr⟩
      · exact ⟨[], by simp⟩
      · exact qqt (.inr hk) hr
    obtain ⟨_, e3, h4, h5⟩ := qfm (x := x) (τ := σ2) hd (.inr ⟨hpl, hρ⟩) h1
    exact ⟨_, _, h3, e3, h4, h5⟩
  | fill =>
    have hpl : ∀ a ∈ l, a.it.kind = .pure ∨ a.it.kind = .load ∨ a.it.kind = .alloc := fun a ha => by
      rcases (hl a ha).free with this | this
      · rw [hk] at this
        revert this
        cases a.it.kind <;> simp [Kind.free]
      · rw [qma this] at hk; cases hk
    obtain ⟨ρ0, q1, q2, _⟩ := qv0 (d := none) (x := none) (fun a ha => ⟨fun k h => (by cases h), fun k h => (by cases h)⟩) hpl h1
    subst q1
    rcases ql1.1 h2 with ⟨hg, r, h3, rfl⟩ | ⟨hg, rfl, rfl⟩
    · obtain ⟨p, ob, f1, f2, f3⟩ := qwg hk h3
      have hp : p < σ.length := by
        rcases Nat.lt_or_ge p σ.length with hlt | hge
        · exact hlt
        · rw [List.getElem?_append_right hge] at f1
          exact absurd rfl (q2 _ (List.mem_of_getElem? f1))
      have f4 : σ[p]? = some .hole := qnc f1 hp
      subst f2
      obtain ⟨x, hx, h4⟩ := qfc (e' := e) (τ := σ) (τ1 := σ.set p ob) h2 hag (fun r hr => by
        rw [qhi hag'] at hr ⊢
        obtain ⟨p', ob', g1, g2, g3⟩ := qwg hk hr
        have hpp : qba O e σ o.it = some (r, σ.set p ob) := by
          have g4 := g3 (σ ++ ρ0) g1
          rw [qhi hag'] at h3
          have g5 := f3
          have := f3 σ f4
          rw [qhi hag'] at this
          have g6 := f3 (σ ++ ρ0) f1
          rw [qhi hag', hr] at g6
          rw [show r = _ from by cases g6; rfl]
          exact this
        exact hpp) (fun hs => by
        have : (σ ++ ρ0)[p]? = ((σ ++ ρ0).set p ob)[p]? := by rw [hs]
        rw [f1, List.getElem?_set_self (by simp; omega)] at this
        rw [← Option.some.inj this]
        obtain ⟨hlt, hge⟩ := List.getElem?_eq_some_iff.1 f4
        rw [← hge, List.set_getElem_self])
      obtain ⟨ρ, q3, _, q4⟩ := qv0 (d := o.dst) (x := x) hd hpl h1
      have hρ : ρ = ρ0 := List.append_cancel_left q3.symm
      subst hρ
      obtain ⟨e3, h5, h6⟩ := q4 (σ.set p ob) (Up.fill f4) (by simp)
      refine ⟨_, _, h4, e3, ?_, ?_⟩
      · rw [h5, List.set_append_left _ _ hp]
      · rw [hx]; exact h6
    · obtain ⟨x, hx, h4⟩ := qfc (e' := e) (τ := σ) (τ1 := σ) h2 hag (fun r hr => by
        obtain ⟨p', ob', g1, g2, g3⟩ := qwg hk hr
        have hp : p' < σ.length := by
          rcases Nat.lt_or_ge p' σ.length with hlt | hge
          · exact hlt
          · rw [List.getElem?_append_right hge] at g1
            exact absurd rfl (q2 _ (List.mem_of_getElem? g1))
        have g4 : σ[p']? = some .hole := qnc g1 hp
        have g5 := g3 σ g4
        have hob : ob' = .hole := by
          have : (σ ++ ρ0)[p']? = ((σ ++ ρ0).set p' ob')[p']? := by rw [← g2]
          rw [g1, List.getElem?_set_self (by simp; omega)] at this
          exact (Option.some.inj this).symm
        subst hob
        rw [g5]
        obtain ⟨hlt, hge⟩ := List.getElem?_eq_some_iff.1 g4
        rw [← hge, List.set_getElem_self]) (fun _ => rfl)
      obtain ⟨ρ, q3, _, q4⟩ := qv0 (d := o.dst) (x := x) hd hpl h1
      have hρ : ρ = ρ0 := List.append_cancel_left q3.symm
      subst hρ
      obtain ⟨e3, h5, h6⟩ := q4 σ (Up.refl σ) rfl
      refine ⟨_, _, h4, e3, h5, ?_⟩
      rw [hx]; exact h6
  | read =>
    have hpl : ∀ a ∈ l, a.it.kind = .pure ∨ a.it.kind = .load ∨ a.it.kind = .read := fun a ha => by
      rcases (hl a ha).free with this | this
      · rw [hk] at this
        revert this
        cases a.it.kind <;> simp [Kind.free]
      · rw [qma this] at hk; cases hk
    have hσ := qxq hpl h1
    subst hσ
    have hσ2 : σ2 = σ1 := by
      rcases qgq h2 with h | ⟨r, hr⟩
      · exact h
      · exact qwx hk hr
    subst hσ2
    obtain ⟨x, rfl, h3⟩ := qfc (τ := σ2) (τ1 := σ2) h2 hag (fun r hr => hr) (fun h => h)
    obtain ⟨e3, h4, h5⟩ := qqv (x := x) hd h1
    exact ⟨_, _, h3, e3, h4, h5⟩
  | write =>
    by_cases hpl : ∀ a ∈ l, a.it.kind = .pure
    · have hσ : σ1 = σ := by
        have := qfm (d := none) (x := none) (τ := σ) (fun a ha => ⟨fun k h => (by cases h), fun k h => (by cases h)⟩) (.inl hpl) h1
        exact this.1
      subst hσ
      obtain ⟨x, rfl, h3⟩ := qfc (τ := σ1) (τ1 := σ2) h2 hag (fun r hr => hr) (fun h => h)
      obtain ⟨_, e3, h4, h5⟩ := qfm (x := x) (τ := σ2) hd (.inl hpl) h1
      exact ⟨_, _, h3, e3, h4, h5⟩
    · have hex : ∃ a ∈ l, q51 a.it o.it = true := by
        simp only [Classical.not_forall] at hpl
        obtain ⟨a, ha, hne⟩ := hpl
        refine ⟨a, ha, (hl a ha).free.resolve_left fun this => ?_⟩
        rw [hk] at this
        revert this hne
        cases a.it.kind <;> simp [Kind.free]
      obtain ⟨a0, ha0, has⟩ := hex
      rcases qoy has with ⟨_, _, _, _, s', t, y, _, hot, _⟩ | ⟨_, _, _, _, s', n, y, z, av, _, hot, _⟩
      case inr =>
        have hall : ∀ a ∈ l, (∀ t, t ∈ av → a.dst ≠ some t) ∧ (a.it.kind = .pure ∨ ∃ s ag y t, a.it = .op (.ldB s ag y t) ∧ av.contains t = true) := fun a ha => by
          refine ⟨fun t ht hda => (hl a ha).r1 t hda ?_, ?_⟩
          · rw [qqr, hot]
            exact List.mem_append_right _ (by simp [qor, COp.reads, ht])
          · rcases (hl a ha).free with this | this
            · left
              rw [hk] at this
              revert this
              cases a.it.kind <;> simp [Kind.free]
            · rcases qoy this with ⟨_, _, _, _, _, _, _, _, q2, _⟩ | ⟨s, ag, x, t2, _, _, _, _, av2, q1, q2, q3⟩
              · rw [hot] at q2; cases q2
              · rw [hot] at q2
                cases q2
                exact .inr ⟨s, ag, x, t2, q1, q3⟩
        have hpl2 : ∀ a ∈ l, a.it.kind = .pure ∨ a.it.kind = .load := fun a ha => (hall a ha).2.imp id fun ⟨_, _, _, _, q, _⟩ => by rw [q]; rfl
        have hσ : σ1 = σ := by
          have := qfm (d := none) (x := none) (τ := σ) (fun a ha => ⟨fun k h => (by cases h), fun k h => (by cases h)⟩) (.inr ⟨hpl2, [], by simp⟩) h1
          exact this.1
        subst hσ
        obtain ⟨x, rfl, h3⟩ := qfc (τ := σ1) (τ1 := σ2) h2 hag (fun r hr => hr) (fun h => h)
        rcases qgq h2 with h | ⟨r, hr⟩
        · subst h
          obtain ⟨_, e3, h4, h5⟩ := qfm (x := x) (τ := σ2) hd (.inr ⟨hpl2, [], by simp⟩) h1
          exact ⟨_, _, h3, e3, h4, h5⟩
        · rw [qhi hag', hot] at hr
          obtain ⟨p, _, p2, p3⟩ := q57 hr
          obtain ⟨_, e3, h4, h5⟩ := qum (x := x) (τ := σ2) hd hall p2 p3 h1
          exact ⟨_, _, h3, e3, h4, h5⟩
      have hall : ∀ a ∈ l, a.dst ≠ some t ∧ (a.it.kind = .pure ∨ ∃ s ag y av, a.it = .op (.ldD s ag y av) ∧ av.contains t = true) := fun a ha => by
        refine ⟨fun hda => (hl a ha).r1 t hda ?_, ?_⟩
        · rw [qqr, hot]
          exact List.mem_append_right _ (by simp [qor, COp.reads, opT])
        · rcases (hl a ha).free with this | this
          · left
            rw [hk] at this
            revert this
            cases a.it.kind <;> simp [Kind.free]
          · rcases qoy this with ⟨s, ag, x, av, _, t2, _, q1, q2, q3⟩ | ⟨_, _, _, _, _, _, _, _, _, _, q2, _⟩
            · rw [hot] at q2
              cases q2
              exact .inr ⟨s, ag, x, av, q1, q3⟩
            · rw [hot] at q2; cases q2
      have hett : e1.get t = e.get t := hag t (by rw [qqr, hot]; exact List.mem_append_right _ (by simp [qor, COp.reads, opT]))
      have hσ : σ1 = σ := by
        clear h2
        have : ∀ (l : List COper), (∀ a ∈ l, a.it.kind = .pure ∨ ∃ s ag y av, a.it = .op (.ldD s ag y av) ∧ av.contains t = true) → ∀ {e e1 : Env} {σ σ1 : qq}, qb O l e σ = some (e1, σ1) → σ1 = σ := by
          intro l
          induction l with
          | nil => intro _ e e1 σ σ1 h; simp only [qb] at h; cases h; rfl
          | cons q l ih =>
            intro hq e e1 σ σ1 h
            simp only [qb, Option.bind_eq_some_iff] at h
            obtain ⟨⟨e2, σ2⟩, k1, k2⟩ := h
            rw [ih (fun a ha => hq a (List.mem_cons_of_mem _ ha)) k2]
            rcases qgq k1 with h | ⟨r, hr⟩
            · exact h
            · rcases hq q (by simp) with hp | ⟨s, ag, y, av, hit, _⟩
              · exact (qfd hp hr).1
              · exact (qw5 (by rw [hit]; rfl) hr []).1
        exact this l (fun a ha => (hall a ha).2) h1
      subst hσ
      obtain ⟨x, rfl, h3⟩ := qfc (τ := σ1) (τ1 := σ2) h2 hag (fun r hr => hr) (fun h => h)
      by_cases hsame : σ2 = σ1
      · subst hsame
        -- the store was passed over, or has changed nothing
        have hpl2 : ∀ a ∈ l, a.it.kind = .pure ∨ a.it.kind = .load := fun a ha => (hall a ha).2.imp id fun ⟨_, _, _, _, q, _⟩ => by rw [q]; rfl
        obtain ⟨_, e3, h4, h5⟩ := qfm (x := x) (τ := σ2) hd (.inr ⟨hpl2, [], by simp⟩) h1
        exact ⟨_, _, h3, e3, h4, h5⟩
      · rcases qgq h2 with h | ⟨r, hr⟩
        · exact absurd h hsame
        · rw [hot] at hr
          simp only [qba, qah, Option.bind_eq_some_iff] at hr
          obtain ⟨p, p1, v, p2, hr⟩ := hr
          split at hr
          · rename_i oo g i off
            have het : e.get t = some (.ptr oo g i off) := by rw [← hett]; exact p1
            have hτ : ∀ k, k ≠ oo → σ2[k]? = σ1[k]? := by
              split at hr
              · rw [Option.bind_eq_some_iff] at hr
                obtain ⟨c, _, hr⟩ := hr
                split at hr
                · cases hr
                  intro k hk2
                  rw [List.getElem?_set_ne (fun h => hk2 h.symm)]
                · cases hr
              · cases hr
            obtain ⟨_, e3, h4, h5⟩ := qxy (x := x) (τ := σ2) hd hall het hτ h1
            exact ⟨_, _, h3, e3, h4, h5⟩
          · cases hr
end Go.Ev
namespace Go.Ev
open Go.RowKit (Below)
variable {P : Program} {Γ Γ' : Ctx} {w w' : World} {σ σ' : qq} {e : Env} {a : Act} {av : AV}
abbrev FR (ro : Option Nat) : Fence := { Fence.wide with round := ro }
def Got (P : Program) (Γ : Ctx) (w : World) (r : AV) (σ' : qq) (v : Value) (w' : World) : Prop := ∃ Γ', VR Γ' w' r v ∧ SR P Γ' σ' w' ∧ Ext Γ Γ' w w'
def q54 (G : Value → World → Prop) : Ending → World → Prop
  | .returned v, w' => G v w'
  | _, _ => False
def qmf (P : Program) (G : Value → World → Prop) : Result Next → Prop
  | .ok (.value v) w' => G v w'
  | .ok .skip w' => G undef w'
  | .ok (.enter f args) w' => CallsIn Fence.wide 0 P f args w' (q54 G)
  | .ok (.round l f tmps as body) w' => RoundIn Fence.wide 0 P l f tmps as body w' (q54 G)
  | _ => False
theorem q54.mono {G G' : Value → World → Prop} (h : ∀ v w, G v w → G' v w) : ∀ e w, q54 G e w → q54 G' e w
  | .returned v, w, k => h v w k
  | .panicked _, _, k => k
  | .outgrown, _, k => k
theorem qmf.mono {G G' : Value → World → Prop} (h : ∀ v w, G v w → G' v w) {r : Result Next} (k : qmf P G r) : qmf P G' r := by
  cases r with
  | ok nx w =>
    cases nx <;> simp only [qmf] at k ⊢
    · exact h _ _ k
    · exact h _ _ k
    · exact CallsIn.mono k (q54.mono h)
    · exact RoundIn.mono k (q54.mono h)
  | halt _ _ => exact k
theorem qop.next {res : Result Next} (h : qop P Γ w res av σ') : qmf P (Got P Γ w av σ') res := by
  obtain ⟨nx, v, w', Γ', rfl, h2 | h2, h3, h4, h5⟩ := h
  · subst h2; exact ⟨Γ', h3, h4, h5⟩
  · obtain ⟨rfl, rfl⟩ := h2; exact ⟨Γ', h3, h4, h5⟩
def qpa (P : Program) (O : Orc) : Prop := ∀ k args σ r σ', O.call k args σ = some (r, σ') → ∀ Γ w vs, SR P Γ σ w → VRs Γ w args vs → qmf P (Got P Γ w r σ') ((callFunc k vs.toArray).run P w)
def qnu (P : Program) (O : Orc) : Prop := ∀ l args σ r σ', O.round l args σ = some (r, σ') → ∀ Γ w b vs, SR P Γ σ w → VRs Γ w args vs → l < Γ.n → ((Γ.loc l).g = 0 → b = (Γ.loc l).b) → qmf P (Got P Γ w r σ') ((Instr.yield b vs.toArray).run P w)
theorem qi6 {α β : Type} {f : α → Option β} : ∀ {as : List α} {bs : List β}, qgb f as = some bs → bs.length = as.length
  | [], bs, h => by simp only [qgb] at h; cases h; rfl
  | a :: as, bs, h => by
    simp only [qgb, Option.bind_eq_some_iff] at h
    obtain ⟨b, _, bs', h2, h⟩ := h
    cases h
    simp [qi6 h2]
theorem qv9 {α β : Type} {f : α → Option β} : ∀ {as as' : List α} {bs bs' : List β}, qgb f as = some bs → qgb f as' = some bs' → qgb f (as ++ as') = some (bs ++ bs')
  | [], as', bs, bs', h, k => by simp only [qgb] at h; cases h; exact k
  | a :: as, as', bs, bs', h, k => by
    simp only [qgb, Option.bind_eq_some_iff] at h
    obtain ⟨b, h1, bs1, h2, h⟩ := h
    cases h
    simp only [List.cons_append, qgb, h1, qv9 h2 k, Option.bind_some]
theorem qvz {α β : Type} {f : α → Option β} : ∀ {as : List α} {bs : List β}, qgb f as = some bs → ∀ {i : Nat} {a : α}, as[i]? = some a → ∃ b, bs[i]? = some b ∧ f a = some b
  | [], bs, h, i, a, hi => by simp at hi
  | x :: as, bs, h, i, a, hi => by
    simp only [qgb, Option.bind_eq_some_iff] at h
    obtain ⟨b, h1, bs1, h2, h⟩ := h
    cases h
    cases i with
    | zero => simp at hi; subst hi; exact ⟨b, by simp, h1⟩
    | succ i => simpa using qvz h2 (i := i) (a := a) (by simpa using hi)
theorem qsw {f : AV → Option AV} : ∀ {es fs : List (List AV)}, qgb (qgb f) es = some fs → qgb f es.flatten = some fs.flatten
  | [], fs, h => by simp only [qgb] at h; cases h; rfl
  | x :: es, fs, h => by
    simp only [qgb, Option.bind_eq_some_iff] at h
    obtain ⟨b, h1, bs1, h2, h⟩ := h
    cases h
    simp only [List.flatten_cons]
    exact qv9 h1 (qsw h2)
theorem qn9 {f : AV → Option AV} {sz : Nat} : ∀ {es fs : List (List AV)}, qgb (qgb f) es = some fs → (∀ e ∈ es, e.length = sz) → ∀ e ∈ fs, e.length = sz
  | [], fs, h, _ => by simp only [qgb] at h; cases h; simp
  | x :: es, fs, h, k => by
    simp only [qgb, Option.bind_eq_some_iff] at h
    obtain ⟨b, h1, bs1, h2, h⟩ := h
    cases h
    intro y hy
    rcases List.mem_cons.1 hy with rfl | hy
    · rw [qi6 h1]; exact k x (by simp)
    · exact qn9 h2 (tl k) y hy
theorem qqj {f : AV → Option AV} (hf : ∀ a v r, f a = some r → VR Γ w a v → VR Γ' w r v) : ∀ {as bs : List AV} {vs : List Value}, qgb f as = some bs → VRs Γ w as vs → VRs Γ' w bs vs
  | [], bs, vs, h, k => by simp only [qgb] at h; cases h; simpa only [VRs] using k
  | x :: as, bs, vs, h, k => by
    simp only [qgb, Option.bind_eq_some_iff] at h
    obtain ⟨b, h1, bs1, h2, h⟩ := h
    cases h
    simp only [VRs] at k ⊢
    obtain ⟨u, us, rfl, h3, h4⟩ := k
    exact ⟨u, us, rfl, hf _ _ _ h1 h3, qqj hf h2 h4⟩
theorem qk3 {f : AV → Option AV} (hf : ∀ a v r, f a = some r → VR Γ w a v → VR Γ' w r v) {as bs : List AV} {get : Nat → Option Value} (h : qgb f as = some bs) (k : qy Γ w as get) : qy Γ' w bs get := by
  obtain ⟨vs, h1, h2⟩ := k.list
  exact qy.of_list (qqj hf h h1) h2
theorem frz_ok (s : SR P Γ σ w) (hc : ∀ b, Γ'.own b ∨ Γ'.far b → Γ.far b ∧ ¬ Γ.own b) : ∀ d a v r, frz σ d a = some r → VR Γ w a v → VR Γ' w r v := by
  have low : ∀ a v, a.lo 0 = true → VR Γ w a v → VR Γ' w a v := fun a v hl hv => VR.weaken (fun b hb => .inr (hc b hb).1) 0 (Nat.zero_le _) (fun o ho => absurd ho (Nat.not_lt_zero _)) a v hl hv
  have okb : ∀ b, Γ.okB w b → Γ'.okB w b := fun b hb => ⟨hb.1, fun h => hb.2.2 (hc b (.inl h)).1, fun h => hb.2.2 (hc b (.inr h)).1⟩
  have own : ∀ b, Γ.own b → Γ'.okB w b := fun b hb => ⟨s.ownlt b hb, fun h => (hc b (.inl h)).2 hb, fun h => (hc b (.inr h)).2 hb⟩
  intro d
  induction d with
  | zero =>
    intro a v r h hv
    simp only [frz] at h
    split at h
    · cases h; exact low _ _ ‹_› hv
    · cases h
  | succ d ih =>
    intro a v r h hv
    simp only [frz] at h
    split at h
    · cases h; exact low _ _ ‹_› hv
    · cases a with
      | v x => cases h; simpa only [VR] using hv
      | agg cs =>
        simp only [Option.bind_eq_some_iff] at h
        obtain ⟨cs', h1, h⟩ := h
        cases h
        simp only [VR] at hv ⊢
        obtain ⟨vs, rfl, h2⟩ := hv
        exact ⟨vs, rfl, qqj ih h1 h2⟩
      | tup cs =>
        simp only [Option.bind_eq_some_iff] at h
        obtain ⟨cs', h1, h⟩ := h
        cases h
        simp only [VR] at hv ⊢
        obtain ⟨vs, rfl, h2⟩ := hv
        exact ⟨vs, rfl, qqj ih h1 h2⟩
      | fsl es c =>
        simp only [Option.bind_eq_some_iff] at h
        obtain ⟨es', h1, h⟩ := h
        cases h
        simp only [VR] at hv ⊢
        obtain ⟨A, c', rfl, h2, h3, h4⟩ := hv
        have hl := qi6 h1
        refine ⟨A, c', by rw [hl], by omega, fun hx => by rw [h3 hx, hl], ?_⟩
        rcases h4 with h4 | ⟨b, off, sz, rfl, h5, h6, h7, h8⟩
        · subst h4; exact .inl (List.eq_nil_of_length_eq_zero (by simpa using hl))
        · exact .inr ⟨b, off, sz, rfl, okb b h5, h6, qn9 h1 h7, (qj8 (qn9 h1 h7)).2 (qk3 ih (qsw h1) ((qj8 h7).1 h8))⟩
      | fptr cs =>
        simp only [Option.bind_eq_some_iff] at h
        obtain ⟨cs', h1, h⟩ := h
        cases h
        simp only [VR] at hv ⊢
        obtain ⟨b, off, rfl, h5, h6⟩ := hv
        exact ⟨b, off, rfl, okb b h5, qk3 ih h1 h6⟩
      | sl o g off len c =>
        simp only at h
        split at h
        · rename_i sz es g' ho
          split at h
          · rename_i hg
            obtain ⟨rfl, hle⟩ := hg
            rw [Option.bind_eq_some_iff] at h
            obtain ⟨es', h1, h⟩ := h
            cases h
            have hO := s.obj o _ ho
            simp only [OR] at hO
            have hn : ((es.drop off).take len).length = len := by simp; omega
            have hl := (qi6 h1).trans hn
            by_cases hpos : 0 < len
            · obtain ⟨cap, h2, h3, _, h4, h5⟩ := qqx s hv ho hle hpos
              have hlens : ∀ x ∈ (es.drop off).take len, x.length = sz := fun x hx => hO.2.2.2.2.1 x (List.mem_of_mem_drop (List.mem_of_mem_take hx))
              simp only [VR]
              refine ⟨_, cap, by rw [h2, hl], by omega, fun hx => (by cases hx), .inr ⟨_, _, sz, rfl, own _ (s.blk o (by rw [← s.len]; exact (List.getElem?_eq_some_iff.1 ho).1) (by omega)), hO.2.2.1, qn9 h1 hlens,
                (qj8 (qn9 h1 hlens)).2 (qk3 ih (qsw h1) h5)⟩⟩
            · obtain rfl : len = 0 := by omega
              have : es' = [] := List.eq_nil_of_length_eq_zero hl
              subst this
              simp only [VR] at hv ⊢
              obtain ⟨A, cap, rfl, _⟩ := hv
              exact ⟨A, cap, rfl, by simp, fun hx => (by cases hx), .inl trivial⟩
          · cases h
        · cases h
      | ptr o g i off =>
        simp only at h
        split at h
        · rename_i sz es g' ho
          split at h
          · rename_i hg
            subst hg
            rw [Option.bind_eq_some_iff] at h
            obtain ⟨c, hi, h⟩ := h
            rw [Option.bind_eq_some_iff] at h
            obtain ⟨cs', h1, h⟩ := h
            cases h
            have hcs : qf σ (.ptr o g i off) = some (c.drop off) := by simp [qf, ho, hi]
            have hO := s.obj o _ ho
            simp only [OR] at hO
            have hlt := (List.getElem?_eq_some_iff.1 hi).1
            have hct : (Γ.loc o).ct ≠ 0 := by omega
            obtain ⟨b, off', h2, h3⟩ := qte s hv hcs
            have hb : b = (Γ.loc o).b := by
              simp only [VR] at hv
              obtain ⟨p, rfl, _, _, h4⟩ := hv
              have := h4 hO.1
              rw [this] at h2
              cases h2; rfl
            subst hb
            simp only [VR]
            exact ⟨_, off', h2, own _ (s.blk o (by rw [← s.len]; exact (List.getElem?_eq_some_iff.1 ho).1) hct), qk3 ih h1 h3⟩
          · cases h
        · cases h
      | fn f first cap =>
        simp only [Option.bind_eq_some_iff] at h
        obtain ⟨as, h1, bs, h2, h⟩ := h
        cases h
        simp only [VR] at hv ⊢
        obtain ⟨fs, cs, rfl, h3, h4⟩ := hv
        exact ⟨fs, cs, rfl, qqj ih h1 h3, qqj ih h2 h4⟩
      | yld o => cases h
      | mp o => cases h
def Ctx.far0 (Γ : Ctx) : Ctx := { n := 0, loc := Γ.loc, own := fun _ => False, far := fun b => Γ.own b ∨ Γ.far b }
theorem SR.far0 (s : SR P Γ σ w) : SR P Γ.far0 [] w where
  len := rfl
  obj o ob h := by simp at h
  blk o h := absurd h (Nat.not_lt_zero _)
  inj o o' h := absurd h (Nat.not_lt_zero _)
  ownlt b h := h.elim
  farlt b h := h.elim (s.ownlt b) (s.farlt b)
  sep b h := h.elim
theorem VRs.far0 {as : List AV} {vs : List Value} (hl : los 0 as = true) (h : VRs Γ w as vs) : VRs Γ.far0 w as vs :=
  VRs.weaken (Γ := Γ) (Γ' := Γ.far0) (fun b hb => hb.elim (fun h => False.elim h) id) 0 (Nat.zero_le _) (fun o ho => absurd ho (Nat.not_lt_zero _)) as vs hl h
theorem Got.frozen {r r' : AV} {τ : qq} {v : Value} (s : SR P Γ σ w) (h : Got P Γ.far0 w r τ v w') (hf : frz τ 6 r = some r') : Got P Γ w r' σ v w' := by
  obtain ⟨Γ1, h1, h2, h3⟩ := h
  have hsame : ∀ b, b < w.heap.size → w'.heap[b]? = w.heap[b]? := fun b hb => h3.same b hb id
  have hown : ∀ b, Γ1.own b → w.heap.size ≤ b := fun b hb => (h3.own b hb).resolve_left id
  have hext : Ext Γ Γ w w' := ⟨Nat.le_refl _, h3.size, fun b hb _ => hsame b hb, fun _ h => .inl h, rfl, fun _ _ => .inl rfl, h3.os, h3.tape, h3.output⟩
  refine ⟨Γ, frz_ok h2 (fun b hb => ⟨by rw [h3.far]; exact hb, fun ho => ?_⟩) _ _ _ _ hf h1, ?_, hext⟩
  · have := hown b ho
    have := hb.elim (s.ownlt b) (s.farlt b)
    omega
  · exact ⟨s.len, fun o ob ho => (s.obj o ob ho).mono hext rfl fun hc => hsame _ (s.ownlt _ (s.blk o (by rw [← s.len]; exact (List.getElem?_eq_some_iff.1 ho).1) hc)), s.blk, s.inj,
      fun b hb => Nat.lt_of_lt_of_le (s.ownlt b hb) h3.size, fun b hb => Nat.lt_of_lt_of_le (s.farlt b hb) h3.size, s.sep⟩
mutual
theorem VR.low : ∀ (a : AV) (y : Value), VR Γ w a y → a.lo Γ.n = true
  | .v x, y, _ => rfl
  | .agg cs, y, h => by
    simp only [VR] at h
    obtain ⟨vs, _, h⟩ := h
    simp only [AV.lo]; exact VRs.low cs vs h
  | .tup cs, y, h => by
    simp only [VR] at h
    obtain ⟨vs, _, h⟩ := h
    simp only [AV.lo]; exact VRs.low cs vs h
  | .fsl es c, y, h => by
    simp only [VR] at h
    obtain ⟨A, c', _, _, _, h⟩ := h
    simp only [AV.lo]
    rcases h with rfl | ⟨b, off, sz, _, _, _, _, h⟩
    · rfl
    · exact qev.low sz es _ h
  | .fptr cs, y, h => by
    simp only [VR] at h
    obtain ⟨b, off, _, _, h⟩ := h
    simp only [AV.lo]; exact qy.low cs _ h
  | .sl o g off len c, y, h => by
    simp only [VR] at h
    obtain ⟨A, c', _, _, _, h, _⟩ := h
    simpa only [AV.lo, decide_eq_true_eq] using h
  | .ptr o g i off, y, h => by
    simp only [VR] at h
    obtain ⟨p, _, h, _⟩ := h
    simpa only [AV.lo, decide_eq_true_eq] using h
  | .fn f first cap, y, h => by
    simp only [VR] at h
    obtain ⟨fs, cs, _, h1, h2⟩ := h
    simp only [AV.lo, Bool.and_eq_true]; exact ⟨VRs.low first fs h1, VRs.low cap cs h2⟩
  | .yld o, y, h => by
    simp only [VR] at h
    obtain ⟨l, _, h, _⟩ := h
    simpa only [AV.lo, decide_eq_true_eq] using h
  | .mp o, y, h => by
    simp only [VR] at h
    obtain ⟨l, _, h, _⟩ := h
    simpa only [AV.lo, decide_eq_true_eq] using h
theorem VRs.low : ∀ (as : List AV) (ys : List Value), VRs Γ w as ys → los Γ.n as = true
  | [], _, _ => rfl
  | a :: as, ys, h => by
    simp only [VRs] at h
    obtain ⟨u, us, rfl, h1, h2⟩ := h
    simp only [los, Bool.and_eq_true]; exact ⟨VR.low a u h1, VRs.low as us h2⟩
theorem qy.low : ∀ (as : List AV) (get : Nat → Option Value), qy Γ w as get → los Γ.n as = true
  | [], _, _ => rfl
  | a :: as, get, h => by
    simp only [qy] at h
    obtain ⟨⟨u, _, h1⟩, h2⟩ := h
    simp only [los, Bool.and_eq_true]; exact ⟨VR.low a u h1, qy.low as _ h2⟩
theorem qev.low (sz : Nat) : ∀ (es : List (List AV)) (get : Nat → Option Value), qev Γ w sz es get → qiz Γ.n es = true
  | [], _, _ => rfl
  | e :: es, get, h => by
    simp only [qev] at h
    simp only [qiz, Bool.and_eq_true]; exact ⟨qy.low e _ h.1, qev.low sz es _ h.2⟩
end
theorem qy.imp (hv : ∀ a y, VR Γ w a y → VR Γ' w a y) : ∀ {as : List AV} {get : Nat → Option Value}, qy Γ w as get → qy Γ' w as get
  | [], _, _ => by simp only [qy]
  | a :: as, get, h => by
    simp only [qy] at h ⊢
    obtain ⟨⟨u, h1, h2⟩, h3⟩ := h
    exact ⟨⟨u, h1, hv _ _ h2⟩, qy.imp hv h3⟩
theorem OR.imp {o : Nat} {ob : SObj} (hv : ∀ a y, VR Γ w a y → VR Γ' w a y) (hl : Γ'.loc o = Γ.loc o) (h : OR P Γ w o ob) : OR P Γ' w o ob := by
  cases ob with
  | row sz es g =>
    simp only [OR] at h ⊢
    rw [hl]
    obtain ⟨h1, h2, h3, h4, h5, h6⟩ := h
    refine ⟨h1, h2, h3, h4, h5, h6.imp id ?_⟩
    rintro ⟨arr, et, h7, h8, h9⟩
    exact ⟨arr, et, h7, h8, qy.imp hv h9⟩
  | loop env ps as body st pend =>
    simp only [OR] at h ⊢
    rw [hl]
    obtain ⟨h1, h2, r, h3, h4, h5, h6, h7, h8, h9, h10⟩ := h
    exact ⟨h1, h2, r, h3, h4, h5, h6, h7, h8, fun t a ht => hv _ _ (h9 t a ht), h10⟩
  | defr => simp only [OR] at h ⊢; rw [hl]; exact h
  | dead => trivial
  | mp k es =>
    simp only [OR] at h ⊢
    rw [hl]
    obtain ⟨h1, h2, arr, clock, h3, h4⟩ := h
    exact ⟨h1, h2, arr, clock, h3, h4.imp fun a y _ hy => hv a y hy⟩
  | hole => simp only [OR] at h ⊢; rw [hl]; exact h
def Ctx.mid (Γ : Ctx) (o : Nat) : Ctx := { n := Γ.n, loc := Γ.loc, own := fun b => Γ.own b ∧ ((Γ.loc o).ct ≠ 0 → b ≠ (Γ.loc o).b), far := fun b => Γ.far b ∨ ((Γ.loc o).ct ≠ 0 ∧ b = (Γ.loc o).b) }
def Ctx.hide (Γ : Ctx) (o : Nat) : Ctx := { n := Γ.n, loc := fun o' => if o' = o then ⟨(Γ.loc o).g + 1, 0, (Γ.loc o).sz, 0⟩ else Γ.loc o', own := (Γ.mid o).own, far := (Γ.mid o).far }
theorem VR.hide (s : SR P Γ σ w) {o : Nat} (ho : o < Γ.n) : ∀ a y, VR Γ w a y → VR (Γ.hide o) w a y := by
  intro a y h
  have h1 : VR (Γ.mid o) w a y := VR.weaken (Γ := Γ) (Γ' := Γ.mid o) (fun b hb => by
    rcases hb with hb | hb | ⟨hc, rfl⟩
    · exact .inl hb.1
    · exact .inr hb
    · exact .inl (s.blk o ho hc)) Γ.n (Nat.le_refl _) (fun _ _ => rfl) a y (VR.low a y h) h
  refine VR.mono (Γ := Γ.mid o) (Γ' := Γ.hide o) (w := w) (w' := w) ⟨Nat.le_refl _, Nat.le_refl _, fun _ _ _ => rfl, fun b hb => .inl hb, rfl, fun o' _ => ?_, rfl, rfl, rfl⟩ a y h1
  by_cases he : o' = o
  · subst he; right; simp [Ctx.hide, Ctx.mid]
  · left; simp [Ctx.hide, Ctx.mid, he]
theorem SR.hide (s : SR P Γ σ w) {o : Nat} (ho : o < Γ.n) : SR P (Γ.hide o) (σ.set o .dead) w where
  len := by simp [Ctx.hide, s.len]
  obj o' ob hob := by
    rw [List.getElem?_set] at hob
    by_cases he : o = o'
    · subst he
      rw [if_pos rfl, if_pos (by rw [s.len]; exact ho)] at hob
      cases hob
      trivial
    · rw [if_neg he] at hob
      exact (s.obj o' ob hob).imp (VR.hide s ho) (by simp [Ctx.hide, Ne.symm he])
  blk o' ho' hc := by
    by_cases he : o' = o
    · subst he; simp [Ctx.hide] at hc
    · have hl : (Γ.hide o).loc o' = Γ.loc o' := by simp [Ctx.hide, he]
      rw [hl] at hc ⊢
      exact ⟨s.blk o' ho' hc, fun h2 hb => he (s.inj o' o ho' ho hc h2 hb)⟩
  inj o1 o2 h1 h2 c1 c2 hb := by
    by_cases e1 : o1 = o
    · subst e1; simp [Ctx.hide] at c1
    · by_cases e2 : o2 = o
      · subst e2; simp [Ctx.hide] at c2
      · have l1 : (Γ.hide o).loc o1 = Γ.loc o1 := by simp [Ctx.hide, e1]
        have l2 : (Γ.hide o).loc o2 = Γ.loc o2 := by simp [Ctx.hide, e2]
        rw [l1] at c1 hb; rw [l2] at c2 hb
        exact s.inj o1 o2 h1 h2 c1 c2 hb
  ownlt b hb := s.ownlt b hb.1
  farlt b hb := by
    rcases hb with hb | ⟨hc, rfl⟩
    · exact s.farlt b hb
    · exact s.ownlt _ (s.blk o ho hc)
  sep b hb hf := by
    rcases hf with hf | ⟨hc, rfl⟩
    · exact s.sep b hb.1 hf
    · exact hb.2 hc rfl
theorem Got.filled {o g len sz pos : Nat} {cl : Bool} {τ : qq} {es es' : List (List AV)} {v : Value} (s : SR P Γ σ w) (h : Got P Γ.far0 w (.sl o g 0 len cl) τ v w') (ho : τ[o]? = some (.row sz es g))
    (hf : qgb (qgb (frz (τ.set o .dead) 5)) es = some es') (hp : σ[pos]? = some .hole) : Got P Γ w (.sl pos 1 0 len cl) (σ.set pos (.row sz es' 1)) v w' := by
  obtain ⟨Γ1, h1, h2, h3⟩ := h
  have hsame : ∀ b, b < w.heap.size → w'.heap[b]? = w.heap[b]? := fun b hb => h3.same b hb id
  have hown : ∀ b, Γ1.own b → w.heap.size ≤ b := fun b hb => (h3.own b hb).resolve_left id
  have hfar : Γ1.far = fun b => Γ.own b ∨ Γ.far b := h3.far
  have hn1 : o < Γ1.n := by rw [← h2.len]; exact (List.getElem?_eq_some_iff.1 ho).1
  have hO := h2.obj o _ ho
  simp only [OR] at hO
  obtain ⟨k1, k2, k3, k4, k5, k6⟩ := hO
  have hn : pos < Γ.n := by rw [← s.len]; exact (List.getElem?_eq_some_iff.1 hp).1
  have hconv := frz_ok (Γ' := Γ.upd pos ⟨1, (Γ1.loc o).b, sz, (Γ1.loc o).ct⟩) (h2.hide hn1) (fun b hb => by
    rcases hb with (hb | ⟨hc, rfl⟩) | hb
    · exact ⟨.inl (by rw [hfar]; exact .inl hb), fun hx => by have := hown b hx.1; have := s.ownlt b hb; omega⟩
    · exact ⟨.inr ⟨hc, rfl⟩, fun hx => hx.2 hc rfl⟩
    · exact ⟨.inl (by rw [hfar]; exact .inr hb), fun hx => by have := hown b hx.1; have := s.farlt b hb; omega⟩)
  obtain ⟨q1, q2⟩ := q33 (P := P) (w' := w') s hp h3.size hsame h3.os h3.tape h3.output (Γ1.loc o).b sz (Γ1.loc o).ct (fun hc => ⟨hown _ (h2.blk o hn1 hc), h2.ownlt _ (h2.blk o hn1 hc)⟩) es' (by
    simp only [OR, Ctx.upd_same]
    refine ⟨trivial, trivial, k3, by rw [qi6 hf]; exact k4, qn9 hf k5, k6.imp id ?_⟩
    rintro ⟨arr, et, h7, h8, h9⟩
    exact ⟨arr, et, h7, h8, qk3 (fun a v r => hconv 5 a v r) (qsw hf) (qy.imp (VR.hide h2 hn1) h9)⟩)
  refine ⟨_, ?_, q1, q2⟩
  simp only [VR] at h1 ⊢
  obtain ⟨A, c, rfl, a1, a2, _, _, a3⟩ := h1
  obtain ⟨a4, a5⟩ := a3 k1
  rw [Ctx.upd_same]
  refine ⟨A, c, rfl, a1, a2, hn, Nat.le_refl _, fun _ => ⟨a4, ?_⟩⟩
  rw [k2] at a5
  exact a5
theorem qzd {d : Nat} : ∀ (as : List AV), (qjl d as).length = as.length
  | [] => rfl
  | a :: as => by simp only [qjl, List.length_cons, qzd as]
theorem qrk {d : Nat} : ∀ (es : List (List AV)), (qj1 d es).length = es.length
  | [] => rfl
  | a :: as => by simp only [qj1, List.length_cons, qrk as]
theorem qpv {d sz : Nat} : ∀ (es : List (List AV)), (∀ e ∈ es, e.length = sz) → ∀ e ∈ qj1 d es, e.length = sz
  | [], _ => by simp [qj1]
  | a :: as, h => by
    intro y hy
    rcases List.mem_cons.1 hy with rfl | hy
    · rw [qzd]; exact h a (by simp)
    · exact qpv as (tl h) y hy
theorem qsm {d : Nat} : ∀ (as bs : List AV), qjl d (as ++ bs) = qjl d as ++ qjl d bs
  | [], _ => rfl
  | a :: as, bs => by simp only [List.cons_append, qjl, qsm as bs]
theorem qux {d : Nat} : ∀ (es : List (List AV)), (qj1 d es).flatten = qjl d es.flatten
  | [] => rfl
  | a :: as => by simp only [qj1, List.flatten_cons, qsm, qux as]
section shift
variable {d : Nat} (hb : ∀ b, Γ.okB w b → Γ'.okB w b) (hn : Γ.n + d ≤ Γ'.n) (hloc : ∀ o, o < Γ.n → Γ'.loc (o + d) = Γ.loc o)
include hb hn hloc
mutual
theorem VR.shifted : ∀ (a : AV) (y : Value), VR Γ w a y → VR Γ' w (a.shift d) y
  | .v x, y, hy => by simpa only [VR, AV.shift] using hy
  | .agg cs, y, hy => by
    simp only [VR, AV.shift] at hy ⊢
    obtain ⟨vs, rfl, h2⟩ := hy
    exact ⟨vs, rfl, VRs.shifted cs vs h2⟩
  | .tup cs, y, hy => by
    simp only [VR, AV.shift] at hy ⊢
    obtain ⟨vs, rfl, h2⟩ := hy
    exact ⟨vs, rfl, VRs.shifted cs vs h2⟩
  | .fsl es clip, y, hy => by
    simp only [VR, AV.shift] at hy ⊢
    obtain ⟨A, c, rfl, h1, h2, h3⟩ := hy
    have hl := qrk (d := d) es
    refine ⟨A, c, by rw [hl], by omega, fun h => by rw [h2 h, hl], ?_⟩
    rcases h3 with h3 | ⟨b, off, sz, h4, h5, h6, h7, h8⟩
    · subst h3; exact .inl rfl
    · exact .inr ⟨b, off, sz, h4, hb b h5, h6, qpv es h7, qev.shifted sz es _ h8⟩
  | .fptr cs, y, hy => by
    simp only [VR, AV.shift] at hy ⊢
    obtain ⟨b, off, rfl, h5, h6⟩ := hy
    exact ⟨b, off, rfl, hb b h5, qy.shifted cs _ h6⟩
  | .sl o g off len clip, y, hy => by
    simp only [VR, AV.shift] at hy ⊢
    obtain ⟨A, c, rfl, h5, h6, h1, h2, h3⟩ := hy
    rw [hloc o h1]
    exact ⟨A, c, rfl, h5, h6, by omega, h2, h3⟩
  | .ptr o g i off, y, hy => by
    simp only [VR, AV.shift] at hy ⊢
    obtain ⟨p, rfl, h1, h2, h3⟩ := hy
    rw [hloc o h1]
    exact ⟨p, rfl, by omega, h2, h3⟩
  | .fn f first cap, y, hy => by
    simp only [VR, AV.shift] at hy ⊢
    obtain ⟨fs, cs, rfl, h1, h2⟩ := hy
    exact ⟨fs, cs, rfl, VRs.shifted first fs h1, VRs.shifted cap cs h2⟩
  | .yld o, y, hy => by
    simp only [VR, AV.shift] at hy ⊢
    obtain ⟨l, rfl, h1, h3⟩ := hy
    rw [hloc o h1]
    exact ⟨l, rfl, by omega, h3⟩
  | .mp o, y, hy => by
    simp only [VR, AV.shift] at hy ⊢
    obtain ⟨l, rfl, h1, h3⟩ := hy
    rw [hloc o h1]
    exact ⟨l, rfl, by omega, h3⟩
theorem VRs.shifted : ∀ (as : List AV) (ys : List Value), VRs Γ w as ys → VRs Γ' w (qjl d as) ys
  | [], ys, hy => by simpa only [VRs, qjl] using hy
  | a :: as, ys, hy => by
    simp only [VRs, qjl] at hy ⊢
    obtain ⟨u, us, rfl, h1, h2⟩ := hy
    exact ⟨u, us, rfl, VR.shifted a u h1, VRs.shifted as us h2⟩
theorem qy.shifted : ∀ (as : List AV) (get : Nat → Option Value), qy Γ w as get → qy Γ' w (qjl d as) get
  | [], _, _ => by simp only [qy, qjl]
  | a :: as, get, hy => by
    simp only [qy, qjl] at hy ⊢
    obtain ⟨⟨u, h1, h2⟩, h3⟩ := hy
    exact ⟨⟨u, h1, VR.shifted a u h2⟩, qy.shifted as _ h3⟩
theorem qev.shifted (sz : Nat) : ∀ (es : List (List AV)) (get : Nat → Option Value), qev Γ w sz es get → qev Γ' w sz (qj1 d es) get
  | [], _, _ => by simp only [qev, qj1]
  | e :: es, get, hy => by
    simp only [qev, qj1] at hy ⊢
    exact ⟨qy.shifted e _ hy.1, qev.shifted sz es _ hy.2⟩
end
end shift
def Ctx.join (Γ Γ1 : Ctx) : Ctx := { n := Γ.n + Γ1.n, loc := fun o => if o < Γ.n then Γ.loc o else Γ1.loc (o - Γ.n), own := fun b => Γ.own b ∨ Γ1.own b, far := Γ.far }
theorem Ctx.join_old (Γ Γ1 : Ctx) {o : Nat} (h : o < Γ.n) : (Γ.join Γ1).loc o = Γ.loc o := by simp [Ctx.join, h]
theorem Ctx.join_new (Γ Γ1 : Ctx) (o : Nat) : (Γ.join Γ1).loc (o + Γ.n) = Γ1.loc o := by
  simp only [Ctx.join]
  rw [if_neg (by omega), Nat.add_sub_cancel]
theorem Got.taken {r : AV} {τ τ' : qq} {v : Value} (s : SR P Γ σ w) (h : Got P Γ.far0 w r τ v w') {f : SObj → Option SObj}
    (hf : ∀ o o', f o = some o' → (∃ sz es g, o = .row sz es g ∧ o' = .row sz (qj1 σ.length es) g) ∨ ∃ k es, o = .mp k es ∧ o' = .mp k es) (ht : qgb f τ = some τ') : Got P Γ w (r.shift σ.length) (σ ++ τ') v w' := by
  obtain ⟨Γ1, h1, h2, h3⟩ := h
  have hsame : ∀ b, b < w.heap.size → w'.heap[b]? = w.heap[b]? := fun b hb => h3.same b hb id
  have hown : ∀ b, Γ1.own b → w.heap.size ≤ b := fun b hb => (h3.own b hb).resolve_left id
  have hfar : Γ1.far = fun b => Γ.own b ∨ Γ.far b := h3.far
  have hlen : τ'.length = Γ1.n := (qi6 ht).trans h2.len
  have hext : Ext Γ (Γ.join Γ1) w w' := ⟨Nat.le_add_right _ _, h3.size, fun b hb _ => hsame b hb, fun b hb => hb.imp id (hown b), rfl, fun o ho => .inl (Γ.join_old Γ1 ho), h3.os, h3.tape, h3.output⟩
  have okb : ∀ b, Γ1.okB w' b → (Γ.join Γ1).okB w' b := fun b hb => by
    obtain ⟨k1, k2, k3⟩ := hb
    rw [hfar] at k3
    exact ⟨k1, fun h => h.elim (fun h => k3 (.inl h)) k2, fun h => k3 (.inr h)⟩
  have hn : Γ1.n + Γ.n ≤ (Γ.join Γ1).n := by simp [Ctx.join]; omega
  have hloc : ∀ o, o < Γ1.n → (Γ.join Γ1).loc (o + Γ.n) = Γ1.loc o := fun o _ => Γ.join_new Γ1 o
  refine ⟨Γ.join Γ1, ?_, ?_, hext⟩
  · rw [s.len]; exact VR.shifted okb hn hloc _ _ h1
  · refine ⟨by simp [Ctx.join, s.len, hlen], fun o ob ho => ?_, fun o ho hc => ?_, fun o o' ho ho' hc hc' hb => ?_, fun b hb => hb.elim (fun h => Nat.lt_of_lt_of_le (s.ownlt b h) h3.size) (h2.ownlt b), fun b hb => Nat.lt_of_lt_of_le (s.farlt b hb) h3.size, fun b hb hf => hb.elim (fun h => s.sep b h hf) fun h => h2.sep b h (by rw [hfar]; exact .inr hf)⟩
    · rcases Nat.lt_or_ge o σ.length with hlt | hge
      · rw [List.getElem?_append_left hlt] at ho
        have hn' : o < Γ.n := by rw [← s.len]; exact hlt
        exact (s.obj o ob ho).mono hext (Γ.join_old Γ1 hn') fun hc => hsame _ (s.ownlt _ (s.blk o hn' hc))
      · rw [List.getElem?_append_right hge] at ho
        have hlt := (List.getElem?_eq_some_iff.1 ho).1
        obtain ⟨ob1, hob1⟩ : ∃ ob1, τ[o - σ.length]? = some ob1 := ⟨_, List.getElem?_eq_getElem (by rw [← qi6 ht]; exact hlt)⟩
        obtain ⟨ob2, h4, h5⟩ := qvz ht hob1
        rw [ho] at h4; cases h4
        have hO := h2.obj _ _ hob1
        have hL : (Γ.join Γ1).loc o = Γ1.loc (o - σ.length) := by
          have := Γ.join_new Γ1 (o - σ.length)
          rw [← s.len, Nat.sub_add_cancel hge] at this
          exact this
        rcases hf _ _ h5 with ⟨sz, es, g, rfl, rfl⟩ | ⟨k, es, rfl, rfl⟩
        case inr =>
          simp only [OR] at hO ⊢
          rw [hL]
          obtain ⟨k1, k2, arr, clock, k3, k4⟩ := hO
          exact ⟨k1, k2, arr, clock, k3, k4.imp fun a y hl hy => VR.weaken (Γ := Γ1) (Γ' := Γ.join Γ1) (fun b hb => by rw [hfar]; rcases hb with (h | h) | h; exact .inr (.inl h); exact .inl h; exact .inr (.inr h)) 0 (Nat.zero_le _) (fun o ho => absurd ho (Nat.not_lt_zero _)) a y hl hy⟩
        simp only [OR] at hO ⊢
        rw [hL]
        obtain ⟨k1, k2, k3, k4, k5, k6⟩ := hO
        refine ⟨k1, k2, k3, by rw [qrk]; exact k4, qpv es k5, k6.imp id ?_⟩
        rintro ⟨arr, et, k7, k8, k9⟩
        refine ⟨arr, et, k7, k8, ?_⟩
        rw [qux, s.len]
        exact qy.shifted okb hn hloc _ _ k9
    · by_cases hlt : o < Γ.n
      · rw [Γ.join_old Γ1 hlt] at hc ⊢; exact .inl (s.blk o hlt hc)
      · have hL : (Γ.join Γ1).loc o = Γ1.loc (o - Γ.n) := by simp [Ctx.join, hlt]
        rw [hL] at hc ⊢
        refine .inr (h2.blk _ ?_ hc)
        simp only [Ctx.join] at ho; omega
    · have hL : ∀ o, ¬ o < Γ.n → (Γ.join Γ1).loc o = Γ1.loc (o - Γ.n) := fun o h => by simp [Ctx.join, h]
      simp only [show (Γ.join Γ1).n = Γ.n + Γ1.n from rfl] at ho ho'
      by_cases e1 : o < Γ.n <;> by_cases e2 : o' < Γ.n
      · rw [Γ.join_old Γ1 e1] at hc hb; rw [Γ.join_old Γ1 e2] at hc' hb
        exact s.inj o o' e1 e2 hc hc' hb
      · rw [Γ.join_old Γ1 e1] at hc hb; rw [hL _ e2] at hc' hb
        have := s.ownlt _ (s.blk o e1 hc)
        have := hown _ (h2.blk (o' - Γ.n) (by omega) hc')
        omega
      · rw [hL _ e1] at hc hb; rw [Γ.join_old Γ1 e2] at hc' hb
        have := s.ownlt _ (s.blk o' e2 hc')
        have := hown _ (h2.blk (o - Γ.n) (by omega) hc)
        omega
      · rw [hL _ e1] at hc hb; rw [hL _ e2] at hc' hb
        have := h2.inj (o - Γ.n) (o' - Γ.n) (by omega) (by omega) hc hc' hb
        omega
theorem valEq_ok {x y : Value} (h : q6h x y = true) : x = y := by
  unfold q6h at h
  split at h <;> simp_all
mutual
theorem AV.eqB_ok : ∀ (a b : AV), a.eqB b = true → a = b
  | .v x, b, h => by
    cases b <;> simp only [AV.eqB, Bool.false_eq_true] at h
    rw [valEq_ok h]
  | .agg a, b, h => by
    cases b <;> simp only [AV.eqB, Bool.false_eq_true] at h
    rw [qr9 _ _ h]
  | .tup a, b, h => by
    cases b <;> simp only [AV.eqB, Bool.false_eq_true] at h
    rw [qr9 _ _ h]
  | .fsl a c, b, h => by
    cases b <;> simp only [AV.eqB, Bool.false_eq_true] at h
    rw [Bool.and_eq_true] at h
    rw [qz7 _ _ h.1, eq_of_beq h.2]
  | .fptr a, b, h => by
    cases b <;> simp only [AV.eqB, Bool.false_eq_true] at h
    rw [qr9 _ _ h]
  | .sl o g off len c, b, h => by
    cases b <;> simp only [AV.eqB, Bool.false_eq_true] at h
    simp only [Bool.and_eq_true, beq_iff_eq] at h
    obtain ⟨h1, h2, h3, h4, h5⟩ := h
    rw [h1, h2, h3, h4, h5]
  | .ptr o g i off, b, h => by
    cases b <;> simp only [AV.eqB, Bool.false_eq_true] at h
    simp only [Bool.and_eq_true, beq_iff_eq] at h
    obtain ⟨h1, h2, h3, h4⟩ := h
    rw [h1, h2, h3, h4]
  | .fn f x y, b, h => by
    cases b <;> simp only [AV.eqB, Bool.false_eq_true] at h
    simp only [Bool.and_eq_true, decide_eq_true_eq] at h
    rw [h.1, qr9 _ _ h.2.1, qr9 _ _ h.2.2]
  | .yld o, b, h => by cases b <;> simp only [AV.eqB, Bool.false_eq_true] at h
  | .mp o, b, h => by
    cases b <;> simp only [AV.eqB, Bool.false_eq_true] at h
    rw [eq_of_beq h]
theorem qr9 : ∀ (a b : List AV), q0w a b = true → a = b
  | [], [], _ => rfl
  | a :: as, b :: bs, h => by
    simp only [q0w, Bool.and_eq_true] at h
    rw [AV.eqB_ok a b h.1, qr9 as bs h.2]
  | [], _ :: _, h => by simp [q0w] at h
  | _ :: _, [], h => by simp [q0w] at h
theorem qz7 : ∀ (a b : List (List AV)), qpj a b = true → a = b
  | [], [], _ => rfl
  | a :: as, b :: bs, h => by
    simp only [qpj, Bool.and_eq_true] at h
    rw [qr9 a b h.1, qz7 as bs h.2]
  | [], _ :: _, h => by simp [qpj] at h
  | _ :: _, [], h => by simp [qpj] at h
end
theorem q70 : ∀ (a b : List (Int × AV)), eqBm a b = true → a = b
  | [], [], _ => rfl
  | a :: as, b :: bs, h => by
    simp only [eqBm, Bool.and_eq_true, beq_iff_eq] at h
    obtain ⟨h1, h2, h3⟩ := h
    rw [q70 as bs h3, Prod.ext h1 (AV.eqB_ok _ _ h2)]
  | [], _ :: _, h => by simp [eqBm] at h
  | _ :: _, [], h => by simp [eqBm] at h
theorem SObj.eqB_ok (a b : SObj) (h : a.eqB b = true) : a = b := by
  cases a <;> cases b <;> simp only [SObj.eqB, Bool.false_eq_true, Bool.and_eq_true, beq_iff_eq, decide_eq_true_eq] at h
  · rw [h.1, h.2.1, qz7 _ _ h.2.2]
  · rfl
  · rfl
  · rw [h.1, q70 _ _ h.2]
theorem qzc : ∀ {a b : qq}, qqf a b = true → a = b
  | [], [], _ => rfl
  | a :: as, b :: bs, h => by
    simp only [qqf, Bool.and_eq_true] at h
    rw [SObj.eqB_ok a b h.1, qzc h.2]
  | [], _ :: _, h => by simp [qqf] at h
  | _ :: _, [], h => by simp [qqf] at h
theorem q3p {a a' : AV} {v : Value} {σ1 : qq} (hg : q26 a σ = some (a', σ1)) (s : SR P Γ σ w) (h : VR Γ w a v) : ∃ Γ', Ext Γ Γ' w w ∧ SR P Γ' σ1 w ∧ VR Γ' w a' v := by
  unfold q26 at hg
  split at hg
  · split at hg
    · rename_i ho
      split at hg
      · rename_i hc
        obtain ⟨rfl, hle⟩ := hc
        cases hg
        obtain ⟨q1, q2⟩ := qoj s h ho hle
        exact ⟨_, Ext.drop Γ w _, q1, q2⟩
      · cases hg
    · cases hg
  · cases hg
    exact ⟨Γ, Ext.refl Γ w, s, h⟩
theorem q3o : ∀ {as as' : List AV} {vs : List Value} {Γ : Ctx} {σ σ1 : qq}, q72 as σ = some (as', σ1) → SR P Γ σ w → VRs Γ w as vs → ∃ Γ', Ext Γ Γ' w w ∧ SR P Γ' σ1 w ∧ VRs Γ' w as' vs
  | [], as', vs, Γ, σ, σ1, hg, s, h => by
    simp only [q72] at hg; cases hg
    exact ⟨Γ, Ext.refl Γ w, s, h⟩
  | a :: as, as', vs, Γ, σ, σ1, hg, s, h => by
    simp only [q72, Option.bind_eq_some_iff] at hg
    obtain ⟨⟨x, σ2⟩, h1, ⟨y, σ3⟩, h2, hg⟩ := hg
    cases hg
    simp only [VRs] at h
    obtain ⟨u, us, rfl, k1, k2⟩ := h
    obtain ⟨Γ1, e1, s1, r1⟩ := q3p h1 s k1
    obtain ⟨Γ2, e2, s2, r2⟩ := q3o h2 s1 (VRs.mono e1 _ _ k2)
    refine ⟨Γ2, e1.trans e2, s2, ?_⟩
    simp only [VRs]
    exact ⟨u, us, rfl, VR.mono e2 _ _ r1, r2⟩
theorem giveG_ok {a a' : AV} {v : Value} {σ1 : qq} (hg : giveG a σ = some (a', σ1)) (s : SR P Γ σ w) (h : VR Γ w a v) : ∃ Γ', Ext Γ Γ' w w ∧ SR P Γ' σ1 w ∧ VR Γ' w a' v := by
  unfold giveG at hg
  split at hg
  · rename_i cs
    rw [Option.bind_eq_some_iff] at hg
    obtain ⟨⟨cs', σ2⟩, h1, hg⟩ := hg
    cases hg
    simp only [VR] at h
    obtain ⟨vs, rfl, k⟩ := h
    obtain ⟨Γ', e, s', r⟩ := q3o h1 s k
    refine ⟨Γ', e, s', ?_⟩
    simp only [VR]
    exact ⟨vs, rfl, r⟩
  · exact q3p hg s h
theorem q1g : ∀ {as as' : List AV} {vs : List Value} {Γ : Ctx} {σ σ1 : qq}, q1n as σ = some (as', σ1) → SR P Γ σ w → VRs Γ w as vs → ∃ Γ', Ext Γ Γ' w w ∧ SR P Γ' σ1 w ∧ VRs Γ' w as' vs
  | [], as', vs, Γ, σ, σ1, hg, s, h => by
    simp only [q1n] at hg; cases hg
    exact ⟨Γ, Ext.refl Γ w, s, h⟩
  | a :: as, as', vs, Γ, σ, σ1, hg, s, h => by
    simp only [q1n, Option.bind_eq_some_iff] at hg
    obtain ⟨⟨x, σ2⟩, h1, ⟨y, σ3⟩, h2, hg⟩ := hg
    cases hg
    simp only [VRs] at h
    obtain ⟨u, us, rfl, k1, k2⟩ := h
    obtain ⟨Γ1, e1, s1, r1⟩ := giveG_ok h1 s k1
    obtain ⟨Γ2, e2, s2, r2⟩ := q1g h2 s1 (VRs.mono e1 _ _ k2)
    refine ⟨Γ2, e1.trans e2, s2, ?_⟩
    simp only [VRs]
    exact ⟨u, us, rfl, VR.mono e2 _ _ r1, r2⟩
theorem Got.pre {Γ' : Ctx} {r : AV} {v : Value} {w' : World} (hx : Ext Γ Γ' w w) (h : Got P Γ' w r σ' v w') : Got P Γ w r σ' v w' := by
  obtain ⟨Γ2, h1, h2, h3⟩ := h
  exact ⟨Γ2, h1, h2, hx.trans h3⟩
theorem qrj {h : Hints} {o : Oper} {it : Item'} (hc : q2q P h o = some it) : qy7 P h o = some it ∨ (it = .op .bad ∧ q36 o.op = true) := by
  unfold q2q at hc
  split at hc
  · cases hc; exact .inl ‹_›
  · split at hc
    · cases hc; exact .inr ⟨rfl, (And.right ‹_›)⟩
    · cases hc
theorem item_ok {O : Orc} (hO : qpa P O) (hR : qnu P O) {h : Hints} {o : Oper} {it : Item'} {r : AV} (hc : q2q P h o = some it) (he : qba O e σ it = some (r, σ')) (hv : VE Γ w e a) (s : SR P Γ σ w) :
    qmf P (Got P Γ w r σ') ((execOp a.eval o).run P w) := by
  have hc : qy7 P h o = some it := by
    rcases qrj hc with hc | ⟨rfl, _⟩
    · exact hc
    · simp [qba, qah] at he
  have hop : (∃ c, cOp P h o = some c ∧ it = .op c) ∨ ∃ cl f, o.op = .call cl ∧ cl.callee = .value f ∧ ∃ as, qw7 cl.args.toList = some as ∧
      ((∃ k, f = .func k ∧ (it = .callA k as ∨ it = .callI k as ∨ it = .callR k as ∨ it = .callP k as ∨ it = .callF k as ∨ ∃ pos, it = .callH k as pos)) ∨ ∃ f', qde f = some f' ∧ it = .callv f' as) := by
    unfold qy7 at hc
    split at hc
    · rename_i f args at' heq
      rw [Option.bind_eq_some_iff] at hc
      obtain ⟨as, h1, hc⟩ := hc
      refine .inr ⟨_, f, heq, rfl, as, h1, ?_⟩
      split at hc
      · rename_i k
        split at hc
        · cases hc; exact .inl ⟨k, rfl, .inr (.inr (.inr (.inr (.inr ⟨_, rfl⟩))))⟩
        split at hc
        · cases hc; exact .inl ⟨k, rfl, .inl rfl⟩
        · split at hc
          · cases hc; exact .inl ⟨k, rfl, .inr (.inl rfl)⟩
          · split at hc
            · cases hc; exact .inl ⟨k, rfl, .inr (.inr (.inl rfl))⟩
            · split at hc
              · cases hc; exact .inl ⟨k, rfl, .inr (.inr (.inr (.inr (.inl rfl))))⟩
              · cases hc; exact .inl ⟨k, rfl, .inr (.inr (.inr (.inl rfl)))⟩
      · rw [Option.bind_eq_some_iff] at hc
        obtain ⟨f', h2, hc⟩ := hc
        cases hc
        exact .inr ⟨f', h2, rfl⟩
    · rw [Option.bind_eq_some_iff] at hc
      obtain ⟨c, h1, hc⟩ := hc
      cases hc
      exact .inl ⟨c, h1, rfl⟩
  rcases hop with ⟨c, h1, rfl⟩ | ⟨cl, f, ho, hcal, as, has, hf⟩
  · exact (op_ok h1 he hv s).next
  · have hex : ∀ v, a.eval f = v → (execOp a.eval o).run P w = ((Deferred.ofValue v (cl.args.map a.eval)).run P w).andThen (fun d w => (invoke d.target d.args).run P w) := by
      rintro v rfl
      simp only [execOp, ho, resolve, hcal, Sem.run_bind]
    have hfn : ∀ k (fs cs : List Value), a.eval f = .func (.func k) fs.toArray cs.toArray → (execOp a.eval o).run P w = (callFunc k (fs ++ (cl.args.toList.map a.eval ++ cs)).toArray).run P w := by
      intro k fs cs hk
      have harr : fs.toArray ++ cl.args.map a.eval ++ cs.toArray = (fs ++ (cl.args.toList.map a.eval ++ cs)).toArray := by
        apply Array.toList_inj.1; simp
      rw [hex _ hk]
      simp only [Deferred.ofValue, Sem.run_pure, Result.andThen_ok, invoke, harr]
    rcases hf with ⟨k, rfl, hit⟩ | ⟨f', hf', rfl⟩
    · have hk := hfn k [] [] (by simp [Act.eval])
      simp only [List.nil_append, List.append_nil] at hk
      rw [hk]
      rcases hit with rfl | rfl | rfl | rfl | rfl | ⟨pos, rfl⟩
      · simp only [qba, Option.bind_eq_some_iff] at he
        obtain ⟨vs, h1, he⟩ := he
        split at he
        · rename_i hlo
          rw [Option.bind_eq_some_iff] at he
          obtain ⟨⟨u, τ⟩, h2, he⟩ := he
          rw [Option.bind_eq_some_iff] at he
          obtain ⟨τ', h3, he⟩ := he
          cases he
          exact (hO k vs [] u τ h2 Γ.far0 w _ s.far0 ((qkj has h1 hv).far0 hlo)).mono fun v w' hg => hg.taken s (fun o o' ho => by
            unfold q0y at ho
            split at ho
            · cases ho; exact .inl ⟨_, _, _, rfl, rfl⟩
            · cases ho; exact .inr ⟨_, _, rfl, rfl⟩
            · cases ho) h3
        · cases he
      · simp only [qba, Option.bind_eq_some_iff] at he
        obtain ⟨vs, h1, he⟩ := he
        exact hO k vs σ r σ' he Γ w _ s (qkj has h1 hv)
      · simp only [qba, Option.bind_eq_some_iff] at he
        obtain ⟨vs, h1, ⟨u, τ⟩, h2, he⟩ := he
        split at he
        · rename_i hst
          cases he
          obtain rfl := qzc hst
          exact hO k vs σ _ _ h2 Γ w _ s (qkj has h1 hv)
        · cases he
      · simp only [qba, Option.bind_eq_some_iff] at he
        obtain ⟨vs, h1, he⟩ := he
        split at he
        · rename_i hlo
          rw [Option.bind_eq_some_iff] at he
          obtain ⟨⟨u, τ⟩, h2, he⟩ := he
          rw [Option.bind_eq_some_iff] at he
          obtain ⟨r', h3, he⟩ := he
          cases he
          exact (hO k vs [] u τ h2 Γ.far0 w _ s.far0 ((qkj has h1 hv).far0 hlo)).mono fun v w' hg => hg.frozen s h3
        · cases he
      · simp only [qba, Option.bind_eq_some_iff] at he
        obtain ⟨vs, h1, ⟨vs', σ2⟩, hg, he⟩ := he
        obtain ⟨Γ', hx, s', hv'⟩ := q1g hg s (qkj has h1 hv)
        split at he
        · rename_i hlo
          rw [Option.bind_eq_some_iff] at he
          obtain ⟨⟨u, τ⟩, h2, he⟩ := he
          rw [Option.bind_eq_some_iff] at he
          obtain ⟨r', h3, he⟩ := he
          cases he
          exact (hO k vs' [] u τ h2 Γ'.far0 w _ s'.far0 (hv'.far0 hlo)).mono fun v w' hg => Got.pre hx (hg.frozen s' h3)
        · cases he
      · simp only [qba, Option.bind_eq_some_iff] at he
        obtain ⟨vs, h1, he⟩ := he
        split at he
        · rename_i hlo
          rw [Option.bind_eq_some_iff] at he
          obtain ⟨⟨u, τ⟩, h2, he⟩ := he
          simp only at he
          split at he
          · split at he
            · rename_i ho'
              split at he
              · rename_i hg'
                rw [Option.bind_eq_some_iff] at he
                obtain ⟨es', h3, he⟩ := he
                split at he
                · rename_i hh
                  cases he
                  subst hg'
                  exact (hO k vs [] _ τ h2 Γ.far0 w _ s.far0 ((qkj has h1 hv).far0 hlo)).mono fun v w' hg => hg.filled s ho' h3 hh
                · cases he
              · cases he
            · cases he
          · cases he
        · cases he
    · simp only [qba, Option.bind_eq_some_iff] at he
      obtain ⟨g, h1, vs, h2, he⟩ := he
      have hg := qa6 hf' h1 hv
      split at he
      · rename_i k first cap
        simp only [VR] at hg
        obtain ⟨fs, cs, h3, h4, h5⟩ := hg
        rw [hfn k fs cs h3]
        exact hO k _ σ r σ' he Γ w _ s (h4.append ((qkj has h2 hv).append h5))
      · rename_i l
        simp only [VR] at hg
        obtain ⟨b, h3, h4, h5⟩ := hg
        have harr : #[] ++ cl.args.map a.eval = (cl.args.toList.map a.eval).toArray := by
          apply Array.toList_inj.1; simp
        rw [hex _ h3]
        simp only [Deferred.ofValue, Sem.run_pure, Result.andThen_ok, invoke, harr]
        exact hR l vs σ r σ' he Γ w b _ s (qkj has h2 hv) h4 h5
      · cases he
end Go.Ev
namespace Go.Ev
open Go.RowKit (Below)
variable {P : Program} {Γ Γ' : Ctx} {w w' : World} {σ σ' : qq} {e e' : Env} {a a' : Act} {av : AV} {N : Nat}
def MR (Γ : Ctx) : List Nat → List Deferred → Prop
  | [], ds => ds = []
  | m :: ms, ds => ∃ b ds', ds = { target := .collected b, args := #[] } :: ds' ∧ m < Γ.n ∧ ((Γ.loc m).g = 0 → b = (Γ.loc m).b) ∧ MR Γ ms ds'
structure AR (P : Program) (Γ : Ctx) (N : Nat) (e : Env) (σ : qq) (a : Act) (w : World) : Prop where
  ve : VE Γ w e a
  sr : SR P Γ σ w
  sz : a.tmps.size = N
  mr : MR Γ e.marks a.defers
theorem MR.mono (x : Ext Γ Γ' w w') : ∀ {ms : List Nat} {ds : List Deferred}, MR Γ ms ds → MR Γ' ms ds
  | [], ds, h => h
  | m :: ms, ds, h => by
    simp only [MR] at h ⊢
    obtain ⟨b, ds', rfl, h1, h2, h3⟩ := h
    refine ⟨b, ds', rfl, Nat.lt_of_lt_of_le h1 x.n, fun hg => ?_, MR.mono x h3⟩
    rcases x.loc m h1 with h4 | h4
    · rw [h4] at hg ⊢; exact h2 hg
    · omega
theorem q4k (a : Act) (d : Option Nat) (v : Value) (t : Nat) (hd : ∀ k, d = some k → k < a.tmps.size) : (a.put d v).tmps.getD t undef = if d = some t then v else a.tmps.getD t undef := by
  cases d with
  | none => simp [Act.put]
  | some k =>
    have := hd k rfl
    by_cases h : k = t
    · subst h; simp [Act.put, this]
    · simp only [Act.put, Option.some.injEq, if_neg h]
      simp [Array.getElem?_setIfInBounds_ne h]
theorem q4f (a : Act) (d : Option Nat) (v : Value) : (a.put d v).tmps.size = a.tmps.size := by cases d <;> simp [Act.put]
@[simp] theorem put_defers (a : Act) (d : Option Nat) (v : Value) : (a.put d v).defers = a.defers := by cases d <;> rfl
theorem q3x {d : Option Nat} (h : q53 N d = true) : ∀ k, d = some k → k < N := by
  intro k hk; subst hk; simpa [q53] using h
theorem AR.put (h : AR P Γ N e σ a w) {v : Value} {d : Option Nat} (hd : q53 N d = true) (hv : VR Γ' w' av v) (hs : SR P Γ' σ' w') (x : Ext Γ Γ' w w') : AR P Γ' N (e.set d av) σ' (a.put d v) w' where
  ve t u ht := by
    rw [q4k a d v t (by rw [h.sz]; exact q3x hd)]
    have ht : (e.set d av).get t = some u := ht
    rw [qts] at ht
    split at ht
    · cases ht; rw [if_pos ‹_›]; exact hv
    · rw [if_neg ‹_›]; exact VR.mono x _ _ (h.ve t u ht)
  sr := hs
  sz := by rw [q4f, h.sz]
  mr := by rw [marks_set, put_defers]; exact h.mr.mono x
theorem AR.unset (h : AR P Γ N e σ a w) {d : Option Nat} (hd : q53 N d = true) : AR P Γ N (e.unset d) σ (a.put d undef) w where
  ve t u ht := by
    rw [q4k a d undef t (by rw [h.sz]; exact q3x hd)]
    have ht : (e.unset d).get t = some u := ht
    rw [qtc] at ht
    split at ht
    · cases ht
      rw [if_pos ‹_›]
      simp only [VR, VRs]
      exact ⟨[], rfl, rfl⟩
    · rw [if_neg ‹_›]; exact h.ve t u ht
  sr := h.sr
  sz := by rw [q4f, h.sz]
  mr := by rw [marks_unset, put_defers]; exact h.mr
theorem AR.eqv (h : AR P Γ N e σ a w) (k : Eqv e e') : AR P Γ N e' σ a w := ⟨fun t u ht => h.ve t u ((k.1 t).trans ht), h.sr, h.sz, by rw [← k.2]; exact h.mr⟩
theorem AR.below (h : AR P Γ N e σ a w) (k : Below w.heap.size w w') : AR P Γ N e σ a w' := ⟨h.ve.mono (.of_below Γ k), h.sr.of_below k, h.sz, h.mr⟩
theorem q7x {ro : Option Nat} {ops : Array Oper} {Q : Exit → Act → World → Prop} {i : Nat} {o : Oper} {K : Act → World → Prop} {G : Value → World → Prop} (hi : ops[i]? = some o) (hnd : ∀ c, o.op ≠ .defer c)
    (hw : Region.wanted o (yielded ops a.tmps) = true) (h : qmf P G ((execOp a.eval o).run P w)) (hK : ∀ v w', G v w' → K (a.put o.dst v) w') : wpOpIn (FR ro) 0 P ops Q i K a w := by
  unfold wpOpIn
  simp only [hi, hw, if_true, Oper.wpIn]
  refine ⟨fun _ _ => trivial, ?_⟩
  rw [Oper.semAt_eq _ _ _ hnd]
  generalize (execOp a.eval o).run P w = r at h
  have hB : ∀ e w', q54 G e w' → ∃ v, e = .returned v ∧ K (a.put o.dst v) w' := fun e w' he => by
    cases e with
    | returned v => exact ⟨v, rfl, hK v w' he⟩
    | panicked _ => exact he.elim
    | outgrown => exact he.elim
  cases r with
  | ok nx w' =>
    cases nx <;> simp only [qmf] at h <;> simp only [Oper.uponIn]
    · exact hK _ _ h
    · exact hK _ _ h
    · refine ⟨fun hd => by simp [Fence.wide] at hd, CallsIn.mono h fun e w' he => ?_⟩
      obtain ⟨v, rfl, h2⟩ := hB e w' he
      exact h2
    · refine ⟨fun hd => by simp [Fence.wide] at hd, RoundIn.mono h fun e w' he => ?_⟩
      obtain ⟨v, rfl, h2⟩ := hB e w' he
      exact h2
  | halt _ _ => exact h.elim
theorem qr1 {h : Hints} {n : Nat} {ops : Array Oper} {o : Oper} {c : COper} (hc : qxl P h n ops o = some c) :
    q53 n o.dst = true ∧ c.dst = o.dst ∧ q2q P h o = some c.it ∧ ((o.guard = none ∧ c.guard = none) ∨ ∃ j want t, o.guard = some (j, want) ∧ c.guard = some (t, want) ∧ (ops[j]?).bind (·.dst) = some t) := by
  unfold qxl at hc
  split at hc
  · rename_i hd
    rw [Option.bind_eq_some_iff] at hc
    obtain ⟨it, h1, hc⟩ := hc
    split at hc
    · rename_i hg
      cases hc
      exact ⟨hd, rfl, h1, .inl ⟨hg, rfl⟩⟩
    · rename_i j want hg
      rw [Option.bind_eq_some_iff] at hc
      obtain ⟨t, h2, hc⟩ := hc
      cases hc
      exact ⟨hd, rfl, h1, .inr ⟨j, want, t, hg, rfl, h2⟩⟩
  · cases hc
theorem q0p {h : Hints} {o : Oper} {it : Item'} (hc : q2q P h o = some it) : ∀ c, o.op ≠ .defer c := by
  intro c hd
  rcases qrj hc with hc | ⟨_, hn⟩
  · unfold qy7 at hc
    rw [hd] at hc
    simp [cOp, hd] at hc
  · rw [hd] at hn; cases hn
theorem q3a {ops : Array Oper} {o : Oper} {j t : Nat} {want b : Bool} (hg : o.guard = some (j, want)) (hj : (ops[j]?).bind (·.dst) = some t) (hb : a.tmps.getD t undef = .bool b) :
    Region.wanted o (yielded ops a.tmps) = (b == want) := by
  have hlt : a.tmps[t]? = some (.bool b) := by
    rw [Array.getD_eq_getD_getElem?] at hb
    cases h : a.tmps[t]? with
    | none => rw [h] at hb; simp [undef] at hb
    | some x => rw [h] at hb; simp at hb; rw [hb]
  simp only [Region.wanted, hg, yielded, hj, Option.bind_some, hlt]
  cases b <;> cases want <;> rfl
theorem qzx {O : Orc} (hO : qpa P O) (hR : qnu P O) {ro : Option Nat} {h : Hints} {ops : Array Oper} {Q : Exit → Act → World → Prop} {i : Nat} {o : Oper} {c : COper} {K : Act → World → Prop} {e1 : Env} {σ1 : qq}
    (hi : ops[i]? = some o) (hc : qxl P h N ops o = some c) (he : qe O e σ c = some (e1, σ1)) (ha : AR P Γ N e σ a w) (hK : ∀ Γ' a' w', Ext Γ Γ' w w' → AR P Γ' N e1 σ1 a' w' → K a' w') :
    wpOpIn (FR ro) 0 P ops Q i K a w := by
  obtain ⟨hd, hdst, hit, hg⟩ := qr1 hc
  have run : (∃ r, qba O e σ c.it = some (r, σ1) ∧ e1 = e.set c.dst r) → Region.wanted o (yielded ops a.tmps) = true → wpOpIn (FR ro) 0 P ops Q i K a w := by
    rintro ⟨r, h1, rfl⟩ hw
    refine q7x hi (q0p hit) hw (item_ok hO hR hit h1 ha.ve ha.sr) ?_
    rintro v w' ⟨Γ', h2, h3, h4⟩
    rw [hdst] at hK
    exact hK Γ' _ w' h4 (ha.put hd h2 h3 h4)
  unfold qe at he
  rcases hg with ⟨h1, h2⟩ | ⟨j, want, t, h1, h2, h3⟩
  · rw [h2] at he
    simp only [Option.bind_eq_some_iff] at he
    obtain ⟨⟨r, s1⟩, h3, he⟩ := he
    cases he
    exact run ⟨r, h3, rfl⟩ (by simp [Region.wanted, h1])
  · rw [h2] at he
    simp only [Option.bind_eq_some_iff] at he
    obtain ⟨bv, h4, he⟩ := he
    split at he
    · rename_i b
      have hb := ha.ve t _ h4
      simp only [VR] at hb
      have hw := q3a h1 h3 hb
      split at he
      · rename_i hbw
        simp only [Option.bind_eq_some_iff] at he
        obtain ⟨⟨r, s1⟩, h5, he⟩ := he
        cases he
        exact run ⟨r, h5, rfl⟩ (by rw [hw, hbw]; simp)
      · rename_i hbw
        cases he
        unfold wpOpIn
        simp only [hi]
        rw [if_neg (by rw [hw]; simpa using hbw)]
        exact ⟨fun _ _ => trivial, hK Γ _ w (Ext.refl _ _) (by rw [hdst]; exact ha.unset hd)⟩
    · have hb := ha.ve t _ h4
      simp only [VR, VRs] at hb
      obtain ⟨vs, hb, rfl⟩ := hb
      cases he
      have hw : ¬ Region.wanted o (yielded ops a.tmps) = true := by
        have hx : ∀ x, a.tmps[t]? = some x → x = .tuple #[] := fun x hx => by
          rw [Array.getD_eq_getD_getElem?, hx] at hb; exact hb
        simp only [Region.wanted, h1, yielded, h3, Option.bind_some]
        cases hz : a.tmps[t]? with
        | none => simp
        | some x => rw [hx x hz]; simp
      unfold wpOpIn
      simp only [hi]
      rw [if_neg hw]
      exact ⟨fun _ _ => trivial, hK Γ _ w (Ext.refl _ _) (by rw [hdst]; exact ha.unset hd)⟩
    · cases he
def qhn (cs : List COper) (l : List Nat) : List COper := l.filterMap (cs[·]?)
theorem qus {cs : List COper} {i : Nat} {c : COper} (h : cs[i]? = some c) (l : List Nat) : qhn cs (i :: l) = c :: qhn cs l := by simp [qhn, h]
theorem qo3 : ∀ (cs : List COper), qhn cs (List.range cs.length) = cs
  | [] => rfl
  | c :: cs => by
    have ih := qo3 cs
    unfold qhn at ih ⊢
    rw [List.length_cons, List.range_succ_eq_map, List.filterMap_cons]
    simp only [List.getElem?_cons_zero, List.filterMap_map]
    rw [show ((fun x => (c :: cs)[x]?) ∘ Nat.succ) = fun x => cs[x]? from funext fun x => by simp]
    rw [ih]
theorem ops_wp {O : Orc} (hO : qpa P O) (hR : qnu P O) {ro : Option Nat} {h : Hints} {ops : Array Oper} {cs : List COper} {Q : Exit → Act → World → Prop} (hcs : qgb (qxl P h N ops) ops.toList = some cs) {e' : Env} {σ' : qq} :
    ∀ (l : List Nat) {e : Env} {σ : qq} {Γ : Ctx} {a : Act} {w : World}, (∀ i ∈ l, i < ops.size) → qb O (qhn cs l) e σ = some (e', σ') → AR P Γ N e σ a w →
      (∀ Γ' a' w', Ext Γ Γ' w w' → AR P Γ' N e' σ' a' w' → Q .normal a' w') → wpOpsIn (FR ro) 0 P ops Q l a w
  | [], e, σ, Γ, a, w, _, he, ha, hq => by
    simp only [qhn, List.filterMap_nil, qb] at he
    cases he
    exact hq Γ a w (Ext.refl _ _) ha
  | i :: l, e, σ, Γ, a, w, hl, he, ha, hq => by
    rw [wpOpsIn_cons]
    have hi : i < ops.size := hl i (by simp)
    have ho : ops[i]? = some ops[i] := by simp [hi]
    obtain ⟨c, hc, hco⟩ := qvz hcs (i := i) (a := ops[i]) (by simp [hi])
    rw [qus hc] at he
    simp only [qb, Option.bind_eq_some_iff] at he
    obtain ⟨⟨e1, σ1⟩, h1, h2⟩ := he
    exact qzx hO hR ho hco h1 ha fun Γ1 a1 w1 x1 ha1 => ops_wp hO hR hcs l (fun j hj => hl j (by simp [hj])) h2 ha1 fun Γ2 a2 w2 x2 ha2 => hq Γ2 a2 w2 (x1.trans x2) ha2
end Go.Ev
namespace Go.Ev
open Go.RowKit (Below)
variable {P : Program} {Γ Γ' : Ctx} {w w' : World} {σ σ' : qq} {e e' : Env} {a a' : Act} {av : AV} {N : Nat}
theorem qv5 : ∀ (l : List Oper) (acc : List Nat), (q62 l acc).length = acc.length + l.length ∧ (q62 l acc).take acc.length = acc ∧
    ∀ k o, l[k]? = some o → (q62 l acc)[acc.length + k]? = some (bits ((q62 l acc).take (acc.length + k)) o.after.toList)
  | [], acc => ⟨by simp [q62], by simp [q62], by simp⟩
  | o :: r, acc => by
    obtain ⟨h1, h2, h3⟩ := qv5 r (acc ++ [bits acc o.after.toList])
    have hlen : (acc ++ [bits acc o.after.toList]).length = acc.length + 1 := by simp
    rw [hlen] at h1 h2 h3
    simp only [q62]
    have hacc : (q62 r (acc ++ [bits acc o.after.toList])).take acc.length = acc := by
      have := congrArg (List.take acc.length) h2
      rw [List.take_take, Nat.min_eq_left (by omega)] at this
      rw [this]; simp
    refine ⟨by rw [h1]; simp; omega, hacc, fun k o' hk => ?_⟩
    cases k with
    | zero =>
      simp at hk; subst hk
      rw [Nat.add_zero, hacc]
      have := congrArg (fun l => l[acc.length]?) h2
      simp only [List.getElem?_take] at this
      rw [if_pos (by omega)] at this
      rw [this]; simp
    | succ k =>
      have := h3 k o' (by simpa using hk)
      rw [show acc.length + (k + 1) = acc.length + 1 + k from by omega]
      exact this
theorem qy6 {b : COper} {bj : Nat} : ∀ {l : List COper} {i : Nat}, q7g b bj l i = true → ∀ {m : Nat} {a : COper}, l[m]? = some a → bj.testBit (i + m) = true ∨ q3z a b = true
  | [], _, _, m, a, hm => by simp at hm
  | x :: l, i, h, m, a, hm => by
    simp only [q7g, Bool.and_eq_true, Bool.or_eq_true] at h
    cases m with
    | zero => simp at hm; subst hm; simpa using h.1
    | succ m =>
      have := qy6 h.2 (m := m) (a := a) (by simpa using hm)
      rw [show i + (m + 1) = i + 1 + m from by omega]; exact this
theorem qwj : ∀ {cs done : List COper} {bs : List Nat}, q1h done cs bs = true → ∀ {k : Nat} {b : COper}, cs[k]? = some b → ∃ bj, bs[k]? = some bj ∧ q7g b bj (done ++ cs.take k) 0 = true
  | [], _, _, _, k, b, hk => by simp at hk
  | c :: cs, done, [], h, k, b, hk => by simp [q1h] at h
  | c :: cs, done, bj :: bs, h, k, b, hk => by
    simp only [q1h, Bool.and_eq_true] at h
    cases k with
    | zero => simp at hk; subst hk; exact ⟨bj, by simp, by simpa using h.1⟩
    | succ k =>
      obtain ⟨b2, h1, h2⟩ := qwj h.2 (k := k) (b := b) (by simpa using hk)
      exact ⟨b2, by simpa using h1, by simpa using h2⟩
theorem qwd {acc : List Nat} {j : Nat} : ∀ {l : List Edge}, (bits acc l).testBit j = true → ∃ ed ∈ l, Region.binds .any ed = true ∧ (j = ed.on ∨ (acc.getD ed.on 0).testBit j = true)
  | [], h => by simp [bits] at h
  | x :: l, h => by
    simp only [bits] at h
    split at h
    · rename_i hb
      simp only [Nat.testBit_or, Bool.or_eq_true] at h
      rcases h with h | h | h
      · refine ⟨x, by simp, hb, .inl ?_⟩
        rw [Nat.testBit_two_pow] at h
        simpa using (of_decide_eq_true h).symm
      · exact ⟨x, by simp, hb, .inr h⟩
      · obtain ⟨ed, h1, h2⟩ := qwd h
        exact ⟨ed, by simp [h1], h2⟩
    · obtain ⟨ed, h1, h2⟩ := qwd h
      exact ⟨ed, by simp [h1], h2⟩
theorem qpu : ∀ {l : List Oper} {i : Nat}, qxx l i = true → ∀ {k : Nat} {o : Oper}, l[k]? = some o → ∀ ed ∈ o.after, Region.binds .any ed = true → ed.on < i + k
  | [], _, _, k, o, hk => by simp at hk
  | x :: l, i, h, k, o, hk => by
    simp only [qxx, Bool.and_eq_true, List.all_eq_true, Bool.or_eq_true, Bool.not_eq_true', decide_eq_true_eq] at h
    cases k with
    | zero => simp at hk; subst hk; intro ed hed hb; exact (h.1 ed (by simpa using hed)).resolve_left (by simp [hb])
    | succ k =>
      intro ed hed hb
      have := qpu h.2 (k := k) (o := o) (by simpa using hk) ed hed hb
      omega
def Closed (ops : Array Oper) (listed : Array Bool) : Prop := ∀ (j : Nat) (o : Oper), ops[j]? = some o → listed.getD j false = true → ∀ ed ∈ o.after, Region.binds .any ed = true → listed.getD ed.on false = true
theorem q2o {ops : Array Oper} {listed : Array Bool} (hlt : qxx ops.toList 0 = true) (hcl : Closed ops listed) : ∀ (i : Nat) (o : Oper), ops[i]? = some o → (∀ ed ∈ o.after, Region.binds .any ed = true → listed.getD ed.on false = true) →
    ∀ bj, (q62 ops.toList [])[i]? = some bj → ∀ j, bj.testBit j = true → listed.getD j false = true := by
  intro i
  induction i using Nat.strongRecOn with
  | _ i ih =>
    intro o ho hall bj hbj j hj
    have hsp := (qv5 ops.toList []).2.2 i o (by simpa using ho)
    simp only [List.length_nil, Nat.zero_add] at hsp
    rw [hsp] at hbj
    cases hbj
    obtain ⟨ed, h1, h2, h3⟩ := qwd hj
    have hed : ed ∈ o.after := by simpa using h1
    rcases h3 with rfl | h3
    · exact hall ed hed h2
    · have hlt' : ed.on < i := by simpa using qpu hlt (k := i) (o := o) (by simpa using ho) ed hed h2
      obtain ⟨o', ho'⟩ : ∃ o', ops[ed.on]? = some o' := ⟨_, Array.getElem?_eq_getElem (Nat.lt_trans hlt' (Array.getElem?_eq_some_iff.1 ho).1)⟩
      refine ih ed.on hlt' o' ho' (hcl ed.on o' ho' (hall ed hed h2)) _ ?_ j h3
      have hsp' := (qv5 ops.toList []).2.2 ed.on o' (by simpa using ho')
      simp only [List.length_nil, Nat.zero_add] at hsp'
      rw [List.getD_eq_getElem?_getD, List.getElem?_take, if_pos hlt', hsp']
      rfl
theorem q7b (n : Nat) (v : Value) : (ofLeaf v).lo n = true := by
  unfold ofLeaf; split <;> simp [AV.lo, qiz]
theorem lo_ofTop (n : Nat) (v : Value) : (ofTop v).lo n = true := by
  unfold ofTop; split <;> simp [AV.lo, qiz]
theorem qzr (n : Nat) : ∀ (l : List Value), los n (l.map ofLeaf) = true
  | [] => rfl
  | v :: vs => by simp only [List.map_cons, los, q7b, qzr n vs, Bool.and_self]
theorem lo_ofV (n : Nat) (v : Value) : (ofV v).lo n = true := by
  unfold ofV; split
  · simp only [AV.lo]; exact qzr n _
  · exact lo_ofTop n _
theorem qzf {x : Operand} {x' : Opnd} (h : qde x = some x') : x'.okC = true := by
  unfold qde at h
  split at h
  · cases h; rfl
  · cases h
  · cases h; exact lo_ofV 0 _
  · cases h; rfl
  · cases h
theorem load_okC {h : Hints} {o : Oper} {it : Item'} (hc : q2q P h o = some it) : qq9 it = true := by
  rcases qrj hc with hc | ⟨rfl, _⟩
  case inr => rfl
  unfold qy7 at hc
  split at hc
  · rw [Option.bind_eq_some_iff] at hc
    obtain ⟨as, h1, hc⟩ := hc
    split at hc
    · split at hc
      · cases hc; rfl
      split at hc
      · cases hc; rfl
      · split at hc
        · cases hc; rfl
        · split at hc
          · cases hc; rfl
          · split at hc <;> (cases hc; rfl)
    · rw [Option.bind_eq_some_iff] at hc
      obtain ⟨f', h2, hc⟩ := hc
      cases hc; rfl
  · rw [Option.bind_eq_some_iff] at hc
    obtain ⟨c, h1, hc⟩ := hc
    cases hc
    unfold qq9
    split
    · rename_i sz ag x heq
      cases heq
      unfold cOp at h1
      (repeat' (first | (obtain ⟨_, _, h1⟩ := h1) | split at h1 | rw [Option.bind_eq_some_iff] at h1)) <;> first
        | (cases h1; done)
        | exact qzf (by assumption)
    · rename_i sz ag x av heq
      cases heq
      unfold cOp at h1
      (repeat' (first | (obtain ⟨_, _, h1⟩ := h1) | split at h1 | rw [Option.bind_eq_some_iff] at h1)) <;> first
        | (cases h1; done)
        | exact qzf (by assumption)
    · rename_i sz ag x base heq
      cases heq
      unfold cOp at h1
      (repeat' (first | (obtain ⟨_, _, h1⟩ := h1) | split at h1 | rw [Option.bind_eq_some_iff] at h1)) <;> first
        | (cases h1; done)
        | exact qzf (by assumption)
    · rename_i ok k z x key heq
      cases heq
      unfold cOp at h1
      (repeat' (first | (obtain ⟨_, _, h1⟩ := h1) | split at h1 | rw [Option.bind_eq_some_iff] at h1)) <;> first
        | (cases h1; done)
        | exact qzf (by assumption)
    · rename_i sz x i heq
      cases heq
      unfold cOp at h1
      (repeat' (first | (obtain ⟨_, _, h1⟩ := h1) | split at h1 | rw [Option.bind_eq_some_iff] at h1)) <;> first
        | (cases h1; done)
        | exact qzf (by assumption)
    · rename_i sz x lo hi mx heq
      cases heq
      unfold cOp at h1
      (repeat' (first | (obtain ⟨_, _, h1⟩ := h1) | split at h1 | rw [Option.bind_eq_some_iff] at h1)) <;> first
        | (cases h1; done)
        | exact qzf (by assumption)
    · rfl
theorem AR.known (h : AR P Γ N e σ a w) : Known σ.length e := by
  intro t av o ht ho
  have hv := h.ve t av ht
  rw [h.sr.len]
  cases av <;> simp only [AV.obj?] at ho <;> first
    | (cases ho; done)
    | skip
  · cases ho
    simp only [VR] at hv
    obtain ⟨A, c, _, _, _, h1, _⟩ := hv
    exact h1
  · cases ho
    simp only [VR] at hv
    obtain ⟨p, _, h1, _⟩ := hv
    exact h1
  · cases ho
    simp only [VR] at hv
    obtain ⟨p, _, h1, _⟩ := hv
    exact h1
end Go.Ev
namespace Go.Ev
open Go.RowKit (Below)
variable {P : Program} {Γ Γ' : Ctx} {w w' : World} {σ σ' : qq} {e e' : Env} {a a' : Act} {av : AV} {N : Nat}
def rest (n : Nat) (listed : Array Bool) : List Nat := (List.range n).filter (fun i => !listed.getD i false)
theorem qsd {n i : Nat} {listed : Array Bool} : i ∈ rest n listed ↔ i < n ∧ listed.getD i false = false := by
  simp [rest, List.mem_filter]
theorem q3s {listed : Array Bool} {i : Nat} (h : i < listed.size) : listed.getD i true = listed.getD i false := by
  simp [Array.getD, h]
theorem q45 {n i : Nat} {listed : Array Bool} (h : i ∈ rest n listed) (hs : listed.size = n) : ∃ l1 l2, rest n listed = l1 ++ i :: l2 ∧ (∀ j ∈ l1, j < i) ∧ rest n (listed.setIfInBounds i true) = l1 ++ l2 := by
  have hp : (rest n listed).Pairwise (· < ·) := List.Pairwise.filter _ List.pairwise_lt_range
  have hi := (qsd.1 h).1
  have hr : rest n (listed.setIfInBounds i true) = (rest n listed).filter (fun j => decide (j ≠ i)) := by
    unfold rest
    rw [List.filter_filter]
    apply List.filter_congr
    intro j _
    by_cases hj : i = j
    · subst hj; simp [Array.getD, hs, hi]
    · rw [getD_set_ne false hj]; simp [Ne.symm hj]
  obtain ⟨l1, l2, h1⟩ := List.append_of_mem h
  rw [h1] at hp
  have h2 := List.pairwise_append.1 hp
  have h3 : ∀ j ∈ l1, j < i := fun j hj => h2.2.2 j hj i (by simp)
  have h4 : ∀ j ∈ l2, i < j := fun j hj => (List.pairwise_cons.1 h2.2.1).1 j hj
  refine ⟨l1, l2, h1, h3, ?_⟩
  rw [hr, h1, List.filter_append, List.filter_cons]
  rw [List.filter_eq_self.2 fun j hj => by have := h3 j hj; simp; omega, List.filter_eq_self.2 fun j hj => by have := h4 j hj; simp; omega]
  simp
theorem qnh {O : Orc} : ∀ (l m : List COper) (e : Env) (σ : qq), qb O (l ++ m) e σ = (qb O l e σ).bind fun x => qb O m x.1 x.2
  | [], m, e, σ => rfl
  | o :: l, m, e, σ => by
    simp only [List.cons_append, qb]
    cases qe O e σ o with
    | none => rfl
    | some x => simp only [Option.bind_some]; exact qnh l m _ _
theorem any_wp {O : Orc} (hO : qpa P O) (hR : qnu P O) {ro : Option Nat} {h : Hints} {ops : Array Oper} {cs : List COper} {Q : Exit → Act → World → Prop} (hcs : qgb (qxl P h N ops) ops.toList = some cs) (hdr : q6b ops cs = true) {e' : Env} {σ' : qq} :
    ∀ (fuel : Nat) (listed : Array Bool) {e : Env} {σ : qq} {Γ : Ctx} {a : Act} {w : World}, listed.size = ops.size → (rest ops.size listed).length ≤ fuel → Closed ops listed →
      (∃ e2, qb O (qhn cs (rest ops.size listed)) e σ = some (e2, σ') ∧ Eqv e2 e') → AR P Γ N e σ a w →
      (∀ Γ' a' w', Ext Γ Γ' w w' → AR P Γ' N e' σ' a' w' → Q .normal a' w') → wpAnyIn (FR ro) 0 P .any ops Q fuel listed a w := by
  unfold q6b at hdr
  simp only [Bool.and_eq_true] at hdr
  obtain ⟨hlt, hrows⟩ := hdr
  have inRest : ∀ {i : Nat} {listed : Array Bool}, listed.size = ops.size → i ∈ Region.ready .any ops listed → i ∈ rest ops.size listed := fun {i listed} hs hi => by
    obtain ⟨h1, o, h2, _⟩ := mem_ready.1 hi
    have := (Array.getElem?_eq_some_iff.1 h2).1
    exact qsd.2 ⟨this, by rw [← q3s (by omega)]; exact h1⟩
  have done : ∀ (listed : Array Bool) {e : Env} {σ : qq} {Γ : Ctx} {a : Act} {w : World}, rest ops.size listed = [] →
      (∃ e2, qb O (qhn cs (rest ops.size listed)) e σ = some (e2, σ') ∧ Eqv e2 e') → AR P Γ N e σ a w →
      (∀ Γ' a' w', Ext Γ Γ' w w' → AR P Γ' N e' σ' a' w' → Q .normal a' w') → Q .normal a w := by
    rintro listed e σ Γ a w hr ⟨e2, h1, h2⟩ ha hq
    rw [hr] at h1
    simp only [qhn, List.filterMap_nil, qb] at h1
    cases h1
    exact hq Γ a w (Ext.refl _ _) (ha.eqv h2)
  have some_ready : ∀ {listed : Array Bool}, listed.size = ops.size → rest ops.size listed ≠ [] → Region.ready .any ops listed ≠ [] := by
    intro listed hs hne hnil
    obtain ⟨i, tl, hi⟩ := List.exists_cons_of_ne_nil hne
    have hmem : i ∈ rest ops.size listed := by rw [hi]; simp
    obtain ⟨hi1, hi2⟩ := qsd.1 hmem
    have hp : (rest ops.size listed).Pairwise (· < ·) := List.Pairwise.filter _ List.pairwise_lt_range
    rw [hi] at hp
    have hmin := (List.pairwise_cons.1 hp).1
    have : i ∈ Region.ready .any ops listed := by
      refine mem_ready.2 ⟨by rw [q3s (by omega)]; exact hi2, ops[i], by simp [hi1], fun ed hed hb => ?_⟩
      have hlt' : ed.on < i := by simpa using qpu hlt (k := i) (o := ops[i]) (by simp [hi1]) ed hed hb
      cases hbb : listed.getD ed.on false with
      | true => rfl
      | false =>
        have : ed.on ∈ rest ops.size listed := qsd.2 ⟨by omega, hbb⟩
        rw [hi] at this
        rcases List.mem_cons.1 this with h1 | h1
        · omega
        · have := hmin _ h1; omega
    rw [hnil] at this
    cases this
  intro fuel
  induction fuel with
  | zero =>
    intro listed e σ Γ a w hs hf hcl hex ha hq
    have hr : rest ops.size listed = [] := List.eq_nil_of_length_eq_zero (by omega)
    refine ⟨?_, done listed hr hex ha hq⟩
    cases hrd : Region.ready .any ops listed with
    | nil => rfl
    | cons i tl =>
      have := inRest hs (i := i) (by rw [hrd]; simp)
      rw [hr] at this; cases this
  | succ fuel ih =>
    intro listed e σ Γ a w hs hf hcl hex ha hq
    refine ⟨fun hnil => ?_, fun i hi => ?_⟩
    · by_cases hr : rest ops.size listed = []
      · exact done listed hr hex ha hq
      · exact absurd hnil (some_ready hs hr)
    · have hir := inRest hs hi
      obtain ⟨l1, l2, h1, h2, h3⟩ := q45 hir hs
      obtain ⟨hun, o, ho, hall⟩ := mem_ready.1 hi
      obtain ⟨c, hc, hco⟩ := qvz hcs (i := i) (a := o) (by simpa using ho)
      obtain ⟨e2, h4, h5⟩ := hex
      have hpk : qhn cs (rest ops.size listed) = qhn cs l1 ++ c :: qhn cs l2 := by
        rw [h1]
        have := qus hc l2
        unfold qhn at this ⊢
        rw [List.filterMap_append, this]
      rw [hpk, qnh, Option.bind_eq_some_iff] at h4
      obtain ⟨⟨e3, σ3⟩, h6, h4⟩ := h4
      simp only [qb, Option.bind_eq_some_iff] at h4
      obtain ⟨⟨e4, σ4⟩, h7, h8⟩ := h4
      have hap : ∀ b ∈ qhn cs l1, Ap b c := by
        intro b hb
        obtain ⟨j, hj, hjb⟩ := List.mem_filterMap.1 hb
        have hji := h2 j hj
        obtain ⟨bj, hbj, hrow⟩ := qwj hrows hc
        have := qy6 hrow (m := j) (a := b) (by rw [List.nil_append, List.getElem?_take, if_pos hji]; exact hjb)
        rw [Nat.zero_add] at this
        rcases this with hbit | hap
        · have hls := q2o hlt hcl i o ho hall bj hbj j hbit
          have hjr : j ∈ rest ops.size listed := by rw [h1]; simp [hj]
          have := (qsd.1 hjr).2
          rw [hls] at this; cases this
        · exact ap_of hap
      obtain ⟨e1', τ, h9, e2', h10, h11⟩ := q5p hap ha.known (load_okC (qr1 hco).2.2.1) h6 h7
      obtain ⟨e5, h12, h13⟩ := qj5 h11.symm h8
      refine qzx hO hR ho hco h9 ha fun Γ1 a1 w1 x1 ha1 => ?_
      refine ih (listed.setIfInBounds i true) (by simp [hs]) ?_ ?_ ⟨e5, ?_, h13.symm.trans h5⟩ ha1 fun Γ2 a2 w2 x2 ha2 => hq Γ2 a2 w2 (x1.trans x2) ha2
      · have hlen := congrArg List.length h1
        have hlen3 := congrArg List.length h3
        simp only [List.length_append, List.length_cons] at hlen hlen3
        omega
      · intro j oj hoj hl ed hed hb
        by_cases hji : i = j
        · subst hji
          rw [ho] at hoj; cases hoj
          exact getD_set_true (hall ed hed hb)
        · rw [getD_set_ne false hji] at hl
          exact getD_set_true (hcl j oj hoj hl ed hed hb)
      · rw [h3]
        have : qhn cs (l1 ++ l2) = qhn cs l1 ++ qhn cs l2 := by simp [qhn]
        rw [this, qnh, h10]
        exact h12
theorem q78 {O : Orc} (hO : qpa P O) (hR : qnu P O) (hm : P.follows .mixedOrders = true) {ro : Option Nat} {h : Hints} {id : Nat} {ops : Array Oper} {draw : Bool} {cc : CCode} {i j : Nat} (hc : qhz P h N (.region id ops draw) i = some (cc, j)) :
    ∃ cs, cc = .region cs ∧ ∀ {Q : Exit → Act → World → Prop} {e' : Env} {σ' : qq}, qb O cs e σ = some (e', σ') → AR P Γ N e σ a w →
      (∀ Γ' a' w', Ext Γ Γ' w w' → AR P Γ' N e' σ' a' w' → Q .normal a' w') → (Code.region id ops draw).wpIn (FR ro) 0 P Q a w := by
  simp only [qhz, Option.bind_eq_some_iff] at hc
  obtain ⟨cs, hcs, hc⟩ := hc
  have hlen : cs.length = ops.size := by simpa using qi6 hcs
  have lex : ∀ {Q : Exit → Act → World → Prop} {e' : Env} {σ' : qq}, qb O cs e σ = some (e', σ') → AR P Γ N e σ a w →
      (∀ Γ' a' w', Ext Γ Γ' w w' → AR P Γ' N e' σ' a' w' → Q .normal a' w') → (Code.region id ops false).wpIn (FR ro) 0 P Q a w := fun he ha hq => by
    refine wpIn_region (ops_wp hO hR hcs (List.range ops.size) (fun i hi => by simpa using hi) ?_ ha hq)
    rw [← hlen, qo3]; exact he
  split at hc
  · rename_i hd
    split at hc
    · rename_i hok
      cases hc
      subst hd
      refine ⟨cs, rfl, fun he ha hq => ?_⟩
      have hb := qqs w
      have hrest : rest ops.size (Array.replicate ops.size false) = List.range ops.size := by
        unfold rest
        rw [List.filter_eq_self]
        intro i hi
        simp [Array.getD]
      refine wpIn_region_any hm (any_wp hO hR hcs hok ops.size _ (by simp) (by rw [hrest]; simp) ?_ ⟨_, by rw [hrest, ← hlen, qo3]; exact he, Eqv.refl _⟩ (ha.below hb) ?_)
      · intro j o _ hl
        simp [Array.getD] at hl
      · exact fun Γ' a' w' x => hq Γ' a' w' ((Ext.of_below Γ hb).trans x)
    · cases hc
  · rename_i hd
    cases hc
    have : draw = false := by simpa using hd
    subst this
    exact ⟨cs, rfl, lex⟩
end Go.Ev
namespace Go.Ev
open Go.RowKit (Below)
variable {P : Program} {Γ Γ' : Ctx} {w w' : World} {σ σ' : qq} {e e' : Env} {a a' : Act} {av : AV} {N : Nat}
def Ctx.cut (Γ : Ctx) (k : Nat) : Ctx := { Γ with n := k }
theorem qxz {n : Nat} : ∀ {l : qq} {i : Nat} {o : SObj}, qg n l = true → l[i]? = some o → o.lo n = true
  | [], _, _, _, h => by simp at h
  | x :: l, i, o, hl, h => by
    simp only [qg, Bool.and_eq_true] at hl
    cases i with
    | zero => simp at h; subst h; exact hl.1
    | succ i => exact qxz hl.2 (by simpa using h)
theorem qtq {n : Nat} : ∀ {l : List (Nat × AV)} {t : Nat} {av : AV}, qal n l = true → look l t = some av → av.lo n = true
  | [], _, _, _, h => by simp [look] at h
  | (k, v) :: l, t, av, hl, h => by
    simp only [qal, Bool.and_eq_true] at hl
    simp only [look] at h
    split at h
    · cases h; exact hl.1
    · exact qtq hl.2 h
theorem qzj {n : Nat} : ∀ {l m : List AV}, los n l = true → los n m = true → los n (l ++ m) = true
  | [], m, _, h => h
  | x :: l, m, h, k => by
    simp only [los, Bool.and_eq_true, List.cons_append] at h ⊢
    exact ⟨h.1, qzj h.2 k⟩
theorem q1a {n : Nat} : ∀ {l : List (List AV)}, qiz n l = true → los n l.flatten = true
  | [], _ => rfl
  | x :: l, h => by
    simp only [qiz, Bool.and_eq_true] at h
    rw [List.flatten_cons]
    exact qzj h.1 (q1a h.2)
theorem VR.cut {v : Value} (k : Nat) (hl : av.lo k = true) (h : VR Γ w av v) : VR (Γ.cut k) w av v := VR.weaken (Γ := Γ) (Γ' := Γ.cut k) (fun _ h => h) k (Nat.le_refl _) (fun _ _ => rfl) _ _ hl h
theorem OR.cut {o k : Nat} {ob : SObj} (h : OR P Γ w o ob) (hl : ob.lo k = true) : OR P (Γ.cut k) w o ob := by
  cases ob with
  | row sz es g =>
    simp only [OR] at h ⊢
    obtain ⟨h1, h2, h3, h4, h5, h6⟩ := h
    refine ⟨h1, h2, h3, h4, h5, h6.imp id ?_⟩
    rintro ⟨arr, et, h7, h8, h9⟩
    exact ⟨arr, et, h7, h8, qy.weaken (Γ := Γ) (Γ' := Γ.cut k) (fun _ h => h) k (Nat.le_refl _) (fun _ _ => rfl) _ _ (q1a (by simpa only [SObj.lo] using hl)) h9⟩
  | loop env ps as body st pend =>
    simp only [OR] at h ⊢
    obtain ⟨h1, h2, r, h3, h4, h5, h6, h7, h8, h9, h10⟩ := h
    exact ⟨h1, h2, r, h3, h4, h5, h6, h7, h8, fun t av ht => (h9 t av ht).cut k (qtq (by simpa only [SObj.lo] using hl) ht), h10⟩
  | defr => exact h
  | dead => trivial
  | hole => exact h
  | mp kk es =>
    simp only [OR] at h ⊢
    obtain ⟨h1, h2, arr, clock, h3, h4⟩ := h
    exact ⟨h1, h2, arr, clock, h3, h4.imp fun a y hl hy => VR.weaken (Γ := Γ) (Γ' := Γ.cut k) (fun _ h => h) 0 (Nat.zero_le _) (fun o ho => absurd ho (Nat.not_lt_zero _)) a y hl hy⟩
theorem SR.cut (s : SR P Γ σ w) {k : Nat} (hk : k ≤ Γ.n) (hl : qg k (σ.take k) = true) : SR P (Γ.cut k) (σ.take k) w where
  len := by rw [List.length_take, s.len]; exact Nat.min_eq_left hk
  obj o ob ho := (s.obj o ob (by
    rw [List.getElem?_take] at ho
    split at ho
    · exact ho
    · cases ho)).cut (qxz hl ho)
  blk o ho := s.blk o (Nat.lt_of_lt_of_le ho hk)
  inj o o' ho ho' := s.inj o o' (Nat.lt_of_lt_of_le ho hk) (Nat.lt_of_lt_of_le ho' hk)
  ownlt := s.ownlt
  farlt := s.farlt
  sep := s.sep
theorem Ext.cut {Γ0 : Ctx} {w0 : World} (x : Ext Γ0 Γ w0 w) : Ext Γ0 (Γ.cut Γ0.n) w0 w := ⟨Nat.le_refl _, x.size, x.same, x.own, x.far, x.loc, x.os, x.tape, x.output⟩
theorem qmg (e : Env) : ∀ {l : List Nat} {t : Nat} {av : AV}, look (keep e l) t = some av → e.get t = some av
  | [], _, _, h => by simp [keep, look] at h
  | k :: l, t, av, h => by
    simp only [keep] at h
    split at h
    · rename_i u hu
      simp only [look] at h
      split at h
      · rename_i hk
        subst hk
        cases h
        exact hu
      · exact qmg e h
    · exact qmg e h
theorem qzp {k : Nat} : ∀ {ms : List Nat} {ds : List Deferred}, qad k ms = true → MR Γ ms ds → MR (Γ.cut k) ms ds
  | [], _, _, h => h
  | m :: ms, ds, hl, h => by
    simp only [qad, Bool.and_eq_true, decide_eq_true_eq] at hl
    simp only [MR] at h ⊢
    obtain ⟨b, ds', rfl, h1, h2, h3⟩ := h
    exact ⟨b, ds', rfl, hl.1, h2, qzp hl.2 h3⟩
theorem q1t {Γ0 : Ctx} {w0 : World} {live : List Nat} {trim : Bool} {e1 : Env} {σ1 : qq} (h : qr live trim Γ0.n e σ = some (e1, σ1)) (x : Ext Γ0 Γ w0 w) (ha : AR P Γ N e σ a w) : ∃ Γ', Ext Γ0 Γ' w0 w ∧ AR P Γ' N e1 σ1 a w := by
  unfold qr at h
  split at h
  · split at h
    · rename_i hl
      cases h
      exact ⟨Γ.cut Γ0.n, x.cut, fun t av ht => (ha.ve t av (qmg e ht)).cut _ (qtq hl.1 ht), ha.sr.cut x.n hl.2.2, ha.sz, qzp hl.2.1 ha.mr⟩
    · cases h
  · cases h
    exact ⟨Γ, x, fun t av ht => ha.ve t av (qmg e ht), ha.sr, ha.sz, ha.mr⟩
theorem q37 {Γ0 : Ctx} {w0 : World} {v : Value} (x : Ext Γ0 Γ w0 w) (s : SR P Γ σ w) (hv : VR Γ w av v) : Got P Γ0 w0 (qai Γ0.n av σ).1 (qai Γ0.n av σ).2 v w := by
  unfold qai
  split
  · rename_i hl
    exact ⟨Γ.cut Γ0.n, hv.cut _ hl.1, s.cut x.n hl.2, x.cut⟩
  · exact ⟨Γ, hv, s, x⟩
inductive Unroll (f : Env → qq → R3) (s : Env → qq → Option (Env × qq)) : Env → qq → CExit × Env × qq → Prop where
  | stop {e : Env} {σ : qq} {e1 : Env} {σ1 : qq} {x : CExit} {e2 : Env} {σ2 : qq} : s e σ = some (e1, σ1) → f e1 σ1 = some (x, e2, σ2) → x ≠ .normal → Unroll f s e σ (x, e2, σ2)
  | next {e : Env} {σ : qq} {e1 : Env} {σ1 : qq} {e2 : Env} {σ2 : qq} {r : CExit × Env × qq} : s e σ = some (e1, σ1) → f e1 σ1 = some (.normal, e2, σ2) → Unroll f s e2 σ2 r → Unroll f s e σ r
def q2a (I : q0v) : Prop := ∀ f s e σ r, I f s e σ = some r → Unroll f s e σ r
theorem qvv : ∀ m, q2a (qmb m)
  | 0 => fun f s e σ r h => by simp [qmb] at h
  | m + 1 => fun f s e σ r h => by
    simp only [qmb, Option.bind_eq_some_iff] at h
    obtain ⟨⟨e1, σ1⟩, h1, ⟨x, e2, σ2⟩, h2, h⟩ := h
    cases x with
    | normal => exact .next h1 h2 (qvv m f s e2 σ2 r h)
    | exit id => cases h; exact .stop h1 h2 (by simp)
    | ret => cases h; exact .stop h1 h2 (by simp)
def CExit.ex : CExit → Exit
  | .normal => .normal
  | .exit id => .exit id
  | .ret => .ret
def qun (P : Program) (Γ : Ctx) (w : World) (N : Nat) (x : CExit) (e' : Env) (σ' : qq) (ex : Exit) (a' : Act) (w' : World) : Prop := ex = x.ex ∧ ∃ Γ', Ext Γ Γ' w w' ∧ AR P Γ' N e' σ' a' w'
theorem qun.of_ext {x : CExit} {ex : Exit} {Γ0 : Ctx} {w0 : World} (k : Ext Γ0 Γ w0 w) (h : qun P Γ w N x e' σ' ex a' w') : qun P Γ0 w0 N x e' σ' ex a' w' := let ⟨h1, Γ', h2, h3⟩ := h; ⟨h1, Γ', k.trans h2, h3⟩
def RoOk (Γ : Ctx) : Option Nat → Option Nat → Prop
  | none, none => True
  | some o, some l => o < Γ.n ∧ ((Γ.loc o).g = 0 → l = (Γ.loc o).b)
  | _, _ => False
theorem RoOk.mono (x : Ext Γ Γ' w w') : ∀ {ro l : Option Nat}, RoOk Γ ro l → RoOk Γ' ro l
  | none, none, _ => trivial
  | some o, some l, h => by
    simp only [RoOk] at h ⊢
    refine ⟨Nat.lt_of_lt_of_le h.1 x.n, fun hg => ?_⟩
    rcases x.loc o h.1 with h4 | h4
    · rw [h4] at hg ⊢; exact h.2 hg
    · omega
  | none, some _, h => h
  | some _, none, h => h
def q4y (P : Program) (O : Orc) : Prop := ∀ k, O.ent k = true → ∀ args σ r, O.call k args σ = some r → ∀ vs w, (callFunc k vs).run P w = .ok (.enter k vs) w
def qtb (P : Program) (O : Orc) (I : q0v) (N : Nat) (c : Code) (cc : CCode) : Prop := ∀ {ro l : Option Nat} {e : Env} {σ : qq} {Γ : Ctx} {a : Act} {w : World} {x : CExit} {e' : Env} {σ' : qq}, exec O I ro cc e σ = some (x, e', σ') → AR P Γ N e σ a w → RoOk Γ ro l →
  c.wpIn (FR l) 0 P (qun P Γ w N x e' σ') a w
theorem loop_ok {O : Orc} {I : q0v} {ro l : Option Nat} {live : List Nat} {trim : Bool} {c : Code} {cc : CCode} (hc : qtb P O I N c cc) {Γ0 : Ctx} {w0 : World} (hro : RoOk Γ0 ro l) :
    ∀ {e σ r}, Unroll (exec O I ro cc) (qr live trim Γ0.n) e σ r → ∀ {Γ a w}, Ext Γ0 Γ w0 w → AR P Γ N e σ a w → ∀ (b : Frame) (k : List Item) (cs : List Frame), b.roundOf = l →
      ∃ ex a' w', qun P Γ0 w0 N r.1 r.2.1 r.2.2 ex a' w' ∧ ArrivesIn (Machine.fenced P (FR l)) P (lone (b.atR a (.code c :: .inLoop c :: k)) cs w) b k cs ex a' w' := by
  have room : ∀ n, (FR l).room n := fun n d hd => by simp [Fence.wide] at hd
  intro e σ r hu
  induction hu with
  | @stop e σ e1 σ1 x e2 σ2 h1 h2 h3 =>
    intro Γ a w hx ha b k cs hb
    obtain ⟨Γ1, x1, ha1⟩ := q1t h1 hx ha
    obtain ⟨ex, a', w', hq, harr⟩ := hc h2 ha1 (hro.mono x1) b (.inLoop c :: k) cs hb trivial (room _)
    refine ⟨ex, a', w', hq.of_ext x1, .pass (x := .inLoop c) rfl (fun _ _ => .inl ?_) harr⟩
    rw [hq.1]; cases x <;> simp [CExit.ex] at h3 ⊢
  | @next e σ e1 σ1 e2 σ2 r h1 h2 _ ih =>
    intro Γ a w hx ha b k cs hb
    obtain ⟨Γ1, x1, ha1⟩ := q1t h1 hx ha
    obtain ⟨ex, a', w', ⟨hex, Γ2, x2, ha2⟩, harr⟩ := hc h2 ha1 (hro.mono x1) b (.inLoop c :: k) cs hb trivial (room _)
    subst hex
    obtain ⟨ex', a2, w2, hq, harr2⟩ := ih (x1.trans x2) ha2 b k cs hb
    exact ⟨ex', a2, w2, hq, .of_steps (StepsIn.trans harr (.one (fenced_calm (n := 0) trivial (room _) rfl) stepR_inLoop)) harr2⟩
end Go.Ev
