/- Part of the proofs about this seat's program (module EvN). -/
import Derived.Test.YtbkabnhkclbepaaEvM
set_option linter.unusedSectionVars false
set_option linter.unusedSimpArgs false
set_option linter.unusedVariables false
namespace Go.Ev
variable {O : Orc} {e e' : Env} {σ σ' τ : Store}

def Env.put (e : Env) (d : Option Nat) : Option AV → Env
  | some r => e.set d r
  | none => e.forget d
theorem get_put (e : Env) (d : Option Nat) (x : Option AV) (t : Nat) : (e.put d x).get t = if d = some t then x else e.get t := by
  cases x with
  | some r => exact get_set e d r t
  | none => exact get_forget e d t
theorem marks_put (e : Env) (d : Option Nat) (x : Option AV) : (e.put d x).marks = e.marks := by cases x <;> simp [Env.put]
theorem Eqv.put (h : Eqv e e') (d : Option Nat) (x : Option AV) : Eqv (e.put d x) (e'.put d x) := ⟨fun t => by rw [get_put, get_put, h.1], by rw [marks_put, marks_put, h.2]⟩
theorem put_comm (e : Env) {d d' : Option Nat} (h : ∀ k, d = some k → d' ≠ some k) (x y : Option AV) : Eqv ((e.put d x).put d' y) ((e.put d' y).put d x) := by
  refine ⟨fun t => ?_, by simp [marks_put]⟩
  simp only [get_put]
  by_cases h1 : d = some t
  · rw [if_neg (h t h1), if_pos h1, if_pos h1]
  · simp [h1]

theorem evOper_mv {o : COper} {e1 : Env} {σ1 τ1 : Store} (h : evOper O e σ o = some (e1, σ1)) (ha : Agree o.reads e e') (hit : ∀ r, evItem O e σ o.it = some (r, σ1) → evItem O e τ o.it = some (r, τ1)) (hsk : σ1 = σ → τ1 = τ) :
    ∃ x, e1 = e.put o.dst x ∧ evOper O e' τ o = some (e'.put o.dst x, τ1) := by
  have ha' : Agree (itReads o.it) e e' := by rw [reads_eq] at ha; exact ha.right
  obtain ⟨e1', h1, h2⟩ := evOper_move (τ := τ) (τ1 := τ1) h ha (fun r hr => ⟨hr, by rw [← evItem_agree ha']; exact hit r hr⟩) hsk
  rcases h2 with ⟨r, rfl, rfl⟩ | ⟨rfl, rfl⟩
  · exact ⟨some r, rfl, h1⟩
  · exact ⟨some (.tup []), rfl, h1⟩
theorem evOper_st {o : COper} {e1 : Env} {σ1 : Store} (h : evOper O e σ o = some (e1, σ1)) : σ1 = σ ∨ ∃ r, evItem O e σ o.it = some (r, σ1) := by
  rcases evOper_iff.1 h with ⟨_, r, h, _⟩ | ⟨_, _, h⟩
  · exact .inr ⟨r, h⟩
  · exact .inl h

/-- What an operation that comes in ahead must be, of those that it is taken ahead of. -/
structure Ap (a b : COper) : Prop where
  free : a.it.kind.free b.it.kind = true ∨ aside a.it b.it = true
  r1 : ∀ d, a.dst = some d → d ∉ b.reads
  r2 : ∀ d, b.dst = some d → d ∉ a.reads
  ne : ∀ d, b.dst = some d → a.dst ≠ some d
theorem ap_of {a b : COper} (h : apartC a b = true) : Ap a b := by
  unfold apartC at h
  simp only [Bool.and_eq_true, Bool.or_eq_true] at h
  obtain ⟨h1, h2, h3, h4⟩ := h
  refine ⟨h1, fun d hd => ?_, fun d hd => ?_, fun d hd h5 => ?_⟩
  · simpa [disj, hd] using h2
  · simpa [disj, hd] using h3
  · simp [hd, h5] at h4
theorem agree_put {l : List Nat} {d : Option Nat} {x : Option AV} (h : ∀ k, d = some k → k ∉ l) : Agree l e (e.put d x) := fun t ht => by
  rw [get_put, if_neg]
  intro h2
  exact h t h2 ht

/-- The others, behind the one that was taken ahead: the store is the same. -/
theorem opers_same {d : Option Nat} {x : Option AV} : ∀ {l : List COper} {e e1 : Env} {σ σ1 : Store}, (∀ a ∈ l, (∀ k, d = some k → k ∉ a.reads) ∧ (∀ k, d = some k → a.dst ≠ some k)) → evOpers O l e σ = some (e1, σ1) →
    ∃ e1', evOpers O l (e.put d x) σ = some (e1', σ1) ∧ Eqv e1' (e1.put d x)
  | [], e, e1, σ, σ1, _, h => by simp only [evOpers] at h ⊢; cases h; exact ⟨_, rfl, Eqv.refl _⟩
  | o :: l, e, e1, σ, σ1, hl, h => by
    simp only [evOpers, Option.bind_eq_some_iff] at h
    obtain ⟨⟨e2, σ2⟩, h1, h2⟩ := h
    obtain ⟨ha, hb⟩ := hl o (by simp)
    obtain ⟨y, rfl, h4⟩ := evOper_mv (τ := σ) (τ1 := σ2) h1 (agree_put (d := d) (x := x) ha) (fun r hr => hr) (fun h => h)
    obtain ⟨e3, h5, h6⟩ := opers_same (d := d) (x := x) (fun a ha => hl a (List.mem_cons_of_mem _ ha)) h2
    obtain ⟨e4, h7, h8⟩ := evOpers_eqv (put_comm e (d := o.dst) (d' := d) (fun k hk hd => hb k hd hk) y x) h5
    exact ⟨e4, by simp only [evOpers, h4, Option.bind_some]; exact h7, h8.symm.trans h6⟩
/-- .. or they only read, and it is longer (or they do not even read). -/
theorem opers_longer {d : Option Nat} {x : Option AV} : ∀ {l : List COper} {e e1 : Env} {σ σ1 τ : Store}, (∀ a ∈ l, (∀ k, d = some k → k ∉ a.reads) ∧ (∀ k, d = some k → a.dst ≠ some k)) →
    ((∀ a ∈ l, a.it.kind = .pure) ∨ ((∀ a ∈ l, a.it.kind = .pure ∨ a.it.kind = .load) ∧ ∃ ρ, τ = σ ++ ρ)) → evOpers O l e σ = some (e1, σ1) →
    σ1 = σ ∧ ∃ e1', evOpers O l (e.put d x) τ = some (e1', τ) ∧ Eqv e1' (e1.put d x)
  | [], e, e1, σ, σ1, τ, _, _, h => by simp only [evOpers] at h ⊢; cases h; exact ⟨rfl, _, rfl, Eqv.refl _⟩
  | o :: l, e, e1, σ, σ1, τ, hl, hk, h => by
    simp only [evOpers, Option.bind_eq_some_iff] at h
    obtain ⟨⟨e2, σ2⟩, h1, h2⟩ := h
    obtain ⟨ha, hb⟩ := hl o (by simp)
    have hone : ∀ r, evItem O e σ o.it = some (r, σ2) → σ2 = σ ∧ evItem O e τ o.it = some (r, τ) := fun r hr => by
      rcases hk with hk | ⟨hk, ρ, rfl⟩
      · exact ⟨(pure_item (hk o (by simp)) hr).1, (pure_item (hk o (by simp)) hr).2 τ⟩
      · rcases hk o (by simp) with hk | hk
        · exact ⟨(pure_item hk hr).1, (pure_item hk hr).2 _⟩
        · exact load_up hk hr ρ
    have hσ : σ2 = σ := by
      rcases evOper_st h1 with h | ⟨r, hr⟩
      · exact h
      · exact (hone r hr).1
    subst hσ
    obtain ⟨y, rfl, h4⟩ := evOper_mv (τ := τ) (τ1 := τ) h1 (agree_put (d := d) (x := x) ha) (fun r hr => (hone r hr).2) (fun _ => rfl)
    obtain ⟨h9, e3, h5, h6⟩ := opers_longer (d := d) (x := x) (τ := τ) (fun a ha => hl a (List.mem_cons_of_mem _ ha)) (hk.imp (fun hk a ha => hk a (List.mem_cons_of_mem _ ha)) (fun hk => ⟨fun a ha => hk.1 a (List.mem_cons_of_mem _ ha), hk.2⟩)) h2
    obtain ⟨e4, h7, h8⟩ := evOpers_eqv (put_comm e (d := o.dst) (d' := d) (fun k hk hd => hb k hd hk) y x) h5
    exact ⟨h9, e4, by simp only [evOpers, h4, Option.bind_some]; exact h7, h8.symm.trans h6⟩

theorem aside_parts {a b : Item'} (h : aside a b = true) : ∃ s ag x av s' t y, a = .op (.ldD s ag x av) ∧ b = .op (.st s' (.t t) y) ∧ av.contains t = true := by
  unfold aside at h
  split at h
  · exact ⟨_, _, _, _, _, _, _, rfl, rfl, h⟩
  · cases h
theorem awayL_spec {p : AV} : ∀ {l : List Nat} {t : Nat}, awayL e p l = true → l.contains t = true → ∃ o g i off, e.get t = some (.ptr o g i off) ∧ ∀ o', p.obj? = some o' → o' ≠ o
  | [], t, _, h => by simp at h
  | u :: l, t, h, ht => by
    simp only [awayL] at h
    split at h
    · rename_i o g i off hu
      simp only [Bool.and_eq_true] at h
      by_cases hut : t = u
      · subst hut
        refine ⟨o, g, i, off, hu, fun o' ho' => ?_⟩
        have h1 := h.1
        rw [ho'] at h1
        simp only [Bool.not_eq_true', beq_eq_false_iff_ne, ne_eq] at h1
        exact fun e => h1 e.symm
      · refine awayL_spec h.2 ?_
        simpa [List.contains_cons, hut] using ht
    · cases h
/-- What a store elsewhere leaves to a load. -/
theorem ldD_other {s : Nat} {ag : Bool} {x : Opnd} {av : List Nat} {r : AV} {t o g i off : Nat} (h : evItem O e σ (.op (.ldD s ag x av)) = some (r, σ')) (ht : av.contains t = true) (he : e.get t = some (.ptr o g i off)) (hτ : ∀ k, k ≠ o → τ[k]? = σ[k]?) :
    σ' = σ ∧ evItem O e τ (.op (.ldD s ag x av)) = some (r, τ) := by
  simp only [evItem, evOp, Option.bind_eq_some_iff] at h ⊢
  obtain ⟨p, h1, h⟩ := h
  split at h
  · rename_i haw
    simp only [Option.bind_eq_some_iff] at h
    obtain ⟨cs, h2, v, h3, h⟩ := h
    cases h
    refine ⟨rfl, p, h1, ?_⟩
    rw [if_pos haw]
    simp only [Option.bind_eq_some_iff]
    refine ⟨cs, ?_, _, h3, rfl⟩
    obtain ⟨o2, g2, i2, off2, k1, k2⟩ := awayL_spec haw ht
    rw [he] at k1
    cases k1
    unfold cellsAt at h2 ⊢
    cases p <;> simp only at h2 ⊢ <;> try exact h2
    rename_i o' g' i' off'
    rw [hτ o' (k2 o' rfl)]
    exact h2
  · cases h
/-- .. or they look elsewhere than where the one that was taken ahead has written. -/
theorem opers_aside {d : Option Nat} {x : Option AV} {t o g i off : Nat} : ∀ {l : List COper} {e e1 : Env} {σ σ1 τ : Store}, (∀ a ∈ l, (∀ k, d = some k → k ∉ a.reads) ∧ (∀ k, d = some k → a.dst ≠ some k)) →
    (∀ a ∈ l, a.dst ≠ some t ∧ (a.it.kind = .pure ∨ ∃ s ag y av, a.it = .op (.ldD s ag y av) ∧ av.contains t = true)) → e.get t = some (.ptr o g i off) → (∀ k, k ≠ o → τ[k]? = σ[k]?) → evOpers O l e σ = some (e1, σ1) →
    σ1 = σ ∧ ∃ e1', evOpers O l (e.put d x) τ = some (e1', τ) ∧ Eqv e1' (e1.put d x)
  | [], e, e1, σ, σ1, τ, _, _, _, _, h => by simp only [evOpers] at h ⊢; cases h; exact ⟨rfl, _, rfl, Eqv.refl _⟩
  | q :: l, e, e1, σ, σ1, τ, hl, hk, het, hτ, h => by
    simp only [evOpers, Option.bind_eq_some_iff] at h
    obtain ⟨⟨e2, σ2⟩, h1, h2⟩ := h
    obtain ⟨ha, hb⟩ := hl q (by simp)
    obtain ⟨hd, hkq⟩ := hk q (by simp)
    have hone : ∀ r, evItem O e σ q.it = some (r, σ2) → σ2 = σ ∧ evItem O e τ q.it = some (r, τ) := fun r hr => by
      rcases hkq with hkq | ⟨s, ag, y, av, hit, hav⟩
      · exact ⟨(pure_item hkq hr).1, (pure_item hkq hr).2 τ⟩
      · rw [hit] at hr ⊢
        exact ldD_other hr hav het hτ
    have hσ : σ2 = σ := by
      rcases evOper_st h1 with h | ⟨r, hr⟩
      · exact h
      · exact (hone r hr).1
    subst hσ
    have het2 : e2.get t = some (.ptr o g i off) := by rw [(evOper_env h1).get hd]; exact het
    obtain ⟨y, rfl, h4⟩ := evOper_mv (τ := τ) (τ1 := τ) h1 (agree_put (d := d) (x := x) ha) (fun r hr => (hone r hr).2) (fun _ => rfl)
    obtain ⟨h9, e3, h5, h6⟩ := opers_aside (d := d) (x := x) (τ := τ) (fun a ha => hl a (List.mem_cons_of_mem _ ha)) (fun a ha => hk a (List.mem_cons_of_mem _ ha)) het2 hτ h2
    obtain ⟨e4, h7, h8⟩ := evOpers_eqv (put_comm e (d := q.dst) (d' := d) (fun k hk hd => hb k hd hk) y x) h5
    exact ⟨h9, e4, by simp only [evOpers, h4, Option.bind_some]; exact h7, h8.symm.trans h6⟩

theorem opers_agree {L : List Nat} : ∀ {l : List COper} {e e1 : Env} {σ σ1 : Store}, (∀ a ∈ l, ∀ k, a.dst = some k → k ∉ L) → evOpers O l e σ = some (e1, σ1) → Agree L e1 e
  | [], e, e1, σ, σ1, _, h => by simp only [evOpers] at h; cases h; exact fun _ _ => rfl
  | o :: l, e, e1, σ, σ1, hl, h => by
    simp only [evOpers, Option.bind_eq_some_iff] at h
    obtain ⟨⟨e2, σ2⟩, h1, h2⟩ := h
    have h3 := opers_agree (fun a ha => hl a (List.mem_cons_of_mem _ ha)) h2
    intro t ht
    rw [h3 t ht, (evOper_env h1).get (fun hd => hl o (by simp) t hd ht)]
theorem opers_grow : ∀ {l : List COper} {e e1 : Env} {σ σ1 : Store}, (∀ a ∈ l, a.it.kind ≠ .write) → evOpers O l e σ = some (e1, σ1) → ∃ ρ, σ1 = σ ++ ρ
  | [], e, e1, σ, σ1, _, h => by simp only [evOpers] at h; cases h; exact ⟨[], by simp⟩
  | o :: l, e, e1, σ, σ1, hl, h => by
    simp only [evOpers, Option.bind_eq_some_iff] at h
    obtain ⟨⟨e2, σ2⟩, h1, h2⟩ := h
    obtain ⟨ρ, rfl⟩ := opers_grow (fun a ha => hl a (List.mem_cons_of_mem _ ha)) h2
    have : ∃ ρ', σ2 = σ ++ ρ' := by
      rcases evOper_st h1 with rfl | ⟨r, hr⟩
      · exact ⟨[], by simp⟩
      · cases hk : o.it.kind with
        | pure => exact ⟨[], by rw [(pure_item hk hr).1]; simp⟩
        | load => exact ⟨[], by rw [(load_up hk hr []).1]; simp⟩
        | alloc => exact alloc_item hk hr
        | read => exact ⟨[], by rw [read_item hk hr]; simp⟩
        | write => exact absurd hk (hl o (by simp))
    obtain ⟨ρ', rfl⟩ := this
    exact ⟨ρ' ++ ρ, by rw [List.append_assoc]⟩

theorem opers_still : ∀ {l : List COper} {e e1 : Env} {σ σ1 : Store}, (∀ a ∈ l, a.it.kind = .pure ∨ a.it.kind = .load ∨ a.it.kind = .read) → evOpers O l e σ = some (e1, σ1) → σ1 = σ
  | [], e, e1, σ, σ1, _, h => by simp only [evOpers] at h; cases h; rfl
  | o :: l, e, e1, σ, σ1, hl, h => by
    simp only [evOpers, Option.bind_eq_some_iff] at h
    obtain ⟨⟨e2, σ2⟩, h1, h2⟩ := h
    rw [opers_still (fun a ha => hl a (List.mem_cons_of_mem _ ha)) h2]
    rcases evOper_st h1 with h | ⟨r, hr⟩
    · exact h
    · rcases hl o (by simp) with hk | hk | hk
      · exact (pure_item hk hr).1
      · exact (load_up hk hr []).1
      · exact read_item hk hr
/-- AN OPERATION THAT WAITS FOR NONE OF THOSE AHEAD OF IT MAY BE TAKEN FIRST. -/
theorem move_front {l : List COper} {o : COper} {e1 e2 : Env} {σ1 σ2 : Store} (hl : ∀ a ∈ l, Ap a o) (hkn : Known σ.length e) (hc : loadC' o.it = true) (h1 : evOpers O l e σ = some (e1, σ1)) (h2 : evOper O e1 σ1 o = some (e2, σ2)) :
    ∃ e1' τ, evOper O e σ o = some (e1', τ) ∧ ∃ e2', evOpers O l e1' τ = some (e2', σ2) ∧ Eqv e2' e2 := by
  have hag : Agree o.reads e1 e := opers_agree (fun a ha k hk => (hl a ha).r1 k hk) h1
  have hag' : Agree (itReads o.it) e1 e := by rw [reads_eq] at hag; exact hag.right
  have hd : ∀ a ∈ l, (∀ k, o.dst = some k → k ∉ a.reads) ∧ (∀ k, o.dst = some k → a.dst ≠ some k) := fun a ha => ⟨(hl a ha).r2, (hl a ha).ne⟩
  cases hk : o.it.kind with
  | pure =>
    have hσ : σ2 = σ1 := by
      rcases evOper_st h2 with h | ⟨r, hr⟩
      · exact h
      · exact (pure_item hk hr).1
    subst hσ
    obtain ⟨x, rfl, h3⟩ := evOper_mv (τ := σ) (τ1 := σ) h2 hag (fun r hr => (pure_item hk hr).2 σ) (fun _ => rfl)
    obtain ⟨e3, h4, h5⟩ := opers_same (x := x) hd h1
    exact ⟨_, _, h3, e3, h4, h5⟩
  | load =>
    have hnw : ∀ a ∈ l, a.it.kind ≠ .write := fun a ha hw => by
      rcases (hl a ha).free with this | this
      · rw [hk, hw] at this
        cases this
      · obtain ⟨_, _, _, _, _, _, _, _, q, _⟩ := aside_parts this
        rw [q] at hk; cases hk
    obtain ⟨ρ, rfl⟩ := opers_grow hnw h1
    have hσ : σ2 = σ ++ ρ := by
      rcases evOper_st h2 with h | ⟨r, hr⟩
      · exact h
      · exact (load_up hk hr []).1
    subst hσ
    obtain ⟨x, rfl, h3⟩ := evOper_mv (e' := e) (τ := σ) (τ1 := σ) h2 hag (fun r hr => by
      rw [evItem_agree hag'] at hr ⊢
      exact load_down hk hkn hc hr) (fun _ => rfl)
    obtain ⟨e3, h4, h5⟩ := opers_same (x := x) hd h1
    exact ⟨_, _, h3, e3, h4, h5⟩
  | alloc =>
    have hpl : ∀ a ∈ l, a.it.kind = .pure ∨ a.it.kind = .load := fun a ha => by
      rcases (hl a ha).free with this | this
      · rw [hk] at this
        revert this
        cases a.it.kind <;> simp [Kind.free]
      · obtain ⟨_, _, _, _, _, _, _, _, q, _⟩ := aside_parts this
        rw [q] at hk; cases hk
    have hσ : σ1 = σ := by
      have := opers_longer (d := none) (x := none) (τ := σ) (fun a ha => ⟨fun k h => (by cases h), fun k h => (by cases h)⟩) (.inr ⟨hpl, [], by simp⟩) h1
      exact this.1
    subst hσ
    obtain ⟨x, rfl, h3⟩ := evOper_mv (τ := σ1) (τ1 := σ2) h2 hag (fun r hr => hr) (fun h => h)
    have hρ : ∃ ρ, σ2 = σ1 ++ ρ := by
      rcases evOper_st h2 with rfl | ⟨r, hr⟩
      · exact ⟨[], by simp⟩
      · exact alloc_item hk hr
    obtain ⟨_, e3, h4, h5⟩ := opers_longer (x := x) (τ := σ2) hd (.inr ⟨hpl, hρ⟩) h1
    exact ⟨_, _, h3, e3, h4, h5⟩
  | read =>
    have hpl : ∀ a ∈ l, a.it.kind = .pure ∨ a.it.kind = .load ∨ a.it.kind = .read := fun a ha => by
      rcases (hl a ha).free with this | this
      · rw [hk] at this
        revert this
        cases a.it.kind <;> simp [Kind.free]
      · obtain ⟨_, _, _, _, _, _, _, _, q, _⟩ := aside_parts this
        rw [q] at hk; cases hk
    have hσ := opers_still hpl h1
    subst hσ
    have hσ2 : σ2 = σ1 := by
      rcases evOper_st h2 with h | ⟨r, hr⟩
      · exact h
      · exact read_item hk hr
    subst hσ2
    obtain ⟨x, rfl, h3⟩ := evOper_mv (τ := σ2) (τ1 := σ2) h2 hag (fun r hr => hr) (fun h => h)
    obtain ⟨e3, h4, h5⟩ := opers_same (x := x) hd h1
    exact ⟨_, _, h3, e3, h4, h5⟩
  | write =>
    by_cases hpl : ∀ a ∈ l, a.it.kind = .pure
    · have hσ : σ1 = σ := by
        have := opers_longer (d := none) (x := none) (τ := σ) (fun a ha => ⟨fun k h => (by cases h), fun k h => (by cases h)⟩) (.inl hpl) h1
        exact this.1
      subst hσ
      obtain ⟨x, rfl, h3⟩ := evOper_mv (τ := σ1) (τ1 := σ2) h2 hag (fun r hr => hr) (fun h => h)
      obtain ⟨_, e3, h4, h5⟩ := opers_longer (x := x) (τ := σ2) hd (.inl hpl) h1
      exact ⟨_, _, h3, e3, h4, h5⟩
    · have hex : ∃ a ∈ l, aside a.it o.it = true := by
        simp only [Classical.not_forall] at hpl
        obtain ⟨a, ha, hne⟩ := hpl
        refine ⟨a, ha, (hl a ha).free.resolve_left fun this => ?_⟩
        rw [hk] at this
        revert this hne
        cases a.it.kind <;> simp [Kind.free]
      obtain ⟨a0, ha0, has⟩ := hex
      obtain ⟨_, _, _, _, s', t, y, _, hot, _⟩ := aside_parts has
      have hall : ∀ a ∈ l, a.dst ≠ some t ∧ (a.it.kind = .pure ∨ ∃ s ag y av, a.it = .op (.ldD s ag y av) ∧ av.contains t = true) := fun a ha => by
        refine ⟨fun hda => (hl a ha).r1 t hda ?_, ?_⟩
        · rw [reads_eq, hot]
          exact List.mem_append_right _ (by simp [itReads, COp.reads, opT])
        · rcases (hl a ha).free with this | this
          · left
            rw [hk] at this
            revert this
            cases a.it.kind <;> simp [Kind.free]
          · obtain ⟨s, ag, x, av, _, t2, _, q1, q2, q3⟩ := aside_parts this
            rw [hot] at q2
            cases q2
            exact .inr ⟨s, ag, x, av, q1, q3⟩
      have hett : e1.get t = e.get t := hag t (by rw [reads_eq, hot]; exact List.mem_append_right _ (by simp [itReads, COp.reads, opT]))
      have hσ : σ1 = σ := by
        clear h2
        have : ∀ (l : List COper), (∀ a ∈ l, a.it.kind = .pure ∨ ∃ s ag y av, a.it = .op (.ldD s ag y av) ∧ av.contains t = true) → ∀ {e e1 : Env} {σ σ1 : Store}, evOpers O l e σ = some (e1, σ1) → σ1 = σ := by
          intro l
          induction l with
          | nil => intro _ e e1 σ σ1 h; simp only [evOpers] at h; cases h; rfl
          | cons q l ih =>
            intro hq e e1 σ σ1 h
            simp only [evOpers, Option.bind_eq_some_iff] at h
            obtain ⟨⟨e2, σ2⟩, k1, k2⟩ := h
            rw [ih (fun a ha => hq a (List.mem_cons_of_mem _ ha)) k2]
            rcases evOper_st k1 with h | ⟨r, hr⟩
            · exact h
            · rcases hq q (by simp) with hp | ⟨s, ag, y, av, hit, _⟩
              · exact (pure_item hp hr).1
              · exact (load_up (by rw [hit]; rfl) hr []).1
        exact this l (fun a ha => (hall a ha).2) h1
      subst hσ
      obtain ⟨x, rfl, h3⟩ := evOper_mv (τ := σ1) (τ1 := σ2) h2 hag (fun r hr => hr) (fun h => h)
      by_cases hsame : σ2 = σ1
      · subst hsame
        -- the store was passed over, or has changed nothing
        have hpl2 : ∀ a ∈ l, a.it.kind = .pure ∨ a.it.kind = .load := fun a ha => (hall a ha).2.imp id fun ⟨_, _, _, _, q, _⟩ => by rw [q]; rfl
        obtain ⟨_, e3, h4, h5⟩ := opers_longer (x := x) (τ := σ2) hd (.inr ⟨hpl2, [], by simp⟩) h1
        exact ⟨_, _, h3, e3, h4, h5⟩
      · rcases evOper_st h2 with h | ⟨r, hr⟩
        · exact absurd h hsame
        · rw [hot] at hr
          simp only [evItem, evOp, Option.bind_eq_some_iff] at hr
          obtain ⟨p, p1, v, p2, hr⟩ := hr
          split at hr
          · rename_i oo g i off
            have het : e.get t = some (.ptr oo g i off) := by rw [← hett]; exact p1
            have hτ : ∀ k, k ≠ oo → σ2[k]? = σ1[k]? := by
              split at hr
              · rw [Option.bind_eq_some_iff] at hr
                obtain ⟨c, _, hr⟩ := hr
                split at hr
                · cases hr
                  intro k hk2
                  rw [List.getElem?_set_ne (fun h => hk2 h.symm)]
                · cases hr
              · cases hr
            obtain ⟨_, e3, h4, h5⟩ := opers_aside (x := x) (τ := σ2) hd hall het hτ h1
            exact ⟨_, _, h3, e3, h4, h5⟩
          · cases hr
end Go.Ev
