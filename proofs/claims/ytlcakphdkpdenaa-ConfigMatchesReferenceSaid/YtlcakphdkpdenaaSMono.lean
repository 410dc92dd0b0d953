/- Part of the proofs about this seat's program (module SMono). -/
import Derived.Test.YtlcakphdkpdenaaSHead
set_option linter.unusedSectionVars false
set_option linter.unusedSimpArgs false
set_option linter.unusedVariables false
namespace Go.Proofs.Ytlcakphdkpdenaa.K
open Go.Ev
set_option linter.unusedSimpArgs false
set_option linter.unusedVariables false
set_option maxRecDepth 10000
/-! ### What Check says, asked in full -/
theorem checkZ_zero {p : List OpI} {ps lps look : Int} : checkZ p ps lps look = 0 ↔ shapeB p = true ∧ p.all (fun x => operB x p.length ps) = true ∧ p.all (tgtB lps) = true ∧ p.all (earlyB look) = true := by
  unfold checkZ
  cases shapeB p <;> cases p.all (fun x => operB x p.length ps) <;> cases p.all (tgtB lps) <;> cases p.all (earlyB look) <;> decide
theorem checkZ_early {p : List OpI} {ps lps look : Int} : checkZ p ps lps look = 21 ↔ shapeB p = true ∧ p.all (fun x => operB x p.length ps) = true ∧ p.all (tgtB lps) = true ∧ p.all (earlyB look) = false := by
  unfold checkZ
  cases shapeB p <;> cases p.all (fun x => operB x p.length ps) <;> cases p.all (tgtB lps) <;> cases p.all (earlyB look) <;> decide
theorem operB_mono {x : OpI} {n ps ps' : Int} (h : ps ≤ ps') (ho : operB x n ps = true) : operB x n ps' = true := by
  obtain ⟨k, a, b, c⟩ := x
  by_cases k5 : k = 5
  · subst k5
    simp only [operB, show ¬ (5 : Int) = 1 from by decide, show ¬ (5 : Int) = 2 from by decide, show ¬ (5 : Int) = 3 from by decide, if_true, if_false, Bool.and_eq_true, decide_eq_true_eq] at ho ⊢
    exact ⟨ho.1, by omega, ho.2.2⟩
  · simp only [operB, k5, if_false] at ho ⊢
    exact ho
theorem tgtB_mono {x : OpI} {l l' : Int} (h : l ≤ l') (ho : tgtB l x = true) : tgtB l' x = true := by
  simp only [tgtB, Bool.not_eq_true', Bool.and_eq_false_iff, decide_eq_false_iff_not] at ho ⊢
  omega
theorem earlyB_mono {x : OpI} {l l' : Int} (h : l' ≤ l) (ho : earlyB l x = true) : earlyB l' x = true := by
  simp only [earlyB, Bool.not_eq_true', Bool.and_eq_false_iff, decide_eq_false_iff_not] at ho ⊢
  omega
theorem oper_send {x : OpI} {n ps : Int} (h : operB x n ps = true) (hc : x.code = 2) : 1 ≤ x.c ∧ x.c ≤ 1099511627776 := by
  simp only [operB, hc, delayB, Bool.and_eq_true, decide_eq_true_eq, show ¬ (2 : Int) = 1 from by decide, if_true, if_false] at h
  omega
theorem cfgZ_zero {c : Cfg} : cfgZ c = 0 ↔ sizesB c = true ∧ c.look ≥ 1 ∧ (∀ p ∈ c.progs, progZ c p = 0) ∧ ∀ l ∈ c.lps, ∀ s ∈ l, startE c s = 0 := by
  unfold cfgZ
  rw [firstE_zero]
  simp only [cfgL, List.mem_cons, List.not_mem_nil, or_false]
  constructor
  · intro h
    have h1 := h _ (.inl rfl)
    have h2 := h _ (.inr (.inl rfl))
    have h3 := h _ (.inr (.inr (.inl rfl)))
    have h4 := h _ (.inr (.inr (.inr rfl)))
    simp only at h1 h2 h3 h4
    refine ⟨?_, ?_, firstE_zero.1 h3, fun l hl => firstE_zero.1 (firstE_zero.1 h4 l hl)⟩
    · cases hs : sizesB c with
      | true => rfl
      | false => rw [hs] at h1; cases h1
    · by_cases hl : c.look ≥ 1
      · exact hl
      · simp [okZ, hl] at h2
  · rintro ⟨h1, h2, h3, h4⟩ x (rfl | rfl | rfl | rfl)
    · simp [h1, okZ]
    · simp [h2, okZ]
    · exact firstE_zero.2 h3
    · exact firstE_zero.2 fun l hl => firstE_zero.2 (h4 l hl)
/-- The first rule that is broken. -/
theorem cfgZ_sizes {c : Cfg} (h : sizesB c = false) : cfgZ c = 1 := by
  unfold cfgZ cfgL firstE; rw [h]; rfl
theorem cfgZ_look {c : Cfg} (h1 : sizesB c = true) (h2 : ¬ c.look ≥ 1) : cfgZ c = 20 := by
  unfold cfgZ cfgL firstE; rw [h1]; simp [h2, okZ]
theorem cfgZ_progs {c : Cfg} (h1 : sizesB c = true) (h2 : c.look ≥ 1) (h3 : firstE (progZ c) c.progs ≠ 0) : cfgZ c = firstE (progZ c) c.progs := by
  unfold cfgZ
  generalize hz : firstE (progZ c) c.progs = z at h3
  unfold cfgL
  rw [hz, h1]
  unfold firstE; simp [h2, okZ, h3]
theorem cfgZ_starts {c : Cfg} (h1 : sizesB c = true) (h2 : c.look ≥ 1) (h3 : firstE (progZ c) c.progs = 0) : cfgZ c = firstE (firstE (startE c)) c.lps := by
  unfold cfgZ
  generalize hz : firstE (firstE (startE c)) c.lps = z
  unfold cfgL
  rw [hz, h3, h1]
  by_cases h : z = 0 <;> (unfold firstE; simp [h2, okZ, h])
/-- All answers are 0 or e, and one is not 0. -/
theorem firstE_one {τ : Type} {g : τ → Int} {l : List τ} {e : Int} (h : ∀ x ∈ l, g x = 0 ∨ g x = e) (k : ∃ x ∈ l, g x ≠ 0) : firstE g l = e := by
  obtain ⟨x, hx, hne⟩ := k
  have hz : firstE g l ≠ 0 := fun hz => hne (firstE_zero.1 hz x hx)
  unfold firstE at hz ⊢
  split
  · rename_i hn; rw [hn] at hz; exact absurd rfl hz
  · rename_i y hy
    rw [hy] at hz
    exact (h y (List.mem_of_find?_eq_some hy)).resolve_left hz
/-! ### The least delay of a send -/
theorem minProg_le (p : List OpI) (a : Int) : minProg a p ≤ a ∧ (∀ x ∈ p, x.code = 2 → minProg a p ≤ x.c) ∧ (minProg a p = a ∨ ∃ x ∈ p, x.code = 2 ∧ minProg a p = x.c) := by
  induction p generalizing a with
  | nil => exact ⟨Int.le_refl _, by simp, .inl rfl⟩
  | cons y p ih =>
    obtain ⟨h1, h2, h3⟩ := ih (minStep a y)
    have e : minProg a (y :: p) = minProg (minStep a y) p := rfl
    rw [e]
    have hs : minStep a y ≤ a ∧ (y.code = 2 → minStep a y ≤ y.c) ∧ (minStep a y = a ∨ (y.code = 2 ∧ minStep a y = y.c)) := by
      unfold minStep
      by_cases hc : y.code = 2
      · simp only [hc, if_true, true_and, forall_const]; split <;> omega
      · simp [hc]
    refine ⟨by omega, ?_, ?_⟩
    · intro x hx hc
      rcases List.mem_cons.1 hx with rfl | hx
      · have := hs.2.1 hc; omega
      · exact h2 x hx hc
    · rcases h3 with h3 | ⟨x, hx, hc, h3⟩
      · rcases hs.2.2 with h4 | ⟨h4, h5⟩
        · exact .inl (by omega)
        · exact .inr ⟨y, by simp, h4, by omega⟩
      · exact .inr ⟨x, by simp [hx], hc, h3⟩
theorem minAll_le (ps : List (List OpI)) (a : Int) : ps.foldl minProg a ≤ a ∧ (∀ p ∈ ps, ∀ x ∈ p, x.code = 2 → ps.foldl minProg a ≤ x.c) ∧ (ps.foldl minProg a = a ∨ ∃ p ∈ ps, ∃ x ∈ p, x.code = 2 ∧ ps.foldl minProg a = x.c) := by
  induction ps generalizing a with
  | nil => exact ⟨Int.le_refl _, by simp, .inl rfl⟩
  | cons q ps ih =>
    obtain ⟨h1, h2, h3⟩ := ih (minProg a q)
    obtain ⟨k1, k2, k3⟩ := minProg_le q a
    rw [List.foldl_cons]
    refine ⟨by omega, ?_, ?_⟩
    · intro p hp x hx hc
      rcases List.mem_cons.1 hp with rfl | hp
      · have := k2 x hx hc; omega
      · exact h2 p hp x hx hc
    · rcases h3 with h3 | ⟨p, hp, x, hx, hc, h3⟩
      · rcases k3 with k3 | ⟨x, hx, hc, k3⟩
        · exact .inl (by omega)
        · exact .inr ⟨q, by simp, x, hx, hc, by omega⟩
      · exact .inr ⟨p, by simp [hp], x, hx, hc, h3⟩
theorem startE_look (c : Cfg) (n : Int) (s : Start) : startE (withLook c n) s = startE c s := rfl
theorem sizesB_look (c : Cfg) (n : Int) : sizesB (withLook c n) = sizesB c := rfl
/-- Another lookahead: what it says of a configuration that holds otherwise. -/
theorem cfgZ_withLook {c : Cfg} (hz : cfgZ c = 0) {n : Int} (hn : 1 ≤ n) : cfgZ (withLook c n) = if c.progs.foldl minProg 1099511627776 < n ∧ ∃ p ∈ c.progs, ∃ x ∈ p, x.code = 2 ∧ x.c < n then 21 else 0 := by
  obtain ⟨h1, h2, h3, h4⟩ := cfgZ_zero.1 hz
  by_cases he : ∃ p ∈ c.progs, ∃ x ∈ p, x.code = 2 ∧ x.c < n
  · obtain ⟨p, hp, x, hx, hc, hlt⟩ := he
    have hm := (minAll_le c.progs 1099511627776).2.1 p hp x hx hc
    rw [if_pos ⟨by omega, p, hp, x, hx, hc, hlt⟩]
    have h0 : ∀ q ∈ c.progs, progZ (withLook c n) q = 0 ∨ progZ (withLook c n) q = 21 := fun q hq => by
      obtain ⟨a1, a2, a3, a4⟩ := checkZ_zero.1 (h3 q hq)
      cases hb : q.all (earlyB n) with
      | true => exact .inl (checkZ_zero.2 ⟨a1, a2, a3, hb⟩)
      | false => exact .inr (checkZ_early.2 ⟨a1, a2, a3, hb⟩)
    have h5 : progZ (withLook c n) p ≠ 0 := fun h => by
      have := (checkZ_zero.1 h).2.2.2
      rw [List.all_eq_true] at this
      have h9 : earlyB n x = true := this x hx
      simp [earlyB, hc] at h9
      omega
    have h6 := firstE_one h0 ⟨p, hp, h5⟩
    rw [cfgZ_progs (by exact h1) (by exact hn) (by show firstE (progZ (withLook c n)) c.progs ≠ 0; rw [h6]; decide)]
    exact h6
  · rw [if_neg fun h => he h.2]
    refine cfgZ_zero.2 ⟨h1, hn, fun q hq => ?_, h4⟩
    obtain ⟨a1, a2, a3, a4⟩ := checkZ_zero.1 (h3 q hq)
    refine checkZ_zero.2 ⟨a1, a2, a3, List.all_eq_true.2 fun x hx => ?_⟩
    show earlyB n x = true
    cases h9 : earlyB n x with
    | true => rfl
    | false =>
      simp [earlyB] at h9
      exact absurd ⟨q, hq, x, hx, h9.1, by omega⟩ he
end Go.Proofs.Ytlcakphdkpdenaa.K
