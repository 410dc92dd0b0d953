/- Part of the proofs about this seat's program (module SLaw2). -/
import Derived.Test.YtnmpkmakkniidaaSLaw1
set_option linter.unusedSectionVars false
set_option linter.unusedSimpArgs false
set_option linter.unusedVariables false
namespace Go.Proofs.Ytnmpkmakkniidaa.K
open Go.Ev
set_option linter.unusedSimpArgs false
set_option linter.unusedVariables false
/-- The place of a time among the buckets. -/
def place (f w t : Int) : Nat := ((t - f) / w).toNat
def putS (f w : Int) (x : Item) (s : Int × List (List Item)) : Int × List (List Item) :=
  if x.time < f + s.1 * w ∨ f + 8 * w ≤ x.time then s else (s.1, s.2.set (place f w x.time) ((s.2[place f w x.time]?).getD [] ++ [x]))
def nextS' (s : Int × List (List Item)) : Int × List (List Item) := match firstNE s.2 with
  | none => (8, s.2)
  | some k => ((k : Int) + 1, s.2.set k [])
def stepR (f w : Int) (s : Int × List (List Item)) (o : Op) : Int × List (List Item) := if o.next = true then nextS' s else putS f w (itemOf f w o) s
/-- What holds of every rung that is reached. -/
structure Inv (f w : Int) (n : Nat) (s : Int × List (List Item)) : Prop where
  len : s.2.length = 8
  cur : 0 ≤ s.1 ∧ s.1 ≤ 8
  tot : total s.2 ≤ n
  all : ∀ (k : Nat) (b : List Item) (x : Item), s.2[k]? = some b → x ∈ b → s.1 ≤ (k : Int) ∧ f + k * w ≤ x.time ∧ x.time < f + (k + 1) * w
theorem total_ge {bs : List (List Item)} : ∀ {k : Nat} {b : List Item}, bs[k]? = some b → b.length ≤ total bs := by
  intro k b h
  have h1 := total_append (bs.take k) (bs.drop k)
  rw [List.take_append_drop] at h1
  obtain ⟨hk, rfl⟩ := List.getElem?_eq_some_iff.1 h
  rw [← List.getElem_cons_drop hk] at h1
  simp only [total] at h1
  omega
theorem total_set {bs : List (List Item)} {k : Nat} {b xs : List Item} (h : bs[k]? = some b) : total (bs.set k xs) + b.length = total bs + xs.length := by
  obtain ⟨hk, rfl⟩ := List.getElem?_eq_some_iff.1 h
  have h1 := total_append (bs.take k) (bs.drop k)
  rw [List.take_append_drop, ← List.getElem_cons_drop hk] at h1
  rw [List.set_eq_take_append_cons_drop, if_pos hk, total_append]
  simp only [total] at h1 ⊢
  omega
theorem Inv.small {f w : Int} {n : Nat} {s : Int × List (List Item)} (h : Inv f w n s) (hn : n ≤ 2 ^ 32) : s.2.length * 24 ≤ 2 ^ 47 ∧ s.2.length < 2 ^ 62 ∧ ∀ b ∈ s.2, b.length < 2 ^ 62 ∧ (b.length + 1) * 24 ≤ 2 ^ 47 := by
  refine ⟨by rw [h.len]; omega, by rw [h.len]; omega, fun b hb => ?_⟩
  obtain ⟨k, hk, hb⟩ := List.mem_iff_getElem.1 hb
  have := total_ge (bs := s.2) (k := k) (b := b) (by rw [List.getElem?_eq_getElem hk, hb])
  have := h.tot
  omega
/-- The place of a time that is let in. -/
theorem place_ok {f w c t : Int} (hw : 1 ≤ w) (hc : 0 ≤ c) (h1 : ¬ t < f + c * w) (h2 : ¬ f + 8 * w ≤ t) : c ≤ (place f w t : Int) ∧ place f w t < 8 ∧ f + (place f w t : Int) * w ≤ t ∧ t < f + ((place f w t : Int) + 1) * w := by
  have h0 : 0 ≤ c * w := Int.mul_nonneg hc (by omega)
  have hd0 : 0 ≤ (t - f) / w := Int.ediv_nonneg (by omega) (by omega)
  have hpl : (place f w t : Int) = (t - f) / w := Int.toNat_of_nonneg hd0
  rw [hpl]
  have he := Int.emod_add_mul_ediv (t - f) w
  have hm0 : 0 ≤ (t - f) % w := Int.emod_nonneg _ (by omega)
  have hm1 : (t - f) % w < w := Int.emod_lt_of_pos _ (by omega)
  have hcomm : w * ((t - f) / w) = ((t - f) / w) * w := Int.mul_comm _ _
  have hlt : (t - f) / w < 8 := Int.ediv_lt_of_lt_mul (by omega) (by omega)
  have hge : c ≤ (t - f) / w := Int.le_ediv_of_mul_le (by omega) (by omega)
  have hadd : ((t - f) / w + 1) * w = ((t - f) / w) * w + w := by rw [Int.add_mul, Int.one_mul]
  refine ⟨hge, by omega, by omega, by omega⟩
theorem place_w64 {f w c t : Int} (hd : Dim f w) (hc : 0 ≤ c) (h1 : ¬ t < f + c * w) (h2 : ¬ f + 8 * w ≤ t) : w64 (Int.tdiv (w64 (t - f)) w) = (place f w t : Int) := by
  obtain ⟨hf, hw⟩ := hd
  have h0 : 0 ≤ c * w := Int.mul_nonneg hc (by omega)
  have hpl := place_ok hw.1 hc h1 h2
  have e1 : w64 (t - f) = t - f := w64_small (by omega) (by omega)
  have e2 : (t - f).tdiv w = (t - f) / w := Int.tdiv_eq_ediv_of_nonneg (by omega)
  have hd0 : 0 ≤ (t - f) / w := Int.ediv_nonneg (by omega) (by omega)
  have e3 : (place f w t : Int) = (t - f) / w := Int.toNat_of_nonneg hd0
  rw [e1, e2, ← e3]
  exact w64_small (by omega) (by omega)
theorem Inv.put {f w : Int} (hw : 1 ≤ w) {n : Nat} {s : Int × List (List Item)} (h : Inv f w n s) (x : Item) : Inv f w (n + 1) (putS f w x s) := by
  unfold putS
  split
  · exact ⟨h.len, h.cur, Nat.le_succ_of_le h.tot, h.all⟩
  · rename_i hin
    rw [not_or] at hin
    obtain ⟨p1, p2, p3, p4⟩ := place_ok hw h.cur.1 hin.1 hin.2
    obtain ⟨b, hb⟩ : ∃ b, s.2[place f w x.time]? = some b := ⟨_, List.getElem?_eq_getElem (by rw [h.len]; exact p2)⟩
    rw [hb]
    refine ⟨by simp [h.len], h.cur, ?_, ?_⟩
    · have := total_set (xs := b ++ [x]) hb
      have := h.tot
      simp only [Option.getD_some, List.length_append, List.length_cons, List.length_nil] at *
      omega
    · intro k b' y hk hy
      simp only [Option.getD_some] at hk
      rw [List.getElem?_set] at hk
      split at hk
      · rename_i hkk
        subst hkk
        split at hk
        · cases hk
          rcases List.mem_append.1 hy with hy | hy
          · exact h.all _ _ _ hb hy
          · simp at hy; subst hy; exact ⟨p1, p3, p4⟩
        · cases hk
      · exact h.all _ _ _ hk hy
theorem firstNE_empty : ∀ {bs : List (List Item)}, firstNE bs = none → ∀ b ∈ bs, b = []
  | [], _, b, hb => by cases hb
  | (y :: ys) :: bs, h, _, _ => by simp [firstNE] at h
  | [] :: bs, h, b, hb => by
    simp only [firstNE, Option.map_eq_none_iff] at h
    rcases List.mem_cons.1 hb with rfl | hb
    · rfl
    · exact firstNE_empty h b hb
theorem Inv.next {f w : Int} {n : Nat} {s : Int × List (List Item)} (h : Inv f w n s) : Inv f w n (nextS' s) := by
  unfold nextS'
  split
  · rename_i hn
    refine ⟨h.len, by simp, h.tot, fun k b x hk hx => ?_⟩
    rw [firstNE_empty hn b (List.mem_of_getElem? hk)] at hx
    cases hx
  · rename_i k hk
    obtain ⟨h1, b, h2, h3⟩ := firstNE_some hk
    have hlt := (List.getElem?_eq_some_iff.1 h2).1
    refine ⟨by simp [h.len], by have := h.len; simp only; omega, ?_, ?_⟩
    · have := total_set (xs := []) h2
      have := h.tot
      simp only [List.length_nil] at *
      omega
    · intro j b' y hj hy
      simp only at hj ⊢
      rw [List.getElem?_set] at hj
      split at hj
      · cases hj; cases hy
      · rename_i hjk
        have hold := h.all j b' y hj hy
        refine ⟨?_, hold.2⟩
        have : ¬ j < k := by
          intro hjk'
          have := h1 b' (List.mem_of_getElem? (i := j) (by rw [List.getElem?_take, if_pos hjk']; exact hj))
          rw [this] at hy; cases hy
        omega
end Go.Proofs.Ytnmpkmakkniidaa.K
