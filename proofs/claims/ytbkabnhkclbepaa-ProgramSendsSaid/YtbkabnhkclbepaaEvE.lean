/- Part of the proofs about this seat's program (module EvE). -/
import Derived.Test.YtbkabnhkclbepaaEvD
import Derived.Laws.CopyRow
import Derived.Laws.AppendOwn
import Derived.Deep.AppendSrc
import Derived.Laws.MakeOwn
import Derived.Laws.Slices
import Derived.Laws.Rows
set_option linter.unusedSectionVars false
set_option linter.unusedSimpArgs false
set_option linter.unusedVariables false
namespace Go.Ev
variable {Γ Γ' : Ctx} {w w' : World}

/-! ### Rows of abstract values -/
theorem VRs.length : ∀ {as : List AV} {vs : List Value}, VRs Γ w as vs → vs.length = as.length
  | [], vs, h => by simp only [VRs] at h; simp [h]
  | a :: as, vs, h => by
    simp only [VRs] at h
    obtain ⟨u, us, rfl, _, h2⟩ := h
    simp [VRs.length h2]
theorem VRs.append : ∀ {as bs : List AV} {vs us : List Value}, VRs Γ w as vs → VRs Γ w bs us → VRs Γ w (as ++ bs) (vs ++ us)
  | [], bs, vs, us, h, k => by simp only [VRs] at h; simpa [h] using k
  | a :: as, bs, vs, us, h, k => by
    simp only [VRs] at h
    obtain ⟨u, us', rfl, h1, h2⟩ := h
    simp only [List.cons_append, VRs]
    exact ⟨u, _, rfl, h1, VRs.append h2 k⟩
theorem VRs.get : ∀ {as : List AV} {vs : List Value}, VRs Γ w as vs → ∀ {i : Nat} {a : AV}, as[i]? = some a → ∃ v, vs[i]? = some v ∧ VR Γ w a v
  | [], vs, _, i, a, h => by simp at h
  | b :: as, vs, h, i, a, hi => by
    simp only [VRs] at h
    obtain ⟨u, us, rfl, h1, h2⟩ := h
    cases i with
    | zero => simp at hi; subst hi; exact ⟨u, by simp, h1⟩
    | succ i => simpa using VRs.get h2 (by simpa using hi)
theorem VRs.take : ∀ (n : Nat) {as : List AV} {vs : List Value}, VRs Γ w as vs → VRs Γ w (as.take n) (vs.take n)
  | 0, as, vs, h => by simp [VRs]
  | n + 1, [], vs, h => by simp only [VRs] at h; simp [h, VRs]
  | n + 1, a :: as, vs, h => by
    simp only [VRs] at h
    obtain ⟨u, us, rfl, h1, h2⟩ := h
    simp only [List.take_succ_cons, VRs]
    exact ⟨u, _, rfl, h1, VRs.take n h2⟩
theorem VRs.drop : ∀ (n : Nat) {as : List AV} {vs : List Value}, VRs Γ w as vs → VRs Γ w (as.drop n) (vs.drop n)
  | 0, as, vs, h => by simpa using h
  | n + 1, [], vs, h => by simp only [VRs] at h; simp [h, VRs]
  | n + 1, a :: as, vs, h => by
    simp only [VRs] at h
    obtain ⟨u, us, rfl, h1, h2⟩ := h
    simpa using VRs.drop n h2
theorem VRs.of_get : ∀ {as : List AV} {vs : List Value}, vs.length = as.length → (∀ (i : Nat) (a : AV) (v : Value), as[i]? = some a → vs[i]? = some v → VR Γ w a v) → VRs Γ w as vs
  | [], vs, h, _ => by simp only [VRs]; exact List.length_eq_zero_iff.1 (by simpa using h)
  | a :: as, [], h, _ => by simp at h
  | a :: as, v :: vs, h, k => by
    simp only [VRs]
    exact ⟨v, vs, rfl, k 0 a v (by simp) (by simp), VRs.of_get (by simpa using h) fun i b u hb hu => k (i + 1) b u (by simpa using hb) (by simpa using hu)⟩

theorem VRcells.list : ∀ {as : List AV} {get : Nat → Option Value}, VRcells Γ w as get → ∃ vs, VRs Γ w as vs ∧ ∀ j v, vs[j]? = some v → get j = some v
  | [], get, _ => ⟨[], by simp [VRs], by simp⟩
  | a :: as, get, h => by
    simp only [VRcells] at h
    obtain ⟨⟨u, h1, h2⟩, h3⟩ := h
    obtain ⟨vs, h4, h5⟩ := VRcells.list h3
    refine ⟨u :: vs, by simp only [VRs]; exact ⟨u, vs, rfl, h2, h4⟩, fun j v hj => ?_⟩
    cases j with
    | zero => simp at hj; subst hj; exact h1
    | succ j => exact h5 j v (by simpa using hj)
theorem VRcells.of_list : ∀ {as : List AV} {vs : List Value} {get : Nat → Option Value}, VRs Γ w as vs → (∀ j v, vs[j]? = some v → get j = some v) → VRcells Γ w as get
  | [], vs, get, _, _ => by simp only [VRcells]
  | a :: as, vs, get, h, k => by
    simp only [VRs] at h
    obtain ⟨u, us, rfl, h1, h2⟩ := h
    simp only [VRcells]
    exact ⟨⟨u, k 0 u (by simp), h1⟩, VRcells.of_list h2 fun j v hj => k (j + 1) v (by simpa using hj)⟩
theorem VRcells.append_iff : ∀ {as bs : List AV} {get : Nat → Option Value}, VRcells Γ w (as ++ bs) get ↔ VRcells Γ w as get ∧ VRcells Γ w bs (fun j => get (j + as.length))
  | [], bs, get => by simp [VRcells]
  | a :: as, bs, get => by
    simp only [List.cons_append, VRcells, VRcells.append_iff (as := as), List.length_cons, and_assoc]
    constructor
    · rintro ⟨h1, h2, h3⟩; exact ⟨h1, h2, by simpa [Nat.add_assoc] using h3⟩
    · rintro ⟨h1, h2, h3⟩; exact ⟨h1, h2, by simpa [Nat.add_assoc] using h3⟩
theorem VRcells.drop {as : List AV} {get : Nat → Option Value} (n : Nat) (h : VRcells Γ w as get) (hn : n ≤ as.length) : VRcells Γ w (as.drop n) (fun j => get (j + n)) := by
  rw [← List.take_append_drop n as, VRcells.append_iff] at h
  have := h.2
  simpa [List.length_take, Nat.min_eq_left hn] using this
theorem VRcells.take {as : List AV} {get : Nat → Option Value} (n : Nat) (h : VRcells Γ w as get) : VRcells Γ w (as.take n) get := by
  rw [← List.take_append_drop n as, VRcells.append_iff] at h
  exact h.1
theorem VRcells.congr {as : List AV} {get get' : Nat → Option Value} (h : VRcells Γ w as get) (hg : ∀ j, get' j = get j) : VRcells Γ w as get' := by
  rwa [show get' = get from funext hg]
theorem VRrows_iff {sz : Nat} : ∀ {es : List (List AV)} {get : Nat → Option Value}, (∀ e ∈ es, e.length = sz) → (VRrows Γ w sz es get ↔ VRcells Γ w es.flatten get)
  | [], get, _ => by simp [VRrows, VRcells]
  | e :: es, get, h => by
    have he := h e (by simp)
    simp only [VRrows, List.flatten_cons, VRcells.append_iff, he]
    rw [VRrows_iff (fun x hx => h x (by simp [hx]))]

theorem tl {sz : Nat} {e : List AV} {es : List (List AV)} (h : ∀ x ∈ e :: es, x.length = sz) : ∀ x ∈ es, x.length = sz := fun x hx => h x (List.mem_cons_of_mem _ hx)
theorem flatten_length {sz : Nat} : ∀ {es : List (List AV)}, (∀ e ∈ es, e.length = sz) → es.flatten.length = es.length * sz
  | [], _ => by simp
  | e :: es, h => by
    rw [List.flatten_cons, List.length_append, flatten_length (tl h), h e (by simp), List.length_cons, Nat.add_mul]; omega
theorem flatten_take {sz : Nat} : ∀ (n : Nat) {es : List (List AV)}, (∀ e ∈ es, e.length = sz) → (es.take n).flatten = es.flatten.take (n * sz)
  | 0, es, _ => by simp
  | n + 1, [], _ => by simp
  | n + 1, e :: es, h => by
    have he := h e (by simp)
    rw [List.take_succ_cons, List.flatten_cons, flatten_take n (tl h), List.flatten_cons, List.take_append, he]
    have : (n + 1) * sz - sz = n * sz := by rw [Nat.add_mul]; omega
    rw [this, List.take_of_length_le (l := e) (by rw [he, Nat.add_mul]; omega)]
theorem flatten_drop {sz : Nat} : ∀ (n : Nat) {es : List (List AV)}, (∀ e ∈ es, e.length = sz) → (es.drop n).flatten = es.flatten.drop (n * sz)
  | 0, es, _ => by simp
  | n + 1, [], _ => by simp
  | n + 1, e :: es, h => by
    have he := h e (by simp)
    rw [List.drop_succ_cons, flatten_drop n (tl h), List.flatten_cons, List.drop_append, he]
    have : (n + 1) * sz - sz = n * sz := by rw [Nat.add_mul]; omega
    rw [this, List.drop_eq_nil_of_le (as := e) (by rw [he, Nat.add_mul]; omega), List.nil_append]
theorem flatten_set {sz : Nat} {es : List (List AV)} (h : ∀ e ∈ es, e.length = sz) {i : Nat} (hi : i < es.length) (c : List AV) :
    (es.set i c).flatten = es.flatten.take (i * sz) ++ (c ++ es.flatten.drop ((i + 1) * sz)) := by
  rw [List.set_eq_take_append_cons_drop, if_pos hi, List.flatten_append, List.flatten_cons, flatten_take i h, flatten_drop (i + 1) h]
theorem flatten_at {sz : Nat} {es : List (List AV)} (h : ∀ e ∈ es, e.length = sz) {i : Nat} {c : List AV} (hi : es[i]? = some c) :
    es.flatten = es.flatten.take (i * sz) ++ (c ++ es.flatten.drop ((i + 1) * sz)) := by
  obtain ⟨hl, rfl⟩ := List.getElem?_eq_some_iff.1 hi
  rw [← flatten_set h hl, List.set_getElem_self]
theorem mem_of_get? {es : List (List AV)} {i : Nat} {c : List AV} (hi : es[i]? = some c) : c ∈ es := List.mem_of_getElem? hi
/-- The cells of one element. -/
theorem VRcells.elem {sz : Nat} {es : List (List AV)} (h : ∀ e ∈ es, e.length = sz) {get : Nat → Option Value} (hv : VRcells Γ w es.flatten get) {i : Nat} {c : List AV} (hi : es[i]? = some c) :
    VRcells Γ w c (fun j => get (j + i * sz)) := by
  have hc := h c (mem_of_get? hi)
  have hl : i < es.length := (List.getElem?_eq_some_iff.1 hi).1
  rw [flatten_at h hi, VRcells.append_iff, VRcells.append_iff] at hv
  have h2 := hv.2.1
  have hlen : (es.flatten.take (i * sz)).length = i * sz := by
    rw [List.length_take, flatten_length h]
    exact Nat.min_eq_left (Nat.mul_le_mul_right _ (Nat.le_of_lt hl))
  simpa [hlen] using h2

/-! ### Fewer hot blocks, fewer objects -/
section weaken
variable (hhot : ∀ b, Γ'.own b ∨ Γ'.far b → Γ.own b ∨ Γ.far b) (k : Nat) (hk : k ≤ Γ'.n) (hloc : ∀ o, o < k → Γ'.loc o = Γ.loc o)
include hhot hk hloc
mutual
theorem VR.weaken : ∀ (a : AV) (y : Value), a.lo k = true → VR Γ w a y → VR Γ' w a y
  | .v x, y, _, hy => by simpa only [VR] using hy
  | .agg cs, y, hl, hy => by
    simp only [VR] at hy ⊢
    obtain ⟨vs, rfl, h2⟩ := hy
    exact ⟨vs, rfl, VRs.weaken cs vs (by simpa only [AV.lo] using hl) h2⟩
  | .tup cs, y, hl, hy => by
    simp only [VR] at hy ⊢
    obtain ⟨vs, rfl, h2⟩ := hy
    exact ⟨vs, rfl, VRs.weaken cs vs (by simpa only [AV.lo] using hl) h2⟩
  | .fsl es clip, y, hl, hy => by
    simp only [VR] at hy ⊢
    obtain ⟨A, c, rfl, h1, h2, h3⟩ := hy
    refine ⟨A, c, rfl, h1, h2, ?_⟩
    rcases h3 with h3 | ⟨b, off, sz, h4, ⟨h5, h5', h5''⟩, h6, h7, h8⟩
    · exact .inl h3
    · exact .inr ⟨b, off, sz, h4, ⟨h5, fun hc => (hhot b (.inl hc)).elim h5' h5'', fun hc => (hhot b (.inr hc)).elim h5' h5''⟩, h6, h7, VRrows.weaken sz es _ (by simpa only [AV.lo] using hl) h8⟩
  | .fptr cs, y, hl, hy => by
    simp only [VR] at hy ⊢
    obtain ⟨b, off, rfl, ⟨h5, h5', h5''⟩, h6⟩ := hy
    exact ⟨b, off, rfl, ⟨h5, fun hc => (hhot b (.inl hc)).elim h5' h5'', fun hc => (hhot b (.inr hc)).elim h5' h5''⟩, VRcells.weaken cs _ (by simpa only [AV.lo] using hl) h6⟩
  | .sl o g off len clip, y, hl, hy => by
    simp only [VR] at hy ⊢
    simp only [AV.lo, decide_eq_true_eq] at hl
    rw [hloc o hl]
    obtain ⟨A, c, rfl, h5, h6, h1, h2, h3⟩ := hy
    exact ⟨A, c, rfl, h5, h6, by omega, h2, h3⟩
  | .ptr o g i off, y, hl, hy => by
    simp only [VR] at hy ⊢
    simp only [AV.lo, decide_eq_true_eq] at hl
    rw [hloc o hl]
    obtain ⟨p, rfl, h1, h2, h3⟩ := hy
    exact ⟨p, rfl, by omega, h2, h3⟩
  | .fn f first cap, y, hl, hy => by
    simp only [VR] at hy ⊢
    simp only [AV.lo, Bool.and_eq_true] at hl
    obtain ⟨fs, cs, rfl, h1, h2⟩ := hy
    exact ⟨fs, cs, rfl, VRs.weaken first fs hl.1 h1, VRs.weaken cap cs hl.2 h2⟩
  | .yld o, y, hl, hy => by
    simp only [VR] at hy ⊢
    simp only [AV.lo, decide_eq_true_eq] at hl
    rw [hloc o hl]
    obtain ⟨l, rfl, h1, h3⟩ := hy
    exact ⟨l, rfl, by omega, h3⟩
  | .mp o, y, hl, hy => by
    simp only [VR] at hy ⊢
    simp only [AV.lo, decide_eq_true_eq] at hl
    rw [hloc o hl]
    obtain ⟨l, rfl, h1, h3⟩ := hy
    exact ⟨l, rfl, by omega, h3⟩
theorem VRs.weaken : ∀ (as : List AV) (ys : List Value), los k as = true → VRs Γ w as ys → VRs Γ' w as ys
  | [], ys, _, hy => by simpa only [VRs] using hy
  | a :: as, ys, hl, hy => by
    simp only [VRs] at hy ⊢
    simp only [los, Bool.and_eq_true] at hl
    obtain ⟨u, us, rfl, h1, h2⟩ := hy
    exact ⟨u, us, rfl, VR.weaken a u hl.1 h1, VRs.weaken as us hl.2 h2⟩
theorem VRcells.weaken : ∀ (as : List AV) (get : Nat → Option Value), los k as = true → VRcells Γ w as get → VRcells Γ' w as get
  | [], _, _, _ => by simp only [VRcells]
  | a :: as, get, hl, hy => by
    simp only [VRcells] at hy ⊢
    simp only [los, Bool.and_eq_true] at hl
    obtain ⟨⟨u, h1, h2⟩, h3⟩ := hy
    exact ⟨⟨u, h1, VR.weaken a u hl.1 h2⟩, VRcells.weaken as _ hl.2 h3⟩
theorem VRrows.weaken (sz : Nat) : ∀ (es : List (List AV)) (get : Nat → Option Value), loss k es = true → VRrows Γ w sz es get → VRrows Γ' w sz es get
  | [], _, _, _ => by simp only [VRrows]
  | e :: es, get, hl, hy => by
    simp only [VRrows] at hy ⊢
    simp only [loss, Bool.and_eq_true] at hl
    exact ⟨VRcells.weaken e _ hl.1 hy.1, VRrows.weaken sz es _ hl.2 hy.2⟩
end
end weaken
end Go.Ev
