/- Part of the proofs about this seat's program (module CSorts). -/
import Derived.Test.YtbkabnhkclbepaaEvX
import Derived.Test.YtbkabnhkclbepaaCBase
set_option linter.unusedSectionVars false
set_option linter.unusedSimpArgs false
set_option linter.unusedVariables false
namespace Go.Ev
set_option linter.unusedSimpArgs false
set_option linter.unusedVariables false
/-! ### Lists that are sorted in place (no program here) -/
section
variable {α : Type}
theorem get_mid {D L M : List α} {x : α} {n : Nat} (h : D = L ++ x :: M) (hn : n = L.length) : D[n]? = some x := by
  subst h hn; simp
theorem get_in {D L X M : List α} {i n : Nat} (h : D = L ++ (X ++ M)) (hi : i < X.length) (hn : n = L.length + i) : D[n]? = X[i]? := by
  subst h hn
  rw [List.getElem?_append_right (by omega), List.getElem?_append_left (by omega)]
  congr 1; omega
theorem swap_next {D L M : List α} {x y : α} {n m : Nat} (h : D = L ++ y :: x :: M) (hn : n = L.length) (hm : m = n + 1) : (D.set m y).set n x = L ++ x :: y :: M := by
  subst h hm hn; simp []
theorem swap_next' {D L M : List α} {x y : α} {n m : Nat} (h : D = L ++ y :: x :: M) (hn : n = L.length) (hm : m = n + 1) : (D.set n x).set m y = L ++ x :: y :: M := by
  subst h hm hn; simp []
theorem swap_far {D L M N : List α} {x y : α} {n m : Nat} (h : D = L ++ x :: (M ++ y :: N)) (hn : n = L.length) (hm : m = n + 1 + M.length) : (D.set n y).set m x = L ++ y :: (M ++ x :: N) := by
  subst h hm hn
  rw [List.set_append, if_neg (Nat.lt_irrefl _), Nat.sub_self, List.set_cons_zero, List.set_append, if_neg (by omega), show L.length + 1 + M.length - L.length = M.length + 1 by omega, List.set_cons_succ, List.set_append, if_neg (Nat.lt_irrefl _), Nat.sub_self, List.set_cons_zero]
variable {R : α → α → Prop}
theorem cross (tr : ∀ a b c, R a b → R b c → R a c) {X Y : List α} (hX : X.Pairwise R) (hY : Y.Pairwise R) (h : ∀ u v, X[X.length - 1]? = some u → Y[0]? = some v → R u v) : ∀ a ∈ X, ∀ b ∈ Y, R a b := by
  intro a ha b hb
  obtain ⟨i, hi⟩ := List.mem_iff_getElem?.1 ha
  obtain ⟨j, hj⟩ := List.mem_iff_getElem?.1 hb
  obtain ⟨hi', hi⟩ := List.getElem?_eq_some_iff.1 hi
  obtain ⟨hj', hj⟩ := List.getElem?_eq_some_iff.1 hj
  rw [List.pairwise_iff_getElem] at hX hY
  have h0 := h _ _ (List.getElem?_eq_getElem (by omega)) (List.getElem?_eq_getElem (by omega))
  have h1 : R a Y[0] := by
    by_cases c : i = X.length - 1
    · subst c; rw [← hi]; exact h0
    · exact tr _ _ _ (by rw [← hi]; exact hX i (X.length - 1) hi' (by omega) (by omega)) h0
  by_cases c : j = 0
  · subst c; rw [← hj]; exact h1
  · exact tr _ _ _ h1 (by rw [← hj]; exact hY 0 j (by omega) hj' (by omega))
theorem merge_split (tr : ∀ a b c, R a b → R b c → R a c) {X1 X2 Y1 Y2 Z1 Z2 : List α} (hX : (X1 ++ X2).Pairwise R) (hY : (Y1 ++ Y2).Pairwise R)
    (h1 : ∀ u v, X1[X1.length - 1]? = some u → Y2[0]? = some v → R u v) (h2 : ∀ u v, Y1[Y1.length - 1]? = some u → X2[0]? = some v → R u v)
    (p1 : Z1.Perm (X1 ++ Y1)) (p2 : Z2.Perm (X2 ++ Y2)) (s1 : Z1.Pairwise R) (s2 : Z2.Pairwise R) : (Z1 ++ Z2).Perm (X1 ++ X2 ++ (Y1 ++ Y2)) ∧ (Z1 ++ Z2).Pairwise R := by
  obtain ⟨x1, x2, x3⟩ := List.pairwise_append.1 hX
  obtain ⟨y1, y2, y3⟩ := List.pairwise_append.1 hY
  have c1 := cross tr x1 y2 h1
  have c2 := cross tr y1 x2 h2
  refine ⟨(p1.append p2).trans ?_, List.pairwise_append.2 ⟨s1, s2, ?_⟩⟩
  · rw [List.append_assoc, List.append_assoc]
    refine List.Perm.append_left X1 ?_
    rw [← List.append_assoc, ← List.append_assoc]
    exact List.Perm.append_right Y2 List.perm_append_comm
  · intro a ha b hb
    rw [p1.mem_iff, List.mem_append] at ha
    rw [p2.mem_iff, List.mem_append] at hb
    rcases ha with ha | ha <;> rcases hb with hb | hb
    · exact x3 a ha b hb
    · exact c1 a ha b hb
    · exact c2 a ha b hb
    · exact y3 a ha b hb
/-- A new element takes its place among sorted ones. -/
theorem insert_split (tr : ∀ a b c, R a b → R b c → R a c) {A B : List α} {x : α} (h : (A ++ B).Pairwise R) (h1 : ∀ u, A[A.length - 1]? = some u → R u x) (h2 : ∀ v, B[0]? = some v → R x v) : (A ++ x :: B).Pairwise R := by
  obtain ⟨a1, a2, a3⟩ := List.pairwise_append.1 h
  have c1 := cross tr a1 (List.pairwise_singleton R x) (fun u v hu hv => by simp at hv; subst hv; exact h1 u hu)
  have c2 := cross tr (List.pairwise_singleton R x) a2 (fun u v hu hv => by simp at hu; subst hu; exact h2 v hv)
  refine List.pairwise_append.2 ⟨a1, List.pairwise_cons.2 ⟨fun b hb => c2 x (by simp) b hb, a2⟩, fun a ha b hb => ?_⟩
  rcases List.mem_cons.1 hb with rfl | hb
  · exact c1 a ha _ (by simp)
  · exact a3 a ha b hb
/-- Sorted blocks of one size, of which the last may be smaller. -/
inductive Blk (R : α → α → Prop) (s : Nat) : List α → Prop
  | last {l : List α} : l.length ≤ s → l.Pairwise R → Blk R s l
  | more {X Y : List α} : X.length = s → X.Pairwise R → Blk R s Y → Blk R s (X ++ Y)
theorem Blk.sorted {s : Nat} {l : List α} (h : Blk R s l) (hs : l.length ≤ s) : l.Pairwise R := by
  cases h with
  | last _ h => exact h
  | @more X Y h1 h2 h3 =>
    rw [List.length_append] at hs
    obtain rfl := List.eq_nil_of_length_eq_zero (l := Y) (by omega)
    simpa using h2
theorem Blk.split {s : Nat} {l : List α} (h : Blk R s l) (hs : s < l.length) : ∃ X Y, l = X ++ Y ∧ X.length = s ∧ X.Pairwise R ∧ Blk R s Y := by
  cases h with
  | last h1 _ => omega
  | @more X Y h1 h2 h3 => exact ⟨X, Y, rfl, h1, h2, h3⟩
theorem Blk.nil {s : Nat} : Blk R s ([] : List α) := .last (Nat.zero_le _) .nil
/-- A loop with a measure. -/
theorem itB_while {f : Env → Store → R3} {s : Env → Store → Option (Env × Store)} {τ : Type} (E : τ → Env) (S : τ → Store) (m : τ → Nat) (Inv : τ → Prop) (Q : CExit × Env × Store → Prop)
    (step : ∀ a, Inv a → (∃ a', it1 f s (E a) (S a) = some (.inl (E a', S a')) ∧ Inv a' ∧ m a' < m a) ∨ ∃ y, it1 f s (E a) (S a) = some (.inr y) ∧ Q y) :
    ∀ a, Inv a → ∃ y, itB f s (E a) (S a) = some y ∧ Q y := by
  have : ∀ k a, m a ≤ k → Inv a → ∃ y, itB f s (E a) (S a) = some y ∧ Q y := by
    intro k
    induction k with
    | zero =>
      intro a hk ha
      rcases step a ha with ⟨a', h1, h2, h3⟩ | ⟨y, h1, h2⟩
      · omega
      · exact ⟨y, itB_stop h1, h2⟩
    | succ k ih =>
      intro a hk ha
      rcases step a ha with ⟨a', h1, h2, h3⟩ | ⟨y, h1, h2⟩
      · obtain ⟨y, h4, h5⟩ := ih a' (by omega) h2
        exact ⟨y, itB_step h1 h4, h5⟩
      · exact ⟨y, itB_stop h1, h2⟩
  exact fun a => this (m a) a (Nat.le_refl _)
end
end Go.Ev

namespace Go.Ev
set_option linter.unusedSimpArgs false
set_option linter.unusedVariables false
/-! ### Ints that are parted and sorted (no program here) -/
def LeI (l : List Int) : Prop := l.Pairwise (· ≤ ·)
theorem leI_trans (a b c : Int) (h : a ≤ b) (k : b ≤ c) : a ≤ c := Int.le_trans h k
theorem sorted_parts {A B : List Int} (hA : LeI A) (hB : LeI B) (h : ∀ x ∈ A, ∀ y ∈ B, x ≤ y) : LeI (A ++ B) := List.pairwise_append.2 ⟨hA, hB, h⟩
/-- The first and the last change places. -/
theorem swap_ends {D L M N : List Int} {x y : Int} {i j : Nat} (h : D = L ++ x :: (M ++ y :: N)) (hi : i = L.length) (hj : j = i + 1 + M.length) : (D.set i y).set j x = L ++ y :: (M ++ x :: N) ∧ (D.set j x).set i y = L ++ y :: (M ++ x :: N) := by
  refine ⟨swap_far h hi hj, ?_⟩
  rw [List.set_comm _ _ (by omega)]
  exact swap_far h hi hj
theorem swap_self {D : List Int} {x : Int} {i : Nat} (h : D[i]? = some x) : (D.set i x).set i x = D := by
  obtain ⟨hi, rfl⟩ := List.getElem?_eq_some_iff.1 h
  simp
/-- Two places change what they hold: in whatever order they are named. -/
theorem swap_perm {D : List Int} {x y : Int} {i j : Nat} (hx : D[i]? = some x) (hy : D[j]? = some y) : ((D.set i y).set j x).Perm D := by
  obtain ⟨hi, hx'⟩ := List.getElem?_eq_some_iff.1 hx
  obtain ⟨hj, hy'⟩ := List.getElem?_eq_some_iff.1 hy
  rcases Nat.lt_trichotomy i j with c | c | c
  · have e : D = D.take i ++ x :: ((D.drop (i + 1)).take (j - i - 1) ++ y :: D.drop (j + 1)) := by
      have h1 : D.drop i = x :: D.drop (i + 1) := by rw [← hx']; exact List.drop_eq_getElem_cons hi
      have h2 : D.drop j = y :: D.drop (j + 1) := by rw [← hy']; exact List.drop_eq_getElem_cons hj
      have h3 : D.drop (i + 1) = (D.drop (i + 1)).take (j - i - 1) ++ D.drop j := by
        have := (List.take_append_drop (j - i - 1) (D.drop (i + 1))).symm
        rwa [List.drop_drop, show i + 1 + (j - i - 1) = j by omega] at this
      rw [← h2, ← h3, ← h1, List.take_append_drop]
    have := swap_far e (by simp; omega) (by simp; omega : j = i + 1 + ((D.drop (i + 1)).take (j - i - 1)).length)
    rw [this]
    conv => rhs; rw [e]
    refine List.Perm.append_left _ ?_
    refine (List.perm_middle (a := x) (l₁ := y :: (D.drop (i + 1)).take (j - i - 1))).trans ?_
    exact List.Perm.cons x (List.perm_middle (a := y) (l₁ := (D.drop (i + 1)).take (j - i - 1))).symm
  · subst c
    rw [hx] at hy; cases hy
    rw [swap_self hx]
  · have e : D = D.take j ++ y :: ((D.drop (j + 1)).take (i - j - 1) ++ x :: D.drop (i + 1)) := by
      have h1 : D.drop i = x :: D.drop (i + 1) := by rw [← hx']; exact List.drop_eq_getElem_cons hi
      have h2 : D.drop j = y :: D.drop (j + 1) := by rw [← hy']; exact List.drop_eq_getElem_cons hj
      have h3 : D.drop (j + 1) = (D.drop (j + 1)).take (i - j - 1) ++ D.drop i := by
        have := (List.take_append_drop (i - j - 1) (D.drop (j + 1))).symm
        rwa [List.drop_drop, show j + 1 + (i - j - 1) = i by omega] at this
      rw [← h1, ← h3, ← h2, List.take_append_drop]
    have := (swap_ends e (by simp; omega) (by simp; omega : i = j + 1 + ((D.drop (j + 1)).take (i - j - 1)).length)).2
    rw [this]
    conv => rhs; rw [e]
    refine List.Perm.append_left _ ?_
    refine (List.perm_middle (a := y) (l₁ := x :: (D.drop (j + 1)).take (i - j - 1))).trans ?_
    exact List.Perm.cons y (List.perm_middle (a := x) (l₁ := (D.drop (j + 1)).take (i - j - 1))).symm
/-- What changes within a piece leaves the rest. -/
theorem set_in {L S N : List Int} {i : Nat} {x : Int} (h : i < S.length) : (L ++ (S ++ N)).set (L.length + i) x = L ++ (S.set i x ++ N) := by
  rw [List.set_append, if_neg (by omega), Nat.add_sub_cancel_left, List.set_append, if_pos h]
end Go.Ev

namespace Go.Proofs.Ytbkabnhkclbepaa.K
open Go.Ev
set_option linter.unusedSimpArgs false
set_option linter.unusedVariables false
set_option maxRecDepth 10000
theorem w64_add {a b : Nat} (h : a + b < 2 ^ 62) : IntKind.i64.wrap ((a : Int) + (b : Int)) = ((a + b : Nat) : Int) := by rw [w64_small (by omega) (by omega)]; simp
theorem w64_add1 {a : Nat} (h : a < 2 ^ 62) : IntKind.i64.wrap ((a : Int) + 1) = ((a + 1 : Nat) : Int) := by rw [w64_small (by omega) (by omega)]; simp
theorem w64_sub {a b c : Nat} (h : a = b + c) (h2 : a < 2 ^ 62) : IntKind.i64.wrap ((a : Int) - (b : Int)) = (c : Int) := by rw [w64_small (by omega) (by omega)]; omega
theorem w64_sub1 {a c : Nat} (h : a = c + 1) (h2 : a < 2 ^ 62) : IntKind.i64.wrap ((a : Int) - 1) = (c : Int) := by rw [w64_small (by omega) (by omega)]; omega
/-! ### Sorting ints -/
theorem cmp_isNaN_ev (a : Int) : callZ (evL T) n_cmp_isNaN_int [(.v (.int .i64 (a)))] = some (.v (.bool (false))) := by
  rw [callZ, evL_code ext_cmp_isNaN_int code_cmp_isNaN_int]
  simp only [c_cmp_isNaN_int, Go.Ev.runFunc, Go.Ev.exec, Go.Ev.evOpers, Go.Ev.evOper, Go.Ev.item_op, Go.Ev.evOp, Go.Ev.Opnd.ev, Go.Ev.Env.get, Go.Ev.Env.set, Go.Ev.look, Go.Ev.argVars, Go.Ev.bin_neq, Go.Ev.resVals, Go.Ev.resVal, Go.Ev.resOf, Go.Ev.kill, Go.Ev.leave, Go.Ev.storeLo, Go.Ev.lo_v, Go.Ev.frz_lo, ↓Go.Ev.obind, ↓reduceIte, List.length_cons, List.length_nil, List.take_nil, Nat.reduceEqDiff, reduceCtorEq, decide_false, and_self, ne_eq, not_true_eq_false, Nat.zero_add, eq_self]
theorem cmp_Less_ev (a b : Int) : callZ (evL T) n_cmp_Less_int [(.v (.int .i64 (a))), (.v (.int .i64 (b)))] = some (.v (.bool (decide (a < b)))) := by
  have h0 := cmp_isNaN_ev
  rw [callZ, evL_code ext_cmp_Less_int code_cmp_Less_int]
  by_cases h : a < b
  · simp only [c_cmp_Less_int, h0, h, Go.Ev.runFunc, Go.Ev.exec, Go.Ev.evOpers, Go.Ev.evOper, Go.Ev.item_op, Go.Ev.item_P, Go.Ev.evOp, Go.Ev.evs, Go.Ev.Opnd.ev, Go.Ev.Env.get, Go.Ev.Env.set, Go.Ev.Env.unset, Go.Ev.look, Go.Ev.argVars, Go.Ev.bin_lss, Go.Ev.resVals, Go.Ev.resVal, Go.Ev.resOf, Go.Ev.kill, Go.Ev.leave, Go.Ev.storeLo, Go.Ev.lo_v, Go.Ev.los_nil, Go.Ev.los_cons, Go.Ev.frz_lo, ↓Go.Ev.obind, ↓reduceIte, List.length_cons, List.length_nil, List.take_nil, Nat.reduceAdd, Nat.reduceEqDiff, reduceCtorEq, decide_true, Bool.and_self, Bool.false_eq_true, and_self, Nat.zero_add, eq_self]
  · simp only [c_cmp_Less_int, h0, h, Go.Ev.runFunc, Go.Ev.exec, Go.Ev.evOpers, Go.Ev.evOper, Go.Ev.item_op, Go.Ev.item_P, Go.Ev.evOp, Go.Ev.evs, Go.Ev.Opnd.ev, Go.Ev.Env.get, Go.Ev.Env.set, Go.Ev.Env.unset, Go.Ev.look, Go.Ev.argVars, Go.Ev.bin_lss, Go.Ev.resVals, Go.Ev.resVal, Go.Ev.resOf, Go.Ev.kill, Go.Ev.leave, Go.Ev.storeLo, Go.Ev.lo_v, Go.Ev.los_nil, Go.Ev.los_cons, Go.Ev.frz_lo, ↓Go.Ev.obind, ↓reduceIte, List.length_cons, List.length_nil, List.take_nil, Nat.reduceAdd, Nat.reduceEqDiff, reduceCtorEq, decide_false, Bool.and_self, Bool.false_eq_true, and_self, Nat.zero_add, eq_self]
theorem insert_int {A B : List Int} {x : Int} (h : LeI (A ++ B)) (h1 : ∀ u, A[A.length - 1]? = some u → u ≤ x) (h2 : ∀ v, B[0]? = some v → x ≤ v) : LeI (A ++ x :: B) := insert_split leI_trans h h1 h2
section
variable (g : Nat) (cl : Bool) (n : Nat) (V : List Int) (gw : Nat)
theorem insI_inner (P S Q : List Int) (x : Int) (hn : n = (P ++ (S ++ x :: Q)).length) (hb : n < 2 ^ 61) (hS : LeI S) (a : Nat) (ha : a = P.length) (b i : Int) :
    ∃ y, itB (exec (evL T) itL none c_slices_insertionSortOrdered_int_L2) (Ev.settle [0, 1, 2, 6, 7] true 2) ⟨[(0, .sl 0 g 0 n cl), (1, (.v (.int .i64 (a)))), (2, (.v (.int .i64 (b)))), (6, (.v (.int .i64 (i)))), (7, (.v (.int .i64 ((a + S.length : Nat)))))], []⟩ [.row 1 ((P ++ (S ++ x :: Q)).map intC) g, .row 1 (V.map intC) gw] = some y ∧
      (y.1 = .exit 2 ∧ y.2.1.marks = [] ∧ Ev.look y.2.1.vars 0 = some (.sl 0 g 0 n cl) ∧ Ev.look y.2.1.vars 1 = some (.v (.int .i64 (a))) ∧ Ev.look y.2.1.vars 2 = some (.v (.int .i64 (b))) ∧ Ev.look y.2.1.vars 6 = some (.v (.int .i64 (i))) ∧ ∃ S' : List Int, S'.Perm (x :: S) ∧ LeI S' ∧ y.2.2 = [.row 1 ((P ++ (S' ++ Q)).map intC) g, .row 1 (V.map intC) gw]) := by
  refine itB_while (τ := List Int × Nat) (fun s => ⟨[(0, .sl 0 g 0 n cl), (1, (.v (.int .i64 (a)))), (2, (.v (.int .i64 (b)))), (6, (.v (.int .i64 (i)))), (7, (.v (.int .i64 (s.2))))], []⟩) (fun s => [.row 1 ((s.1).map intC) g, .row 1 (V.map intC) gw]) (fun s => s.2)
    (fun s => ∃ A B, s.1 = P ++ (A ++ x :: (B ++ Q)) ∧ s.2 = a + A.length ∧ A ++ B = S ∧ ∀ v, B[0]? = some v → x ≤ v) _ ?_ (P ++ (S ++ x :: Q), a + S.length) ⟨S, [], by simp, rfl, by simp, by simp⟩
  rintro ⟨D, j⟩ ⟨A, B, hD, hj, hAB, hB⟩
  simp only at hD hj ⊢
  have hlen : n = P.length + (S.length + (Q.length + 1)) := by rw [hn]; simp
  have hSl : S.length = A.length + B.length := by rw [← hAB]; simp
  have fin : (∀ u, A[A.length - 1]? = some u → u ≤ x) → ∃ S' : List Int, S'.Perm (x :: S) ∧ LeI S' ∧ ([.row 1 ((D).map intC) g, .row 1 (V.map intC) gw] : Store) = [.row 1 ((P ++ (S' ++ Q)).map intC) g, .row 1 (V.map intC) gw] := fun h => by
    refine ⟨A ++ x :: B, ?_, insert_int (by rw [hAB]; exact hS) h hB, by rw [hD]; simp⟩
    rw [← hAB]; exact List.perm_middle
  rcases List.eq_nil_or_concat A with rfl | ⟨A0, y, rfl⟩
  · have h1 : ¬ (j : Int) > (a : Int) := by simp at hj; omega
    refine .inr ?_
    simp only [c_slices_insertionSortOrdered_int_L2, h1, Go.Ev.exec, Go.Ev.evOpers, Go.Ev.evOper, Go.Ev.item_op, Go.Ev.evOp, Go.Ev.Opnd.ev, Go.Ev.Env.get, Go.Ev.Env.set, Go.Ev.Env.unset, Go.Ev.look, Go.Ev.bin_gtr, ↓Go.Ev.obind, Go.Ev.it1, ↓reduceIte, Nat.reduceEqDiff, reduceCtorEq, decide_false, Bool.false_eq_true, eq_self]
    exact ⟨_, rfl, rfl, rfl, rfl, rfl, rfl, rfl, fin (by simp)⟩
  · simp only [List.concat_eq_append, List.length_append, List.length_cons, List.length_nil] at hD hj hSl hAB fin
    obtain ⟨k, hk1⟩ : ∃ k, k = a + A0.length := ⟨_, rfl⟩
    have hjk : j = k + 1 := by omega
    have h1 : (j : Int) > (a : Int) := by omega
    have e1 : D = (P ++ A0) ++ y :: x :: (B ++ Q) := by rw [hD]; simp
    have l1 : k = (P ++ A0).length := by simp; omega
    have gy : D[k]? = some y := get_mid e1 l1
    have gx : D[j]? = some x := get_mid (L := P ++ A0 ++ [y]) (M := B ++ Q) (by rw [e1]; simp) (by simp; omega)
    have ge : D.length = n := by rw [e1, hlen]; simp; omega
    have ws : IntKind.i64.wrap ((j : Int) - 1) = (k : Int) := w64_sub1 hjk (by omega)
    have rj : j < n := by omega
    have rk : k < n := by omega
    have hc := cmp_Less_ev x y
    have sw := swap_next e1 l1 hjk
    have hne : ¬ (j = k) := by omega
    by_cases hlt : x < y
    · left
      have hlo := ints_lo 2 ((D.set j y).set k x)
      refine ⟨((D.set j y).set k x, k), ?_, ⟨A0, y :: B, by rw [sw]; simp, hk1, by rw [← hAB]; simp, fun v hv => by simp at hv; omega⟩, by simp only; omega⟩
      have hs : ∀ v, ((D.map intC).set j v)[k]? = some (intC y) := fun v => by rw [List.getElem?_set_ne hne, List.getElem?_map, gy]; rfl
      simp only [List.map_set, intC] at hlo hs
      simp only [hlt, decide_true] at hc
      simp only [c_slices_insertionSortOrdered_int_L2, Int.natCast_nonneg, Int.toNat_natCast, List.getElem?_map, Option.map_some, gx, gy, hs, h1, ws, rj, rk, hc, hlo, List.map_set, intC, ints_lo, Go.Ev.exec, Go.Ev.evOpers, Go.Ev.evOper, Go.Ev.item_op, Go.Ev.item_P, Go.Ev.evOp, Go.Ev.evs, Go.Ev.Opnd.ev, Go.Ev.Env.get, Go.Ev.Env.set, Go.Ev.look, Go.Ev.cellsAt, Go.Ev.loadC, Go.Ev.AV.cells, Go.Ev.AV.uc, Go.Ev.plains, Go.Ev.AV.plain, Go.Ev.bin_sub, Go.Ev.bin_gtr, Go.Ev.settle, Go.Ev.keep, Go.Ev.varsLo, Go.Ev.marksLo, Go.Ev.storeLo, Go.Ev.SObj.lo, Go.Ev.lo_v, Go.Ev.lo_sl, Go.Ev.los_nil, Go.Ev.los_cons, ↓Go.Ev.obind, Go.Ev.it1, ↓reduceIte, List.length_cons, List.length_nil, List.getElem?_cons_zero, List.take_succ_cons, List.take_zero, List.take_nil, List.drop_succ_cons, List.drop_zero, List.drop_nil, List.nil_append, List.append_nil, List.set_cons_zero, List.head?_cons, Nat.reduceEqDiff, Nat.reduceLT, reduceCtorEq, decide_true, Bool.and_self, Bool.false_eq_true, and_self, Nat.zero_add, Nat.le_refl, eq_self]
    · right
      simp only [hlt, decide_false] at hc
      have hf := fin (fun u hu => by simp at hu; omega)
      simp only [c_slices_insertionSortOrdered_int_L2, Int.natCast_nonneg, Int.toNat_natCast, List.getElem?_map, Option.map_some, gx, gy, h1, ws, rj, rk, hc, intC, Go.Ev.exec, Go.Ev.evOpers, Go.Ev.evOper, Go.Ev.item_op, Go.Ev.item_P, Go.Ev.evOp, Go.Ev.evs, Go.Ev.Opnd.ev, Go.Ev.Env.get, Go.Ev.Env.set, Go.Ev.look, Go.Ev.cellsAt, Go.Ev.loadC, Go.Ev.bin_sub, Go.Ev.bin_gtr, Go.Ev.lo_v, Go.Ev.los_nil, Go.Ev.los_cons, ↓Go.Ev.obind, Go.Ev.it1, ↓reduceIte, List.getElem?_cons_zero, List.drop_zero, List.head?_cons, Nat.reduceEqDiff, reduceCtorEq, decide_true, Bool.and_self, Bool.false_eq_true, and_self, Nat.zero_add, eq_self]
      exact ⟨_, rfl, rfl, rfl, rfl, rfl, rfl, rfl, hf⟩
theorem insI_ev (P S Q : List Int) (hn : n = (P ++ (S ++ Q)).length) (hb : n < 2 ^ 61) (a b : Nat) (ha : a = P.length) (hbb : b = a + S.length) :
    ∃ S' : List Int, S'.Perm S ∧ LeI S' ∧ (evL T).call n_slices_insertionSortOrdered_int [.sl 0 g 0 n cl, (.v (.int .i64 (a))), (.v (.int .i64 (b)))] [.row 1 ((P ++ (S ++ Q)).map intC) g, .row 1 (V.map intC) gw] = some (.tup [], [.row 1 ((P ++ (S' ++ Q)).map intC) g, .row 1 (V.map intC) gw]) := by
  have hlen : n = P.length + (S.length + Q.length) := by rw [hn]; simp
  have key := itB_while (f := exec (evL T) itL none c_slices_insertionSortOrdered_int_L1) (s := Ev.settle [0, 1, 2, 6] true 2) (τ := List Int × Nat)
    (fun s => ⟨[(0, .sl 0 g 0 n cl), (1, (.v (.int .i64 (a)))), (2, (.v (.int .i64 (b)))), (6, (.v (.int .i64 (s.2))))], []⟩) (fun s => [.row 1 ((s.1).map intC) g, .row 1 (V.map intC) gw]) (fun s => b - s.2)
    (fun s => (∃ A B, s.1 = P ++ (A ++ (B ++ Q)) ∧ s.2 = a + A.length ∧ (A ++ B).Perm S ∧ LeI A) ∨ S = [] ∧ s.1 = P ++ Q ∧ s.2 = a + 1)
    (fun y => y.1 = .exit 0 ∧ y.2.1.marks = [] ∧ ∃ S' : List Int, S'.Perm S ∧ LeI S' ∧ y.2.2 = [.row 1 ((P ++ (S' ++ Q)).map intC) g, .row 1 (V.map intC) gw]) ?_ (P ++ (S ++ Q), a + 1) ?_
  · obtain ⟨⟨y, e, σ⟩, k1, k2, k3, S', k4, k5, k6⟩ := key
    simp only at k1 k2 k3 k6
    subst k2; subst k6
    refine ⟨S', k4, k5, ?_⟩
    have w1 : IntKind.i64.wrap ((a : Int) + 1) = ((a + 1 : Nat) : Int) := w64_add1 (by omega)
    rw [evL_code ext_slices_insertionSortOrdered_int code_slices_insertionSortOrdered_int]
    simp only [c_slices_insertionSortOrdered_int, w1, k1, k3, ints_lo, Go.Ev.runFunc, Go.Ev.exec, Go.Ev.evOpers, Go.Ev.evOper, Go.Ev.item_op, Go.Ev.evOp, Go.Ev.Opnd.ev, Go.Ev.Env.get, Go.Ev.Env.set, Go.Ev.look, Go.Ev.argVars, Go.Ev.bin_add, Go.Ev.resVals, Go.Ev.resOf, Go.Ev.kill, Go.Ev.leave, Go.Ev.settle, Go.Ev.keep, Go.Ev.varsLo, Go.Ev.marksLo, Go.Ev.storeLo, Go.Ev.SObj.lo, Go.Ev.lo_v, Go.Ev.lo_tup, Go.Ev.lo_sl, Go.Ev.los_nil, ↓Go.Ev.obind, ↓Go.Ev.itL_itB, ↓reduceIte, List.length_cons, List.length_nil, List.take_succ_cons, List.take_nil, Nat.reduceAdd, Nat.reduceEqDiff, Nat.reduceLT, reduceCtorEq, decide_true, Bool.and_self, and_self, Nat.zero_add, eq_self]
  · rintro ⟨D, i⟩ (⟨A, B, hD, hi, hAB, hA⟩ | ⟨hS, hD, hi⟩)
    · simp only at hD hi ⊢
      have hl := hAB.length_eq
      rw [List.length_append] at hl
      cases B with
      | nil =>
        have h1 : ¬ (i : Int) < (b : Int) := by simp at hl; omega
        right
        simp only [c_slices_insertionSortOrdered_int_L1, h1, Go.Ev.exec, Go.Ev.evOpers, Go.Ev.evOper, Go.Ev.item_op, Go.Ev.evOp, Go.Ev.Opnd.ev, Go.Ev.Env.get, Go.Ev.Env.set, Go.Ev.look, Go.Ev.bin_lss, ↓Go.Ev.obind, Go.Ev.it1, ↓reduceIte, Nat.reduceEqDiff, reduceCtorEq, decide_false, Bool.false_eq_true, eq_self]
        exact ⟨_, rfl, rfl, rfl, A, by simpa using hAB, hA, by rw [hD]; simp⟩
      | cons x B =>
        rw [List.length_cons] at hl
        have h1 : (i : Int) < (b : Int) := by omega
        obtain ⟨⟨y, e, σ⟩, k1, k2, k3, k4, k5, k6, k7, S', k9, k10, k11⟩ := insI_inner g cl n V gw P A (B ++ Q) x (by rw [hlen]; simp; omega) hb hA a ha b i
        simp only at k1 k2 k3 k4 k5 k6 k7 k11
        subst k2; subst k11
        have w1 : IntKind.i64.wrap ((i : Int) + 1) = ((i + 1 : Nat) : Int) := w64_add1 (by omega)
        left
        refine ⟨(P ++ (S' ++ (B ++ Q)), i + 1), ?_, .inl ⟨S', B, rfl, ?_, ?_, k10⟩, ?_⟩
        · rw [← hi] at k1
          rw [hD]
          simp only [List.cons_append] at k1 ⊢
          simp only [c_slices_insertionSortOrdered_int_L1, h1, w1, k1, k3, k4, k5, k6, k7, ints_lo, Go.Ev.exec, Go.Ev.evOpers, Go.Ev.evOper, Go.Ev.item_op, Go.Ev.evOp, Go.Ev.Opnd.ev, Go.Ev.Env.get, Go.Ev.Env.set, Go.Ev.look, Go.Ev.bin_add, Go.Ev.bin_lss, Go.Ev.settle, Go.Ev.keep, Go.Ev.varsLo, Go.Ev.marksLo, Go.Ev.storeLo, Go.Ev.SObj.lo, Go.Ev.lo_v, Go.Ev.lo_sl, ↓Go.Ev.obind, ↓Go.Ev.itL_itB, Go.Ev.it1, ↓reduceIte, List.length_cons, List.length_nil, List.take_succ_cons, List.take_nil, Nat.reduceAdd, Nat.reduceEqDiff, Nat.reduceLT, reduceCtorEq, decide_true, Bool.and_self, and_self, Nat.zero_add, eq_self]
        · have := k9.length_eq; rw [List.length_cons] at this; simp only; omega
        · exact ((k9.append_right B).trans List.perm_middle.symm).trans hAB
        · simp only; omega
    · simp only at hD hi ⊢
      subst hS
      have h1 : ¬ (i : Int) < (b : Int) := by simp at hbb; omega
      right
      simp only [c_slices_insertionSortOrdered_int_L1, h1, Go.Ev.exec, Go.Ev.evOpers, Go.Ev.evOper, Go.Ev.item_op, Go.Ev.evOp, Go.Ev.Opnd.ev, Go.Ev.Env.get, Go.Ev.Env.set, Go.Ev.look, Go.Ev.bin_lss, ↓Go.Ev.obind, Go.Ev.it1, ↓reduceIte, Nat.reduceEqDiff, reduceCtorEq, decide_false, Bool.false_eq_true, eq_self]
      exact ⟨_, rfl, rfl, rfl, [], List.Perm.nil, List.Pairwise.nil, by rw [hD]; simp⟩
  · cases S with
    | nil => exact .inr ⟨rfl, by simp, rfl⟩
    | cons x S => exact .inl ⟨[x], S, by simp, by simp, by simp, List.pairwise_singleton _ _⟩
end
end Go.Proofs.Ytbkabnhkclbepaa.K

namespace Go.Proofs.Ytbkabnhkclbepaa.K
open Go.Ev
set_option linter.unusedSimpArgs false
set_option linter.unusedVariables false
set_option maxRecDepth 10000
theorem swap_get {D : List Int} {i j : Nat} {x y : Int} (hx : D[i]? = some x) (hy : D[j]? = some y) : ∃ z, ((D.map intC).set i [(.v (.int .i64 (y)))])[j]? = some [(.v (.int .i64 (z)))] := by
  by_cases h : i = j
  · subst h
    have := (List.getElem?_eq_some_iff.1 hx).1
    exact ⟨y, by rw [List.getElem?_set_self (by simpa using this)]⟩
  · exact ⟨y, by rw [List.getElem?_set_ne h, List.getElem?_map, hy]; rfl⟩
theorem seg_swap {P S Q D : List Int} {a i j : Nat} {x y : Int} (hD : D = P ++ (S ++ Q)) (ha : a = P.length) (hi : a ≤ i) (hi2 : i < a + S.length) (hj : a ≤ j) (hj2 : j < a + S.length) (hx : D[i]? = some x) (hy : D[j]? = some y) :
    ∃ S', (D.set i y).set j x = P ++ (S' ++ Q) ∧ S'.Perm S := by
  obtain ⟨i', rfl⟩ : ∃ k, i = P.length + k := ⟨i - P.length, by omega⟩
  obtain ⟨j', rfl⟩ : ∃ k, j = P.length + k := ⟨j - P.length, by omega⟩
  have gx : S[i']? = some x := by rw [← hx]; exact (get_in hD (by omega) rfl).symm
  have gy : S[j']? = some y := by rw [← hy]; exact (get_in hD (by omega) rfl).symm
  refine ⟨(S.set i' y).set j' x, ?_, swap_perm gx gy⟩
  rw [hD, set_in (by omega), set_in (by simp; omega)]
section
variable (g : Nat) (cl : Bool) (n : Nat) (V : List Int) (gw : Nat)
theorem part_up1 (D : List Int) (hn : n = D.length) (hb : n < 2 ^ 61) (a i0 j : Nat) (v : Int) (hv : D[a]? = some v) (hj : j < n) (hij : i0 ≤ j + 1) :
    ∃ y, itB (exec (evL T) itL none c_slices_partitionOrdered_int_L1) (Ev.settle [0, 1, 10, 11] true 2) ⟨[(0, .sl 0 g 0 n cl), (1, (.v (.int .i64 (a)))), (10, (.v (.int .i64 (i0)))), (11, (.v (.int .i64 (j))))], []⟩ [.row 1 ((D).map intC) g, .row 1 (V.map intC) gw] = some y ∧
      ∃ i : Nat, y.1 = .exit 0 ∧ y.2.1.marks = [] ∧ y.2.2 = [.row 1 ((D).map intC) g, .row 1 (V.map intC) gw] ∧ Ev.look y.2.1.vars 0 = some (.sl 0 g 0 n cl) ∧ Ev.look y.2.1.vars 1 = some (.v (.int .i64 (a))) ∧ Ev.look y.2.1.vars 10 = some (.v (.int .i64 (i))) ∧ Ev.look y.2.1.vars 11 = some (.v (.int .i64 (j))) ∧
        i0 ≤ i ∧ i ≤ j + 1 ∧ (∀ k x, i0 ≤ k → k < i → D[k]? = some x → x < v) ∧ (i ≤ j → ∀ x, D[i]? = some x → ¬ (x < v)) := by
  have rv : a < n := by rw [hn]; exact (List.getElem?_eq_some_iff.1 hv).1
  refine itB_while (τ := Nat) (fun i => ⟨[(0, .sl 0 g 0 n cl), (1, (.v (.int .i64 (a)))), (10, (.v (.int .i64 (i)))), (11, (.v (.int .i64 (j))))], []⟩) (fun _ => [.row 1 ((D).map intC) g, .row 1 (V.map intC) gw]) (fun i => j + 1 - i)
    (fun i => i0 ≤ i ∧ i ≤ j + 1 ∧ ∀ k x, i0 ≤ k → k < i → D[k]? = some x → x < v) _ ?_ i0 ⟨Nat.le_refl _, hij, fun k x h1 h2 => by omega⟩
  rintro i ⟨h1, h2, h3⟩
  by_cases hle : i ≤ j
  case neg =>
    have c1 : ¬ (i : Int) ≤ (j : Int) := by omega
    right
    simp only [c_slices_partitionOrdered_int_L1, c1, Go.Ev.exec, Go.Ev.evOpers, Go.Ev.evOper, Go.Ev.item_op, Go.Ev.evOp, Go.Ev.Opnd.ev, Go.Ev.Env.get, Go.Ev.Env.set, Go.Ev.Env.unset, Go.Ev.look, Go.Ev.bin_leq, ↓Go.Ev.obind, Go.Ev.it1, ↓reduceIte, Nat.reduceEqDiff, reduceCtorEq, decide_false, Bool.false_eq_true, eq_self]
    exact ⟨_, rfl, i, rfl, rfl, rfl, rfl, rfl, rfl, rfl, h1, h2, h3, fun h => absurd h hle⟩
  have c1 : (i : Int) ≤ (j : Int) := by omega
  obtain ⟨x, hx⟩ : ∃ x, D[i]? = some x := ⟨_, List.getElem?_eq_getElem (by omega)⟩
  have ri : i < n := by omega
  have w1 : IntKind.i64.wrap ((i : Int) + 1) = ((i + 1 : Nat) : Int) := w64_add1 (by omega)
  have hc := cmp_Less_ev x v
  by_cases hlt : x < v <;> simp only [hlt, decide_true, decide_false] at hc
  · left
    refine ⟨i + 1, ?_, ⟨by omega, by omega, fun k z k1 k2 hk => ?_⟩, by omega⟩
    · simp only [c_slices_partitionOrdered_int_L1, Int.natCast_nonneg, Int.toNat_natCast, List.getElem?_map, Option.map_some, c1, hx, hv, ri, rv, w1, hc, intC, ints_lo, Go.Ev.exec, Go.Ev.evOpers, Go.Ev.evOper, Go.Ev.item_op, Go.Ev.item_P, Go.Ev.evOp, Go.Ev.evs, Go.Ev.Opnd.ev, Go.Ev.Env.get, Go.Ev.Env.set, Go.Ev.look, Go.Ev.cellsAt, Go.Ev.loadC, Go.Ev.bin_add, Go.Ev.bin_leq, Go.Ev.settle, Go.Ev.keep, Go.Ev.varsLo, Go.Ev.marksLo, Go.Ev.storeLo, Go.Ev.SObj.lo, Go.Ev.lo_v, Go.Ev.lo_sl, Go.Ev.los_nil, Go.Ev.los_cons, ↓Go.Ev.obind, Go.Ev.it1, ↓reduceIte, List.getElem?_cons_zero, List.take_succ_cons, List.take_nil, List.drop_zero, List.head?_cons, Nat.reduceEqDiff, Nat.reduceLT, reduceCtorEq, decide_true, Bool.and_self, Bool.false_eq_true, and_self, Nat.zero_add, eq_self]
    · by_cases hki : k < i
      · exact h3 k z k1 hki hk
      · obtain rfl : k = i := by omega
        rw [hx] at hk; cases hk; exact hlt
  · right
    simp only [c_slices_partitionOrdered_int_L1, Int.natCast_nonneg, Int.toNat_natCast, List.getElem?_map, Option.map_some, c1, hx, hv, ri, rv, hc, intC, Go.Ev.exec, Go.Ev.evOpers, Go.Ev.evOper, Go.Ev.item_op, Go.Ev.item_P, Go.Ev.evOp, Go.Ev.evs, Go.Ev.Opnd.ev, Go.Ev.Env.get, Go.Ev.Env.set, Go.Ev.look, Go.Ev.cellsAt, Go.Ev.loadC, Go.Ev.bin_leq, Go.Ev.lo_v, Go.Ev.los_nil, Go.Ev.los_cons, ↓Go.Ev.obind, Go.Ev.it1, ↓reduceIte, List.getElem?_cons_zero, List.drop_zero, List.head?_cons, Nat.reduceEqDiff, reduceCtorEq, decide_true, Bool.and_self, Bool.false_eq_true, and_self, Nat.zero_add, eq_self]
    exact ⟨_, rfl, i, rfl, rfl, rfl, rfl, rfl, rfl, rfl, h1, h2, h3, fun _ z hz => by rw [hx] at hz; cases hz; exact hlt⟩
theorem part_down1 (D : List Int) (hn : n = D.length) (hb : n < 2 ^ 61) (a i j0 : Nat) (v : Int) (hv : D[a]? = some v) (hj : j0 < n) (hij : i ≤ j0 + 1) (hi : 1 ≤ i) :
    ∃ y, itB (exec (evL T) itL none c_slices_partitionOrdered_int_L2) (Ev.settle [0, 1, 10, 11] true 2) ⟨[(0, .sl 0 g 0 n cl), (1, (.v (.int .i64 (a)))), (10, (.v (.int .i64 (i)))), (11, (.v (.int .i64 (j0))))], []⟩ [.row 1 ((D).map intC) g, .row 1 (V.map intC) gw] = some y ∧
      ∃ j : Nat, y.1 = .exit 2 ∧ y.2.1.marks = [] ∧ y.2.2 = [.row 1 ((D).map intC) g, .row 1 (V.map intC) gw] ∧ Ev.look y.2.1.vars 0 = some (.sl 0 g 0 n cl) ∧ Ev.look y.2.1.vars 1 = some (.v (.int .i64 (a))) ∧ Ev.look y.2.1.vars 10 = some (.v (.int .i64 (i))) ∧ Ev.look y.2.1.vars 11 = some (.v (.int .i64 (j))) ∧
        j ≤ j0 ∧ i ≤ j + 1 ∧ (∀ k x, j < k → k ≤ j0 → D[k]? = some x → ¬ x < v) ∧ (i ≤ j → ∀ x, D[j]? = some x → ¬ (¬ x < v)) := by
  have rv : a < n := by rw [hn]; exact (List.getElem?_eq_some_iff.1 hv).1
  refine itB_while (τ := Nat) (fun j => ⟨[(0, .sl 0 g 0 n cl), (1, (.v (.int .i64 (a)))), (10, (.v (.int .i64 (i)))), (11, (.v (.int .i64 (j))))], []⟩) (fun _ => [.row 1 ((D).map intC) g, .row 1 (V.map intC) gw]) (fun j => j)
    (fun j => j ≤ j0 ∧ i ≤ j + 1 ∧ ∀ k x, j < k → k ≤ j0 → D[k]? = some x → ¬ x < v) _ ?_ j0 ⟨Nat.le_refl _, hij, fun k x h1 h2 => by omega⟩
  rintro j ⟨h1, h2, h3⟩
  by_cases hle : i ≤ j
  case neg =>
    have c1 : ¬ (i : Int) ≤ (j : Int) := by omega
    right
    simp only [c_slices_partitionOrdered_int_L2, c1, Go.Ev.exec, Go.Ev.evOpers, Go.Ev.evOper, Go.Ev.item_op, Go.Ev.evOp, Go.Ev.Opnd.ev, Go.Ev.Env.get, Go.Ev.Env.set, Go.Ev.Env.unset, Go.Ev.look, Go.Ev.bin_leq, ↓Go.Ev.obind, Go.Ev.it1, ↓reduceIte, Nat.reduceEqDiff, reduceCtorEq, decide_false, Bool.false_eq_true, eq_self]
    exact ⟨_, rfl, j, rfl, rfl, rfl, rfl, rfl, rfl, rfl, h1, h2, h3, fun h => absurd h hle⟩
  have c1 : (i : Int) ≤ (j : Int) := by omega
  obtain ⟨x, hx⟩ : ∃ x, D[j]? = some x := ⟨_, List.getElem?_eq_getElem (by omega)⟩
  have rj : j < n := by omega
  obtain ⟨m, hm⟩ : ∃ m, j = m + 1 := ⟨j - 1, by omega⟩
  have w1 : IntKind.i64.wrap ((j : Int) - 1) = (m : Int) := w64_sub1 hm (by omega)
  have hc := cmp_Less_ev x v
  by_cases hlt : x < v <;> simp only [hlt, decide_true, decide_false] at hc
  · right
    simp only [c_slices_partitionOrdered_int_L2, Int.natCast_nonneg, Int.toNat_natCast, List.getElem?_map, Option.map_some, c1, hx, hv, rj, rv, hc, intC, Go.Ev.exec, Go.Ev.evOpers, Go.Ev.evOper, Go.Ev.item_op, Go.Ev.item_P, Go.Ev.evOp, Go.Ev.evs, Go.Ev.Opnd.ev, Go.Ev.Env.get, Go.Ev.Env.set, Go.Ev.look, Go.Ev.cellsAt, Go.Ev.loadC, Go.Ev.bin_leq, Go.Ev.lo_v, Go.Ev.los_nil, Go.Ev.los_cons, ↓Go.Ev.obind, Go.Ev.it1, ↓reduceIte, List.getElem?_cons_zero, List.drop_zero, List.head?_cons, Nat.reduceEqDiff, reduceCtorEq, decide_true, Bool.and_self, Bool.not_true, Bool.false_eq_true, and_self, Nat.zero_add, eq_self]
    exact ⟨_, rfl, j, rfl, rfl, rfl, rfl, rfl, rfl, rfl, h1, h2, h3, fun _ z hz => by rw [hx] at hz; cases hz; exact fun h => h hlt⟩
  · left
    refine ⟨m, ?_, ⟨by omega, by omega, fun k z k1 k2 hk => ?_⟩, by omega⟩
    · simp only [c_slices_partitionOrdered_int_L2, Int.natCast_nonneg, Int.toNat_natCast, List.getElem?_map, Option.map_some, c1, hx, hv, rj, rv, w1, hc, intC, ints_lo, Go.Ev.exec, Go.Ev.evOpers, Go.Ev.evOper, Go.Ev.item_op, Go.Ev.item_P, Go.Ev.evOp, Go.Ev.evs, Go.Ev.Opnd.ev, Go.Ev.Env.get, Go.Ev.Env.set, Go.Ev.look, Go.Ev.cellsAt, Go.Ev.loadC, Go.Ev.bin_sub, Go.Ev.bin_leq, Go.Ev.settle, Go.Ev.keep, Go.Ev.varsLo, Go.Ev.marksLo, Go.Ev.storeLo, Go.Ev.SObj.lo, Go.Ev.lo_v, Go.Ev.lo_sl, Go.Ev.los_nil, Go.Ev.los_cons, ↓Go.Ev.obind, Go.Ev.it1, ↓reduceIte, List.getElem?_cons_zero, List.take_succ_cons, List.take_nil, List.drop_zero, List.head?_cons, Nat.reduceEqDiff, Nat.reduceLT, reduceCtorEq, decide_true, Bool.and_self, Bool.not_false, Bool.false_eq_true, and_self, Nat.zero_add, eq_self]
    · by_cases hki : j < k
      · exact h3 k z hki k2 hk
      · obtain rfl : k = j := by omega
        rw [hx] at hk; cases hk; exact hlt
theorem part_up2 (D : List Int) (hn : n = D.length) (hb : n < 2 ^ 61) (a i0 j : Nat) (v : Int) (hv : D[a]? = some v) (hj : j < n) (hij : i0 ≤ j + 1) :
    ∃ y, itB (exec (evL T) itL none c_slices_partitionOrdered_int_L4) (Ev.settle [0, 1, 10, 11] true 2) ⟨[(0, .sl 0 g 0 n cl), (1, (.v (.int .i64 (a)))), (10, (.v (.int .i64 (i0)))), (11, (.v (.int .i64 (j))))], []⟩ [.row 1 ((D).map intC) g, .row 1 (V.map intC) gw] = some y ∧
      ∃ i : Nat, y.1 = .exit 6 ∧ y.2.1.marks = [] ∧ y.2.2 = [.row 1 ((D).map intC) g, .row 1 (V.map intC) gw] ∧ Ev.look y.2.1.vars 0 = some (.sl 0 g 0 n cl) ∧ Ev.look y.2.1.vars 1 = some (.v (.int .i64 (a))) ∧ Ev.look y.2.1.vars 10 = some (.v (.int .i64 (i))) ∧ Ev.look y.2.1.vars 11 = some (.v (.int .i64 (j))) ∧
        i0 ≤ i ∧ i ≤ j + 1 ∧ (∀ k x, i0 ≤ k → k < i → D[k]? = some x → x < v) ∧ (i ≤ j → ∀ x, D[i]? = some x → ¬ (x < v)) := by
  have rv : a < n := by rw [hn]; exact (List.getElem?_eq_some_iff.1 hv).1
  refine itB_while (τ := Nat) (fun i => ⟨[(0, .sl 0 g 0 n cl), (1, (.v (.int .i64 (a)))), (10, (.v (.int .i64 (i)))), (11, (.v (.int .i64 (j))))], []⟩) (fun _ => [.row 1 ((D).map intC) g, .row 1 (V.map intC) gw]) (fun i => j + 1 - i)
    (fun i => i0 ≤ i ∧ i ≤ j + 1 ∧ ∀ k x, i0 ≤ k → k < i → D[k]? = some x → x < v) _ ?_ i0 ⟨Nat.le_refl _, hij, fun k x h1 h2 => by omega⟩
  rintro i ⟨h1, h2, h3⟩
  by_cases hle : i ≤ j
  case neg =>
    have c1 : ¬ (i : Int) ≤ (j : Int) := by omega
    right
    simp only [c_slices_partitionOrdered_int_L4, c1, Go.Ev.exec, Go.Ev.evOpers, Go.Ev.evOper, Go.Ev.item_op, Go.Ev.evOp, Go.Ev.Opnd.ev, Go.Ev.Env.get, Go.Ev.Env.set, Go.Ev.Env.unset, Go.Ev.look, Go.Ev.bin_leq, ↓Go.Ev.obind, Go.Ev.it1, ↓reduceIte, Nat.reduceEqDiff, reduceCtorEq, decide_false, Bool.false_eq_true, eq_self]
    exact ⟨_, rfl, i, rfl, rfl, rfl, rfl, rfl, rfl, rfl, h1, h2, h3, fun h => absurd h hle⟩
  have c1 : (i : Int) ≤ (j : Int) := by omega
  obtain ⟨x, hx⟩ : ∃ x, D[i]? = some x := ⟨_, List.getElem?_eq_getElem (by omega)⟩
  have ri : i < n := by omega
  have w1 : IntKind.i64.wrap ((i : Int) + 1) = ((i + 1 : Nat) : Int) := w64_add1 (by omega)
  have hc := cmp_Less_ev x v
  by_cases hlt : x < v <;> simp only [hlt, decide_true, decide_false] at hc
  · left
    refine ⟨i + 1, ?_, ⟨by omega, by omega, fun k z k1 k2 hk => ?_⟩, by omega⟩
    · simp only [c_slices_partitionOrdered_int_L4, Int.natCast_nonneg, Int.toNat_natCast, List.getElem?_map, Option.map_some, c1, hx, hv, ri, rv, w1, hc, intC, ints_lo, Go.Ev.exec, Go.Ev.evOpers, Go.Ev.evOper, Go.Ev.item_op, Go.Ev.item_P, Go.Ev.evOp, Go.Ev.evs, Go.Ev.Opnd.ev, Go.Ev.Env.get, Go.Ev.Env.set, Go.Ev.look, Go.Ev.cellsAt, Go.Ev.loadC, Go.Ev.bin_add, Go.Ev.bin_leq, Go.Ev.settle, Go.Ev.keep, Go.Ev.varsLo, Go.Ev.marksLo, Go.Ev.storeLo, Go.Ev.SObj.lo, Go.Ev.lo_v, Go.Ev.lo_sl, Go.Ev.los_nil, Go.Ev.los_cons, ↓Go.Ev.obind, Go.Ev.it1, ↓reduceIte, List.getElem?_cons_zero, List.take_succ_cons, List.take_nil, List.drop_zero, List.head?_cons, Nat.reduceEqDiff, Nat.reduceLT, reduceCtorEq, decide_true, Bool.and_self, Bool.false_eq_true, and_self, Nat.zero_add, eq_self]
    · by_cases hki : k < i
      · exact h3 k z k1 hki hk
      · obtain rfl : k = i := by omega
        rw [hx] at hk; cases hk; exact hlt
  · right
    simp only [c_slices_partitionOrdered_int_L4, Int.natCast_nonneg, Int.toNat_natCast, List.getElem?_map, Option.map_some, c1, hx, hv, ri, rv, hc, intC, Go.Ev.exec, Go.Ev.evOpers, Go.Ev.evOper, Go.Ev.item_op, Go.Ev.item_P, Go.Ev.evOp, Go.Ev.evs, Go.Ev.Opnd.ev, Go.Ev.Env.get, Go.Ev.Env.set, Go.Ev.look, Go.Ev.cellsAt, Go.Ev.loadC, Go.Ev.bin_leq, Go.Ev.lo_v, Go.Ev.los_nil, Go.Ev.los_cons, ↓Go.Ev.obind, Go.Ev.it1, ↓reduceIte, List.getElem?_cons_zero, List.drop_zero, List.head?_cons, Nat.reduceEqDiff, reduceCtorEq, decide_true, Bool.and_self, Bool.false_eq_true, and_self, Nat.zero_add, eq_self]
    exact ⟨_, rfl, i, rfl, rfl, rfl, rfl, rfl, rfl, rfl, h1, h2, h3, fun _ z hz => by rw [hx] at hz; cases hz; exact hlt⟩
theorem part_down2 (D : List Int) (hn : n = D.length) (hb : n < 2 ^ 61) (a i j0 : Nat) (v : Int) (hv : D[a]? = some v) (hj : j0 < n) (hij : i ≤ j0 + 1) (hi : 1 ≤ i) :
    ∃ y, itB (exec (evL T) itL none c_slices_partitionOrdered_int_L5) (Ev.settle [0, 1, 10, 11] true 2) ⟨[(0, .sl 0 g 0 n cl), (1, (.v (.int .i64 (a)))), (10, (.v (.int .i64 (i)))), (11, (.v (.int .i64 (j0))))], []⟩ [.row 1 ((D).map intC) g, .row 1 (V.map intC) gw] = some y ∧
      ∃ j : Nat, y.1 = .exit 8 ∧ y.2.1.marks = [] ∧ y.2.2 = [.row 1 ((D).map intC) g, .row 1 (V.map intC) gw] ∧ Ev.look y.2.1.vars 0 = some (.sl 0 g 0 n cl) ∧ Ev.look y.2.1.vars 1 = some (.v (.int .i64 (a))) ∧ Ev.look y.2.1.vars 10 = some (.v (.int .i64 (i))) ∧ Ev.look y.2.1.vars 11 = some (.v (.int .i64 (j))) ∧
        j ≤ j0 ∧ i ≤ j + 1 ∧ (∀ k x, j < k → k ≤ j0 → D[k]? = some x → ¬ x < v) ∧ (i ≤ j → ∀ x, D[j]? = some x → ¬ (¬ x < v)) := by
  have rv : a < n := by rw [hn]; exact (List.getElem?_eq_some_iff.1 hv).1
  refine itB_while (τ := Nat) (fun j => ⟨[(0, .sl 0 g 0 n cl), (1, (.v (.int .i64 (a)))), (10, (.v (.int .i64 (i)))), (11, (.v (.int .i64 (j))))], []⟩) (fun _ => [.row 1 ((D).map intC) g, .row 1 (V.map intC) gw]) (fun j => j)
    (fun j => j ≤ j0 ∧ i ≤ j + 1 ∧ ∀ k x, j < k → k ≤ j0 → D[k]? = some x → ¬ x < v) _ ?_ j0 ⟨Nat.le_refl _, hij, fun k x h1 h2 => by omega⟩
  rintro j ⟨h1, h2, h3⟩
  by_cases hle : i ≤ j
  case neg =>
    have c1 : ¬ (i : Int) ≤ (j : Int) := by omega
    right
    simp only [c_slices_partitionOrdered_int_L5, c1, Go.Ev.exec, Go.Ev.evOpers, Go.Ev.evOper, Go.Ev.item_op, Go.Ev.evOp, Go.Ev.Opnd.ev, Go.Ev.Env.get, Go.Ev.Env.set, Go.Ev.Env.unset, Go.Ev.look, Go.Ev.bin_leq, ↓Go.Ev.obind, Go.Ev.it1, ↓reduceIte, Nat.reduceEqDiff, reduceCtorEq, decide_false, Bool.false_eq_true, eq_self]
    exact ⟨_, rfl, j, rfl, rfl, rfl, rfl, rfl, rfl, rfl, h1, h2, h3, fun h => absurd h hle⟩
  have c1 : (i : Int) ≤ (j : Int) := by omega
  obtain ⟨x, hx⟩ : ∃ x, D[j]? = some x := ⟨_, List.getElem?_eq_getElem (by omega)⟩
  have rj : j < n := by omega
  obtain ⟨m, hm⟩ : ∃ m, j = m + 1 := ⟨j - 1, by omega⟩
  have w1 : IntKind.i64.wrap ((j : Int) - 1) = (m : Int) := w64_sub1 hm (by omega)
  have hc := cmp_Less_ev x v
  by_cases hlt : x < v <;> simp only [hlt, decide_true, decide_false] at hc
  · right
    simp only [c_slices_partitionOrdered_int_L5, Int.natCast_nonneg, Int.toNat_natCast, List.getElem?_map, Option.map_some, c1, hx, hv, rj, rv, hc, intC, Go.Ev.exec, Go.Ev.evOpers, Go.Ev.evOper, Go.Ev.item_op, Go.Ev.item_P, Go.Ev.evOp, Go.Ev.evs, Go.Ev.Opnd.ev, Go.Ev.Env.get, Go.Ev.Env.set, Go.Ev.look, Go.Ev.cellsAt, Go.Ev.loadC, Go.Ev.bin_leq, Go.Ev.lo_v, Go.Ev.los_nil, Go.Ev.los_cons, ↓Go.Ev.obind, Go.Ev.it1, ↓reduceIte, List.getElem?_cons_zero, List.drop_zero, List.head?_cons, Nat.reduceEqDiff, reduceCtorEq, decide_true, Bool.and_self, Bool.not_true, Bool.false_eq_true, and_self, Nat.zero_add, eq_self]
    exact ⟨_, rfl, j, rfl, rfl, rfl, rfl, rfl, rfl, rfl, h1, h2, h3, fun _ z hz => by rw [hx] at hz; cases hz; exact fun h => h hlt⟩
  · left
    refine ⟨m, ?_, ⟨by omega, by omega, fun k z k1 k2 hk => ?_⟩, by omega⟩
    · simp only [c_slices_partitionOrdered_int_L5, Int.natCast_nonneg, Int.toNat_natCast, List.getElem?_map, Option.map_some, c1, hx, hv, rj, rv, w1, hc, intC, ints_lo, Go.Ev.exec, Go.Ev.evOpers, Go.Ev.evOper, Go.Ev.item_op, Go.Ev.item_P, Go.Ev.evOp, Go.Ev.evs, Go.Ev.Opnd.ev, Go.Ev.Env.get, Go.Ev.Env.set, Go.Ev.look, Go.Ev.cellsAt, Go.Ev.loadC, Go.Ev.bin_sub, Go.Ev.bin_leq, Go.Ev.settle, Go.Ev.keep, Go.Ev.varsLo, Go.Ev.marksLo, Go.Ev.storeLo, Go.Ev.SObj.lo, Go.Ev.lo_v, Go.Ev.lo_sl, Go.Ev.los_nil, Go.Ev.los_cons, ↓Go.Ev.obind, Go.Ev.it1, ↓reduceIte, List.getElem?_cons_zero, List.take_succ_cons, List.take_nil, List.drop_zero, List.head?_cons, Nat.reduceEqDiff, Nat.reduceLT, reduceCtorEq, decide_true, Bool.and_self, Bool.not_false, Bool.false_eq_true, and_self, Nat.zero_add, eq_self]
    · by_cases hki : j < k
      · exact h3 k z hki k2 hk
      · obtain rfl : k = j := by omega
        rw [hx] at hk; cases hk; exact hlt
theorem peq_up (D : List Int) (hn : n = D.length) (hb : n < 2 ^ 61) (a i0 j : Nat) (v : Int) (hv : D[a]? = some v) (hj : j < n) (hij : i0 ≤ j + 1) :
    ∃ y, itB (exec (evL T) itL none c_slices_partitionEqualOrdered_int_L2) (Ev.settle [0, 1, 9, 10] true 2) ⟨[(0, .sl 0 g 0 n cl), (1, (.v (.int .i64 (a)))), (9, (.v (.int .i64 (i0)))), (10, (.v (.int .i64 (j))))], []⟩ [.row 1 ((D).map intC) g, .row 1 (V.map intC) gw] = some y ∧
      ∃ i : Nat, y.1 = .exit 2 ∧ y.2.1.marks = [] ∧ y.2.2 = [.row 1 ((D).map intC) g, .row 1 (V.map intC) gw] ∧ Ev.look y.2.1.vars 0 = some (.sl 0 g 0 n cl) ∧ Ev.look y.2.1.vars 1 = some (.v (.int .i64 (a))) ∧ Ev.look y.2.1.vars 9 = some (.v (.int .i64 (i))) ∧ Ev.look y.2.1.vars 10 = some (.v (.int .i64 (j))) ∧
        i0 ≤ i ∧ i ≤ j + 1 ∧ (∀ k x, i0 ≤ k → k < i → D[k]? = some x → ¬ v < x) ∧ (i ≤ j → ∀ x, D[i]? = some x → ¬ (¬ v < x)) := by
  have rv : a < n := by rw [hn]; exact (List.getElem?_eq_some_iff.1 hv).1
  refine itB_while (τ := Nat) (fun i => ⟨[(0, .sl 0 g 0 n cl), (1, (.v (.int .i64 (a)))), (9, (.v (.int .i64 (i)))), (10, (.v (.int .i64 (j))))], []⟩) (fun _ => [.row 1 ((D).map intC) g, .row 1 (V.map intC) gw]) (fun i => j + 1 - i)
    (fun i => i0 ≤ i ∧ i ≤ j + 1 ∧ ∀ k x, i0 ≤ k → k < i → D[k]? = some x → ¬ v < x) _ ?_ i0 ⟨Nat.le_refl _, hij, fun k x h1 h2 => by omega⟩
  rintro i ⟨h1, h2, h3⟩
  by_cases hle : i ≤ j
  case neg =>
    have c1 : ¬ (i : Int) ≤ (j : Int) := by omega
    right
    simp only [c_slices_partitionEqualOrdered_int_L2, c1, Go.Ev.exec, Go.Ev.evOpers, Go.Ev.evOper, Go.Ev.item_op, Go.Ev.evOp, Go.Ev.Opnd.ev, Go.Ev.Env.get, Go.Ev.Env.set, Go.Ev.Env.unset, Go.Ev.look, Go.Ev.bin_leq, ↓Go.Ev.obind, Go.Ev.it1, ↓reduceIte, Nat.reduceEqDiff, reduceCtorEq, decide_false, Bool.false_eq_true, eq_self]
    exact ⟨_, rfl, i, rfl, rfl, rfl, rfl, rfl, rfl, rfl, h1, h2, h3, fun h => absurd h hle⟩
  have c1 : (i : Int) ≤ (j : Int) := by omega
  obtain ⟨x, hx⟩ : ∃ x, D[i]? = some x := ⟨_, List.getElem?_eq_getElem (by omega)⟩
  have ri : i < n := by omega
  have w1 : IntKind.i64.wrap ((i : Int) + 1) = ((i + 1 : Nat) : Int) := w64_add1 (by omega)
  have hc := cmp_Less_ev v x
  by_cases hlt : v < x <;> simp only [hlt, decide_true, decide_false] at hc
  · right
    simp only [c_slices_partitionEqualOrdered_int_L2, Int.natCast_nonneg, Int.toNat_natCast, List.getElem?_map, Option.map_some, c1, hx, hv, ri, rv, hc, intC, Go.Ev.exec, Go.Ev.evOpers, Go.Ev.evOper, Go.Ev.item_op, Go.Ev.item_P, Go.Ev.evOp, Go.Ev.evs, Go.Ev.Opnd.ev, Go.Ev.Env.get, Go.Ev.Env.set, Go.Ev.look, Go.Ev.cellsAt, Go.Ev.loadC, Go.Ev.bin_leq, Go.Ev.lo_v, Go.Ev.los_nil, Go.Ev.los_cons, ↓Go.Ev.obind, Go.Ev.it1, ↓reduceIte, List.getElem?_cons_zero, List.drop_zero, List.head?_cons, Nat.reduceEqDiff, reduceCtorEq, decide_true, Bool.and_self, Bool.not_true, Bool.false_eq_true, and_self, Nat.zero_add, eq_self]
    exact ⟨_, rfl, i, rfl, rfl, rfl, rfl, rfl, rfl, rfl, h1, h2, h3, fun _ z hz => by rw [hx] at hz; cases hz; exact fun h => h hlt⟩
  · left
    refine ⟨i + 1, ?_, ⟨by omega, by omega, fun k z k1 k2 hk => ?_⟩, by omega⟩
    · simp only [c_slices_partitionEqualOrdered_int_L2, Int.natCast_nonneg, Int.toNat_natCast, List.getElem?_map, Option.map_some, c1, hx, hv, ri, rv, w1, hc, intC, ints_lo, Go.Ev.exec, Go.Ev.evOpers, Go.Ev.evOper, Go.Ev.item_op, Go.Ev.item_P, Go.Ev.evOp, Go.Ev.evs, Go.Ev.Opnd.ev, Go.Ev.Env.get, Go.Ev.Env.set, Go.Ev.look, Go.Ev.cellsAt, Go.Ev.loadC, Go.Ev.bin_add, Go.Ev.bin_leq, Go.Ev.settle, Go.Ev.keep, Go.Ev.varsLo, Go.Ev.marksLo, Go.Ev.storeLo, Go.Ev.SObj.lo, Go.Ev.lo_v, Go.Ev.lo_sl, Go.Ev.los_nil, Go.Ev.los_cons, ↓Go.Ev.obind, Go.Ev.it1, ↓reduceIte, List.getElem?_cons_zero, List.take_succ_cons, List.take_nil, List.drop_zero, List.head?_cons, Nat.reduceEqDiff, Nat.reduceLT, reduceCtorEq, decide_true, Bool.and_self, Bool.not_false, Bool.false_eq_true, and_self, Nat.zero_add, eq_self]
    · by_cases hki : k < i
      · exact h3 k z k1 hki hk
      · obtain rfl : k = i := by omega
        rw [hx] at hk; cases hk; exact hlt
theorem peq_down (D : List Int) (hn : n = D.length) (hb : n < 2 ^ 61) (a i j0 : Nat) (v : Int) (hv : D[a]? = some v) (hj : j0 < n) (hij : i ≤ j0 + 1) (hi : 1 ≤ i) :
    ∃ y, itB (exec (evL T) itL none c_slices_partitionEqualOrdered_int_L3) (Ev.settle [0, 1, 9, 10] true 2) ⟨[(0, .sl 0 g 0 n cl), (1, (.v (.int .i64 (a)))), (9, (.v (.int .i64 (i)))), (10, (.v (.int .i64 (j0))))], []⟩ [.row 1 ((D).map intC) g, .row 1 (V.map intC) gw] = some y ∧
      ∃ j : Nat, y.1 = .exit 4 ∧ y.2.1.marks = [] ∧ y.2.2 = [.row 1 ((D).map intC) g, .row 1 (V.map intC) gw] ∧ Ev.look y.2.1.vars 0 = some (.sl 0 g 0 n cl) ∧ Ev.look y.2.1.vars 1 = some (.v (.int .i64 (a))) ∧ Ev.look y.2.1.vars 9 = some (.v (.int .i64 (i))) ∧ Ev.look y.2.1.vars 10 = some (.v (.int .i64 (j))) ∧
        j ≤ j0 ∧ i ≤ j + 1 ∧ (∀ k x, j < k → k ≤ j0 → D[k]? = some x → v < x) ∧ (i ≤ j → ∀ x, D[j]? = some x → ¬ (v < x)) := by
  have rv : a < n := by rw [hn]; exact (List.getElem?_eq_some_iff.1 hv).1
  refine itB_while (τ := Nat) (fun j => ⟨[(0, .sl 0 g 0 n cl), (1, (.v (.int .i64 (a)))), (9, (.v (.int .i64 (i)))), (10, (.v (.int .i64 (j))))], []⟩) (fun _ => [.row 1 ((D).map intC) g, .row 1 (V.map intC) gw]) (fun j => j)
    (fun j => j ≤ j0 ∧ i ≤ j + 1 ∧ ∀ k x, j < k → k ≤ j0 → D[k]? = some x → v < x) _ ?_ j0 ⟨Nat.le_refl _, hij, fun k x h1 h2 => by omega⟩
  rintro j ⟨h1, h2, h3⟩
  by_cases hle : i ≤ j
  case neg =>
    have c1 : ¬ (i : Int) ≤ (j : Int) := by omega
    right
    simp only [c_slices_partitionEqualOrdered_int_L3, c1, Go.Ev.exec, Go.Ev.evOpers, Go.Ev.evOper, Go.Ev.item_op, Go.Ev.evOp, Go.Ev.Opnd.ev, Go.Ev.Env.get, Go.Ev.Env.set, Go.Ev.Env.unset, Go.Ev.look, Go.Ev.bin_leq, ↓Go.Ev.obind, Go.Ev.it1, ↓reduceIte, Nat.reduceEqDiff, reduceCtorEq, decide_false, Bool.false_eq_true, eq_self]
    exact ⟨_, rfl, j, rfl, rfl, rfl, rfl, rfl, rfl, rfl, h1, h2, h3, fun h => absurd h hle⟩
  have c1 : (i : Int) ≤ (j : Int) := by omega
  obtain ⟨x, hx⟩ : ∃ x, D[j]? = some x := ⟨_, List.getElem?_eq_getElem (by omega)⟩
  have rj : j < n := by omega
  obtain ⟨m, hm⟩ : ∃ m, j = m + 1 := ⟨j - 1, by omega⟩
  have w1 : IntKind.i64.wrap ((j : Int) - 1) = (m : Int) := w64_sub1 hm (by omega)
  have hc := cmp_Less_ev v x
  by_cases hlt : v < x <;> simp only [hlt, decide_true, decide_false] at hc
  · left
    refine ⟨m, ?_, ⟨by omega, by omega, fun k z k1 k2 hk => ?_⟩, by omega⟩
    · simp only [c_slices_partitionEqualOrdered_int_L3, Int.natCast_nonneg, Int.toNat_natCast, List.getElem?_map, Option.map_some, c1, hx, hv, rj, rv, w1, hc, intC, ints_lo, Go.Ev.exec, Go.Ev.evOpers, Go.Ev.evOper, Go.Ev.item_op, Go.Ev.item_P, Go.Ev.evOp, Go.Ev.evs, Go.Ev.Opnd.ev, Go.Ev.Env.get, Go.Ev.Env.set, Go.Ev.look, Go.Ev.cellsAt, Go.Ev.loadC, Go.Ev.bin_sub, Go.Ev.bin_leq, Go.Ev.settle, Go.Ev.keep, Go.Ev.varsLo, Go.Ev.marksLo, Go.Ev.storeLo, Go.Ev.SObj.lo, Go.Ev.lo_v, Go.Ev.lo_sl, Go.Ev.los_nil, Go.Ev.los_cons, ↓Go.Ev.obind, Go.Ev.it1, ↓reduceIte, List.getElem?_cons_zero, List.take_succ_cons, List.take_nil, List.drop_zero, List.head?_cons, Nat.reduceEqDiff, Nat.reduceLT, reduceCtorEq, decide_true, Bool.and_self, Bool.false_eq_true, and_self, Nat.zero_add, eq_self]
    · by_cases hki : j < k
      · exact h3 k z hki k2 hk
      · obtain rfl : k = j := by omega
        rw [hx] at hk; cases hk; exact hlt
  · right
    simp only [c_slices_partitionEqualOrdered_int_L3, Int.natCast_nonneg, Int.toNat_natCast, List.getElem?_map, Option.map_some, c1, hx, hv, rj, rv, hc, intC, Go.Ev.exec, Go.Ev.evOpers, Go.Ev.evOper, Go.Ev.item_op, Go.Ev.item_P, Go.Ev.evOp, Go.Ev.evs, Go.Ev.Opnd.ev, Go.Ev.Env.get, Go.Ev.Env.set, Go.Ev.look, Go.Ev.cellsAt, Go.Ev.loadC, Go.Ev.bin_leq, Go.Ev.lo_v, Go.Ev.los_nil, Go.Ev.los_cons, ↓Go.Ev.obind, Go.Ev.it1, ↓reduceIte, List.getElem?_cons_zero, List.drop_zero, List.head?_cons, Nat.reduceEqDiff, reduceCtorEq, decide_true, Bool.and_self, Bool.false_eq_true, and_self, Nat.zero_add, eq_self]
    exact ⟨_, rfl, j, rfl, rfl, rfl, rfl, rfl, rfl, rfl, h1, h2, h3, fun _ z hz => by rw [hx] at hz; cases hz; exact hlt⟩
end
end Go.Proofs.Ytbkabnhkclbepaa.K

namespace Go.Proofs.Ytbkabnhkclbepaa.K
open Go.Ev
set_option linter.unusedSimpArgs false
set_option linter.unusedVariables false
set_option maxRecDepth 10000
structure PInv (Lo Hi : Int → Prop) (P S Q : List Int) (a b : Nat) (v : Int) (D : List Int) (i j : Nat) : Prop where
  seg : ∃ S', D = P ++ (S' ++ Q) ∧ S'.Perm S
  piv : D[a]? = some v
  i1 : a + 1 ≤ i
  j1 : j + 1 ≤ b
  ij : i ≤ j + 1
  lo : ∀ k x, a < k → k < i → D[k]? = some x → Lo x
  hi : ∀ k x, j < k → k < b → D[k]? = some x → Hi x
theorem get_swap {D : List Int} {i j k : Nat} {x y z : Int} (hx : D[i]? = some x) (hy : D[j]? = some y) (h : ((D.set i y).set j x)[k]? = some z) : k = j ∧ z = x ∨ k ≠ j ∧ k = i ∧ z = y ∨ k ≠ j ∧ k ≠ i ∧ D[k]? = some z := by
  have hi := (List.getElem?_eq_some_iff.1 hx).1
  have hj := (List.getElem?_eq_some_iff.1 hy).1
  by_cases e1 : k = j
  · subst e1
    rw [List.getElem?_set_self (by simpa using hj)] at h
    exact .inl ⟨rfl, (Option.some.inj h).symm⟩
  · rw [List.getElem?_set_ne (Ne.symm e1)] at h
    by_cases e2 : k = i
    · subst e2
      rw [List.getElem?_set_self hi] at h
      exact .inr (.inl ⟨e1, rfl, (Option.some.inj h).symm⟩)
    · rw [List.getElem?_set_ne (Ne.symm e2)] at h
      exact .inr (.inr ⟨e1, e2, h⟩)
section
variable {Lo Hi : Int → Prop} {P S Q : List Int} {a b : Nat} {v : Int} {D : List Int} {i j : Nat}
theorem PInv.swap (h : PInv Lo Hi P S Q a b v D i j) (ha : a = P.length) (hb : b = a + S.length) {x y : Int} {m : Nat} (hm : j = m + 1) (hij : i < j) (hx : D[i]? = some x) (hy : D[j]? = some y) (hLo : Lo y) (hHi : Hi x) : PInv Lo Hi P S Q a b v ((D.set i y).set j x) (i + 1) m := by
  obtain ⟨S', hD, hp⟩ := h.seg
  have hl := hp.length_eq
  have h1 := h.i1; have h2 := h.j1
  obtain ⟨S'', e1, e2⟩ := seg_swap hD ha (by omega) (by omega) (by omega) (by omega) hx hy
  refine ⟨⟨S'', e1, e2.trans hp⟩, ?_, by omega, by omega, by omega, fun k z k1 k2 hk => ?_, fun k z k1 k2 hk => ?_⟩
  · rw [List.getElem?_set_ne (by omega), List.getElem?_set_ne (by omega)]; exact h.piv
  · rcases get_swap hx hy hk with ⟨e, _⟩ | ⟨_, _, rfl⟩ | ⟨_, e, g⟩
    · omega
    · exact hLo
    · exact h.lo k z k1 (by omega) g
  · rcases get_swap hx hy hk with ⟨_, rfl⟩ | ⟨e, e', _⟩ | ⟨e, _, g⟩
    · exact hHi
    · omega
    · exact h.hi k z (by omega) k2 g
theorem PInv.init (ha : a = P.length) (hb : b = a + S.length) (hS : 0 < S.length) {p : Nat} (hp : a ≤ p ∧ p < b) {u : Int} (hD : D = P ++ (S ++ Q)) (hu : D[a]? = some u) (hv : D[p]? = some v) : PInv Lo Hi P S Q a b v ((D.set a v).set p u) (a + 1) (b - 1) := by
  obtain ⟨S'', e1, e2⟩ := seg_swap hD ha (Nat.le_refl _) (by omega) hp.1 (by omega) hu hv
  refine ⟨⟨S'', e1, e2⟩, ?_, by omega, by omega, by omega, fun k z k1 k2 hk => by omega, fun k z k1 k2 hk => by omega⟩
  have hal := (List.getElem?_eq_some_iff.1 hu).1
  by_cases e : p = a
  · subst e
    rw [hu] at hv; cases hv
    rw [List.getElem?_set_self (by simpa using hal)]
  · rw [List.getElem?_set_ne e, List.getElem?_set_self hal]
theorem PInv.final (h : PInv Lo Hi P S Q a b v D (j + 1) j) (ha : a = P.length) (hb : b = a + S.length) {y : Int} (hy : D[j]? = some y) :
    ∃ L R, (D.set j v).set a y = P ++ ((L ++ v :: R) ++ Q) ∧ (L ++ v :: R).Perm S ∧ (∀ x ∈ L, Lo x) ∧ (∀ x ∈ R, Hi x) ∧ j = a + L.length := by
  obtain ⟨S', hD, hp⟩ := h.seg
  have hl := hp.length_eq
  have h1 := h.i1; have h2 := h.j1
  obtain ⟨S2, e1, e2⟩ := seg_swap hD ha (by omega : a ≤ j) (by omega) (Nat.le_refl a) (by omega) hy h.piv
  have hl2 := e2.length_eq
  have hat : S2[j - a]? = some v := by
    have : ((D.set j v).set a y)[j]? = some v := by
      have hjl := (List.getElem?_eq_some_iff.1 hy).1
      by_cases e : j = a
      · have := h.piv
        rw [← e, hy] at this; cases this
        rw [← e, List.getElem?_set_self (by simpa using hjl)]
      · rw [List.getElem?_set_ne (Ne.symm e), List.getElem?_set_self hjl]
    rw [← this]; exact (get_in e1 (by omega) (by omega)).symm
  obtain ⟨hlt, hval⟩ := List.getElem?_eq_some_iff.1 hat
  have hsplit : S2 = S2.take (j - a) ++ v :: S2.drop (j - a + 1) := by
    rw [← hval, List.getElem_cons_drop, List.take_append_drop]
  have at' : ∀ k z, S2[k]? = some z → ((D.set j v).set a y)[a + k]? = some z := fun k z hk => by
    rw [← hk]; exact get_in e1 (List.getElem?_eq_some_iff.1 hk).1 (by omega)
  refine ⟨S2.take (j - a), S2.drop (j - a + 1), by rw [← hsplit]; exact e1, by rw [← hsplit]; exact e2.trans hp, fun x hx => ?_, fun x hx => ?_, by simp; omega⟩
  · obtain ⟨k, hk⟩ := List.mem_iff_getElem?.1 hx
    have hkl := (List.getElem?_eq_some_iff.1 hk).1
    simp only [List.length_take] at hkl
    rw [List.getElem?_take_of_lt (by omega)] at hk
    rcases get_swap hy h.piv (at' k x hk) with ⟨_, rfl⟩ | ⟨_, e, _⟩ | ⟨e, _, g⟩
    · exact h.lo j x (by omega) (by omega) hy
    · omega
    · exact h.lo (a + k) x (by omega) (by omega) g
  · obtain ⟨k, hk⟩ := List.mem_iff_getElem?.1 hx
    rw [List.getElem?_drop] at hk
    have hkl := (List.getElem?_eq_some_iff.1 hk).1
    rcases get_swap hy h.piv (at' _ x hk) with ⟨e, _⟩ | ⟨_, e, _⟩ | ⟨_, _, g⟩
    · omega
    · omega
    · exact h.hi (a + (j - a + 1 + k)) x (by omega) (by omega) g
theorem PInv.equal (h : PInv Lo Hi P S Q a b v D (j + 1) j) (ha : a = P.length) (hb : b = a + S.length) :
    ∃ L R, D = P ++ ((L ++ R) ++ Q) ∧ (L ++ R).Perm S ∧ (∀ x ∈ L, x = v ∨ Lo x) ∧ (∀ x ∈ R, Hi x) ∧ j + 1 = a + L.length := by
  obtain ⟨S', hD, hp⟩ := h.seg
  have hl := hp.length_eq
  have h1 := h.i1; have h2 := h.j1
  have at' : ∀ k z, S'[k]? = some z → D[a + k]? = some z := fun k z hk => by
    rw [← hk]; exact get_in hD (List.getElem?_eq_some_iff.1 hk).1 (by omega)
  refine ⟨S'.take (j + 1 - a), S'.drop (j + 1 - a), by rw [List.take_append_drop]; exact hD, by rw [List.take_append_drop]; exact hp, fun x hx => ?_, fun x hx => ?_, by simp; omega⟩
  · obtain ⟨k, hk⟩ := List.mem_iff_getElem?.1 hx
    have hkl := (List.getElem?_eq_some_iff.1 hk).1
    simp only [List.length_take] at hkl
    rw [List.getElem?_take_of_lt (by omega)] at hk
    have := at' k x hk
    by_cases e : k = 0
    · subst e; rw [Nat.add_zero, h.piv] at this; cases this; exact .inl rfl
    · exact .inr (h.lo (a + k) x (by omega) (by omega) this)
  · obtain ⟨k, hk⟩ := List.mem_iff_getElem?.1 hx
    rw [List.getElem?_drop] at hk
    have hkl := (List.getElem?_eq_some_iff.1 hk).1
    exact h.hi (a + (j + 1 - a + k)) x (by omega) (by omega) (at' _ x hk)
theorem PInv.up (h : PInv Lo Hi P S Q a b v D i j) {i' : Nat} (h1 : i ≤ i') (h2 : i' ≤ j + 1) (h3 : ∀ k x, i ≤ k → k < i' → D[k]? = some x → Lo x) : PInv Lo Hi P S Q a b v D i' j :=
  ⟨h.seg, h.piv, by have := h.i1; omega, h.j1, h2, fun k x k1 k2 hk => by
    by_cases c : k < i
    · exact h.lo k x k1 c hk
    · exact h3 k x (by omega) k2 hk, h.hi⟩
theorem PInv.down (h : PInv Lo Hi P S Q a b v D i j) {j' : Nat} (h1 : j' ≤ j) (h2 : i ≤ j' + 1) (h3 : ∀ k x, j' < k → k ≤ j → D[k]? = some x → Hi x) : PInv Lo Hi P S Q a b v D i j' :=
  ⟨h.seg, h.piv, h.i1, by have := h.j1; omega, h2, h.lo, fun k x k1 k2 hk => by
    by_cases c : j < k
    · exact h.hi k x c k2 hk
    · exact h3 k x k1 (by omega) hk⟩
theorem PInv.len (h : PInv Lo Hi P S Q a b v D i j) : D.length = P.length + (S.length + Q.length) := by
  obtain ⟨S', hD, hp⟩ := h.seg
  rw [hD]; simp [hp.length_eq]
end
section
variable (g : Nat) (cl : Bool) (n : Nat) (V : List Int) (gw : Nat)
theorem part_outer (P S Q : List Int) (a b : Nat) (v : Int) (ha : a = P.length) (hbb : b = a + S.length) (hn : n = P.length + (S.length + Q.length)) (hb : n < 2 ^ 61) (D0 : List Int) (i0 j0 : Nat) (h0 : PInv (fun x => x < v) (fun x => ¬ x < v) P S Q a b v D0 i0 j0) :
    ∃ y, itB (exec (evL T) itL none c_slices_partitionOrdered_int_L3) (Ev.settle [0, 1, 10, 11] true 2) ⟨[(0, .sl 0 g 0 n cl), (1, (.v (.int .i64 (a)))), (10, (.v (.int .i64 (i0)))), (11, (.v (.int .i64 (j0))))], []⟩ [.row 1 ((D0).map intC) g, .row 1 (V.map intC) gw] = some y ∧
      ∃ (D : List Int) (j : Nat), y.1 = .exit 4 ∧ y.2.1.marks = [] ∧ y.2.2 = [.row 1 ((D).map intC) g, .row 1 (V.map intC) gw] ∧ Ev.look y.2.1.vars 0 = some (.sl 0 g 0 n cl) ∧ Ev.look y.2.1.vars 1 = some (.v (.int .i64 (a))) ∧ Ev.look y.2.1.vars 11 = some (.v (.int .i64 (j))) ∧ PInv (fun x => x < v) (fun x => ¬ x < v) P S Q a b v D (j + 1) j := by
  refine itB_while (τ := List Int × Nat × Nat) (fun s => ⟨[(0, .sl 0 g 0 n cl), (1, (.v (.int .i64 (a)))), (10, (.v (.int .i64 (s.2.1)))), (11, (.v (.int .i64 (s.2.2))))], []⟩) (fun s => [.row 1 ((s.1).map intC) g, .row 1 (V.map intC) gw]) (fun s => s.2.2 + 1 - s.2.1)
    (fun s => PInv (fun x => x < v) (fun x => ¬ x < v) P S Q a b v s.1 s.2.1 s.2.2) _ ?_ (D0, i0, j0) h0
  rintro ⟨D, i, j⟩ h
  simp only at h ⊢
  have hl := h.len
  have h1 := h.i1; have h2 := h.j1
  obtain ⟨⟨y1, e1, σ1⟩, k1, i', k2, k3, k4, k5, k6, k7, k8, k9, k10, k11, k12⟩ := part_up2 g cl n V gw D (by omega) hb a i j v h.piv (by omega) h.ij
  simp only at k1 k2 k3 k4 k5 k6 k7 k8
  subst k2; subst k4
  have hu := h.up k9 k10 k11
  obtain ⟨⟨y2, e2, σ2⟩, l1, j', l2, l3, l4, l5, l6, l7, l8, l9, l10, l11, l12⟩ := part_down2 g cl n V gw D (by omega) hb a i' j v h.piv (by omega) k10 (by omega)
  simp only at l1 l2 l3 l4 l5 l6 l7 l8
  subst l2; subst l4
  have hd := hu.down l9 l10 l11
  by_cases hij : i' ≤ j'
  case neg =>
    have c1 : (i' : Int) > (j' : Int) := by omega
    right
    simp only [c_slices_partitionOrdered_int_L3, c1, k1, k3, k5, k6, k7, k8, l1, l3, l7, l8, ints_lo, Go.Ev.exec, Go.Ev.evOpers, Go.Ev.evOper, Go.Ev.item_op, Go.Ev.evOp, Go.Ev.Opnd.ev, Go.Ev.Env.get, Go.Ev.Env.set, Go.Ev.look, Go.Ev.bin_gtr, Go.Ev.settle, Go.Ev.keep, Go.Ev.varsLo, Go.Ev.marksLo, Go.Ev.storeLo, Go.Ev.SObj.lo, Go.Ev.lo_v, Go.Ev.lo_sl, ↓Go.Ev.obind, ↓Go.Ev.itL_itB, Go.Ev.it1, ↓reduceIte, List.length_cons, List.length_nil, List.take_succ_cons, List.take_nil, Nat.reduceAdd, Nat.reduceEqDiff, Nat.reduceLT, reduceCtorEq, decide_true, Bool.and_self, and_self, Nat.zero_add, eq_self]
    obtain rfl : i' = j' + 1 := by have := hd.ij; omega
    exact ⟨_, rfl, D, j', rfl, rfl, rfl, by simp only [l5, Go.Ev.look, ↓reduceIte, reduceCtorEq, eq_self], by simp only [l6, Go.Ev.look, ↓reduceIte, Nat.reduceEqDiff, eq_self], by simp only [l8, Go.Ev.look, ↓reduceIte, Nat.reduceEqDiff, eq_self], hd⟩
  have c1 : ¬ (i' : Int) > (j' : Int) := by omega
  obtain ⟨x, hx⟩ : ∃ x, D[i']? = some x := ⟨_, List.getElem?_eq_getElem (by omega)⟩
  obtain ⟨y, hy⟩ : ∃ y, D[j']? = some y := ⟨_, List.getElem?_eq_getElem (by omega)⟩
  have nx := k12 (by omega) x hx
  have ny := l12 hij y hy
  have hne : i' ≠ j' := fun e => by subst e; rw [hx] at hy; cases hy; exact ny nx
  obtain ⟨m, hm⟩ : ∃ m, j' = m + 1 := ⟨j' - 1, by omega⟩
  have hs := hd.swap ha hbb hm (by omega) hx hy (Classical.not_not.1 ny) nx
  obtain ⟨z, hz⟩ := swap_get hx hy
  obtain ⟨D1, hD1⟩ : ∃ D1, D1 = (D.set i' y).set j' x := ⟨_, rfl⟩
  rw [← hD1] at hs
  have hr1 : (((D.map intC).set i' [(.v (.int .i64 (y)))]).set j' [(.v (.int .i64 (x)))]) = D1.map intC := by rw [hD1, List.map_set, List.map_set]; rfl
  have w1 : IntKind.i64.wrap ((i' : Int) + 1) = ((i' + 1 : Nat) : Int) := w64_add1 (by omega)
  have w2 : IntKind.i64.wrap ((j' : Int) - 1) = (m : Int) := w64_sub1 hm (by omega)
  have r1 : i' < n := by omega
  have r2 : j' < n := by omega
  left
  refine ⟨(D1, i' + 1, m), ?_, hs, by simp only; omega⟩
  simp only [c_slices_partitionOrdered_int_L3, Int.natCast_nonneg, Int.toNat_natCast, List.getElem?_map, Option.map_some, c1, k1, k3, k5, k6, k7, k8, l1, l3, l5, l6, l7, l8, hx, hy, hz, hr1, w1, w2, r1, r2, intC, ints_lo, Go.Ev.exec, Go.Ev.evOpers, Go.Ev.evOper, Go.Ev.item_op, Go.Ev.evOp, Go.Ev.Opnd.ev, Go.Ev.Env.get, Go.Ev.Env.set, Go.Ev.look, Go.Ev.cellsAt, Go.Ev.loadC, Go.Ev.AV.cells, Go.Ev.AV.uc, Go.Ev.plains, Go.Ev.AV.plain, Go.Ev.bin_add, Go.Ev.bin_sub, Go.Ev.bin_gtr, Go.Ev.settle, Go.Ev.keep, Go.Ev.varsLo, Go.Ev.marksLo, Go.Ev.storeLo, Go.Ev.SObj.lo, Go.Ev.lo_v, Go.Ev.lo_sl, ↓Go.Ev.obind, ↓Go.Ev.itL_itB, Go.Ev.it1, ↓reduceIte, List.length_cons, List.length_nil, List.getElem?_cons_zero, List.take_succ_cons, List.take_zero, List.take_nil, List.drop_succ_cons, List.drop_zero, List.drop_nil, List.nil_append, List.append_nil, List.set_cons_zero, List.head?_cons, Nat.reduceAdd, Nat.reduceEqDiff, Nat.reduceLT, reduceCtorEq, decide_true, decide_false, Bool.and_self, Bool.false_eq_true, and_self, Nat.zero_add, Nat.le_refl, eq_self]
theorem part_ev (P S Q : List Int) (a b p : Nat) (ha : a = P.length) (hbb : b = a + S.length) (hp : a ≤ p ∧ p < b) (hn : n = (P ++ (S ++ Q)).length) (hb : n < 2 ^ 61) :
    ∃ (L R : List Int) (v : Int) (r : Bool), (L ++ v :: R).Perm S ∧ (∀ x ∈ L, x < v) ∧ (∀ x ∈ R, ¬ x < v) ∧
      (evL T).call n_slices_partitionOrdered_int [.sl 0 g 0 n cl, (.v (.int .i64 (a))), (.v (.int .i64 (b))), (.v (.int .i64 (p)))] [.row 1 ((P ++ (S ++ Q)).map intC) g, .row 1 (V.map intC) gw] = some (.tup [(.v (.int .i64 ((a + L.length : Nat)))), (.v (.bool (r)))], [.row 1 ((P ++ ((L ++ v :: R) ++ Q)).map intC) g, .row 1 (V.map intC) gw]) := by
  have hlen : n = P.length + (S.length + Q.length) := by rw [hn]; simp
  obtain ⟨D, hD⟩ : ∃ D, D = P ++ (S ++ Q) := ⟨_, rfl⟩
  have hDl : D.length = n := by rw [hD]; exact hn.symm
  obtain ⟨u, hu⟩ : ∃ x, D[a]? = some x := ⟨_, List.getElem?_eq_getElem (by omega)⟩
  obtain ⟨v, hv⟩ : ∃ x, D[p]? = some x := ⟨_, List.getElem?_eq_getElem (by omega)⟩
  have h0 := PInv.init (Lo := fun x => x < v) (Hi := fun x => ¬ x < v) ha hbb (by omega) hp hD hu hv
  obtain ⟨z0, hz0⟩ := swap_get hu hv
  obtain ⟨D0, hD0⟩ : ∃ D0, D0 = (D.set a v).set p u := ⟨_, rfl⟩
  rw [← hD0] at h0
  have hr0 : (((D.map intC).set a [(.v (.int .i64 (v)))]).set p [(.v (.int .i64 (u)))]) = D0.map intC := by rw [hD0, List.map_set, List.map_set]; rfl
  have hl0 := h0.len
  obtain ⟨c, hc⟩ : ∃ c, b = c + 1 := ⟨b - 1, by omega⟩
  rw [show b - 1 = c by omega] at h0
  have w1 : IntKind.i64.wrap ((a : Int) + 1) = ((a + 1 : Nat) : Int) := w64_add1 (by omega)
  have w2 : IntKind.i64.wrap ((b : Int) - 1) = (c : Int) := w64_sub1 hc (by omega)
  have ra : a < n := by omega
  have rp : p < n := by omega
  obtain ⟨⟨y1, e1, σ1⟩, k1, i', k2, k3, k4, k5, k6, k7, k8, k9, k10, k11, k12⟩ := part_up1 g cl n V gw D0 (by omega) hb a (a + 1) c v h0.piv (by omega) h0.ij
  simp only at k1 k2 k3 k4 k5 k6 k7 k8
  subst k2; subst k4
  have hu1 := h0.up k9 k10 k11
  obtain ⟨⟨y2, e2, σ2⟩, l1, j', l2, l3, l4, l5, l6, l7, l8, l9, l10, l11, l12⟩ := part_down1 g cl n V gw D0 (by omega) hb a i' c v h0.piv (by omega) k10 (by omega)
  simp only at l1 l2 l3 l4 l5 l6 l7 l8
  subst l2; subst l4
  have hd := hu1.down l9 l10 l11
  rw [← hD]
  have gv0 := h0.piv
  by_cases hij : i' ≤ j'
  case neg =>
    have c1 : (i' : Int) > (j' : Int) := by omega
    obtain rfl : i' = j' + 1 := by have := hd.ij; omega
    obtain ⟨y, hy⟩ : ∃ y, D0[j']? = some y := ⟨_, List.getElem?_eq_getElem (by omega)⟩
    obtain ⟨L, R, f1, f2, f3, f4, f5⟩ := hd.final ha hbb hy
    obtain ⟨z, hz⟩ := swap_get hy gv0
    obtain ⟨D1, hD1⟩ : ∃ D1, D1 = (D0.set j' v).set a y := ⟨_, rfl⟩
    have hr1 : (((D0.map intC).set j' [(.v (.int .i64 (v)))]).set a [(.v (.int .i64 (y)))]) = D1.map intC := by rw [hD1, List.map_set, List.map_set]; rfl
    have r2 : j' < n := by omega
    refine ⟨L, R, v, true, f2, f3, f4, ?_⟩
    rw [← f1, ← hD1, ← f5]
    rw [evL_code ext_slices_partitionOrdered_int code_slices_partitionOrdered_int]
    simp only [c_slices_partitionOrdered_int, Int.natCast_nonneg, Int.toNat_natCast, List.getElem?_map, Option.map_some, hu, hv, hz0, hr0, w1, w2, ra, rp, k1, k3, k5, k6, k7, k8, l1, l3, l5, l6, l7, l8, c1, hy, gv0, hz, hr1, r2, intC, ints_lo, Go.Ev.runFunc, Go.Ev.exec, Go.Ev.evOpers, Go.Ev.evOper, Go.Ev.item_op, Go.Ev.evOp, Go.Ev.Opnd.ev, Go.Ev.Env.get, Go.Ev.Env.set, Go.Ev.look, Go.Ev.argVars, Go.Ev.cellsAt, Go.Ev.loadC, Go.Ev.AV.cells, Go.Ev.AV.uc, Go.Ev.plains, Go.Ev.AV.plain, Go.Ev.bin_add, Go.Ev.bin_sub, Go.Ev.bin_gtr, Go.Ev.resVals, Go.Ev.resVal, Go.Ev.resOf, Go.Ev.kill, Go.Ev.leave, Go.Ev.settle, Go.Ev.keep, Go.Ev.varsLo, Go.Ev.marksLo, Go.Ev.storeLo, Go.Ev.SObj.lo, Go.Ev.lo_v, Go.Ev.lo_tup, Go.Ev.lo_sl, Go.Ev.los_nil, Go.Ev.los_cons, ↓Go.Ev.obind, ↓Go.Ev.itL_itB, ↓reduceIte, List.length_cons, List.length_nil, List.getElem?_cons_zero, List.take_succ_cons, List.take_zero, List.take_nil, List.drop_succ_cons, List.drop_zero, List.drop_nil, List.nil_append, List.append_nil, List.set_cons_zero, List.head?_cons, Nat.reduceAdd, Nat.reduceEqDiff, Nat.reduceLT, reduceCtorEq, decide_true, Bool.and_self, Bool.false_eq_true, and_self, Nat.zero_add, Nat.le_refl, eq_self]
  have c1 : ¬ (i' : Int) > (j' : Int) := by omega
  obtain ⟨x, hx⟩ : ∃ x, D0[i']? = some x := ⟨_, List.getElem?_eq_getElem (by omega)⟩
  obtain ⟨y, hy⟩ : ∃ y, D0[j']? = some y := ⟨_, List.getElem?_eq_getElem (by omega)⟩
  have nx := k12 (by omega) x hx
  have ny := l12 hij y hy
  have hne : i' ≠ j' := fun e => by subst e; rw [hx] at hy; cases hy; exact ny nx
  obtain ⟨m, hm⟩ : ∃ m, j' = m + 1 := ⟨j' - 1, by have := h0.i1; omega⟩
  have hs := hd.swap ha hbb hm (by omega) hx hy (Classical.not_not.1 ny) nx
  obtain ⟨z, hz⟩ := swap_get hx hy
  obtain ⟨D1, hD1⟩ : ∃ D1, D1 = (D0.set i' y).set j' x := ⟨_, rfl⟩
  rw [← hD1] at hs
  have hr1 : (((D0.map intC).set i' [(.v (.int .i64 (y)))]).set j' [(.v (.int .i64 (x)))]) = D1.map intC := by rw [hD1, List.map_set, List.map_set]; rfl
  have w3 : IntKind.i64.wrap ((i' : Int) + 1) = ((i' + 1 : Nat) : Int) := w64_add1 (by omega)
  have w4 : IntKind.i64.wrap ((j' : Int) - 1) = (m : Int) := w64_sub1 hm (by omega)
  have r1 : i' < n := by omega
  have r2 : j' < n := by omega
  obtain ⟨⟨y3, e3, σ3⟩, m1, D2, j2, m2, m3, m4, m5, m6, m7, m8⟩ := part_outer g cl n V gw P S Q a b v ha hbb hlen hb D1 (i' + 1) m hs
  simp only at m1 m2 m3 m4 m5 m6 m7
  subst m2; subst m4
  have hl2 := m8.len
  have hj2 := m8.j1
  obtain ⟨q, hq⟩ : ∃ y, D2[j2]? = some y := ⟨_, List.getElem?_eq_getElem (by omega)⟩
  obtain ⟨L, R, f1, f2, f3, f4, f5⟩ := m8.final ha hbb hq
  have gv2 := m8.piv
  obtain ⟨z2, hz2⟩ := swap_get hq gv2
  obtain ⟨D3, hD3⟩ : ∃ D3, D3 = (D2.set j2 v).set a q := ⟨_, rfl⟩
  have hr3 : (((D2.map intC).set j2 [(.v (.int .i64 (v)))]).set a [(.v (.int .i64 (q)))]) = D3.map intC := by rw [hD3, List.map_set, List.map_set]; rfl
  have r3 : j2 < n := by omega
  refine ⟨L, R, v, false, f2, f3, f4, ?_⟩
  rw [← f1, ← hD3, ← f5]
  rw [evL_code ext_slices_partitionOrdered_int code_slices_partitionOrdered_int]
  simp only [c_slices_partitionOrdered_int, Int.natCast_nonneg, Int.toNat_natCast, List.getElem?_map, Option.map_some, hu, hv, hz0, hr0, w1, w2, ra, rp, k1, k3, k5, k6, k7, k8, l1, l3, l5, l6, l7, l8, c1, hx, hy, hz, hr1, w3, w4, r1, r2, m1, m3, m5, m6, m7, hq, gv2, hz2, hr3, r3, intC, ints_lo, Go.Ev.runFunc, Go.Ev.exec, Go.Ev.evOpers, Go.Ev.evOper, Go.Ev.item_op, Go.Ev.evOp, Go.Ev.Opnd.ev, Go.Ev.Env.get, Go.Ev.Env.set, Go.Ev.look, Go.Ev.argVars, Go.Ev.cellsAt, Go.Ev.loadC, Go.Ev.AV.cells, Go.Ev.AV.uc, Go.Ev.plains, Go.Ev.AV.plain, Go.Ev.bin_add, Go.Ev.bin_sub, Go.Ev.bin_gtr, Go.Ev.resVals, Go.Ev.resVal, Go.Ev.resOf, Go.Ev.kill, Go.Ev.leave, Go.Ev.settle, Go.Ev.keep, Go.Ev.varsLo, Go.Ev.marksLo, Go.Ev.storeLo, Go.Ev.SObj.lo, Go.Ev.lo_v, Go.Ev.lo_tup, Go.Ev.lo_sl, Go.Ev.los_nil, Go.Ev.los_cons, ↓Go.Ev.obind, ↓Go.Ev.itL_itB, ↓reduceIte, List.length_cons, List.length_nil, List.getElem?_cons_zero, List.take_succ_cons, List.take_zero, List.take_nil, List.drop_succ_cons, List.drop_zero, List.drop_nil, List.nil_append, List.append_nil, List.set_cons_zero, List.head?_cons, Nat.reduceAdd, Nat.reduceEqDiff, Nat.reduceLT, reduceCtorEq, decide_true, decide_false, Bool.and_self, Bool.false_eq_true, and_self, Nat.zero_add, Nat.le_refl, eq_self]
theorem peq_outer (P S Q : List Int) (a b : Nat) (v : Int) (ha : a = P.length) (hbb : b = a + S.length) (hn : n = P.length + (S.length + Q.length)) (hb : n < 2 ^ 61) (D0 : List Int) (i0 j0 : Nat) (h0 : PInv (fun x => ¬ v < x) (fun x => v < x) P S Q a b v D0 i0 j0) :
    ∃ y, itB (exec (evL T) itL none c_slices_partitionEqualOrdered_int_L1) (Ev.settle [0, 1, 9, 10] true 2) ⟨[(0, .sl 0 g 0 n cl), (1, (.v (.int .i64 (a)))), (9, (.v (.int .i64 (i0)))), (10, (.v (.int .i64 (j0))))], []⟩ [.row 1 ((D0).map intC) g, .row 1 (V.map intC) gw] = some y ∧
      ∃ (D : List Int) (j : Nat), y.1 = .exit 0 ∧ y.2.1.marks = [] ∧ y.2.2 = [.row 1 ((D).map intC) g, .row 1 (V.map intC) gw] ∧ Ev.look y.2.1.vars 9 = some (.v (.int .i64 ((j + 1 : Nat)))) ∧ PInv (fun x => ¬ v < x) (fun x => v < x) P S Q a b v D (j + 1) j := by
  refine itB_while (τ := List Int × Nat × Nat) (fun s => ⟨[(0, .sl 0 g 0 n cl), (1, (.v (.int .i64 (a)))), (9, (.v (.int .i64 (s.2.1)))), (10, (.v (.int .i64 (s.2.2))))], []⟩) (fun s => [.row 1 ((s.1).map intC) g, .row 1 (V.map intC) gw]) (fun s => s.2.2 + 1 - s.2.1)
    (fun s => PInv (fun x => ¬ v < x) (fun x => v < x) P S Q a b v s.1 s.2.1 s.2.2) _ ?_ (D0, i0, j0) h0
  rintro ⟨D, i, j⟩ h
  simp only at h ⊢
  have hl := h.len
  have h1 := h.i1; have h2 := h.j1
  obtain ⟨⟨y1, e1, σ1⟩, k1, i', k2, k3, k4, k5, k6, k7, k8, k9, k10, k11, k12⟩ := peq_up g cl n V gw D (by omega) hb a i j v h.piv (by omega) h.ij
  simp only at k1 k2 k3 k4 k5 k6 k7 k8
  subst k2; subst k4
  have hu := h.up k9 k10 k11
  obtain ⟨⟨y2, e2, σ2⟩, l1, j', l2, l3, l4, l5, l6, l7, l8, l9, l10, l11, l12⟩ := peq_down g cl n V gw D (by omega) hb a i' j v h.piv (by omega) k10 (by omega)
  simp only at l1 l2 l3 l4 l5 l6 l7 l8
  subst l2; subst l4
  have hd := hu.down l9 l10 l11
  by_cases hij : i' ≤ j'
  case neg =>
    have c1 : (i' : Int) > (j' : Int) := by omega
    right
    simp only [c_slices_partitionEqualOrdered_int_L1, c1, k1, k3, k5, k6, k7, k8, l1, l3, l7, l8, ints_lo, Go.Ev.exec, Go.Ev.evOpers, Go.Ev.evOper, Go.Ev.item_op, Go.Ev.evOp, Go.Ev.Opnd.ev, Go.Ev.Env.get, Go.Ev.Env.set, Go.Ev.look, Go.Ev.bin_gtr, Go.Ev.settle, Go.Ev.keep, Go.Ev.varsLo, Go.Ev.marksLo, Go.Ev.storeLo, Go.Ev.SObj.lo, Go.Ev.lo_v, Go.Ev.lo_sl, ↓Go.Ev.obind, ↓Go.Ev.itL_itB, Go.Ev.it1, ↓reduceIte, List.length_cons, List.length_nil, List.take_succ_cons, List.take_nil, Nat.reduceAdd, Nat.reduceEqDiff, Nat.reduceLT, reduceCtorEq, decide_true, Bool.and_self, and_self, Nat.zero_add, eq_self]
    obtain rfl : i' = j' + 1 := by have := hd.ij; omega
    exact ⟨_, rfl, D, j', rfl, rfl, rfl, by simp only [l7, Go.Ev.look, ↓reduceIte, Nat.reduceEqDiff, eq_self], hd⟩
  have c1 : ¬ (i' : Int) > (j' : Int) := by omega
  obtain ⟨x, hx⟩ : ∃ x, D[i']? = some x := ⟨_, List.getElem?_eq_getElem (by omega)⟩
  obtain ⟨y, hy⟩ : ∃ y, D[j']? = some y := ⟨_, List.getElem?_eq_getElem (by omega)⟩
  have nx := k12 (by omega) x hx
  have ny := l12 hij y hy
  have hne : i' ≠ j' := fun e => by subst e; rw [hx] at hy; cases hy; exact nx ny
  obtain ⟨m, hm⟩ : ∃ m, j' = m + 1 := ⟨j' - 1, by omega⟩
  have hs := hd.swap ha hbb hm (by omega) hx hy ny (Classical.not_not.1 nx)
  obtain ⟨z, hz⟩ := swap_get hx hy
  obtain ⟨D1, hD1⟩ : ∃ D1, D1 = (D.set i' y).set j' x := ⟨_, rfl⟩
  rw [← hD1] at hs
  have hr1 : (((D.map intC).set i' [(.v (.int .i64 (y)))]).set j' [(.v (.int .i64 (x)))]) = D1.map intC := by rw [hD1, List.map_set, List.map_set]; rfl
  have w1 : IntKind.i64.wrap ((i' : Int) + 1) = ((i' + 1 : Nat) : Int) := w64_add1 (by omega)
  have w2 : IntKind.i64.wrap ((j' : Int) - 1) = (m : Int) := w64_sub1 hm (by omega)
  have r1 : i' < n := by omega
  have r2 : j' < n := by omega
  left
  refine ⟨(D1, i' + 1, m), ?_, hs, by simp only; omega⟩
  simp only [c_slices_partitionEqualOrdered_int_L1, Int.natCast_nonneg, Int.toNat_natCast, List.getElem?_map, Option.map_some, c1, k1, k3, k5, k6, k7, k8, l1, l3, l5, l6, l7, l8, hx, hy, hz, hr1, w1, w2, r1, r2, intC, ints_lo, Go.Ev.exec, Go.Ev.evOpers, Go.Ev.evOper, Go.Ev.item_op, Go.Ev.evOp, Go.Ev.Opnd.ev, Go.Ev.Env.get, Go.Ev.Env.set, Go.Ev.look, Go.Ev.cellsAt, Go.Ev.loadC, Go.Ev.AV.cells, Go.Ev.AV.uc, Go.Ev.plains, Go.Ev.AV.plain, Go.Ev.bin_add, Go.Ev.bin_sub, Go.Ev.bin_gtr, Go.Ev.settle, Go.Ev.keep, Go.Ev.varsLo, Go.Ev.marksLo, Go.Ev.storeLo, Go.Ev.SObj.lo, Go.Ev.lo_v, Go.Ev.lo_sl, ↓Go.Ev.obind, ↓Go.Ev.itL_itB, Go.Ev.it1, ↓reduceIte, List.length_cons, List.length_nil, List.getElem?_cons_zero, List.take_succ_cons, List.take_zero, List.take_nil, List.drop_succ_cons, List.drop_zero, List.drop_nil, List.nil_append, List.append_nil, List.set_cons_zero, List.head?_cons, Nat.reduceAdd, Nat.reduceEqDiff, Nat.reduceLT, reduceCtorEq, decide_true, decide_false, Bool.and_self, Bool.false_eq_true, and_self, Nat.zero_add, Nat.le_refl, eq_self]
theorem peq_ev (P S Q : List Int) (a b p : Nat) (ha : a = P.length) (hbb : b = a + S.length) (hp : a ≤ p ∧ p < b) (hn : n = (P ++ (S ++ Q)).length) (hb : n < 2 ^ 61) (v : Int) (hv : (P ++ (S ++ Q))[p]? = some v) :
    ∃ L R : List Int, (L ++ R).Perm S ∧ (∀ x ∈ L, x ≤ v) ∧ (∀ x ∈ R, v < x) ∧ 0 < L.length ∧
      (evL T).call n_slices_partitionEqualOrdered_int [.sl 0 g 0 n cl, (.v (.int .i64 (a))), (.v (.int .i64 (b))), (.v (.int .i64 (p)))] [.row 1 ((P ++ (S ++ Q)).map intC) g, .row 1 (V.map intC) gw] = some ((.v (.int .i64 ((a + L.length : Nat)))), [.row 1 ((P ++ ((L ++ R) ++ Q)).map intC) g, .row 1 (V.map intC) gw]) := by
  have hlen : n = P.length + (S.length + Q.length) := by rw [hn]; simp
  obtain ⟨D, hD⟩ : ∃ D, D = P ++ (S ++ Q) := ⟨_, rfl⟩
  rw [← hD] at hv ⊢
  have hDl : D.length = n := by rw [hD]; exact hn.symm
  obtain ⟨u, hu⟩ : ∃ x, D[a]? = some x := ⟨_, List.getElem?_eq_getElem (by omega)⟩
  have h0 := PInv.init (Lo := fun x => ¬ v < x) (Hi := fun x => v < x) ha hbb (by omega) hp hD hu hv
  obtain ⟨z0, hz0⟩ := swap_get hu hv
  obtain ⟨D0, hD0⟩ : ∃ D0, D0 = (D.set a v).set p u := ⟨_, rfl⟩
  rw [← hD0] at h0
  have hr0 : (((D.map intC).set a [(.v (.int .i64 (v)))]).set p [(.v (.int .i64 (u)))]) = D0.map intC := by rw [hD0, List.map_set, List.map_set]; rfl
  obtain ⟨c, hc⟩ : ∃ c, b = c + 1 := ⟨b - 1, by omega⟩
  rw [show b - 1 = c by omega] at h0
  have w1 : IntKind.i64.wrap ((a : Int) + 1) = ((a + 1 : Nat) : Int) := w64_add1 (by omega)
  have w2 : IntKind.i64.wrap ((b : Int) - 1) = (c : Int) := w64_sub1 hc (by omega)
  have ra : a < n := by omega
  have rp : p < n := by omega
  obtain ⟨⟨y3, e3, σ3⟩, m1, D2, j2, m2, m3, m4, m5, m6⟩ := peq_outer g cl n V gw P S Q a b v ha hbb hlen hb D0 (a + 1) c h0
  simp only at m1 m2 m3 m4 m5
  subst m2; subst m4
  have hj := m6.i1
  obtain ⟨L, R, f1, f2, f3, f4, f5⟩ := m6.equal ha hbb
  refine ⟨L, R, f2, fun x hx => by rcases f3 x hx with h | h <;> omega, f4, by omega, ?_⟩
  rw [← f1, ← f5]
  rw [evL_code ext_slices_partitionEqualOrdered_int code_slices_partitionEqualOrdered_int]
  simp only [c_slices_partitionEqualOrdered_int, Int.natCast_nonneg, Int.toNat_natCast, List.getElem?_map, Option.map_some, hu, hv, hz0, hr0, w1, w2, ra, rp, m1, m3, m5, intC, ints_lo, Go.Ev.runFunc, Go.Ev.exec, Go.Ev.evOpers, Go.Ev.evOper, Go.Ev.item_op, Go.Ev.evOp, Go.Ev.Opnd.ev, Go.Ev.Env.get, Go.Ev.Env.set, Go.Ev.look, Go.Ev.argVars, Go.Ev.cellsAt, Go.Ev.loadC, Go.Ev.AV.cells, Go.Ev.AV.uc, Go.Ev.plains, Go.Ev.AV.plain, Go.Ev.bin_add, Go.Ev.bin_sub, Go.Ev.resVals, Go.Ev.resVal, Go.Ev.resOf, Go.Ev.kill, Go.Ev.leave, Go.Ev.settle, Go.Ev.keep, Go.Ev.varsLo, Go.Ev.marksLo, Go.Ev.storeLo, Go.Ev.SObj.lo, Go.Ev.lo_v, Go.Ev.lo_sl, ↓Go.Ev.obind, ↓Go.Ev.itL_itB, ↓reduceIte, List.length_cons, List.length_nil, List.getElem?_cons_zero, List.take_succ_cons, List.take_zero, List.take_nil, List.drop_succ_cons, List.drop_zero, List.drop_nil, List.nil_append, List.append_nil, List.set_cons_zero, List.head?_cons, Nat.reduceAdd, Nat.reduceEqDiff, Nat.reduceLT, reduceCtorEq, decide_true, Bool.and_self, Bool.false_eq_true, and_self, Nat.zero_add, Nat.le_refl, eq_self]
end
end Go.Proofs.Ytbkabnhkclbepaa.K
