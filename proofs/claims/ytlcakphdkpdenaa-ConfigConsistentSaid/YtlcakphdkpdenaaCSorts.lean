/- Part of the proofs about this seat's program (module CSorts). -/
import Derived.Test.YtlcakphdkpdenaaEvX
import Derived.Test.YtlcakphdkpdenaaCBase
set_option linter.unusedSectionVars false
set_option linter.unusedSimpArgs false
set_option linter.unusedVariables false
namespace Go.Ev
set_option linter.unusedSimpArgs false
set_option linter.unusedVariables false
/-! ### Lists that are sorted in place (no program here) -/
section
variable {α : Type}
theorem get_mid {D L M : List α} {x : α} {n : Nat} (h : D = L ++ x :: M) (hn : n = L.length) : D[n]? = some x := by
  subst h hn; simp
theorem get_in {D L X M : List α} {i n : Nat} (h : D = L ++ (X ++ M)) (hi : i < X.length) (hn : n = L.length + i) : D[n]? = X[i]? := by
  subst h hn
  rw [List.getElem?_append_right (by omega), List.getElem?_append_left (by omega)]
  congr 1; omega
theorem swap_next {D L M : List α} {x y : α} {n m : Nat} (h : D = L ++ y :: x :: M) (hn : n = L.length) (hm : m = n + 1) : (D.set m y).set n x = L ++ x :: y :: M := by
  subst h hm hn; simp []
theorem swap_next' {D L M : List α} {x y : α} {n m : Nat} (h : D = L ++ y :: x :: M) (hn : n = L.length) (hm : m = n + 1) : (D.set n x).set m y = L ++ x :: y :: M := by
  subst h hm hn; simp []
theorem swap_far {D L M N : List α} {x y : α} {n m : Nat} (h : D = L ++ x :: (M ++ y :: N)) (hn : n = L.length) (hm : m = n + 1 + M.length) : (D.set n y).set m x = L ++ y :: (M ++ x :: N) := by
  subst h hm hn
  rw [List.set_append, if_neg (Nat.lt_irrefl _), Nat.sub_self, List.set_cons_zero, List.set_append, if_neg (by omega), show L.length + 1 + M.length - L.length = M.length + 1 by omega, List.set_cons_succ, List.set_append, if_neg (Nat.lt_irrefl _), Nat.sub_self, List.set_cons_zero]
variable {R : α → α → Prop}
theorem cross (tr : ∀ a b c, R a b → R b c → R a c) {X Y : List α} (hX : X.Pairwise R) (hY : Y.Pairwise R) (h : ∀ u v, X[X.length - 1]? = some u → Y[0]? = some v → R u v) : ∀ a ∈ X, ∀ b ∈ Y, R a b := by
  intro a ha b hb
  obtain ⟨i, hi⟩ := List.mem_iff_getElem?.1 ha
  obtain ⟨j, hj⟩ := List.mem_iff_getElem?.1 hb
  obtain ⟨hi', hi⟩ := List.getElem?_eq_some_iff.1 hi
  obtain ⟨hj', hj⟩ := List.getElem?_eq_some_iff.1 hj
  rw [List.pairwise_iff_getElem] at hX hY
  have h0 := h _ _ (List.getElem?_eq_getElem (by omega)) (List.getElem?_eq_getElem (by omega))
  have h1 : R a Y[0] := by
    by_cases c : i = X.length - 1
    · subst c; rw [← hi]; exact h0
    · exact tr _ _ _ (by rw [← hi]; exact hX i (X.length - 1) hi' (by omega) (by omega)) h0
  by_cases c : j = 0
  · subst c; rw [← hj]; exact h1
  · exact tr _ _ _ h1 (by rw [← hj]; exact hY 0 j (by omega) hj' (by omega))
theorem merge_split (tr : ∀ a b c, R a b → R b c → R a c) {X1 X2 Y1 Y2 Z1 Z2 : List α} (hX : (X1 ++ X2).Pairwise R) (hY : (Y1 ++ Y2).Pairwise R)
    (h1 : ∀ u v, X1[X1.length - 1]? = some u → Y2[0]? = some v → R u v) (h2 : ∀ u v, Y1[Y1.length - 1]? = some u → X2[0]? = some v → R u v)
    (p1 : Z1.Perm (X1 ++ Y1)) (p2 : Z2.Perm (X2 ++ Y2)) (s1 : Z1.Pairwise R) (s2 : Z2.Pairwise R) : (Z1 ++ Z2).Perm (X1 ++ X2 ++ (Y1 ++ Y2)) ∧ (Z1 ++ Z2).Pairwise R := by
  obtain ⟨x1, x2, x3⟩ := List.pairwise_append.1 hX
  obtain ⟨y1, y2, y3⟩ := List.pairwise_append.1 hY
  have c1 := cross tr x1 y2 h1
  have c2 := cross tr y1 x2 h2
  refine ⟨(p1.append p2).trans ?_, List.pairwise_append.2 ⟨s1, s2, ?_⟩⟩
  · rw [List.append_assoc, List.append_assoc]
    refine List.Perm.append_left X1 ?_
    rw [← List.append_assoc, ← List.append_assoc]
    exact List.Perm.append_right Y2 List.perm_append_comm
  · intro a ha b hb
    rw [p1.mem_iff, List.mem_append] at ha
    rw [p2.mem_iff, List.mem_append] at hb
    rcases ha with ha | ha <;> rcases hb with hb | hb
    · exact x3 a ha b hb
    · exact c1 a ha b hb
    · exact c2 a ha b hb
    · exact y3 a ha b hb
/-- A new element takes its place among sorted ones. -/
theorem insert_split (tr : ∀ a b c, R a b → R b c → R a c) {A B : List α} {x : α} (h : (A ++ B).Pairwise R) (h1 : ∀ u, A[A.length - 1]? = some u → R u x) (h2 : ∀ v, B[0]? = some v → R x v) : (A ++ x :: B).Pairwise R := by
  obtain ⟨a1, a2, a3⟩ := List.pairwise_append.1 h
  have c1 := cross tr a1 (List.pairwise_singleton R x) (fun u v hu hv => by simp at hv; subst hv; exact h1 u hu)
  have c2 := cross tr (List.pairwise_singleton R x) a2 (fun u v hu hv => by simp at hu; subst hu; exact h2 v hv)
  refine List.pairwise_append.2 ⟨a1, List.pairwise_cons.2 ⟨fun b hb => c2 x (by simp) b hb, a2⟩, fun a ha b hb => ?_⟩
  rcases List.mem_cons.1 hb with rfl | hb
  · exact c1 a ha _ (by simp)
  · exact a3 a ha b hb
/-- Sorted blocks of one size, of which the last may be smaller. -/
inductive Blk (R : α → α → Prop) (s : Nat) : List α → Prop
  | last {l : List α} : l.length ≤ s → l.Pairwise R → Blk R s l
  | more {X Y : List α} : X.length = s → X.Pairwise R → Blk R s Y → Blk R s (X ++ Y)
theorem Blk.sorted {s : Nat} {l : List α} (h : Blk R s l) (hs : l.length ≤ s) : l.Pairwise R := by
  cases h with
  | last _ h => exact h
  | @more X Y h1 h2 h3 =>
    rw [List.length_append] at hs
    obtain rfl := List.eq_nil_of_length_eq_zero (l := Y) (by omega)
    simpa using h2
theorem Blk.split {s : Nat} {l : List α} (h : Blk R s l) (hs : s < l.length) : ∃ X Y, l = X ++ Y ∧ X.length = s ∧ X.Pairwise R ∧ Blk R s Y := by
  cases h with
  | last h1 _ => omega
  | @more X Y h1 h2 h3 => exact ⟨X, Y, rfl, h1, h2, h3⟩
theorem Blk.nil {s : Nat} : Blk R s ([] : List α) := .last (Nat.zero_le _) .nil
/-- A loop with a measure. -/
theorem itB_while {f : Env → Store → R3} {s : Env → Store → Option (Env × Store)} {τ : Type} (E : τ → Env) (S : τ → Store) (m : τ → Nat) (Inv : τ → Prop) (Q : CExit × Env × Store → Prop)
    (step : ∀ a, Inv a → (∃ a', it1 f s (E a) (S a) = some (.inl (E a', S a')) ∧ Inv a' ∧ m a' < m a) ∨ ∃ y, it1 f s (E a) (S a) = some (.inr y) ∧ Q y) :
    ∀ a, Inv a → ∃ y, itB f s (E a) (S a) = some y ∧ Q y := by
  have : ∀ k a, m a ≤ k → Inv a → ∃ y, itB f s (E a) (S a) = some y ∧ Q y := by
    intro k
    induction k with
    | zero =>
      intro a hk ha
      rcases step a ha with ⟨a', h1, h2, h3⟩ | ⟨y, h1, h2⟩
      · omega
      · exact ⟨y, itB_stop h1, h2⟩
    | succ k ih =>
      intro a hk ha
      rcases step a ha with ⟨a', h1, h2, h3⟩ | ⟨y, h1, h2⟩
      · obtain ⟨y, h4, h5⟩ := ih a' (by omega) h2
        exact ⟨y, itB_step h1 h4, h5⟩
      · exact ⟨y, itB_stop h1, h2⟩
  exact fun a => this (m a) a (Nat.le_refl _)
end
end Go.Ev

namespace Go.Proofs.Ytlcakphdkpdenaa.K
open Go.Ev
set_option linter.unusedSimpArgs false
set_option linter.unusedVariables false
set_option maxRecDepth 10000
def cmpZ (a b : Int) : Int := if a < b then -1 else if a > b then 1 else 0
theorem ref03_Compare_ev (a b : Int) : callZ (evL T) n_ref03_Compare [(.v (.int .i64 (a))), (.v (.int .i64 (b)))] = some (.v (.int .i64 (cmpZ a b))) := by
  rw [callZ, evL_code ext_ref03_Compare code_ref03_Compare]
  by_cases h1 : a < b
  · simp only [c_ref03_Compare, cmpZ, h1, Go.Ev.runFunc, Go.Ev.exec, Go.Ev.evOpers, Go.Ev.evOper, Go.Ev.item_op, Go.Ev.evOp, Go.Ev.Opnd.ev, Go.Ev.Env.get, Go.Ev.Env.set, Go.Ev.look, Go.Ev.argVars, Go.Ev.bin_lss, Go.Ev.resVals, Go.Ev.resVal, Go.Ev.resOf, Go.Ev.kill, Go.Ev.leave, Go.Ev.storeLo, Go.Ev.lo_v, Go.Ev.frz_lo, ↓Go.Ev.obind, ↓reduceIte, List.length_cons, List.length_nil, List.take_nil, Nat.reduceAdd, Nat.reduceEqDiff, Int.reduceNeg, reduceCtorEq, decide_true, and_self, Nat.zero_add, eq_self]
  by_cases h2 : a > b
  · simp only [c_ref03_Compare, cmpZ, h1, h2, Go.Ev.runFunc, Go.Ev.exec, Go.Ev.evOpers, Go.Ev.evOper, Go.Ev.item_op, Go.Ev.evOp, Go.Ev.Opnd.ev, Go.Ev.Env.get, Go.Ev.Env.set, Go.Ev.look, Go.Ev.argVars, Go.Ev.bin_lss, Go.Ev.bin_gtr, Go.Ev.resVals, Go.Ev.resVal, Go.Ev.resOf, Go.Ev.kill, Go.Ev.leave, Go.Ev.storeLo, Go.Ev.lo_v, Go.Ev.frz_lo, ↓Go.Ev.obind, ↓reduceIte, List.length_cons, List.length_nil, List.take_nil, Nat.reduceAdd, Nat.reduceEqDiff, Int.reduceNeg, reduceCtorEq, decide_true, decide_false, Bool.false_eq_true, and_self, Nat.zero_add, eq_self]
  · simp only [c_ref03_Compare, cmpZ, h1, h2, Go.Ev.runFunc, Go.Ev.exec, Go.Ev.evOpers, Go.Ev.evOper, Go.Ev.item_op, Go.Ev.evOp, Go.Ev.Opnd.ev, Go.Ev.Env.get, Go.Ev.Env.set, Go.Ev.look, Go.Ev.argVars, Go.Ev.bin_lss, Go.Ev.bin_gtr, Go.Ev.resVals, Go.Ev.resVal, Go.Ev.resOf, Go.Ev.kill, Go.Ev.leave, Go.Ev.storeLo, Go.Ev.lo_v, Go.Ev.frz_lo, ↓Go.Ev.obind, ↓reduceIte, List.length_cons, List.length_nil, List.take_nil, Nat.reduceAdd, Nat.reduceEqDiff, Int.reduceNeg, reduceCtorEq, decide_false, Bool.false_eq_true, and_self, Nat.zero_add, eq_self]
def keysZ : List Int → List Int → Int
  | x :: a, y :: b => if x = y then keysZ a b else cmpZ x y
  | [], b => if b.length = 0 then 0 else -1
  | _ :: _, [] => 1
theorem keysZ_find : ∀ a b : List Int, ((a.zip b).all (fun z => decide (z.1 = z.2)) = true → keysZ a b = cmpZ a.length b.length) ∧ ∀ x, (a.zip b).find? (fun z => !decide (z.1 = z.2)) = some x → keysZ a b = cmpZ x.1 x.2
  | [], b => by
    refine ⟨fun _ => ?_, fun x h => by simp at h⟩
    cases b with
    | nil => rfl
    | cons y b =>
      have : ((0 : Nat) : Int) < ((y :: b).length : Int) := by simp only [List.length_cons]; omega
      simp only [keysZ, List.length_cons, Nat.succ_ne_zero, if_false, cmpZ, List.length_nil]
      rw [if_pos (by omega)]
  | x :: a, [] => by
    refine ⟨fun _ => ?_, fun x h => by simp at h⟩
    simp only [keysZ, cmpZ, List.length_cons, List.length_nil]
    rw [if_neg (by omega), if_pos (by omega)]
  | x :: a, y :: b => by
    obtain ⟨h1, h2⟩ := keysZ_find a b
    simp only [List.zip_cons_cons, List.all_cons, List.find?_cons, keysZ, List.length_cons]
    by_cases h : x = y
    · simp only [h, decide_true, Bool.true_and, if_true, Bool.not_true]
      refine ⟨fun k => ?_, h2⟩
      rw [h1 k]; unfold cmpZ
      have e1 : ((a.length : Int) < b.length) ↔ (((a.length + 1 : Nat) : Int) < ((b.length + 1 : Nat) : Int)) := by omega
      have e2 : ((a.length : Int) > b.length) ↔ (((a.length + 1 : Nat) : Int) > ((b.length + 1 : Nat) : Int)) := by omega
      simp only [e1, e2]
    · simp only [h, decide_false, Bool.false_and, if_false, Bool.not_false]
      exact ⟨fun k => by simp at k, fun z k => by simp at k; rw [← k]⟩
theorem cmpZ_zero (a b : Int) : cmpZ a b = 0 ↔ a = b := by
  unfold cmpZ; split
  · constructor <;> intro h <;> omega
  split
  · constructor <;> intro h <;> omega
  · constructor <;> intro h <;> omega
theorem keysZ_zero : ∀ a b : List Int, keysZ a b = 0 ↔ a = b
  | [], [] => by simp [keysZ]
  | [], y :: b => by simp [keysZ]
  | x :: a, [] => by simp [keysZ]
  | x :: a, y :: b => by
    simp only [keysZ, List.cons.injEq]
    split
    next h => rw [keysZ_zero a b]; simp [h]
    next h => rw [cmpZ_zero]; simp [h]
theorem keysZ_app : ∀ (k : List Int) (a b : List Int), keysZ (k ++ a) (k ++ b) = keysZ a b
  | [], a, b => rfl
  | x :: k, a, b => by simp only [List.cons_append, keysZ, if_true, keysZ_app k a b]
section
variable (a b : List Int) (c d : Bool)
theorem CompareKeys_L (h1 : a.length ≤ 9223372036854775807) (h2 : b.length ≤ 9223372036854775807) :
    ∃ y, itB (exec (evL T) itL none c_ref03_CompareKeys_L1) (Ev.settle [0, 1, 5] true 0) ⟨[(0, (.fsl ((a).map intC) c)), (1, (.fsl ((b).map intC) d)), (5, (.v (.int .i64 (0))))], []⟩ [] = some y ∧
      ((a.zip b).all (fun z => decide (z.1 = z.2)) = true ∧ (y.1 = .exit 0 ∧ y.2.1.marks = [] ∧ y.2.2 = [] ∧ Ev.look y.2.1.vars 0 = some (.fsl ((a).map intC) c) ∧ Ev.look y.2.1.vars 1 = some (.fsl ((b).map intC) d)) ∨
      (a.zip b).all (fun z => decide (z.1 = z.2)) = false ∧ ∃ x, (a.zip b).find? (fun z => !decide (z.1 = z.2)) = some x ∧ (y.1 = .ret ∧ y.2.1.marks = [] ∧ y.2.2 = [] ∧ Ev.look y.2.1.vars 4 = some (.v (.int .i64 (cmpZ x.1 x.2))))) := by
  have hzl : (a.zip b).length = min a.length b.length := List.length_zip
  refine itB_find (a.zip b) (fun i => ⟨[(0, (.fsl ((a).map intC) c)), (1, (.fsl ((b).map intC) d)), (5, (.v (.int .i64 (i))))], []⟩) [] (fun z => decide (z.1 = z.2)) _ (fun x y => _) ?_ ?_ ?_
  · intro i x hi hx hp
    rw [hzl] at hi
    have hi' : (i : Int) < (a.length : Int) := by omega
    have hi2 : (i : Int) < (b.length : Int) := by omega
    have hw : IntKind.i64.wrap ((i : Int) + 1) = ((i + 1 : Nat) : Int) := by rw [w64_small (by omega) (by omega)]; simp
    obtain ⟨hxa, hxb⟩ := List.getElem?_zip_eq_some.1 hx
    have hp' := of_decide_eq_true hp
    simp only [c_ref03_CompareKeys_L1, Int.natCast_nonneg, Int.toNat_natCast, List.getElem?_map, Option.map_some, hxa, hxb, hi', hi2, hw, hp', ints_lo, intC, Go.Ev.exec, Go.Ev.evOpers, Go.Ev.evOper, Go.Ev.item_op, Go.Ev.evOp, Go.Ev.Opnd.ev, Go.Ev.Env.get, Go.Ev.Env.set, Go.Ev.look, Go.Ev.cellsAt, Go.Ev.loadC, Go.Ev.bin_add, Go.Ev.bin_neq, Go.Ev.bin_lss, Go.Ev.settle, Go.Ev.keep, Go.Ev.varsLo, Go.Ev.marksLo, Go.Ev.storeLo, Go.Ev.lo_v, Go.Ev.lo_fsl, List.length_map, ↓Go.Ev.obind, Go.Ev.it1, ↓reduceIte, List.length_cons, List.length_nil, List.take_nil, List.head?_cons, Nat.reduceEqDiff, reduceCtorEq, decide_true, decide_false, Bool.and_self, Bool.false_eq_true, and_self, ne_eq, not_true_eq_false, Nat.zero_add, eq_self]
  · intro i x hi hx hp
    rw [hzl] at hi
    have hi' : (i : Int) < (a.length : Int) := by omega
    have hi2 : (i : Int) < (b.length : Int) := by omega
    obtain ⟨hxa, hxb⟩ := List.getElem?_zip_eq_some.1 hx
    have hp' : ¬ x.1 = x.2 := of_decide_eq_false hp
    have hc := ref03_Compare_ev x.1 x.2
    simp only [c_ref03_CompareKeys_L1, Int.natCast_nonneg, Int.toNat_natCast, List.getElem?_map, Option.map_some, hxa, hxb, hi', hi2, hp', hc, intC, Go.Ev.exec, Go.Ev.evOpers, Go.Ev.evOper, Go.Ev.item_op, Go.Ev.item_P, Go.Ev.evOp, Go.Ev.evs, Go.Ev.Opnd.ev, Go.Ev.Env.get, Go.Ev.Env.set, Go.Ev.look, Go.Ev.cellsAt, Go.Ev.loadC, Go.Ev.bin_neq, Go.Ev.bin_lss, Go.Ev.lo_v, Go.Ev.los_nil, Go.Ev.los_cons, List.length_map, ↓Go.Ev.obind, Go.Ev.it1, ↓reduceIte, List.length_cons, List.length_nil, List.head?_cons, Nat.reduceEqDiff, reduceCtorEq, decide_true, Bool.and_self, Bool.false_eq_true, ne_eq, not_false_eq_true, Nat.zero_add, eq_self]
    exact ⟨_, rfl, rfl, rfl, rfl, rfl⟩
  · rw [hzl]
    by_cases hab : a.length ≤ b.length
    · rw [Nat.min_eq_left hab]
      simp only [c_ref03_CompareKeys_L1, Int.lt_irrefl, Go.Ev.exec, Go.Ev.evOpers, Go.Ev.evOper, Go.Ev.item_op, Go.Ev.evOp, Go.Ev.Opnd.ev, Go.Ev.Env.get, Go.Ev.Env.set, Go.Ev.Env.unset, Go.Ev.look, Go.Ev.bin_lss, List.length_map, ↓Go.Ev.obind, Go.Ev.it1, ↓reduceIte, Nat.reduceEqDiff, reduceCtorEq, decide_false, Bool.false_eq_true, eq_self]
      exact ⟨_, rfl, rfl, rfl, rfl, rfl, rfl⟩
    · rw [Nat.min_eq_right (by omega)]
      have h3 : (b.length : Int) < (a.length : Int) := by omega
      simp only [c_ref03_CompareKeys_L1, Int.lt_irrefl, h3, Go.Ev.exec, Go.Ev.evOpers, Go.Ev.evOper, Go.Ev.item_op, Go.Ev.evOp, Go.Ev.Opnd.ev, Go.Ev.Env.get, Go.Ev.Env.set, Go.Ev.look, Go.Ev.bin_lss, List.length_map, ↓Go.Ev.obind, Go.Ev.it1, ↓reduceIte, Nat.reduceEqDiff, reduceCtorEq, decide_true, decide_false, Bool.false_eq_true, eq_self]
      exact ⟨_, rfl, rfl, rfl, rfl, rfl, rfl⟩
theorem CompareKeys_ev (h1 : a.length ≤ 9223372036854775807) (h2 : b.length ≤ 9223372036854775807) : callZ (evL T) n_ref03_CompareKeys [(.fsl ((a).map intC) c), (.fsl ((b).map intC) d)] = some (.v (.int .i64 (keysZ a b))) := by
  obtain ⟨⟨y, e, σ⟩, k1, k2⟩ := CompareKeys_L a b c d h1 h2
  simp only at k2
  obtain ⟨z1, z2⟩ := keysZ_find a b
  rw [callZ, evL_code ext_ref03_CompareKeys code_ref03_CompareKeys]
  rcases k2 with ⟨k3, rfl, k4, rfl, k5, k6⟩ | ⟨k3, x, k7, rfl, k4, rfl, k5⟩
  · have hc := ref03_Compare_ev a.length b.length
    rw [z1 k3]
    simp only [c_ref03_CompareKeys, k1, k4, k5, k6, hc, ints_lo, Go.Ev.runFunc, Go.Ev.exec, Go.Ev.evOpers, Go.Ev.evOper, Go.Ev.item_op, Go.Ev.item_P, Go.Ev.evOp, Go.Ev.evs, Go.Ev.Opnd.ev, Go.Ev.Env.get, Go.Ev.Env.set, Go.Ev.look, Go.Ev.argVars, Go.Ev.resVals, Go.Ev.resVal, Go.Ev.resOf, Go.Ev.kill, Go.Ev.leave, Go.Ev.settle, Go.Ev.keep, Go.Ev.varsLo, Go.Ev.marksLo, Go.Ev.storeLo, Go.Ev.lo_v, Go.Ev.lo_fsl, Go.Ev.los_nil, Go.Ev.los_cons, Go.Ev.frz_lo, List.length_map, ↓Go.Ev.obind, ↓Go.Ev.itL_itB, ↓reduceIte, List.length_cons, List.length_nil, List.take_nil, Nat.reduceAdd, Nat.reduceEqDiff, reduceCtorEq, Bool.and_self, and_self, Nat.zero_add, eq_self]
  · rw [z2 x k7]
    simp only [c_ref03_CompareKeys, k1, k4, k5, ints_lo, Go.Ev.runFunc, Go.Ev.exec, Go.Ev.evOpers, Go.Ev.evOper, Go.Ev.item_op, Go.Ev.evOp, Go.Ev.Opnd.ev, Go.Ev.Env.get, Go.Ev.Env.set, Go.Ev.look, Go.Ev.argVars, Go.Ev.resVals, Go.Ev.resVal, Go.Ev.resOf, Go.Ev.kill, Go.Ev.leave, Go.Ev.settle, Go.Ev.keep, Go.Ev.varsLo, Go.Ev.marksLo, Go.Ev.storeLo, Go.Ev.lo_v, Go.Ev.lo_fsl, Go.Ev.frz_lo, ↓Go.Ev.obind, ↓Go.Ev.itL_itB, ↓reduceIte, List.length_cons, List.length_nil, List.take_nil, Nat.reduceAdd, Nat.reduceEqDiff, reduceCtorEq, Bool.and_self, and_self, Nat.zero_add, eq_self]
theorem SameKey_ev (h1 : a.length ≤ 9223372036854775807) (h2 : b.length ≤ 9223372036854775807) : callZ (evL T) n_ref03_SameKey [(.fsl ((a).map intC) c), (.fsl ((b).map intC) d)] = some (.v (.bool (decide (a = b)))) := by
  have hk := CompareKeys_ev a b c d h1 h2
  have hz := keysZ_zero a b
  rw [callZ, evL_code ext_ref03_SameKey code_ref03_SameKey]
  by_cases h : a = b
  · have h3 := hz.2 h
    rw [h3] at hk
    simp only [h, decide_true]
    simp only [h] at hk
    simp only [c_ref03_SameKey, hk, ints_lo, Go.Ev.runFunc, Go.Ev.exec, Go.Ev.evOpers, Go.Ev.evOper, Go.Ev.item_op, Go.Ev.item_P, Go.Ev.evOp, Go.Ev.evs, Go.Ev.Opnd.ev, Go.Ev.Env.get, Go.Ev.Env.set, Go.Ev.look, Go.Ev.argVars, Go.Ev.bin_eql, Go.Ev.resVals, Go.Ev.resVal, Go.Ev.resOf, Go.Ev.kill, Go.Ev.leave, Go.Ev.storeLo, Go.Ev.lo_v, Go.Ev.lo_fsl, Go.Ev.los_nil, Go.Ev.los_cons, Go.Ev.frz_lo, ↓Go.Ev.obind, ↓reduceIte, List.length_cons, List.length_nil, List.take_nil, Nat.reduceAdd, Nat.reduceEqDiff, reduceCtorEq, decide_true, Bool.and_self, and_self, Nat.zero_add, eq_self]
  · have h3 : ¬ keysZ a b = 0 := fun k => h (hz.1 k)
    simp only [h, decide_false]
    simp only [c_ref03_SameKey, hk, h3, ints_lo, Go.Ev.runFunc, Go.Ev.exec, Go.Ev.evOpers, Go.Ev.evOper, Go.Ev.item_op, Go.Ev.item_P, Go.Ev.evOp, Go.Ev.evs, Go.Ev.Opnd.ev, Go.Ev.Env.get, Go.Ev.Env.set, Go.Ev.look, Go.Ev.argVars, Go.Ev.bin_eql, Go.Ev.resVals, Go.Ev.resVal, Go.Ev.resOf, Go.Ev.kill, Go.Ev.leave, Go.Ev.storeLo, Go.Ev.lo_v, Go.Ev.lo_fsl, Go.Ev.los_nil, Go.Ev.los_cons, Go.Ev.frz_lo, ↓Go.Ev.obind, ↓reduceIte, List.length_cons, List.length_nil, List.take_nil, Nat.reduceAdd, Nat.reduceEqDiff, reduceCtorEq, decide_false, Bool.and_self, and_self, Nat.zero_add, eq_self]
end
structure Evt.Short (x : Evt) : Prop where
  key : x.key.length ≤ 9223372036854775807
theorem SameEvent_ev (x y : Evt) (hx : x.key.length ≤ 9223372036854775807) (hy : y.key.length ≤ 9223372036854775807) : callZ (evL T) n_ref03_SameEvent [(.agg [(.v (.int .i64 (x.time))), (.fsl ((x.key).map intC) false), (.v (.int .i64 (x.lp))), (.v (.int .i64 (x.kind))), (.v (.int .i64 (x.proc))), (.v (.int .i64 (x.arg)))]), (.agg [(.v (.int .i64 (y.time))), (.fsl ((y.key).map intC) false), (.v (.int .i64 (y.lp))), (.v (.int .i64 (y.kind))), (.v (.int .i64 (y.proc))), (.v (.int .i64 (y.arg)))])] = some (.v (.bool (decide (x = y)))) := by
  obtain ⟨xt, xk, xl, xi, xp, xa⟩ := x
  obtain ⟨yt, yk, yl, yi, yp, ya⟩ := y
  have hk := SameKey_ev xk yk false false hx hy
  simp only [Evt.mk.injEq]
  rw [callZ, evL_code ext_ref03_SameEvent code_ref03_SameEvent]
  by_cases h1 : xt = yt
  case neg => simp only [c_ref03_SameEvent, h1, false_and, decide_false, Go.Ev.runFunc, Go.Ev.exec, Go.Ev.evOpers, Go.Ev.evOper, Go.Ev.item_op, Go.Ev.evOp, Go.Ev.Opnd.ev, Go.Ev.Env.get, Go.Ev.Env.set, Go.Ev.Env.unset, Go.Ev.look, Go.Ev.argVars, Go.Ev.cellsAt, Go.Ev.loadC, Go.Ev.AV.cells, Go.Ev.plains, Go.Ev.AV.plain, Go.Ev.bin_eql, Go.Ev.resVals, Go.Ev.resVal, Go.Ev.resOf, Go.Ev.kill, Go.Ev.leave, Go.Ev.storeLo, Go.Ev.lo_v, Go.Ev.frz_lo, ↓Go.Ev.obind, ↓reduceIte, List.length_cons, List.length_nil, List.take_nil, List.drop_zero, List.head?_cons, Nat.reduceAdd, Nat.reduceEqDiff, reduceCtorEq, decide_false, Bool.and_self, Bool.false_eq_true, and_self, ne_eq, not_false_eq_true, List.cons_ne_nil, Nat.zero_add, eq_self, false_and]
  by_cases h2 : xk = yk
  case neg =>
    simp only [h2, decide_false] at hk
    simp only [c_ref03_SameEvent, h1, h2, hk, ints_lo, false_and, and_false, decide_false, Go.Ev.runFunc, Go.Ev.exec, Go.Ev.evOpers, Go.Ev.evOper, Go.Ev.item_op, Go.Ev.item_P, Go.Ev.evOp, Go.Ev.evs, Go.Ev.Opnd.ev, Go.Ev.Env.get, Go.Ev.Env.set, Go.Ev.Env.unset, Go.Ev.look, Go.Ev.argVars, Go.Ev.cellsAt, Go.Ev.loadC, Go.Ev.AV.cells, Go.Ev.plains, Go.Ev.AV.plain, Go.Ev.bin_eql, Go.Ev.resVals, Go.Ev.resVal, Go.Ev.resOf, Go.Ev.kill, Go.Ev.leave, Go.Ev.storeLo, Go.Ev.lo_v, Go.Ev.lo_fsl, Go.Ev.los_nil, Go.Ev.los_cons, Go.Ev.frz_lo, ↓Go.Ev.obind, ↓reduceIte, List.length_cons, List.length_nil, List.take_nil, List.drop_succ_cons, List.drop_zero, List.head?_cons, Nat.reduceAdd, Nat.reduceEqDiff, reduceCtorEq, decide_true, decide_false, Bool.and_self, Bool.false_eq_true, and_self, ne_eq, not_false_eq_true, List.cons_ne_nil, Nat.zero_add, eq_self, false_and, and_false]
  simp only [h2, decide_true] at hk
  by_cases h3 : xl = yl
  case neg => simp only [c_ref03_SameEvent, h1, h2, h3, hk, ints_lo, false_and, and_false, decide_false, Go.Ev.runFunc, Go.Ev.exec, Go.Ev.evOpers, Go.Ev.evOper, Go.Ev.item_op, Go.Ev.item_P, Go.Ev.evOp, Go.Ev.evs, Go.Ev.Opnd.ev, Go.Ev.Env.get, Go.Ev.Env.set, Go.Ev.Env.unset, Go.Ev.look, Go.Ev.argVars, Go.Ev.cellsAt, Go.Ev.loadC, Go.Ev.AV.cells, Go.Ev.plains, Go.Ev.AV.plain, Go.Ev.bin_eql, Go.Ev.resVals, Go.Ev.resVal, Go.Ev.resOf, Go.Ev.kill, Go.Ev.leave, Go.Ev.storeLo, Go.Ev.lo_v, Go.Ev.lo_fsl, Go.Ev.los_nil, Go.Ev.los_cons, Go.Ev.frz_lo, ↓Go.Ev.obind, ↓reduceIte, List.length_cons, List.length_nil, List.take_nil, List.drop_succ_cons, List.drop_zero, List.head?_cons, Nat.reduceAdd, Nat.reduceEqDiff, reduceCtorEq, decide_true, decide_false, Bool.and_self, Bool.false_eq_true, and_self, ne_eq, not_false_eq_true, List.cons_ne_nil, Nat.zero_add, eq_self, false_and, and_false]
  by_cases h4 : xi = yi
  case neg => simp only [c_ref03_SameEvent, h1, h2, h3, h4, hk, ints_lo, false_and, and_false, decide_false, Go.Ev.runFunc, Go.Ev.exec, Go.Ev.evOpers, Go.Ev.evOper, Go.Ev.item_op, Go.Ev.item_P, Go.Ev.evOp, Go.Ev.evs, Go.Ev.Opnd.ev, Go.Ev.Env.get, Go.Ev.Env.set, Go.Ev.Env.unset, Go.Ev.look, Go.Ev.argVars, Go.Ev.cellsAt, Go.Ev.loadC, Go.Ev.AV.cells, Go.Ev.plains, Go.Ev.AV.plain, Go.Ev.bin_eql, Go.Ev.resVals, Go.Ev.resVal, Go.Ev.resOf, Go.Ev.kill, Go.Ev.leave, Go.Ev.storeLo, Go.Ev.lo_v, Go.Ev.lo_fsl, Go.Ev.los_nil, Go.Ev.los_cons, Go.Ev.frz_lo, ↓Go.Ev.obind, ↓reduceIte, List.length_cons, List.length_nil, List.take_nil, List.drop_succ_cons, List.drop_zero, List.head?_cons, Nat.reduceAdd, Nat.reduceEqDiff, reduceCtorEq, decide_true, decide_false, Bool.and_self, Bool.false_eq_true, and_self, ne_eq, not_false_eq_true, List.cons_ne_nil, Nat.zero_add, eq_self, false_and, and_false]
  by_cases h5 : xp = yp
  case neg => simp only [c_ref03_SameEvent, h1, h2, h3, h4, h5, hk, ints_lo, false_and, and_false, decide_false, Go.Ev.runFunc, Go.Ev.exec, Go.Ev.evOpers, Go.Ev.evOper, Go.Ev.item_op, Go.Ev.item_P, Go.Ev.evOp, Go.Ev.evs, Go.Ev.Opnd.ev, Go.Ev.Env.get, Go.Ev.Env.set, Go.Ev.Env.unset, Go.Ev.look, Go.Ev.argVars, Go.Ev.cellsAt, Go.Ev.loadC, Go.Ev.AV.cells, Go.Ev.plains, Go.Ev.AV.plain, Go.Ev.bin_eql, Go.Ev.resVals, Go.Ev.resVal, Go.Ev.resOf, Go.Ev.kill, Go.Ev.leave, Go.Ev.storeLo, Go.Ev.lo_v, Go.Ev.lo_fsl, Go.Ev.los_nil, Go.Ev.los_cons, Go.Ev.frz_lo, ↓Go.Ev.obind, ↓reduceIte, List.length_cons, List.length_nil, List.take_nil, List.drop_succ_cons, List.drop_zero, List.head?_cons, Nat.reduceAdd, Nat.reduceEqDiff, reduceCtorEq, decide_true, decide_false, Bool.and_self, Bool.false_eq_true, and_self, ne_eq, not_false_eq_true, List.cons_ne_nil, Nat.zero_add, eq_self, false_and, and_false]
  by_cases h6 : xa = ya
  case neg => simp only [c_ref03_SameEvent, h1, h2, h3, h4, h5, h6, hk, ints_lo, and_false, decide_false, Go.Ev.runFunc, Go.Ev.exec, Go.Ev.evOpers, Go.Ev.evOper, Go.Ev.item_op, Go.Ev.item_P, Go.Ev.evOp, Go.Ev.evs, Go.Ev.Opnd.ev, Go.Ev.Env.get, Go.Ev.Env.set, Go.Ev.look, Go.Ev.argVars, Go.Ev.cellsAt, Go.Ev.loadC, Go.Ev.AV.cells, Go.Ev.plains, Go.Ev.AV.plain, Go.Ev.bin_eql, Go.Ev.resVals, Go.Ev.resVal, Go.Ev.resOf, Go.Ev.kill, Go.Ev.leave, Go.Ev.storeLo, Go.Ev.lo_v, Go.Ev.lo_fsl, Go.Ev.los_nil, Go.Ev.los_cons, Go.Ev.frz_lo, ↓Go.Ev.obind, ↓reduceIte, List.length_cons, List.length_nil, List.take_nil, List.drop_succ_cons, List.drop_zero, List.head?_cons, Nat.reduceAdd, Nat.reduceEqDiff, reduceCtorEq, decide_true, decide_false, Bool.and_self, Bool.false_eq_true, and_self, ne_eq, not_false_eq_true, List.cons_ne_nil, Nat.zero_add, eq_self, and_false]
  simp only [c_ref03_SameEvent, h1, h2, h3, h4, h5, h6, hk, ints_lo, and_self, decide_true, Go.Ev.runFunc, Go.Ev.exec, Go.Ev.evOpers, Go.Ev.evOper, Go.Ev.item_op, Go.Ev.item_P, Go.Ev.evOp, Go.Ev.evs, Go.Ev.Opnd.ev, Go.Ev.Env.get, Go.Ev.Env.set, Go.Ev.look, Go.Ev.argVars, Go.Ev.cellsAt, Go.Ev.loadC, Go.Ev.AV.cells, Go.Ev.plains, Go.Ev.AV.plain, Go.Ev.bin_eql, Go.Ev.resVals, Go.Ev.resVal, Go.Ev.resOf, Go.Ev.kill, Go.Ev.leave, Go.Ev.storeLo, Go.Ev.lo_v, Go.Ev.lo_fsl, Go.Ev.los_nil, Go.Ev.los_cons, Go.Ev.frz_lo, ↓Go.Ev.obind, ↓reduceIte, List.length_cons, List.length_nil, List.take_nil, List.drop_succ_cons, List.drop_zero, List.head?_cons, Nat.reduceAdd, Nat.reduceEqDiff, reduceCtorEq, decide_true, Bool.and_self, Bool.false_eq_true, and_self, ne_eq, not_false_eq_true, List.cons_ne_nil, Nat.zero_add, eq_self]
theorem zip_all_eq' {α : Type} [DecidableEq α] : ∀ {a b : List α}, a.length = b.length → ((a.zip b).all (fun z => decide (z.1 = z.2)) = true ↔ a = b)
  | [], [], _ => by simp
  | x :: a, y :: b, h => by
    rw [List.zip_cons_cons, List.all_cons, Bool.and_eq_true, decide_eq_true_eq, zip_all_eq' (a := a) (b := b) (by simpa using h), List.cons.injEq]
  | [], _ :: _, h => by simp at h
  | _ :: _, [], h => by simp at h
section
variable (a b : List Evt) (c d : Bool)
theorem SameEvents_ev (h1 : a.length ≤ 9223372036854775807) (h2 : b.length ≤ 9223372036854775807) (ha : ∀ x ∈ a, x.key.length ≤ 9223372036854775807) (hb : ∀ x ∈ b, x.key.length ≤ 9223372036854775807) :
    callZ (evL T) n_ref03_SameEvents [(.fsl ((a).map Evt.r) c), (.fsl ((b).map Evt.r) d)] = some (.v (.bool (decide (a = b)))) := by
  rw [callZ, evL_code ext_ref03_SameEvents code_ref03_SameEvents]
  by_cases hab : a.length = b.length
  case neg =>
    have hab' : ¬ (a.length : Int) = (b.length : Int) := by omega
    have : ¬ a = b := fun h => hab (by rw [h])
    simp only [c_ref03_SameEvents, hab', this, Go.Ev.runFunc, Go.Ev.exec, Go.Ev.evOpers, Go.Ev.evOper, Go.Ev.item_op, Go.Ev.evOp, Go.Ev.Opnd.ev, Go.Ev.Env.get, Go.Ev.Env.set, Go.Ev.look, Go.Ev.argVars, Go.Ev.bin_neq, Go.Ev.resVals, Go.Ev.resVal, Go.Ev.resOf, Go.Ev.kill, Go.Ev.leave, Go.Ev.storeLo, Go.Ev.lo_v, Go.Ev.frz_lo, List.length_map, ↓Go.Ev.obind, ↓reduceIte, List.length_cons, List.length_nil, List.take_nil, Nat.reduceAdd, Nat.reduceEqDiff, reduceCtorEq, decide_true, decide_false, and_self, ne_eq, not_false_eq_true, Nat.zero_add, eq_self]
  have hab' : (a.length : Int) = (b.length : Int) := by omega
  have hzl : (a.zip b).length = a.length := by rw [List.length_zip, ← hab, Nat.min_self]
  have hL : ∃ y, itB (exec (evL T) itL none c_ref03_SameEvents_L1) (Ev.settle [0, 1, 5] true 0) ⟨[(0, (.fsl ((a).map Evt.r) c)), (1, (.fsl ((b).map Evt.r) d)), (5, (.v (.int .i64 (0))))], []⟩ [] = some y ∧ ((a.zip b).all (fun z => decide (z.1 = z.2)) = true ∧ (y.1 = .exit 0 ∧ y.2.1.marks = [] ∧ y.2.2 = []) ∨
      (a.zip b).all (fun z => decide (z.1 = z.2)) = false ∧ ∃ x, (a.zip b).find? (fun z => !decide (z.1 = z.2)) = some x ∧ (y.1 = .ret ∧ y.2.1.marks = [] ∧ y.2.2 = [] ∧ Ev.look y.2.1.vars 4 = some (.v (.bool (false))))) := by
    refine itB_find (a.zip b) (fun i => ⟨[(0, (.fsl ((a).map Evt.r) c)), (1, (.fsl ((b).map Evt.r) d)), (5, (.v (.int .i64 (i))))], []⟩) [] (fun z => decide (z.1 = z.2)) _ (fun _ y => _) ?_ ?_ ?_
    · intro i x hi hx hp
      rw [hzl] at hi
      have hi' : (i : Int) < (a.length : Int) := by omega
      have hw : IntKind.i64.wrap ((i : Int) + 1) = ((i + 1 : Nat) : Int) := by rw [w64_small (by omega) (by omega)]; simp
      obtain ⟨hxa, hxb⟩ := List.getElem?_zip_eq_some.1 hx
      have hv := SameEvent_ev x.1 x.2 (ha _ (List.mem_of_getElem? hxa)) (hb _ (List.mem_of_getElem? hxb))
      rw [hp] at hv
      simp only [c_ref03_SameEvents_L1, Int.natCast_nonneg, Int.toNat_natCast, List.getElem?_map, Option.map_some, hxa, hxb, hi', hw, hv, evts_lo, ints_lo, Evt.r, Go.Ev.exec, Go.Ev.evOpers, Go.Ev.evOper, Go.Ev.item_op, Go.Ev.item_P, Go.Ev.evOp, Go.Ev.evs, Go.Ev.Opnd.ev, Go.Ev.Env.get, Go.Ev.Env.set, Go.Ev.look, Go.Ev.cellsAt, Go.Ev.loadC, Go.Ev.bin_add, Go.Ev.bin_lss, Go.Ev.settle, Go.Ev.keep, Go.Ev.varsLo, Go.Ev.marksLo, Go.Ev.storeLo, Go.Ev.lo_v, Go.Ev.lo_agg, Go.Ev.lo_fsl, Go.Ev.los_nil, Go.Ev.los_cons, List.length_map, ↓Go.Ev.obind, Go.Ev.it1, ↓reduceIte, List.length_cons, List.length_nil, List.take_succ_cons, List.take_nil, Nat.reduceAdd, Nat.reduceEqDiff, reduceCtorEq, decide_true, Bool.and_self, Bool.not_true, Bool.false_eq_true, and_self, Nat.zero_add, Nat.le_refl, eq_self]
    · intro i x hi hx hp
      rw [hzl] at hi
      have hi' : (i : Int) < (a.length : Int) := by omega
      obtain ⟨hxa, hxb⟩ := List.getElem?_zip_eq_some.1 hx
      have hv := SameEvent_ev x.1 x.2 (ha _ (List.mem_of_getElem? hxa)) (hb _ (List.mem_of_getElem? hxb))
      rw [hp] at hv
      simp only [c_ref03_SameEvents_L1, Int.natCast_nonneg, Int.toNat_natCast, List.getElem?_map, Option.map_some, hxa, hxb, hi', hv, ints_lo, Evt.r, Go.Ev.exec, Go.Ev.evOpers, Go.Ev.evOper, Go.Ev.item_op, Go.Ev.item_P, Go.Ev.evOp, Go.Ev.evs, Go.Ev.Opnd.ev, Go.Ev.Env.get, Go.Ev.Env.set, Go.Ev.look, Go.Ev.cellsAt, Go.Ev.loadC, Go.Ev.bin_lss, Go.Ev.lo_v, Go.Ev.lo_agg, Go.Ev.lo_fsl, Go.Ev.los_nil, Go.Ev.los_cons, List.length_map, ↓Go.Ev.obind, Go.Ev.it1, ↓reduceIte, List.length_cons, List.length_nil, List.take_succ_cons, List.take_nil, Nat.reduceAdd, Nat.reduceEqDiff, reduceCtorEq, decide_true, Bool.and_self, Bool.not_false, Nat.zero_add, Nat.le_refl, eq_self]
      exact ⟨_, rfl, rfl, rfl, rfl, rfl⟩
    · rw [hzl]
      simp only [c_ref03_SameEvents_L1, Int.lt_irrefl, Go.Ev.exec, Go.Ev.evOpers, Go.Ev.evOper, Go.Ev.item_op, Go.Ev.evOp, Go.Ev.Opnd.ev, Go.Ev.Env.get, Go.Ev.Env.set, Go.Ev.look, Go.Ev.bin_lss, List.length_map, ↓Go.Ev.obind, Go.Ev.it1, ↓reduceIte, Nat.reduceEqDiff, reduceCtorEq, decide_false, Bool.false_eq_true, eq_self]
      exact ⟨_, rfl, rfl, rfl, rfl⟩
  obtain ⟨⟨y, e, σ⟩, k1, k2⟩ := hL
  simp only at k2
  rcases k2 with ⟨k3, rfl, k4, rfl⟩ | ⟨k3, x, _, rfl, k4, rfl, k5⟩
  · have : a = b := (zip_all_eq' hab).1 k3
    subst this
    simp only [c_ref03_SameEvents, k1, k4, evts_lo, Go.Ev.runFunc, Go.Ev.exec, Go.Ev.evOpers, Go.Ev.evOper, Go.Ev.item_op, Go.Ev.evOp, Go.Ev.Opnd.ev, Go.Ev.Env.get, Go.Ev.Env.set, Go.Ev.look, Go.Ev.argVars, Go.Ev.bin_neq, Go.Ev.resVals, Go.Ev.resVal, Go.Ev.resOf, Go.Ev.kill, Go.Ev.leave, Go.Ev.settle, Go.Ev.keep, Go.Ev.varsLo, Go.Ev.marksLo, Go.Ev.storeLo, Go.Ev.lo_v, Go.Ev.lo_fsl, Go.Ev.frz_lo, List.length_map, ↓Go.Ev.obind, ↓Go.Ev.itL_itB, ↓reduceIte, List.length_cons, List.length_nil, List.take_nil, Nat.reduceAdd, Nat.reduceEqDiff, reduceCtorEq, decide_true, decide_false, Bool.and_self, Bool.false_eq_true, and_self, ne_eq, not_true_eq_false, Nat.zero_add, eq_self]
  · have : ¬ a = b := fun h => by rw [(zip_all_eq' hab).2 h] at k3; cases k3
    simp only [this]
    simp only [c_ref03_SameEvents, hab', k1, k4, k5, evts_lo, Go.Ev.runFunc, Go.Ev.exec, Go.Ev.evOpers, Go.Ev.evOper, Go.Ev.item_op, Go.Ev.evOp, Go.Ev.Opnd.ev, Go.Ev.Env.get, Go.Ev.Env.set, Go.Ev.look, Go.Ev.argVars, Go.Ev.bin_neq, Go.Ev.resVals, Go.Ev.resVal, Go.Ev.resOf, Go.Ev.kill, Go.Ev.leave, Go.Ev.settle, Go.Ev.keep, Go.Ev.varsLo, Go.Ev.marksLo, Go.Ev.storeLo, Go.Ev.lo_v, Go.Ev.lo_fsl, Go.Ev.frz_lo, List.length_map, ↓Go.Ev.obind, ↓Go.Ev.itL_itB, ↓reduceIte, List.length_cons, List.length_nil, List.take_nil, Nat.reduceAdd, Nat.reduceEqDiff, reduceCtorEq, decide_false, Bool.and_self, Bool.false_eq_true, and_self, ne_eq, not_true_eq_false, Nat.zero_add, eq_self]
end
end Go.Proofs.Ytlcakphdkpdenaa.K

namespace Go.Proofs.Ytlcakphdkpdenaa.K
open Go.Ev
set_option linter.unusedSimpArgs false
set_option linter.unusedVariables false
set_option maxRecDepth 10000
/-! ### Comparing events -/
theorem cmp_isNaN_ev (a : Int) : callZ (evL T) n_cmp_isNaN_int [(.v (.int .i64 (a)))] = some (.v (.bool (false))) := by
  rw [callZ, evL_code ext_cmp_isNaN_int code_cmp_isNaN_int]
  simp only [c_cmp_isNaN_int, Go.Ev.runFunc, Go.Ev.exec, Go.Ev.evOpers, Go.Ev.evOper, Go.Ev.item_op, Go.Ev.evOp, Go.Ev.Opnd.ev, Go.Ev.Env.get, Go.Ev.Env.set, Go.Ev.look, Go.Ev.argVars, Go.Ev.bin_neq, Go.Ev.resVals, Go.Ev.resVal, Go.Ev.resOf, Go.Ev.kill, Go.Ev.leave, Go.Ev.storeLo, Go.Ev.lo_v, Go.Ev.frz_lo, ↓Go.Ev.obind, ↓reduceIte, List.length_cons, List.length_nil, List.take_nil, Nat.reduceEqDiff, reduceCtorEq, decide_false, and_self, ne_eq, not_true_eq_false, Nat.zero_add, eq_self]
theorem cmp_Compare_ev (a b : Int) : callZ (evL T) n_cmp_Compare_int [(.v (.int .i64 (a))), (.v (.int .i64 (b)))] = some (.v (.int .i64 (cmpZ a b))) := by
  have h0 := cmp_isNaN_ev
  rw [callZ, evL_code ext_cmp_Compare_int code_cmp_Compare_int]
  by_cases h1 : a < b
  · simp only [c_cmp_Compare_int, cmpZ, h0, h1, Go.Ev.runFunc, Go.Ev.exec, Go.Ev.evOpers, Go.Ev.evOper, Go.Ev.item_op, Go.Ev.item_P, Go.Ev.evOp, Go.Ev.evs, Go.Ev.Opnd.ev, Go.Ev.Env.get, Go.Ev.Env.set, Go.Ev.look, Go.Ev.argVars, Go.Ev.bin_lss, Go.Ev.resVals, Go.Ev.resVal, Go.Ev.resOf, Go.Ev.kill, Go.Ev.leave, Go.Ev.storeLo, Go.Ev.lo_v, Go.Ev.los_nil, Go.Ev.los_cons, Go.Ev.frz_lo, ↓Go.Ev.obind, ↓reduceIte, List.length_cons, List.length_nil, List.take_nil, Nat.reduceAdd, Nat.reduceEqDiff, Int.reduceNeg, reduceCtorEq, decide_true, Bool.and_self, Bool.false_eq_true, and_self, Nat.zero_add, eq_self]
  by_cases h2 : a > b
  · simp only [c_cmp_Compare_int, cmpZ, h0, h1, h2, Go.Ev.runFunc, Go.Ev.exec, Go.Ev.evOpers, Go.Ev.evOper, Go.Ev.item_op, Go.Ev.item_P, Go.Ev.evOp, Go.Ev.evs, Go.Ev.Opnd.ev, Go.Ev.Env.get, Go.Ev.Env.set, Go.Ev.look, Go.Ev.argVars, Go.Ev.bin_lss, Go.Ev.bin_gtr, Go.Ev.resVals, Go.Ev.resVal, Go.Ev.resOf, Go.Ev.kill, Go.Ev.leave, Go.Ev.storeLo, Go.Ev.lo_v, Go.Ev.los_nil, Go.Ev.los_cons, Go.Ev.frz_lo, ↓Go.Ev.obind, ↓reduceIte, List.length_cons, List.length_nil, List.take_nil, Nat.reduceAdd, Nat.reduceEqDiff, Int.reduceNeg, reduceCtorEq, decide_true, decide_false, Bool.and_self, Bool.false_eq_true, and_self, Nat.zero_add, eq_self]
  · simp only [c_cmp_Compare_int, cmpZ, h0, h1, h2, Go.Ev.runFunc, Go.Ev.exec, Go.Ev.evOpers, Go.Ev.evOper, Go.Ev.item_op, Go.Ev.item_P, Go.Ev.evOp, Go.Ev.evs, Go.Ev.Opnd.ev, Go.Ev.Env.get, Go.Ev.Env.set, Go.Ev.look, Go.Ev.argVars, Go.Ev.bin_lss, Go.Ev.bin_gtr, Go.Ev.resVals, Go.Ev.resVal, Go.Ev.resOf, Go.Ev.kill, Go.Ev.leave, Go.Ev.storeLo, Go.Ev.lo_v, Go.Ev.los_nil, Go.Ev.los_cons, Go.Ev.frz_lo, ↓Go.Ev.obind, ↓reduceIte, List.length_cons, List.length_nil, List.take_nil, Nat.reduceAdd, Nat.reduceEqDiff, Int.reduceNeg, reduceCtorEq, decide_false, Bool.and_self, Bool.false_eq_true, and_self, Nat.zero_add, eq_self]
theorem cmp_Or_ev (x z : Int) (c : Bool) : callZ (evL T) n_cmp_Or_int [(.fsl (([x, z]).map intC) c)] = some (.v (.int .i64 (if x = 0 then z else x))) := by
  have hL : ∃ y, itB (exec (evL T) itL none c_cmp_Or_int_L1) (Ev.settle [3, 6, 7, 8] true 0) ⟨[(3, (.v (.int .i64 (0)))), (6, (.fsl (([x, z]).map intC) c)), (7, (.v (.int .i64 (2)))), (8, (.v (.int .i64 (0))))], []⟩ [] = some y ∧ ([x, z].all (fun v => decide (v = 0)) = true ∧ (y.1 = .exit 0 ∧ y.2.1.marks = [] ∧ y.2.2 = [] ∧ Ev.look y.2.1.vars 3 = some (.v (.int .i64 (0)))) ∨
      [x, z].all (fun v => decide (v = 0)) = false ∧ ∃ v, [x, z].find? (fun v => !decide (v = 0)) = some v ∧ (y.1 = .ret ∧ y.2.1.marks = [] ∧ y.2.2 = [] ∧ Ev.look y.2.1.vars 2 = some (.v (.int .i64 (v))))) := by
    refine itB_find [x, z] (fun i => ⟨[(3, (.v (.int .i64 (0)))), (6, (.fsl (([x, z]).map intC) c)), (7, (.v (.int .i64 (2)))), (8, (.v (.int .i64 (i))))], []⟩) [] (fun v => decide (v = 0)) _ (fun v y => _) ?_ ?_ ?_
    · intro i v hi hv hp
      have hi2 : (i : Int) < 2 := by simp at hi; omega
      have hw : IntKind.i64.wrap ((i : Int) + 1) = ((i + 1 : Nat) : Int) := by rw [w64_small (by omega) (by omega)]; simp
      have hp' := of_decide_eq_true hp
      subst hp'
      have hl := ints_lo 0 [x, z]
      generalize [x, z] = l at hv hl ⊢
      simp only [c_cmp_Or_int_L1, Int.natCast_nonneg, Int.toNat_natCast, List.getElem?_map, Option.map_some, hv, hl, hi2, hw, intC, Go.Ev.exec, Go.Ev.evOpers, Go.Ev.evOper, Go.Ev.item_op, Go.Ev.evOp, Go.Ev.Opnd.ev, Go.Ev.Env.get, Go.Ev.Env.set, Go.Ev.look, Go.Ev.cellsAt, Go.Ev.loadC, Go.Ev.bin_add, Go.Ev.bin_neq, Go.Ev.bin_lss, Go.Ev.settle, Go.Ev.keep, Go.Ev.varsLo, Go.Ev.marksLo, Go.Ev.storeLo, Go.Ev.lo_v, Go.Ev.lo_fsl, ↓Go.Ev.obind, Go.Ev.it1, ↓reduceIte, List.length_cons, List.length_nil, List.take_nil, List.head?_cons, Nat.reduceEqDiff, decide_true, decide_false, Bool.and_self, Bool.false_eq_true, and_self, ne_eq, not_true_eq_false, Nat.zero_add, eq_self]
    · intro i v hi hv hp
      have hi2 : (i : Int) < 2 := by simp at hi; omega
      have hp' : ¬ v = 0 := of_decide_eq_false hp
      have hl := ints_lo 0 [x, z]
      generalize [x, z] = l at hv hl ⊢
      simp only [c_cmp_Or_int_L1, Int.natCast_nonneg, Int.toNat_natCast, List.getElem?_map, Option.map_some, hv, hi2, hp', intC, Go.Ev.exec, Go.Ev.evOpers, Go.Ev.evOper, Go.Ev.item_op, Go.Ev.evOp, Go.Ev.Opnd.ev, Go.Ev.Env.get, Go.Ev.Env.set, Go.Ev.look, Go.Ev.cellsAt, Go.Ev.loadC, Go.Ev.bin_neq, Go.Ev.bin_lss, ↓Go.Ev.obind, Go.Ev.it1, ↓reduceIte, List.length_cons, List.length_nil, List.head?_cons, Nat.reduceEqDiff, decide_true, Bool.false_eq_true, ne_eq, not_false_eq_true, Nat.zero_add, eq_self]
      exact ⟨_, rfl, rfl, rfl, rfl, rfl⟩
    · have hl := ints_lo 0 [x, z]
      rw [show ([x, z] : List Int).length = 2 from rfl]
      simp only [c_cmp_Or_int_L1, Int.lt_irrefl, Int.cast_ofNat_Int, Go.Ev.exec, Go.Ev.evOpers, Go.Ev.evOper, Go.Ev.item_op, Go.Ev.evOp, Go.Ev.Opnd.ev, Go.Ev.Env.get, Go.Ev.Env.set, Go.Ev.look, Go.Ev.bin_lss, ↓Go.Ev.obind, Go.Ev.it1, ↓reduceIte, Nat.reduceEqDiff, Int.cast_ofNat_Int, decide_false, Bool.false_eq_true, eq_self]
      exact ⟨_, rfl, rfl, rfl, rfl, rfl⟩
  obtain ⟨⟨y, e, σ⟩, k1, k2⟩ := hL
  simp only at k2
  have hl := ints_lo 0 [x, z]
  have hn : ([x, z].map intC).length = 2 := rfl
  rw [callZ, evL_code ext_cmp_Or_int code_cmp_Or_int]
  rcases k2 with ⟨k3, rfl, k4, rfl, k5⟩ | ⟨k3, v, k6, rfl, k4, rfl, k5⟩
  · have h1 : x = 0 ∧ z = 0 := by simpa using k3
    have h2 : (if x = 0 then z else x) = 0 := by rw [if_pos h1.1, h1.2]
    rw [h2]
    generalize [x, z].map intC = l at k1 hl hn ⊢
    simp only [c_cmp_Or_int, hn, Int.cast_ofNat_Int, k1, k4, k5, hl, Go.Ev.runFunc, Go.Ev.exec, Go.Ev.evOpers, Go.Ev.evOper, Go.Ev.item_op, Go.Ev.evOp, Go.Ev.Opnd.ev, Go.Ev.Env.get, Go.Ev.Env.set, Go.Ev.look, Go.Ev.argVars, Go.Ev.resVals, Go.Ev.resVal, Go.Ev.resOf, Go.Ev.kill, Go.Ev.leave, Go.Ev.settle, Go.Ev.keep, Go.Ev.varsLo, Go.Ev.marksLo, Go.Ev.storeLo, Go.Ev.lo_v, Go.Ev.lo_fsl, Go.Ev.frz_lo, ↓Go.Ev.obind, ↓Go.Ev.itL_itB, ↓reduceIte, List.length_cons, List.length_nil, List.take_nil, Nat.reduceEqDiff, Int.cast_ofNat_Int, reduceCtorEq, Bool.and_self, and_self, Nat.zero_add, eq_self]
  · have h1 : (if x = 0 then z else x) = v := by
      rw [List.find?_cons] at k6
      by_cases hx : x = 0
      · rw [if_pos hx]; simp [hx] at k6; exact k6.2
      · rw [if_neg hx]; simp [hx] at k6; exact k6
    rw [h1]
    generalize [x, z].map intC = l at k1 hl hn ⊢
    simp only [c_cmp_Or_int, hn, Int.cast_ofNat_Int, k1, k4, k5, hl, Go.Ev.runFunc, Go.Ev.exec, Go.Ev.evOpers, Go.Ev.evOper, Go.Ev.item_op, Go.Ev.evOp, Go.Ev.Opnd.ev, Go.Ev.Env.get, Go.Ev.Env.set, Go.Ev.look, Go.Ev.argVars, Go.Ev.resVals, Go.Ev.resVal, Go.Ev.resOf, Go.Ev.kill, Go.Ev.leave, Go.Ev.settle, Go.Ev.keep, Go.Ev.varsLo, Go.Ev.marksLo, Go.Ev.storeLo, Go.Ev.lo_v, Go.Ev.lo_fsl, Go.Ev.frz_lo, ↓Go.Ev.obind, ↓Go.Ev.itL_itB, ↓reduceIte, List.length_cons, List.length_nil, List.take_nil, Nat.reduceEqDiff, Int.cast_ofNat_Int, reduceCtorEq, Bool.and_self, and_self, Nat.zero_add, eq_self]
theorem evkey_first_ev (x z : Int) (c : Bool) : callZ (evL T) n_evkey_first [(.fsl (([x, z]).map intC) c)] = some (.v (.int .i64 (if x = 0 then z else x))) := by
  have h := cmp_Or_ev x z c
  have hl := ints_lo 0 [x, z]
  generalize [x, z].map intC = l at h hl ⊢
  rw [callZ, evL_code ext_evkey_first code_evkey_first]
  simp only [c_evkey_first, h, hl, Go.Ev.runFunc, Go.Ev.exec, Go.Ev.evOpers, Go.Ev.evOper, Go.Ev.item_op, Go.Ev.item_P, Go.Ev.evOp, Go.Ev.evs, Go.Ev.Opnd.ev, Go.Ev.Env.get, Go.Ev.Env.set, Go.Ev.look, Go.Ev.argVars, Go.Ev.resVals, Go.Ev.resVal, Go.Ev.resOf, Go.Ev.kill, Go.Ev.leave, Go.Ev.storeLo, Go.Ev.lo_v, Go.Ev.lo_fsl, Go.Ev.los_nil, Go.Ev.los_cons, Go.Ev.frz_lo, ↓Go.Ev.obind, ↓reduceIte, List.length_cons, List.length_nil, List.take_nil, reduceCtorEq, Bool.and_self, and_self, Nat.zero_add, eq_self]
section
variable (a b : List Int) (c d : Bool)
theorem slices_Compare_L (h1 : a.length ≤ 9223372036854775807) (h2 : b.length ≤ 9223372036854775807) :
    ∃ y, itB (exec (evL T) itL none c_slices_Compare_Lint_int_L1) (Ev.settle [0, 1, 9, 10, 11] true 0) ⟨[(0, (.fsl ((a).map intC) c)), (1, (.fsl ((b).map intC) d)), (9, (.fsl ((a).map intC) c)), (10, (.v (.int .i64 (a.length)))), (11, (.v (.int .i64 (0))))], []⟩ [] = some y ∧
      ((a.zip b).all (fun z => decide (z.1 = z.2)) = true ∧ (a.length ≤ b.length ∧ y.1 = .exit 0 ∧ y.2.1.marks = [] ∧ y.2.2 = [] ∧ Ev.look y.2.1.vars 0 = some (.fsl ((a).map intC) c) ∧ Ev.look y.2.1.vars 1 = some (.fsl ((b).map intC) d) ∨ b.length < a.length ∧ y.1 = .ret ∧ y.2.1.marks = [] ∧ y.2.2 = [] ∧ Ev.look y.2.1.vars 4 = some (.v (.int .i64 (1)))) ∨
      (a.zip b).all (fun z => decide (z.1 = z.2)) = false ∧ ∃ x, (a.zip b).find? (fun z => !decide (z.1 = z.2)) = some x ∧ (y.1 = .ret ∧ y.2.1.marks = [] ∧ y.2.2 = [] ∧ Ev.look y.2.1.vars 4 = some (.v (.int .i64 (cmpZ x.1 x.2))))) := by
  have hzl : (a.zip b).length = min a.length b.length := List.length_zip
  refine itB_find (a.zip b) (fun i => ⟨[(0, (.fsl ((a).map intC) c)), (1, (.fsl ((b).map intC) d)), (9, (.fsl ((a).map intC) c)), (10, (.v (.int .i64 (a.length)))), (11, (.v (.int .i64 (i))))], []⟩) [] (fun z => decide (z.1 = z.2)) _ (fun x y => _) ?_ ?_ ?_
  · intro i x hi hx hp
    rw [hzl] at hi
    have hi' : (i : Int) < (a.length : Int) := by omega
    have hi2 : ¬ (i : Int) ≥ (b.length : Int) := by omega
    have hw : IntKind.i64.wrap ((i : Int) + 1) = ((i + 1 : Nat) : Int) := by rw [w64_small (by omega) (by omega)]; simp
    obtain ⟨hxa, hxb⟩ := List.getElem?_zip_eq_some.1 hx
    have hp' := of_decide_eq_true hp
    have hc := cmp_Compare_ev x.1 x.2
    rw [(cmpZ_zero x.1 x.2).2 hp'] at hc
    simp only [c_slices_Compare_Lint_int_L1, Int.natCast_nonneg, Int.toNat_natCast, List.getElem?_map, Option.map_some, hxa, hxb, hi', hi2, hw, hc, ints_lo, intC, Go.Ev.exec, Go.Ev.evOpers, Go.Ev.evOper, Go.Ev.item_op, Go.Ev.item_P, Go.Ev.evOp, Go.Ev.evs, Go.Ev.Opnd.ev, Go.Ev.Env.get, Go.Ev.Env.set, Go.Ev.look, Go.Ev.cellsAt, Go.Ev.loadC, Go.Ev.bin_add, Go.Ev.bin_neq, Go.Ev.bin_lss, Go.Ev.bin_geq, Go.Ev.settle, Go.Ev.keep, Go.Ev.varsLo, Go.Ev.marksLo, Go.Ev.storeLo, Go.Ev.lo_v, Go.Ev.lo_fsl, Go.Ev.los_nil, Go.Ev.los_cons, List.length_map, ↓Go.Ev.obind, Go.Ev.it1, ↓reduceIte, List.length_cons, List.length_nil, List.take_nil, List.head?_cons, Nat.reduceEqDiff, reduceCtorEq, decide_true, decide_false, Bool.and_self, Bool.false_eq_true, and_self, ne_eq, not_true_eq_false, Nat.zero_add, eq_self]
  · intro i x hi hx hp
    rw [hzl] at hi
    have hi' : (i : Int) < (a.length : Int) := by omega
    have hi2 : ¬ (i : Int) ≥ (b.length : Int) := by omega
    obtain ⟨hxa, hxb⟩ := List.getElem?_zip_eq_some.1 hx
    have hp' : ¬ x.1 = x.2 := of_decide_eq_false hp
    have hc := cmp_Compare_ev x.1 x.2
    have hz : ¬ cmpZ x.1 x.2 = 0 := fun h => hp' ((cmpZ_zero _ _).1 h)
    simp only [c_slices_Compare_Lint_int_L1, Int.natCast_nonneg, Int.toNat_natCast, List.getElem?_map, Option.map_some, hxa, hxb, hi', hi2, hz, hc, intC, Go.Ev.exec, Go.Ev.evOpers, Go.Ev.evOper, Go.Ev.item_op, Go.Ev.item_P, Go.Ev.evOp, Go.Ev.evs, Go.Ev.Opnd.ev, Go.Ev.Env.get, Go.Ev.Env.set, Go.Ev.look, Go.Ev.cellsAt, Go.Ev.loadC, Go.Ev.bin_neq, Go.Ev.bin_lss, Go.Ev.bin_geq, Go.Ev.lo_v, Go.Ev.los_nil, Go.Ev.los_cons, List.length_map, ↓Go.Ev.obind, Go.Ev.it1, ↓reduceIte, List.length_cons, List.length_nil, List.head?_cons, Nat.reduceEqDiff, reduceCtorEq, decide_true, decide_false, Bool.and_self, Bool.false_eq_true, ne_eq, not_false_eq_true, Nat.zero_add, eq_self]
    exact ⟨_, rfl, rfl, rfl, rfl, rfl⟩
  · rw [hzl]
    by_cases hab : a.length ≤ b.length
    · rw [Nat.min_eq_left hab]
      simp only [c_slices_Compare_Lint_int_L1, Int.lt_irrefl, Go.Ev.exec, Go.Ev.evOpers, Go.Ev.evOper, Go.Ev.item_op, Go.Ev.evOp, Go.Ev.Opnd.ev, Go.Ev.Env.get, Go.Ev.Env.set, Go.Ev.look, Go.Ev.bin_lss, ↓Go.Ev.obind, Go.Ev.it1, ↓reduceIte, Nat.reduceEqDiff, reduceCtorEq, decide_false, Bool.false_eq_true, eq_self]
      exact ⟨_, rfl, .inl ⟨hab, rfl, rfl, rfl, rfl, rfl⟩⟩
    · rw [Nat.min_eq_right (by omega)]
      have h3 : (b.length : Int) < (a.length : Int) := by omega
      obtain ⟨x, hx⟩ : ∃ x, a[b.length]? = some x := ⟨_, List.getElem?_eq_getElem (by omega)⟩
      have h4 : (b.length : Int) ≥ (b.length : Int) := Int.le_refl _
      simp only [c_slices_Compare_Lint_int_L1, Int.natCast_nonneg, Int.toNat_natCast, List.getElem?_map, Option.map_some, h3, h4, hx, intC, Go.Ev.exec, Go.Ev.evOpers, Go.Ev.evOper, Go.Ev.item_op, Go.Ev.evOp, Go.Ev.Opnd.ev, Go.Ev.Env.get, Go.Ev.Env.set, Go.Ev.look, Go.Ev.cellsAt, Go.Ev.loadC, Go.Ev.bin_lss, Go.Ev.bin_geq, List.length_map, ↓Go.Ev.obind, Go.Ev.it1, ↓reduceIte, List.length_cons, List.length_nil, List.head?_cons, Nat.reduceEqDiff, reduceCtorEq, decide_true, Bool.false_eq_true, Nat.zero_add, eq_self]
      exact ⟨_, rfl, .inr ⟨by omega, rfl, rfl, rfl, rfl⟩⟩
theorem slices_Compare_ev (h1 : a.length ≤ 9223372036854775807) (h2 : b.length ≤ 9223372036854775807) : callZ (evL T) n_slices_Compare_Lint_int [(.fsl ((a).map intC) c), (.fsl ((b).map intC) d)] = some (.v (.int .i64 (keysZ a b))) := by
  obtain ⟨⟨y, e, σ⟩, k1, k2⟩ := slices_Compare_L a b c d h1 h2
  simp only at k2
  obtain ⟨z1, z2⟩ := keysZ_find a b
  rw [callZ, evL_code ext_slices_Compare_Lint_int code_slices_Compare_Lint_int]
  rcases k2 with ⟨k3, ⟨k7, rfl, k4, rfl, k5, k6⟩ | ⟨k7, rfl, k4, rfl, k5⟩⟩ | ⟨k3, x, k7, rfl, k4, rfl, k5⟩
  · rw [z1 k3]
    by_cases hl : (a.length : Int) < (b.length : Int)
    · simp only [c_slices_Compare_Lint_int, k1, k4, k5, k6, hl, cmpZ, ints_lo, Go.Ev.runFunc, Go.Ev.exec, Go.Ev.evOpers, Go.Ev.evOper, Go.Ev.item_op, Go.Ev.evOp, Go.Ev.Opnd.ev, Go.Ev.Env.get, Go.Ev.Env.set, Go.Ev.look, Go.Ev.argVars, Go.Ev.bin_lss, Go.Ev.resVals, Go.Ev.resVal, Go.Ev.resOf, Go.Ev.kill, Go.Ev.leave, Go.Ev.settle, Go.Ev.keep, Go.Ev.varsLo, Go.Ev.marksLo, Go.Ev.storeLo, Go.Ev.lo_v, Go.Ev.lo_fsl, Go.Ev.frz_lo, List.length_map, ↓Go.Ev.obind, ↓Go.Ev.itL_itB, ↓reduceIte, List.length_cons, List.length_nil, List.take_nil, Nat.reduceAdd, Nat.reduceEqDiff, Int.reduceNeg, reduceCtorEq, decide_true, Bool.and_self, and_self, Nat.zero_add, eq_self]
    · have hg : ¬ (a.length : Int) > (b.length : Int) := by omega
      simp only [c_slices_Compare_Lint_int, k1, k4, k5, k6, hl, hg, cmpZ, ints_lo, Go.Ev.runFunc, Go.Ev.exec, Go.Ev.evOpers, Go.Ev.evOper, Go.Ev.item_op, Go.Ev.evOp, Go.Ev.Opnd.ev, Go.Ev.Env.get, Go.Ev.Env.set, Go.Ev.look, Go.Ev.argVars, Go.Ev.bin_lss, Go.Ev.resVals, Go.Ev.resVal, Go.Ev.resOf, Go.Ev.kill, Go.Ev.leave, Go.Ev.settle, Go.Ev.keep, Go.Ev.varsLo, Go.Ev.marksLo, Go.Ev.storeLo, Go.Ev.lo_v, Go.Ev.lo_fsl, Go.Ev.frz_lo, List.length_map, ↓Go.Ev.obind, ↓Go.Ev.itL_itB, ↓reduceIte, List.length_cons, List.length_nil, List.take_nil, Nat.reduceAdd, Nat.reduceEqDiff, Int.reduceNeg, reduceCtorEq, decide_false, Bool.and_self, Bool.false_eq_true, and_self, Nat.zero_add, eq_self]
  · have hl : ¬ (a.length : Int) < (b.length : Int) := by omega
    have hg : (a.length : Int) > (b.length : Int) := by omega
    rw [z1 k3]
    simp only [c_slices_Compare_Lint_int, k1, k4, k5, hl, hg, cmpZ, ints_lo, Go.Ev.runFunc, Go.Ev.exec, Go.Ev.evOpers, Go.Ev.evOper, Go.Ev.item_op, Go.Ev.evOp, Go.Ev.Opnd.ev, Go.Ev.Env.get, Go.Ev.Env.set, Go.Ev.look, Go.Ev.argVars, Go.Ev.resVals, Go.Ev.resVal, Go.Ev.resOf, Go.Ev.kill, Go.Ev.leave, Go.Ev.settle, Go.Ev.keep, Go.Ev.varsLo, Go.Ev.marksLo, Go.Ev.storeLo, Go.Ev.lo_v, Go.Ev.lo_fsl, Go.Ev.frz_lo, List.length_map, ↓Go.Ev.obind, ↓Go.Ev.itL_itB, ↓reduceIte, List.length_cons, List.length_nil, List.take_nil, Nat.reduceAdd, Nat.reduceEqDiff, Int.reduceNeg, reduceCtorEq, Bool.and_self, and_self, Nat.zero_add, eq_self]
  · rw [z2 x k7]
    simp only [c_slices_Compare_Lint_int, k1, k4, k5, ints_lo, Go.Ev.runFunc, Go.Ev.exec, Go.Ev.evOpers, Go.Ev.evOper, Go.Ev.item_op, Go.Ev.evOp, Go.Ev.Opnd.ev, Go.Ev.Env.get, Go.Ev.Env.set, Go.Ev.look, Go.Ev.argVars, Go.Ev.resVals, Go.Ev.resVal, Go.Ev.resOf, Go.Ev.kill, Go.Ev.leave, Go.Ev.settle, Go.Ev.keep, Go.Ev.varsLo, Go.Ev.marksLo, Go.Ev.storeLo, Go.Ev.lo_v, Go.Ev.lo_fsl, Go.Ev.frz_lo, List.length_map, ↓Go.Ev.obind, ↓Go.Ev.itL_itB, ↓reduceIte, List.length_cons, List.length_nil, List.take_nil, Nat.reduceAdd, Nat.reduceEqDiff, Int.reduceNeg, reduceCtorEq, Bool.and_self, and_self, Nat.zero_add, eq_self]
theorem evkey_CompareKeys_ev (h1 : a.length ≤ 9223372036854775807) (h2 : b.length ≤ 9223372036854775807) : callZ (evL T) n_evkey_CompareKeys [(.fsl ((a).map intC) c), (.fsl ((b).map intC) d)] = some (.v (.int .i64 (keysZ a b))) := by
  have h := slices_Compare_ev a b c d h1 h2
  rw [callZ, evL_code ext_evkey_CompareKeys code_evkey_CompareKeys]
  simp only [c_evkey_CompareKeys, h, ints_lo, Go.Ev.runFunc, Go.Ev.exec, Go.Ev.evOpers, Go.Ev.evOper, Go.Ev.item_op, Go.Ev.item_P, Go.Ev.evOp, Go.Ev.evs, Go.Ev.Opnd.ev, Go.Ev.Env.get, Go.Ev.Env.set, Go.Ev.look, Go.Ev.argVars, Go.Ev.resVals, Go.Ev.resVal, Go.Ev.resOf, Go.Ev.kill, Go.Ev.leave, Go.Ev.storeLo, Go.Ev.lo_v, Go.Ev.lo_fsl, Go.Ev.los_nil, Go.Ev.los_cons, Go.Ev.frz_lo, ↓Go.Ev.obind, ↓reduceIte, List.length_cons, List.length_nil, List.take_nil, Nat.reduceAdd, Nat.reduceEqDiff, reduceCtorEq, Bool.and_self, and_self, Nat.zero_add, eq_self]
end
def cmpE (x y : Evt) : Int := if cmpZ x.time y.time = 0 then keysZ x.key y.key else cmpZ x.time y.time
theorem CompareEvents_evA (x y : Evt) (hx : x.key.length ≤ 9223372036854775807) (hy : y.key.length ≤ 9223372036854775807) (rs : Nat) (es : List (List AV)) (g : Nat) :
    (evL T).call n_evkey_CompareEvents [(.agg [(.v (.int .i64 (x.time))), (.fsl ((x.key).map intC) false), (.v (.int .i64 (x.lp))), (.v (.int .i64 (x.kind))), (.v (.int .i64 (x.proc))), (.v (.int .i64 (x.arg)))]), (.agg [(.v (.int .i64 (y.time))), (.fsl ((y.key).map intC) false), (.v (.int .i64 (y.lp))), (.v (.int .i64 (y.kind))), (.v (.int .i64 (y.proc))), (.v (.int .i64 (y.arg)))])] [.row rs es g] = some ((.v (.int .i64 (cmpE x y))), [.row rs es g]) := by
  obtain ⟨xt, xk, xl, xi, xp, xa⟩ := x
  obtain ⟨yt, yk, yl, yi, yp, ya⟩ := y
  have hc := cmp_Compare_ev xt yt
  have hk := evkey_CompareKeys_ev xk yk false false hx hy
  have hf := evkey_first_ev (cmpZ xt yt) (keysZ xk yk) true
  simp only [List.map_cons, List.map_nil, intC] at hf
  rw [evL_code ext_evkey_CompareEvents code_evkey_CompareEvents]
  simp only [c_evkey_CompareEvents, show ∀ v : List AV, List.replicate 2 v = [v, v] from fun _ => rfl, hc, hk, hf, cmpE, ite_self, ints_lo, Go.Ev.runFunc, Go.Ev.exec, Go.Ev.evOpers, Go.Ev.evOper, Go.Ev.item_op, Go.Ev.item_P, Go.Ev.evOp, Go.Ev.evs, Go.Ev.Opnd.ev, Go.Ev.Env.get, Go.Ev.Env.set, Go.Ev.look, Go.Ev.argVars, Go.Ev.cellsAt, Go.Ev.loadC, Go.Ev.fillR, Go.Ev.AV.cells, Go.Ev.AV.uc, Go.Ev.plains, Go.Ev.AV.plain, Go.Ev.resVals, Go.Ev.resVal, Go.Ev.resOf, Go.Ev.kill, Go.Ev.leave, Go.Ev.storeLo, Go.Ev.SObj.lo, Go.Ev.lo_v, Go.Ev.lo_fsl, Go.Ev.los_nil, Go.Ev.los_cons, Go.Ev.loss_nil, Go.Ev.loss_cons, ↓Go.Ev.obind, ↓reduceIte, List.length_cons, List.length_nil, List.take_succ_cons, List.take_nil, List.drop_succ_cons, List.drop_zero, List.set_cons_zero, List.set_cons_succ, List.head?_cons, Nat.reduceAdd, Nat.reduceEqDiff, Nat.reduceMul, Nat.reduceLT, Nat.reduceLeDiff, Nat.reducePow, reduceCtorEq, Bool.and_self, Bool.and_true, Bool.false_eq_true, and_self, true_and, ne_eq, not_false_eq_true, List.cons_ne_nil, Nat.zero_add, Nat.lt_add_one, eq_self]
theorem evkey_CompareEvents_ev (x y : Evt) (hx : x.key.length ≤ 9223372036854775807) (hy : y.key.length ≤ 9223372036854775807) :
    callZ (evL T) n_evkey_CompareEvents [(.agg [(.v (.int .i64 (x.time))), (.fsl ((x.key).map intC) false), (.v (.int .i64 (x.lp))), (.v (.int .i64 (x.kind))), (.v (.int .i64 (x.proc))), (.v (.int .i64 (x.arg)))]), (.agg [(.v (.int .i64 (y.time))), (.fsl ((y.key).map intC) false), (.v (.int .i64 (y.lp))), (.v (.int .i64 (y.kind))), (.v (.int .i64 (y.proc))), (.v (.int .i64 (y.arg)))])] = some (.v (.int .i64 (cmpE x y))) := by
  obtain ⟨xt, xk, xl, xi, xp, xa⟩ := x
  obtain ⟨yt, yk, yl, yi, yp, ya⟩ := y
  have hc := cmp_Compare_ev xt yt
  have hk := evkey_CompareKeys_ev xk yk false false hx hy
  have hf := evkey_first_ev (cmpZ xt yt) (keysZ xk yk) true
  simp only [List.map_cons, List.map_nil, intC] at hf
  rw [callZ, evL_code ext_evkey_CompareEvents code_evkey_CompareEvents]
  simp only [c_evkey_CompareEvents, show ∀ v : List AV, List.replicate 2 v = [v, v] from fun _ => rfl, hc, hk, hf, cmpE, ints_lo, Go.Ev.runFunc, Go.Ev.exec, Go.Ev.evOpers, Go.Ev.evOper, Go.Ev.item_op, Go.Ev.item_P, Go.Ev.evOp, Go.Ev.evs, Go.Ev.Opnd.ev, Go.Ev.Env.get, Go.Ev.Env.set, Go.Ev.look, Go.Ev.argVars, Go.Ev.cellsAt, Go.Ev.loadC, Go.Ev.fillR, Go.Ev.AV.cells, Go.Ev.AV.uc, Go.Ev.plains, Go.Ev.AV.plain, Go.Ev.resVals, Go.Ev.resVal, Go.Ev.resOf, Go.Ev.kill, Go.Ev.leave, Go.Ev.storeLo, Go.Ev.lo_v, Go.Ev.lo_fsl, Go.Ev.los_nil, Go.Ev.los_cons, Go.Ev.loss_nil, Go.Ev.loss_cons, Go.Ev.frz_lo, ↓Go.Ev.obind, ↓reduceIte, List.length_cons, List.length_nil, List.take_nil, List.drop_succ_cons, List.drop_zero, List.set_cons_zero, List.set_cons_succ, List.head?_cons, Nat.reduceAdd, Nat.reduceEqDiff, Nat.reduceMul, Nat.reduceLT, Nat.reduceLeDiff, Nat.reducePow, reduceCtorEq, Bool.and_self, Bool.false_eq_true, and_self, ne_eq, not_false_eq_true, List.cons_ne_nil, Nat.zero_add, Nat.lt_add_one, eq_self]
end Go.Proofs.Ytlcakphdkpdenaa.K

namespace Go.Proofs.Ytlcakphdkpdenaa.K
open Go.Ev
set_option linter.unusedSimpArgs false
set_option linter.unusedVariables false
/-! ### The order of events -/
theorem cmpZ_neg (a b : Int) : cmpZ b a = -cmpZ a b := by unfold cmpZ; split <;> split <;> (try split) <;> omega
theorem cmpZ_cases (a b : Int) : (cmpZ a b < 0 ↔ a < b) ∧ (cmpZ a b = 0 ↔ a = b) ∧ (0 < cmpZ a b ↔ b < a) := by
  unfold cmpZ
  split
  · refine ⟨?_, ?_, ?_⟩ <;> omega
  split
  · refine ⟨?_, ?_, ?_⟩ <;> omega
  · refine ⟨?_, ?_, ?_⟩ <;> omega
theorem keysZ_neg : ∀ a b : List Int, keysZ b a = -keysZ a b
  | [], [] => rfl
  | [], y :: b => by simp [keysZ]
  | x :: a, [] => by simp [keysZ]
  | x :: a, y :: b => by
    simp only [keysZ]
    by_cases h : x = y
    · subst h; simp only [if_true]; exact keysZ_neg a b
    · rw [if_neg h, if_neg (fun e => h e.symm)]; exact cmpZ_neg x y
theorem keysZ_trans : ∀ a b c : List Int, keysZ a b ≤ 0 → keysZ b c ≤ 0 → keysZ a c ≤ 0
  | [], b, c, _, _ => by cases c <;> simp [keysZ]
  | x :: a, [], c, h, _ => by simp [keysZ] at h
  | x :: a, y :: b, [], _, h => by simp [keysZ] at h
  | x :: a, y :: b, z :: c, h1, h2 => by
    simp only [keysZ] at h1 h2 ⊢
    have c1 := cmpZ_cases x y
    have c2 := cmpZ_cases y z
    have c3 := cmpZ_cases x z
    by_cases e1 : x = y
    · subst e1
      rw [if_pos rfl] at h1
      by_cases e2 : x = z
      · subst e2; rw [if_pos rfl] at h2 ⊢; exact keysZ_trans a b c h1 h2
      · rw [if_neg e2] at h2 ⊢; exact h2
    · rw [if_neg e1] at h1
      by_cases e2 : y = z
      · subst e2; rw [if_neg e1]; exact h1
      · rw [if_neg e2] at h2
        have : ¬ x = z := by intro e; omega
        rw [if_neg this]
        omega
def leE (x y : Evt) : Prop := cmpE x y ≤ 0
theorem cmpE_neg (x y : Evt) : cmpE y x = -cmpE x y := by
  unfold cmpE
  have := cmpZ_neg x.time y.time
  have := keysZ_neg x.key y.key
  by_cases h : cmpZ x.time y.time = 0
  · rw [if_pos h, if_pos (by omega)]; assumption
  · rw [if_neg h, if_neg (by omega)]; assumption
theorem leE_trans (x y z : Evt) (h1 : leE x y) (h2 : leE y z) : leE x z := by
  unfold leE cmpE at *
  have c1 := cmpZ_cases x.time y.time
  have c2 := cmpZ_cases y.time z.time
  have c3 := cmpZ_cases x.time z.time
  by_cases e1 : cmpZ x.time y.time = 0
  · rw [if_pos e1] at h1
    by_cases e2 : cmpZ y.time z.time = 0
    · rw [if_pos e2] at h2
      rw [if_pos (by omega)]; exact keysZ_trans _ _ _ h1 h2
    · rw [if_neg e2] at h2
      rw [if_neg (by omega)]; omega
  · rw [if_neg e1] at h1
    by_cases e2 : cmpZ y.time z.time = 0
    · rw [if_neg (by omega)]; omega
    · rw [if_neg e2] at h2
      rw [if_neg (by omega)]; omega
theorem leE_of_not (x y : Evt) (h : ¬ cmpE x y < 0) : leE y x := by unfold leE; have := cmpE_neg x y; omega
theorem leE_of (x y : Evt) (h : cmpE x y < 0) : leE x y := by unfold leE; omega
theorem cmpE_zero (x y : Evt) : cmpE x y = 0 ↔ x.time = y.time ∧ x.key = y.key := by
  unfold cmpE
  have := cmpZ_cases x.time y.time
  have := keysZ_zero x.key y.key
  by_cases h : cmpZ x.time y.time = 0
  · rw [if_pos h]; constructor
    · intro k; exact ⟨by omega, by simpa [k] using this⟩
    · intro k; exact this.2 k.2
  · rw [if_neg h]; constructor
    · intro k; exact absurd k h
    · intro k; omega
end Go.Proofs.Ytlcakphdkpdenaa.K

namespace Go.Proofs.Ytlcakphdkpdenaa.K
open Go.Ev
set_option linter.unusedSimpArgs false
set_option linter.unusedVariables false
set_option maxRecDepth 10000
theorem w64_add {a b : Nat} (h : a + b < 2 ^ 62) : IntKind.i64.wrap ((a : Int) + (b : Int)) = ((a + b : Nat) : Int) := by rw [w64_small (by omega) (by omega)]; simp
theorem w64_add1 {a : Nat} (h : a < 2 ^ 62) : IntKind.i64.wrap ((a : Int) + 1) = ((a + 1 : Nat) : Int) := by rw [w64_small (by omega) (by omega)]; simp
theorem w64_sub {a b c : Nat} (h : a = b + c) (h2 : a < 2 ^ 62) : IntKind.i64.wrap ((a : Int) - (b : Int)) = (c : Int) := by rw [w64_small (by omega) (by omega)]; omega
theorem w64_sub1 {a c : Nat} (h : a = c + 1) (h2 : a < 2 ^ 62) : IntKind.i64.wrap ((a : Int) - 1) = (c : Int) := by rw [w64_small (by omega) (by omega)]; omega
/-! ### Changing places -/
section
variable (g : Nat) (cl : Bool) (n : Nat)
theorem swapRange_ev (L X M Y N : List Evt) (hXY : Y.length = X.length) (hn : n = (L ++ (X ++ (M ++ (Y ++ N)))).length) (hb : n < 2 ^ 61) (a b : Nat) (ha : a = L.length) (hbb : b = L.length + X.length + M.length) :
    (evL T).call n_slices_swapRangeCmpFunc_api_SimEvent [.sl 0 g 0 n cl, (.v (.int .i64 (a))), (.v (.int .i64 (b))), (.v (.int .i64 (X.length))), (.fn (.func n_evkey_CompareEvents) [] [])] [.row 6 ((L ++ (X ++ (M ++ (Y ++ N)))).map Evt.r) g] = some (.tup [], [.row 6 ((L ++ (Y ++ (M ++ (X ++ N)))).map Evt.r) g]) := by
  have hlen : n = L.length + (X.length + (M.length + (Y.length + N.length))) := by rw [hn]; simp
  have key := itB_for (f := exec (evL T) itL none c_slices_swapRangeCmpFunc_api_SimEvent_L1) (s := Ev.settle [0, 1, 2, 3, 10] true 1) (α := List Evt)
    (fun i D => ⟨[(0, .sl 0 g 0 n cl), (1, (.v (.int .i64 (a)))), (2, (.v (.int .i64 (b)))), (3, (.v (.int .i64 (X.length)))), (10, (.v (.int .i64 (i))))], []⟩) (fun i D => [.row 6 ((D).map Evt.r) g])
    (fun i D => D = L ++ ((Y.take i ++ X.drop i) ++ (M ++ ((X.take i ++ Y.drop i) ++ N)))) X.length
    (fun y => y.1 = .exit 0 ∧ y.2.1.marks = [] ∧ y.2.2 = [.row 6 ((L ++ (Y ++ (M ++ (X ++ N)))).map Evt.r) g]) ?_ ?_ 0 _ (Nat.zero_le _) rfl
  · obtain ⟨⟨y, e, σ⟩, k1, k2, k3, k4⟩ := key
    simp only [List.take_zero, List.drop_zero, List.nil_append, Int.cast_ofNat_Int] at k1 k2 k3 k4
    subst k2; subst k4
    rw [evL_code ext_slices_swapRangeCmpFunc_api_SimEvent code_slices_swapRangeCmpFunc_api_SimEvent]
    simp only [c_slices_swapRangeCmpFunc_api_SimEvent, k1, k3, evts_lo, Go.Ev.runFunc, Go.Ev.exec, Go.Ev.evOpers, Go.Ev.evOper, Go.Ev.item_op, Go.Ev.evOp, Go.Ev.Opnd.ev, Go.Ev.Env.get, Go.Ev.Env.set, Go.Ev.look, Go.Ev.argVars, Go.Ev.resVals, Go.Ev.resOf, Go.Ev.kill, Go.Ev.leave, Go.Ev.settle, Go.Ev.keep, Go.Ev.varsLo, Go.Ev.marksLo, Go.Ev.storeLo, Go.Ev.SObj.lo, Go.Ev.lo_v, Go.Ev.lo_tup, Go.Ev.lo_sl, Go.Ev.los_nil, ↓Go.Ev.obind, ↓Go.Ev.itL_itB, ↓reduceIte, List.length_cons, List.length_nil, List.take_succ_cons, List.take_nil, Nat.reduceAdd, Nat.reduceEqDiff, reduceCtorEq, decide_true, Bool.and_self, and_self, Nat.zero_add, Nat.lt_add_one, eq_self]
  · rintro i D hi hD
    obtain ⟨x, hx⟩ : ∃ x, X[i]? = some x := ⟨_, List.getElem?_eq_getElem hi⟩
    obtain ⟨y, hy⟩ : ∃ y, Y[i]? = some y := ⟨_, List.getElem?_eq_getElem (by omega)⟩
    have dx : X.drop i = x :: X.drop (i + 1) := by obtain ⟨_, rfl⟩ := List.getElem?_eq_some_iff.1 hx; exact List.drop_eq_getElem_cons hi
    have dy : Y.drop i = y :: Y.drop (i + 1) := by obtain ⟨_, rfl⟩ := List.getElem?_eq_some_iff.1 hy; exact List.drop_eq_getElem_cons (by omega)
    have e1 : D = (L ++ Y.take i) ++ x :: ((X.drop (i + 1) ++ (M ++ X.take i)) ++ y :: (Y.drop (i + 1) ++ N)) := by rw [hD, dx, dy]; simp
    have l1 : a + i = (L ++ Y.take i).length := by simp; omega
    have l2 : b + i = a + i + 1 + (X.drop (i + 1) ++ (M ++ X.take i)).length := by simp; omega
    have gx : D[a + i]? = some x := get_mid e1 l1
    have gy : D[b + i]? = some y := by
      refine get_mid (L := (L ++ Y.take i) ++ x :: (X.drop (i + 1) ++ (M ++ X.take i))) (M := Y.drop (i + 1) ++ N) (by rw [e1]; simp) ?_
      rw [l2, l1]; simp; omega
    have ge : D.length = n := by rw [e1, hlen]; simp; omega
    have sw := swap_far e1 l1 l2
    have hne : ¬ (a + i = b + i) := by omega
    have hi' : (i : Int) < (X.length : Int) := by omega
    have wa : IntKind.i64.wrap ((a : Int) + (i : Int)) = ((a + i : Nat) : Int) := w64_add (by omega)
    have wb : IntKind.i64.wrap ((b : Int) + (i : Int)) = ((b + i : Nat) : Int) := w64_add (by omega)
    have wi : IntKind.i64.wrap ((i : Int) + 1) = ((i + 1 : Nat) : Int) := w64_add1 (by omega)
    have ra : a + i < n := by omega
    have rb : b + i < n := by omega
    obtain ⟨xt, xk, xl, xi, xp, xa⟩ := x
    obtain ⟨yt, yk, yl, yi, yp, ya⟩ := y
    have hs : ∀ v, ((D.map Evt.r).set (a + i) v)[b + i]? = some (Evt.r ⟨yt, yk, yl, yi, yp, ya⟩) := fun v => by rw [List.getElem?_set_ne hne, List.getElem?_map, gy]; rfl
    have hlo := evts_lo 1 ((D.set (a + i) ⟨yt, yk, yl, yi, yp, ya⟩).set (b + i) ⟨xt, xk, xl, xi, xp, xa⟩)
    simp only [List.map_set, Evt.r] at hlo
    refine .inl ⟨(D.set (a + i) ⟨yt, yk, yl, yi, yp, ya⟩).set (b + i) ⟨xt, xk, xl, xi, xp, xa⟩, ?_, ?_⟩
    · simp only [c_slices_swapRangeCmpFunc_api_SimEvent_L1, Int.natCast_nonneg, Int.toNat_natCast, List.getElem?_map, Option.map_some, gx, gy, hs, hi', wa, wb, wi, ra, rb, hlo, List.map_set, Evt.r, Go.Ev.exec, Go.Ev.evOpers, Go.Ev.evOper, Go.Ev.item_op, Go.Ev.evOp, Go.Ev.Opnd.ev, Go.Ev.Env.get, Go.Ev.Env.set, Go.Ev.look, Go.Ev.cellsAt, Go.Ev.loadC, Go.Ev.AV.cells, Go.Ev.plains, Go.Ev.AV.plain, Go.Ev.bin_add, Go.Ev.bin_lss, Go.Ev.settle, Go.Ev.keep, Go.Ev.varsLo, Go.Ev.marksLo, Go.Ev.storeLo, Go.Ev.SObj.lo, Go.Ev.lo_v, Go.Ev.lo_sl, ↓Go.Ev.obind, Go.Ev.it1, ↓reduceIte, List.length_cons, List.length_nil, List.getElem?_cons_zero, List.take_succ_cons, List.take_zero, List.take_nil, List.drop_succ_cons, List.drop_zero, List.drop_nil, List.nil_append, List.append_nil, List.set_cons_zero, Nat.reduceAdd, Nat.reduceEqDiff, reduceCtorEq, decide_true, Bool.and_self, and_self, Nat.zero_add, Nat.lt_add_one, Nat.le_refl, eq_self]
    · rw [sw, take_next hx, take_next hy]; simp
  · rintro D hD
    have hD' : D = L ++ (Y ++ (M ++ (X ++ N))) := by rw [hD, ← hXY, List.take_length, List.drop_length, hXY, List.take_length, List.drop_length]; simp
    subst hD'
    simp only [c_slices_swapRangeCmpFunc_api_SimEvent_L1, Int.lt_irrefl, Go.Ev.exec, Go.Ev.evOpers, Go.Ev.evOper, Go.Ev.item_op, Go.Ev.evOp, Go.Ev.Opnd.ev, Go.Ev.Env.get, Go.Ev.Env.set, Go.Ev.look, Go.Ev.bin_lss, ↓Go.Ev.obind, Go.Ev.it1, ↓reduceIte, Nat.reduceEqDiff, reduceCtorEq, decide_false, Bool.false_eq_true, eq_self]
    exact ⟨_, rfl, rfl, rfl, rfl⟩
end
end Go.Proofs.Ytlcakphdkpdenaa.K

namespace Go.Proofs.Ytlcakphdkpdenaa.K
open Go.Ev
set_option linter.unusedSimpArgs false
set_option linter.unusedVariables false
set_option maxRecDepth 10000
/-! ### Sorting by insertion -/
section
variable (g : Nat) (cl : Bool) (n : Nat)
def KeysOk (D : List Evt) : Prop := ∀ x ∈ D, x.key.length ≤ 9223372036854775807
theorem insertion_inner (P S Q : List Evt) (x : Evt) (hn : n = (P ++ (S ++ x :: Q)).length) (hb : n < 2 ^ 61) (hk : KeysOk (P ++ (S ++ x :: Q))) (hS : S.Pairwise leE) (a : Nat) (ha : a = P.length) (b i : Int) :
    ∃ y, itB (exec (evL T) itL none c_slices_insertionSortCmpFunc_api_SimEvent_L2) (Ev.settle [0, 1, 2, 3, 8, 9] true 1) ⟨[(0, .sl 0 g 0 n cl), (1, (.v (.int .i64 (a)))), (2, (.v (.int .i64 (b)))), (3, (.fn (.func n_evkey_CompareEvents) [] [])), (8, (.v (.int .i64 (i)))), (9, (.v (.int .i64 ((a + S.length : Nat)))))], []⟩ [.row 6 ((P ++ (S ++ x :: Q)).map Evt.r) g] = some y ∧
      (y.1 = .exit 2 ∧ y.2.1.marks = [] ∧ Ev.look y.2.1.vars 0 = some (.sl 0 g 0 n cl) ∧ Ev.look y.2.1.vars 1 = some (.v (.int .i64 (a))) ∧ Ev.look y.2.1.vars 2 = some (.v (.int .i64 (b))) ∧ Ev.look y.2.1.vars 3 = some (.fn (.func n_evkey_CompareEvents) [] []) ∧ Ev.look y.2.1.vars 8 = some (.v (.int .i64 (i))) ∧ ∃ S' : List Evt, S'.Perm (x :: S) ∧ S'.Pairwise leE ∧ y.2.2 = [.row 6 ((P ++ (S' ++ Q)).map Evt.r) g]) := by
  refine itB_while (τ := List Evt × Nat) (fun s => ⟨[(0, .sl 0 g 0 n cl), (1, (.v (.int .i64 (a)))), (2, (.v (.int .i64 (b)))), (3, (.fn (.func n_evkey_CompareEvents) [] [])), (8, (.v (.int .i64 (i)))), (9, (.v (.int .i64 (s.2))))], []⟩) (fun s => [.row 6 ((s.1).map Evt.r) g]) (fun s => s.2)
    (fun s => ∃ A B, s.1 = P ++ (A ++ x :: (B ++ Q)) ∧ s.2 = a + A.length ∧ A ++ B = S ∧ ∀ v, B[0]? = some v → leE x v) _ ?_ (P ++ (S ++ x :: Q), a + S.length) ⟨S, [], by simp, rfl, by simp, by simp⟩
  rintro ⟨D, j⟩ ⟨A, B, hD, hj, hAB, hB⟩
  simp only at hD hj ⊢
  have hlen : n = P.length + (S.length + (Q.length + 1)) := by rw [hn]; simp
  have hSl : S.length = A.length + B.length := by rw [← hAB]; simp
  have fin : (∀ u, A[A.length - 1]? = some u → leE u x) → ∃ S' : List Evt, S'.Perm (x :: S) ∧ S'.Pairwise leE ∧ ([.row 6 ((D).map Evt.r) g] : Store) = [.row 6 ((P ++ (S' ++ Q)).map Evt.r) g] := fun h => by
    refine ⟨A ++ x :: B, ?_, insert_split leE_trans (by rw [hAB]; exact hS) h hB, by rw [hD]; simp⟩
    rw [← hAB]; exact List.perm_middle
  rcases List.eq_nil_or_concat A with rfl | ⟨A0, y, rfl⟩
  · have h1 : ¬ (j : Int) > (a : Int) := by simp at hj; omega
    refine .inr ?_
    simp only [c_slices_insertionSortCmpFunc_api_SimEvent_L2, h1, Go.Ev.exec, Go.Ev.evOpers, Go.Ev.evOper, Go.Ev.item_op, Go.Ev.evOp, Go.Ev.Opnd.ev, Go.Ev.Env.get, Go.Ev.Env.set, Go.Ev.Env.unset, Go.Ev.look, Go.Ev.bin_gtr, ↓Go.Ev.obind, Go.Ev.it1, ↓reduceIte, Nat.reduceEqDiff, reduceCtorEq, decide_false, Bool.false_eq_true, eq_self]
    exact ⟨_, rfl, rfl, rfl, rfl, rfl, rfl, rfl, rfl, fin (by simp)⟩
  · simp only [List.concat_eq_append, List.length_append, List.length_cons, List.length_nil] at hD hj hSl hAB fin
    obtain ⟨k, hk1⟩ : ∃ k, k = a + A0.length := ⟨_, rfl⟩
    have hjk : j = k + 1 := by omega
    have h1 : (j : Int) > (a : Int) := by omega
    have e1 : D = (P ++ A0) ++ y :: x :: (B ++ Q) := by rw [hD]; simp
    have l1 : k = (P ++ A0).length := by simp; omega
    have gy : D[k]? = some y := get_mid e1 l1
    have gx : D[j]? = some x := get_mid (L := P ++ A0 ++ [y]) (M := B ++ Q) (by rw [e1]; simp) (by simp; omega)
    have ge : D.length = n := by rw [e1, hlen]; simp; omega
    have ws : IntKind.i64.wrap ((j : Int) - 1) = (k : Int) := w64_sub1 hjk (by omega)
    have rj : j < n := by omega
    have rk : k < n := by omega
    have kx : x.key.length ≤ 9223372036854775807 := hk x (by simp)
    have ky : y.key.length ≤ 9223372036854775807 := hk y (by rw [← hAB]; simp)
    have hc := CompareEvents_evA x y kx ky 6 (D.map Evt.r) g
    have sw := swap_next e1 l1 hjk
    have hne : ¬ (j = k) := by omega
    by_cases hlt : cmpE x y < 0
    · left
      have hle := leE_of x y hlt
      obtain ⟨x', rfl⟩ : ∃ z, x = z := ⟨x, rfl⟩
      have hlo := evts_lo 1 ((D.set j y).set k x)
      refine ⟨((D.set j y).set k x, k), ?_, ⟨A0, y :: B, by rw [sw]; simp, hk1, by rw [← hAB]; simp, fun v hv => by simp at hv; rw [← hv]; exact hle⟩, by simp only; omega⟩
      obtain ⟨xt, xk, xl, xi, xp, xa⟩ := x
      obtain ⟨yt, yk, yl, yi, yp, ya⟩ := y
      have hs : ∀ v, ((D.map Evt.r).set j v)[k]? = some (Evt.r ⟨yt, yk, yl, yi, yp, ya⟩) := fun v => by rw [List.getElem?_set_ne hne, List.getElem?_map, gy]; rfl
      simp only [List.map_set, Evt.r] at hlo
      simp only at hc
      simp only [c_slices_insertionSortCmpFunc_api_SimEvent_L2, Int.natCast_nonneg, Int.toNat_natCast, List.getElem?_map, Option.map_some, gx, gy, hs, h1, ws, rj, rk, hc, hlt, hlo, List.map_set, Evt.r, Go.Ev.exec, Go.Ev.evOpers, Go.Ev.evOper, Go.Ev.item_op, Go.Ev.item_v, Go.Ev.evOp, Go.Ev.evs, Go.Ev.Opnd.ev, Go.Ev.Env.get, Go.Ev.Env.set, Go.Ev.look, Go.Ev.cellsAt, Go.Ev.loadC, Go.Ev.AV.cells, Go.Ev.plains, Go.Ev.AV.plain, Go.Ev.bin_sub, Go.Ev.bin_lss, Go.Ev.bin_gtr, Go.Ev.settle, Go.Ev.keep, Go.Ev.varsLo, Go.Ev.marksLo, Go.Ev.storeLo, Go.Ev.SObj.lo, Go.Ev.lo_v, Go.Ev.lo_sl, Go.Ev.lo_fn, Go.Ev.los_nil, ↓Go.Ev.obind, Go.Ev.it1, ↓reduceIte, List.length_cons, List.length_nil, List.getElem?_cons_zero, List.take_succ_cons, List.take_zero, List.take_nil, List.drop_succ_cons, List.drop_zero, List.drop_nil, List.nil_append, List.append_nil, List.set_cons_zero, Nat.reduceAdd, Nat.reduceEqDiff, reduceCtorEq, decide_true, Bool.and_self, and_self, Nat.zero_add, Nat.lt_add_one, Nat.le_refl, eq_self]
    · right
      have hf := fin (fun u hu => by simp at hu; rw [← hu]; exact leE_of_not x y hlt)
      obtain ⟨xt, xk, xl, xi, xp, xa⟩ := x
      obtain ⟨yt, yk, yl, yi, yp, ya⟩ := y
      simp only at hc
      simp only [c_slices_insertionSortCmpFunc_api_SimEvent_L2, Int.natCast_nonneg, Int.toNat_natCast, List.getElem?_map, Option.map_some, gx, gy, h1, ws, rj, rk, hc, hlt, Evt.r, Go.Ev.exec, Go.Ev.evOpers, Go.Ev.evOper, Go.Ev.item_op, Go.Ev.item_v, Go.Ev.evOp, Go.Ev.evs, Go.Ev.Opnd.ev, Go.Ev.Env.get, Go.Ev.Env.set, Go.Ev.look, Go.Ev.cellsAt, Go.Ev.loadC, Go.Ev.bin_sub, Go.Ev.bin_lss, Go.Ev.bin_gtr, ↓Go.Ev.obind, Go.Ev.it1, ↓reduceIte, List.length_cons, List.length_nil, List.getElem?_cons_zero, List.take_succ_cons, List.take_nil, List.drop_zero, List.nil_append, List.append_nil, Nat.reduceAdd, Nat.reduceEqDiff, reduceCtorEq, decide_true, decide_false, Bool.false_eq_true, and_self, Nat.zero_add, Nat.le_refl, eq_self]
      exact ⟨_, rfl, rfl, rfl, rfl, rfl, rfl, rfl, rfl, hf⟩
theorem insertion_ev (P S Q : List Evt) (hn : n = (P ++ (S ++ Q)).length) (hb : n < 2 ^ 61) (hk : KeysOk (P ++ (S ++ Q))) (a b : Nat) (ha : a = P.length) (hbb : b = a + S.length) :
    ∃ S' : List Evt, S'.Perm S ∧ S'.Pairwise leE ∧ (evL T).call n_slices_insertionSortCmpFunc_api_SimEvent [.sl 0 g 0 n cl, (.v (.int .i64 (a))), (.v (.int .i64 (b))), (.fn (.func n_evkey_CompareEvents) [] [])] [.row 6 ((P ++ (S ++ Q)).map Evt.r) g] = some (.tup [], [.row 6 ((P ++ (S' ++ Q)).map Evt.r) g]) := by
  have hlen : n = P.length + (S.length + Q.length) := by rw [hn]; simp
  have key := itB_while (f := exec (evL T) itL none c_slices_insertionSortCmpFunc_api_SimEvent_L1) (s := Ev.settle [0, 1, 2, 3, 8] true 1) (τ := List Evt × Nat)
    (fun s => ⟨[(0, .sl 0 g 0 n cl), (1, (.v (.int .i64 (a)))), (2, (.v (.int .i64 (b)))), (3, (.fn (.func n_evkey_CompareEvents) [] [])), (8, (.v (.int .i64 (s.2))))], []⟩) (fun s => [.row 6 ((s.1).map Evt.r) g]) (fun s => b - s.2)
    (fun s => (∃ A B, s.1 = P ++ (A ++ (B ++ Q)) ∧ s.2 = a + A.length ∧ (A ++ B).Perm S ∧ A.Pairwise leE) ∨ S = [] ∧ s.1 = P ++ Q ∧ s.2 = a + 1)
    (fun y => y.1 = .exit 0 ∧ y.2.1.marks = [] ∧ ∃ S' : List Evt, S'.Perm S ∧ S'.Pairwise leE ∧ y.2.2 = [.row 6 ((P ++ (S' ++ Q)).map Evt.r) g]) ?_ (P ++ (S ++ Q), a + 1) ?_
  · obtain ⟨⟨y, e, σ⟩, k1, k2, k3, S', k4, k5, k6⟩ := key
    simp only at k1 k2 k3 k6
    subst k2; subst k6
    refine ⟨S', k4, k5, ?_⟩
    have w1 : IntKind.i64.wrap ((a : Int) + 1) = ((a + 1 : Nat) : Int) := w64_add1 (by omega)
    rw [evL_code ext_slices_insertionSortCmpFunc_api_SimEvent code_slices_insertionSortCmpFunc_api_SimEvent]
    simp only [c_slices_insertionSortCmpFunc_api_SimEvent, w1, k1, k3, evts_lo, Go.Ev.runFunc, Go.Ev.exec, Go.Ev.evOpers, Go.Ev.evOper, Go.Ev.item_op, Go.Ev.evOp, Go.Ev.Opnd.ev, Go.Ev.Env.get, Go.Ev.Env.set, Go.Ev.look, Go.Ev.argVars, Go.Ev.bin_add, Go.Ev.resVals, Go.Ev.resOf, Go.Ev.kill, Go.Ev.leave, Go.Ev.settle, Go.Ev.keep, Go.Ev.varsLo, Go.Ev.marksLo, Go.Ev.storeLo, Go.Ev.SObj.lo, Go.Ev.lo_v, Go.Ev.lo_tup, Go.Ev.lo_sl, Go.Ev.lo_fn, Go.Ev.los_nil, ↓Go.Ev.obind, ↓Go.Ev.itL_itB, ↓reduceIte, List.length_cons, List.length_nil, List.take_succ_cons, List.take_nil, Nat.reduceAdd, Nat.reduceEqDiff, reduceCtorEq, decide_true, Bool.and_self, and_self, Nat.zero_add, Nat.lt_add_one, eq_self]
  · rintro ⟨D, i⟩ (⟨A, B, hD, hi, hAB, hA⟩ | ⟨hS, hD, hi⟩)
    · simp only at hD hi ⊢
      have hl := hAB.length_eq
      rw [List.length_append] at hl
      cases B with
      | nil =>
        have h1 : ¬ (i : Int) < (b : Int) := by simp at hl; omega
        right
        simp only [c_slices_insertionSortCmpFunc_api_SimEvent_L1, h1, Go.Ev.exec, Go.Ev.evOpers, Go.Ev.evOper, Go.Ev.item_op, Go.Ev.evOp, Go.Ev.Opnd.ev, Go.Ev.Env.get, Go.Ev.Env.set, Go.Ev.look, Go.Ev.bin_lss, ↓Go.Ev.obind, Go.Ev.it1, ↓reduceIte, Nat.reduceEqDiff, reduceCtorEq, decide_false, Bool.false_eq_true, eq_self]
        exact ⟨_, rfl, rfl, rfl, A, by simpa using hAB, hA, by rw [hD]; simp⟩
      | cons x B =>
        rw [List.length_cons] at hl
        have h1 : (i : Int) < (b : Int) := by omega
        have hkD : KeysOk (P ++ (A ++ x :: (B ++ Q))) := by
          intro z hz
          refine hk z ?_
          simp only [List.mem_append, List.mem_cons] at hz ⊢
          have := hAB.mem_iff (a := z)
          simp only [List.mem_append, List.mem_cons] at this
          rcases hz with h | h | h | h | h
          · exact .inl h
          · exact .inr (.inl (this.1 (.inl h)))
          · exact .inr (.inl (this.1 (.inr (.inl h))))
          · exact .inr (.inl (this.1 (.inr (.inr h))))
          · exact .inr (.inr h)
        obtain ⟨⟨y, e, σ⟩, k1, k2, k3, k4, k5, k6, k7, k8, S', k9, k10, k11⟩ := insertion_inner g cl n P A (B ++ Q) x (by rw [hlen]; simp; omega) hb hkD hA a ha b i
        simp only at k1 k2 k3 k4 k5 k6 k7 k8 k11
        subst k2; subst k11
        have w1 : IntKind.i64.wrap ((i : Int) + 1) = ((i + 1 : Nat) : Int) := w64_add1 (by omega)
        left
        refine ⟨(P ++ (S' ++ (B ++ Q)), i + 1), ?_, .inl ⟨S', B, rfl, ?_, ?_, k10⟩, ?_⟩
        · rw [← hi] at k1
          rw [hD]
          simp only [List.cons_append] at k1 ⊢
          simp only [c_slices_insertionSortCmpFunc_api_SimEvent_L1, h1, w1, k1, k3, k4, k5, k6, k7, k8, evts_lo, Go.Ev.exec, Go.Ev.evOpers, Go.Ev.evOper, Go.Ev.item_op, Go.Ev.evOp, Go.Ev.Opnd.ev, Go.Ev.Env.get, Go.Ev.Env.set, Go.Ev.look, Go.Ev.bin_add, Go.Ev.bin_lss, Go.Ev.settle, Go.Ev.keep, Go.Ev.varsLo, Go.Ev.marksLo, Go.Ev.storeLo, Go.Ev.SObj.lo, Go.Ev.lo_v, Go.Ev.lo_sl, Go.Ev.lo_fn, Go.Ev.los_nil, ↓Go.Ev.obind, ↓Go.Ev.itL_itB, Go.Ev.it1, ↓reduceIte, List.length_cons, List.length_nil, List.take_succ_cons, List.take_nil, Nat.reduceEqDiff, reduceCtorEq, decide_true, Bool.and_self, and_self, Nat.zero_add, Nat.lt_add_one, eq_self]
        · have := k9.length_eq; rw [List.length_cons] at this; simp only; omega
        · exact ((k9.append_right B).trans List.perm_middle.symm).trans hAB
        · simp only; omega
    · simp only at hD hi ⊢
      subst hS
      have h1 : ¬ (i : Int) < (b : Int) := by simp at hbb; omega
      right
      simp only [c_slices_insertionSortCmpFunc_api_SimEvent_L1, h1, Go.Ev.exec, Go.Ev.evOpers, Go.Ev.evOper, Go.Ev.item_op, Go.Ev.evOp, Go.Ev.Opnd.ev, Go.Ev.Env.get, Go.Ev.Env.set, Go.Ev.look, Go.Ev.bin_lss, ↓Go.Ev.obind, Go.Ev.it1, ↓reduceIte, Nat.reduceEqDiff, reduceCtorEq, decide_false, Bool.false_eq_true, eq_self]
      exact ⟨_, rfl, rfl, rfl, [], List.Perm.nil, List.Pairwise.nil, by rw [hD]; simp⟩
  · cases S with
    | nil => exact .inr ⟨rfl, by simp, rfl⟩
    | cons x S => exact .inl ⟨[x], S, by simp, by simp, by simp, List.pairwise_singleton _ _⟩
end
end Go.Proofs.Ytlcakphdkpdenaa.K

namespace Go.Proofs.Ytlcakphdkpdenaa.K
open Go.Ev
set_option linter.unusedSimpArgs false
set_option linter.unusedVariables false
set_option maxRecDepth 10000
/-! ### Turning -/
section
variable (g : Nat) (cl : Bool) (n : Nat)
theorem rotate_ev (L X Y N : List Evt) (hX : 0 < X.length) (hY : 0 < Y.length) (hn : n = (L ++ (X ++ (Y ++ N))).length) (hb : n < 2 ^ 61) (a m b : Nat) (ha : a = L.length) (hm : m = a + X.length) (hbb : b = m + Y.length) :
    (evL T).call n_slices_rotateCmpFunc_api_SimEvent [.sl 0 g 0 n cl, (.v (.int .i64 (a))), (.v (.int .i64 (m))), (.v (.int .i64 (b))), (.fn (.func n_evkey_CompareEvents) [] [])] [.row 6 ((L ++ (X ++ (Y ++ N))).map Evt.r) g] = some (.tup [], [.row 6 ((L ++ (Y ++ (X ++ N))).map Evt.r) g]) := by
  have hlen : n = L.length + (X.length + (Y.length + N.length)) := by rw [hn]; simp
  have key := itB_while (f := exec (evL T) itL none c_slices_rotateCmpFunc_api_SimEvent_L1) (s := Ev.settle [0, 2, 4, 10, 11] true 1) (τ := List Evt × Nat × Nat)
    (fun s => ⟨[(0, .sl 0 g 0 n cl), (2, (.v (.int .i64 (m)))), (4, (.fn (.func n_evkey_CompareEvents) [] [])), (10, (.v (.int .i64 (s.2.1)))), (11, (.v (.int .i64 (s.2.2))))], []⟩) (fun s => [.row 6 ((s.1).map Evt.r) g]) (fun s => s.2.1 + s.2.2)
    (fun s => ∃ L' X' Y' N', s.1 = L' ++ (X' ++ (Y' ++ N')) ∧ s.2.1 = X'.length ∧ s.2.2 = Y'.length ∧ 0 < X'.length ∧ 0 < Y'.length ∧ m = L'.length + X'.length ∧ L' ++ (Y' ++ (X' ++ N')) = L ++ (Y ++ (X ++ N)))
    (fun y => ∃ i : Nat, y.1 = .exit 0 ∧ y.2.1.marks = [] ∧ Ev.look y.2.1.vars 0 = some (.sl 0 g 0 n cl) ∧ Ev.look y.2.1.vars 2 = some (.v (.int .i64 (m))) ∧ Ev.look y.2.1.vars 4 = some (.fn (.func n_evkey_CompareEvents) [] []) ∧ Ev.look y.2.1.vars 10 = some (.v (.int .i64 (i))) ∧
      ∃ L' X' Y' N' : List Evt, y.2.2 = [.row 6 ((L' ++ (X' ++ (Y' ++ N'))).map Evt.r) g] ∧ i = X'.length ∧ i = Y'.length ∧ m = L'.length + X'.length ∧ L' ++ (Y' ++ (X' ++ N')) = L ++ (Y ++ (X ++ N))) ?_ (L ++ (X ++ (Y ++ N)), X.length, Y.length) ⟨L, X, Y, N, rfl, rfl, rfl, hX, hY, by omega, rfl⟩
  · obtain ⟨⟨y, e, σ⟩, k1, i, k2, k3, k4, k5, k6, k7, L', X', Y', N', k8, k9, k10, k11, k12⟩ := key
    simp only at k1 k2 k3 k4 k5 k6 k7 k8
    subst k2; subst k8
    have hl2 := congrArg List.length k12
    simp only [List.length_append] at hl2
    have w1 : IntKind.i64.wrap ((m : Int) - (a : Int)) = (X.length : Int) := w64_sub hm (by omega)
    have w2 : IntKind.i64.wrap ((b : Int) - (m : Int)) = (Y.length : Int) := w64_sub hbb (by omega)
    have w3 : IntKind.i64.wrap ((m : Int) - (i : Int)) = (L'.length : Int) := w64_sub (by omega) (by omega)
    have sw := swapRange_ev g cl n L' X' [] Y' N' (by omega) (by simp; omega) hb L'.length m rfl (by simp; omega)
    simp only [List.nil_append] at sw
    rw [← k9, k12] at sw
    rw [evL_code ext_slices_rotateCmpFunc_api_SimEvent code_slices_rotateCmpFunc_api_SimEvent]
    simp only [c_slices_rotateCmpFunc_api_SimEvent, w1, w2, w3, k1, k3, k4, k5, k6, k7, sw, evts_lo, Go.Ev.runFunc, Go.Ev.exec, Go.Ev.evOpers, Go.Ev.evOper, Go.Ev.item_op, Go.Ev.item_I, Go.Ev.evOp, Go.Ev.evs, Go.Ev.Opnd.ev, Go.Ev.Env.get, Go.Ev.Env.set, Go.Ev.look, Go.Ev.argVars, Go.Ev.bin_sub, Go.Ev.resVals, Go.Ev.resOf, Go.Ev.kill, Go.Ev.leave, Go.Ev.settle, Go.Ev.keep, Go.Ev.varsLo, Go.Ev.marksLo, Go.Ev.storeLo, Go.Ev.SObj.lo, Go.Ev.lo_v, Go.Ev.lo_tup, Go.Ev.lo_sl, Go.Ev.lo_fn, Go.Ev.los_nil, ↓Go.Ev.obind, ↓Go.Ev.itL_itB, ↓reduceIte, List.length_cons, List.length_nil, List.take_succ_cons, List.take_nil, Nat.reduceAdd, Nat.reduceEqDiff, reduceCtorEq, decide_true, Bool.and_self, and_self, Nat.zero_add, Nat.lt_add_one, eq_self]
  · rintro ⟨D, i, j⟩ ⟨L', X', Y', N', hD, hi, hj, hX', hY', hm', heq⟩
    simp only at hD hi hj ⊢
    have hl2 := congrArg List.length heq
    simp only [List.length_append] at hl2
    by_cases hij : i = j
    · right
      have h1 : (i : Int) = (j : Int) := by omega
      subst hij
      simp only [c_slices_rotateCmpFunc_api_SimEvent_L1, Go.Ev.exec, Go.Ev.evOpers, Go.Ev.evOper, Go.Ev.item_op, Go.Ev.evOp, Go.Ev.Opnd.ev, Go.Ev.Env.get, Go.Ev.Env.set, Go.Ev.look, Go.Ev.bin_neq, ↓Go.Ev.obind, Go.Ev.it1, ↓reduceIte, Nat.reduceEqDiff, reduceCtorEq, decide_false, Bool.false_eq_true, ne_eq, not_true_eq_false, eq_self]
      exact ⟨_, rfl, i, rfl, rfl, rfl, rfl, rfl, rfl, L', X', Y', N', by rw [hD], hi, hj, hm', heq⟩
    have h1 : ¬ (i : Int) = (j : Int) := by omega
    left
    by_cases hgt : j < i
    · have h2 : (i : Int) > (j : Int) := by omega
      obtain ⟨X1, X2, rfl, hX1⟩ : ∃ X1 X2, X' = X1 ++ X2 ∧ X1.length = j := ⟨X'.take j, X'.drop j, (List.take_append_drop _ _).symm, by simp; omega⟩
      rw [List.length_append] at hi hX' hm' hl2
      have sw := swapRange_ev g cl n L' X1 X2 Y' N' (by omega) (by simp; omega) hb L'.length m rfl (by omega)
      rw [show L' ++ (X1 ++ (X2 ++ (Y' ++ N'))) = D by rw [hD]; simp, hX1] at sw
      have w3 : IntKind.i64.wrap ((m : Int) - (i : Int)) = (L'.length : Int) := w64_sub (by omega) (by omega)
      have w4 : IntKind.i64.wrap ((i : Int) - (j : Int)) = (X2.length : Int) := w64_sub (by omega) (by omega)
      refine ⟨(L' ++ (Y' ++ (X2 ++ (X1 ++ N'))), X2.length, j), ?_, ⟨L' ++ Y', X2, X1, N', by simp, rfl, hX1.symm, by omega, by omega, by simp; omega, by rw [← heq]; simp⟩, by first | omega | (simp only; omega)⟩
      simp only [c_slices_rotateCmpFunc_api_SimEvent_L1, h1, h2, w3, w4, sw, evts_lo, Go.Ev.exec, Go.Ev.evOpers, Go.Ev.evOper, Go.Ev.item_op, Go.Ev.item_I, Go.Ev.evOp, Go.Ev.evs, Go.Ev.Opnd.ev, Go.Ev.Env.get, Go.Ev.Env.set, Go.Ev.look, Go.Ev.bin_sub, Go.Ev.bin_neq, Go.Ev.bin_gtr, Go.Ev.settle, Go.Ev.keep, Go.Ev.varsLo, Go.Ev.marksLo, Go.Ev.storeLo, Go.Ev.SObj.lo, Go.Ev.lo_v, Go.Ev.lo_sl, Go.Ev.lo_fn, Go.Ev.los_nil, ↓Go.Ev.obind, Go.Ev.it1, ↓reduceIte, List.take_succ_cons, List.take_nil, Nat.reduceEqDiff, reduceCtorEq, decide_true, Bool.and_self, and_self, ne_eq, not_false_eq_true, Nat.lt_add_one, eq_self]
    · have h2 : ¬ (i : Int) > (j : Int) := by omega
      obtain ⟨Y1, Y2, rfl, hY2⟩ : ∃ Y1 Y2, Y' = Y1 ++ Y2 ∧ Y2.length = i := ⟨Y'.take (j - i), Y'.drop (j - i), (List.take_append_drop _ _).symm, by simp; omega⟩
      rw [List.length_append] at hj hY' hl2
      have sw := swapRange_ev g cl n L' X' Y1 Y2 N' (by omega) (by simp; omega) hb L'.length (m + Y1.length) rfl (by omega)
      rw [show L' ++ (X' ++ (Y1 ++ (Y2 ++ N'))) = D by rw [hD]; simp, ← hi] at sw
      have w3 : IntKind.i64.wrap ((m : Int) - (i : Int)) = (L'.length : Int) := w64_sub (by omega) (by omega)
      have w4 : IntKind.i64.wrap ((m : Int) + (j : Int)) = ((m + j : Nat) : Int) := w64_add (by omega)
      have w5 : IntKind.i64.wrap (((m + j : Nat) : Int) - (i : Int)) = ((m + Y1.length : Nat) : Int) := w64_sub (by omega) (by omega)
      have w6 : IntKind.i64.wrap ((j : Int) - (i : Int)) = (Y1.length : Int) := w64_sub (by omega) (by omega)
      refine ⟨(L' ++ (Y2 ++ (Y1 ++ (X' ++ N'))), i, Y1.length), ?_, ⟨L', Y2, Y1, X' ++ N', rfl, hY2.symm, rfl, by omega, by omega, by omega, by rw [← heq]; simp⟩, by first | omega | (simp only; omega)⟩
      simp only [c_slices_rotateCmpFunc_api_SimEvent_L1, h1, h2, w3, w4, w5, w6, sw, evts_lo, Go.Ev.exec, Go.Ev.evOpers, Go.Ev.evOper, Go.Ev.item_op, Go.Ev.item_I, Go.Ev.evOp, Go.Ev.evs, Go.Ev.Opnd.ev, Go.Ev.Env.get, Go.Ev.Env.set, Go.Ev.look, Go.Ev.bin_add, Go.Ev.bin_sub, Go.Ev.bin_neq, Go.Ev.bin_gtr, Go.Ev.settle, Go.Ev.keep, Go.Ev.varsLo, Go.Ev.marksLo, Go.Ev.storeLo, Go.Ev.SObj.lo, Go.Ev.lo_v, Go.Ev.lo_sl, Go.Ev.lo_fn, Go.Ev.los_nil, ↓Go.Ev.obind, Go.Ev.it1, ↓reduceIte, List.take_succ_cons, List.take_nil, Nat.reduceEqDiff, reduceCtorEq, decide_true, decide_false, Bool.and_self, Bool.false_eq_true, and_self, ne_eq, not_false_eq_true, Nat.lt_add_one, eq_self]
end
end Go.Proofs.Ytlcakphdkpdenaa.K
