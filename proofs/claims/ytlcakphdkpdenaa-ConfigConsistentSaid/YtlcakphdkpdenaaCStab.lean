/- Part of the proofs about this seat's program (module CStab). -/
import Derived.Test.YtlcakphdkpdenaaCMerges
import Derived.Test.YtlcakphdkpdenaaCBase
set_option linter.unusedSectionVars false
set_option linter.unusedSimpArgs false
set_option linter.unusedVariables false
namespace Go.Proofs.Ytlcakphdkpdenaa.K
open Go.Ev
set_option linter.unusedSimpArgs false
set_option linter.unusedVariables false
set_option maxRecDepth 10000
theorem w64_mul2 {a : Nat} (h : a < 2 ^ 61) : IntKind.i64.wrap (2 * (a : Int)) = ((2 * a : Nat) : Int) := by rw [w64_small (by omega) (by omega)]; omega
theorem w64_mul2' {a : Nat} (h : a < 2 ^ 61) : IntKind.i64.wrap ((a : Int) * 2) = ((2 * a : Nat) : Int) := by rw [w64_small (by omega) (by omega)]; omega
section
variable (g : Nat) (cl : Bool) (n : Nat)
theorem stable_L1 (l : List Evt) (hn : n = l.length) (hb : n < 2 ^ 58) (hk : KeysOk l) :
    ∃ y, itB (exec (evL T) itL none c_slices_stableCmpFunc_api_SimEvent_L1) (Ev.settle [0, 1, 2, 6, 7, 8] true 1) ⟨[(0, .sl 0 g 0 n cl), (1, (.v (.int .i64 (n)))), (2, (.fn (.func n_evkey_CompareEvents) [] [])), (6, (.v (.int .i64 (20)))), (7, (.v (.int .i64 (0)))), (8, (.v (.int .i64 (20))))], []⟩ [.row 6 ((l).map Evt.r) g] = some y ∧
      ∃ a : Nat, y.1 = .exit 0 ∧ y.2.1.marks = [] ∧ Ev.look y.2.1.vars 0 = some (.sl 0 g 0 n cl) ∧ Ev.look y.2.1.vars 1 = some (.v (.int .i64 (n))) ∧ Ev.look y.2.1.vars 2 = some (.fn (.func n_evkey_CompareEvents) [] []) ∧ Ev.look y.2.1.vars 6 = some (.v (.int .i64 (20))) ∧ Ev.look y.2.1.vars 7 = some (.v (.int .i64 (a))) ∧
        ∃ Dn Rs : List Evt, y.2.2 = [.row 6 ((Dn ++ Rs).map Evt.r) g] ∧ a = Dn.length ∧ (Dn ++ Rs).Perm l ∧ Rs.length < 20 ∧ ∀ t, Blk leE 20 t → Blk leE 20 (Dn ++ t) := by
  have key := itB_while (f := exec (evL T) itL none c_slices_stableCmpFunc_api_SimEvent_L1) (s := Ev.settle [0, 1, 2, 6, 7, 8] true 1) (τ := List Evt × Nat)
    (fun s => ⟨[(0, .sl 0 g 0 n cl), (1, (.v (.int .i64 (n)))), (2, (.fn (.func n_evkey_CompareEvents) [] [])), (6, (.v (.int .i64 (20)))), (7, (.v (.int .i64 (s.2)))), (8, (.v (.int .i64 ((s.2 + 20 : Nat)))))], []⟩) (fun s => [.row 6 ((s.1).map Evt.r) g]) (fun s => n + 20 - s.2)
    (fun s => ∃ Dn Rs, s.1 = Dn ++ Rs ∧ s.2 = Dn.length ∧ (Dn ++ Rs).Perm l ∧ ∀ t, Blk leE 20 t → Blk leE 20 (Dn ++ t))
    (fun y => ∃ a : Nat, y.1 = .exit 0 ∧ y.2.1.marks = [] ∧ Ev.look y.2.1.vars 0 = some (.sl 0 g 0 n cl) ∧ Ev.look y.2.1.vars 1 = some (.v (.int .i64 (n))) ∧ Ev.look y.2.1.vars 2 = some (.fn (.func n_evkey_CompareEvents) [] []) ∧ Ev.look y.2.1.vars 6 = some (.v (.int .i64 (20))) ∧ Ev.look y.2.1.vars 7 = some (.v (.int .i64 (a))) ∧
        ∃ Dn Rs : List Evt, y.2.2 = [.row 6 ((Dn ++ Rs).map Evt.r) g] ∧ a = Dn.length ∧ (Dn ++ Rs).Perm l ∧ Rs.length < 20 ∧ ∀ t, Blk leE 20 t → Blk leE 20 (Dn ++ t)) ?_ (l, 0) ⟨[], l, rfl, rfl, .refl _, fun t h => h⟩
  · exact key
  rintro ⟨D, a⟩ ⟨Dn, Rs, hD, ha, hp, hB⟩
  simp only at hD ha ⊢
  have hl := hp.length_eq
  rw [List.length_append] at hl
  by_cases c : a + 20 ≤ n
  case neg =>
    have h1 : ¬ ((a + 20 : Nat) : Int) ≤ (n : Int) := by omega
    right
    simp only [c_slices_stableCmpFunc_api_SimEvent_L1, h1, Go.Ev.exec, Go.Ev.evOpers, Go.Ev.evOper, Go.Ev.item_op, Go.Ev.evOp, Go.Ev.Opnd.ev, Go.Ev.Env.get, Go.Ev.Env.set, Go.Ev.look, Go.Ev.bin_leq, ↓Go.Ev.obind, Go.Ev.it1, ↓reduceIte, Nat.reduceEqDiff, reduceCtorEq, decide_false, Bool.false_eq_true, eq_self]
    exact ⟨_, rfl, a, rfl, rfl, rfl, rfl, rfl, rfl, rfl, Dn, Rs, by rw [hD], ha, hp, by omega, hB⟩
  have h1 : ((a + 20 : Nat) : Int) ≤ (n : Int) := by omega
  obtain ⟨S, Q, rfl, hS⟩ : ∃ S Q, Rs = S ++ Q ∧ S.length = 20 := ⟨Rs.take 20, Rs.drop 20, (List.take_append_drop _ _).symm, by simp; omega⟩
  rw [List.length_append] at hl
  have hkD : KeysOk (Dn ++ (S ++ Q)) := hk.perm hp
  obtain ⟨S', p1, q1, r1⟩ := insertion_ev g cl n Dn S Q (by simp; omega) (by omega) hkD a (a + 20) ha (by omega)
  have w1 : IntKind.i64.wrap (((a + 20 : Nat) : Int) + 20) = ((a + 20 + 20 : Nat) : Int) := by rw [w64_small (by omega) (by omega)]; omega
  rw [← hD] at r1
  left
  refine ⟨(Dn ++ (S' ++ Q), a + 20), ?_, ⟨Dn ++ S', Q, by simp, ?_, ?_, ?_⟩, by simp only; omega⟩
  · simp only [c_slices_stableCmpFunc_api_SimEvent_L1, h1, w1, r1, evts_lo, Go.Ev.exec, Go.Ev.evOpers, Go.Ev.evOper, Go.Ev.item_op, Go.Ev.item_I, Go.Ev.evOp, Go.Ev.evs, Go.Ev.Opnd.ev, Go.Ev.Env.get, Go.Ev.Env.set, Go.Ev.look, Go.Ev.bin_add, Go.Ev.bin_leq, Go.Ev.settle, Go.Ev.keep, Go.Ev.varsLo, Go.Ev.marksLo, Go.Ev.storeLo, Go.Ev.SObj.lo, Go.Ev.lo_v, Go.Ev.lo_sl, Go.Ev.lo_fn, Go.Ev.los_nil, ↓Go.Ev.obind, Go.Ev.it1, ↓reduceIte, List.take_succ_cons, List.take_nil, Nat.reduceEqDiff, reduceCtorEq, decide_true, Bool.and_self, and_self, Nat.lt_add_one, eq_self]
  · have := p1.length_eq; simp; omega
  · rw [List.append_assoc]; exact (List.Perm.append_left Dn (p1.append_right Q)).trans hp
  · intro t ht
    rw [List.append_assoc]
    exact hB _ (.more (by rw [p1.length_eq]; exact hS) q1 ht)
theorem stable_L3 (l D0 : List Evt) (hn : n = l.length) (hb : n < 2 ^ 58) (hk : KeysOk l) (s : Nat) (hs : 0 < s) (hsn : s < n) (hp0 : D0.Perm l) (hB0 : Blk leE s D0) :
    ∃ y, itB (exec (evL T) itL none c_slices_stableCmpFunc_api_SimEvent_L3) (Ev.settle [0, 1, 2, 6, 7, 8] true 1) ⟨[(0, .sl 0 g 0 n cl), (1, (.v (.int .i64 (n)))), (2, (.fn (.func n_evkey_CompareEvents) [] [])), (6, (.v (.int .i64 (s)))), (7, (.v (.int .i64 (0)))), (8, (.v (.int .i64 ((2 * s : Nat)))))], []⟩ [.row 6 ((D0).map Evt.r) g] = some y ∧
      ∃ a : Nat, y.1 = .exit 4 ∧ y.2.1.marks = [] ∧ Ev.look y.2.1.vars 0 = some (.sl 0 g 0 n cl) ∧ Ev.look y.2.1.vars 1 = some (.v (.int .i64 (n))) ∧ Ev.look y.2.1.vars 2 = some (.fn (.func n_evkey_CompareEvents) [] []) ∧ Ev.look y.2.1.vars 6 = some (.v (.int .i64 (s))) ∧ Ev.look y.2.1.vars 7 = some (.v (.int .i64 (a))) ∧
        ∃ Dn Rs : List Evt, y.2.2 = [.row 6 ((Dn ++ Rs).map Evt.r) g] ∧ a = Dn.length ∧ (Dn ++ Rs).Perm l ∧ Rs.length < 2 * s ∧ Blk leE s Rs ∧ ∀ t, Blk leE (2 * s) t → Blk leE (2 * s) (Dn ++ t) := by
  have key := itB_while (f := exec (evL T) itL none c_slices_stableCmpFunc_api_SimEvent_L3) (s := Ev.settle [0, 1, 2, 6, 7, 8] true 1) (τ := List Evt × Nat)
    (fun z => ⟨[(0, .sl 0 g 0 n cl), (1, (.v (.int .i64 (n)))), (2, (.fn (.func n_evkey_CompareEvents) [] [])), (6, (.v (.int .i64 (s)))), (7, (.v (.int .i64 (z.2)))), (8, (.v (.int .i64 ((z.2 + 2 * s : Nat)))))], []⟩) (fun z => [.row 6 ((z.1).map Evt.r) g]) (fun z => n + 2 * s - z.2)
    (fun z => ∃ Dn Rs, z.1 = Dn ++ Rs ∧ z.2 = Dn.length ∧ (Dn ++ Rs).Perm l ∧ Blk leE s Rs ∧ ∀ t, Blk leE (2 * s) t → Blk leE (2 * s) (Dn ++ t))
    (fun y => ∃ a : Nat, y.1 = .exit 4 ∧ y.2.1.marks = [] ∧ Ev.look y.2.1.vars 0 = some (.sl 0 g 0 n cl) ∧ Ev.look y.2.1.vars 1 = some (.v (.int .i64 (n))) ∧ Ev.look y.2.1.vars 2 = some (.fn (.func n_evkey_CompareEvents) [] []) ∧ Ev.look y.2.1.vars 6 = some (.v (.int .i64 (s))) ∧ Ev.look y.2.1.vars 7 = some (.v (.int .i64 (a))) ∧
        ∃ Dn Rs : List Evt, y.2.2 = [.row 6 ((Dn ++ Rs).map Evt.r) g] ∧ a = Dn.length ∧ (Dn ++ Rs).Perm l ∧ Rs.length < 2 * s ∧ Blk leE s Rs ∧ ∀ t, Blk leE (2 * s) t → Blk leE (2 * s) (Dn ++ t)) ?_ (D0, 0) ⟨[], D0, rfl, rfl, hp0, hB0, fun t h => h⟩
  · simp only [Nat.zero_add] at key; exact key
  rintro ⟨D, a⟩ ⟨Dn, Rs, hD, ha, hp, hR, hB⟩
  simp only at hD ha ⊢
  have hl := hp.length_eq
  rw [List.length_append] at hl
  by_cases c : a + 2 * s ≤ n
  case neg =>
    have h1 : ¬ ((a + 2 * s : Nat) : Int) ≤ (n : Int) := by omega
    right
    simp only [c_slices_stableCmpFunc_api_SimEvent_L3, h1, Go.Ev.exec, Go.Ev.evOpers, Go.Ev.evOper, Go.Ev.item_op, Go.Ev.evOp, Go.Ev.Opnd.ev, Go.Ev.Env.get, Go.Ev.Env.set, Go.Ev.look, Go.Ev.bin_leq, ↓Go.Ev.obind, Go.Ev.it1, ↓reduceIte, Nat.reduceEqDiff, reduceCtorEq, decide_false, Bool.false_eq_true, eq_self]
    exact ⟨_, rfl, a, rfl, rfl, rfl, rfl, rfl, rfl, rfl, Dn, Rs, by rw [hD], ha, hp, by omega, hR, hB⟩
  have h1 : ((a + 2 * s : Nat) : Int) ≤ (n : Int) := by omega
  obtain ⟨X, Y, Q, rfl, hX, hY, qX, qY, hQ⟩ : ∃ X Y Q, Rs = X ++ (Y ++ Q) ∧ X.length = s ∧ Y.length = s ∧ X.Pairwise leE ∧ Y.Pairwise leE ∧ Blk leE s Q := by
    obtain ⟨X, R1, rfl, h2, h3, h4⟩ := hR.split (by omega)
    rw [List.length_append] at hl
    by_cases c2 : R1.length ≤ s
    · exact ⟨X, R1, [], by simp, h2, by omega, h3, h4.sorted c2, .nil⟩
    · obtain ⟨Y, Q, rfl, h5, h6, h7⟩ := h4.split (by omega)
      exact ⟨X, Y, Q, rfl, h2, h5, h3, h6, h7⟩
  rw [List.length_append, List.length_append] at hl
  have hkD : KeysOk (Dn ++ (X ++ (Y ++ Q))) := hk.perm hp
  obtain ⟨Z, p1, q1, r1⟩ := symMerge_ev g cl n (by omega) _ Dn X Y Q (Nat.le_refl _) (by omega) (by omega) qX qY (by simp; omega) hkD a (a + s) (a + 2 * s) ha (by omega) (by omega)
  have w1 : IntKind.i64.wrap ((a : Int) + (s : Int)) = ((a + s : Nat) : Int) := w64_add (by omega)
  have w2 : IntKind.i64.wrap (2 * (s : Int)) = ((2 * s : Nat) : Int) := w64_mul2 (by omega)
  have w3 : IntKind.i64.wrap (((a + 2 * s : Nat) : Int) + ((2 * s : Nat) : Int)) = ((a + 2 * s + 2 * s : Nat) : Int) := w64_add (by omega)
  unfold MergeTo at r1
  rw [← hD] at r1
  have hz := p1.length_eq
  rw [List.length_append] at hz
  left
  refine ⟨(Dn ++ (Z ++ Q), a + 2 * s), ?_, ⟨Dn ++ Z, Q, by simp, ?_, ?_, hQ, ?_⟩, by simp only; omega⟩
  · simp only [c_slices_stableCmpFunc_api_SimEvent_L3, h1, w1, w2, w3, r1, evts_lo, Go.Ev.exec, Go.Ev.evOpers, Go.Ev.evOper, Go.Ev.item_op, Go.Ev.item_I, Go.Ev.evOp, Go.Ev.evs, Go.Ev.Opnd.ev, Go.Ev.Env.get, Go.Ev.Env.set, Go.Ev.look, Go.Ev.bin_add, Go.Ev.bin_mul, Go.Ev.bin_leq, Go.Ev.settle, Go.Ev.keep, Go.Ev.varsLo, Go.Ev.marksLo, Go.Ev.storeLo, Go.Ev.SObj.lo, Go.Ev.lo_v, Go.Ev.lo_sl, Go.Ev.lo_fn, Go.Ev.los_nil, ↓Go.Ev.obind, Go.Ev.it1, ↓reduceIte, List.take_succ_cons, List.take_nil, Nat.reduceEqDiff, reduceCtorEq, decide_true, Bool.and_self, and_self, Nat.lt_add_one, eq_self]
  · simp; omega
  · rw [List.append_assoc]
    refine (List.Perm.append_left Dn (p1.append_right Q)).trans ?_
    rw [List.append_assoc]; exact hp
  · intro t ht
    rw [List.append_assoc]
    exact hB _ (.more (by omega) q1 ht)
theorem stable_L2 (l D0 : List Evt) (hn : n = l.length) (hb : n < 2 ^ 58) (hk : KeysOk l) (hp0 : D0.Perm l) (hB0 : Blk leE 20 D0) :
    ∃ y, itB (exec (evL T) itL none c_slices_stableCmpFunc_api_SimEvent_L2) (Ev.settle [0, 1, 2, 6] true 1) ⟨[(0, .sl 0 g 0 n cl), (1, (.v (.int .i64 (n)))), (2, (.fn (.func n_evkey_CompareEvents) [] [])), (6, (.v (.int .i64 (20))))], []⟩ [.row 6 ((D0).map Evt.r) g] = some y ∧
      (y.1 = .exit 2 ∧ y.2.1.marks = [] ∧ ∃ l' : List Evt, y.2.2 = [.row 6 ((l').map Evt.r) g] ∧ l'.Perm l ∧ l'.Pairwise leE) := by
  have key := itB_while (f := exec (evL T) itL none c_slices_stableCmpFunc_api_SimEvent_L2) (s := Ev.settle [0, 1, 2, 6] true 1) (τ := List Evt × Nat)
    (fun z => ⟨[(0, .sl 0 g 0 n cl), (1, (.v (.int .i64 (n)))), (2, (.fn (.func n_evkey_CompareEvents) [] [])), (6, (.v (.int .i64 (z.2))))], []⟩) (fun z => [.row 6 ((z.1).map Evt.r) g]) (fun z => n - z.2)
    (fun z => z.1.Perm l ∧ 0 < z.2 ∧ Blk leE z.2 z.1)
    (fun y => y.1 = .exit 2 ∧ y.2.1.marks = [] ∧ ∃ l' : List Evt, y.2.2 = [.row 6 ((l').map Evt.r) g] ∧ l'.Perm l ∧ l'.Pairwise leE) ?_ (D0, 20) ⟨hp0, by simp, hB0⟩
  · exact key
  rintro ⟨D, s⟩ ⟨hp, hs, hB⟩
  simp only at hp hs hB ⊢
  have hl := hp.length_eq
  by_cases c : s < n
  case neg =>
    have h1 : ¬ (s : Int) < (n : Int) := by omega
    right
    simp only [c_slices_stableCmpFunc_api_SimEvent_L2, h1, Go.Ev.exec, Go.Ev.evOpers, Go.Ev.evOper, Go.Ev.item_op, Go.Ev.evOp, Go.Ev.Opnd.ev, Go.Ev.Env.get, Go.Ev.Env.set, Go.Ev.look, Go.Ev.bin_lss, ↓Go.Ev.obind, Go.Ev.it1, ↓reduceIte, Nat.reduceEqDiff, reduceCtorEq, decide_false, Bool.false_eq_true, eq_self]
    exact ⟨_, rfl, rfl, rfl, D, rfl, hp, hB.sorted (by omega)⟩
  have h1 : (s : Int) < (n : Int) := by omega
  obtain ⟨⟨y, e, σ⟩, k1, a, k2, k3, k4, k5, k6, k7, k8, Dn, Rs, k9, k10, k11, k12, k13, k14⟩ := stable_L3 g cl n l D hn hb hk s hs c hp hB
  simp only at k1 k2 k3 k4 k5 k6 k7 k8 k9
  subst k2; subst k9
  have hl2 := k11.length_eq
  rw [List.length_append] at hl2
  have w1 : IntKind.i64.wrap ((a : Int) + (s : Int)) = ((a + s : Nat) : Int) := w64_add (by omega)
  have w2 : IntKind.i64.wrap (2 * (s : Int)) = ((2 * s : Nat) : Int) := w64_mul2 (by omega)
  have w3 : IntKind.i64.wrap ((s : Int) * 2) = ((2 * s : Nat) : Int) := w64_mul2' (by omega)
  left
  by_cases c2 : a + s < n
  · have h2 : ((a + s : Nat) : Int) < (n : Int) := by omega
    obtain ⟨X, Y, rfl, hX, qX, hY⟩ := k13.split (by omega)
    rw [List.length_append] at hl2 k12
    have hkD : KeysOk (Dn ++ (X ++ (Y ++ []))) := by rw [List.append_nil]; exact hk.perm k11
    obtain ⟨Z, p1, q1, r1⟩ := symMerge_ev g cl n (by omega) _ Dn X Y [] (Nat.le_refl _) (by omega) (by omega) qX (hY.sorted (by omega)) (by simp; omega) hkD a (a + s) n k10 (by omega) (by omega)
    unfold MergeTo at r1
    simp only [List.append_nil] at r1
    have hz := p1.length_eq
    rw [List.length_append] at hz
    refine ⟨(Dn ++ Z, 2 * s), ?_, ⟨(List.Perm.append_left Dn p1).trans k11, by simp only; omega, k14 _ (.last (by omega) q1)⟩, by simp only; omega⟩
    simp only [c_slices_stableCmpFunc_api_SimEvent_L2, h1, h2, w1, w2, w3, k1, k3, k4, k5, k6, k7, k8, r1, evts_lo, Go.Ev.exec, Go.Ev.evOpers, Go.Ev.evOper, Go.Ev.item_op, Go.Ev.item_I, Go.Ev.evOp, Go.Ev.evs, Go.Ev.Opnd.ev, Go.Ev.Env.get, Go.Ev.Env.set, Go.Ev.look, Go.Ev.bin_add, Go.Ev.bin_mul, Go.Ev.bin_lss, Go.Ev.settle, Go.Ev.keep, Go.Ev.varsLo, Go.Ev.marksLo, Go.Ev.storeLo, Go.Ev.SObj.lo, Go.Ev.lo_v, Go.Ev.lo_sl, Go.Ev.lo_fn, Go.Ev.los_nil, ↓Go.Ev.obind, ↓Go.Ev.itL_itB, Go.Ev.it1, ↓reduceIte, List.length_cons, List.length_nil, List.take_succ_cons, List.take_nil, Nat.reduceEqDiff, reduceCtorEq, decide_true, Bool.and_self, and_self, Nat.zero_add, Nat.lt_add_one, eq_self]
  · have h2 : ¬ ((a + s : Nat) : Int) < (n : Int) := by omega
    refine ⟨(Dn ++ Rs, 2 * s), ?_, ⟨k11, by simp only; omega, k14 _ (.last (by omega) (k13.sorted (by omega)))⟩, by simp only; omega⟩
    simp only [c_slices_stableCmpFunc_api_SimEvent_L2, h1, h2, w1, w2, w3, k1, k3, k4, k5, k6, k7, k8, evts_lo, Go.Ev.exec, Go.Ev.evOpers, Go.Ev.evOper, Go.Ev.item_op, Go.Ev.evOp, Go.Ev.Opnd.ev, Go.Ev.Env.get, Go.Ev.Env.set, Go.Ev.look, Go.Ev.bin_add, Go.Ev.bin_mul, Go.Ev.bin_lss, Go.Ev.settle, Go.Ev.keep, Go.Ev.varsLo, Go.Ev.marksLo, Go.Ev.storeLo, Go.Ev.SObj.lo, Go.Ev.lo_v, Go.Ev.lo_sl, Go.Ev.lo_fn, Go.Ev.los_nil, ↓Go.Ev.obind, ↓Go.Ev.itL_itB, Go.Ev.it1, ↓reduceIte, List.length_cons, List.length_nil, List.take_succ_cons, List.take_nil, Nat.reduceEqDiff, reduceCtorEq, decide_true, decide_false, Bool.and_self, Bool.false_eq_true, and_self, Nat.zero_add, Nat.lt_add_one, eq_self]
theorem stable_ev (l : List Evt) (hn : n = l.length) (hb : n < 2 ^ 58) (hk : KeysOk l) :
    ∃ l' : List Evt, l'.Perm l ∧ l'.Pairwise leE ∧ (evL T).call n_slices_stableCmpFunc_api_SimEvent [.sl 0 g 0 n cl, (.v (.int .i64 (n))), (.fn (.func n_evkey_CompareEvents) [] [])] [.row 6 ((l).map Evt.r) g] = some (.tup [], [.row 6 ((l').map Evt.r) g]) := by
  obtain ⟨⟨y, e, σ⟩, k1, a, k2, k3, k4, k5, k6, k7, k8, Dn, Rs, k9, k10, k11, k12, k13⟩ := stable_L1 g cl n l hn hb hk
  simp only at k1 k2 k3 k4 k5 k6 k7 k8 k9
  subst k2; subst k9
  have hl := k11.length_eq
  rw [List.length_append] at hl
  obtain ⟨R', p1, q1, r1⟩ := insertion_ev g cl n Dn Rs [] (by simp; omega) (by omega) (by rw [List.append_nil]; exact hk.perm k11) a n k10 (by omega)
  simp only [List.append_nil] at r1
  obtain ⟨⟨y', e', σ'⟩, l1, l2, l3, l', l4, l5, l6⟩ := stable_L2 g cl n l (Dn ++ R') hn hb hk ((List.Perm.append_left Dn p1).trans k11) (k13 _ (.last (by rw [p1.length_eq]; omega) q1))
  simp only at l1 l2 l3 l4
  subst l2; subst l4
  refine ⟨l', l5, l6, ?_⟩
  rw [evL_code ext_slices_stableCmpFunc_api_SimEvent code_slices_stableCmpFunc_api_SimEvent]
  simp only [c_slices_stableCmpFunc_api_SimEvent, k1, k3, k4, k5, k6, k7, k8, r1, l1, l3, evts_lo, Go.Ev.runFunc, Go.Ev.exec, Go.Ev.evOpers, Go.Ev.evOper, Go.Ev.item_op, Go.Ev.item_I, Go.Ev.evOp, Go.Ev.evs, Go.Ev.Opnd.ev, Go.Ev.Env.get, Go.Ev.Env.set, Go.Ev.look, Go.Ev.argVars, Go.Ev.resVals, Go.Ev.resOf, Go.Ev.kill, Go.Ev.leave, Go.Ev.settle, Go.Ev.keep, Go.Ev.varsLo, Go.Ev.marksLo, Go.Ev.storeLo, Go.Ev.SObj.lo, Go.Ev.lo_v, Go.Ev.lo_tup, Go.Ev.lo_sl, Go.Ev.lo_fn, Go.Ev.los_nil, ↓Go.Ev.obind, ↓Go.Ev.itL_itB, ↓reduceIte, List.length_cons, List.length_nil, List.take_succ_cons, List.take_nil, Nat.reduceAdd, Nat.reduceEqDiff, reduceCtorEq, decide_true, Bool.and_self, and_self, Nat.zero_add, Nat.lt_add_one, eq_self]
theorem sortStable_ev (l : List Evt) (hn : n = l.length) (hb : n < 2 ^ 58) (hk : KeysOk l) :
    ∃ l' : List Evt, l'.Perm l ∧ l'.Pairwise leE ∧ (evL T).call n_slices_SortStableFunc_Lapi_SimEvent_api_SimEvent [.sl 0 g 0 n cl, (.fn (.func n_evkey_CompareEvents) [] [])] [.row 6 ((l).map Evt.r) g] = some (.tup [], [.row 6 ((l').map Evt.r) g]) := by
  obtain ⟨l', h1, h2, h3⟩ := stable_ev g cl n l hn hb hk
  refine ⟨l', h1, h2, ?_⟩
  rw [evL_code ext_slices_SortStableFunc_Lapi_SimEvent_api_SimEvent code_slices_SortStableFunc_Lapi_SimEvent_api_SimEvent]
  simp only [c_slices_SortStableFunc_Lapi_SimEvent_api_SimEvent, h3, evts_lo, Go.Ev.runFunc, Go.Ev.exec, Go.Ev.evOpers, Go.Ev.evOper, Go.Ev.item_op, Go.Ev.item_I, Go.Ev.evOp, Go.Ev.evs, Go.Ev.Opnd.ev, Go.Ev.Env.get, Go.Ev.Env.set, Go.Ev.look, Go.Ev.argVars, Go.Ev.resVals, Go.Ev.resOf, Go.Ev.kill, Go.Ev.leave, Go.Ev.storeLo, Go.Ev.SObj.lo, Go.Ev.lo_tup, Go.Ev.los_nil, ↓Go.Ev.obind, ↓reduceIte, List.length_cons, List.length_nil, List.take_succ_cons, List.take_nil, Nat.reduceAdd, Nat.reduceEqDiff, reduceCtorEq, Bool.and_self, and_self, Nat.zero_add, eq_self]
end
end Go.Proofs.Ytlcakphdkpdenaa.K

namespace Go.Proofs.Ytlcakphdkpdenaa.K
open Go.Ev
set_option linter.unusedSimpArgs false
set_option linter.unusedVariables false
set_option maxRecDepth 10000
/-! ### Events in order -/
def sortL (l : List Evt) : List Evt := l.mergeSort (fun a b => decide (cmpE a b ≤ 0))
def Dist (l : List Evt) : Prop := l.Pairwise (fun a b => ¬ cmpE a b = 0)
theorem sortL_perm (l : List Evt) : (sortL l).Perm l := List.mergeSort_perm _ _
theorem sortL_sorted (l : List Evt) : (sortL l).Pairwise leE := by
  have := List.pairwise_mergeSort (le := fun a b => decide (cmpE a b ≤ 0)) (fun a b c h1 h2 => by simp only [decide_eq_true_eq] at h1 h2 ⊢; exact leE_trans a b c h1 h2) (fun a b => by
    have := cmpE_neg a b
    by_cases h : cmpE a b ≤ 0
    · simp [h]
    · have : cmpE b a ≤ 0 := by omega
      simp [this]) l
  exact this.imp (fun h => of_decide_eq_true h)
theorem Dist.eq {l : List Evt} (h : Dist l) {a b : Evt} (ha : a ∈ l) (hb : b ∈ l) (hc : cmpE a b = 0) : a = b := by
  obtain ⟨i, hi⟩ := List.mem_iff_getElem?.1 ha
  obtain ⟨j, hj⟩ := List.mem_iff_getElem?.1 hb
  obtain ⟨hi', rfl⟩ := List.getElem?_eq_some_iff.1 hi
  obtain ⟨hj', rfl⟩ := List.getElem?_eq_some_iff.1 hj
  rw [Dist, List.pairwise_iff_getElem] at h
  rcases Nat.lt_trichotomy i j with c | c | c
  · exact absurd hc (h i j hi' hj' c)
  · subst c; rfl
  · exact absurd (by rw [cmpE_neg]; omega) (h j i hj' hi' c)
theorem sortL_unique {l l' : List Evt} (hd : Dist l) (hp : l'.Perm l) (hs : l'.Pairwise leE) : l' = sortL l := by
  refine List.Perm.eq_of_pairwise (le := leE) (fun a b ha hb h1 h2 => ?_) hs (sortL_sorted l) (hp.trans (sortL_perm l).symm)
  refine hd.eq (hp.mem_iff.1 ha) ((sortL_perm l).mem_iff.1 hb) ?_
  have := cmpE_neg a b
  unfold leE at h1 h2; omega
theorem Dist.perm {l l' : List Evt} (h : Dist l) (p : l'.Perm l) : Dist l' := (p.pairwise_iff (fun {x y} hxy hyx => hxy (by rw [cmpE_neg]; omega))).2 h
theorem clone_evts_ev (l : List Evt) (c : Bool) (h : l.length ≤ 1000000) : (evL T).call n_slices_Clone_Lapi_SimEvent_api_SimEvent [(.fsl ((l).map Evt.r) c)] [] = some (.sl 0 0 0 l.length false, [.row 6 (l.map Evt.r) 0]) := by
  have h' : l.length * 64 ≤ 140737488355328 := by omega
  rw [evL_ext ext_slices_Clone_Lapi_SimEvent_api_SimEvent]
  simp only [cloneF, evts_lo, evts_ok, h', Go.Ev.lo_fsl, Go.Ev.los_nil, Go.Ev.los_cons, List.length_map, ↓reduceIte, Nat.reduceLT, Nat.reducePow, Bool.and_self, and_self, eq_self]
theorem evkey_SortEvents_ev (l : List Evt) (c : Bool) (h : l.length ≤ 1000000) (hk : KeysOk l) : ∃ l' : List Evt, l'.Perm l ∧ l'.Pairwise leE ∧ callZ (evL T) n_evkey_SortEvents [(.fsl ((l).map Evt.r) c)] = some (.fsl ((l').map Evt.r) false) := by
  have hcl := clone_evts_ev l c h
  obtain ⟨l', h1, h2, h3⟩ := sortStable_ev 0 false l.length l rfl (by omega) hk
  refine ⟨l', h1, h2, ?_⟩
  have hlen := h1.length_eq
  rw [callZ, evL_code ext_evkey_SortEvents code_evkey_SortEvents]
  rw [← hlen] at hcl h3
  simp only [c_evkey_SortEvents, hcl, h3, evts_lo, Go.Ev.runFunc, Go.Ev.exec, Go.Ev.evOpers, Go.Ev.evOper, Go.Ev.item_op, Go.Ev.item_A, Go.Ev.item_I, Go.Ev.impO, Go.Ev.AV.shift, Go.Ev.evOp, Go.Ev.evs, Go.Ev.Opnd.ev, Go.Ev.Env.get, Go.Ev.Env.set, Go.Ev.look, Go.Ev.argVars, Go.Ev.resVals, Go.Ev.resVal, Go.Ev.resOf, Go.Ev.kill, Go.Ev.leave, Go.Ev.storeLo, Go.Ev.lo_fsl, Go.Ev.lo_sl, Go.Ev.los_nil, Go.Ev.los_cons, Go.Ev.frz_own, Go.Ev.omap_los, Go.Ev.omap_nil, Go.Ev.omap_cons, Go.Ev.shiftss_lo, Go.Ev.take_map_len, List.length_map, ↓Go.Ev.obind, ↓reduceIte, List.length_cons, List.length_nil, List.getElem?_cons_zero, List.take_zero, List.drop_zero, List.nil_append, Nat.reduceEqDiff, Nat.reduceLT, reduceCtorEq, decide_false, Bool.and_self, Bool.false_eq_true, and_self, and_true, Nat.zero_add, Nat.add_zero, Nat.le_refl, eq_self]
theorem evkey_SortEvents_evD (l : List Evt) (c : Bool) (h : l.length ≤ 1000000) (hk : KeysOk l) (hd : Dist l) : callZ (evL T) n_evkey_SortEvents [(.fsl ((l).map Evt.r) c)] = some (.fsl ((sortL l).map Evt.r) false) := by
  obtain ⟨l', h1, h2, h3⟩ := evkey_SortEvents_ev l c h hk
  rw [← sortL_unique hd h1 h2]; exact h3
theorem ref03_CompareEvents_ev (x y : Evt) (hx : x.key.length ≤ 9223372036854775807) (hy : y.key.length ≤ 9223372036854775807) : callZ (evL T) n_ref03_CompareEvents [(.agg [(.v (.int .i64 (x.time))), (.fsl ((x.key).map intC) false), (.v (.int .i64 (x.lp))), (.v (.int .i64 (x.kind))), (.v (.int .i64 (x.proc))), (.v (.int .i64 (x.arg)))]), (.agg [(.v (.int .i64 (y.time))), (.fsl ((y.key).map intC) false), (.v (.int .i64 (y.lp))), (.v (.int .i64 (y.kind))), (.v (.int .i64 (y.proc))), (.v (.int .i64 (y.arg)))])] = some (.v (.int .i64 (cmpE x y))) := by
  obtain ⟨xt, xk, xl, xi, xp, xa⟩ := x
  obtain ⟨yt, yk, yl, yi, yp, ya⟩ := y
  have hc := ref03_Compare_ev xt yt
  have hk := CompareKeys_ev xk yk false false hx hy
  have hz := (cmpZ_cases xt yt).2.1
  rw [callZ, evL_code ext_ref03_CompareEvents code_ref03_CompareEvents]
  by_cases h : xt = yt
  · subst h
    have h0 : cmpZ xt xt = 0 := hz.2 rfl
    simp only [c_ref03_CompareEvents, cmpE, h0, hk, ints_lo, Go.Ev.runFunc, Go.Ev.exec, Go.Ev.evOpers, Go.Ev.evOper, Go.Ev.item_op, Go.Ev.item_P, Go.Ev.evOp, Go.Ev.evs, Go.Ev.Opnd.ev, Go.Ev.Env.get, Go.Ev.Env.set, Go.Ev.look, Go.Ev.argVars, Go.Ev.cellsAt, Go.Ev.loadC, Go.Ev.AV.cells, Go.Ev.plains, Go.Ev.AV.plain, Go.Ev.bin_neq, Go.Ev.resVals, Go.Ev.resVal, Go.Ev.resOf, Go.Ev.kill, Go.Ev.leave, Go.Ev.storeLo, Go.Ev.lo_v, Go.Ev.lo_fsl, Go.Ev.los_nil, Go.Ev.los_cons, Go.Ev.frz_lo, ↓Go.Ev.obind, ↓reduceIte, List.length_cons, List.length_nil, List.take_nil, List.drop_succ_cons, List.drop_zero, List.head?_cons, Nat.reduceAdd, Nat.reduceEqDiff, reduceCtorEq, decide_false, Bool.and_self, Bool.false_eq_true, and_self, ne_eq, not_false_eq_true, not_true_eq_false, List.cons_ne_nil, Nat.zero_add, eq_self]
  · have h0 : ¬ cmpZ xt yt = 0 := fun e => h (hz.1 e)
    simp only [c_ref03_CompareEvents, cmpE, h0, h, hc, Go.Ev.runFunc, Go.Ev.exec, Go.Ev.evOpers, Go.Ev.evOper, Go.Ev.item_op, Go.Ev.item_P, Go.Ev.evOp, Go.Ev.evs, Go.Ev.Opnd.ev, Go.Ev.Env.get, Go.Ev.Env.set, Go.Ev.look, Go.Ev.argVars, Go.Ev.cellsAt, Go.Ev.loadC, Go.Ev.AV.cells, Go.Ev.plains, Go.Ev.AV.plain, Go.Ev.bin_neq, Go.Ev.resVals, Go.Ev.resVal, Go.Ev.resOf, Go.Ev.kill, Go.Ev.leave, Go.Ev.storeLo, Go.Ev.lo_v, Go.Ev.los_nil, Go.Ev.los_cons, Go.Ev.frz_lo, ↓Go.Ev.obind, ↓reduceIte, List.length_cons, List.length_nil, List.take_nil, List.drop_zero, List.head?_cons, Nat.reduceAdd, Nat.reduceEqDiff, reduceCtorEq, decide_true, Bool.and_self, Bool.false_eq_true, and_self, ne_eq, not_false_eq_true, List.cons_ne_nil, Nat.zero_add, eq_self]
end Go.Proofs.Ytlcakphdkpdenaa.K

namespace Go.Proofs.Ytlcakphdkpdenaa.K
open Go.Ev
set_option linter.unusedSimpArgs false
set_option linter.unusedVariables false
set_option maxRecDepth 10000
/-! ### The reference's sorting -/
section
variable (l : List Evt) (cl : Bool)
theorem rsort_inner (out : List Evt) (x : Evt) (i : Nat) (cf : Bool) (hx : l[i]? = some x) (ho : out.length ≤ 1000000) (hk : KeysOk out) (hkx : x.key.length ≤ 9223372036854775807) :
    ∃ y, itB (exec (evL T) itL none c_ref03_SortEvents_L2) (Ev.settle [0, 3, 4, 5] true 0) ⟨[(0, (.fsl ((l).map Evt.r) cl)), (3, (.fsl ((out).map Evt.r) cf)), (4, (.v (.int .i64 (i)))), (5, (.v (.int .i64 (out.length))))], []⟩ [] = some y ∧
      ∃ k : Nat, y.1 = .exit 2 ∧ y.2.1.marks = [] ∧ y.2.2 = [] ∧ Ev.look y.2.1.vars 0 = some (.fsl ((l).map Evt.r) cl) ∧ Ev.look y.2.1.vars 3 = some (.fsl ((out).map Evt.r) cf) ∧ Ev.look y.2.1.vars 4 = some (.v (.int .i64 (i))) ∧ Ev.look y.2.1.vars 5 = some (.v (.int .i64 (k))) ∧
        k ≤ out.length ∧ (∀ u, 0 < k → out[k - 1]? = some u → leE u x) ∧ (∀ v, out[k]? = some v → leE x v) := by
  refine itB_while (τ := Nat) (fun k => ⟨[(0, (.fsl ((l).map Evt.r) cl)), (3, (.fsl ((out).map Evt.r) cf)), (4, (.v (.int .i64 (i)))), (5, (.v (.int .i64 (k))))], []⟩) (fun _ => []) (fun k => k)
    (fun k => k ≤ out.length ∧ (∀ v, out[k]? = some v → leE x v)) _ ?_ out.length ⟨Nat.le_refl _, fun v hv => by simp at hv⟩
  rintro k ⟨h1, h2⟩
  cases k with
  | zero =>
    right
    simp only [c_ref03_SortEvents_L2, Int.lt_irrefl, Go.Ev.exec, Go.Ev.evOpers, Go.Ev.evOper, Go.Ev.item_op, Go.Ev.evOp, Go.Ev.Opnd.ev, Go.Ev.Env.get, Go.Ev.Env.set, Go.Ev.Env.unset, Go.Ev.look, Go.Ev.bin_gtr, ↓Go.Ev.obind, Go.Ev.it1, ↓reduceIte, Nat.reduceEqDiff, Int.cast_ofNat_Int, reduceCtorEq, decide_false, Bool.false_eq_true, eq_self]
    exact ⟨_, rfl, 0, rfl, rfl, rfl, rfl, rfl, rfl, rfl, Nat.zero_le _, fun u h => by omega, h2⟩
  | succ j =>
    obtain ⟨y, hy⟩ : ∃ y, out[j]? = some y := ⟨_, List.getElem?_eq_getElem (by omega)⟩
    obtain ⟨k, hk1⟩ : ∃ k, k = j + 1 := ⟨_, rfl⟩
    rw [← hk1] at h1 h2 ⊢
    have c1 : (k : Int) > 0 := by omega
    have w1 : IntKind.i64.wrap ((k : Int) - 1) = (j : Int) := w64_sub1 hk1 (by omega)
    have hc := ref03_CompareEvents_ev y x (hk y (List.mem_of_getElem? hy)) hkx
    by_cases hlt : cmpE y x > 0
    · left
      refine ⟨j, ?_, ⟨by omega, fun v hv => by rw [hy] at hv; cases hv; exact (by have := cmpE_neg y x; unfold leE; omega)⟩, by omega⟩
      obtain ⟨xt, xk, xl, xi, xp, xa⟩ := x
      obtain ⟨yt, yk, yl, yi, yp, ya⟩ := y
      simp only at hc
      simp only [c_ref03_SortEvents_L2, Int.natCast_nonneg, Int.toNat_natCast, List.getElem?_map, Option.map_some, hx, hy, c1, w1, hc, hlt, Evt.r, evts_lo, ints_lo, Go.Ev.exec, Go.Ev.evOpers, Go.Ev.evOper, Go.Ev.item_op, Go.Ev.item_P, Go.Ev.evOp, Go.Ev.evs, Go.Ev.Opnd.ev, Go.Ev.Env.get, Go.Ev.Env.set, Go.Ev.look, Go.Ev.cellsAt, Go.Ev.loadC, Go.Ev.bin_sub, Go.Ev.bin_gtr, Go.Ev.settle, Go.Ev.keep, Go.Ev.varsLo, Go.Ev.marksLo, Go.Ev.storeLo, Go.Ev.lo_v, Go.Ev.lo_agg, Go.Ev.lo_fsl, Go.Ev.los_nil, Go.Ev.los_cons, ↓Go.Ev.obind, Go.Ev.it1, ↓reduceIte, List.length_cons, List.length_nil, List.take_succ_cons, List.take_nil, Nat.reduceAdd, Nat.reduceEqDiff, reduceCtorEq, decide_true, Bool.and_self, and_self, Nat.zero_add, Nat.le_refl, eq_self]
    · right
      have hle : leE y x := by unfold leE; omega
      have h3 : ∀ u, 0 < k → out[k - 1]? = some u → leE u x := fun u _ hu => by
        rw [hk1, Nat.add_sub_cancel, hy] at hu; cases hu; exact hle
      clear hle
      obtain ⟨xt, xk, xl, xi, xp, xa⟩ := x
      obtain ⟨yt, yk, yl, yi, yp, ya⟩ := y
      simp only at hc
      simp only [c_ref03_SortEvents_L2, Int.natCast_nonneg, Int.toNat_natCast, List.getElem?_map, Option.map_some, hx, hy, c1, w1, hc, hlt, Evt.r, ints_lo, Go.Ev.exec, Go.Ev.evOpers, Go.Ev.evOper, Go.Ev.item_op, Go.Ev.item_P, Go.Ev.evOp, Go.Ev.evs, Go.Ev.Opnd.ev, Go.Ev.Env.get, Go.Ev.Env.set, Go.Ev.look, Go.Ev.cellsAt, Go.Ev.loadC, Go.Ev.bin_sub, Go.Ev.bin_gtr, Go.Ev.lo_v, Go.Ev.lo_agg, Go.Ev.lo_fsl, Go.Ev.los_nil, Go.Ev.los_cons, ↓Go.Ev.obind, Go.Ev.it1, ↓reduceIte, List.length_cons, List.length_nil, List.take_succ_cons, List.take_nil, Nat.reduceAdd, Nat.reduceEqDiff, reduceCtorEq, decide_true, decide_false, Bool.and_self, Bool.false_eq_true, Nat.zero_add, Nat.le_refl, eq_self]
      exact ⟨_, rfl, k, rfl, rfl, rfl, rfl, rfl, rfl, rfl, h1, h3, h2⟩
theorem rsort_outer (hl : l.length ≤ 1000000) (hk : KeysOk l) :
    ∃ y, itB (exec (evL T) itL none c_ref03_SortEvents_L1) (Ev.settle [0, 3, 4] true 0) ⟨[(0, (.fsl ((l).map Evt.r) cl)), (3, .fsl [] true), (4, (.v (.int .i64 (0))))], []⟩ [] = some y ∧
      ∃ (l' : List Evt) (cf : Bool), y.1 = .exit 0 ∧ y.2.1.marks = [] ∧ y.2.2 = [] ∧ Ev.look y.2.1.vars 3 = some (.fsl ((l').map Evt.r) cf) ∧ l'.Perm l ∧ l'.Pairwise leE ∧ (l ≠ [] → cf = false) := by
  have key := itB_for (f := exec (evL T) itL none c_ref03_SortEvents_L1) (s := Ev.settle [0, 3, 4] true 0) (α := List Evt × Bool)
    (fun i a => ⟨[(0, (.fsl ((l).map Evt.r) cl)), (3, (.fsl ((a.1).map Evt.r) a.2)), (4, (.v (.int .i64 (i))))], []⟩) (fun i a => [])
    (fun i a => a.1.Perm (l.take i) ∧ a.1.Pairwise leE ∧ (i ≠ 0 → a.2 = false)) l.length
    (fun y => ∃ (l' : List Evt) (cf : Bool), y.1 = .exit 0 ∧ y.2.1.marks = [] ∧ y.2.2 = [] ∧ Ev.look y.2.1.vars 3 = some (.fsl ((l').map Evt.r) cf) ∧ l'.Perm l ∧ l'.Pairwise leE ∧ (l ≠ [] → cf = false)) ?_ ?_ 0 ([], true) (Nat.zero_le _) ⟨by simp, .nil, fun h => absurd rfl h⟩
  · exact key
  · rintro i ⟨out, cf⟩ hi ⟨hp, hs, _⟩
    simp only at hp hs ⊢
    obtain ⟨x, hx⟩ : ∃ x, l[i]? = some x := ⟨_, List.getElem?_eq_getElem hi⟩
    have hi' : (i : Int) < (l.length : Int) := by omega
    have hw : IntKind.i64.wrap ((i : Int) + 1) = ((i + 1 : Nat) : Int) := by rw [w64_small (by omega) (by omega)]; simp
    have hol : out.length ≤ 1000000 := by have := hp.length_eq; rw [List.length_take] at this; omega
    obtain ⟨⟨y, e, σ⟩, k1, k, k2, k3, k4, k5, k6, k7, k8, k9, k10, k11⟩ := rsort_inner l cl out x i cf hx hol (fun z hz => hk z (List.mem_of_mem_take (hp.mem_iff.1 hz))) (hk x (List.mem_of_getElem? hx))
    simp only at k1 k2 k3 k4 k5 k6 k7 k8
    subst k2; subst k4
    obtain ⟨A, B, rfl, hA⟩ : ∃ A B, out = A ++ B ∧ A.length = k := ⟨out.take k, out.drop k, (List.take_append_drop _ _).symm, by simp; omega⟩
    subst hA
    have c1 : (A.length : Int) ≤ ((A ++ B).length : Int) := by rw [List.length_append]; omega
    have c2 : (0 : Int) ≤ (A.length : Int) := by omega
    have tk : List.take A.length ((A ++ B).map Evt.r) = A.map Evt.r := by rw [List.map_append]; exact List.take_left' (by simp)
    have dr : List.drop A.length ((A ++ B).map Evt.r) = B.map Evt.r := by rw [List.map_append]; exact List.drop_left' (by simp)
    have hlen : A.length + B.length ≤ 1000000 := by rw [List.length_append] at hol; exact hol
    have new : (A ++ x :: B).Perm (l.take (i + 1)) ∧ (A ++ x :: B).Pairwise leE := by
      constructor
      · rw [take_next hx]
        exact (List.perm_middle.trans ((List.Perm.cons x hp))).trans (List.perm_append_singleton x _).symm
      · refine insert_split leE_trans hs (fun u hu => ?_) (fun v hv => ?_)
        · have hlt : A.length - 1 < A.length := (List.getElem?_eq_some_iff.1 hu).1
          refine k10 u (by omega) ?_
          rw [List.getElem?_append_left hlt]; exact hu
        · refine k11 v ?_
          rw [List.getElem?_append_right (Nat.le_refl _), Nat.sub_self]; exact hv
    refine .inl ⟨(A ++ x :: B, false), ?_, new.1, new.2, fun _ => rfl⟩
    have b1 : A.length * 64 ≤ 140737488355328 := by omega
    have b2 : (A.length + 1) * 64 ≤ 140737488355328 := by omega
    have b3 : (A.length + 1 + B.length) * 64 ≤ 140737488355328 := by omega
    have tb : List.take ((A ++ B).length - A.length) (B.map Evt.r) = B.map Evt.r := List.take_of_length_le (by simp)
    have ta : List.take A.length (A.map Evt.r) = A.map Evt.r := List.take_of_length_le (by simp)
    have ta2 : ∀ e : List AV, List.take (A.length + 1) (A.map Evt.r ++ [e]) = A.map Evt.r ++ [e] := fun e => List.take_of_length_le (by simp)
    have ta3 : ∀ e : List AV, List.take (A.length + 1 + B.length) (A.map Evt.r ++ e :: B.map Evt.r) = A.map Evt.r ++ e :: B.map Evt.r := fun e => List.take_of_length_le (by simp; omega)
    have okAB : okRows 6 ((A ++ B).map Evt.r) = true := evts_ok _
    have goal' : (AV.fsl ((A ++ x :: B).map Evt.r) false) = AV.fsl (A.map Evt.r ++ x.r :: B.map Evt.r) false := by rw [List.map_append, List.map_cons]
    have n1 : ∀ p q : Nat, p + 1 + q ≤ p + (q + 1) := fun p q => by omega
    have n2 : ∀ q : Nat, 1 + q ≤ q + 1 := fun q => by omega
    simp only
    rw [goal']
    rcases A with _ | ⟨a, A⟩ <;> rcases B with _ | ⟨b, B⟩
    · obtain ⟨xt, xk, xl, xi, xp, xa⟩ := x
      simp only [List.nil_append, List.length_nil, List.map_nil, Int.ofNat_zero] at *
      simp only [c_ref03_SortEvents_L1, Int.natCast_nonneg, Int.toNat_natCast, List.getElem?_map, Option.map_some, hx, hi', hw, k1, k3, k5, k6, k7, k8, c1, tk, dr, b1, b2, ta2, okAB, imp_self, Nat.sub_zero, Int.toNat_zero, Evt.r, evts_lo, ints_lo, Go.Ev.exec, Go.Ev.evOpers, Go.Ev.evOper, Go.Ev.item_op, Go.Ev.evOp, Go.Ev.appE, Go.Ev.Opnd.ev, Go.Ev.Env.get, Go.Ev.Env.set, Go.Ev.look, Go.Ev.optInt, Go.Ev.cellsAt, Go.Ev.content, Go.Ev.loadC, Go.Ev.fillR, Go.Ev.AV.cells, Go.Ev.plains, Go.Ev.AV.plain, Go.Ev.bin_add, Go.Ev.bin_lss, Go.Ev.settle, Go.Ev.keep, Go.Ev.varsLo, Go.Ev.marksLo, Go.Ev.storeLo, Go.Ev.lo_v, Go.Ev.lo_fsl, Go.Ev.los_nil, Go.Ev.los_cons, Go.Ev.loss_nil, Go.Ev.loss_cons, Go.Ev.okRows_cons, List.replicate_one, List.length_map, ↓Go.Ev.obind, ↓Go.Ev.itL_itB, Go.Ev.it1, ↓reduceIte, List.length_cons, List.length_nil, List.getElem?_cons_zero, List.take_succ_cons, List.take_zero, List.take_nil, List.drop_zero, List.nil_append, List.set_cons_zero, Nat.reduceAdd, Nat.reduceEqDiff, Nat.reduceMul, Nat.reduceLT, Nat.reduceLeDiff, Nat.reducePow, Int.cast_ofNat_Int, reduceCtorEq, decide_true, Bool.and_self, Bool.and_true, Bool.false_eq_true, and_self, ne_eq, not_false_eq_true, List.cons_ne_nil, Nat.zero_add, Nat.add_zero, Nat.lt_add_one, Nat.le_refl, Option.isSome_some, Option.isSome_none, eq_self, implies_true]
    · generalize hRB : List.map Evt.r (b :: B) = RB at *
      have nB : ¬ RB = [] := by rw [← hRB]; simp
      have lB : RB.length = (b :: B).length := by rw [← hRB]; simp
      have oB : okRows 6 RB = true := by rw [← hRB]; exact evts_ok _
      have loB : ∀ n, loss n RB = true := fun n => by rw [← hRB]; exact evts_lo n _
      obtain ⟨xt, xk, xl, xi, xp, xa⟩ := x
      simp only [List.nil_append, List.length_nil, List.map_nil, Int.ofNat_zero, hRB, Nat.sub_zero, List.drop_zero] at *
      generalize hrb : (b :: B).length = nb at *
      simp only [c_ref03_SortEvents_L1, Int.natCast_nonneg, Int.toNat_natCast, List.getElem?_map, Option.map_some, hx, hi', hw, k1, k3, k5, k6, k7, k8, c1, c2, tk, b1, b2, b3, ta, ta2, ta3, tb, okAB, imp_self, n2, Int.le_refl, Nat.sub_zero, nB, lB, loB, okRows_nil, Int.toNat_zero, Evt.r, evts_lo, ints_lo, Go.Ev.exec, Go.Ev.evOpers, Go.Ev.evOper, Go.Ev.item_op, Go.Ev.evOp, Go.Ev.appE, Go.Ev.Opnd.ev, Go.Ev.Env.get, Go.Ev.Env.set, Go.Ev.look, Go.Ev.optInt, Go.Ev.cellsAt, Go.Ev.content, Go.Ev.loadC, Go.Ev.fillR, Go.Ev.AV.cells, Go.Ev.plains, Go.Ev.AV.plain, Go.Ev.bin_add, Go.Ev.bin_lss, Go.Ev.settle, Go.Ev.keep, Go.Ev.varsLo, Go.Ev.marksLo, Go.Ev.storeLo, Go.Ev.lo_v, Go.Ev.lo_fsl, Go.Ev.los_nil, Go.Ev.los_cons, Go.Ev.loss_cons, Go.Ev.okRows_nil, Go.Ev.okRows_cons, List.replicate_one, List.length_map, ↓Go.Ev.obind, ↓Go.Ev.itL_itB, Go.Ev.it1, ↓reduceIte, List.length_cons, List.length_nil, List.getElem?_cons_zero, List.take_succ_cons, List.take_zero, List.take_nil, List.drop_zero, List.cons_append, List.nil_append, List.set_cons_zero, Nat.reduceAdd, Nat.reduceEqDiff, Nat.reduceMul, Nat.reduceLT, Nat.reduceLeDiff, Nat.reducePow, reduceCtorEq, decide_true, Bool.and_self, Bool.and_true, Bool.false_eq_true, and_self, ne_eq, not_false_eq_true, List.cons_ne_nil, Nat.zero_add, Nat.add_zero, Nat.lt_add_one, Nat.le_refl, Option.isSome_some, Option.isSome_none, eq_self, implies_true]
    · generalize hRA : List.map Evt.r (a :: A) = RA at *
      have nA : ¬ RA = [] := by rw [← hRA]; simp
      have lA : RA.length = (a :: A).length := by rw [← hRA]; simp
      have oA : okRows 6 RA = true := by rw [← hRA]; exact evts_ok _
      have loA : ∀ n, loss n RA = true := fun n => by rw [← hRA]; exact evts_lo n _
      obtain ⟨xt, xk, xl, xi, xp, xa⟩ := x
      simp only [List.append_nil, List.length_nil, List.map_nil, hRA, Nat.add_zero, Nat.sub_self] at *
      generalize hra : (a :: A).length = na at *
      simp only [c_ref03_SortEvents_L1, Int.natCast_nonneg, Int.toNat_natCast, List.getElem?_map, Option.map_some, hx, hi', hw, k1, k3, k5, k6, k7, k8, c1, c2, tk, dr, b1, b2, ta2, tb, okAB, imp_self, Int.le_refl, Nat.sub_zero, nA, lA, loA, okRows_nil, List.take_nil, loss_app, Evt.r, evts_lo, ints_lo, Go.Ev.exec, Go.Ev.evOpers, Go.Ev.evOper, Go.Ev.item_op, Go.Ev.evOp, Go.Ev.appE, Go.Ev.Opnd.ev, Go.Ev.Env.get, Go.Ev.Env.set, Go.Ev.look, Go.Ev.optInt, Go.Ev.cellsAt, Go.Ev.content, Go.Ev.loadC, Go.Ev.fillR, Go.Ev.AV.cells, Go.Ev.plains, Go.Ev.AV.plain, Go.Ev.bin_add, Go.Ev.bin_lss, Go.Ev.settle, Go.Ev.keep, Go.Ev.varsLo, Go.Ev.marksLo, Go.Ev.storeLo, Go.Ev.lo_v, Go.Ev.lo_fsl, Go.Ev.los_nil, Go.Ev.los_cons, Go.Ev.loss_nil, Go.Ev.loss_cons, Go.Ev.okRows_nil, Go.Ev.okRows_cons, List.replicate_one, List.length_map, ↓Go.Ev.obind, ↓Go.Ev.itL_itB, Go.Ev.it1, ↓reduceIte, List.length_cons, List.length_nil, List.length_append, List.getElem?_cons_zero, List.take_succ_cons, List.take_zero, List.take_nil, List.drop_zero, List.nil_append, List.set_cons_zero, Nat.reduceAdd, Nat.reduceEqDiff, Nat.reduceMul, Nat.reduceLT, Nat.reduceLeDiff, Nat.reducePow, Int.reduceToNat, reduceCtorEq, decide_true, Bool.and_self, Bool.and_true, Bool.false_eq_true, and_self, ne_eq, not_false_eq_true, List.cons_ne_nil, Nat.zero_add, Nat.add_zero, Nat.lt_add_one, Nat.le_refl, Option.isSome_some, Option.isSome_none, eq_self, implies_true]
    · generalize hRA : List.map Evt.r (a :: A) = RA at *
      generalize hRB : List.map Evt.r (b :: B) = RB at *
      have nA : ¬ RA = [] := by rw [← hRA]; simp
      have nB : ¬ RB = [] := by rw [← hRB]; simp
      have lA : RA.length = (a :: A).length := by rw [← hRA]; simp
      have lB : RB.length = (b :: B).length := by rw [← hRB]; simp
      have oA : okRows 6 RA = true := by rw [← hRA]; exact evts_ok _
      have oB : okRows 6 RB = true := by rw [← hRB]; exact evts_ok _
      have loA : ∀ n, loss n RA = true := fun n => by rw [← hRA]; exact evts_lo n _
      have loB : ∀ n, loss n RB = true := fun n => by rw [← hRB]; exact evts_lo n _
      generalize hra : (a :: A).length = na at *
      generalize hrb : (b :: B).length = nb at *
      generalize (a :: A) ++ (b :: B) = AB at *
      obtain ⟨xt, xk, xl, xi, xp, xa⟩ := x
      simp only [c_ref03_SortEvents_L1, Int.natCast_nonneg, Int.toNat_natCast, List.getElem?_map, Option.map_some, hx, hi', hw, k1, k3, k5, k6, k7, k8, c1, c2, tk, dr, b1, b2, b3, ta, ta2, ta3, tb, okAB, imp_self, n1, List.append_assoc, Int.le_refl, Nat.sub_zero, nA, nB, lA, lB, oA, oB, loA, loB, loss_app, Evt.r, evts_lo, ints_lo, Go.Ev.exec, Go.Ev.evOpers, Go.Ev.evOper, Go.Ev.item_op, Go.Ev.evOp, Go.Ev.appE, Go.Ev.Opnd.ev, Go.Ev.Env.get, Go.Ev.Env.set, Go.Ev.look, Go.Ev.optInt, Go.Ev.cellsAt, Go.Ev.content, Go.Ev.loadC, Go.Ev.fillR, Go.Ev.AV.cells, Go.Ev.plains, Go.Ev.AV.plain, Go.Ev.bin_add, Go.Ev.bin_lss, Go.Ev.settle, Go.Ev.keep, Go.Ev.varsLo, Go.Ev.marksLo, Go.Ev.storeLo, Go.Ev.lo_v, Go.Ev.lo_fsl, Go.Ev.los_nil, Go.Ev.los_cons, Go.Ev.loss_cons, Go.Ev.okRows_nil, Go.Ev.okRows_cons, List.replicate_one, List.length_map, ↓Go.Ev.obind, ↓Go.Ev.itL_itB, Go.Ev.it1, ↓reduceIte, List.length_cons, List.length_nil, List.length_append, List.getElem?_cons_zero, List.take_succ_cons, List.take_zero, List.take_nil, List.drop_zero, List.cons_append, List.nil_append, List.set_cons_zero, Nat.reduceAdd, Nat.reduceEqDiff, Nat.reduceMul, Nat.reduceLT, Nat.reduceLeDiff, Nat.reducePow, Int.reduceToNat, reduceCtorEq, decide_true, Bool.and_self, Bool.and_true, Bool.false_eq_true, and_self, ne_eq, not_false_eq_true, List.cons_ne_nil, Nat.zero_add, Nat.lt_add_one, Nat.le_refl, Option.isSome_some, Option.isSome_none, eq_self, implies_true]
  · rintro ⟨out, cf⟩ ⟨hp, hs, hc⟩
    rw [List.take_length] at hp
    simp only at hp hs hc ⊢
    simp only [c_ref03_SortEvents_L1, Int.lt_irrefl, Go.Ev.exec, Go.Ev.evOpers, Go.Ev.evOper, Go.Ev.item_op, Go.Ev.evOp, Go.Ev.Opnd.ev, Go.Ev.Env.get, Go.Ev.Env.set, Go.Ev.look, Go.Ev.bin_lss, List.length_map, ↓Go.Ev.obind, Go.Ev.it1, ↓reduceIte, Nat.reduceEqDiff, reduceCtorEq, decide_false, Bool.false_eq_true, ne_eq, eq_self]
    exact ⟨_, rfl, out, cf, rfl, rfl, rfl, rfl, hp, hs, fun h => hc (by intro e; exact h (List.eq_nil_of_length_eq_zero e))⟩
theorem ref03_SortEvents_ev (hl : l.length ≤ 1000000) (hk : KeysOk l) : ∃ (l' : List Evt) (cf : Bool), l'.Perm l ∧ l'.Pairwise leE ∧ (l ≠ [] → cf = false) ∧ callZ (evL T) n_ref03_SortEvents [(.fsl ((l).map Evt.r) cl)] = some (.fsl ((l').map Evt.r) cf) := by
  obtain ⟨⟨y, e, σ⟩, k1, l', cf, k2, k3, k4, k5, k6, k7, k8⟩ := rsort_outer l cl hl hk
  simp only at k1 k2 k3 k4 k5
  subst k2; subst k4
  refine ⟨l', cf, k6, k7, k8, ?_⟩
  rw [callZ, evL_code ext_ref03_SortEvents code_ref03_SortEvents]
  simp only [c_ref03_SortEvents, k1, k3, k5, evts_lo, Go.Ev.runFunc, Go.Ev.exec, Go.Ev.evOpers, Go.Ev.evOper, Go.Ev.item_op, Go.Ev.evOp, Go.Ev.Opnd.ev, Go.Ev.Env.get, Go.Ev.Env.set, Go.Ev.look, Go.Ev.argVars, Go.Ev.resVals, Go.Ev.resVal, Go.Ev.resOf, Go.Ev.kill, Go.Ev.leave, Go.Ev.settle, Go.Ev.keep, Go.Ev.varsLo, Go.Ev.marksLo, Go.Ev.storeLo, Go.Ev.lo_v, Go.Ev.lo_fsl, Go.Ev.loss_nil, Go.Ev.frz_lo, ↓Go.Ev.obind, ↓Go.Ev.itL_itB, ↓reduceIte, List.length_cons, List.length_nil, List.take_nil, Nat.reduceEqDiff, reduceCtorEq, Bool.and_self, and_self, Nat.zero_add, eq_self]
theorem ref03_SortEvents_evD (hl : l.length ≤ 1000000) (hk : KeysOk l) (hd : Dist l) : ∃ cf : Bool, (l ≠ [] → cf = false) ∧ callZ (evL T) n_ref03_SortEvents [(.fsl ((l).map Evt.r) cl)] = some (.fsl ((sortL l).map Evt.r) cf) := by
  obtain ⟨l', cf, h1, h2, h3, h4⟩ := ref03_SortEvents_ev l cl hl hk
  rw [← sortL_unique hd h1 h2]; exact ⟨cf, h3, h4⟩
end
end Go.Proofs.Ytlcakphdkpdenaa.K
