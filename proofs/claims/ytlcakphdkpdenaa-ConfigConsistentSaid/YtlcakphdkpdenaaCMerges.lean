/- Part of the proofs about this seat's program (module CMerges). -/
import Derived.Test.YtlcakphdkpdenaaCSorts
set_option linter.unusedSectionVars false
set_option linter.unusedSimpArgs false
set_option linter.unusedVariables false
namespace Go.Proofs.Ytlcakphdkpdenaa.K
open Go.Ev
set_option linter.unusedSimpArgs false
set_option linter.unusedVariables false
set_option maxRecDepth 10000
/-! ### Merging in place -/
theorem half_bin (s h : Nat) (hh : h = s / 2) : evBin .shr (.v (.int .u64 (s : Int))) (.v (.int .u64 1)) = some (.v (.int .u64 (h : Int))) := by
  subst hh
  show (if (1 : Int) < 0 then none else some (AV.v (.int .u64 ((s : Int).fdiv (2 ^ (min (1 : Int).toNat IntKind.u64.bits)))))) = _
  rw [if_neg (by omega), show (2 : Int) ^ (min (1 : Int).toNat IntKind.u64.bits) = 2 from rfl, Int.fdiv_eq_ediv_of_nonneg _ (by omega)]
  rw [show (s : Int) / 2 = ((s / 2 : Nat) : Int) by omega]
theorem u64_small {n : Nat} (h : n < 2 ^ 63) : IntKind.u64.wrap (n : Int) = (n : Int) := by
  have h3 : IntKind.u64.bits = 64 := rfl
  have h4 : IntKind.u64.signed = false := rfl
  simp only [IntKind.wrap, h3, h4, Bool.false_and, Bool.false_eq_true, if_false]
  omega
theorem i64_small {n : Nat} (h : n < 2 ^ 63) : IntKind.i64.wrap (n : Int) = (n : Int) := w64_small (by omega) (by omega)
section
variable (g : Nat) (cl : Bool) (n : Nat)
theorem merge_find1 (D : List Evt) (x : Evt) (hn : n = D.length) (hb : n < 2 ^ 61) (hk : KeysOk D) (a m b : Nat) (ha : D[a]? = some x) (hmb : m ≤ b) (hbn : b ≤ n) (han : a < n) :
    ∃ y, itB (exec (evL T) itL none c_slices_symMergeCmpFunc_api_SimEvent_L1) (Ev.settle [0, 1, 4, 10, 11] true 1) ⟨[(0, .sl 0 g 0 n cl), (1, (.v (.int .i64 (a)))), (4, (.fn (.func n_evkey_CompareEvents) [] [])), (10, (.v (.int .i64 (m)))), (11, (.v (.int .i64 (b))))], []⟩ [.row 6 ((D).map Evt.r) g] = some y ∧
      ∃ i : Nat, y.1 = .exit 0 ∧ y.2.1.marks = [] ∧ y.2.2 = [.row 6 ((D).map Evt.r) g] ∧ Ev.look y.2.1.vars 0 = some (.sl 0 g 0 n cl) ∧ Ev.look y.2.1.vars 1 = some (.v (.int .i64 (a))) ∧ Ev.look y.2.1.vars 10 = some (.v (.int .i64 (i))) ∧ m ≤ i ∧ i ≤ b ∧ (i = m ∨ ∀ v, D[i - 1]? = some v → leE v x) ∧ (i = b ∨ ∀ v, D[i]? = some v → leE x v) := by
  refine itB_while (τ := Nat × Nat) (fun s => ⟨[(0, .sl 0 g 0 n cl), (1, (.v (.int .i64 (a)))), (4, (.fn (.func n_evkey_CompareEvents) [] [])), (10, (.v (.int .i64 (s.1)))), (11, (.v (.int .i64 (s.2))))], []⟩) (fun _ => [.row 6 ((D).map Evt.r) g]) (fun s => s.2 - s.1)
    (fun s => m ≤ s.1 ∧ s.1 ≤ s.2 ∧ s.2 ≤ b ∧ (s.1 = m ∨ ∀ v, D[s.1 - 1]? = some v → leE v x) ∧ (s.2 = b ∨ ∀ v, D[s.2]? = some v → leE x v)) _ ?_ (m, b) ⟨Nat.le_refl _, hmb, Nat.le_refl _, .inl rfl, .inl rfl⟩
  rintro ⟨i, j⟩ ⟨h1, h2, h3, h4, h5⟩
  simp only at h1 h2 h3 h4 h5 ⊢
  by_cases hij : i < j
  case neg =>
    have c1 : ¬ (i : Int) < (j : Int) := by omega
    right
    simp only [c_slices_symMergeCmpFunc_api_SimEvent_L1, c1, Go.Ev.exec, Go.Ev.evOpers, Go.Ev.evOper, Go.Ev.item_op, Go.Ev.evOp, Go.Ev.Opnd.ev, Go.Ev.Env.get, Go.Ev.Env.set, Go.Ev.look, Go.Ev.bin_lss, ↓Go.Ev.obind, Go.Ev.it1, ↓reduceIte, Nat.reduceEqDiff, reduceCtorEq, decide_false, Bool.false_eq_true, eq_self]
    refine ⟨_, rfl, i, rfl, rfl, rfl, rfl, rfl, rfl, h1, by omega, h4, ?_⟩
    obtain rfl : i = j := by omega
    exact h5
  obtain ⟨h, hh⟩ : ∃ h, h = (i + j) / 2 := ⟨_, rfl⟩
  have c1 : (i : Int) < (j : Int) := by omega
  obtain ⟨y, hy⟩ : ∃ y, D[h]? = some y := ⟨_, List.getElem?_eq_getElem (by omega)⟩
  have w1 : IntKind.i64.wrap ((i : Int) + (j : Int)) = ((i + j : Nat) : Int) := w64_add (by omega)
  have w2 : IntKind.u64.wrap ((i + j : Nat) : Int) = ((i + j : Nat) : Int) := u64_small (by omega)
  have w3 := half_bin (i + j) h hh
  have w4 : IntKind.i64.wrap (h : Int) = (h : Int) := i64_small (by omega)
  have w5 : IntKind.i64.wrap ((h : Int) + 1) = ((h + 1 : Nat) : Int) := w64_add1 (by omega)
  have rh : h < n := by omega
  have kx : x.key.length ≤ 9223372036854775807 := hk x (List.mem_of_getElem? ha)
  have ky : y.key.length ≤ 9223372036854775807 := hk y (List.mem_of_getElem? hy)
  have hc := CompareEvents_evA y x ky kx 6 (D.map Evt.r) g
  left
  by_cases hlt : cmpE y x < 0
  · refine ⟨(h + 1, j), ?_, ⟨by simp only; omega, by simp only; omega, h3, .inr fun v hv => ?_, h5⟩, by simp only; omega⟩
    · obtain ⟨xt, xk, xl, xi, xp, xa⟩ := x
      obtain ⟨yt, yk, yl, yi, yp, ya⟩ := y
      simp only at hc
      simp only [c_slices_symMergeCmpFunc_api_SimEvent_L1, Int.natCast_nonneg, Int.toNat_natCast, List.getElem?_map, Option.map_some, ha, hy, c1, w1, w2, w3, w4, w5, rh, han, hc, hlt, Evt.r, evts_lo, Go.Ev.exec, Go.Ev.evOpers, Go.Ev.evOper, Go.Ev.item_op, Go.Ev.item_v, Go.Ev.evOp, Go.Ev.evs, Go.Ev.Opnd.ev, Go.Ev.Env.get, Go.Ev.Env.set, Go.Ev.look, Go.Ev.cellsAt, Go.Ev.loadC, Go.Ev.bin_add, Go.Ev.bin_lss, Go.Ev.settle, Go.Ev.keep, Go.Ev.varsLo, Go.Ev.marksLo, Go.Ev.storeLo, Go.Ev.SObj.lo, Go.Ev.lo_v, Go.Ev.lo_sl, Go.Ev.lo_fn, Go.Ev.los_nil, ↓Go.Ev.obind, Go.Ev.it1, ↓reduceIte, List.length_cons, List.length_nil, List.getElem?_cons_zero, List.take_succ_cons, List.take_nil, List.drop_zero, List.nil_append, List.append_nil, Nat.reduceAdd, Nat.reduceEqDiff, reduceCtorEq, decide_true, Bool.and_self, and_self, Nat.zero_add, Nat.lt_add_one, Nat.le_refl, eq_self]
    · simp only [Nat.add_sub_cancel] at hv
      rw [hy] at hv; cases hv; exact leE_of y x hlt
  · refine ⟨(i, h), ?_, ⟨h1, by simp only; omega, by simp only; omega, h4, .inr fun v hv => ?_⟩, by simp only; omega⟩
    · obtain ⟨xt, xk, xl, xi, xp, xa⟩ := x
      obtain ⟨yt, yk, yl, yi, yp, ya⟩ := y
      simp only at hc
      simp only [c_slices_symMergeCmpFunc_api_SimEvent_L1, Int.natCast_nonneg, Int.toNat_natCast, List.getElem?_map, Option.map_some, ha, hy, c1, w1, w2, w3, w4, rh, han, hc, hlt, Evt.r, evts_lo, Go.Ev.exec, Go.Ev.evOpers, Go.Ev.evOper, Go.Ev.item_op, Go.Ev.item_v, Go.Ev.evOp, Go.Ev.evs, Go.Ev.Opnd.ev, Go.Ev.Env.get, Go.Ev.Env.set, Go.Ev.look, Go.Ev.cellsAt, Go.Ev.loadC, Go.Ev.bin_add, Go.Ev.bin_lss, Go.Ev.settle, Go.Ev.keep, Go.Ev.varsLo, Go.Ev.marksLo, Go.Ev.storeLo, Go.Ev.SObj.lo, Go.Ev.lo_v, Go.Ev.lo_sl, Go.Ev.lo_fn, Go.Ev.los_nil, ↓Go.Ev.obind, Go.Ev.it1, ↓reduceIte, List.length_cons, List.length_nil, List.getElem?_cons_zero, List.take_succ_cons, List.take_nil, List.drop_zero, List.nil_append, List.append_nil, Nat.reduceAdd, Nat.reduceEqDiff, reduceCtorEq, decide_true, decide_false, Bool.and_self, Bool.false_eq_true, and_self, Nat.zero_add, Nat.lt_add_one, Nat.le_refl, eq_self]
    · simp only at hv
      rw [hy] at hv; cases hv; exact leE_of_not y x hlt
theorem merge_find2 (D : List Evt) (x : Evt) (hn : n = D.length) (hb : n < 2 ^ 61) (hk : KeysOk D) (a m : Nat) (hm : D[m]? = some x) (ham : a ≤ m) (hmn : m < n) :
    ∃ y, itB (exec (evL T) itL none c_slices_symMergeCmpFunc_api_SimEvent_L3) (Ev.settle [0, 2, 4, 14, 15] true 1) ⟨[(0, .sl 0 g 0 n cl), (2, (.v (.int .i64 (m)))), (4, (.fn (.func n_evkey_CompareEvents) [] [])), (14, (.v (.int .i64 (a)))), (15, (.v (.int .i64 (m))))], []⟩ [.row 6 ((D).map Evt.r) g] = some y ∧
      ∃ i : Nat, y.1 = .exit 4 ∧ y.2.1.marks = [] ∧ y.2.2 = [.row 6 ((D).map Evt.r) g] ∧ Ev.look y.2.1.vars 0 = some (.sl 0 g 0 n cl) ∧ Ev.look y.2.1.vars 2 = some (.v (.int .i64 (m))) ∧ Ev.look y.2.1.vars 14 = some (.v (.int .i64 (i))) ∧ a ≤ i ∧ i ≤ m ∧ (i = a ∨ ∀ v, D[i - 1]? = some v → leE v x) ∧ (i = m ∨ ∀ v, D[i]? = some v → leE x v) := by
  refine itB_while (τ := Nat × Nat) (fun s => ⟨[(0, .sl 0 g 0 n cl), (2, (.v (.int .i64 (m)))), (4, (.fn (.func n_evkey_CompareEvents) [] [])), (14, (.v (.int .i64 (s.1)))), (15, (.v (.int .i64 (s.2))))], []⟩) (fun _ => [.row 6 ((D).map Evt.r) g]) (fun s => s.2 - s.1)
    (fun s => a ≤ s.1 ∧ s.1 ≤ s.2 ∧ s.2 ≤ m ∧ (s.1 = a ∨ ∀ v, D[s.1 - 1]? = some v → leE v x) ∧ (s.2 = m ∨ ∀ v, D[s.2]? = some v → leE x v)) _ ?_ (a, m) ⟨Nat.le_refl _, ham, Nat.le_refl _, .inl rfl, .inl rfl⟩
  rintro ⟨i, j⟩ ⟨h1, h2, h3, h4, h5⟩
  simp only at h1 h2 h3 h4 h5 ⊢
  by_cases hij : i < j
  case neg =>
    have c1 : ¬ (i : Int) < (j : Int) := by omega
    right
    simp only [c_slices_symMergeCmpFunc_api_SimEvent_L3, c1, Go.Ev.exec, Go.Ev.evOpers, Go.Ev.evOper, Go.Ev.item_op, Go.Ev.evOp, Go.Ev.Opnd.ev, Go.Ev.Env.get, Go.Ev.Env.set, Go.Ev.look, Go.Ev.bin_lss, ↓Go.Ev.obind, Go.Ev.it1, ↓reduceIte, Nat.reduceEqDiff, reduceCtorEq, decide_false, Bool.false_eq_true, eq_self]
    refine ⟨_, rfl, i, rfl, rfl, rfl, rfl, rfl, rfl, h1, by omega, h4, ?_⟩
    obtain rfl : i = j := by omega
    exact h5
  obtain ⟨h, hh⟩ : ∃ h, h = (i + j) / 2 := ⟨_, rfl⟩
  have c1 : (i : Int) < (j : Int) := by omega
  obtain ⟨y, hy⟩ : ∃ y, D[h]? = some y := ⟨_, List.getElem?_eq_getElem (by omega)⟩
  have w1 : IntKind.i64.wrap ((i : Int) + (j : Int)) = ((i + j : Nat) : Int) := w64_add (by omega)
  have w2 : IntKind.u64.wrap ((i + j : Nat) : Int) = ((i + j : Nat) : Int) := u64_small (by omega)
  have w3 := half_bin (i + j) h hh
  have w4 : IntKind.i64.wrap (h : Int) = (h : Int) := i64_small (by omega)
  have w5 : IntKind.i64.wrap ((h : Int) + 1) = ((h + 1 : Nat) : Int) := w64_add1 (by omega)
  have rh : h < n := by omega
  have kx : x.key.length ≤ 9223372036854775807 := hk x (List.mem_of_getElem? hm)
  have ky : y.key.length ≤ 9223372036854775807 := hk y (List.mem_of_getElem? hy)
  have hc := CompareEvents_evA x y kx ky 6 (D.map Evt.r) g
  left
  by_cases hlt : cmpE x y < 0
  · refine ⟨(i, h), ?_, ⟨h1, by simp only; omega, by simp only; omega, h4, .inr fun v hv => ?_⟩, by simp only; omega⟩
    · obtain ⟨xt, xk, xl, xi, xp, xa⟩ := x
      obtain ⟨yt, yk, yl, yi, yp, ya⟩ := y
      simp only at hc
      simp only [c_slices_symMergeCmpFunc_api_SimEvent_L3, Int.natCast_nonneg, Int.toNat_natCast, List.getElem?_map, Option.map_some, hm, hy, c1, w1, w2, w3, w4, rh, hmn, hc, hlt, Evt.r, evts_lo, Go.Ev.exec, Go.Ev.evOpers, Go.Ev.evOper, Go.Ev.item_op, Go.Ev.item_v, Go.Ev.evOp, Go.Ev.evs, Go.Ev.Opnd.ev, Go.Ev.Env.get, Go.Ev.Env.set, Go.Ev.look, Go.Ev.cellsAt, Go.Ev.loadC, Go.Ev.bin_add, Go.Ev.bin_lss, Go.Ev.settle, Go.Ev.keep, Go.Ev.varsLo, Go.Ev.marksLo, Go.Ev.storeLo, Go.Ev.SObj.lo, Go.Ev.lo_v, Go.Ev.lo_sl, Go.Ev.lo_fn, Go.Ev.los_nil, ↓Go.Ev.obind, Go.Ev.it1, ↓reduceIte, List.length_cons, List.length_nil, List.getElem?_cons_zero, List.take_succ_cons, List.take_nil, List.drop_zero, List.nil_append, List.append_nil, Nat.reduceAdd, Nat.reduceEqDiff, reduceCtorEq, decide_true, Bool.and_self, Bool.not_true, Bool.false_eq_true, and_self, Nat.zero_add, Nat.lt_add_one, Nat.le_refl, eq_self]
    · simp only at hv
      rw [hy] at hv; cases hv; exact leE_of x y hlt
  · refine ⟨(h + 1, j), ?_, ⟨by simp only; omega, by simp only; omega, h3, .inr fun v hv => ?_, h5⟩, by simp only; omega⟩
    · obtain ⟨xt, xk, xl, xi, xp, xa⟩ := x
      obtain ⟨yt, yk, yl, yi, yp, ya⟩ := y
      simp only at hc
      simp only [c_slices_symMergeCmpFunc_api_SimEvent_L3, Int.natCast_nonneg, Int.toNat_natCast, List.getElem?_map, Option.map_some, hm, hy, c1, w1, w2, w3, w4, w5, rh, hmn, hc, hlt, Evt.r, evts_lo, Go.Ev.exec, Go.Ev.evOpers, Go.Ev.evOper, Go.Ev.item_op, Go.Ev.item_v, Go.Ev.evOp, Go.Ev.evs, Go.Ev.Opnd.ev, Go.Ev.Env.get, Go.Ev.Env.set, Go.Ev.look, Go.Ev.cellsAt, Go.Ev.loadC, Go.Ev.bin_add, Go.Ev.bin_lss, Go.Ev.settle, Go.Ev.keep, Go.Ev.varsLo, Go.Ev.marksLo, Go.Ev.storeLo, Go.Ev.SObj.lo, Go.Ev.lo_v, Go.Ev.lo_sl, Go.Ev.lo_fn, Go.Ev.los_nil, ↓Go.Ev.obind, Go.Ev.it1, ↓reduceIte, List.length_cons, List.length_nil, List.getElem?_cons_zero, List.take_succ_cons, List.take_nil, List.drop_zero, List.nil_append, List.append_nil, Nat.reduceAdd, Nat.reduceEqDiff, reduceCtorEq, decide_true, decide_false, Bool.and_self, Bool.not_false, and_self, Nat.zero_add, Nat.lt_add_one, Nat.le_refl, eq_self]
    · simp only [Nat.add_sub_cancel] at hv
      rw [hy] at hv; cases hv; exact leE_of_not x y hlt
theorem merge_find3 (D : List Evt) (hn : n = D.length) (hb : n < 2 ^ 61) (hk : KeysOk D) (a m b mid nn p lo hi : Nat) (hp : nn = p + 1) (hlh : lo ≤ hi) (hdom : ∀ c, lo ≤ c → c < hi → c < n ∧ c ≤ p ∧ p - c < n) (hnn : nn < 2 ^ 62) (hhn : hi ≤ n) :
    ∃ y, itB (exec (evL T) itL none c_slices_symMergeCmpFunc_api_SimEvent_L5) (Ev.settle [0, 1, 2, 3, 4, 18, 19, 20, 21, 22] true 1) ⟨[(0, .sl 0 g 0 n cl), (1, (.v (.int .i64 (a)))), (2, (.v (.int .i64 (m)))), (3, (.v (.int .i64 (b)))), (4, (.fn (.func n_evkey_CompareEvents) [] [])), (18, (.v (.int .i64 (mid)))), (19, (.v (.int .i64 (nn)))), (20, (.v (.int .i64 (lo)))), (21, (.v (.int .i64 (hi)))), (22, (.v (.int .i64 (p))))], []⟩ [.row 6 ((D).map Evt.r) g] = some y ∧
      ∃ i : Nat, y.1 = .exit 8 ∧ y.2.1.marks = [] ∧ y.2.2 = [.row 6 ((D).map Evt.r) g] ∧ Ev.look y.2.1.vars 0 = some (.sl 0 g 0 n cl) ∧ Ev.look y.2.1.vars 1 = some (.v (.int .i64 (a))) ∧ Ev.look y.2.1.vars 2 = some (.v (.int .i64 (m))) ∧ Ev.look y.2.1.vars 3 = some (.v (.int .i64 (b))) ∧ Ev.look y.2.1.vars 4 = some (.fn (.func n_evkey_CompareEvents) [] []) ∧ Ev.look y.2.1.vars 18 = some (.v (.int .i64 (mid))) ∧
        Ev.look y.2.1.vars 19 = some (.v (.int .i64 (nn))) ∧ Ev.look y.2.1.vars 20 = some (.v (.int .i64 (i))) ∧ lo ≤ i ∧ i ≤ hi ∧ (i = lo ∨ ∀ u v, D[i - 1]? = some u → D[p - (i - 1)]? = some v → leE u v) ∧ (i = hi ∨ ∀ u v, D[p - i]? = some u → D[i]? = some v → leE u v) := by
  refine itB_while (τ := Nat × Nat) (fun s => ⟨[(0, .sl 0 g 0 n cl), (1, (.v (.int .i64 (a)))), (2, (.v (.int .i64 (m)))), (3, (.v (.int .i64 (b)))), (4, (.fn (.func n_evkey_CompareEvents) [] [])), (18, (.v (.int .i64 (mid)))), (19, (.v (.int .i64 (nn)))), (20, (.v (.int .i64 (s.1)))), (21, (.v (.int .i64 (s.2)))), (22, (.v (.int .i64 (p))))], []⟩) (fun _ => [.row 6 ((D).map Evt.r) g]) (fun s => s.2 - s.1)
    (fun s => lo ≤ s.1 ∧ s.1 ≤ s.2 ∧ s.2 ≤ hi ∧ (s.1 = lo ∨ ∀ u v, D[s.1 - 1]? = some u → D[p - (s.1 - 1)]? = some v → leE u v) ∧ (s.2 = hi ∨ ∀ u v, D[p - s.2]? = some u → D[s.2]? = some v → leE u v)) _ ?_ (lo, hi) ⟨Nat.le_refl _, hlh, Nat.le_refl _, .inl rfl, .inl rfl⟩
  rintro ⟨i, j⟩ ⟨h1, h2, h3, h4, h5⟩
  simp only at h1 h2 h3 h4 h5 ⊢
  by_cases hij : i < j
  case neg =>
    have c1 : ¬ (i : Int) < (j : Int) := by omega
    right
    simp only [c_slices_symMergeCmpFunc_api_SimEvent_L5, c1, Go.Ev.exec, Go.Ev.evOpers, Go.Ev.evOper, Go.Ev.item_op, Go.Ev.evOp, Go.Ev.Opnd.ev, Go.Ev.Env.get, Go.Ev.Env.set, Go.Ev.look, Go.Ev.bin_lss, ↓Go.Ev.obind, Go.Ev.it1, ↓reduceIte, Nat.reduceEqDiff, reduceCtorEq, decide_false, Bool.false_eq_true, eq_self]
    refine ⟨_, rfl, i, rfl, rfl, rfl, rfl, rfl, rfl, rfl, rfl, rfl, rfl, rfl, h1, by omega, h4, ?_⟩
    obtain rfl : i = j := by omega
    exact h5
  obtain ⟨h, hh⟩ : ∃ h, h = (i + j) / 2 := ⟨_, rfl⟩
  have c1 : (i : Int) < (j : Int) := by omega
  obtain ⟨d1, d2, d3⟩ := hdom h (by omega) (by omega)
  obtain ⟨q, hq⟩ : ∃ q, q = p - h := ⟨_, rfl⟩
  obtain ⟨y, hy⟩ : ∃ y, D[h]? = some y := ⟨_, List.getElem?_eq_getElem (by omega)⟩
  obtain ⟨x, hx⟩ : ∃ x, D[q]? = some x := ⟨_, List.getElem?_eq_getElem (by omega)⟩
  have w1 : IntKind.i64.wrap ((i : Int) + (j : Int)) = ((i + j : Nat) : Int) := w64_add (by omega)
  have w2 : IntKind.u64.wrap ((i + j : Nat) : Int) = ((i + j : Nat) : Int) := u64_small (by omega)
  have w3 := half_bin (i + j) h hh
  have w4 : IntKind.i64.wrap (h : Int) = (h : Int) := i64_small (by omega)
  have w5 : IntKind.i64.wrap ((h : Int) + 1) = ((h + 1 : Nat) : Int) := w64_add1 (by omega)
  have w6 : IntKind.i64.wrap ((p : Int) - (h : Int)) = (q : Int) := w64_sub (by omega) (by omega)
  have rq : q < n := by omega
  have kx : x.key.length ≤ 9223372036854775807 := hk x (List.mem_of_getElem? hx)
  have ky : y.key.length ≤ 9223372036854775807 := hk y (List.mem_of_getElem? hy)
  have hc := CompareEvents_evA x y kx ky 6 (D.map Evt.r) g
  left
  by_cases hlt : cmpE x y < 0
  · refine ⟨(i, h), ?_, ⟨h1, by simp only; omega, by simp only; omega, h4, .inr fun u v hu hv => ?_⟩, by simp only; omega⟩
    · obtain ⟨xt, xk, xl, xi, xp, xa⟩ := x
      obtain ⟨yt, yk, yl, yi, yp, ya⟩ := y
      simp only at hc
      simp only [c_slices_symMergeCmpFunc_api_SimEvent_L5, Int.natCast_nonneg, Int.toNat_natCast, List.getElem?_map, Option.map_some, hx, hy, c1, w1, w2, w3, w4, w6, d1, rq, hc, hlt, Evt.r, evts_lo, Go.Ev.exec, Go.Ev.evOpers, Go.Ev.evOper, Go.Ev.item_op, Go.Ev.item_v, Go.Ev.evOp, Go.Ev.evs, Go.Ev.Opnd.ev, Go.Ev.Env.get, Go.Ev.Env.set, Go.Ev.look, Go.Ev.cellsAt, Go.Ev.loadC, Go.Ev.bin_add, Go.Ev.bin_sub, Go.Ev.bin_lss, Go.Ev.settle, Go.Ev.keep, Go.Ev.varsLo, Go.Ev.marksLo, Go.Ev.storeLo, Go.Ev.SObj.lo, Go.Ev.lo_v, Go.Ev.lo_sl, Go.Ev.lo_fn, Go.Ev.los_nil, ↓Go.Ev.obind, Go.Ev.it1, ↓reduceIte, List.length_cons, List.length_nil, List.getElem?_cons_zero, List.take_succ_cons, List.take_nil, List.drop_zero, List.nil_append, List.append_nil, Nat.reduceAdd, Nat.reduceEqDiff, reduceCtorEq, decide_true, Bool.and_self, Bool.not_true, Bool.false_eq_true, and_self, Nat.zero_add, Nat.lt_add_one, Nat.le_refl, eq_self]
    · simp only at hu hv
      rw [← hq, hx] at hu; cases hu
      rw [hy] at hv; cases hv; exact leE_of x y hlt
  · refine ⟨(h + 1, j), ?_, ⟨by simp only; omega, by simp only; omega, h3, .inr fun u v hu hv => ?_, h5⟩, by simp only; omega⟩
    · obtain ⟨xt, xk, xl, xi, xp, xa⟩ := x
      obtain ⟨yt, yk, yl, yi, yp, ya⟩ := y
      simp only at hc
      simp only [c_slices_symMergeCmpFunc_api_SimEvent_L5, Int.natCast_nonneg, Int.toNat_natCast, List.getElem?_map, Option.map_some, hx, hy, c1, w1, w2, w3, w4, w5, w6, d1, rq, hc, hlt, Evt.r, evts_lo, Go.Ev.exec, Go.Ev.evOpers, Go.Ev.evOper, Go.Ev.item_op, Go.Ev.item_v, Go.Ev.evOp, Go.Ev.evs, Go.Ev.Opnd.ev, Go.Ev.Env.get, Go.Ev.Env.set, Go.Ev.look, Go.Ev.cellsAt, Go.Ev.loadC, Go.Ev.bin_add, Go.Ev.bin_sub, Go.Ev.bin_lss, Go.Ev.settle, Go.Ev.keep, Go.Ev.varsLo, Go.Ev.marksLo, Go.Ev.storeLo, Go.Ev.SObj.lo, Go.Ev.lo_v, Go.Ev.lo_sl, Go.Ev.lo_fn, Go.Ev.los_nil, ↓Go.Ev.obind, Go.Ev.it1, ↓reduceIte, List.length_cons, List.length_nil, List.getElem?_cons_zero, List.take_succ_cons, List.take_nil, List.drop_zero, List.nil_append, List.append_nil, Nat.reduceAdd, Nat.reduceEqDiff, reduceCtorEq, decide_true, decide_false, Bool.and_self, Bool.not_false, and_self, Nat.zero_add, Nat.lt_add_one, Nat.le_refl, eq_self]
    · simp only [Nat.add_sub_cancel] at hu hv
      rw [← hq, hx] at hv; cases hv
      rw [hy] at hu; cases hu; exact leE_of_not x y hlt
end
end Go.Proofs.Ytlcakphdkpdenaa.K

namespace Go.Proofs.Ytlcakphdkpdenaa.K
open Go.Ev
set_option linter.unusedSimpArgs false
set_option linter.unusedVariables false
set_option maxRecDepth 10000
section
variable (g : Nat) (cl : Bool) (n : Nat)
theorem merge_move1 (P S Q : List Evt) (x : Evt) (hn : n = (P ++ x :: (S ++ Q)).length) (hb : n < 2 ^ 61) (a i : Nat) (ha : a = P.length) (hi : i = a + S.length + 1) :
    ∃ y, itB (exec (evL T) itL none c_slices_symMergeCmpFunc_api_SimEvent_L2) (Ev.settle [0, 10, 13] true 1) ⟨[(0, .sl 0 g 0 n cl), (10, (.v (.int .i64 (i)))), (13, (.v (.int .i64 (a))))], []⟩ [.row 6 ((P ++ x :: (S ++ Q)).map Evt.r) g] = some y ∧
      (y.1 = .exit 2 ∧ y.2.1.marks = [] ∧ y.2.2 = [.row 6 ((P ++ (S ++ x :: Q)).map Evt.r) g]) := by
  refine itB_while (τ := List Evt × Nat) (fun s => ⟨[(0, .sl 0 g 0 n cl), (10, (.v (.int .i64 (i)))), (13, (.v (.int .i64 (s.2))))], []⟩) (fun s => [.row 6 ((s.1).map Evt.r) g]) (fun s => i - s.2)
    (fun s => ∃ A B, s.1 = P ++ (A ++ x :: (B ++ Q)) ∧ s.2 = a + A.length ∧ A ++ B = S) _ ?_ (P ++ x :: (S ++ Q), a) ⟨[], S, by simp, rfl, by simp⟩
  rintro ⟨D, k⟩ ⟨A, B, hD, hk, hAB⟩
  simp only at hD hk ⊢
  have hlen : n = P.length + (S.length + (Q.length + 1)) := by rw [hn]; simp; omega
  have hSl : S.length = A.length + B.length := by rw [← hAB]; simp
  obtain ⟨i', hi'⟩ : ∃ i', i' = a + S.length := ⟨_, rfl⟩
  have w1 : IntKind.i64.wrap ((i : Int) - 1) = (i' : Int) := w64_sub1 (by omega) (by omega)
  cases B with
  | nil =>
    have h1 : ¬ (k : Int) < (i' : Int) := by simp at hSl; omega
    right
    simp only [c_slices_symMergeCmpFunc_api_SimEvent_L2, w1, h1, Go.Ev.exec, Go.Ev.evOpers, Go.Ev.evOper, Go.Ev.item_op, Go.Ev.evOp, Go.Ev.Opnd.ev, Go.Ev.Env.get, Go.Ev.Env.set, Go.Ev.look, Go.Ev.bin_sub, Go.Ev.bin_lss, ↓Go.Ev.obind, Go.Ev.it1, ↓reduceIte, Nat.reduceEqDiff, reduceCtorEq, decide_false, Bool.false_eq_true, eq_self]
    refine ⟨_, rfl, rfl, rfl, ?_⟩
    rw [hD, ← hAB]; simp
  | cons y B =>
    rw [List.length_cons] at hSl
    have h1 : (k : Int) < (i' : Int) := by omega
    have e1 : D = (P ++ A) ++ x :: y :: (B ++ Q) := by rw [hD]; simp
    have l1 : k = (P ++ A).length := by simp; omega
    obtain ⟨j, hj⟩ : ∃ j, j = k + 1 := ⟨_, rfl⟩
    have gx : D[k]? = some x := get_mid e1 l1
    have gy : D[j]? = some y := get_mid (L := P ++ A ++ [x]) (M := B ++ Q) (by rw [e1]; simp) (by simp; omega)
    have ge : D.length = n := by rw [e1, hlen]; simp; omega
    have w2 : IntKind.i64.wrap ((k : Int) + 1) = (j : Int) := by rw [hj]; exact w64_add1 (by omega)
    have rj : j < n := by omega
    have rk : k < n := by omega
    have sw := swap_next' e1 l1 hj
    have hne : ¬ (k = j) := by omega
    left
    have hlo := evts_lo 1 ((D.set k y).set j x)
    refine ⟨((D.set k y).set j x, j), ?_, ⟨A ++ [y], B, by rw [sw]; simp, by simp; omega, by rw [← hAB]; simp⟩, by simp only; omega⟩
    obtain ⟨xt, xk, xl, xi, xp, xa⟩ := x
    obtain ⟨yt, yk, yl, yi, yp, ya⟩ := y
    have hs : ∀ v, ((D.map Evt.r).set k v)[j]? = some (Evt.r ⟨yt, yk, yl, yi, yp, ya⟩) := fun v => by rw [List.getElem?_set_ne hne, List.getElem?_map, gy]; rfl
    simp only [List.map_set, Evt.r] at hlo
    simp only [c_slices_symMergeCmpFunc_api_SimEvent_L2, Int.natCast_nonneg, Int.toNat_natCast, List.getElem?_map, Option.map_some, gx, gy, hs, h1, w1, w2, rj, rk, hlo, List.map_set, Evt.r, Go.Ev.exec, Go.Ev.evOpers, Go.Ev.evOper, Go.Ev.item_op, Go.Ev.evOp, Go.Ev.Opnd.ev, Go.Ev.Env.get, Go.Ev.Env.set, Go.Ev.look, Go.Ev.cellsAt, Go.Ev.loadC, Go.Ev.AV.cells, Go.Ev.plains, Go.Ev.AV.plain, Go.Ev.bin_add, Go.Ev.bin_sub, Go.Ev.bin_lss, Go.Ev.settle, Go.Ev.keep, Go.Ev.varsLo, Go.Ev.marksLo, Go.Ev.storeLo, Go.Ev.SObj.lo, Go.Ev.lo_v, Go.Ev.lo_sl, ↓Go.Ev.obind, Go.Ev.it1, ↓reduceIte, List.length_cons, List.length_nil, List.getElem?_cons_zero, List.take_succ_cons, List.take_zero, List.take_nil, List.drop_succ_cons, List.drop_zero, List.drop_nil, List.nil_append, List.append_nil, List.set_cons_zero, Nat.reduceAdd, Nat.reduceEqDiff, reduceCtorEq, decide_true, Bool.and_self, and_self, Nat.zero_add, Nat.lt_add_one, Nat.le_refl, eq_self]
theorem merge_move2 (P S Q : List Evt) (x : Evt) (hn : n = (P ++ (S ++ x :: Q)).length) (hb : n < 2 ^ 61) (m i : Nat) (hi : i = P.length) (hm : m = i + S.length) :
    ∃ y, itB (exec (evL T) itL none c_slices_symMergeCmpFunc_api_SimEvent_L4) (Ev.settle [0, 14, 17] true 1) ⟨[(0, .sl 0 g 0 n cl), (14, (.v (.int .i64 (i)))), (17, (.v (.int .i64 (m))))], []⟩ [.row 6 ((P ++ (S ++ x :: Q)).map Evt.r) g] = some y ∧
      (y.1 = .exit 6 ∧ y.2.1.marks = [] ∧ y.2.2 = [.row 6 ((P ++ x :: (S ++ Q)).map Evt.r) g]) := by
  refine itB_while (τ := List Evt × Nat) (fun s => ⟨[(0, .sl 0 g 0 n cl), (14, (.v (.int .i64 (i)))), (17, (.v (.int .i64 (s.2))))], []⟩) (fun s => [.row 6 ((s.1).map Evt.r) g]) (fun s => s.2)
    (fun s => ∃ A B, s.1 = P ++ (A ++ x :: (B ++ Q)) ∧ s.2 = i + A.length ∧ A ++ B = S) _ ?_ (P ++ (S ++ x :: Q), m) ⟨S, [], by simp, hm, by simp⟩
  rintro ⟨D, j⟩ ⟨A, B, hD, hj, hAB⟩
  simp only at hD hj ⊢
  have hlen : n = P.length + (S.length + (Q.length + 1)) := by rw [hn]; simp
  have hSl : S.length = A.length + B.length := by rw [← hAB]; simp
  rcases List.eq_nil_or_concat A with rfl | ⟨A0, y, rfl⟩
  · have h1 : ¬ (j : Int) > (i : Int) := by simp at hj; omega
    right
    simp only [c_slices_symMergeCmpFunc_api_SimEvent_L4, h1, Go.Ev.exec, Go.Ev.evOpers, Go.Ev.evOper, Go.Ev.item_op, Go.Ev.evOp, Go.Ev.Opnd.ev, Go.Ev.Env.get, Go.Ev.Env.set, Go.Ev.look, Go.Ev.bin_gtr, ↓Go.Ev.obind, Go.Ev.it1, ↓reduceIte, Nat.reduceEqDiff, reduceCtorEq, decide_false, Bool.false_eq_true, eq_self]
    refine ⟨_, rfl, rfl, rfl, ?_⟩
    rw [hD, ← hAB]; simp
  · simp only [List.concat_eq_append, List.length_append, List.length_cons, List.length_nil] at hD hj hSl hAB
    obtain ⟨k, hk1⟩ : ∃ k, k = i + A0.length := ⟨_, rfl⟩
    have hjk : j = k + 1 := by omega
    have h1 : (j : Int) > (i : Int) := by omega
    have e1 : D = (P ++ A0) ++ y :: x :: (B ++ Q) := by rw [hD]; simp
    have l1 : k = (P ++ A0).length := by simp; omega
    have gy : D[k]? = some y := get_mid e1 l1
    have gx : D[j]? = some x := get_mid (L := P ++ A0 ++ [y]) (M := B ++ Q) (by rw [e1]; simp) (by simp; omega)
    have ge : D.length = n := by rw [e1, hlen]; simp; omega
    have ws : IntKind.i64.wrap ((j : Int) - 1) = (k : Int) := w64_sub1 hjk (by omega)
    have rj : j < n := by omega
    have rk : k < n := by omega
    have sw := swap_next e1 l1 hjk
    have hne : ¬ (j = k) := by omega
    left
    have hlo := evts_lo 1 ((D.set j y).set k x)
    refine ⟨((D.set j y).set k x, k), ?_, ⟨A0, y :: B, by rw [sw]; simp, hk1, by rw [← hAB]; simp⟩, by simp only; omega⟩
    obtain ⟨xt, xk, xl, xi, xp, xa⟩ := x
    obtain ⟨yt, yk, yl, yi, yp, ya⟩ := y
    have hs : ∀ v, ((D.map Evt.r).set j v)[k]? = some (Evt.r ⟨yt, yk, yl, yi, yp, ya⟩) := fun v => by rw [List.getElem?_set_ne hne, List.getElem?_map, gy]; rfl
    simp only [List.map_set, Evt.r] at hlo
    simp only [c_slices_symMergeCmpFunc_api_SimEvent_L4, Int.natCast_nonneg, Int.toNat_natCast, List.getElem?_map, Option.map_some, gx, gy, hs, h1, ws, rj, rk, hlo, List.map_set, Evt.r, Go.Ev.exec, Go.Ev.evOpers, Go.Ev.evOper, Go.Ev.item_op, Go.Ev.evOp, Go.Ev.Opnd.ev, Go.Ev.Env.get, Go.Ev.Env.set, Go.Ev.look, Go.Ev.cellsAt, Go.Ev.loadC, Go.Ev.AV.cells, Go.Ev.plains, Go.Ev.AV.plain, Go.Ev.bin_sub, Go.Ev.bin_gtr, Go.Ev.settle, Go.Ev.keep, Go.Ev.varsLo, Go.Ev.marksLo, Go.Ev.storeLo, Go.Ev.SObj.lo, Go.Ev.lo_v, Go.Ev.lo_sl, ↓Go.Ev.obind, Go.Ev.it1, ↓reduceIte, List.length_cons, List.length_nil, List.getElem?_cons_zero, List.take_succ_cons, List.take_zero, List.take_nil, List.drop_succ_cons, List.drop_zero, List.drop_nil, List.nil_append, List.append_nil, List.set_cons_zero, Nat.reduceAdd, Nat.reduceEqDiff, reduceCtorEq, decide_true, Bool.and_self, and_self, Nat.zero_add, Nat.lt_add_one, Nat.le_refl, eq_self]
theorem KeysOk.perm {D E : List Evt} (h : KeysOk D) (p : E.Perm D) : KeysOk E := fun x hx => h x (p.mem_iff.1 hx)
/-- One element before, or behind, those that are sorted. -/
theorem merge_one1 (P Y Q : List Evt) (x : Evt) (hY : Y.Pairwise leE) (hY0 : 0 < Y.length) (hn : n = (P ++ x :: (Y ++ Q)).length) (hb : n < 2 ^ 61) (hk : KeysOk (P ++ x :: (Y ++ Q))) (a m b : Nat) (ha : a = P.length) (hm : m = a + 1) (hbb : b = m + Y.length) :
    ∃ Z : List Evt, Z.Perm (x :: Y) ∧ Z.Pairwise leE ∧ (evL T).call n_slices_symMergeCmpFunc_api_SimEvent [.sl 0 g 0 n cl, (.v (.int .i64 (a))), (.v (.int .i64 (m))), (.v (.int .i64 (b))), (.fn (.func n_evkey_CompareEvents) [] [])] [.row 6 ((P ++ x :: (Y ++ Q)).map Evt.r) g] = some (.tup [], [.row 6 ((P ++ (Z ++ Q)).map Evt.r) g]) := by
  have hlen : n = P.length + (1 + (Y.length + Q.length)) := by rw [hn]; simp; omega
  obtain ⟨⟨y, e, σ⟩, k1, i, k2, k3, k4, k5, k6, k7, k8, k9, k10, k11⟩ := merge_find1 g cl n (P ++ x :: (Y ++ Q)) x hn hb hk a m b (get_mid rfl ha) (by omega) (by omega) (by omega)
  simp only at k1 k2 k3 k4 k5 k6 k7
  subst k2; subst k4
  obtain ⟨Y1, Y2, rfl, hY1⟩ : ∃ Y1 Y2, Y = Y1 ++ Y2 ∧ Y1.length = i - m := ⟨Y.take (i - m), Y.drop (i - m), (List.take_append_drop _ _).symm, by simp; omega⟩
  rw [List.length_append] at hbb hlen hY0
  obtain ⟨⟨y', e', σ'⟩, l1, l2, l3, l4⟩ := merge_move1 g cl n P Y1 (Y2 ++ Q) x (by rw [hlen]; simp; omega) hb a i ha (by omega)
  simp only at l1 l2 l3 l4
  subst l2; subst l4
  rw [List.append_assoc] at hk
  refine ⟨Y1 ++ x :: Y2, List.perm_middle, insert_split leE_trans hY ?_ ?_, ?_⟩
  · intro u hu
    rcases k10 with h | h
    · rw [show Y1 = [] from List.eq_nil_of_length_eq_zero (by omega)] at hu; simp at hu
    · have hlt : Y1.length - 1 < Y1.length := (List.getElem?_eq_some_iff.1 hu).1
      refine h u ?_
      rw [← hu]
      exact get_in (L := P ++ [x]) (X := Y1) (M := Y2 ++ Q) (by simp) hlt (by simp; omega)
  · intro v hv
    rcases k11 with h | h
    · rw [show Y2 = [] from List.eq_nil_of_length_eq_zero (by omega)] at hv; simp at hv
    · have hlt : 0 < Y2.length := (List.getElem?_eq_some_iff.1 hv).1
      refine h v ?_
      rw [← hv]
      exact get_in (L := P ++ x :: Y1) (X := Y2) (M := Q) (by simp) hlt (by simp; omega)
  · have c1 : (m : Int) - (a : Int) = 1 := by omega
    have w1 : IntKind.i64.wrap ((m : Int) - (a : Int)) = 1 := by rw [c1]; exact w64_small (by omega) (by omega)
    rw [List.append_assoc] at k1 ⊢
    rw [evL_code ext_slices_symMergeCmpFunc_api_SimEvent code_slices_symMergeCmpFunc_api_SimEvent]
    simp only [List.append_assoc, List.cons_append]
    simp only [c_slices_symMergeCmpFunc_api_SimEvent, w1, k1, k3, k5, k6, k7, l1, l3, evts_lo, Go.Ev.runFunc, Go.Ev.exec, Go.Ev.evOpers, Go.Ev.evOper, Go.Ev.item_op, Go.Ev.evOp, Go.Ev.Opnd.ev, Go.Ev.Env.get, Go.Ev.Env.set, Go.Ev.look, Go.Ev.argVars, Go.Ev.bin_sub, Go.Ev.bin_eql, Go.Ev.resVals, Go.Ev.resOf, Go.Ev.kill, Go.Ev.leave, Go.Ev.settle, Go.Ev.keep, Go.Ev.varsLo, Go.Ev.marksLo, Go.Ev.storeLo, Go.Ev.SObj.lo, Go.Ev.lo_v, Go.Ev.lo_tup, Go.Ev.lo_sl, Go.Ev.lo_fn, Go.Ev.los_nil, ↓Go.Ev.obind, ↓Go.Ev.itL_itB, ↓reduceIte, List.length_cons, List.length_nil, List.take_succ_cons, List.take_nil, Nat.reduceAdd, Nat.reduceEqDiff, reduceCtorEq, decide_true, Bool.and_self, and_self, Nat.zero_add, Nat.lt_add_one, eq_self]
theorem merge_one2 (P X Q : List Evt) (x : Evt) (hX : X.Pairwise leE) (hX0 : 1 < X.length) (hn : n = (P ++ (X ++ x :: Q)).length) (hb : n < 2 ^ 61) (hk : KeysOk (P ++ (X ++ x :: Q))) (a m b : Nat) (ha : a = P.length) (hm : m = a + X.length) (hbb : b = m + 1) :
    ∃ Z : List Evt, Z.Perm (X ++ [x]) ∧ Z.Pairwise leE ∧ (evL T).call n_slices_symMergeCmpFunc_api_SimEvent [.sl 0 g 0 n cl, (.v (.int .i64 (a))), (.v (.int .i64 (m))), (.v (.int .i64 (b))), (.fn (.func n_evkey_CompareEvents) [] [])] [.row 6 ((P ++ (X ++ x :: Q)).map Evt.r) g] = some (.tup [], [.row 6 ((P ++ (Z ++ Q)).map Evt.r) g]) := by
  have hlen : n = P.length + (X.length + (Q.length + 1)) := by rw [hn]; simp
  obtain ⟨⟨y, e, σ⟩, k1, i, k2, k3, k4, k5, k6, k7, k8, k9, k10, k11⟩ := merge_find2 g cl n (P ++ (X ++ x :: Q)) x hn hb hk a m (get_mid (L := P ++ X) (M := Q) (by simp) (by simp; omega)) (by omega) (by omega)
  simp only at k1 k2 k3 k4 k5 k6 k7
  subst k2; subst k4
  obtain ⟨X1, X2, rfl, hX1⟩ : ∃ X1 X2, X = X1 ++ X2 ∧ X1.length = i - a := ⟨X.take (i - a), X.drop (i - a), (List.take_append_drop _ _).symm, by simp; omega⟩
  rw [List.length_append] at hm hlen hX0
  obtain ⟨⟨y', e', σ'⟩, l1, l2, l3, l4⟩ := merge_move2 g cl n (P ++ X1) X2 Q x (by rw [hlen]; simp; omega) hb m i (by simp; omega) (by omega)
  simp only at l1 l2 l3 l4
  subst l2; subst l4
  refine ⟨X1 ++ x :: X2, ?_, insert_split leE_trans hX ?_ ?_, ?_⟩
  · rw [List.append_assoc]
    exact List.Perm.append_left X1 (List.perm_append_singleton x X2).symm
  · intro u hu
    rcases k10 with h | h
    · rw [show X1 = [] from List.eq_nil_of_length_eq_zero (by omega)] at hu; simp at hu
    · have hlt : X1.length - 1 < X1.length := (List.getElem?_eq_some_iff.1 hu).1
      refine h u ?_
      rw [← hu]
      exact get_in (L := P) (X := X1) (M := X2 ++ x :: Q) (by simp) hlt (by omega)
  · intro v hv
    rcases k11 with h | h
    · rw [show X2 = [] from List.eq_nil_of_length_eq_zero (by omega)] at hv; simp at hv
    · have hlt : 0 < X2.length := (List.getElem?_eq_some_iff.1 hv).1
      refine h v ?_
      rw [← hv]
      exact get_in (L := P ++ X1) (X := X2) (M := x :: Q) (by simp) hlt (by simp; omega)
  · have w1 : IntKind.i64.wrap ((m : Int) - (a : Int)) = ((X1.length + X2.length : Nat) : Int) := w64_sub hm (by omega)
    have h1 : ¬ ((X1.length + X2.length : Nat) : Int) = 1 := by omega
    have w2 : IntKind.i64.wrap ((b : Int) - (m : Int)) = 1 := by rw [show (b : Int) - (m : Int) = 1 by omega]; exact w64_small (by omega) (by omega)
    rw [evL_code ext_slices_symMergeCmpFunc_api_SimEvent code_slices_symMergeCmpFunc_api_SimEvent]
    simp only [List.append_assoc, List.cons_append] at k1 l1 ⊢
    simp only [c_slices_symMergeCmpFunc_api_SimEvent, w1, w2, h1, k1, k3, k5, k6, k7, l1, l3, evts_lo, Go.Ev.runFunc, Go.Ev.exec, Go.Ev.evOpers, Go.Ev.evOper, Go.Ev.item_op, Go.Ev.evOp, Go.Ev.Opnd.ev, Go.Ev.Env.get, Go.Ev.Env.set, Go.Ev.look, Go.Ev.argVars, Go.Ev.bin_sub, Go.Ev.bin_eql, Go.Ev.resVals, Go.Ev.resOf, Go.Ev.kill, Go.Ev.leave, Go.Ev.settle, Go.Ev.keep, Go.Ev.varsLo, Go.Ev.marksLo, Go.Ev.storeLo, Go.Ev.SObj.lo, Go.Ev.lo_v, Go.Ev.lo_tup, Go.Ev.lo_sl, Go.Ev.lo_fn, Go.Ev.los_nil, ↓Go.Ev.obind, ↓Go.Ev.itL_itB, ↓reduceIte, List.length_cons, List.length_nil, List.take_succ_cons, List.take_nil, Nat.reduceAdd, Nat.reduceEqDiff, reduceCtorEq, decide_true, decide_false, Bool.and_self, Bool.false_eq_true, and_self, Nat.zero_add, Nat.lt_add_one, eq_self]
end
end Go.Proofs.Ytlcakphdkpdenaa.K

namespace Go.Proofs.Ytlcakphdkpdenaa.K
open Go.Ev
set_option linter.unusedSimpArgs false
set_option linter.unusedVariables false
set_option maxRecDepth 10000
section
variable (g : Nat) (cl : Bool) (n : Nat)
/-- What a merge of two neighbours is to bring. -/
def MergeTo (a m b : Nat) (D D' : List Evt) : Prop := (evL T).call n_slices_symMergeCmpFunc_api_SimEvent [.sl 0 g 0 n cl, (.v (.int .i64 (a))), (.v (.int .i64 (m))), (.v (.int .i64 (b))), (.fn (.func n_evkey_CompareEvents) [] [])] [.row 6 ((D).map Evt.r) g] = some (.tup [], [.row 6 ((D').map Evt.r) g])
/-- The numbers of a merge. -/
structure Nums (x1 x2 y1 y2 a m b mid nn lo hi p start fin : Nat) : Prop where
  hX1 : 1 < x1 + x2
  hY1 : 1 < y1 + y2
  hb : n < 2 ^ 61
  hmid : mid = (a + b) / 2
  hnn : nn = mid + m
  hp : nn = p + 1
  hfin : nn = start + fin
  hm : m = a + (x1 + x2)
  hbb : b = m + (y1 + y2)
  hbn : b ≤ n
  hst : start = a + x1
  hfi : fin = m + y1
structure Wraps (x1 x2 y1 y2 a m b mid nn p start fin : Nat) : Prop where
  w1 : IntKind.i64.wrap ((m : Int) - (a : Int)) = ((x1 + x2 : Nat) : Int)
  h1 : ¬ ((x1 + x2 : Nat) : Int) = 1
  w2 : IntKind.i64.wrap ((b : Int) - (m : Int)) = ((y1 + y2 : Nat) : Int)
  h2 : ¬ ((y1 + y2 : Nat) : Int) = 1
  w3 : IntKind.i64.wrap ((a : Int) + (b : Int)) = ((a + b : Nat) : Int)
  w4 : IntKind.u64.wrap ((a + b : Nat) : Int) = ((a + b : Nat) : Int)
  w5 : evBin .shr (.v (.int .u64 ((a + b : Nat) : Int))) (.v (.int .u64 1)) = some (.v (.int .u64 (mid : Int)))
  w6 : IntKind.i64.wrap (mid : Int) = (mid : Int)
  w7 : IntKind.i64.wrap ((mid : Int) + (m : Int)) = (nn : Int)
  w8 : IntKind.i64.wrap ((nn : Int) - 1) = (p : Int)
  w9 : IntKind.i64.wrap ((nn : Int) - (start : Int)) = (fin : Int)
  c5 : mid < fin ↔ start < m
  c6 : start < mid ↔ m < fin
theorem Nums.wraps {n x1 x2 y1 y2 a m b mid nn lo hi p start fin : Nat} (N : Nums n x1 x2 y1 y2 a m b mid nn lo hi p start fin) : Wraps x1 x2 y1 y2 a m b mid nn p start fin := by
  obtain ⟨hX1, hY1, hb, hmid, hnn, hp, hfin, hm, hbb, hbn, hst, hfi⟩ := N
  refine ⟨w64_sub hm (by omega), by omega, w64_sub hbb (by omega), by omega, w64_add (by omega), u64_small (by omega), half_bin (a + b) mid hmid, i64_small (by omega), ?_, w64_sub1 hp (by omega), w64_sub hfin (by omega), by omega, by omega⟩
  rw [hnn]; exact w64_add (by omega)
theorem merge_way_11111 (x1 x2 y1 y2 a m b mid nn lo hi p start fin : Nat) (D D2 D3 D4 : List Evt) (N : Nums n x1 x2 y1 y2 a m b mid nn lo hi p start fin) (g1 : mid < m) (g2 : nn = b + lo)
    (d1 : start < m) (d2 : m < fin) (d3 : a < start) (d4 : fin < b)
    (hfind : ∃ y, itB (exec (evL T) itL none c_slices_symMergeCmpFunc_api_SimEvent_L5) (Ev.settle [0, 1, 2, 3, 4, 18, 19, 20, 21, 22] true 1) ⟨[(0, .sl 0 g 0 n cl), (1, (.v (.int .i64 (a)))), (2, (.v (.int .i64 (m)))), (3, (.v (.int .i64 (b)))), (4, (.fn (.func n_evkey_CompareEvents) [] [])), (18, (.v (.int .i64 (mid)))), (19, (.v (.int .i64 (nn)))), (20, (.v (.int .i64 (lo)))), (21, (.v (.int .i64 (mid)))), (22, (.v (.int .i64 (p))))], []⟩ [.row 6 ((D).map Evt.r) g] = some y ∧
      (y.1 = .exit 8 ∧ y.2.1.marks = [] ∧ y.2.2 = [.row 6 ((D).map Evt.r) g] ∧ Ev.look y.2.1.vars 0 = some (.sl 0 g 0 n cl) ∧ Ev.look y.2.1.vars 1 = some (.v (.int .i64 (a))) ∧ Ev.look y.2.1.vars 2 = some (.v (.int .i64 (m))) ∧ Ev.look y.2.1.vars 3 = some (.v (.int .i64 (b))) ∧ Ev.look y.2.1.vars 4 = some (.fn (.func n_evkey_CompareEvents) [] []) ∧ Ev.look y.2.1.vars 18 = some (.v (.int .i64 (mid))) ∧
        Ev.look y.2.1.vars 19 = some (.v (.int .i64 (nn))) ∧ Ev.look y.2.1.vars 20 = some (.v (.int .i64 (start)))))
    (s1 : start < m → m < fin → (evL T).call n_slices_rotateCmpFunc_api_SimEvent [.sl 0 g 0 n cl, (.v (.int .i64 (start))), (.v (.int .i64 (m))), (.v (.int .i64 (fin))), (.fn (.func n_evkey_CompareEvents) [] [])] [.row 6 ((D).map Evt.r) g] = some (.tup [], [.row 6 ((D2).map Evt.r) g])) (n1 : ¬ (start < m ∧ m < fin) → D2 = D)
    (s2 : a < start → start < mid → MergeTo g cl n a start mid D2 D3) (n2 : ¬ (a < start ∧ start < mid) → D3 = D2)
    (s3 : mid < fin → fin < b → MergeTo g cl n mid fin b D3 D4) (n3 : ¬ (mid < fin ∧ fin < b) → D4 = D3) : MergeTo g cl n a m b D D4 := by
  obtain ⟨⟨y, e, σ⟩, k1, k2, k3, k4, k5, k6, k7, k8, k9, k10, k11, k12⟩ := hfind
  obtain ⟨w1, h1, w2, h2, w3, w4, w5, w6, w7, w8, w9, c5, c6⟩ := N.wraps
  simp only at k1 k2 k3 k4 k5 k6 k7 k8 k9 k10 k11 k12
  subst k2; subst k4
  unfold MergeTo at *
  rw [evL_code ext_slices_symMergeCmpFunc_api_SimEvent code_slices_symMergeCmpFunc_api_SimEvent]
  have g4 : (m : Int) > (mid : Int) := Int.ofNat_lt.2 g1
  have g5 : IntKind.i64.wrap ((nn : Int) - (b : Int)) = (lo : Int) := w64_sub g2 (by have := N.hnn; have := N.hmid; have := N.hb; have := N.hbn; have := N.hm; have := N.hbb; omega)
  have e1 : (start : Int) < (m : Int) := Int.ofNat_lt.2 d1
  have e2 : (m : Int) < (fin : Int) := Int.ofNat_lt.2 d2
  have e3 : (a : Int) < (start : Int) := Int.ofNat_lt.2 d3
  have e5 : (mid : Int) < (fin : Int) := Int.ofNat_lt.2 (c5.2 d1)
  have e6 : (start : Int) < (mid : Int) := Int.ofNat_lt.2 (c6.2 d2)
  have e4 : (fin : Int) < (b : Int) := Int.ofNat_lt.2 d4
  have r1 := s1 d1 d2
  have r2 := s2 d3 (c6.2 d2)
  have r3 := s3 (c5.2 d1) d4
  simp only [c_slices_symMergeCmpFunc_api_SimEvent, w1, w2, w3, w4, w5, w6, w7, w8, w9, h1, h2, g4, k1, k3, k5, k6, k7, k8, k9, k10, k11, k12, e1, e2, e3, e5, e6, g5, r1, r2, r3, e4, evts_lo, Go.Ev.runFunc, Go.Ev.exec, Go.Ev.evOpers, Go.Ev.evOper, Go.Ev.item_op, Go.Ev.item_I, Go.Ev.evOp, Go.Ev.evs, Go.Ev.Opnd.ev, Go.Ev.Env.get, Go.Ev.Env.set, Go.Ev.look, Go.Ev.argVars, Go.Ev.bin_add, Go.Ev.bin_sub, Go.Ev.bin_eql, Go.Ev.bin_lss, Go.Ev.bin_gtr, Go.Ev.resVals, Go.Ev.resOf, Go.Ev.kill, Go.Ev.leave, Go.Ev.settle, Go.Ev.keep, Go.Ev.varsLo, Go.Ev.marksLo, Go.Ev.storeLo, Go.Ev.SObj.lo, Go.Ev.lo_v, Go.Ev.lo_tup, Go.Ev.lo_sl, Go.Ev.lo_fn, Go.Ev.los_nil, ↓Go.Ev.obind, ↓Go.Ev.itL_itB, ↓reduceIte, List.length_cons, List.length_nil, List.take_succ_cons, List.take_nil, Nat.reduceAdd, Nat.reduceEqDiff, reduceCtorEq, decide_true, decide_false, Bool.and_self, Bool.false_eq_true, and_self, Nat.zero_add, Nat.lt_add_one, eq_self]
theorem merge_way_11110 (x1 x2 y1 y2 a m b mid nn lo hi p start fin : Nat) (D D2 D3 D4 : List Evt) (N : Nums n x1 x2 y1 y2 a m b mid nn lo hi p start fin) (g1 : mid < m) (g2 : nn = b + lo)
    (d1 : start < m) (d2 : m < fin) (d3 : a < start) (d4 : ¬ fin < b)
    (hfind : ∃ y, itB (exec (evL T) itL none c_slices_symMergeCmpFunc_api_SimEvent_L5) (Ev.settle [0, 1, 2, 3, 4, 18, 19, 20, 21, 22] true 1) ⟨[(0, .sl 0 g 0 n cl), (1, (.v (.int .i64 (a)))), (2, (.v (.int .i64 (m)))), (3, (.v (.int .i64 (b)))), (4, (.fn (.func n_evkey_CompareEvents) [] [])), (18, (.v (.int .i64 (mid)))), (19, (.v (.int .i64 (nn)))), (20, (.v (.int .i64 (lo)))), (21, (.v (.int .i64 (mid)))), (22, (.v (.int .i64 (p))))], []⟩ [.row 6 ((D).map Evt.r) g] = some y ∧
      (y.1 = .exit 8 ∧ y.2.1.marks = [] ∧ y.2.2 = [.row 6 ((D).map Evt.r) g] ∧ Ev.look y.2.1.vars 0 = some (.sl 0 g 0 n cl) ∧ Ev.look y.2.1.vars 1 = some (.v (.int .i64 (a))) ∧ Ev.look y.2.1.vars 2 = some (.v (.int .i64 (m))) ∧ Ev.look y.2.1.vars 3 = some (.v (.int .i64 (b))) ∧ Ev.look y.2.1.vars 4 = some (.fn (.func n_evkey_CompareEvents) [] []) ∧ Ev.look y.2.1.vars 18 = some (.v (.int .i64 (mid))) ∧
        Ev.look y.2.1.vars 19 = some (.v (.int .i64 (nn))) ∧ Ev.look y.2.1.vars 20 = some (.v (.int .i64 (start)))))
    (s1 : start < m → m < fin → (evL T).call n_slices_rotateCmpFunc_api_SimEvent [.sl 0 g 0 n cl, (.v (.int .i64 (start))), (.v (.int .i64 (m))), (.v (.int .i64 (fin))), (.fn (.func n_evkey_CompareEvents) [] [])] [.row 6 ((D).map Evt.r) g] = some (.tup [], [.row 6 ((D2).map Evt.r) g])) (n1 : ¬ (start < m ∧ m < fin) → D2 = D)
    (s2 : a < start → start < mid → MergeTo g cl n a start mid D2 D3) (n2 : ¬ (a < start ∧ start < mid) → D3 = D2)
    (s3 : mid < fin → fin < b → MergeTo g cl n mid fin b D3 D4) (n3 : ¬ (mid < fin ∧ fin < b) → D4 = D3) : MergeTo g cl n a m b D D4 := by
  obtain ⟨⟨y, e, σ⟩, k1, k2, k3, k4, k5, k6, k7, k8, k9, k10, k11, k12⟩ := hfind
  obtain ⟨w1, h1, w2, h2, w3, w4, w5, w6, w7, w8, w9, c5, c6⟩ := N.wraps
  simp only at k1 k2 k3 k4 k5 k6 k7 k8 k9 k10 k11 k12
  subst k2; subst k4
  unfold MergeTo at *
  rw [evL_code ext_slices_symMergeCmpFunc_api_SimEvent code_slices_symMergeCmpFunc_api_SimEvent]
  have g4 : (m : Int) > (mid : Int) := Int.ofNat_lt.2 g1
  have g5 : IntKind.i64.wrap ((nn : Int) - (b : Int)) = (lo : Int) := w64_sub g2 (by have := N.hnn; have := N.hmid; have := N.hb; have := N.hbn; have := N.hm; have := N.hbb; omega)
  have e1 : (start : Int) < (m : Int) := Int.ofNat_lt.2 d1
  have e2 : (m : Int) < (fin : Int) := Int.ofNat_lt.2 d2
  have e3 : (a : Int) < (start : Int) := Int.ofNat_lt.2 d3
  have e5 : (mid : Int) < (fin : Int) := Int.ofNat_lt.2 (c5.2 d1)
  have e6 : (start : Int) < (mid : Int) := Int.ofNat_lt.2 (c6.2 d2)
  have e4 : ¬ (fin : Int) < (b : Int) := fun h => d4 (Int.ofNat_lt.1 h)
  have r1 := s1 d1 d2
  have r2 := s2 d3 (c6.2 d2)
  have r3 := n3 (fun h => d4 h.2); subst r3
  simp only [c_slices_symMergeCmpFunc_api_SimEvent, w1, w2, w3, w4, w5, w6, w7, w8, w9, h1, h2, g4, k1, k3, k5, k6, k7, k8, k9, k10, k11, k12, e1, e2, e3, e5, e6, g5, r1, r2, e4, evts_lo, Go.Ev.runFunc, Go.Ev.exec, Go.Ev.evOpers, Go.Ev.evOper, Go.Ev.item_op, Go.Ev.item_I, Go.Ev.evOp, Go.Ev.evs, Go.Ev.Opnd.ev, Go.Ev.Env.get, Go.Ev.Env.set, Go.Ev.look, Go.Ev.argVars, Go.Ev.bin_add, Go.Ev.bin_sub, Go.Ev.bin_eql, Go.Ev.bin_lss, Go.Ev.bin_gtr, Go.Ev.resVals, Go.Ev.resOf, Go.Ev.kill, Go.Ev.leave, Go.Ev.settle, Go.Ev.keep, Go.Ev.varsLo, Go.Ev.marksLo, Go.Ev.storeLo, Go.Ev.SObj.lo, Go.Ev.lo_v, Go.Ev.lo_tup, Go.Ev.lo_sl, Go.Ev.lo_fn, Go.Ev.los_nil, ↓Go.Ev.obind, ↓Go.Ev.itL_itB, ↓reduceIte, List.length_cons, List.length_nil, List.take_succ_cons, List.take_nil, Nat.reduceAdd, Nat.reduceEqDiff, reduceCtorEq, decide_true, decide_false, Bool.and_self, Bool.false_eq_true, and_self, Nat.zero_add, Nat.lt_add_one, eq_self]
theorem merge_way_11101 (x1 x2 y1 y2 a m b mid nn lo hi p start fin : Nat) (D D2 D3 D4 : List Evt) (N : Nums n x1 x2 y1 y2 a m b mid nn lo hi p start fin) (g1 : mid < m) (g2 : nn = b + lo)
    (d1 : start < m) (d2 : m < fin) (d3 : ¬ a < start) (d4 : fin < b)
    (hfind : ∃ y, itB (exec (evL T) itL none c_slices_symMergeCmpFunc_api_SimEvent_L5) (Ev.settle [0, 1, 2, 3, 4, 18, 19, 20, 21, 22] true 1) ⟨[(0, .sl 0 g 0 n cl), (1, (.v (.int .i64 (a)))), (2, (.v (.int .i64 (m)))), (3, (.v (.int .i64 (b)))), (4, (.fn (.func n_evkey_CompareEvents) [] [])), (18, (.v (.int .i64 (mid)))), (19, (.v (.int .i64 (nn)))), (20, (.v (.int .i64 (lo)))), (21, (.v (.int .i64 (mid)))), (22, (.v (.int .i64 (p))))], []⟩ [.row 6 ((D).map Evt.r) g] = some y ∧
      (y.1 = .exit 8 ∧ y.2.1.marks = [] ∧ y.2.2 = [.row 6 ((D).map Evt.r) g] ∧ Ev.look y.2.1.vars 0 = some (.sl 0 g 0 n cl) ∧ Ev.look y.2.1.vars 1 = some (.v (.int .i64 (a))) ∧ Ev.look y.2.1.vars 2 = some (.v (.int .i64 (m))) ∧ Ev.look y.2.1.vars 3 = some (.v (.int .i64 (b))) ∧ Ev.look y.2.1.vars 4 = some (.fn (.func n_evkey_CompareEvents) [] []) ∧ Ev.look y.2.1.vars 18 = some (.v (.int .i64 (mid))) ∧
        Ev.look y.2.1.vars 19 = some (.v (.int .i64 (nn))) ∧ Ev.look y.2.1.vars 20 = some (.v (.int .i64 (start)))))
    (s1 : start < m → m < fin → (evL T).call n_slices_rotateCmpFunc_api_SimEvent [.sl 0 g 0 n cl, (.v (.int .i64 (start))), (.v (.int .i64 (m))), (.v (.int .i64 (fin))), (.fn (.func n_evkey_CompareEvents) [] [])] [.row 6 ((D).map Evt.r) g] = some (.tup [], [.row 6 ((D2).map Evt.r) g])) (n1 : ¬ (start < m ∧ m < fin) → D2 = D)
    (s2 : a < start → start < mid → MergeTo g cl n a start mid D2 D3) (n2 : ¬ (a < start ∧ start < mid) → D3 = D2)
    (s3 : mid < fin → fin < b → MergeTo g cl n mid fin b D3 D4) (n3 : ¬ (mid < fin ∧ fin < b) → D4 = D3) : MergeTo g cl n a m b D D4 := by
  obtain ⟨⟨y, e, σ⟩, k1, k2, k3, k4, k5, k6, k7, k8, k9, k10, k11, k12⟩ := hfind
  obtain ⟨w1, h1, w2, h2, w3, w4, w5, w6, w7, w8, w9, c5, c6⟩ := N.wraps
  simp only at k1 k2 k3 k4 k5 k6 k7 k8 k9 k10 k11 k12
  subst k2; subst k4
  unfold MergeTo at *
  rw [evL_code ext_slices_symMergeCmpFunc_api_SimEvent code_slices_symMergeCmpFunc_api_SimEvent]
  have g4 : (m : Int) > (mid : Int) := Int.ofNat_lt.2 g1
  have g5 : IntKind.i64.wrap ((nn : Int) - (b : Int)) = (lo : Int) := w64_sub g2 (by have := N.hnn; have := N.hmid; have := N.hb; have := N.hbn; have := N.hm; have := N.hbb; omega)
  have e1 : (start : Int) < (m : Int) := Int.ofNat_lt.2 d1
  have e2 : (m : Int) < (fin : Int) := Int.ofNat_lt.2 d2
  have e3 : ¬ (a : Int) < (start : Int) := fun h => d3 (Int.ofNat_lt.1 h)
  have e5 : (mid : Int) < (fin : Int) := Int.ofNat_lt.2 (c5.2 d1)
  have e6 : (start : Int) < (mid : Int) := Int.ofNat_lt.2 (c6.2 d2)
  have e4 : (fin : Int) < (b : Int) := Int.ofNat_lt.2 d4
  have r1 := s1 d1 d2
  have r2 := n2 (fun h => d3 h.1); subst r2
  have r3 := s3 (c5.2 d1) d4
  simp only [c_slices_symMergeCmpFunc_api_SimEvent, w1, w2, w3, w4, w5, w6, w7, w8, w9, h1, h2, g4, k1, k3, k5, k6, k7, k8, k9, k10, k11, k12, e1, e2, e3, e5, g5, r1, r3, e4, evts_lo, Go.Ev.runFunc, Go.Ev.exec, Go.Ev.evOpers, Go.Ev.evOper, Go.Ev.item_op, Go.Ev.item_I, Go.Ev.evOp, Go.Ev.evs, Go.Ev.Opnd.ev, Go.Ev.Env.get, Go.Ev.Env.set, Go.Ev.Env.unset, Go.Ev.look, Go.Ev.argVars, Go.Ev.bin_add, Go.Ev.bin_sub, Go.Ev.bin_eql, Go.Ev.bin_lss, Go.Ev.bin_gtr, Go.Ev.resVals, Go.Ev.resOf, Go.Ev.kill, Go.Ev.leave, Go.Ev.settle, Go.Ev.keep, Go.Ev.varsLo, Go.Ev.marksLo, Go.Ev.storeLo, Go.Ev.SObj.lo, Go.Ev.lo_v, Go.Ev.lo_tup, Go.Ev.lo_sl, Go.Ev.lo_fn, Go.Ev.los_nil, ↓Go.Ev.obind, ↓Go.Ev.itL_itB, ↓reduceIte, List.length_cons, List.length_nil, List.take_succ_cons, List.take_nil, Nat.reduceAdd, Nat.reduceEqDiff, reduceCtorEq, decide_true, decide_false, Bool.and_self, Bool.false_eq_true, and_self, Nat.zero_add, Nat.lt_add_one, eq_self]
theorem merge_way_11100 (x1 x2 y1 y2 a m b mid nn lo hi p start fin : Nat) (D D2 D3 D4 : List Evt) (N : Nums n x1 x2 y1 y2 a m b mid nn lo hi p start fin) (g1 : mid < m) (g2 : nn = b + lo)
    (d1 : start < m) (d2 : m < fin) (d3 : ¬ a < start) (d4 : ¬ fin < b)
    (hfind : ∃ y, itB (exec (evL T) itL none c_slices_symMergeCmpFunc_api_SimEvent_L5) (Ev.settle [0, 1, 2, 3, 4, 18, 19, 20, 21, 22] true 1) ⟨[(0, .sl 0 g 0 n cl), (1, (.v (.int .i64 (a)))), (2, (.v (.int .i64 (m)))), (3, (.v (.int .i64 (b)))), (4, (.fn (.func n_evkey_CompareEvents) [] [])), (18, (.v (.int .i64 (mid)))), (19, (.v (.int .i64 (nn)))), (20, (.v (.int .i64 (lo)))), (21, (.v (.int .i64 (mid)))), (22, (.v (.int .i64 (p))))], []⟩ [.row 6 ((D).map Evt.r) g] = some y ∧
      (y.1 = .exit 8 ∧ y.2.1.marks = [] ∧ y.2.2 = [.row 6 ((D).map Evt.r) g] ∧ Ev.look y.2.1.vars 0 = some (.sl 0 g 0 n cl) ∧ Ev.look y.2.1.vars 1 = some (.v (.int .i64 (a))) ∧ Ev.look y.2.1.vars 2 = some (.v (.int .i64 (m))) ∧ Ev.look y.2.1.vars 3 = some (.v (.int .i64 (b))) ∧ Ev.look y.2.1.vars 4 = some (.fn (.func n_evkey_CompareEvents) [] []) ∧ Ev.look y.2.1.vars 18 = some (.v (.int .i64 (mid))) ∧
        Ev.look y.2.1.vars 19 = some (.v (.int .i64 (nn))) ∧ Ev.look y.2.1.vars 20 = some (.v (.int .i64 (start)))))
    (s1 : start < m → m < fin → (evL T).call n_slices_rotateCmpFunc_api_SimEvent [.sl 0 g 0 n cl, (.v (.int .i64 (start))), (.v (.int .i64 (m))), (.v (.int .i64 (fin))), (.fn (.func n_evkey_CompareEvents) [] [])] [.row 6 ((D).map Evt.r) g] = some (.tup [], [.row 6 ((D2).map Evt.r) g])) (n1 : ¬ (start < m ∧ m < fin) → D2 = D)
    (s2 : a < start → start < mid → MergeTo g cl n a start mid D2 D3) (n2 : ¬ (a < start ∧ start < mid) → D3 = D2)
    (s3 : mid < fin → fin < b → MergeTo g cl n mid fin b D3 D4) (n3 : ¬ (mid < fin ∧ fin < b) → D4 = D3) : MergeTo g cl n a m b D D4 := by
  obtain ⟨⟨y, e, σ⟩, k1, k2, k3, k4, k5, k6, k7, k8, k9, k10, k11, k12⟩ := hfind
  obtain ⟨w1, h1, w2, h2, w3, w4, w5, w6, w7, w8, w9, c5, c6⟩ := N.wraps
  simp only at k1 k2 k3 k4 k5 k6 k7 k8 k9 k10 k11 k12
  subst k2; subst k4
  unfold MergeTo at *
  rw [evL_code ext_slices_symMergeCmpFunc_api_SimEvent code_slices_symMergeCmpFunc_api_SimEvent]
  have g4 : (m : Int) > (mid : Int) := Int.ofNat_lt.2 g1
  have g5 : IntKind.i64.wrap ((nn : Int) - (b : Int)) = (lo : Int) := w64_sub g2 (by have := N.hnn; have := N.hmid; have := N.hb; have := N.hbn; have := N.hm; have := N.hbb; omega)
  have e1 : (start : Int) < (m : Int) := Int.ofNat_lt.2 d1
  have e2 : (m : Int) < (fin : Int) := Int.ofNat_lt.2 d2
  have e3 : ¬ (a : Int) < (start : Int) := fun h => d3 (Int.ofNat_lt.1 h)
  have e5 : (mid : Int) < (fin : Int) := Int.ofNat_lt.2 (c5.2 d1)
  have e6 : (start : Int) < (mid : Int) := Int.ofNat_lt.2 (c6.2 d2)
  have e4 : ¬ (fin : Int) < (b : Int) := fun h => d4 (Int.ofNat_lt.1 h)
  have r1 := s1 d1 d2
  have r2 := n2 (fun h => d3 h.1); subst r2
  have r3 := n3 (fun h => d4 h.2); subst r3
  simp only [c_slices_symMergeCmpFunc_api_SimEvent, w1, w2, w3, w4, w5, w6, w7, w8, w9, h1, h2, g4, k1, k3, k5, k6, k7, k8, k9, k10, k11, k12, e1, e2, e3, e5, g5, r1, e4, evts_lo, Go.Ev.runFunc, Go.Ev.exec, Go.Ev.evOpers, Go.Ev.evOper, Go.Ev.item_op, Go.Ev.item_I, Go.Ev.evOp, Go.Ev.evs, Go.Ev.Opnd.ev, Go.Ev.Env.get, Go.Ev.Env.set, Go.Ev.Env.unset, Go.Ev.look, Go.Ev.argVars, Go.Ev.bin_add, Go.Ev.bin_sub, Go.Ev.bin_eql, Go.Ev.bin_lss, Go.Ev.bin_gtr, Go.Ev.resVals, Go.Ev.resOf, Go.Ev.kill, Go.Ev.leave, Go.Ev.settle, Go.Ev.keep, Go.Ev.varsLo, Go.Ev.marksLo, Go.Ev.storeLo, Go.Ev.SObj.lo, Go.Ev.lo_v, Go.Ev.lo_tup, Go.Ev.lo_sl, Go.Ev.lo_fn, Go.Ev.los_nil, ↓Go.Ev.obind, ↓Go.Ev.itL_itB, ↓reduceIte, List.length_cons, List.length_nil, List.take_succ_cons, List.take_nil, Nat.reduceAdd, Nat.reduceEqDiff, reduceCtorEq, decide_true, decide_false, Bool.and_self, Bool.false_eq_true, and_self, Nat.zero_add, Nat.lt_add_one, eq_self]
theorem merge_way_11011 (x1 x2 y1 y2 a m b mid nn lo hi p start fin : Nat) (D D2 D3 D4 : List Evt) (N : Nums n x1 x2 y1 y2 a m b mid nn lo hi p start fin) (g1 : mid < m) (g2 : nn = b + lo)
    (d1 : start < m) (d2 : ¬ m < fin) (d3 : a < start) (d4 : fin < b)
    (hfind : ∃ y, itB (exec (evL T) itL none c_slices_symMergeCmpFunc_api_SimEvent_L5) (Ev.settle [0, 1, 2, 3, 4, 18, 19, 20, 21, 22] true 1) ⟨[(0, .sl 0 g 0 n cl), (1, (.v (.int .i64 (a)))), (2, (.v (.int .i64 (m)))), (3, (.v (.int .i64 (b)))), (4, (.fn (.func n_evkey_CompareEvents) [] [])), (18, (.v (.int .i64 (mid)))), (19, (.v (.int .i64 (nn)))), (20, (.v (.int .i64 (lo)))), (21, (.v (.int .i64 (mid)))), (22, (.v (.int .i64 (p))))], []⟩ [.row 6 ((D).map Evt.r) g] = some y ∧
      (y.1 = .exit 8 ∧ y.2.1.marks = [] ∧ y.2.2 = [.row 6 ((D).map Evt.r) g] ∧ Ev.look y.2.1.vars 0 = some (.sl 0 g 0 n cl) ∧ Ev.look y.2.1.vars 1 = some (.v (.int .i64 (a))) ∧ Ev.look y.2.1.vars 2 = some (.v (.int .i64 (m))) ∧ Ev.look y.2.1.vars 3 = some (.v (.int .i64 (b))) ∧ Ev.look y.2.1.vars 4 = some (.fn (.func n_evkey_CompareEvents) [] []) ∧ Ev.look y.2.1.vars 18 = some (.v (.int .i64 (mid))) ∧
        Ev.look y.2.1.vars 19 = some (.v (.int .i64 (nn))) ∧ Ev.look y.2.1.vars 20 = some (.v (.int .i64 (start)))))
    (s1 : start < m → m < fin → (evL T).call n_slices_rotateCmpFunc_api_SimEvent [.sl 0 g 0 n cl, (.v (.int .i64 (start))), (.v (.int .i64 (m))), (.v (.int .i64 (fin))), (.fn (.func n_evkey_CompareEvents) [] [])] [.row 6 ((D).map Evt.r) g] = some (.tup [], [.row 6 ((D2).map Evt.r) g])) (n1 : ¬ (start < m ∧ m < fin) → D2 = D)
    (s2 : a < start → start < mid → MergeTo g cl n a start mid D2 D3) (n2 : ¬ (a < start ∧ start < mid) → D3 = D2)
    (s3 : mid < fin → fin < b → MergeTo g cl n mid fin b D3 D4) (n3 : ¬ (mid < fin ∧ fin < b) → D4 = D3) : MergeTo g cl n a m b D D4 := by
  obtain ⟨⟨y, e, σ⟩, k1, k2, k3, k4, k5, k6, k7, k8, k9, k10, k11, k12⟩ := hfind
  obtain ⟨w1, h1, w2, h2, w3, w4, w5, w6, w7, w8, w9, c5, c6⟩ := N.wraps
  simp only at k1 k2 k3 k4 k5 k6 k7 k8 k9 k10 k11 k12
  subst k2; subst k4
  unfold MergeTo at *
  rw [evL_code ext_slices_symMergeCmpFunc_api_SimEvent code_slices_symMergeCmpFunc_api_SimEvent]
  have g4 : (m : Int) > (mid : Int) := Int.ofNat_lt.2 g1
  have g5 : IntKind.i64.wrap ((nn : Int) - (b : Int)) = (lo : Int) := w64_sub g2 (by have := N.hnn; have := N.hmid; have := N.hb; have := N.hbn; have := N.hm; have := N.hbb; omega)
  have e1 : (start : Int) < (m : Int) := Int.ofNat_lt.2 d1
  have e2 : ¬ (m : Int) < (fin : Int) := fun h => d2 (Int.ofNat_lt.1 h)
  have e3 : (a : Int) < (start : Int) := Int.ofNat_lt.2 d3
  have e5 : (mid : Int) < (fin : Int) := Int.ofNat_lt.2 (c5.2 d1)
  have e6 : ¬ (start : Int) < (mid : Int) := fun h => d2 (c6.1 (Int.ofNat_lt.1 h))
  have e4 : (fin : Int) < (b : Int) := Int.ofNat_lt.2 d4
  have r1 := n1 (fun h => d2 h.2); subst r1
  have r2 := n2 (fun h => d2 (c6.1 h.2)); subst r2
  have r3 := s3 (c5.2 d1) d4
  simp only [c_slices_symMergeCmpFunc_api_SimEvent, w1, w2, w3, w4, w5, w6, w7, w8, w9, h1, h2, g4, k1, k3, k5, k6, k7, k8, k9, k10, k11, k12, e1, e2, e3, e5, e6, g5, r3, e4, evts_lo, Go.Ev.runFunc, Go.Ev.exec, Go.Ev.evOpers, Go.Ev.evOper, Go.Ev.item_op, Go.Ev.item_I, Go.Ev.evOp, Go.Ev.evs, Go.Ev.Opnd.ev, Go.Ev.Env.get, Go.Ev.Env.set, Go.Ev.look, Go.Ev.argVars, Go.Ev.bin_add, Go.Ev.bin_sub, Go.Ev.bin_eql, Go.Ev.bin_lss, Go.Ev.bin_gtr, Go.Ev.resVals, Go.Ev.resOf, Go.Ev.kill, Go.Ev.leave, Go.Ev.settle, Go.Ev.keep, Go.Ev.varsLo, Go.Ev.marksLo, Go.Ev.storeLo, Go.Ev.SObj.lo, Go.Ev.lo_v, Go.Ev.lo_tup, Go.Ev.lo_sl, Go.Ev.lo_fn, Go.Ev.los_nil, ↓Go.Ev.obind, ↓Go.Ev.itL_itB, ↓reduceIte, List.length_cons, List.length_nil, List.take_succ_cons, List.take_nil, Nat.reduceAdd, Nat.reduceEqDiff, reduceCtorEq, decide_true, decide_false, Bool.and_self, Bool.false_eq_true, and_self, Nat.zero_add, Nat.lt_add_one, eq_self]
theorem merge_way_11010 (x1 x2 y1 y2 a m b mid nn lo hi p start fin : Nat) (D D2 D3 D4 : List Evt) (N : Nums n x1 x2 y1 y2 a m b mid nn lo hi p start fin) (g1 : mid < m) (g2 : nn = b + lo)
    (d1 : start < m) (d2 : ¬ m < fin) (d3 : a < start) (d4 : ¬ fin < b)
    (hfind : ∃ y, itB (exec (evL T) itL none c_slices_symMergeCmpFunc_api_SimEvent_L5) (Ev.settle [0, 1, 2, 3, 4, 18, 19, 20, 21, 22] true 1) ⟨[(0, .sl 0 g 0 n cl), (1, (.v (.int .i64 (a)))), (2, (.v (.int .i64 (m)))), (3, (.v (.int .i64 (b)))), (4, (.fn (.func n_evkey_CompareEvents) [] [])), (18, (.v (.int .i64 (mid)))), (19, (.v (.int .i64 (nn)))), (20, (.v (.int .i64 (lo)))), (21, (.v (.int .i64 (mid)))), (22, (.v (.int .i64 (p))))], []⟩ [.row 6 ((D).map Evt.r) g] = some y ∧
      (y.1 = .exit 8 ∧ y.2.1.marks = [] ∧ y.2.2 = [.row 6 ((D).map Evt.r) g] ∧ Ev.look y.2.1.vars 0 = some (.sl 0 g 0 n cl) ∧ Ev.look y.2.1.vars 1 = some (.v (.int .i64 (a))) ∧ Ev.look y.2.1.vars 2 = some (.v (.int .i64 (m))) ∧ Ev.look y.2.1.vars 3 = some (.v (.int .i64 (b))) ∧ Ev.look y.2.1.vars 4 = some (.fn (.func n_evkey_CompareEvents) [] []) ∧ Ev.look y.2.1.vars 18 = some (.v (.int .i64 (mid))) ∧
        Ev.look y.2.1.vars 19 = some (.v (.int .i64 (nn))) ∧ Ev.look y.2.1.vars 20 = some (.v (.int .i64 (start)))))
    (s1 : start < m → m < fin → (evL T).call n_slices_rotateCmpFunc_api_SimEvent [.sl 0 g 0 n cl, (.v (.int .i64 (start))), (.v (.int .i64 (m))), (.v (.int .i64 (fin))), (.fn (.func n_evkey_CompareEvents) [] [])] [.row 6 ((D).map Evt.r) g] = some (.tup [], [.row 6 ((D2).map Evt.r) g])) (n1 : ¬ (start < m ∧ m < fin) → D2 = D)
    (s2 : a < start → start < mid → MergeTo g cl n a start mid D2 D3) (n2 : ¬ (a < start ∧ start < mid) → D3 = D2)
    (s3 : mid < fin → fin < b → MergeTo g cl n mid fin b D3 D4) (n3 : ¬ (mid < fin ∧ fin < b) → D4 = D3) : MergeTo g cl n a m b D D4 := by
  obtain ⟨⟨y, e, σ⟩, k1, k2, k3, k4, k5, k6, k7, k8, k9, k10, k11, k12⟩ := hfind
  obtain ⟨w1, h1, w2, h2, w3, w4, w5, w6, w7, w8, w9, c5, c6⟩ := N.wraps
  simp only at k1 k2 k3 k4 k5 k6 k7 k8 k9 k10 k11 k12
  subst k2; subst k4
  unfold MergeTo at *
  rw [evL_code ext_slices_symMergeCmpFunc_api_SimEvent code_slices_symMergeCmpFunc_api_SimEvent]
  have g4 : (m : Int) > (mid : Int) := Int.ofNat_lt.2 g1
  have g5 : IntKind.i64.wrap ((nn : Int) - (b : Int)) = (lo : Int) := w64_sub g2 (by have := N.hnn; have := N.hmid; have := N.hb; have := N.hbn; have := N.hm; have := N.hbb; omega)
  have e1 : (start : Int) < (m : Int) := Int.ofNat_lt.2 d1
  have e2 : ¬ (m : Int) < (fin : Int) := fun h => d2 (Int.ofNat_lt.1 h)
  have e3 : (a : Int) < (start : Int) := Int.ofNat_lt.2 d3
  have e5 : (mid : Int) < (fin : Int) := Int.ofNat_lt.2 (c5.2 d1)
  have e6 : ¬ (start : Int) < (mid : Int) := fun h => d2 (c6.1 (Int.ofNat_lt.1 h))
  have e4 : ¬ (fin : Int) < (b : Int) := fun h => d4 (Int.ofNat_lt.1 h)
  have r1 := n1 (fun h => d2 h.2); subst r1
  have r2 := n2 (fun h => d2 (c6.1 h.2)); subst r2
  have r3 := n3 (fun h => d4 h.2); subst r3
  simp only [c_slices_symMergeCmpFunc_api_SimEvent, w1, w2, w3, w4, w5, w6, w7, w8, w9, h1, h2, g4, k1, k3, k6, k7, k8, k10, k11, k12, e1, e2, e3, e5, e6, g5, e4, evts_lo, Go.Ev.runFunc, Go.Ev.exec, Go.Ev.evOpers, Go.Ev.evOper, Go.Ev.item_op, Go.Ev.evOp, Go.Ev.Opnd.ev, Go.Ev.Env.get, Go.Ev.Env.set, Go.Ev.look, Go.Ev.argVars, Go.Ev.bin_add, Go.Ev.bin_sub, Go.Ev.bin_eql, Go.Ev.bin_lss, Go.Ev.bin_gtr, Go.Ev.resVals, Go.Ev.resOf, Go.Ev.kill, Go.Ev.leave, Go.Ev.settle, Go.Ev.keep, Go.Ev.varsLo, Go.Ev.marksLo, Go.Ev.storeLo, Go.Ev.SObj.lo, Go.Ev.lo_v, Go.Ev.lo_tup, Go.Ev.lo_sl, Go.Ev.lo_fn, Go.Ev.los_nil, ↓Go.Ev.obind, ↓Go.Ev.itL_itB, ↓reduceIte, List.length_cons, List.length_nil, List.take_succ_cons, List.take_nil, Nat.reduceAdd, Nat.reduceEqDiff, reduceCtorEq, decide_true, decide_false, Bool.and_self, Bool.false_eq_true, and_self, Nat.zero_add, Nat.lt_add_one, eq_self]
theorem merge_way_11001 (x1 x2 y1 y2 a m b mid nn lo hi p start fin : Nat) (D D2 D3 D4 : List Evt) (N : Nums n x1 x2 y1 y2 a m b mid nn lo hi p start fin) (g1 : mid < m) (g2 : nn = b + lo)
    (d1 : start < m) (d2 : ¬ m < fin) (d3 : ¬ a < start) (d4 : fin < b)
    (hfind : ∃ y, itB (exec (evL T) itL none c_slices_symMergeCmpFunc_api_SimEvent_L5) (Ev.settle [0, 1, 2, 3, 4, 18, 19, 20, 21, 22] true 1) ⟨[(0, .sl 0 g 0 n cl), (1, (.v (.int .i64 (a)))), (2, (.v (.int .i64 (m)))), (3, (.v (.int .i64 (b)))), (4, (.fn (.func n_evkey_CompareEvents) [] [])), (18, (.v (.int .i64 (mid)))), (19, (.v (.int .i64 (nn)))), (20, (.v (.int .i64 (lo)))), (21, (.v (.int .i64 (mid)))), (22, (.v (.int .i64 (p))))], []⟩ [.row 6 ((D).map Evt.r) g] = some y ∧
      (y.1 = .exit 8 ∧ y.2.1.marks = [] ∧ y.2.2 = [.row 6 ((D).map Evt.r) g] ∧ Ev.look y.2.1.vars 0 = some (.sl 0 g 0 n cl) ∧ Ev.look y.2.1.vars 1 = some (.v (.int .i64 (a))) ∧ Ev.look y.2.1.vars 2 = some (.v (.int .i64 (m))) ∧ Ev.look y.2.1.vars 3 = some (.v (.int .i64 (b))) ∧ Ev.look y.2.1.vars 4 = some (.fn (.func n_evkey_CompareEvents) [] []) ∧ Ev.look y.2.1.vars 18 = some (.v (.int .i64 (mid))) ∧
        Ev.look y.2.1.vars 19 = some (.v (.int .i64 (nn))) ∧ Ev.look y.2.1.vars 20 = some (.v (.int .i64 (start)))))
    (s1 : start < m → m < fin → (evL T).call n_slices_rotateCmpFunc_api_SimEvent [.sl 0 g 0 n cl, (.v (.int .i64 (start))), (.v (.int .i64 (m))), (.v (.int .i64 (fin))), (.fn (.func n_evkey_CompareEvents) [] [])] [.row 6 ((D).map Evt.r) g] = some (.tup [], [.row 6 ((D2).map Evt.r) g])) (n1 : ¬ (start < m ∧ m < fin) → D2 = D)
    (s2 : a < start → start < mid → MergeTo g cl n a start mid D2 D3) (n2 : ¬ (a < start ∧ start < mid) → D3 = D2)
    (s3 : mid < fin → fin < b → MergeTo g cl n mid fin b D3 D4) (n3 : ¬ (mid < fin ∧ fin < b) → D4 = D3) : MergeTo g cl n a m b D D4 := by
  obtain ⟨⟨y, e, σ⟩, k1, k2, k3, k4, k5, k6, k7, k8, k9, k10, k11, k12⟩ := hfind
  obtain ⟨w1, h1, w2, h2, w3, w4, w5, w6, w7, w8, w9, c5, c6⟩ := N.wraps
  simp only at k1 k2 k3 k4 k5 k6 k7 k8 k9 k10 k11 k12
  subst k2; subst k4
  unfold MergeTo at *
  rw [evL_code ext_slices_symMergeCmpFunc_api_SimEvent code_slices_symMergeCmpFunc_api_SimEvent]
  have g4 : (m : Int) > (mid : Int) := Int.ofNat_lt.2 g1
  have g5 : IntKind.i64.wrap ((nn : Int) - (b : Int)) = (lo : Int) := w64_sub g2 (by have := N.hnn; have := N.hmid; have := N.hb; have := N.hbn; have := N.hm; have := N.hbb; omega)
  have e1 : (start : Int) < (m : Int) := Int.ofNat_lt.2 d1
  have e2 : ¬ (m : Int) < (fin : Int) := fun h => d2 (Int.ofNat_lt.1 h)
  have e3 : ¬ (a : Int) < (start : Int) := fun h => d3 (Int.ofNat_lt.1 h)
  have e5 : (mid : Int) < (fin : Int) := Int.ofNat_lt.2 (c5.2 d1)
  have e6 : ¬ (start : Int) < (mid : Int) := fun h => d2 (c6.1 (Int.ofNat_lt.1 h))
  have e4 : (fin : Int) < (b : Int) := Int.ofNat_lt.2 d4
  have r1 := n1 (fun h => d2 h.2); subst r1
  have r2 := n2 (fun h => d3 h.1); subst r2
  have r3 := s3 (c5.2 d1) d4
  simp only [c_slices_symMergeCmpFunc_api_SimEvent, w1, w2, w3, w4, w5, w6, w7, w8, w9, h1, h2, g4, k1, k3, k5, k6, k7, k8, k9, k10, k11, k12, e1, e2, e3, e5, g5, r3, e4, evts_lo, Go.Ev.runFunc, Go.Ev.exec, Go.Ev.evOpers, Go.Ev.evOper, Go.Ev.item_op, Go.Ev.item_I, Go.Ev.evOp, Go.Ev.evs, Go.Ev.Opnd.ev, Go.Ev.Env.get, Go.Ev.Env.set, Go.Ev.Env.unset, Go.Ev.look, Go.Ev.argVars, Go.Ev.bin_add, Go.Ev.bin_sub, Go.Ev.bin_eql, Go.Ev.bin_lss, Go.Ev.bin_gtr, Go.Ev.resVals, Go.Ev.resOf, Go.Ev.kill, Go.Ev.leave, Go.Ev.settle, Go.Ev.keep, Go.Ev.varsLo, Go.Ev.marksLo, Go.Ev.storeLo, Go.Ev.SObj.lo, Go.Ev.lo_v, Go.Ev.lo_tup, Go.Ev.lo_sl, Go.Ev.lo_fn, Go.Ev.los_nil, ↓Go.Ev.obind, ↓Go.Ev.itL_itB, ↓reduceIte, List.length_cons, List.length_nil, List.take_succ_cons, List.take_nil, Nat.reduceAdd, Nat.reduceEqDiff, reduceCtorEq, decide_true, decide_false, Bool.and_self, Bool.false_eq_true, and_self, Nat.zero_add, Nat.lt_add_one, eq_self]
theorem merge_way_11000 (x1 x2 y1 y2 a m b mid nn lo hi p start fin : Nat) (D D2 D3 D4 : List Evt) (N : Nums n x1 x2 y1 y2 a m b mid nn lo hi p start fin) (g1 : mid < m) (g2 : nn = b + lo)
    (d1 : start < m) (d2 : ¬ m < fin) (d3 : ¬ a < start) (d4 : ¬ fin < b)
    (hfind : ∃ y, itB (exec (evL T) itL none c_slices_symMergeCmpFunc_api_SimEvent_L5) (Ev.settle [0, 1, 2, 3, 4, 18, 19, 20, 21, 22] true 1) ⟨[(0, .sl 0 g 0 n cl), (1, (.v (.int .i64 (a)))), (2, (.v (.int .i64 (m)))), (3, (.v (.int .i64 (b)))), (4, (.fn (.func n_evkey_CompareEvents) [] [])), (18, (.v (.int .i64 (mid)))), (19, (.v (.int .i64 (nn)))), (20, (.v (.int .i64 (lo)))), (21, (.v (.int .i64 (mid)))), (22, (.v (.int .i64 (p))))], []⟩ [.row 6 ((D).map Evt.r) g] = some y ∧
      (y.1 = .exit 8 ∧ y.2.1.marks = [] ∧ y.2.2 = [.row 6 ((D).map Evt.r) g] ∧ Ev.look y.2.1.vars 0 = some (.sl 0 g 0 n cl) ∧ Ev.look y.2.1.vars 1 = some (.v (.int .i64 (a))) ∧ Ev.look y.2.1.vars 2 = some (.v (.int .i64 (m))) ∧ Ev.look y.2.1.vars 3 = some (.v (.int .i64 (b))) ∧ Ev.look y.2.1.vars 4 = some (.fn (.func n_evkey_CompareEvents) [] []) ∧ Ev.look y.2.1.vars 18 = some (.v (.int .i64 (mid))) ∧
        Ev.look y.2.1.vars 19 = some (.v (.int .i64 (nn))) ∧ Ev.look y.2.1.vars 20 = some (.v (.int .i64 (start)))))
    (s1 : start < m → m < fin → (evL T).call n_slices_rotateCmpFunc_api_SimEvent [.sl 0 g 0 n cl, (.v (.int .i64 (start))), (.v (.int .i64 (m))), (.v (.int .i64 (fin))), (.fn (.func n_evkey_CompareEvents) [] [])] [.row 6 ((D).map Evt.r) g] = some (.tup [], [.row 6 ((D2).map Evt.r) g])) (n1 : ¬ (start < m ∧ m < fin) → D2 = D)
    (s2 : a < start → start < mid → MergeTo g cl n a start mid D2 D3) (n2 : ¬ (a < start ∧ start < mid) → D3 = D2)
    (s3 : mid < fin → fin < b → MergeTo g cl n mid fin b D3 D4) (n3 : ¬ (mid < fin ∧ fin < b) → D4 = D3) : MergeTo g cl n a m b D D4 := by
  obtain ⟨⟨y, e, σ⟩, k1, k2, k3, k4, k5, k6, k7, k8, k9, k10, k11, k12⟩ := hfind
  obtain ⟨w1, h1, w2, h2, w3, w4, w5, w6, w7, w8, w9, c5, c6⟩ := N.wraps
  simp only at k1 k2 k3 k4 k5 k6 k7 k8 k9 k10 k11 k12
  subst k2; subst k4
  unfold MergeTo at *
  rw [evL_code ext_slices_symMergeCmpFunc_api_SimEvent code_slices_symMergeCmpFunc_api_SimEvent]
  have g4 : (m : Int) > (mid : Int) := Int.ofNat_lt.2 g1
  have g5 : IntKind.i64.wrap ((nn : Int) - (b : Int)) = (lo : Int) := w64_sub g2 (by have := N.hnn; have := N.hmid; have := N.hb; have := N.hbn; have := N.hm; have := N.hbb; omega)
  have e1 : (start : Int) < (m : Int) := Int.ofNat_lt.2 d1
  have e2 : ¬ (m : Int) < (fin : Int) := fun h => d2 (Int.ofNat_lt.1 h)
  have e3 : ¬ (a : Int) < (start : Int) := fun h => d3 (Int.ofNat_lt.1 h)
  have e5 : (mid : Int) < (fin : Int) := Int.ofNat_lt.2 (c5.2 d1)
  have e6 : ¬ (start : Int) < (mid : Int) := fun h => d2 (c6.1 (Int.ofNat_lt.1 h))
  have e4 : ¬ (fin : Int) < (b : Int) := fun h => d4 (Int.ofNat_lt.1 h)
  have r1 := n1 (fun h => d2 h.2); subst r1
  have r2 := n2 (fun h => d3 h.1); subst r2
  have r3 := n3 (fun h => d4 h.2); subst r3
  simp only [c_slices_symMergeCmpFunc_api_SimEvent, w1, w2, w3, w4, w5, w6, w7, w8, w9, h1, h2, g4, k1, k3, k6, k7, k8, k10, k11, k12, e1, e2, e3, e5, g5, e4, evts_lo, Go.Ev.runFunc, Go.Ev.exec, Go.Ev.evOpers, Go.Ev.evOper, Go.Ev.item_op, Go.Ev.evOp, Go.Ev.Opnd.ev, Go.Ev.Env.get, Go.Ev.Env.set, Go.Ev.Env.unset, Go.Ev.look, Go.Ev.argVars, Go.Ev.bin_add, Go.Ev.bin_sub, Go.Ev.bin_eql, Go.Ev.bin_lss, Go.Ev.bin_gtr, Go.Ev.resVals, Go.Ev.resOf, Go.Ev.kill, Go.Ev.leave, Go.Ev.settle, Go.Ev.keep, Go.Ev.varsLo, Go.Ev.marksLo, Go.Ev.storeLo, Go.Ev.SObj.lo, Go.Ev.lo_v, Go.Ev.lo_tup, Go.Ev.lo_sl, Go.Ev.lo_fn, Go.Ev.los_nil, ↓Go.Ev.obind, ↓Go.Ev.itL_itB, ↓reduceIte, List.length_cons, List.length_nil, List.take_succ_cons, List.take_nil, Nat.reduceAdd, Nat.reduceEqDiff, reduceCtorEq, decide_true, decide_false, Bool.and_self, Bool.false_eq_true, and_self, Nat.zero_add, Nat.lt_add_one, eq_self]
theorem merge_way_10111 (x1 x2 y1 y2 a m b mid nn lo hi p start fin : Nat) (D D2 D3 D4 : List Evt) (N : Nums n x1 x2 y1 y2 a m b mid nn lo hi p start fin) (g1 : mid < m) (g2 : nn = b + lo)
    (d1 : ¬ start < m) (d2 : m < fin) (d3 : a < start) (d4 : fin < b)
    (hfind : ∃ y, itB (exec (evL T) itL none c_slices_symMergeCmpFunc_api_SimEvent_L5) (Ev.settle [0, 1, 2, 3, 4, 18, 19, 20, 21, 22] true 1) ⟨[(0, .sl 0 g 0 n cl), (1, (.v (.int .i64 (a)))), (2, (.v (.int .i64 (m)))), (3, (.v (.int .i64 (b)))), (4, (.fn (.func n_evkey_CompareEvents) [] [])), (18, (.v (.int .i64 (mid)))), (19, (.v (.int .i64 (nn)))), (20, (.v (.int .i64 (lo)))), (21, (.v (.int .i64 (mid)))), (22, (.v (.int .i64 (p))))], []⟩ [.row 6 ((D).map Evt.r) g] = some y ∧
      (y.1 = .exit 8 ∧ y.2.1.marks = [] ∧ y.2.2 = [.row 6 ((D).map Evt.r) g] ∧ Ev.look y.2.1.vars 0 = some (.sl 0 g 0 n cl) ∧ Ev.look y.2.1.vars 1 = some (.v (.int .i64 (a))) ∧ Ev.look y.2.1.vars 2 = some (.v (.int .i64 (m))) ∧ Ev.look y.2.1.vars 3 = some (.v (.int .i64 (b))) ∧ Ev.look y.2.1.vars 4 = some (.fn (.func n_evkey_CompareEvents) [] []) ∧ Ev.look y.2.1.vars 18 = some (.v (.int .i64 (mid))) ∧
        Ev.look y.2.1.vars 19 = some (.v (.int .i64 (nn))) ∧ Ev.look y.2.1.vars 20 = some (.v (.int .i64 (start)))))
    (s1 : start < m → m < fin → (evL T).call n_slices_rotateCmpFunc_api_SimEvent [.sl 0 g 0 n cl, (.v (.int .i64 (start))), (.v (.int .i64 (m))), (.v (.int .i64 (fin))), (.fn (.func n_evkey_CompareEvents) [] [])] [.row 6 ((D).map Evt.r) g] = some (.tup [], [.row 6 ((D2).map Evt.r) g])) (n1 : ¬ (start < m ∧ m < fin) → D2 = D)
    (s2 : a < start → start < mid → MergeTo g cl n a start mid D2 D3) (n2 : ¬ (a < start ∧ start < mid) → D3 = D2)
    (s3 : mid < fin → fin < b → MergeTo g cl n mid fin b D3 D4) (n3 : ¬ (mid < fin ∧ fin < b) → D4 = D3) : MergeTo g cl n a m b D D4 := by
  obtain ⟨⟨y, e, σ⟩, k1, k2, k3, k4, k5, k6, k7, k8, k9, k10, k11, k12⟩ := hfind
  obtain ⟨w1, h1, w2, h2, w3, w4, w5, w6, w7, w8, w9, c5, c6⟩ := N.wraps
  simp only at k1 k2 k3 k4 k5 k6 k7 k8 k9 k10 k11 k12
  subst k2; subst k4
  unfold MergeTo at *
  rw [evL_code ext_slices_symMergeCmpFunc_api_SimEvent code_slices_symMergeCmpFunc_api_SimEvent]
  have g4 : (m : Int) > (mid : Int) := Int.ofNat_lt.2 g1
  have g5 : IntKind.i64.wrap ((nn : Int) - (b : Int)) = (lo : Int) := w64_sub g2 (by have := N.hnn; have := N.hmid; have := N.hb; have := N.hbn; have := N.hm; have := N.hbb; omega)
  have e1 : ¬ (start : Int) < (m : Int) := fun h => d1 (Int.ofNat_lt.1 h)
  have e2 : (m : Int) < (fin : Int) := Int.ofNat_lt.2 d2
  have e3 : (a : Int) < (start : Int) := Int.ofNat_lt.2 d3
  have e5 : ¬ (mid : Int) < (fin : Int) := fun h => d1 (c5.1 (Int.ofNat_lt.1 h))
  have e6 : (start : Int) < (mid : Int) := Int.ofNat_lt.2 (c6.2 d2)
  have e4 : (fin : Int) < (b : Int) := Int.ofNat_lt.2 d4
  have r1 := n1 (fun h => d1 h.1); subst r1
  have r2 := s2 d3 (c6.2 d2)
  have r3 := n3 (fun h => d1 (c5.1 h.1)); subst r3
  simp only [c_slices_symMergeCmpFunc_api_SimEvent, w1, w2, w3, w4, w5, w6, w7, w8, w9, h1, h2, g4, k1, k3, k5, k6, k7, k9, k10, k11, k12, e1, e3, e5, e6, g5, r2, evts_lo, Go.Ev.runFunc, Go.Ev.exec, Go.Ev.evOpers, Go.Ev.evOper, Go.Ev.item_op, Go.Ev.item_I, Go.Ev.evOp, Go.Ev.evs, Go.Ev.Opnd.ev, Go.Ev.Env.get, Go.Ev.Env.set, Go.Ev.Env.unset, Go.Ev.look, Go.Ev.argVars, Go.Ev.bin_add, Go.Ev.bin_sub, Go.Ev.bin_eql, Go.Ev.bin_lss, Go.Ev.bin_gtr, Go.Ev.resVals, Go.Ev.resOf, Go.Ev.kill, Go.Ev.leave, Go.Ev.settle, Go.Ev.keep, Go.Ev.varsLo, Go.Ev.marksLo, Go.Ev.storeLo, Go.Ev.SObj.lo, Go.Ev.lo_v, Go.Ev.lo_tup, Go.Ev.lo_sl, Go.Ev.lo_fn, Go.Ev.los_nil, ↓Go.Ev.obind, ↓Go.Ev.itL_itB, ↓reduceIte, List.length_cons, List.length_nil, List.take_succ_cons, List.take_nil, Nat.reduceAdd, Nat.reduceEqDiff, reduceCtorEq, decide_true, decide_false, Bool.and_self, Bool.false_eq_true, and_self, Nat.zero_add, Nat.lt_add_one, eq_self]
theorem merge_way_10110 (x1 x2 y1 y2 a m b mid nn lo hi p start fin : Nat) (D D2 D3 D4 : List Evt) (N : Nums n x1 x2 y1 y2 a m b mid nn lo hi p start fin) (g1 : mid < m) (g2 : nn = b + lo)
    (d1 : ¬ start < m) (d2 : m < fin) (d3 : a < start) (d4 : ¬ fin < b)
    (hfind : ∃ y, itB (exec (evL T) itL none c_slices_symMergeCmpFunc_api_SimEvent_L5) (Ev.settle [0, 1, 2, 3, 4, 18, 19, 20, 21, 22] true 1) ⟨[(0, .sl 0 g 0 n cl), (1, (.v (.int .i64 (a)))), (2, (.v (.int .i64 (m)))), (3, (.v (.int .i64 (b)))), (4, (.fn (.func n_evkey_CompareEvents) [] [])), (18, (.v (.int .i64 (mid)))), (19, (.v (.int .i64 (nn)))), (20, (.v (.int .i64 (lo)))), (21, (.v (.int .i64 (mid)))), (22, (.v (.int .i64 (p))))], []⟩ [.row 6 ((D).map Evt.r) g] = some y ∧
      (y.1 = .exit 8 ∧ y.2.1.marks = [] ∧ y.2.2 = [.row 6 ((D).map Evt.r) g] ∧ Ev.look y.2.1.vars 0 = some (.sl 0 g 0 n cl) ∧ Ev.look y.2.1.vars 1 = some (.v (.int .i64 (a))) ∧ Ev.look y.2.1.vars 2 = some (.v (.int .i64 (m))) ∧ Ev.look y.2.1.vars 3 = some (.v (.int .i64 (b))) ∧ Ev.look y.2.1.vars 4 = some (.fn (.func n_evkey_CompareEvents) [] []) ∧ Ev.look y.2.1.vars 18 = some (.v (.int .i64 (mid))) ∧
        Ev.look y.2.1.vars 19 = some (.v (.int .i64 (nn))) ∧ Ev.look y.2.1.vars 20 = some (.v (.int .i64 (start)))))
    (s1 : start < m → m < fin → (evL T).call n_slices_rotateCmpFunc_api_SimEvent [.sl 0 g 0 n cl, (.v (.int .i64 (start))), (.v (.int .i64 (m))), (.v (.int .i64 (fin))), (.fn (.func n_evkey_CompareEvents) [] [])] [.row 6 ((D).map Evt.r) g] = some (.tup [], [.row 6 ((D2).map Evt.r) g])) (n1 : ¬ (start < m ∧ m < fin) → D2 = D)
    (s2 : a < start → start < mid → MergeTo g cl n a start mid D2 D3) (n2 : ¬ (a < start ∧ start < mid) → D3 = D2)
    (s3 : mid < fin → fin < b → MergeTo g cl n mid fin b D3 D4) (n3 : ¬ (mid < fin ∧ fin < b) → D4 = D3) : MergeTo g cl n a m b D D4 := by
  obtain ⟨⟨y, e, σ⟩, k1, k2, k3, k4, k5, k6, k7, k8, k9, k10, k11, k12⟩ := hfind
  obtain ⟨w1, h1, w2, h2, w3, w4, w5, w6, w7, w8, w9, c5, c6⟩ := N.wraps
  simp only at k1 k2 k3 k4 k5 k6 k7 k8 k9 k10 k11 k12
  subst k2; subst k4
  unfold MergeTo at *
  rw [evL_code ext_slices_symMergeCmpFunc_api_SimEvent code_slices_symMergeCmpFunc_api_SimEvent]
  have g4 : (m : Int) > (mid : Int) := Int.ofNat_lt.2 g1
  have g5 : IntKind.i64.wrap ((nn : Int) - (b : Int)) = (lo : Int) := w64_sub g2 (by have := N.hnn; have := N.hmid; have := N.hb; have := N.hbn; have := N.hm; have := N.hbb; omega)
  have e1 : ¬ (start : Int) < (m : Int) := fun h => d1 (Int.ofNat_lt.1 h)
  have e2 : (m : Int) < (fin : Int) := Int.ofNat_lt.2 d2
  have e3 : (a : Int) < (start : Int) := Int.ofNat_lt.2 d3
  have e5 : ¬ (mid : Int) < (fin : Int) := fun h => d1 (c5.1 (Int.ofNat_lt.1 h))
  have e6 : (start : Int) < (mid : Int) := Int.ofNat_lt.2 (c6.2 d2)
  have e4 : ¬ (fin : Int) < (b : Int) := fun h => d4 (Int.ofNat_lt.1 h)
  have r1 := n1 (fun h => d1 h.1); subst r1
  have r2 := s2 d3 (c6.2 d2)
  have r3 := n3 (fun h => d1 (c5.1 h.1)); subst r3
  simp only [c_slices_symMergeCmpFunc_api_SimEvent, w1, w2, w3, w4, w5, w6, w7, w8, w9, h1, h2, g4, k1, k3, k5, k6, k7, k9, k10, k11, k12, e1, e3, e5, e6, g5, r2, evts_lo, Go.Ev.runFunc, Go.Ev.exec, Go.Ev.evOpers, Go.Ev.evOper, Go.Ev.item_op, Go.Ev.item_I, Go.Ev.evOp, Go.Ev.evs, Go.Ev.Opnd.ev, Go.Ev.Env.get, Go.Ev.Env.set, Go.Ev.Env.unset, Go.Ev.look, Go.Ev.argVars, Go.Ev.bin_add, Go.Ev.bin_sub, Go.Ev.bin_eql, Go.Ev.bin_lss, Go.Ev.bin_gtr, Go.Ev.resVals, Go.Ev.resOf, Go.Ev.kill, Go.Ev.leave, Go.Ev.settle, Go.Ev.keep, Go.Ev.varsLo, Go.Ev.marksLo, Go.Ev.storeLo, Go.Ev.SObj.lo, Go.Ev.lo_v, Go.Ev.lo_tup, Go.Ev.lo_sl, Go.Ev.lo_fn, Go.Ev.los_nil, ↓Go.Ev.obind, ↓Go.Ev.itL_itB, ↓reduceIte, List.length_cons, List.length_nil, List.take_succ_cons, List.take_nil, Nat.reduceAdd, Nat.reduceEqDiff, reduceCtorEq, decide_true, decide_false, Bool.and_self, Bool.false_eq_true, and_self, Nat.zero_add, Nat.lt_add_one, eq_self]
theorem merge_way_10101 (x1 x2 y1 y2 a m b mid nn lo hi p start fin : Nat) (D D2 D3 D4 : List Evt) (N : Nums n x1 x2 y1 y2 a m b mid nn lo hi p start fin) (g1 : mid < m) (g2 : nn = b + lo)
    (d1 : ¬ start < m) (d2 : m < fin) (d3 : ¬ a < start) (d4 : fin < b)
    (hfind : ∃ y, itB (exec (evL T) itL none c_slices_symMergeCmpFunc_api_SimEvent_L5) (Ev.settle [0, 1, 2, 3, 4, 18, 19, 20, 21, 22] true 1) ⟨[(0, .sl 0 g 0 n cl), (1, (.v (.int .i64 (a)))), (2, (.v (.int .i64 (m)))), (3, (.v (.int .i64 (b)))), (4, (.fn (.func n_evkey_CompareEvents) [] [])), (18, (.v (.int .i64 (mid)))), (19, (.v (.int .i64 (nn)))), (20, (.v (.int .i64 (lo)))), (21, (.v (.int .i64 (mid)))), (22, (.v (.int .i64 (p))))], []⟩ [.row 6 ((D).map Evt.r) g] = some y ∧
      (y.1 = .exit 8 ∧ y.2.1.marks = [] ∧ y.2.2 = [.row 6 ((D).map Evt.r) g] ∧ Ev.look y.2.1.vars 0 = some (.sl 0 g 0 n cl) ∧ Ev.look y.2.1.vars 1 = some (.v (.int .i64 (a))) ∧ Ev.look y.2.1.vars 2 = some (.v (.int .i64 (m))) ∧ Ev.look y.2.1.vars 3 = some (.v (.int .i64 (b))) ∧ Ev.look y.2.1.vars 4 = some (.fn (.func n_evkey_CompareEvents) [] []) ∧ Ev.look y.2.1.vars 18 = some (.v (.int .i64 (mid))) ∧
        Ev.look y.2.1.vars 19 = some (.v (.int .i64 (nn))) ∧ Ev.look y.2.1.vars 20 = some (.v (.int .i64 (start)))))
    (s1 : start < m → m < fin → (evL T).call n_slices_rotateCmpFunc_api_SimEvent [.sl 0 g 0 n cl, (.v (.int .i64 (start))), (.v (.int .i64 (m))), (.v (.int .i64 (fin))), (.fn (.func n_evkey_CompareEvents) [] [])] [.row 6 ((D).map Evt.r) g] = some (.tup [], [.row 6 ((D2).map Evt.r) g])) (n1 : ¬ (start < m ∧ m < fin) → D2 = D)
    (s2 : a < start → start < mid → MergeTo g cl n a start mid D2 D3) (n2 : ¬ (a < start ∧ start < mid) → D3 = D2)
    (s3 : mid < fin → fin < b → MergeTo g cl n mid fin b D3 D4) (n3 : ¬ (mid < fin ∧ fin < b) → D4 = D3) : MergeTo g cl n a m b D D4 := by
  obtain ⟨⟨y, e, σ⟩, k1, k2, k3, k4, k5, k6, k7, k8, k9, k10, k11, k12⟩ := hfind
  obtain ⟨w1, h1, w2, h2, w3, w4, w5, w6, w7, w8, w9, c5, c6⟩ := N.wraps
  simp only at k1 k2 k3 k4 k5 k6 k7 k8 k9 k10 k11 k12
  subst k2; subst k4
  unfold MergeTo at *
  rw [evL_code ext_slices_symMergeCmpFunc_api_SimEvent code_slices_symMergeCmpFunc_api_SimEvent]
  have g4 : (m : Int) > (mid : Int) := Int.ofNat_lt.2 g1
  have g5 : IntKind.i64.wrap ((nn : Int) - (b : Int)) = (lo : Int) := w64_sub g2 (by have := N.hnn; have := N.hmid; have := N.hb; have := N.hbn; have := N.hm; have := N.hbb; omega)
  have e1 : ¬ (start : Int) < (m : Int) := fun h => d1 (Int.ofNat_lt.1 h)
  have e2 : (m : Int) < (fin : Int) := Int.ofNat_lt.2 d2
  have e3 : ¬ (a : Int) < (start : Int) := fun h => d3 (Int.ofNat_lt.1 h)
  have e5 : ¬ (mid : Int) < (fin : Int) := fun h => d1 (c5.1 (Int.ofNat_lt.1 h))
  have e6 : (start : Int) < (mid : Int) := Int.ofNat_lt.2 (c6.2 d2)
  have e4 : (fin : Int) < (b : Int) := Int.ofNat_lt.2 d4
  have r1 := n1 (fun h => d1 h.1); subst r1
  have r2 := n2 (fun h => d3 h.1); subst r2
  have r3 := n3 (fun h => d1 (c5.1 h.1)); subst r3
  simp only [c_slices_symMergeCmpFunc_api_SimEvent, w1, w2, w3, w4, w5, w6, w7, w8, w9, h1, h2, g4, k1, k3, k6, k7, k10, k11, k12, e1, e3, e5, g5, evts_lo, Go.Ev.runFunc, Go.Ev.exec, Go.Ev.evOpers, Go.Ev.evOper, Go.Ev.item_op, Go.Ev.evOp, Go.Ev.Opnd.ev, Go.Ev.Env.get, Go.Ev.Env.set, Go.Ev.Env.unset, Go.Ev.look, Go.Ev.argVars, Go.Ev.bin_add, Go.Ev.bin_sub, Go.Ev.bin_eql, Go.Ev.bin_lss, Go.Ev.bin_gtr, Go.Ev.resVals, Go.Ev.resOf, Go.Ev.kill, Go.Ev.leave, Go.Ev.settle, Go.Ev.keep, Go.Ev.varsLo, Go.Ev.marksLo, Go.Ev.storeLo, Go.Ev.SObj.lo, Go.Ev.lo_v, Go.Ev.lo_tup, Go.Ev.lo_sl, Go.Ev.lo_fn, Go.Ev.los_nil, ↓Go.Ev.obind, ↓Go.Ev.itL_itB, ↓reduceIte, List.length_cons, List.length_nil, List.take_succ_cons, List.take_nil, Nat.reduceAdd, Nat.reduceEqDiff, reduceCtorEq, decide_true, decide_false, Bool.and_self, Bool.false_eq_true, and_self, Nat.zero_add, Nat.lt_add_one, eq_self]
theorem merge_way_10100 (x1 x2 y1 y2 a m b mid nn lo hi p start fin : Nat) (D D2 D3 D4 : List Evt) (N : Nums n x1 x2 y1 y2 a m b mid nn lo hi p start fin) (g1 : mid < m) (g2 : nn = b + lo)
    (d1 : ¬ start < m) (d2 : m < fin) (d3 : ¬ a < start) (d4 : ¬ fin < b)
    (hfind : ∃ y, itB (exec (evL T) itL none c_slices_symMergeCmpFunc_api_SimEvent_L5) (Ev.settle [0, 1, 2, 3, 4, 18, 19, 20, 21, 22] true 1) ⟨[(0, .sl 0 g 0 n cl), (1, (.v (.int .i64 (a)))), (2, (.v (.int .i64 (m)))), (3, (.v (.int .i64 (b)))), (4, (.fn (.func n_evkey_CompareEvents) [] [])), (18, (.v (.int .i64 (mid)))), (19, (.v (.int .i64 (nn)))), (20, (.v (.int .i64 (lo)))), (21, (.v (.int .i64 (mid)))), (22, (.v (.int .i64 (p))))], []⟩ [.row 6 ((D).map Evt.r) g] = some y ∧
      (y.1 = .exit 8 ∧ y.2.1.marks = [] ∧ y.2.2 = [.row 6 ((D).map Evt.r) g] ∧ Ev.look y.2.1.vars 0 = some (.sl 0 g 0 n cl) ∧ Ev.look y.2.1.vars 1 = some (.v (.int .i64 (a))) ∧ Ev.look y.2.1.vars 2 = some (.v (.int .i64 (m))) ∧ Ev.look y.2.1.vars 3 = some (.v (.int .i64 (b))) ∧ Ev.look y.2.1.vars 4 = some (.fn (.func n_evkey_CompareEvents) [] []) ∧ Ev.look y.2.1.vars 18 = some (.v (.int .i64 (mid))) ∧
        Ev.look y.2.1.vars 19 = some (.v (.int .i64 (nn))) ∧ Ev.look y.2.1.vars 20 = some (.v (.int .i64 (start)))))
    (s1 : start < m → m < fin → (evL T).call n_slices_rotateCmpFunc_api_SimEvent [.sl 0 g 0 n cl, (.v (.int .i64 (start))), (.v (.int .i64 (m))), (.v (.int .i64 (fin))), (.fn (.func n_evkey_CompareEvents) [] [])] [.row 6 ((D).map Evt.r) g] = some (.tup [], [.row 6 ((D2).map Evt.r) g])) (n1 : ¬ (start < m ∧ m < fin) → D2 = D)
    (s2 : a < start → start < mid → MergeTo g cl n a start mid D2 D3) (n2 : ¬ (a < start ∧ start < mid) → D3 = D2)
    (s3 : mid < fin → fin < b → MergeTo g cl n mid fin b D3 D4) (n3 : ¬ (mid < fin ∧ fin < b) → D4 = D3) : MergeTo g cl n a m b D D4 := by
  obtain ⟨⟨y, e, σ⟩, k1, k2, k3, k4, k5, k6, k7, k8, k9, k10, k11, k12⟩ := hfind
  obtain ⟨w1, h1, w2, h2, w3, w4, w5, w6, w7, w8, w9, c5, c6⟩ := N.wraps
  simp only at k1 k2 k3 k4 k5 k6 k7 k8 k9 k10 k11 k12
  subst k2; subst k4
  unfold MergeTo at *
  rw [evL_code ext_slices_symMergeCmpFunc_api_SimEvent code_slices_symMergeCmpFunc_api_SimEvent]
  have g4 : (m : Int) > (mid : Int) := Int.ofNat_lt.2 g1
  have g5 : IntKind.i64.wrap ((nn : Int) - (b : Int)) = (lo : Int) := w64_sub g2 (by have := N.hnn; have := N.hmid; have := N.hb; have := N.hbn; have := N.hm; have := N.hbb; omega)
  have e1 : ¬ (start : Int) < (m : Int) := fun h => d1 (Int.ofNat_lt.1 h)
  have e2 : (m : Int) < (fin : Int) := Int.ofNat_lt.2 d2
  have e3 : ¬ (a : Int) < (start : Int) := fun h => d3 (Int.ofNat_lt.1 h)
  have e5 : ¬ (mid : Int) < (fin : Int) := fun h => d1 (c5.1 (Int.ofNat_lt.1 h))
  have e6 : (start : Int) < (mid : Int) := Int.ofNat_lt.2 (c6.2 d2)
  have e4 : ¬ (fin : Int) < (b : Int) := fun h => d4 (Int.ofNat_lt.1 h)
  have r1 := n1 (fun h => d1 h.1); subst r1
  have r2 := n2 (fun h => d3 h.1); subst r2
  have r3 := n3 (fun h => d1 (c5.1 h.1)); subst r3
  simp only [c_slices_symMergeCmpFunc_api_SimEvent, w1, w2, w3, w4, w5, w6, w7, w8, w9, h1, h2, g4, k1, k3, k6, k7, k10, k11, k12, e1, e3, e5, g5, evts_lo, Go.Ev.runFunc, Go.Ev.exec, Go.Ev.evOpers, Go.Ev.evOper, Go.Ev.item_op, Go.Ev.evOp, Go.Ev.Opnd.ev, Go.Ev.Env.get, Go.Ev.Env.set, Go.Ev.Env.unset, Go.Ev.look, Go.Ev.argVars, Go.Ev.bin_add, Go.Ev.bin_sub, Go.Ev.bin_eql, Go.Ev.bin_lss, Go.Ev.bin_gtr, Go.Ev.resVals, Go.Ev.resOf, Go.Ev.kill, Go.Ev.leave, Go.Ev.settle, Go.Ev.keep, Go.Ev.varsLo, Go.Ev.marksLo, Go.Ev.storeLo, Go.Ev.SObj.lo, Go.Ev.lo_v, Go.Ev.lo_tup, Go.Ev.lo_sl, Go.Ev.lo_fn, Go.Ev.los_nil, ↓Go.Ev.obind, ↓Go.Ev.itL_itB, ↓reduceIte, List.length_cons, List.length_nil, List.take_succ_cons, List.take_nil, Nat.reduceAdd, Nat.reduceEqDiff, reduceCtorEq, decide_true, decide_false, Bool.and_self, Bool.false_eq_true, and_self, Nat.zero_add, Nat.lt_add_one, eq_self]
theorem merge_way_10011 (x1 x2 y1 y2 a m b mid nn lo hi p start fin : Nat) (D D2 D3 D4 : List Evt) (N : Nums n x1 x2 y1 y2 a m b mid nn lo hi p start fin) (g1 : mid < m) (g2 : nn = b + lo)
    (d1 : ¬ start < m) (d2 : ¬ m < fin) (d3 : a < start) (d4 : fin < b)
    (hfind : ∃ y, itB (exec (evL T) itL none c_slices_symMergeCmpFunc_api_SimEvent_L5) (Ev.settle [0, 1, 2, 3, 4, 18, 19, 20, 21, 22] true 1) ⟨[(0, .sl 0 g 0 n cl), (1, (.v (.int .i64 (a)))), (2, (.v (.int .i64 (m)))), (3, (.v (.int .i64 (b)))), (4, (.fn (.func n_evkey_CompareEvents) [] [])), (18, (.v (.int .i64 (mid)))), (19, (.v (.int .i64 (nn)))), (20, (.v (.int .i64 (lo)))), (21, (.v (.int .i64 (mid)))), (22, (.v (.int .i64 (p))))], []⟩ [.row 6 ((D).map Evt.r) g] = some y ∧
      (y.1 = .exit 8 ∧ y.2.1.marks = [] ∧ y.2.2 = [.row 6 ((D).map Evt.r) g] ∧ Ev.look y.2.1.vars 0 = some (.sl 0 g 0 n cl) ∧ Ev.look y.2.1.vars 1 = some (.v (.int .i64 (a))) ∧ Ev.look y.2.1.vars 2 = some (.v (.int .i64 (m))) ∧ Ev.look y.2.1.vars 3 = some (.v (.int .i64 (b))) ∧ Ev.look y.2.1.vars 4 = some (.fn (.func n_evkey_CompareEvents) [] []) ∧ Ev.look y.2.1.vars 18 = some (.v (.int .i64 (mid))) ∧
        Ev.look y.2.1.vars 19 = some (.v (.int .i64 (nn))) ∧ Ev.look y.2.1.vars 20 = some (.v (.int .i64 (start)))))
    (s1 : start < m → m < fin → (evL T).call n_slices_rotateCmpFunc_api_SimEvent [.sl 0 g 0 n cl, (.v (.int .i64 (start))), (.v (.int .i64 (m))), (.v (.int .i64 (fin))), (.fn (.func n_evkey_CompareEvents) [] [])] [.row 6 ((D).map Evt.r) g] = some (.tup [], [.row 6 ((D2).map Evt.r) g])) (n1 : ¬ (start < m ∧ m < fin) → D2 = D)
    (s2 : a < start → start < mid → MergeTo g cl n a start mid D2 D3) (n2 : ¬ (a < start ∧ start < mid) → D3 = D2)
    (s3 : mid < fin → fin < b → MergeTo g cl n mid fin b D3 D4) (n3 : ¬ (mid < fin ∧ fin < b) → D4 = D3) : MergeTo g cl n a m b D D4 := by
  obtain ⟨⟨y, e, σ⟩, k1, k2, k3, k4, k5, k6, k7, k8, k9, k10, k11, k12⟩ := hfind
  obtain ⟨w1, h1, w2, h2, w3, w4, w5, w6, w7, w8, w9, c5, c6⟩ := N.wraps
  simp only at k1 k2 k3 k4 k5 k6 k7 k8 k9 k10 k11 k12
  subst k2; subst k4
  unfold MergeTo at *
  rw [evL_code ext_slices_symMergeCmpFunc_api_SimEvent code_slices_symMergeCmpFunc_api_SimEvent]
  have g4 : (m : Int) > (mid : Int) := Int.ofNat_lt.2 g1
  have g5 : IntKind.i64.wrap ((nn : Int) - (b : Int)) = (lo : Int) := w64_sub g2 (by have := N.hnn; have := N.hmid; have := N.hb; have := N.hbn; have := N.hm; have := N.hbb; omega)
  have e1 : ¬ (start : Int) < (m : Int) := fun h => d1 (Int.ofNat_lt.1 h)
  have e2 : ¬ (m : Int) < (fin : Int) := fun h => d2 (Int.ofNat_lt.1 h)
  have e3 : (a : Int) < (start : Int) := Int.ofNat_lt.2 d3
  have e5 : ¬ (mid : Int) < (fin : Int) := fun h => d1 (c5.1 (Int.ofNat_lt.1 h))
  have e6 : ¬ (start : Int) < (mid : Int) := fun h => d2 (c6.1 (Int.ofNat_lt.1 h))
  have e4 : (fin : Int) < (b : Int) := Int.ofNat_lt.2 d4
  have r1 := n1 (fun h => d1 h.1); subst r1
  have r2 := n2 (fun h => d2 (c6.1 h.2)); subst r2
  have r3 := n3 (fun h => d1 (c5.1 h.1)); subst r3
  simp only [c_slices_symMergeCmpFunc_api_SimEvent, w1, w2, w3, w4, w5, w6, w7, w8, w9, h1, h2, g4, k1, k3, k6, k7, k10, k11, k12, e1, e3, e5, e6, g5, evts_lo, Go.Ev.runFunc, Go.Ev.exec, Go.Ev.evOpers, Go.Ev.evOper, Go.Ev.item_op, Go.Ev.evOp, Go.Ev.Opnd.ev, Go.Ev.Env.get, Go.Ev.Env.set, Go.Ev.Env.unset, Go.Ev.look, Go.Ev.argVars, Go.Ev.bin_add, Go.Ev.bin_sub, Go.Ev.bin_eql, Go.Ev.bin_lss, Go.Ev.bin_gtr, Go.Ev.resVals, Go.Ev.resOf, Go.Ev.kill, Go.Ev.leave, Go.Ev.settle, Go.Ev.keep, Go.Ev.varsLo, Go.Ev.marksLo, Go.Ev.storeLo, Go.Ev.SObj.lo, Go.Ev.lo_v, Go.Ev.lo_tup, Go.Ev.lo_sl, Go.Ev.lo_fn, Go.Ev.los_nil, ↓Go.Ev.obind, ↓Go.Ev.itL_itB, ↓reduceIte, List.length_cons, List.length_nil, List.take_succ_cons, List.take_nil, Nat.reduceAdd, Nat.reduceEqDiff, reduceCtorEq, decide_true, decide_false, Bool.and_self, Bool.false_eq_true, and_self, Nat.zero_add, Nat.lt_add_one, eq_self]
theorem merge_way_10010 (x1 x2 y1 y2 a m b mid nn lo hi p start fin : Nat) (D D2 D3 D4 : List Evt) (N : Nums n x1 x2 y1 y2 a m b mid nn lo hi p start fin) (g1 : mid < m) (g2 : nn = b + lo)
    (d1 : ¬ start < m) (d2 : ¬ m < fin) (d3 : a < start) (d4 : ¬ fin < b)
    (hfind : ∃ y, itB (exec (evL T) itL none c_slices_symMergeCmpFunc_api_SimEvent_L5) (Ev.settle [0, 1, 2, 3, 4, 18, 19, 20, 21, 22] true 1) ⟨[(0, .sl 0 g 0 n cl), (1, (.v (.int .i64 (a)))), (2, (.v (.int .i64 (m)))), (3, (.v (.int .i64 (b)))), (4, (.fn (.func n_evkey_CompareEvents) [] [])), (18, (.v (.int .i64 (mid)))), (19, (.v (.int .i64 (nn)))), (20, (.v (.int .i64 (lo)))), (21, (.v (.int .i64 (mid)))), (22, (.v (.int .i64 (p))))], []⟩ [.row 6 ((D).map Evt.r) g] = some y ∧
      (y.1 = .exit 8 ∧ y.2.1.marks = [] ∧ y.2.2 = [.row 6 ((D).map Evt.r) g] ∧ Ev.look y.2.1.vars 0 = some (.sl 0 g 0 n cl) ∧ Ev.look y.2.1.vars 1 = some (.v (.int .i64 (a))) ∧ Ev.look y.2.1.vars 2 = some (.v (.int .i64 (m))) ∧ Ev.look y.2.1.vars 3 = some (.v (.int .i64 (b))) ∧ Ev.look y.2.1.vars 4 = some (.fn (.func n_evkey_CompareEvents) [] []) ∧ Ev.look y.2.1.vars 18 = some (.v (.int .i64 (mid))) ∧
        Ev.look y.2.1.vars 19 = some (.v (.int .i64 (nn))) ∧ Ev.look y.2.1.vars 20 = some (.v (.int .i64 (start)))))
    (s1 : start < m → m < fin → (evL T).call n_slices_rotateCmpFunc_api_SimEvent [.sl 0 g 0 n cl, (.v (.int .i64 (start))), (.v (.int .i64 (m))), (.v (.int .i64 (fin))), (.fn (.func n_evkey_CompareEvents) [] [])] [.row 6 ((D).map Evt.r) g] = some (.tup [], [.row 6 ((D2).map Evt.r) g])) (n1 : ¬ (start < m ∧ m < fin) → D2 = D)
    (s2 : a < start → start < mid → MergeTo g cl n a start mid D2 D3) (n2 : ¬ (a < start ∧ start < mid) → D3 = D2)
    (s3 : mid < fin → fin < b → MergeTo g cl n mid fin b D3 D4) (n3 : ¬ (mid < fin ∧ fin < b) → D4 = D3) : MergeTo g cl n a m b D D4 := by
  obtain ⟨⟨y, e, σ⟩, k1, k2, k3, k4, k5, k6, k7, k8, k9, k10, k11, k12⟩ := hfind
  obtain ⟨w1, h1, w2, h2, w3, w4, w5, w6, w7, w8, w9, c5, c6⟩ := N.wraps
  simp only at k1 k2 k3 k4 k5 k6 k7 k8 k9 k10 k11 k12
  subst k2; subst k4
  unfold MergeTo at *
  rw [evL_code ext_slices_symMergeCmpFunc_api_SimEvent code_slices_symMergeCmpFunc_api_SimEvent]
  have g4 : (m : Int) > (mid : Int) := Int.ofNat_lt.2 g1
  have g5 : IntKind.i64.wrap ((nn : Int) - (b : Int)) = (lo : Int) := w64_sub g2 (by have := N.hnn; have := N.hmid; have := N.hb; have := N.hbn; have := N.hm; have := N.hbb; omega)
  have e1 : ¬ (start : Int) < (m : Int) := fun h => d1 (Int.ofNat_lt.1 h)
  have e2 : ¬ (m : Int) < (fin : Int) := fun h => d2 (Int.ofNat_lt.1 h)
  have e3 : (a : Int) < (start : Int) := Int.ofNat_lt.2 d3
  have e5 : ¬ (mid : Int) < (fin : Int) := fun h => d1 (c5.1 (Int.ofNat_lt.1 h))
  have e6 : ¬ (start : Int) < (mid : Int) := fun h => d2 (c6.1 (Int.ofNat_lt.1 h))
  have e4 : ¬ (fin : Int) < (b : Int) := fun h => d4 (Int.ofNat_lt.1 h)
  have r1 := n1 (fun h => d1 h.1); subst r1
  have r2 := n2 (fun h => d2 (c6.1 h.2)); subst r2
  have r3 := n3 (fun h => d1 (c5.1 h.1)); subst r3
  simp only [c_slices_symMergeCmpFunc_api_SimEvent, w1, w2, w3, w4, w5, w6, w7, w8, w9, h1, h2, g4, k1, k3, k6, k7, k10, k11, k12, e1, e3, e5, e6, g5, evts_lo, Go.Ev.runFunc, Go.Ev.exec, Go.Ev.evOpers, Go.Ev.evOper, Go.Ev.item_op, Go.Ev.evOp, Go.Ev.Opnd.ev, Go.Ev.Env.get, Go.Ev.Env.set, Go.Ev.Env.unset, Go.Ev.look, Go.Ev.argVars, Go.Ev.bin_add, Go.Ev.bin_sub, Go.Ev.bin_eql, Go.Ev.bin_lss, Go.Ev.bin_gtr, Go.Ev.resVals, Go.Ev.resOf, Go.Ev.kill, Go.Ev.leave, Go.Ev.settle, Go.Ev.keep, Go.Ev.varsLo, Go.Ev.marksLo, Go.Ev.storeLo, Go.Ev.SObj.lo, Go.Ev.lo_v, Go.Ev.lo_tup, Go.Ev.lo_sl, Go.Ev.lo_fn, Go.Ev.los_nil, ↓Go.Ev.obind, ↓Go.Ev.itL_itB, ↓reduceIte, List.length_cons, List.length_nil, List.take_succ_cons, List.take_nil, Nat.reduceAdd, Nat.reduceEqDiff, reduceCtorEq, decide_true, decide_false, Bool.and_self, Bool.false_eq_true, and_self, Nat.zero_add, Nat.lt_add_one, eq_self]
theorem merge_way_10001 (x1 x2 y1 y2 a m b mid nn lo hi p start fin : Nat) (D D2 D3 D4 : List Evt) (N : Nums n x1 x2 y1 y2 a m b mid nn lo hi p start fin) (g1 : mid < m) (g2 : nn = b + lo)
    (d1 : ¬ start < m) (d2 : ¬ m < fin) (d3 : ¬ a < start) (d4 : fin < b)
    (hfind : ∃ y, itB (exec (evL T) itL none c_slices_symMergeCmpFunc_api_SimEvent_L5) (Ev.settle [0, 1, 2, 3, 4, 18, 19, 20, 21, 22] true 1) ⟨[(0, .sl 0 g 0 n cl), (1, (.v (.int .i64 (a)))), (2, (.v (.int .i64 (m)))), (3, (.v (.int .i64 (b)))), (4, (.fn (.func n_evkey_CompareEvents) [] [])), (18, (.v (.int .i64 (mid)))), (19, (.v (.int .i64 (nn)))), (20, (.v (.int .i64 (lo)))), (21, (.v (.int .i64 (mid)))), (22, (.v (.int .i64 (p))))], []⟩ [.row 6 ((D).map Evt.r) g] = some y ∧
      (y.1 = .exit 8 ∧ y.2.1.marks = [] ∧ y.2.2 = [.row 6 ((D).map Evt.r) g] ∧ Ev.look y.2.1.vars 0 = some (.sl 0 g 0 n cl) ∧ Ev.look y.2.1.vars 1 = some (.v (.int .i64 (a))) ∧ Ev.look y.2.1.vars 2 = some (.v (.int .i64 (m))) ∧ Ev.look y.2.1.vars 3 = some (.v (.int .i64 (b))) ∧ Ev.look y.2.1.vars 4 = some (.fn (.func n_evkey_CompareEvents) [] []) ∧ Ev.look y.2.1.vars 18 = some (.v (.int .i64 (mid))) ∧
        Ev.look y.2.1.vars 19 = some (.v (.int .i64 (nn))) ∧ Ev.look y.2.1.vars 20 = some (.v (.int .i64 (start)))))
    (s1 : start < m → m < fin → (evL T).call n_slices_rotateCmpFunc_api_SimEvent [.sl 0 g 0 n cl, (.v (.int .i64 (start))), (.v (.int .i64 (m))), (.v (.int .i64 (fin))), (.fn (.func n_evkey_CompareEvents) [] [])] [.row 6 ((D).map Evt.r) g] = some (.tup [], [.row 6 ((D2).map Evt.r) g])) (n1 : ¬ (start < m ∧ m < fin) → D2 = D)
    (s2 : a < start → start < mid → MergeTo g cl n a start mid D2 D3) (n2 : ¬ (a < start ∧ start < mid) → D3 = D2)
    (s3 : mid < fin → fin < b → MergeTo g cl n mid fin b D3 D4) (n3 : ¬ (mid < fin ∧ fin < b) → D4 = D3) : MergeTo g cl n a m b D D4 := by
  obtain ⟨⟨y, e, σ⟩, k1, k2, k3, k4, k5, k6, k7, k8, k9, k10, k11, k12⟩ := hfind
  obtain ⟨w1, h1, w2, h2, w3, w4, w5, w6, w7, w8, w9, c5, c6⟩ := N.wraps
  simp only at k1 k2 k3 k4 k5 k6 k7 k8 k9 k10 k11 k12
  subst k2; subst k4
  unfold MergeTo at *
  rw [evL_code ext_slices_symMergeCmpFunc_api_SimEvent code_slices_symMergeCmpFunc_api_SimEvent]
  have g4 : (m : Int) > (mid : Int) := Int.ofNat_lt.2 g1
  have g5 : IntKind.i64.wrap ((nn : Int) - (b : Int)) = (lo : Int) := w64_sub g2 (by have := N.hnn; have := N.hmid; have := N.hb; have := N.hbn; have := N.hm; have := N.hbb; omega)
  have e1 : ¬ (start : Int) < (m : Int) := fun h => d1 (Int.ofNat_lt.1 h)
  have e2 : ¬ (m : Int) < (fin : Int) := fun h => d2 (Int.ofNat_lt.1 h)
  have e3 : ¬ (a : Int) < (start : Int) := fun h => d3 (Int.ofNat_lt.1 h)
  have e5 : ¬ (mid : Int) < (fin : Int) := fun h => d1 (c5.1 (Int.ofNat_lt.1 h))
  have e6 : ¬ (start : Int) < (mid : Int) := fun h => d2 (c6.1 (Int.ofNat_lt.1 h))
  have e4 : (fin : Int) < (b : Int) := Int.ofNat_lt.2 d4
  have r1 := n1 (fun h => d1 h.1); subst r1
  have r2 := n2 (fun h => d3 h.1); subst r2
  have r3 := n3 (fun h => d1 (c5.1 h.1)); subst r3
  simp only [c_slices_symMergeCmpFunc_api_SimEvent, w1, w2, w3, w4, w5, w6, w7, w8, w9, h1, h2, g4, k1, k3, k6, k7, k10, k11, k12, e1, e3, e5, g5, evts_lo, Go.Ev.runFunc, Go.Ev.exec, Go.Ev.evOpers, Go.Ev.evOper, Go.Ev.item_op, Go.Ev.evOp, Go.Ev.Opnd.ev, Go.Ev.Env.get, Go.Ev.Env.set, Go.Ev.Env.unset, Go.Ev.look, Go.Ev.argVars, Go.Ev.bin_add, Go.Ev.bin_sub, Go.Ev.bin_eql, Go.Ev.bin_lss, Go.Ev.bin_gtr, Go.Ev.resVals, Go.Ev.resOf, Go.Ev.kill, Go.Ev.leave, Go.Ev.settle, Go.Ev.keep, Go.Ev.varsLo, Go.Ev.marksLo, Go.Ev.storeLo, Go.Ev.SObj.lo, Go.Ev.lo_v, Go.Ev.lo_tup, Go.Ev.lo_sl, Go.Ev.lo_fn, Go.Ev.los_nil, ↓Go.Ev.obind, ↓Go.Ev.itL_itB, ↓reduceIte, List.length_cons, List.length_nil, List.take_succ_cons, List.take_nil, Nat.reduceAdd, Nat.reduceEqDiff, reduceCtorEq, decide_true, decide_false, Bool.and_self, Bool.false_eq_true, and_self, Nat.zero_add, Nat.lt_add_one, eq_self]
theorem merge_way_10000 (x1 x2 y1 y2 a m b mid nn lo hi p start fin : Nat) (D D2 D3 D4 : List Evt) (N : Nums n x1 x2 y1 y2 a m b mid nn lo hi p start fin) (g1 : mid < m) (g2 : nn = b + lo)
    (d1 : ¬ start < m) (d2 : ¬ m < fin) (d3 : ¬ a < start) (d4 : ¬ fin < b)
    (hfind : ∃ y, itB (exec (evL T) itL none c_slices_symMergeCmpFunc_api_SimEvent_L5) (Ev.settle [0, 1, 2, 3, 4, 18, 19, 20, 21, 22] true 1) ⟨[(0, .sl 0 g 0 n cl), (1, (.v (.int .i64 (a)))), (2, (.v (.int .i64 (m)))), (3, (.v (.int .i64 (b)))), (4, (.fn (.func n_evkey_CompareEvents) [] [])), (18, (.v (.int .i64 (mid)))), (19, (.v (.int .i64 (nn)))), (20, (.v (.int .i64 (lo)))), (21, (.v (.int .i64 (mid)))), (22, (.v (.int .i64 (p))))], []⟩ [.row 6 ((D).map Evt.r) g] = some y ∧
      (y.1 = .exit 8 ∧ y.2.1.marks = [] ∧ y.2.2 = [.row 6 ((D).map Evt.r) g] ∧ Ev.look y.2.1.vars 0 = some (.sl 0 g 0 n cl) ∧ Ev.look y.2.1.vars 1 = some (.v (.int .i64 (a))) ∧ Ev.look y.2.1.vars 2 = some (.v (.int .i64 (m))) ∧ Ev.look y.2.1.vars 3 = some (.v (.int .i64 (b))) ∧ Ev.look y.2.1.vars 4 = some (.fn (.func n_evkey_CompareEvents) [] []) ∧ Ev.look y.2.1.vars 18 = some (.v (.int .i64 (mid))) ∧
        Ev.look y.2.1.vars 19 = some (.v (.int .i64 (nn))) ∧ Ev.look y.2.1.vars 20 = some (.v (.int .i64 (start)))))
    (s1 : start < m → m < fin → (evL T).call n_slices_rotateCmpFunc_api_SimEvent [.sl 0 g 0 n cl, (.v (.int .i64 (start))), (.v (.int .i64 (m))), (.v (.int .i64 (fin))), (.fn (.func n_evkey_CompareEvents) [] [])] [.row 6 ((D).map Evt.r) g] = some (.tup [], [.row 6 ((D2).map Evt.r) g])) (n1 : ¬ (start < m ∧ m < fin) → D2 = D)
    (s2 : a < start → start < mid → MergeTo g cl n a start mid D2 D3) (n2 : ¬ (a < start ∧ start < mid) → D3 = D2)
    (s3 : mid < fin → fin < b → MergeTo g cl n mid fin b D3 D4) (n3 : ¬ (mid < fin ∧ fin < b) → D4 = D3) : MergeTo g cl n a m b D D4 := by
  obtain ⟨⟨y, e, σ⟩, k1, k2, k3, k4, k5, k6, k7, k8, k9, k10, k11, k12⟩ := hfind
  obtain ⟨w1, h1, w2, h2, w3, w4, w5, w6, w7, w8, w9, c5, c6⟩ := N.wraps
  simp only at k1 k2 k3 k4 k5 k6 k7 k8 k9 k10 k11 k12
  subst k2; subst k4
  unfold MergeTo at *
  rw [evL_code ext_slices_symMergeCmpFunc_api_SimEvent code_slices_symMergeCmpFunc_api_SimEvent]
  have g4 : (m : Int) > (mid : Int) := Int.ofNat_lt.2 g1
  have g5 : IntKind.i64.wrap ((nn : Int) - (b : Int)) = (lo : Int) := w64_sub g2 (by have := N.hnn; have := N.hmid; have := N.hb; have := N.hbn; have := N.hm; have := N.hbb; omega)
  have e1 : ¬ (start : Int) < (m : Int) := fun h => d1 (Int.ofNat_lt.1 h)
  have e2 : ¬ (m : Int) < (fin : Int) := fun h => d2 (Int.ofNat_lt.1 h)
  have e3 : ¬ (a : Int) < (start : Int) := fun h => d3 (Int.ofNat_lt.1 h)
  have e5 : ¬ (mid : Int) < (fin : Int) := fun h => d1 (c5.1 (Int.ofNat_lt.1 h))
  have e6 : ¬ (start : Int) < (mid : Int) := fun h => d2 (c6.1 (Int.ofNat_lt.1 h))
  have e4 : ¬ (fin : Int) < (b : Int) := fun h => d4 (Int.ofNat_lt.1 h)
  have r1 := n1 (fun h => d1 h.1); subst r1
  have r2 := n2 (fun h => d3 h.1); subst r2
  have r3 := n3 (fun h => d1 (c5.1 h.1)); subst r3
  simp only [c_slices_symMergeCmpFunc_api_SimEvent, w1, w2, w3, w4, w5, w6, w7, w8, w9, h1, h2, g4, k1, k3, k6, k7, k10, k11, k12, e1, e3, e5, g5, evts_lo, Go.Ev.runFunc, Go.Ev.exec, Go.Ev.evOpers, Go.Ev.evOper, Go.Ev.item_op, Go.Ev.evOp, Go.Ev.Opnd.ev, Go.Ev.Env.get, Go.Ev.Env.set, Go.Ev.Env.unset, Go.Ev.look, Go.Ev.argVars, Go.Ev.bin_add, Go.Ev.bin_sub, Go.Ev.bin_eql, Go.Ev.bin_lss, Go.Ev.bin_gtr, Go.Ev.resVals, Go.Ev.resOf, Go.Ev.kill, Go.Ev.leave, Go.Ev.settle, Go.Ev.keep, Go.Ev.varsLo, Go.Ev.marksLo, Go.Ev.storeLo, Go.Ev.SObj.lo, Go.Ev.lo_v, Go.Ev.lo_tup, Go.Ev.lo_sl, Go.Ev.lo_fn, Go.Ev.los_nil, ↓Go.Ev.obind, ↓Go.Ev.itL_itB, ↓reduceIte, List.length_cons, List.length_nil, List.take_succ_cons, List.take_nil, Nat.reduceAdd, Nat.reduceEqDiff, reduceCtorEq, decide_true, decide_false, Bool.and_self, Bool.false_eq_true, and_self, Nat.zero_add, Nat.lt_add_one, eq_self]
theorem merge_way_01111 (x1 x2 y1 y2 a m b mid nn lo hi p start fin : Nat) (D D2 D3 D4 : List Evt) (N : Nums n x1 x2 y1 y2 a m b mid nn lo hi p start fin) (g1 : ¬ mid < m)
    (d1 : start < m) (d2 : m < fin) (d3 : a < start) (d4 : fin < b)
    (hfind : ∃ y, itB (exec (evL T) itL none c_slices_symMergeCmpFunc_api_SimEvent_L5) (Ev.settle [0, 1, 2, 3, 4, 18, 19, 20, 21, 22] true 1) ⟨[(0, .sl 0 g 0 n cl), (1, (.v (.int .i64 (a)))), (2, (.v (.int .i64 (m)))), (3, (.v (.int .i64 (b)))), (4, (.fn (.func n_evkey_CompareEvents) [] [])), (18, (.v (.int .i64 (mid)))), (19, (.v (.int .i64 (nn)))), (20, (.v (.int .i64 (a)))), (21, (.v (.int .i64 (m)))), (22, (.v (.int .i64 (p))))], []⟩ [.row 6 ((D).map Evt.r) g] = some y ∧
      (y.1 = .exit 8 ∧ y.2.1.marks = [] ∧ y.2.2 = [.row 6 ((D).map Evt.r) g] ∧ Ev.look y.2.1.vars 0 = some (.sl 0 g 0 n cl) ∧ Ev.look y.2.1.vars 1 = some (.v (.int .i64 (a))) ∧ Ev.look y.2.1.vars 2 = some (.v (.int .i64 (m))) ∧ Ev.look y.2.1.vars 3 = some (.v (.int .i64 (b))) ∧ Ev.look y.2.1.vars 4 = some (.fn (.func n_evkey_CompareEvents) [] []) ∧ Ev.look y.2.1.vars 18 = some (.v (.int .i64 (mid))) ∧
        Ev.look y.2.1.vars 19 = some (.v (.int .i64 (nn))) ∧ Ev.look y.2.1.vars 20 = some (.v (.int .i64 (start)))))
    (s1 : start < m → m < fin → (evL T).call n_slices_rotateCmpFunc_api_SimEvent [.sl 0 g 0 n cl, (.v (.int .i64 (start))), (.v (.int .i64 (m))), (.v (.int .i64 (fin))), (.fn (.func n_evkey_CompareEvents) [] [])] [.row 6 ((D).map Evt.r) g] = some (.tup [], [.row 6 ((D2).map Evt.r) g])) (n1 : ¬ (start < m ∧ m < fin) → D2 = D)
    (s2 : a < start → start < mid → MergeTo g cl n a start mid D2 D3) (n2 : ¬ (a < start ∧ start < mid) → D3 = D2)
    (s3 : mid < fin → fin < b → MergeTo g cl n mid fin b D3 D4) (n3 : ¬ (mid < fin ∧ fin < b) → D4 = D3) : MergeTo g cl n a m b D D4 := by
  obtain ⟨⟨y, e, σ⟩, k1, k2, k3, k4, k5, k6, k7, k8, k9, k10, k11, k12⟩ := hfind
  obtain ⟨w1, h1, w2, h2, w3, w4, w5, w6, w7, w8, w9, c5, c6⟩ := N.wraps
  simp only at k1 k2 k3 k4 k5 k6 k7 k8 k9 k10 k11 k12
  subst k2; subst k4
  unfold MergeTo at *
  rw [evL_code ext_slices_symMergeCmpFunc_api_SimEvent code_slices_symMergeCmpFunc_api_SimEvent]
  have g4 : ¬ (m : Int) > (mid : Int) := fun h => g1 (Int.ofNat_lt.1 h)
  have e1 : (start : Int) < (m : Int) := Int.ofNat_lt.2 d1
  have e2 : (m : Int) < (fin : Int) := Int.ofNat_lt.2 d2
  have e3 : (a : Int) < (start : Int) := Int.ofNat_lt.2 d3
  have e5 : (mid : Int) < (fin : Int) := Int.ofNat_lt.2 (c5.2 d1)
  have e6 : (start : Int) < (mid : Int) := Int.ofNat_lt.2 (c6.2 d2)
  have e4 : (fin : Int) < (b : Int) := Int.ofNat_lt.2 d4
  have r1 := s1 d1 d2
  have r2 := s2 d3 (c6.2 d2)
  have r3 := s3 (c5.2 d1) d4
  simp only [c_slices_symMergeCmpFunc_api_SimEvent, w1, w2, w3, w4, w5, w6, w7, w8, w9, h1, h2, g4, k1, k3, k5, k6, k7, k8, k9, k10, k11, k12, e1, e2, e3, e5, e6, r1, r2, r3, e4, evts_lo, Go.Ev.runFunc, Go.Ev.exec, Go.Ev.evOpers, Go.Ev.evOper, Go.Ev.item_op, Go.Ev.item_I, Go.Ev.evOp, Go.Ev.evs, Go.Ev.Opnd.ev, Go.Ev.Env.get, Go.Ev.Env.set, Go.Ev.look, Go.Ev.argVars, Go.Ev.bin_add, Go.Ev.bin_sub, Go.Ev.bin_eql, Go.Ev.bin_lss, Go.Ev.bin_gtr, Go.Ev.resVals, Go.Ev.resOf, Go.Ev.kill, Go.Ev.leave, Go.Ev.settle, Go.Ev.keep, Go.Ev.varsLo, Go.Ev.marksLo, Go.Ev.storeLo, Go.Ev.SObj.lo, Go.Ev.lo_v, Go.Ev.lo_tup, Go.Ev.lo_sl, Go.Ev.lo_fn, Go.Ev.los_nil, ↓Go.Ev.obind, ↓Go.Ev.itL_itB, ↓reduceIte, List.length_cons, List.length_nil, List.take_succ_cons, List.take_nil, Nat.reduceAdd, Nat.reduceEqDiff, reduceCtorEq, decide_true, decide_false, Bool.and_self, Bool.false_eq_true, and_self, Nat.zero_add, Nat.lt_add_one, eq_self]
theorem merge_way_01110 (x1 x2 y1 y2 a m b mid nn lo hi p start fin : Nat) (D D2 D3 D4 : List Evt) (N : Nums n x1 x2 y1 y2 a m b mid nn lo hi p start fin) (g1 : ¬ mid < m)
    (d1 : start < m) (d2 : m < fin) (d3 : a < start) (d4 : ¬ fin < b)
    (hfind : ∃ y, itB (exec (evL T) itL none c_slices_symMergeCmpFunc_api_SimEvent_L5) (Ev.settle [0, 1, 2, 3, 4, 18, 19, 20, 21, 22] true 1) ⟨[(0, .sl 0 g 0 n cl), (1, (.v (.int .i64 (a)))), (2, (.v (.int .i64 (m)))), (3, (.v (.int .i64 (b)))), (4, (.fn (.func n_evkey_CompareEvents) [] [])), (18, (.v (.int .i64 (mid)))), (19, (.v (.int .i64 (nn)))), (20, (.v (.int .i64 (a)))), (21, (.v (.int .i64 (m)))), (22, (.v (.int .i64 (p))))], []⟩ [.row 6 ((D).map Evt.r) g] = some y ∧
      (y.1 = .exit 8 ∧ y.2.1.marks = [] ∧ y.2.2 = [.row 6 ((D).map Evt.r) g] ∧ Ev.look y.2.1.vars 0 = some (.sl 0 g 0 n cl) ∧ Ev.look y.2.1.vars 1 = some (.v (.int .i64 (a))) ∧ Ev.look y.2.1.vars 2 = some (.v (.int .i64 (m))) ∧ Ev.look y.2.1.vars 3 = some (.v (.int .i64 (b))) ∧ Ev.look y.2.1.vars 4 = some (.fn (.func n_evkey_CompareEvents) [] []) ∧ Ev.look y.2.1.vars 18 = some (.v (.int .i64 (mid))) ∧
        Ev.look y.2.1.vars 19 = some (.v (.int .i64 (nn))) ∧ Ev.look y.2.1.vars 20 = some (.v (.int .i64 (start)))))
    (s1 : start < m → m < fin → (evL T).call n_slices_rotateCmpFunc_api_SimEvent [.sl 0 g 0 n cl, (.v (.int .i64 (start))), (.v (.int .i64 (m))), (.v (.int .i64 (fin))), (.fn (.func n_evkey_CompareEvents) [] [])] [.row 6 ((D).map Evt.r) g] = some (.tup [], [.row 6 ((D2).map Evt.r) g])) (n1 : ¬ (start < m ∧ m < fin) → D2 = D)
    (s2 : a < start → start < mid → MergeTo g cl n a start mid D2 D3) (n2 : ¬ (a < start ∧ start < mid) → D3 = D2)
    (s3 : mid < fin → fin < b → MergeTo g cl n mid fin b D3 D4) (n3 : ¬ (mid < fin ∧ fin < b) → D4 = D3) : MergeTo g cl n a m b D D4 := by
  obtain ⟨⟨y, e, σ⟩, k1, k2, k3, k4, k5, k6, k7, k8, k9, k10, k11, k12⟩ := hfind
  obtain ⟨w1, h1, w2, h2, w3, w4, w5, w6, w7, w8, w9, c5, c6⟩ := N.wraps
  simp only at k1 k2 k3 k4 k5 k6 k7 k8 k9 k10 k11 k12
  subst k2; subst k4
  unfold MergeTo at *
  rw [evL_code ext_slices_symMergeCmpFunc_api_SimEvent code_slices_symMergeCmpFunc_api_SimEvent]
  have g4 : ¬ (m : Int) > (mid : Int) := fun h => g1 (Int.ofNat_lt.1 h)
  have e1 : (start : Int) < (m : Int) := Int.ofNat_lt.2 d1
  have e2 : (m : Int) < (fin : Int) := Int.ofNat_lt.2 d2
  have e3 : (a : Int) < (start : Int) := Int.ofNat_lt.2 d3
  have e5 : (mid : Int) < (fin : Int) := Int.ofNat_lt.2 (c5.2 d1)
  have e6 : (start : Int) < (mid : Int) := Int.ofNat_lt.2 (c6.2 d2)
  have e4 : ¬ (fin : Int) < (b : Int) := fun h => d4 (Int.ofNat_lt.1 h)
  have r1 := s1 d1 d2
  have r2 := s2 d3 (c6.2 d2)
  have r3 := n3 (fun h => d4 h.2); subst r3
  simp only [c_slices_symMergeCmpFunc_api_SimEvent, w1, w2, w3, w4, w5, w6, w7, w8, w9, h1, h2, g4, k1, k3, k5, k6, k7, k8, k9, k10, k11, k12, e1, e2, e3, e5, e6, r1, r2, e4, evts_lo, Go.Ev.runFunc, Go.Ev.exec, Go.Ev.evOpers, Go.Ev.evOper, Go.Ev.item_op, Go.Ev.item_I, Go.Ev.evOp, Go.Ev.evs, Go.Ev.Opnd.ev, Go.Ev.Env.get, Go.Ev.Env.set, Go.Ev.look, Go.Ev.argVars, Go.Ev.bin_add, Go.Ev.bin_sub, Go.Ev.bin_eql, Go.Ev.bin_lss, Go.Ev.bin_gtr, Go.Ev.resVals, Go.Ev.resOf, Go.Ev.kill, Go.Ev.leave, Go.Ev.settle, Go.Ev.keep, Go.Ev.varsLo, Go.Ev.marksLo, Go.Ev.storeLo, Go.Ev.SObj.lo, Go.Ev.lo_v, Go.Ev.lo_tup, Go.Ev.lo_sl, Go.Ev.lo_fn, Go.Ev.los_nil, ↓Go.Ev.obind, ↓Go.Ev.itL_itB, ↓reduceIte, List.length_cons, List.length_nil, List.take_succ_cons, List.take_nil, Nat.reduceAdd, Nat.reduceEqDiff, reduceCtorEq, decide_true, decide_false, Bool.and_self, Bool.false_eq_true, and_self, Nat.zero_add, Nat.lt_add_one, eq_self]
theorem merge_way_01101 (x1 x2 y1 y2 a m b mid nn lo hi p start fin : Nat) (D D2 D3 D4 : List Evt) (N : Nums n x1 x2 y1 y2 a m b mid nn lo hi p start fin) (g1 : ¬ mid < m)
    (d1 : start < m) (d2 : m < fin) (d3 : ¬ a < start) (d4 : fin < b)
    (hfind : ∃ y, itB (exec (evL T) itL none c_slices_symMergeCmpFunc_api_SimEvent_L5) (Ev.settle [0, 1, 2, 3, 4, 18, 19, 20, 21, 22] true 1) ⟨[(0, .sl 0 g 0 n cl), (1, (.v (.int .i64 (a)))), (2, (.v (.int .i64 (m)))), (3, (.v (.int .i64 (b)))), (4, (.fn (.func n_evkey_CompareEvents) [] [])), (18, (.v (.int .i64 (mid)))), (19, (.v (.int .i64 (nn)))), (20, (.v (.int .i64 (a)))), (21, (.v (.int .i64 (m)))), (22, (.v (.int .i64 (p))))], []⟩ [.row 6 ((D).map Evt.r) g] = some y ∧
      (y.1 = .exit 8 ∧ y.2.1.marks = [] ∧ y.2.2 = [.row 6 ((D).map Evt.r) g] ∧ Ev.look y.2.1.vars 0 = some (.sl 0 g 0 n cl) ∧ Ev.look y.2.1.vars 1 = some (.v (.int .i64 (a))) ∧ Ev.look y.2.1.vars 2 = some (.v (.int .i64 (m))) ∧ Ev.look y.2.1.vars 3 = some (.v (.int .i64 (b))) ∧ Ev.look y.2.1.vars 4 = some (.fn (.func n_evkey_CompareEvents) [] []) ∧ Ev.look y.2.1.vars 18 = some (.v (.int .i64 (mid))) ∧
        Ev.look y.2.1.vars 19 = some (.v (.int .i64 (nn))) ∧ Ev.look y.2.1.vars 20 = some (.v (.int .i64 (start)))))
    (s1 : start < m → m < fin → (evL T).call n_slices_rotateCmpFunc_api_SimEvent [.sl 0 g 0 n cl, (.v (.int .i64 (start))), (.v (.int .i64 (m))), (.v (.int .i64 (fin))), (.fn (.func n_evkey_CompareEvents) [] [])] [.row 6 ((D).map Evt.r) g] = some (.tup [], [.row 6 ((D2).map Evt.r) g])) (n1 : ¬ (start < m ∧ m < fin) → D2 = D)
    (s2 : a < start → start < mid → MergeTo g cl n a start mid D2 D3) (n2 : ¬ (a < start ∧ start < mid) → D3 = D2)
    (s3 : mid < fin → fin < b → MergeTo g cl n mid fin b D3 D4) (n3 : ¬ (mid < fin ∧ fin < b) → D4 = D3) : MergeTo g cl n a m b D D4 := by
  obtain ⟨⟨y, e, σ⟩, k1, k2, k3, k4, k5, k6, k7, k8, k9, k10, k11, k12⟩ := hfind
  obtain ⟨w1, h1, w2, h2, w3, w4, w5, w6, w7, w8, w9, c5, c6⟩ := N.wraps
  simp only at k1 k2 k3 k4 k5 k6 k7 k8 k9 k10 k11 k12
  subst k2; subst k4
  unfold MergeTo at *
  rw [evL_code ext_slices_symMergeCmpFunc_api_SimEvent code_slices_symMergeCmpFunc_api_SimEvent]
  have g4 : ¬ (m : Int) > (mid : Int) := fun h => g1 (Int.ofNat_lt.1 h)
  have e1 : (start : Int) < (m : Int) := Int.ofNat_lt.2 d1
  have e2 : (m : Int) < (fin : Int) := Int.ofNat_lt.2 d2
  have e3 : ¬ (a : Int) < (start : Int) := fun h => d3 (Int.ofNat_lt.1 h)
  have e5 : (mid : Int) < (fin : Int) := Int.ofNat_lt.2 (c5.2 d1)
  have e6 : (start : Int) < (mid : Int) := Int.ofNat_lt.2 (c6.2 d2)
  have e4 : (fin : Int) < (b : Int) := Int.ofNat_lt.2 d4
  have r1 := s1 d1 d2
  have r2 := n2 (fun h => d3 h.1); subst r2
  have r3 := s3 (c5.2 d1) d4
  simp only [c_slices_symMergeCmpFunc_api_SimEvent, w1, w2, w3, w4, w5, w6, w7, w8, w9, h1, h2, g4, k1, k3, k5, k6, k7, k8, k9, k10, k11, k12, e1, e2, e3, e5, r1, r3, e4, evts_lo, Go.Ev.runFunc, Go.Ev.exec, Go.Ev.evOpers, Go.Ev.evOper, Go.Ev.item_op, Go.Ev.item_I, Go.Ev.evOp, Go.Ev.evs, Go.Ev.Opnd.ev, Go.Ev.Env.get, Go.Ev.Env.set, Go.Ev.Env.unset, Go.Ev.look, Go.Ev.argVars, Go.Ev.bin_add, Go.Ev.bin_sub, Go.Ev.bin_eql, Go.Ev.bin_lss, Go.Ev.bin_gtr, Go.Ev.resVals, Go.Ev.resOf, Go.Ev.kill, Go.Ev.leave, Go.Ev.settle, Go.Ev.keep, Go.Ev.varsLo, Go.Ev.marksLo, Go.Ev.storeLo, Go.Ev.SObj.lo, Go.Ev.lo_v, Go.Ev.lo_tup, Go.Ev.lo_sl, Go.Ev.lo_fn, Go.Ev.los_nil, ↓Go.Ev.obind, ↓Go.Ev.itL_itB, ↓reduceIte, List.length_cons, List.length_nil, List.take_succ_cons, List.take_nil, Nat.reduceAdd, Nat.reduceEqDiff, reduceCtorEq, decide_true, decide_false, Bool.and_self, Bool.false_eq_true, and_self, Nat.zero_add, Nat.lt_add_one, eq_self]
theorem merge_way_01100 (x1 x2 y1 y2 a m b mid nn lo hi p start fin : Nat) (D D2 D3 D4 : List Evt) (N : Nums n x1 x2 y1 y2 a m b mid nn lo hi p start fin) (g1 : ¬ mid < m)
    (d1 : start < m) (d2 : m < fin) (d3 : ¬ a < start) (d4 : ¬ fin < b)
    (hfind : ∃ y, itB (exec (evL T) itL none c_slices_symMergeCmpFunc_api_SimEvent_L5) (Ev.settle [0, 1, 2, 3, 4, 18, 19, 20, 21, 22] true 1) ⟨[(0, .sl 0 g 0 n cl), (1, (.v (.int .i64 (a)))), (2, (.v (.int .i64 (m)))), (3, (.v (.int .i64 (b)))), (4, (.fn (.func n_evkey_CompareEvents) [] [])), (18, (.v (.int .i64 (mid)))), (19, (.v (.int .i64 (nn)))), (20, (.v (.int .i64 (a)))), (21, (.v (.int .i64 (m)))), (22, (.v (.int .i64 (p))))], []⟩ [.row 6 ((D).map Evt.r) g] = some y ∧
      (y.1 = .exit 8 ∧ y.2.1.marks = [] ∧ y.2.2 = [.row 6 ((D).map Evt.r) g] ∧ Ev.look y.2.1.vars 0 = some (.sl 0 g 0 n cl) ∧ Ev.look y.2.1.vars 1 = some (.v (.int .i64 (a))) ∧ Ev.look y.2.1.vars 2 = some (.v (.int .i64 (m))) ∧ Ev.look y.2.1.vars 3 = some (.v (.int .i64 (b))) ∧ Ev.look y.2.1.vars 4 = some (.fn (.func n_evkey_CompareEvents) [] []) ∧ Ev.look y.2.1.vars 18 = some (.v (.int .i64 (mid))) ∧
        Ev.look y.2.1.vars 19 = some (.v (.int .i64 (nn))) ∧ Ev.look y.2.1.vars 20 = some (.v (.int .i64 (start)))))
    (s1 : start < m → m < fin → (evL T).call n_slices_rotateCmpFunc_api_SimEvent [.sl 0 g 0 n cl, (.v (.int .i64 (start))), (.v (.int .i64 (m))), (.v (.int .i64 (fin))), (.fn (.func n_evkey_CompareEvents) [] [])] [.row 6 ((D).map Evt.r) g] = some (.tup [], [.row 6 ((D2).map Evt.r) g])) (n1 : ¬ (start < m ∧ m < fin) → D2 = D)
    (s2 : a < start → start < mid → MergeTo g cl n a start mid D2 D3) (n2 : ¬ (a < start ∧ start < mid) → D3 = D2)
    (s3 : mid < fin → fin < b → MergeTo g cl n mid fin b D3 D4) (n3 : ¬ (mid < fin ∧ fin < b) → D4 = D3) : MergeTo g cl n a m b D D4 := by
  obtain ⟨⟨y, e, σ⟩, k1, k2, k3, k4, k5, k6, k7, k8, k9, k10, k11, k12⟩ := hfind
  obtain ⟨w1, h1, w2, h2, w3, w4, w5, w6, w7, w8, w9, c5, c6⟩ := N.wraps
  simp only at k1 k2 k3 k4 k5 k6 k7 k8 k9 k10 k11 k12
  subst k2; subst k4
  unfold MergeTo at *
  rw [evL_code ext_slices_symMergeCmpFunc_api_SimEvent code_slices_symMergeCmpFunc_api_SimEvent]
  have g4 : ¬ (m : Int) > (mid : Int) := fun h => g1 (Int.ofNat_lt.1 h)
  have e1 : (start : Int) < (m : Int) := Int.ofNat_lt.2 d1
  have e2 : (m : Int) < (fin : Int) := Int.ofNat_lt.2 d2
  have e3 : ¬ (a : Int) < (start : Int) := fun h => d3 (Int.ofNat_lt.1 h)
  have e5 : (mid : Int) < (fin : Int) := Int.ofNat_lt.2 (c5.2 d1)
  have e6 : (start : Int) < (mid : Int) := Int.ofNat_lt.2 (c6.2 d2)
  have e4 : ¬ (fin : Int) < (b : Int) := fun h => d4 (Int.ofNat_lt.1 h)
  have r1 := s1 d1 d2
  have r2 := n2 (fun h => d3 h.1); subst r2
  have r3 := n3 (fun h => d4 h.2); subst r3
  simp only [c_slices_symMergeCmpFunc_api_SimEvent, w1, w2, w3, w4, w5, w6, w7, w8, w9, h1, h2, g4, k1, k3, k5, k6, k7, k8, k9, k10, k11, k12, e1, e2, e3, e5, r1, e4, evts_lo, Go.Ev.runFunc, Go.Ev.exec, Go.Ev.evOpers, Go.Ev.evOper, Go.Ev.item_op, Go.Ev.item_I, Go.Ev.evOp, Go.Ev.evs, Go.Ev.Opnd.ev, Go.Ev.Env.get, Go.Ev.Env.set, Go.Ev.Env.unset, Go.Ev.look, Go.Ev.argVars, Go.Ev.bin_add, Go.Ev.bin_sub, Go.Ev.bin_eql, Go.Ev.bin_lss, Go.Ev.bin_gtr, Go.Ev.resVals, Go.Ev.resOf, Go.Ev.kill, Go.Ev.leave, Go.Ev.settle, Go.Ev.keep, Go.Ev.varsLo, Go.Ev.marksLo, Go.Ev.storeLo, Go.Ev.SObj.lo, Go.Ev.lo_v, Go.Ev.lo_tup, Go.Ev.lo_sl, Go.Ev.lo_fn, Go.Ev.los_nil, ↓Go.Ev.obind, ↓Go.Ev.itL_itB, ↓reduceIte, List.length_cons, List.length_nil, List.take_succ_cons, List.take_nil, Nat.reduceAdd, Nat.reduceEqDiff, reduceCtorEq, decide_true, decide_false, Bool.and_self, Bool.false_eq_true, and_self, Nat.zero_add, Nat.lt_add_one, eq_self]
theorem merge_way_01011 (x1 x2 y1 y2 a m b mid nn lo hi p start fin : Nat) (D D2 D3 D4 : List Evt) (N : Nums n x1 x2 y1 y2 a m b mid nn lo hi p start fin) (g1 : ¬ mid < m)
    (d1 : start < m) (d2 : ¬ m < fin) (d3 : a < start) (d4 : fin < b)
    (hfind : ∃ y, itB (exec (evL T) itL none c_slices_symMergeCmpFunc_api_SimEvent_L5) (Ev.settle [0, 1, 2, 3, 4, 18, 19, 20, 21, 22] true 1) ⟨[(0, .sl 0 g 0 n cl), (1, (.v (.int .i64 (a)))), (2, (.v (.int .i64 (m)))), (3, (.v (.int .i64 (b)))), (4, (.fn (.func n_evkey_CompareEvents) [] [])), (18, (.v (.int .i64 (mid)))), (19, (.v (.int .i64 (nn)))), (20, (.v (.int .i64 (a)))), (21, (.v (.int .i64 (m)))), (22, (.v (.int .i64 (p))))], []⟩ [.row 6 ((D).map Evt.r) g] = some y ∧
      (y.1 = .exit 8 ∧ y.2.1.marks = [] ∧ y.2.2 = [.row 6 ((D).map Evt.r) g] ∧ Ev.look y.2.1.vars 0 = some (.sl 0 g 0 n cl) ∧ Ev.look y.2.1.vars 1 = some (.v (.int .i64 (a))) ∧ Ev.look y.2.1.vars 2 = some (.v (.int .i64 (m))) ∧ Ev.look y.2.1.vars 3 = some (.v (.int .i64 (b))) ∧ Ev.look y.2.1.vars 4 = some (.fn (.func n_evkey_CompareEvents) [] []) ∧ Ev.look y.2.1.vars 18 = some (.v (.int .i64 (mid))) ∧
        Ev.look y.2.1.vars 19 = some (.v (.int .i64 (nn))) ∧ Ev.look y.2.1.vars 20 = some (.v (.int .i64 (start)))))
    (s1 : start < m → m < fin → (evL T).call n_slices_rotateCmpFunc_api_SimEvent [.sl 0 g 0 n cl, (.v (.int .i64 (start))), (.v (.int .i64 (m))), (.v (.int .i64 (fin))), (.fn (.func n_evkey_CompareEvents) [] [])] [.row 6 ((D).map Evt.r) g] = some (.tup [], [.row 6 ((D2).map Evt.r) g])) (n1 : ¬ (start < m ∧ m < fin) → D2 = D)
    (s2 : a < start → start < mid → MergeTo g cl n a start mid D2 D3) (n2 : ¬ (a < start ∧ start < mid) → D3 = D2)
    (s3 : mid < fin → fin < b → MergeTo g cl n mid fin b D3 D4) (n3 : ¬ (mid < fin ∧ fin < b) → D4 = D3) : MergeTo g cl n a m b D D4 := by
  obtain ⟨⟨y, e, σ⟩, k1, k2, k3, k4, k5, k6, k7, k8, k9, k10, k11, k12⟩ := hfind
  obtain ⟨w1, h1, w2, h2, w3, w4, w5, w6, w7, w8, w9, c5, c6⟩ := N.wraps
  simp only at k1 k2 k3 k4 k5 k6 k7 k8 k9 k10 k11 k12
  subst k2; subst k4
  unfold MergeTo at *
  rw [evL_code ext_slices_symMergeCmpFunc_api_SimEvent code_slices_symMergeCmpFunc_api_SimEvent]
  have g4 : ¬ (m : Int) > (mid : Int) := fun h => g1 (Int.ofNat_lt.1 h)
  have e1 : (start : Int) < (m : Int) := Int.ofNat_lt.2 d1
  have e2 : ¬ (m : Int) < (fin : Int) := fun h => d2 (Int.ofNat_lt.1 h)
  have e3 : (a : Int) < (start : Int) := Int.ofNat_lt.2 d3
  have e5 : (mid : Int) < (fin : Int) := Int.ofNat_lt.2 (c5.2 d1)
  have e6 : ¬ (start : Int) < (mid : Int) := fun h => d2 (c6.1 (Int.ofNat_lt.1 h))
  have e4 : (fin : Int) < (b : Int) := Int.ofNat_lt.2 d4
  have r1 := n1 (fun h => d2 h.2); subst r1
  have r2 := n2 (fun h => d2 (c6.1 h.2)); subst r2
  have r3 := s3 (c5.2 d1) d4
  simp only [c_slices_symMergeCmpFunc_api_SimEvent, w1, w2, w3, w4, w5, w6, w7, w8, w9, h1, h2, g4, k1, k3, k5, k6, k7, k8, k9, k10, k11, k12, e1, e2, e3, e5, e6, r3, e4, evts_lo, Go.Ev.runFunc, Go.Ev.exec, Go.Ev.evOpers, Go.Ev.evOper, Go.Ev.item_op, Go.Ev.item_I, Go.Ev.evOp, Go.Ev.evs, Go.Ev.Opnd.ev, Go.Ev.Env.get, Go.Ev.Env.set, Go.Ev.look, Go.Ev.argVars, Go.Ev.bin_add, Go.Ev.bin_sub, Go.Ev.bin_eql, Go.Ev.bin_lss, Go.Ev.bin_gtr, Go.Ev.resVals, Go.Ev.resOf, Go.Ev.kill, Go.Ev.leave, Go.Ev.settle, Go.Ev.keep, Go.Ev.varsLo, Go.Ev.marksLo, Go.Ev.storeLo, Go.Ev.SObj.lo, Go.Ev.lo_v, Go.Ev.lo_tup, Go.Ev.lo_sl, Go.Ev.lo_fn, Go.Ev.los_nil, ↓Go.Ev.obind, ↓Go.Ev.itL_itB, ↓reduceIte, List.length_cons, List.length_nil, List.take_succ_cons, List.take_nil, Nat.reduceAdd, Nat.reduceEqDiff, reduceCtorEq, decide_true, decide_false, Bool.and_self, Bool.false_eq_true, and_self, Nat.zero_add, Nat.lt_add_one, eq_self]
theorem merge_way_01010 (x1 x2 y1 y2 a m b mid nn lo hi p start fin : Nat) (D D2 D3 D4 : List Evt) (N : Nums n x1 x2 y1 y2 a m b mid nn lo hi p start fin) (g1 : ¬ mid < m)
    (d1 : start < m) (d2 : ¬ m < fin) (d3 : a < start) (d4 : ¬ fin < b)
    (hfind : ∃ y, itB (exec (evL T) itL none c_slices_symMergeCmpFunc_api_SimEvent_L5) (Ev.settle [0, 1, 2, 3, 4, 18, 19, 20, 21, 22] true 1) ⟨[(0, .sl 0 g 0 n cl), (1, (.v (.int .i64 (a)))), (2, (.v (.int .i64 (m)))), (3, (.v (.int .i64 (b)))), (4, (.fn (.func n_evkey_CompareEvents) [] [])), (18, (.v (.int .i64 (mid)))), (19, (.v (.int .i64 (nn)))), (20, (.v (.int .i64 (a)))), (21, (.v (.int .i64 (m)))), (22, (.v (.int .i64 (p))))], []⟩ [.row 6 ((D).map Evt.r) g] = some y ∧
      (y.1 = .exit 8 ∧ y.2.1.marks = [] ∧ y.2.2 = [.row 6 ((D).map Evt.r) g] ∧ Ev.look y.2.1.vars 0 = some (.sl 0 g 0 n cl) ∧ Ev.look y.2.1.vars 1 = some (.v (.int .i64 (a))) ∧ Ev.look y.2.1.vars 2 = some (.v (.int .i64 (m))) ∧ Ev.look y.2.1.vars 3 = some (.v (.int .i64 (b))) ∧ Ev.look y.2.1.vars 4 = some (.fn (.func n_evkey_CompareEvents) [] []) ∧ Ev.look y.2.1.vars 18 = some (.v (.int .i64 (mid))) ∧
        Ev.look y.2.1.vars 19 = some (.v (.int .i64 (nn))) ∧ Ev.look y.2.1.vars 20 = some (.v (.int .i64 (start)))))
    (s1 : start < m → m < fin → (evL T).call n_slices_rotateCmpFunc_api_SimEvent [.sl 0 g 0 n cl, (.v (.int .i64 (start))), (.v (.int .i64 (m))), (.v (.int .i64 (fin))), (.fn (.func n_evkey_CompareEvents) [] [])] [.row 6 ((D).map Evt.r) g] = some (.tup [], [.row 6 ((D2).map Evt.r) g])) (n1 : ¬ (start < m ∧ m < fin) → D2 = D)
    (s2 : a < start → start < mid → MergeTo g cl n a start mid D2 D3) (n2 : ¬ (a < start ∧ start < mid) → D3 = D2)
    (s3 : mid < fin → fin < b → MergeTo g cl n mid fin b D3 D4) (n3 : ¬ (mid < fin ∧ fin < b) → D4 = D3) : MergeTo g cl n a m b D D4 := by
  obtain ⟨⟨y, e, σ⟩, k1, k2, k3, k4, k5, k6, k7, k8, k9, k10, k11, k12⟩ := hfind
  obtain ⟨w1, h1, w2, h2, w3, w4, w5, w6, w7, w8, w9, c5, c6⟩ := N.wraps
  simp only at k1 k2 k3 k4 k5 k6 k7 k8 k9 k10 k11 k12
  subst k2; subst k4
  unfold MergeTo at *
  rw [evL_code ext_slices_symMergeCmpFunc_api_SimEvent code_slices_symMergeCmpFunc_api_SimEvent]
  have g4 : ¬ (m : Int) > (mid : Int) := fun h => g1 (Int.ofNat_lt.1 h)
  have e1 : (start : Int) < (m : Int) := Int.ofNat_lt.2 d1
  have e2 : ¬ (m : Int) < (fin : Int) := fun h => d2 (Int.ofNat_lt.1 h)
  have e3 : (a : Int) < (start : Int) := Int.ofNat_lt.2 d3
  have e5 : (mid : Int) < (fin : Int) := Int.ofNat_lt.2 (c5.2 d1)
  have e6 : ¬ (start : Int) < (mid : Int) := fun h => d2 (c6.1 (Int.ofNat_lt.1 h))
  have e4 : ¬ (fin : Int) < (b : Int) := fun h => d4 (Int.ofNat_lt.1 h)
  have r1 := n1 (fun h => d2 h.2); subst r1
  have r2 := n2 (fun h => d2 (c6.1 h.2)); subst r2
  have r3 := n3 (fun h => d4 h.2); subst r3
  simp only [c_slices_symMergeCmpFunc_api_SimEvent, w1, w2, w3, w4, w5, w6, w7, w8, w9, h1, h2, g4, k1, k3, k6, k7, k8, k10, k11, k12, e1, e2, e3, e5, e6, e4, evts_lo, Go.Ev.runFunc, Go.Ev.exec, Go.Ev.evOpers, Go.Ev.evOper, Go.Ev.item_op, Go.Ev.evOp, Go.Ev.Opnd.ev, Go.Ev.Env.get, Go.Ev.Env.set, Go.Ev.look, Go.Ev.argVars, Go.Ev.bin_add, Go.Ev.bin_sub, Go.Ev.bin_eql, Go.Ev.bin_lss, Go.Ev.bin_gtr, Go.Ev.resVals, Go.Ev.resOf, Go.Ev.kill, Go.Ev.leave, Go.Ev.settle, Go.Ev.keep, Go.Ev.varsLo, Go.Ev.marksLo, Go.Ev.storeLo, Go.Ev.SObj.lo, Go.Ev.lo_v, Go.Ev.lo_tup, Go.Ev.lo_sl, Go.Ev.lo_fn, Go.Ev.los_nil, ↓Go.Ev.obind, ↓Go.Ev.itL_itB, ↓reduceIte, List.length_cons, List.length_nil, List.take_succ_cons, List.take_nil, Nat.reduceAdd, Nat.reduceEqDiff, reduceCtorEq, decide_true, decide_false, Bool.and_self, Bool.false_eq_true, and_self, Nat.zero_add, Nat.lt_add_one, eq_self]
theorem merge_way_01001 (x1 x2 y1 y2 a m b mid nn lo hi p start fin : Nat) (D D2 D3 D4 : List Evt) (N : Nums n x1 x2 y1 y2 a m b mid nn lo hi p start fin) (g1 : ¬ mid < m)
    (d1 : start < m) (d2 : ¬ m < fin) (d3 : ¬ a < start) (d4 : fin < b)
    (hfind : ∃ y, itB (exec (evL T) itL none c_slices_symMergeCmpFunc_api_SimEvent_L5) (Ev.settle [0, 1, 2, 3, 4, 18, 19, 20, 21, 22] true 1) ⟨[(0, .sl 0 g 0 n cl), (1, (.v (.int .i64 (a)))), (2, (.v (.int .i64 (m)))), (3, (.v (.int .i64 (b)))), (4, (.fn (.func n_evkey_CompareEvents) [] [])), (18, (.v (.int .i64 (mid)))), (19, (.v (.int .i64 (nn)))), (20, (.v (.int .i64 (a)))), (21, (.v (.int .i64 (m)))), (22, (.v (.int .i64 (p))))], []⟩ [.row 6 ((D).map Evt.r) g] = some y ∧
      (y.1 = .exit 8 ∧ y.2.1.marks = [] ∧ y.2.2 = [.row 6 ((D).map Evt.r) g] ∧ Ev.look y.2.1.vars 0 = some (.sl 0 g 0 n cl) ∧ Ev.look y.2.1.vars 1 = some (.v (.int .i64 (a))) ∧ Ev.look y.2.1.vars 2 = some (.v (.int .i64 (m))) ∧ Ev.look y.2.1.vars 3 = some (.v (.int .i64 (b))) ∧ Ev.look y.2.1.vars 4 = some (.fn (.func n_evkey_CompareEvents) [] []) ∧ Ev.look y.2.1.vars 18 = some (.v (.int .i64 (mid))) ∧
        Ev.look y.2.1.vars 19 = some (.v (.int .i64 (nn))) ∧ Ev.look y.2.1.vars 20 = some (.v (.int .i64 (start)))))
    (s1 : start < m → m < fin → (evL T).call n_slices_rotateCmpFunc_api_SimEvent [.sl 0 g 0 n cl, (.v (.int .i64 (start))), (.v (.int .i64 (m))), (.v (.int .i64 (fin))), (.fn (.func n_evkey_CompareEvents) [] [])] [.row 6 ((D).map Evt.r) g] = some (.tup [], [.row 6 ((D2).map Evt.r) g])) (n1 : ¬ (start < m ∧ m < fin) → D2 = D)
    (s2 : a < start → start < mid → MergeTo g cl n a start mid D2 D3) (n2 : ¬ (a < start ∧ start < mid) → D3 = D2)
    (s3 : mid < fin → fin < b → MergeTo g cl n mid fin b D3 D4) (n3 : ¬ (mid < fin ∧ fin < b) → D4 = D3) : MergeTo g cl n a m b D D4 := by
  obtain ⟨⟨y, e, σ⟩, k1, k2, k3, k4, k5, k6, k7, k8, k9, k10, k11, k12⟩ := hfind
  obtain ⟨w1, h1, w2, h2, w3, w4, w5, w6, w7, w8, w9, c5, c6⟩ := N.wraps
  simp only at k1 k2 k3 k4 k5 k6 k7 k8 k9 k10 k11 k12
  subst k2; subst k4
  unfold MergeTo at *
  rw [evL_code ext_slices_symMergeCmpFunc_api_SimEvent code_slices_symMergeCmpFunc_api_SimEvent]
  have g4 : ¬ (m : Int) > (mid : Int) := fun h => g1 (Int.ofNat_lt.1 h)
  have e1 : (start : Int) < (m : Int) := Int.ofNat_lt.2 d1
  have e2 : ¬ (m : Int) < (fin : Int) := fun h => d2 (Int.ofNat_lt.1 h)
  have e3 : ¬ (a : Int) < (start : Int) := fun h => d3 (Int.ofNat_lt.1 h)
  have e5 : (mid : Int) < (fin : Int) := Int.ofNat_lt.2 (c5.2 d1)
  have e6 : ¬ (start : Int) < (mid : Int) := fun h => d2 (c6.1 (Int.ofNat_lt.1 h))
  have e4 : (fin : Int) < (b : Int) := Int.ofNat_lt.2 d4
  have r1 := n1 (fun h => d2 h.2); subst r1
  have r2 := n2 (fun h => d3 h.1); subst r2
  have r3 := s3 (c5.2 d1) d4
  simp only [c_slices_symMergeCmpFunc_api_SimEvent, w1, w2, w3, w4, w5, w6, w7, w8, w9, h1, h2, g4, k1, k3, k5, k6, k7, k8, k9, k10, k11, k12, e1, e2, e3, e5, r3, e4, evts_lo, Go.Ev.runFunc, Go.Ev.exec, Go.Ev.evOpers, Go.Ev.evOper, Go.Ev.item_op, Go.Ev.item_I, Go.Ev.evOp, Go.Ev.evs, Go.Ev.Opnd.ev, Go.Ev.Env.get, Go.Ev.Env.set, Go.Ev.Env.unset, Go.Ev.look, Go.Ev.argVars, Go.Ev.bin_add, Go.Ev.bin_sub, Go.Ev.bin_eql, Go.Ev.bin_lss, Go.Ev.bin_gtr, Go.Ev.resVals, Go.Ev.resOf, Go.Ev.kill, Go.Ev.leave, Go.Ev.settle, Go.Ev.keep, Go.Ev.varsLo, Go.Ev.marksLo, Go.Ev.storeLo, Go.Ev.SObj.lo, Go.Ev.lo_v, Go.Ev.lo_tup, Go.Ev.lo_sl, Go.Ev.lo_fn, Go.Ev.los_nil, ↓Go.Ev.obind, ↓Go.Ev.itL_itB, ↓reduceIte, List.length_cons, List.length_nil, List.take_succ_cons, List.take_nil, Nat.reduceAdd, Nat.reduceEqDiff, reduceCtorEq, decide_true, decide_false, Bool.and_self, Bool.false_eq_true, and_self, Nat.zero_add, Nat.lt_add_one, eq_self]
theorem merge_way_01000 (x1 x2 y1 y2 a m b mid nn lo hi p start fin : Nat) (D D2 D3 D4 : List Evt) (N : Nums n x1 x2 y1 y2 a m b mid nn lo hi p start fin) (g1 : ¬ mid < m)
    (d1 : start < m) (d2 : ¬ m < fin) (d3 : ¬ a < start) (d4 : ¬ fin < b)
    (hfind : ∃ y, itB (exec (evL T) itL none c_slices_symMergeCmpFunc_api_SimEvent_L5) (Ev.settle [0, 1, 2, 3, 4, 18, 19, 20, 21, 22] true 1) ⟨[(0, .sl 0 g 0 n cl), (1, (.v (.int .i64 (a)))), (2, (.v (.int .i64 (m)))), (3, (.v (.int .i64 (b)))), (4, (.fn (.func n_evkey_CompareEvents) [] [])), (18, (.v (.int .i64 (mid)))), (19, (.v (.int .i64 (nn)))), (20, (.v (.int .i64 (a)))), (21, (.v (.int .i64 (m)))), (22, (.v (.int .i64 (p))))], []⟩ [.row 6 ((D).map Evt.r) g] = some y ∧
      (y.1 = .exit 8 ∧ y.2.1.marks = [] ∧ y.2.2 = [.row 6 ((D).map Evt.r) g] ∧ Ev.look y.2.1.vars 0 = some (.sl 0 g 0 n cl) ∧ Ev.look y.2.1.vars 1 = some (.v (.int .i64 (a))) ∧ Ev.look y.2.1.vars 2 = some (.v (.int .i64 (m))) ∧ Ev.look y.2.1.vars 3 = some (.v (.int .i64 (b))) ∧ Ev.look y.2.1.vars 4 = some (.fn (.func n_evkey_CompareEvents) [] []) ∧ Ev.look y.2.1.vars 18 = some (.v (.int .i64 (mid))) ∧
        Ev.look y.2.1.vars 19 = some (.v (.int .i64 (nn))) ∧ Ev.look y.2.1.vars 20 = some (.v (.int .i64 (start)))))
    (s1 : start < m → m < fin → (evL T).call n_slices_rotateCmpFunc_api_SimEvent [.sl 0 g 0 n cl, (.v (.int .i64 (start))), (.v (.int .i64 (m))), (.v (.int .i64 (fin))), (.fn (.func n_evkey_CompareEvents) [] [])] [.row 6 ((D).map Evt.r) g] = some (.tup [], [.row 6 ((D2).map Evt.r) g])) (n1 : ¬ (start < m ∧ m < fin) → D2 = D)
    (s2 : a < start → start < mid → MergeTo g cl n a start mid D2 D3) (n2 : ¬ (a < start ∧ start < mid) → D3 = D2)
    (s3 : mid < fin → fin < b → MergeTo g cl n mid fin b D3 D4) (n3 : ¬ (mid < fin ∧ fin < b) → D4 = D3) : MergeTo g cl n a m b D D4 := by
  obtain ⟨⟨y, e, σ⟩, k1, k2, k3, k4, k5, k6, k7, k8, k9, k10, k11, k12⟩ := hfind
  obtain ⟨w1, h1, w2, h2, w3, w4, w5, w6, w7, w8, w9, c5, c6⟩ := N.wraps
  simp only at k1 k2 k3 k4 k5 k6 k7 k8 k9 k10 k11 k12
  subst k2; subst k4
  unfold MergeTo at *
  rw [evL_code ext_slices_symMergeCmpFunc_api_SimEvent code_slices_symMergeCmpFunc_api_SimEvent]
  have g4 : ¬ (m : Int) > (mid : Int) := fun h => g1 (Int.ofNat_lt.1 h)
  have e1 : (start : Int) < (m : Int) := Int.ofNat_lt.2 d1
  have e2 : ¬ (m : Int) < (fin : Int) := fun h => d2 (Int.ofNat_lt.1 h)
  have e3 : ¬ (a : Int) < (start : Int) := fun h => d3 (Int.ofNat_lt.1 h)
  have e5 : (mid : Int) < (fin : Int) := Int.ofNat_lt.2 (c5.2 d1)
  have e6 : ¬ (start : Int) < (mid : Int) := fun h => d2 (c6.1 (Int.ofNat_lt.1 h))
  have e4 : ¬ (fin : Int) < (b : Int) := fun h => d4 (Int.ofNat_lt.1 h)
  have r1 := n1 (fun h => d2 h.2); subst r1
  have r2 := n2 (fun h => d3 h.1); subst r2
  have r3 := n3 (fun h => d4 h.2); subst r3
  simp only [c_slices_symMergeCmpFunc_api_SimEvent, w1, w2, w3, w4, w5, w6, w7, w8, w9, h1, h2, g4, k1, k3, k6, k7, k8, k10, k11, k12, e1, e2, e3, e5, e4, evts_lo, Go.Ev.runFunc, Go.Ev.exec, Go.Ev.evOpers, Go.Ev.evOper, Go.Ev.item_op, Go.Ev.evOp, Go.Ev.Opnd.ev, Go.Ev.Env.get, Go.Ev.Env.set, Go.Ev.Env.unset, Go.Ev.look, Go.Ev.argVars, Go.Ev.bin_add, Go.Ev.bin_sub, Go.Ev.bin_eql, Go.Ev.bin_lss, Go.Ev.bin_gtr, Go.Ev.resVals, Go.Ev.resOf, Go.Ev.kill, Go.Ev.leave, Go.Ev.settle, Go.Ev.keep, Go.Ev.varsLo, Go.Ev.marksLo, Go.Ev.storeLo, Go.Ev.SObj.lo, Go.Ev.lo_v, Go.Ev.lo_tup, Go.Ev.lo_sl, Go.Ev.lo_fn, Go.Ev.los_nil, ↓Go.Ev.obind, ↓Go.Ev.itL_itB, ↓reduceIte, List.length_cons, List.length_nil, List.take_succ_cons, List.take_nil, Nat.reduceAdd, Nat.reduceEqDiff, reduceCtorEq, decide_true, decide_false, Bool.and_self, Bool.false_eq_true, and_self, Nat.zero_add, Nat.lt_add_one, eq_self]
theorem merge_way_00111 (x1 x2 y1 y2 a m b mid nn lo hi p start fin : Nat) (D D2 D3 D4 : List Evt) (N : Nums n x1 x2 y1 y2 a m b mid nn lo hi p start fin) (g1 : ¬ mid < m)
    (d1 : ¬ start < m) (d2 : m < fin) (d3 : a < start) (d4 : fin < b)
    (hfind : ∃ y, itB (exec (evL T) itL none c_slices_symMergeCmpFunc_api_SimEvent_L5) (Ev.settle [0, 1, 2, 3, 4, 18, 19, 20, 21, 22] true 1) ⟨[(0, .sl 0 g 0 n cl), (1, (.v (.int .i64 (a)))), (2, (.v (.int .i64 (m)))), (3, (.v (.int .i64 (b)))), (4, (.fn (.func n_evkey_CompareEvents) [] [])), (18, (.v (.int .i64 (mid)))), (19, (.v (.int .i64 (nn)))), (20, (.v (.int .i64 (a)))), (21, (.v (.int .i64 (m)))), (22, (.v (.int .i64 (p))))], []⟩ [.row 6 ((D).map Evt.r) g] = some y ∧
      (y.1 = .exit 8 ∧ y.2.1.marks = [] ∧ y.2.2 = [.row 6 ((D).map Evt.r) g] ∧ Ev.look y.2.1.vars 0 = some (.sl 0 g 0 n cl) ∧ Ev.look y.2.1.vars 1 = some (.v (.int .i64 (a))) ∧ Ev.look y.2.1.vars 2 = some (.v (.int .i64 (m))) ∧ Ev.look y.2.1.vars 3 = some (.v (.int .i64 (b))) ∧ Ev.look y.2.1.vars 4 = some (.fn (.func n_evkey_CompareEvents) [] []) ∧ Ev.look y.2.1.vars 18 = some (.v (.int .i64 (mid))) ∧
        Ev.look y.2.1.vars 19 = some (.v (.int .i64 (nn))) ∧ Ev.look y.2.1.vars 20 = some (.v (.int .i64 (start)))))
    (s1 : start < m → m < fin → (evL T).call n_slices_rotateCmpFunc_api_SimEvent [.sl 0 g 0 n cl, (.v (.int .i64 (start))), (.v (.int .i64 (m))), (.v (.int .i64 (fin))), (.fn (.func n_evkey_CompareEvents) [] [])] [.row 6 ((D).map Evt.r) g] = some (.tup [], [.row 6 ((D2).map Evt.r) g])) (n1 : ¬ (start < m ∧ m < fin) → D2 = D)
    (s2 : a < start → start < mid → MergeTo g cl n a start mid D2 D3) (n2 : ¬ (a < start ∧ start < mid) → D3 = D2)
    (s3 : mid < fin → fin < b → MergeTo g cl n mid fin b D3 D4) (n3 : ¬ (mid < fin ∧ fin < b) → D4 = D3) : MergeTo g cl n a m b D D4 := by
  obtain ⟨⟨y, e, σ⟩, k1, k2, k3, k4, k5, k6, k7, k8, k9, k10, k11, k12⟩ := hfind
  obtain ⟨w1, h1, w2, h2, w3, w4, w5, w6, w7, w8, w9, c5, c6⟩ := N.wraps
  simp only at k1 k2 k3 k4 k5 k6 k7 k8 k9 k10 k11 k12
  subst k2; subst k4
  unfold MergeTo at *
  rw [evL_code ext_slices_symMergeCmpFunc_api_SimEvent code_slices_symMergeCmpFunc_api_SimEvent]
  have g4 : ¬ (m : Int) > (mid : Int) := fun h => g1 (Int.ofNat_lt.1 h)
  have e1 : ¬ (start : Int) < (m : Int) := fun h => d1 (Int.ofNat_lt.1 h)
  have e2 : (m : Int) < (fin : Int) := Int.ofNat_lt.2 d2
  have e3 : (a : Int) < (start : Int) := Int.ofNat_lt.2 d3
  have e5 : ¬ (mid : Int) < (fin : Int) := fun h => d1 (c5.1 (Int.ofNat_lt.1 h))
  have e6 : (start : Int) < (mid : Int) := Int.ofNat_lt.2 (c6.2 d2)
  have e4 : (fin : Int) < (b : Int) := Int.ofNat_lt.2 d4
  have r1 := n1 (fun h => d1 h.1); subst r1
  have r2 := s2 d3 (c6.2 d2)
  have r3 := n3 (fun h => d1 (c5.1 h.1)); subst r3
  simp only [c_slices_symMergeCmpFunc_api_SimEvent, w1, w2, w3, w4, w5, w6, w7, w8, w9, h1, h2, g4, k1, k3, k5, k6, k7, k9, k10, k11, k12, e1, e3, e5, e6, r2, evts_lo, Go.Ev.runFunc, Go.Ev.exec, Go.Ev.evOpers, Go.Ev.evOper, Go.Ev.item_op, Go.Ev.item_I, Go.Ev.evOp, Go.Ev.evs, Go.Ev.Opnd.ev, Go.Ev.Env.get, Go.Ev.Env.set, Go.Ev.Env.unset, Go.Ev.look, Go.Ev.argVars, Go.Ev.bin_add, Go.Ev.bin_sub, Go.Ev.bin_eql, Go.Ev.bin_lss, Go.Ev.bin_gtr, Go.Ev.resVals, Go.Ev.resOf, Go.Ev.kill, Go.Ev.leave, Go.Ev.settle, Go.Ev.keep, Go.Ev.varsLo, Go.Ev.marksLo, Go.Ev.storeLo, Go.Ev.SObj.lo, Go.Ev.lo_v, Go.Ev.lo_tup, Go.Ev.lo_sl, Go.Ev.lo_fn, Go.Ev.los_nil, ↓Go.Ev.obind, ↓Go.Ev.itL_itB, ↓reduceIte, List.length_cons, List.length_nil, List.take_succ_cons, List.take_nil, Nat.reduceAdd, Nat.reduceEqDiff, reduceCtorEq, decide_true, decide_false, Bool.and_self, Bool.false_eq_true, and_self, Nat.zero_add, Nat.lt_add_one, eq_self]
theorem merge_way_00110 (x1 x2 y1 y2 a m b mid nn lo hi p start fin : Nat) (D D2 D3 D4 : List Evt) (N : Nums n x1 x2 y1 y2 a m b mid nn lo hi p start fin) (g1 : ¬ mid < m)
    (d1 : ¬ start < m) (d2 : m < fin) (d3 : a < start) (d4 : ¬ fin < b)
    (hfind : ∃ y, itB (exec (evL T) itL none c_slices_symMergeCmpFunc_api_SimEvent_L5) (Ev.settle [0, 1, 2, 3, 4, 18, 19, 20, 21, 22] true 1) ⟨[(0, .sl 0 g 0 n cl), (1, (.v (.int .i64 (a)))), (2, (.v (.int .i64 (m)))), (3, (.v (.int .i64 (b)))), (4, (.fn (.func n_evkey_CompareEvents) [] [])), (18, (.v (.int .i64 (mid)))), (19, (.v (.int .i64 (nn)))), (20, (.v (.int .i64 (a)))), (21, (.v (.int .i64 (m)))), (22, (.v (.int .i64 (p))))], []⟩ [.row 6 ((D).map Evt.r) g] = some y ∧
      (y.1 = .exit 8 ∧ y.2.1.marks = [] ∧ y.2.2 = [.row 6 ((D).map Evt.r) g] ∧ Ev.look y.2.1.vars 0 = some (.sl 0 g 0 n cl) ∧ Ev.look y.2.1.vars 1 = some (.v (.int .i64 (a))) ∧ Ev.look y.2.1.vars 2 = some (.v (.int .i64 (m))) ∧ Ev.look y.2.1.vars 3 = some (.v (.int .i64 (b))) ∧ Ev.look y.2.1.vars 4 = some (.fn (.func n_evkey_CompareEvents) [] []) ∧ Ev.look y.2.1.vars 18 = some (.v (.int .i64 (mid))) ∧
        Ev.look y.2.1.vars 19 = some (.v (.int .i64 (nn))) ∧ Ev.look y.2.1.vars 20 = some (.v (.int .i64 (start)))))
    (s1 : start < m → m < fin → (evL T).call n_slices_rotateCmpFunc_api_SimEvent [.sl 0 g 0 n cl, (.v (.int .i64 (start))), (.v (.int .i64 (m))), (.v (.int .i64 (fin))), (.fn (.func n_evkey_CompareEvents) [] [])] [.row 6 ((D).map Evt.r) g] = some (.tup [], [.row 6 ((D2).map Evt.r) g])) (n1 : ¬ (start < m ∧ m < fin) → D2 = D)
    (s2 : a < start → start < mid → MergeTo g cl n a start mid D2 D3) (n2 : ¬ (a < start ∧ start < mid) → D3 = D2)
    (s3 : mid < fin → fin < b → MergeTo g cl n mid fin b D3 D4) (n3 : ¬ (mid < fin ∧ fin < b) → D4 = D3) : MergeTo g cl n a m b D D4 := by
  obtain ⟨⟨y, e, σ⟩, k1, k2, k3, k4, k5, k6, k7, k8, k9, k10, k11, k12⟩ := hfind
  obtain ⟨w1, h1, w2, h2, w3, w4, w5, w6, w7, w8, w9, c5, c6⟩ := N.wraps
  simp only at k1 k2 k3 k4 k5 k6 k7 k8 k9 k10 k11 k12
  subst k2; subst k4
  unfold MergeTo at *
  rw [evL_code ext_slices_symMergeCmpFunc_api_SimEvent code_slices_symMergeCmpFunc_api_SimEvent]
  have g4 : ¬ (m : Int) > (mid : Int) := fun h => g1 (Int.ofNat_lt.1 h)
  have e1 : ¬ (start : Int) < (m : Int) := fun h => d1 (Int.ofNat_lt.1 h)
  have e2 : (m : Int) < (fin : Int) := Int.ofNat_lt.2 d2
  have e3 : (a : Int) < (start : Int) := Int.ofNat_lt.2 d3
  have e5 : ¬ (mid : Int) < (fin : Int) := fun h => d1 (c5.1 (Int.ofNat_lt.1 h))
  have e6 : (start : Int) < (mid : Int) := Int.ofNat_lt.2 (c6.2 d2)
  have e4 : ¬ (fin : Int) < (b : Int) := fun h => d4 (Int.ofNat_lt.1 h)
  have r1 := n1 (fun h => d1 h.1); subst r1
  have r2 := s2 d3 (c6.2 d2)
  have r3 := n3 (fun h => d1 (c5.1 h.1)); subst r3
  simp only [c_slices_symMergeCmpFunc_api_SimEvent, w1, w2, w3, w4, w5, w6, w7, w8, w9, h1, h2, g4, k1, k3, k5, k6, k7, k9, k10, k11, k12, e1, e3, e5, e6, r2, evts_lo, Go.Ev.runFunc, Go.Ev.exec, Go.Ev.evOpers, Go.Ev.evOper, Go.Ev.item_op, Go.Ev.item_I, Go.Ev.evOp, Go.Ev.evs, Go.Ev.Opnd.ev, Go.Ev.Env.get, Go.Ev.Env.set, Go.Ev.Env.unset, Go.Ev.look, Go.Ev.argVars, Go.Ev.bin_add, Go.Ev.bin_sub, Go.Ev.bin_eql, Go.Ev.bin_lss, Go.Ev.bin_gtr, Go.Ev.resVals, Go.Ev.resOf, Go.Ev.kill, Go.Ev.leave, Go.Ev.settle, Go.Ev.keep, Go.Ev.varsLo, Go.Ev.marksLo, Go.Ev.storeLo, Go.Ev.SObj.lo, Go.Ev.lo_v, Go.Ev.lo_tup, Go.Ev.lo_sl, Go.Ev.lo_fn, Go.Ev.los_nil, ↓Go.Ev.obind, ↓Go.Ev.itL_itB, ↓reduceIte, List.length_cons, List.length_nil, List.take_succ_cons, List.take_nil, Nat.reduceAdd, Nat.reduceEqDiff, reduceCtorEq, decide_true, decide_false, Bool.and_self, Bool.false_eq_true, and_self, Nat.zero_add, Nat.lt_add_one, eq_self]
theorem merge_way_00101 (x1 x2 y1 y2 a m b mid nn lo hi p start fin : Nat) (D D2 D3 D4 : List Evt) (N : Nums n x1 x2 y1 y2 a m b mid nn lo hi p start fin) (g1 : ¬ mid < m)
    (d1 : ¬ start < m) (d2 : m < fin) (d3 : ¬ a < start) (d4 : fin < b)
    (hfind : ∃ y, itB (exec (evL T) itL none c_slices_symMergeCmpFunc_api_SimEvent_L5) (Ev.settle [0, 1, 2, 3, 4, 18, 19, 20, 21, 22] true 1) ⟨[(0, .sl 0 g 0 n cl), (1, (.v (.int .i64 (a)))), (2, (.v (.int .i64 (m)))), (3, (.v (.int .i64 (b)))), (4, (.fn (.func n_evkey_CompareEvents) [] [])), (18, (.v (.int .i64 (mid)))), (19, (.v (.int .i64 (nn)))), (20, (.v (.int .i64 (a)))), (21, (.v (.int .i64 (m)))), (22, (.v (.int .i64 (p))))], []⟩ [.row 6 ((D).map Evt.r) g] = some y ∧
      (y.1 = .exit 8 ∧ y.2.1.marks = [] ∧ y.2.2 = [.row 6 ((D).map Evt.r) g] ∧ Ev.look y.2.1.vars 0 = some (.sl 0 g 0 n cl) ∧ Ev.look y.2.1.vars 1 = some (.v (.int .i64 (a))) ∧ Ev.look y.2.1.vars 2 = some (.v (.int .i64 (m))) ∧ Ev.look y.2.1.vars 3 = some (.v (.int .i64 (b))) ∧ Ev.look y.2.1.vars 4 = some (.fn (.func n_evkey_CompareEvents) [] []) ∧ Ev.look y.2.1.vars 18 = some (.v (.int .i64 (mid))) ∧
        Ev.look y.2.1.vars 19 = some (.v (.int .i64 (nn))) ∧ Ev.look y.2.1.vars 20 = some (.v (.int .i64 (start)))))
    (s1 : start < m → m < fin → (evL T).call n_slices_rotateCmpFunc_api_SimEvent [.sl 0 g 0 n cl, (.v (.int .i64 (start))), (.v (.int .i64 (m))), (.v (.int .i64 (fin))), (.fn (.func n_evkey_CompareEvents) [] [])] [.row 6 ((D).map Evt.r) g] = some (.tup [], [.row 6 ((D2).map Evt.r) g])) (n1 : ¬ (start < m ∧ m < fin) → D2 = D)
    (s2 : a < start → start < mid → MergeTo g cl n a start mid D2 D3) (n2 : ¬ (a < start ∧ start < mid) → D3 = D2)
    (s3 : mid < fin → fin < b → MergeTo g cl n mid fin b D3 D4) (n3 : ¬ (mid < fin ∧ fin < b) → D4 = D3) : MergeTo g cl n a m b D D4 := by
  obtain ⟨⟨y, e, σ⟩, k1, k2, k3, k4, k5, k6, k7, k8, k9, k10, k11, k12⟩ := hfind
  obtain ⟨w1, h1, w2, h2, w3, w4, w5, w6, w7, w8, w9, c5, c6⟩ := N.wraps
  simp only at k1 k2 k3 k4 k5 k6 k7 k8 k9 k10 k11 k12
  subst k2; subst k4
  unfold MergeTo at *
  rw [evL_code ext_slices_symMergeCmpFunc_api_SimEvent code_slices_symMergeCmpFunc_api_SimEvent]
  have g4 : ¬ (m : Int) > (mid : Int) := fun h => g1 (Int.ofNat_lt.1 h)
  have e1 : ¬ (start : Int) < (m : Int) := fun h => d1 (Int.ofNat_lt.1 h)
  have e2 : (m : Int) < (fin : Int) := Int.ofNat_lt.2 d2
  have e3 : ¬ (a : Int) < (start : Int) := fun h => d3 (Int.ofNat_lt.1 h)
  have e5 : ¬ (mid : Int) < (fin : Int) := fun h => d1 (c5.1 (Int.ofNat_lt.1 h))
  have e6 : (start : Int) < (mid : Int) := Int.ofNat_lt.2 (c6.2 d2)
  have e4 : (fin : Int) < (b : Int) := Int.ofNat_lt.2 d4
  have r1 := n1 (fun h => d1 h.1); subst r1
  have r2 := n2 (fun h => d3 h.1); subst r2
  have r3 := n3 (fun h => d1 (c5.1 h.1)); subst r3
  simp only [c_slices_symMergeCmpFunc_api_SimEvent, w1, w2, w3, w4, w5, w6, w7, w8, w9, h1, h2, g4, k1, k3, k6, k7, k10, k11, k12, e1, e3, e5, evts_lo, Go.Ev.runFunc, Go.Ev.exec, Go.Ev.evOpers, Go.Ev.evOper, Go.Ev.item_op, Go.Ev.evOp, Go.Ev.Opnd.ev, Go.Ev.Env.get, Go.Ev.Env.set, Go.Ev.Env.unset, Go.Ev.look, Go.Ev.argVars, Go.Ev.bin_add, Go.Ev.bin_sub, Go.Ev.bin_eql, Go.Ev.bin_lss, Go.Ev.bin_gtr, Go.Ev.resVals, Go.Ev.resOf, Go.Ev.kill, Go.Ev.leave, Go.Ev.settle, Go.Ev.keep, Go.Ev.varsLo, Go.Ev.marksLo, Go.Ev.storeLo, Go.Ev.SObj.lo, Go.Ev.lo_v, Go.Ev.lo_tup, Go.Ev.lo_sl, Go.Ev.lo_fn, Go.Ev.los_nil, ↓Go.Ev.obind, ↓Go.Ev.itL_itB, ↓reduceIte, List.length_cons, List.length_nil, List.take_succ_cons, List.take_nil, Nat.reduceAdd, Nat.reduceEqDiff, reduceCtorEq, decide_true, decide_false, Bool.and_self, Bool.false_eq_true, and_self, Nat.zero_add, Nat.lt_add_one, eq_self]
theorem merge_way_00100 (x1 x2 y1 y2 a m b mid nn lo hi p start fin : Nat) (D D2 D3 D4 : List Evt) (N : Nums n x1 x2 y1 y2 a m b mid nn lo hi p start fin) (g1 : ¬ mid < m)
    (d1 : ¬ start < m) (d2 : m < fin) (d3 : ¬ a < start) (d4 : ¬ fin < b)
    (hfind : ∃ y, itB (exec (evL T) itL none c_slices_symMergeCmpFunc_api_SimEvent_L5) (Ev.settle [0, 1, 2, 3, 4, 18, 19, 20, 21, 22] true 1) ⟨[(0, .sl 0 g 0 n cl), (1, (.v (.int .i64 (a)))), (2, (.v (.int .i64 (m)))), (3, (.v (.int .i64 (b)))), (4, (.fn (.func n_evkey_CompareEvents) [] [])), (18, (.v (.int .i64 (mid)))), (19, (.v (.int .i64 (nn)))), (20, (.v (.int .i64 (a)))), (21, (.v (.int .i64 (m)))), (22, (.v (.int .i64 (p))))], []⟩ [.row 6 ((D).map Evt.r) g] = some y ∧
      (y.1 = .exit 8 ∧ y.2.1.marks = [] ∧ y.2.2 = [.row 6 ((D).map Evt.r) g] ∧ Ev.look y.2.1.vars 0 = some (.sl 0 g 0 n cl) ∧ Ev.look y.2.1.vars 1 = some (.v (.int .i64 (a))) ∧ Ev.look y.2.1.vars 2 = some (.v (.int .i64 (m))) ∧ Ev.look y.2.1.vars 3 = some (.v (.int .i64 (b))) ∧ Ev.look y.2.1.vars 4 = some (.fn (.func n_evkey_CompareEvents) [] []) ∧ Ev.look y.2.1.vars 18 = some (.v (.int .i64 (mid))) ∧
        Ev.look y.2.1.vars 19 = some (.v (.int .i64 (nn))) ∧ Ev.look y.2.1.vars 20 = some (.v (.int .i64 (start)))))
    (s1 : start < m → m < fin → (evL T).call n_slices_rotateCmpFunc_api_SimEvent [.sl 0 g 0 n cl, (.v (.int .i64 (start))), (.v (.int .i64 (m))), (.v (.int .i64 (fin))), (.fn (.func n_evkey_CompareEvents) [] [])] [.row 6 ((D).map Evt.r) g] = some (.tup [], [.row 6 ((D2).map Evt.r) g])) (n1 : ¬ (start < m ∧ m < fin) → D2 = D)
    (s2 : a < start → start < mid → MergeTo g cl n a start mid D2 D3) (n2 : ¬ (a < start ∧ start < mid) → D3 = D2)
    (s3 : mid < fin → fin < b → MergeTo g cl n mid fin b D3 D4) (n3 : ¬ (mid < fin ∧ fin < b) → D4 = D3) : MergeTo g cl n a m b D D4 := by
  obtain ⟨⟨y, e, σ⟩, k1, k2, k3, k4, k5, k6, k7, k8, k9, k10, k11, k12⟩ := hfind
  obtain ⟨w1, h1, w2, h2, w3, w4, w5, w6, w7, w8, w9, c5, c6⟩ := N.wraps
  simp only at k1 k2 k3 k4 k5 k6 k7 k8 k9 k10 k11 k12
  subst k2; subst k4
  unfold MergeTo at *
  rw [evL_code ext_slices_symMergeCmpFunc_api_SimEvent code_slices_symMergeCmpFunc_api_SimEvent]
  have g4 : ¬ (m : Int) > (mid : Int) := fun h => g1 (Int.ofNat_lt.1 h)
  have e1 : ¬ (start : Int) < (m : Int) := fun h => d1 (Int.ofNat_lt.1 h)
  have e2 : (m : Int) < (fin : Int) := Int.ofNat_lt.2 d2
  have e3 : ¬ (a : Int) < (start : Int) := fun h => d3 (Int.ofNat_lt.1 h)
  have e5 : ¬ (mid : Int) < (fin : Int) := fun h => d1 (c5.1 (Int.ofNat_lt.1 h))
  have e6 : (start : Int) < (mid : Int) := Int.ofNat_lt.2 (c6.2 d2)
  have e4 : ¬ (fin : Int) < (b : Int) := fun h => d4 (Int.ofNat_lt.1 h)
  have r1 := n1 (fun h => d1 h.1); subst r1
  have r2 := n2 (fun h => d3 h.1); subst r2
  have r3 := n3 (fun h => d1 (c5.1 h.1)); subst r3
  simp only [c_slices_symMergeCmpFunc_api_SimEvent, w1, w2, w3, w4, w5, w6, w7, w8, w9, h1, h2, g4, k1, k3, k6, k7, k10, k11, k12, e1, e3, e5, evts_lo, Go.Ev.runFunc, Go.Ev.exec, Go.Ev.evOpers, Go.Ev.evOper, Go.Ev.item_op, Go.Ev.evOp, Go.Ev.Opnd.ev, Go.Ev.Env.get, Go.Ev.Env.set, Go.Ev.Env.unset, Go.Ev.look, Go.Ev.argVars, Go.Ev.bin_add, Go.Ev.bin_sub, Go.Ev.bin_eql, Go.Ev.bin_lss, Go.Ev.bin_gtr, Go.Ev.resVals, Go.Ev.resOf, Go.Ev.kill, Go.Ev.leave, Go.Ev.settle, Go.Ev.keep, Go.Ev.varsLo, Go.Ev.marksLo, Go.Ev.storeLo, Go.Ev.SObj.lo, Go.Ev.lo_v, Go.Ev.lo_tup, Go.Ev.lo_sl, Go.Ev.lo_fn, Go.Ev.los_nil, ↓Go.Ev.obind, ↓Go.Ev.itL_itB, ↓reduceIte, List.length_cons, List.length_nil, List.take_succ_cons, List.take_nil, Nat.reduceAdd, Nat.reduceEqDiff, reduceCtorEq, decide_true, decide_false, Bool.and_self, Bool.false_eq_true, and_self, Nat.zero_add, Nat.lt_add_one, eq_self]
theorem merge_way_00011 (x1 x2 y1 y2 a m b mid nn lo hi p start fin : Nat) (D D2 D3 D4 : List Evt) (N : Nums n x1 x2 y1 y2 a m b mid nn lo hi p start fin) (g1 : ¬ mid < m)
    (d1 : ¬ start < m) (d2 : ¬ m < fin) (d3 : a < start) (d4 : fin < b)
    (hfind : ∃ y, itB (exec (evL T) itL none c_slices_symMergeCmpFunc_api_SimEvent_L5) (Ev.settle [0, 1, 2, 3, 4, 18, 19, 20, 21, 22] true 1) ⟨[(0, .sl 0 g 0 n cl), (1, (.v (.int .i64 (a)))), (2, (.v (.int .i64 (m)))), (3, (.v (.int .i64 (b)))), (4, (.fn (.func n_evkey_CompareEvents) [] [])), (18, (.v (.int .i64 (mid)))), (19, (.v (.int .i64 (nn)))), (20, (.v (.int .i64 (a)))), (21, (.v (.int .i64 (m)))), (22, (.v (.int .i64 (p))))], []⟩ [.row 6 ((D).map Evt.r) g] = some y ∧
      (y.1 = .exit 8 ∧ y.2.1.marks = [] ∧ y.2.2 = [.row 6 ((D).map Evt.r) g] ∧ Ev.look y.2.1.vars 0 = some (.sl 0 g 0 n cl) ∧ Ev.look y.2.1.vars 1 = some (.v (.int .i64 (a))) ∧ Ev.look y.2.1.vars 2 = some (.v (.int .i64 (m))) ∧ Ev.look y.2.1.vars 3 = some (.v (.int .i64 (b))) ∧ Ev.look y.2.1.vars 4 = some (.fn (.func n_evkey_CompareEvents) [] []) ∧ Ev.look y.2.1.vars 18 = some (.v (.int .i64 (mid))) ∧
        Ev.look y.2.1.vars 19 = some (.v (.int .i64 (nn))) ∧ Ev.look y.2.1.vars 20 = some (.v (.int .i64 (start)))))
    (s1 : start < m → m < fin → (evL T).call n_slices_rotateCmpFunc_api_SimEvent [.sl 0 g 0 n cl, (.v (.int .i64 (start))), (.v (.int .i64 (m))), (.v (.int .i64 (fin))), (.fn (.func n_evkey_CompareEvents) [] [])] [.row 6 ((D).map Evt.r) g] = some (.tup [], [.row 6 ((D2).map Evt.r) g])) (n1 : ¬ (start < m ∧ m < fin) → D2 = D)
    (s2 : a < start → start < mid → MergeTo g cl n a start mid D2 D3) (n2 : ¬ (a < start ∧ start < mid) → D3 = D2)
    (s3 : mid < fin → fin < b → MergeTo g cl n mid fin b D3 D4) (n3 : ¬ (mid < fin ∧ fin < b) → D4 = D3) : MergeTo g cl n a m b D D4 := by
  obtain ⟨⟨y, e, σ⟩, k1, k2, k3, k4, k5, k6, k7, k8, k9, k10, k11, k12⟩ := hfind
  obtain ⟨w1, h1, w2, h2, w3, w4, w5, w6, w7, w8, w9, c5, c6⟩ := N.wraps
  simp only at k1 k2 k3 k4 k5 k6 k7 k8 k9 k10 k11 k12
  subst k2; subst k4
  unfold MergeTo at *
  rw [evL_code ext_slices_symMergeCmpFunc_api_SimEvent code_slices_symMergeCmpFunc_api_SimEvent]
  have g4 : ¬ (m : Int) > (mid : Int) := fun h => g1 (Int.ofNat_lt.1 h)
  have e1 : ¬ (start : Int) < (m : Int) := fun h => d1 (Int.ofNat_lt.1 h)
  have e2 : ¬ (m : Int) < (fin : Int) := fun h => d2 (Int.ofNat_lt.1 h)
  have e3 : (a : Int) < (start : Int) := Int.ofNat_lt.2 d3
  have e5 : ¬ (mid : Int) < (fin : Int) := fun h => d1 (c5.1 (Int.ofNat_lt.1 h))
  have e6 : ¬ (start : Int) < (mid : Int) := fun h => d2 (c6.1 (Int.ofNat_lt.1 h))
  have e4 : (fin : Int) < (b : Int) := Int.ofNat_lt.2 d4
  have r1 := n1 (fun h => d1 h.1); subst r1
  have r2 := n2 (fun h => d2 (c6.1 h.2)); subst r2
  have r3 := n3 (fun h => d1 (c5.1 h.1)); subst r3
  simp only [c_slices_symMergeCmpFunc_api_SimEvent, w1, w2, w3, w4, w5, w6, w7, w8, w9, h1, h2, g4, k1, k3, k6, k7, k10, k11, k12, e1, e3, e5, e6, evts_lo, Go.Ev.runFunc, Go.Ev.exec, Go.Ev.evOpers, Go.Ev.evOper, Go.Ev.item_op, Go.Ev.evOp, Go.Ev.Opnd.ev, Go.Ev.Env.get, Go.Ev.Env.set, Go.Ev.Env.unset, Go.Ev.look, Go.Ev.argVars, Go.Ev.bin_add, Go.Ev.bin_sub, Go.Ev.bin_eql, Go.Ev.bin_lss, Go.Ev.bin_gtr, Go.Ev.resVals, Go.Ev.resOf, Go.Ev.kill, Go.Ev.leave, Go.Ev.settle, Go.Ev.keep, Go.Ev.varsLo, Go.Ev.marksLo, Go.Ev.storeLo, Go.Ev.SObj.lo, Go.Ev.lo_v, Go.Ev.lo_tup, Go.Ev.lo_sl, Go.Ev.lo_fn, Go.Ev.los_nil, ↓Go.Ev.obind, ↓Go.Ev.itL_itB, ↓reduceIte, List.length_cons, List.length_nil, List.take_succ_cons, List.take_nil, Nat.reduceAdd, Nat.reduceEqDiff, reduceCtorEq, decide_true, decide_false, Bool.and_self, Bool.false_eq_true, and_self, Nat.zero_add, Nat.lt_add_one, eq_self]
theorem merge_way_00010 (x1 x2 y1 y2 a m b mid nn lo hi p start fin : Nat) (D D2 D3 D4 : List Evt) (N : Nums n x1 x2 y1 y2 a m b mid nn lo hi p start fin) (g1 : ¬ mid < m)
    (d1 : ¬ start < m) (d2 : ¬ m < fin) (d3 : a < start) (d4 : ¬ fin < b)
    (hfind : ∃ y, itB (exec (evL T) itL none c_slices_symMergeCmpFunc_api_SimEvent_L5) (Ev.settle [0, 1, 2, 3, 4, 18, 19, 20, 21, 22] true 1) ⟨[(0, .sl 0 g 0 n cl), (1, (.v (.int .i64 (a)))), (2, (.v (.int .i64 (m)))), (3, (.v (.int .i64 (b)))), (4, (.fn (.func n_evkey_CompareEvents) [] [])), (18, (.v (.int .i64 (mid)))), (19, (.v (.int .i64 (nn)))), (20, (.v (.int .i64 (a)))), (21, (.v (.int .i64 (m)))), (22, (.v (.int .i64 (p))))], []⟩ [.row 6 ((D).map Evt.r) g] = some y ∧
      (y.1 = .exit 8 ∧ y.2.1.marks = [] ∧ y.2.2 = [.row 6 ((D).map Evt.r) g] ∧ Ev.look y.2.1.vars 0 = some (.sl 0 g 0 n cl) ∧ Ev.look y.2.1.vars 1 = some (.v (.int .i64 (a))) ∧ Ev.look y.2.1.vars 2 = some (.v (.int .i64 (m))) ∧ Ev.look y.2.1.vars 3 = some (.v (.int .i64 (b))) ∧ Ev.look y.2.1.vars 4 = some (.fn (.func n_evkey_CompareEvents) [] []) ∧ Ev.look y.2.1.vars 18 = some (.v (.int .i64 (mid))) ∧
        Ev.look y.2.1.vars 19 = some (.v (.int .i64 (nn))) ∧ Ev.look y.2.1.vars 20 = some (.v (.int .i64 (start)))))
    (s1 : start < m → m < fin → (evL T).call n_slices_rotateCmpFunc_api_SimEvent [.sl 0 g 0 n cl, (.v (.int .i64 (start))), (.v (.int .i64 (m))), (.v (.int .i64 (fin))), (.fn (.func n_evkey_CompareEvents) [] [])] [.row 6 ((D).map Evt.r) g] = some (.tup [], [.row 6 ((D2).map Evt.r) g])) (n1 : ¬ (start < m ∧ m < fin) → D2 = D)
    (s2 : a < start → start < mid → MergeTo g cl n a start mid D2 D3) (n2 : ¬ (a < start ∧ start < mid) → D3 = D2)
    (s3 : mid < fin → fin < b → MergeTo g cl n mid fin b D3 D4) (n3 : ¬ (mid < fin ∧ fin < b) → D4 = D3) : MergeTo g cl n a m b D D4 := by
  obtain ⟨⟨y, e, σ⟩, k1, k2, k3, k4, k5, k6, k7, k8, k9, k10, k11, k12⟩ := hfind
  obtain ⟨w1, h1, w2, h2, w3, w4, w5, w6, w7, w8, w9, c5, c6⟩ := N.wraps
  simp only at k1 k2 k3 k4 k5 k6 k7 k8 k9 k10 k11 k12
  subst k2; subst k4
  unfold MergeTo at *
  rw [evL_code ext_slices_symMergeCmpFunc_api_SimEvent code_slices_symMergeCmpFunc_api_SimEvent]
  have g4 : ¬ (m : Int) > (mid : Int) := fun h => g1 (Int.ofNat_lt.1 h)
  have e1 : ¬ (start : Int) < (m : Int) := fun h => d1 (Int.ofNat_lt.1 h)
  have e2 : ¬ (m : Int) < (fin : Int) := fun h => d2 (Int.ofNat_lt.1 h)
  have e3 : (a : Int) < (start : Int) := Int.ofNat_lt.2 d3
  have e5 : ¬ (mid : Int) < (fin : Int) := fun h => d1 (c5.1 (Int.ofNat_lt.1 h))
  have e6 : ¬ (start : Int) < (mid : Int) := fun h => d2 (c6.1 (Int.ofNat_lt.1 h))
  have e4 : ¬ (fin : Int) < (b : Int) := fun h => d4 (Int.ofNat_lt.1 h)
  have r1 := n1 (fun h => d1 h.1); subst r1
  have r2 := n2 (fun h => d2 (c6.1 h.2)); subst r2
  have r3 := n3 (fun h => d1 (c5.1 h.1)); subst r3
  simp only [c_slices_symMergeCmpFunc_api_SimEvent, w1, w2, w3, w4, w5, w6, w7, w8, w9, h1, h2, g4, k1, k3, k6, k7, k10, k11, k12, e1, e3, e5, e6, evts_lo, Go.Ev.runFunc, Go.Ev.exec, Go.Ev.evOpers, Go.Ev.evOper, Go.Ev.item_op, Go.Ev.evOp, Go.Ev.Opnd.ev, Go.Ev.Env.get, Go.Ev.Env.set, Go.Ev.Env.unset, Go.Ev.look, Go.Ev.argVars, Go.Ev.bin_add, Go.Ev.bin_sub, Go.Ev.bin_eql, Go.Ev.bin_lss, Go.Ev.bin_gtr, Go.Ev.resVals, Go.Ev.resOf, Go.Ev.kill, Go.Ev.leave, Go.Ev.settle, Go.Ev.keep, Go.Ev.varsLo, Go.Ev.marksLo, Go.Ev.storeLo, Go.Ev.SObj.lo, Go.Ev.lo_v, Go.Ev.lo_tup, Go.Ev.lo_sl, Go.Ev.lo_fn, Go.Ev.los_nil, ↓Go.Ev.obind, ↓Go.Ev.itL_itB, ↓reduceIte, List.length_cons, List.length_nil, List.take_succ_cons, List.take_nil, Nat.reduceAdd, Nat.reduceEqDiff, reduceCtorEq, decide_true, decide_false, Bool.and_self, Bool.false_eq_true, and_self, Nat.zero_add, Nat.lt_add_one, eq_self]
theorem merge_way_00001 (x1 x2 y1 y2 a m b mid nn lo hi p start fin : Nat) (D D2 D3 D4 : List Evt) (N : Nums n x1 x2 y1 y2 a m b mid nn lo hi p start fin) (g1 : ¬ mid < m)
    (d1 : ¬ start < m) (d2 : ¬ m < fin) (d3 : ¬ a < start) (d4 : fin < b)
    (hfind : ∃ y, itB (exec (evL T) itL none c_slices_symMergeCmpFunc_api_SimEvent_L5) (Ev.settle [0, 1, 2, 3, 4, 18, 19, 20, 21, 22] true 1) ⟨[(0, .sl 0 g 0 n cl), (1, (.v (.int .i64 (a)))), (2, (.v (.int .i64 (m)))), (3, (.v (.int .i64 (b)))), (4, (.fn (.func n_evkey_CompareEvents) [] [])), (18, (.v (.int .i64 (mid)))), (19, (.v (.int .i64 (nn)))), (20, (.v (.int .i64 (a)))), (21, (.v (.int .i64 (m)))), (22, (.v (.int .i64 (p))))], []⟩ [.row 6 ((D).map Evt.r) g] = some y ∧
      (y.1 = .exit 8 ∧ y.2.1.marks = [] ∧ y.2.2 = [.row 6 ((D).map Evt.r) g] ∧ Ev.look y.2.1.vars 0 = some (.sl 0 g 0 n cl) ∧ Ev.look y.2.1.vars 1 = some (.v (.int .i64 (a))) ∧ Ev.look y.2.1.vars 2 = some (.v (.int .i64 (m))) ∧ Ev.look y.2.1.vars 3 = some (.v (.int .i64 (b))) ∧ Ev.look y.2.1.vars 4 = some (.fn (.func n_evkey_CompareEvents) [] []) ∧ Ev.look y.2.1.vars 18 = some (.v (.int .i64 (mid))) ∧
        Ev.look y.2.1.vars 19 = some (.v (.int .i64 (nn))) ∧ Ev.look y.2.1.vars 20 = some (.v (.int .i64 (start)))))
    (s1 : start < m → m < fin → (evL T).call n_slices_rotateCmpFunc_api_SimEvent [.sl 0 g 0 n cl, (.v (.int .i64 (start))), (.v (.int .i64 (m))), (.v (.int .i64 (fin))), (.fn (.func n_evkey_CompareEvents) [] [])] [.row 6 ((D).map Evt.r) g] = some (.tup [], [.row 6 ((D2).map Evt.r) g])) (n1 : ¬ (start < m ∧ m < fin) → D2 = D)
    (s2 : a < start → start < mid → MergeTo g cl n a start mid D2 D3) (n2 : ¬ (a < start ∧ start < mid) → D3 = D2)
    (s3 : mid < fin → fin < b → MergeTo g cl n mid fin b D3 D4) (n3 : ¬ (mid < fin ∧ fin < b) → D4 = D3) : MergeTo g cl n a m b D D4 := by
  obtain ⟨⟨y, e, σ⟩, k1, k2, k3, k4, k5, k6, k7, k8, k9, k10, k11, k12⟩ := hfind
  obtain ⟨w1, h1, w2, h2, w3, w4, w5, w6, w7, w8, w9, c5, c6⟩ := N.wraps
  simp only at k1 k2 k3 k4 k5 k6 k7 k8 k9 k10 k11 k12
  subst k2; subst k4
  unfold MergeTo at *
  rw [evL_code ext_slices_symMergeCmpFunc_api_SimEvent code_slices_symMergeCmpFunc_api_SimEvent]
  have g4 : ¬ (m : Int) > (mid : Int) := fun h => g1 (Int.ofNat_lt.1 h)
  have e1 : ¬ (start : Int) < (m : Int) := fun h => d1 (Int.ofNat_lt.1 h)
  have e2 : ¬ (m : Int) < (fin : Int) := fun h => d2 (Int.ofNat_lt.1 h)
  have e3 : ¬ (a : Int) < (start : Int) := fun h => d3 (Int.ofNat_lt.1 h)
  have e5 : ¬ (mid : Int) < (fin : Int) := fun h => d1 (c5.1 (Int.ofNat_lt.1 h))
  have e6 : ¬ (start : Int) < (mid : Int) := fun h => d2 (c6.1 (Int.ofNat_lt.1 h))
  have e4 : (fin : Int) < (b : Int) := Int.ofNat_lt.2 d4
  have r1 := n1 (fun h => d1 h.1); subst r1
  have r2 := n2 (fun h => d3 h.1); subst r2
  have r3 := n3 (fun h => d1 (c5.1 h.1)); subst r3
  simp only [c_slices_symMergeCmpFunc_api_SimEvent, w1, w2, w3, w4, w5, w6, w7, w8, w9, h1, h2, g4, k1, k3, k6, k7, k10, k11, k12, e1, e3, e5, evts_lo, Go.Ev.runFunc, Go.Ev.exec, Go.Ev.evOpers, Go.Ev.evOper, Go.Ev.item_op, Go.Ev.evOp, Go.Ev.Opnd.ev, Go.Ev.Env.get, Go.Ev.Env.set, Go.Ev.Env.unset, Go.Ev.look, Go.Ev.argVars, Go.Ev.bin_add, Go.Ev.bin_sub, Go.Ev.bin_eql, Go.Ev.bin_lss, Go.Ev.bin_gtr, Go.Ev.resVals, Go.Ev.resOf, Go.Ev.kill, Go.Ev.leave, Go.Ev.settle, Go.Ev.keep, Go.Ev.varsLo, Go.Ev.marksLo, Go.Ev.storeLo, Go.Ev.SObj.lo, Go.Ev.lo_v, Go.Ev.lo_tup, Go.Ev.lo_sl, Go.Ev.lo_fn, Go.Ev.los_nil, ↓Go.Ev.obind, ↓Go.Ev.itL_itB, ↓reduceIte, List.length_cons, List.length_nil, List.take_succ_cons, List.take_nil, Nat.reduceAdd, Nat.reduceEqDiff, reduceCtorEq, decide_true, decide_false, Bool.and_self, Bool.false_eq_true, and_self, Nat.zero_add, Nat.lt_add_one, eq_self]
theorem merge_way_00000 (x1 x2 y1 y2 a m b mid nn lo hi p start fin : Nat) (D D2 D3 D4 : List Evt) (N : Nums n x1 x2 y1 y2 a m b mid nn lo hi p start fin) (g1 : ¬ mid < m)
    (d1 : ¬ start < m) (d2 : ¬ m < fin) (d3 : ¬ a < start) (d4 : ¬ fin < b)
    (hfind : ∃ y, itB (exec (evL T) itL none c_slices_symMergeCmpFunc_api_SimEvent_L5) (Ev.settle [0, 1, 2, 3, 4, 18, 19, 20, 21, 22] true 1) ⟨[(0, .sl 0 g 0 n cl), (1, (.v (.int .i64 (a)))), (2, (.v (.int .i64 (m)))), (3, (.v (.int .i64 (b)))), (4, (.fn (.func n_evkey_CompareEvents) [] [])), (18, (.v (.int .i64 (mid)))), (19, (.v (.int .i64 (nn)))), (20, (.v (.int .i64 (a)))), (21, (.v (.int .i64 (m)))), (22, (.v (.int .i64 (p))))], []⟩ [.row 6 ((D).map Evt.r) g] = some y ∧
      (y.1 = .exit 8 ∧ y.2.1.marks = [] ∧ y.2.2 = [.row 6 ((D).map Evt.r) g] ∧ Ev.look y.2.1.vars 0 = some (.sl 0 g 0 n cl) ∧ Ev.look y.2.1.vars 1 = some (.v (.int .i64 (a))) ∧ Ev.look y.2.1.vars 2 = some (.v (.int .i64 (m))) ∧ Ev.look y.2.1.vars 3 = some (.v (.int .i64 (b))) ∧ Ev.look y.2.1.vars 4 = some (.fn (.func n_evkey_CompareEvents) [] []) ∧ Ev.look y.2.1.vars 18 = some (.v (.int .i64 (mid))) ∧
        Ev.look y.2.1.vars 19 = some (.v (.int .i64 (nn))) ∧ Ev.look y.2.1.vars 20 = some (.v (.int .i64 (start)))))
    (s1 : start < m → m < fin → (evL T).call n_slices_rotateCmpFunc_api_SimEvent [.sl 0 g 0 n cl, (.v (.int .i64 (start))), (.v (.int .i64 (m))), (.v (.int .i64 (fin))), (.fn (.func n_evkey_CompareEvents) [] [])] [.row 6 ((D).map Evt.r) g] = some (.tup [], [.row 6 ((D2).map Evt.r) g])) (n1 : ¬ (start < m ∧ m < fin) → D2 = D)
    (s2 : a < start → start < mid → MergeTo g cl n a start mid D2 D3) (n2 : ¬ (a < start ∧ start < mid) → D3 = D2)
    (s3 : mid < fin → fin < b → MergeTo g cl n mid fin b D3 D4) (n3 : ¬ (mid < fin ∧ fin < b) → D4 = D3) : MergeTo g cl n a m b D D4 := by
  obtain ⟨⟨y, e, σ⟩, k1, k2, k3, k4, k5, k6, k7, k8, k9, k10, k11, k12⟩ := hfind
  obtain ⟨w1, h1, w2, h2, w3, w4, w5, w6, w7, w8, w9, c5, c6⟩ := N.wraps
  simp only at k1 k2 k3 k4 k5 k6 k7 k8 k9 k10 k11 k12
  subst k2; subst k4
  unfold MergeTo at *
  rw [evL_code ext_slices_symMergeCmpFunc_api_SimEvent code_slices_symMergeCmpFunc_api_SimEvent]
  have g4 : ¬ (m : Int) > (mid : Int) := fun h => g1 (Int.ofNat_lt.1 h)
  have e1 : ¬ (start : Int) < (m : Int) := fun h => d1 (Int.ofNat_lt.1 h)
  have e2 : ¬ (m : Int) < (fin : Int) := fun h => d2 (Int.ofNat_lt.1 h)
  have e3 : ¬ (a : Int) < (start : Int) := fun h => d3 (Int.ofNat_lt.1 h)
  have e5 : ¬ (mid : Int) < (fin : Int) := fun h => d1 (c5.1 (Int.ofNat_lt.1 h))
  have e6 : ¬ (start : Int) < (mid : Int) := fun h => d2 (c6.1 (Int.ofNat_lt.1 h))
  have e4 : ¬ (fin : Int) < (b : Int) := fun h => d4 (Int.ofNat_lt.1 h)
  have r1 := n1 (fun h => d1 h.1); subst r1
  have r2 := n2 (fun h => d3 h.1); subst r2
  have r3 := n3 (fun h => d1 (c5.1 h.1)); subst r3
  simp only [c_slices_symMergeCmpFunc_api_SimEvent, w1, w2, w3, w4, w5, w6, w7, w8, w9, h1, h2, g4, k1, k3, k6, k7, k10, k11, k12, e1, e3, e5, evts_lo, Go.Ev.runFunc, Go.Ev.exec, Go.Ev.evOpers, Go.Ev.evOper, Go.Ev.item_op, Go.Ev.evOp, Go.Ev.Opnd.ev, Go.Ev.Env.get, Go.Ev.Env.set, Go.Ev.Env.unset, Go.Ev.look, Go.Ev.argVars, Go.Ev.bin_add, Go.Ev.bin_sub, Go.Ev.bin_eql, Go.Ev.bin_lss, Go.Ev.bin_gtr, Go.Ev.resVals, Go.Ev.resOf, Go.Ev.kill, Go.Ev.leave, Go.Ev.settle, Go.Ev.keep, Go.Ev.varsLo, Go.Ev.marksLo, Go.Ev.storeLo, Go.Ev.SObj.lo, Go.Ev.lo_v, Go.Ev.lo_tup, Go.Ev.lo_sl, Go.Ev.lo_fn, Go.Ev.los_nil, ↓Go.Ev.obind, ↓Go.Ev.itL_itB, ↓reduceIte, List.length_cons, List.length_nil, List.take_succ_cons, List.take_nil, Nat.reduceAdd, Nat.reduceEqDiff, reduceCtorEq, decide_true, decide_false, Bool.and_self, Bool.false_eq_true, and_self, Nat.zero_add, Nat.lt_add_one, eq_self]
theorem merge_way (x1 x2 y1 y2 a m b mid nn lo hi p start fin : Nat) (D D2 D3 D4 : List Evt) (N : Nums n x1 x2 y1 y2 a m b mid nn lo hi p start fin) (hlo : mid < m ∧ nn = b + lo ∧ hi = mid ∨ ¬ mid < m ∧ lo = a ∧ hi = m)
    (hfind : ∃ y, itB (exec (evL T) itL none c_slices_symMergeCmpFunc_api_SimEvent_L5) (Ev.settle [0, 1, 2, 3, 4, 18, 19, 20, 21, 22] true 1) ⟨[(0, .sl 0 g 0 n cl), (1, (.v (.int .i64 (a)))), (2, (.v (.int .i64 (m)))), (3, (.v (.int .i64 (b)))), (4, (.fn (.func n_evkey_CompareEvents) [] [])), (18, (.v (.int .i64 (mid)))), (19, (.v (.int .i64 (nn)))), (20, (.v (.int .i64 (lo)))), (21, (.v (.int .i64 (hi)))), (22, (.v (.int .i64 (p))))], []⟩ [.row 6 ((D).map Evt.r) g] = some y ∧
      (y.1 = .exit 8 ∧ y.2.1.marks = [] ∧ y.2.2 = [.row 6 ((D).map Evt.r) g] ∧ Ev.look y.2.1.vars 0 = some (.sl 0 g 0 n cl) ∧ Ev.look y.2.1.vars 1 = some (.v (.int .i64 (a))) ∧ Ev.look y.2.1.vars 2 = some (.v (.int .i64 (m))) ∧ Ev.look y.2.1.vars 3 = some (.v (.int .i64 (b))) ∧ Ev.look y.2.1.vars 4 = some (.fn (.func n_evkey_CompareEvents) [] []) ∧ Ev.look y.2.1.vars 18 = some (.v (.int .i64 (mid))) ∧
        Ev.look y.2.1.vars 19 = some (.v (.int .i64 (nn))) ∧ Ev.look y.2.1.vars 20 = some (.v (.int .i64 (start)))))
    (s1 : start < m → m < fin → (evL T).call n_slices_rotateCmpFunc_api_SimEvent [.sl 0 g 0 n cl, (.v (.int .i64 (start))), (.v (.int .i64 (m))), (.v (.int .i64 (fin))), (.fn (.func n_evkey_CompareEvents) [] [])] [.row 6 ((D).map Evt.r) g] = some (.tup [], [.row 6 ((D2).map Evt.r) g])) (n1 : ¬ (start < m ∧ m < fin) → D2 = D)
    (s2 : a < start → start < mid → MergeTo g cl n a start mid D2 D3) (n2 : ¬ (a < start ∧ start < mid) → D3 = D2)
    (s3 : mid < fin → fin < b → MergeTo g cl n mid fin b D3 D4) (n3 : ¬ (mid < fin ∧ fin < b) → D4 = D3) : MergeTo g cl n a m b D D4 := by
  rcases hlo with ⟨g1, g2, rfl⟩ | ⟨g1, rfl, rfl⟩
  · rcases Classical.em (start < m) with d1 | d1 <;> rcases Classical.em (m < fin) with d2 | d2 <;> rcases Classical.em (a < start) with d3 | d3 <;> rcases Classical.em (fin < b) with d4 | d4
    · exact merge_way_11111 g cl n x1 x2 y1 y2 a m b hi nn lo hi p start fin D D2 D3 D4 N g1 g2 d1 d2 d3 d4 hfind s1 n1 s2 n2 s3 n3
    · exact merge_way_11110 g cl n x1 x2 y1 y2 a m b hi nn lo hi p start fin D D2 D3 D4 N g1 g2 d1 d2 d3 d4 hfind s1 n1 s2 n2 s3 n3
    · exact merge_way_11101 g cl n x1 x2 y1 y2 a m b hi nn lo hi p start fin D D2 D3 D4 N g1 g2 d1 d2 d3 d4 hfind s1 n1 s2 n2 s3 n3
    · exact merge_way_11100 g cl n x1 x2 y1 y2 a m b hi nn lo hi p start fin D D2 D3 D4 N g1 g2 d1 d2 d3 d4 hfind s1 n1 s2 n2 s3 n3
    · exact merge_way_11011 g cl n x1 x2 y1 y2 a m b hi nn lo hi p start fin D D2 D3 D4 N g1 g2 d1 d2 d3 d4 hfind s1 n1 s2 n2 s3 n3
    · exact merge_way_11010 g cl n x1 x2 y1 y2 a m b hi nn lo hi p start fin D D2 D3 D4 N g1 g2 d1 d2 d3 d4 hfind s1 n1 s2 n2 s3 n3
    · exact merge_way_11001 g cl n x1 x2 y1 y2 a m b hi nn lo hi p start fin D D2 D3 D4 N g1 g2 d1 d2 d3 d4 hfind s1 n1 s2 n2 s3 n3
    · exact merge_way_11000 g cl n x1 x2 y1 y2 a m b hi nn lo hi p start fin D D2 D3 D4 N g1 g2 d1 d2 d3 d4 hfind s1 n1 s2 n2 s3 n3
    · exact merge_way_10111 g cl n x1 x2 y1 y2 a m b hi nn lo hi p start fin D D2 D3 D4 N g1 g2 d1 d2 d3 d4 hfind s1 n1 s2 n2 s3 n3
    · exact merge_way_10110 g cl n x1 x2 y1 y2 a m b hi nn lo hi p start fin D D2 D3 D4 N g1 g2 d1 d2 d3 d4 hfind s1 n1 s2 n2 s3 n3
    · exact merge_way_10101 g cl n x1 x2 y1 y2 a m b hi nn lo hi p start fin D D2 D3 D4 N g1 g2 d1 d2 d3 d4 hfind s1 n1 s2 n2 s3 n3
    · exact merge_way_10100 g cl n x1 x2 y1 y2 a m b hi nn lo hi p start fin D D2 D3 D4 N g1 g2 d1 d2 d3 d4 hfind s1 n1 s2 n2 s3 n3
    · exact merge_way_10011 g cl n x1 x2 y1 y2 a m b hi nn lo hi p start fin D D2 D3 D4 N g1 g2 d1 d2 d3 d4 hfind s1 n1 s2 n2 s3 n3
    · exact merge_way_10010 g cl n x1 x2 y1 y2 a m b hi nn lo hi p start fin D D2 D3 D4 N g1 g2 d1 d2 d3 d4 hfind s1 n1 s2 n2 s3 n3
    · exact merge_way_10001 g cl n x1 x2 y1 y2 a m b hi nn lo hi p start fin D D2 D3 D4 N g1 g2 d1 d2 d3 d4 hfind s1 n1 s2 n2 s3 n3
    · exact merge_way_10000 g cl n x1 x2 y1 y2 a m b hi nn lo hi p start fin D D2 D3 D4 N g1 g2 d1 d2 d3 d4 hfind s1 n1 s2 n2 s3 n3
  · rcases Classical.em (start < hi) with d1 | d1 <;> rcases Classical.em (hi < fin) with d2 | d2 <;> rcases Classical.em (lo < start) with d3 | d3 <;> rcases Classical.em (fin < b) with d4 | d4
    · exact merge_way_01111 g cl n x1 x2 y1 y2 lo hi b mid nn lo hi p start fin D D2 D3 D4 N g1 d1 d2 d3 d4 hfind s1 n1 s2 n2 s3 n3
    · exact merge_way_01110 g cl n x1 x2 y1 y2 lo hi b mid nn lo hi p start fin D D2 D3 D4 N g1 d1 d2 d3 d4 hfind s1 n1 s2 n2 s3 n3
    · exact merge_way_01101 g cl n x1 x2 y1 y2 lo hi b mid nn lo hi p start fin D D2 D3 D4 N g1 d1 d2 d3 d4 hfind s1 n1 s2 n2 s3 n3
    · exact merge_way_01100 g cl n x1 x2 y1 y2 lo hi b mid nn lo hi p start fin D D2 D3 D4 N g1 d1 d2 d3 d4 hfind s1 n1 s2 n2 s3 n3
    · exact merge_way_01011 g cl n x1 x2 y1 y2 lo hi b mid nn lo hi p start fin D D2 D3 D4 N g1 d1 d2 d3 d4 hfind s1 n1 s2 n2 s3 n3
    · exact merge_way_01010 g cl n x1 x2 y1 y2 lo hi b mid nn lo hi p start fin D D2 D3 D4 N g1 d1 d2 d3 d4 hfind s1 n1 s2 n2 s3 n3
    · exact merge_way_01001 g cl n x1 x2 y1 y2 lo hi b mid nn lo hi p start fin D D2 D3 D4 N g1 d1 d2 d3 d4 hfind s1 n1 s2 n2 s3 n3
    · exact merge_way_01000 g cl n x1 x2 y1 y2 lo hi b mid nn lo hi p start fin D D2 D3 D4 N g1 d1 d2 d3 d4 hfind s1 n1 s2 n2 s3 n3
    · exact merge_way_00111 g cl n x1 x2 y1 y2 lo hi b mid nn lo hi p start fin D D2 D3 D4 N g1 d1 d2 d3 d4 hfind s1 n1 s2 n2 s3 n3
    · exact merge_way_00110 g cl n x1 x2 y1 y2 lo hi b mid nn lo hi p start fin D D2 D3 D4 N g1 d1 d2 d3 d4 hfind s1 n1 s2 n2 s3 n3
    · exact merge_way_00101 g cl n x1 x2 y1 y2 lo hi b mid nn lo hi p start fin D D2 D3 D4 N g1 d1 d2 d3 d4 hfind s1 n1 s2 n2 s3 n3
    · exact merge_way_00100 g cl n x1 x2 y1 y2 lo hi b mid nn lo hi p start fin D D2 D3 D4 N g1 d1 d2 d3 d4 hfind s1 n1 s2 n2 s3 n3
    · exact merge_way_00011 g cl n x1 x2 y1 y2 lo hi b mid nn lo hi p start fin D D2 D3 D4 N g1 d1 d2 d3 d4 hfind s1 n1 s2 n2 s3 n3
    · exact merge_way_00010 g cl n x1 x2 y1 y2 lo hi b mid nn lo hi p start fin D D2 D3 D4 N g1 d1 d2 d3 d4 hfind s1 n1 s2 n2 s3 n3
    · exact merge_way_00001 g cl n x1 x2 y1 y2 lo hi b mid nn lo hi p start fin D D2 D3 D4 N g1 d1 d2 d3 d4 hfind s1 n1 s2 n2 s3 n3
    · exact merge_way_00000 g cl n x1 x2 y1 y2 lo hi b mid nn lo hi p start fin D D2 D3 D4 N g1 d1 d2 d3 d4 hfind s1 n1 s2 n2 s3 n3
end
end Go.Proofs.Ytlcakphdkpdenaa.K

namespace Go.Proofs.Ytlcakphdkpdenaa.K
open Go.Ev
set_option linter.unusedSimpArgs false
set_option linter.unusedVariables false
set_option maxRecDepth 10000
section
variable (g : Nat) (cl : Bool) (n : Nat)
theorem symMerge_ev (hb : n < 2 ^ 61) : ∀ (k : Nat) (P X Y Q : List Evt), X.length + Y.length ≤ k → 0 < X.length → 0 < Y.length → X.Pairwise leE → Y.Pairwise leE → n = (P ++ (X ++ (Y ++ Q))).length → KeysOk (P ++ (X ++ (Y ++ Q))) →
    ∀ a m b : Nat, a = P.length → m = a + X.length → b = m + Y.length → ∃ Z : List Evt, Z.Perm (X ++ Y) ∧ Z.Pairwise leE ∧ MergeTo g cl n a m b (P ++ (X ++ (Y ++ Q))) (P ++ (Z ++ Q)) := by
  intro k
  induction k with
  | zero => intro P X Y Q h1 h2 h3; omega
  | succ k ih =>
    intro P X Y Q hk hX0 hY0 hX hY hn hkeys a m b ha hm hbb
    by_cases hx : X.length = 1
    · obtain ⟨x, rfl⟩ := List.length_eq_one_iff.1 hx
      simp only [List.cons_append, List.nil_append, List.length_cons, List.length_nil] at hn hkeys hm ⊢
      exact merge_one1 g cl n P Y Q x hY hY0 hn hb hkeys a m b ha hm hbb
    by_cases hy : Y.length = 1
    · obtain ⟨y, rfl⟩ := List.length_eq_one_iff.1 hy
      simp only [List.cons_append, List.nil_append, List.length_cons, List.length_nil] at hn hkeys hbb ⊢
      exact merge_one2 g cl n P X Q y hX (by omega) hn hb hkeys a m b ha hm hbb
    have hlen : n = P.length + (X.length + (Y.length + Q.length)) := by rw [hn]; simp
    obtain ⟨mid, hmid⟩ : ∃ mid, mid = (a + b) / 2 := ⟨_, rfl⟩
    obtain ⟨nn, hnn⟩ : ∃ nn, nn = mid + m := ⟨_, rfl⟩
    obtain ⟨p, hp⟩ : ∃ p, nn = p + 1 := ⟨nn - 1, by omega⟩
    obtain ⟨lo, hi, hlo⟩ : ∃ lo hi, mid < m ∧ nn = b + lo ∧ hi = mid ∨ ¬ mid < m ∧ lo = a ∧ hi = m := by
      by_cases c : mid < m
      · exact ⟨nn - b, mid, .inl ⟨c, by omega, rfl⟩⟩
      · exact ⟨a, m, .inr ⟨c, rfl, rfl⟩⟩
    obtain ⟨y, f1, start, f2, f3, f4, f5, f6, f7, f8, f9, f10, f11, f12, f13, f14, f15, f16⟩ := merge_find3 g cl n (P ++ (X ++ (Y ++ Q))) hn hb hkeys a m b mid nn p lo hi hp (by omega) (fun c h1 h2 => by omega) (by omega) (by omega)
    obtain ⟨fin, hfin⟩ : ∃ fin, nn = start + fin := ⟨nn - start, by omega⟩
    obtain ⟨X1, X2, rfl, hX1⟩ : ∃ X1 X2, X = X1 ++ X2 ∧ X1.length = start - a := ⟨X.take (start - a), X.drop (start - a), (List.take_append_drop _ _).symm, by simp; omega⟩
    obtain ⟨Y1, Y2, rfl, hY1⟩ : ∃ Y1 Y2, Y = Y1 ++ Y2 ∧ Y1.length = fin - m := ⟨Y.take (fin - m), Y.drop (fin - m), (List.take_append_drop _ _).symm, by simp; omega⟩
    simp only [List.length_append] at hk hX0 hY0 hx hy hm hbb hlen
    obtain ⟨x1, x2, x3⟩ := List.pairwise_append.1 hX
    obtain ⟨y1, y2, y3⟩ := List.pairwise_append.1 hY
    have hst : start = a + X1.length := by omega
    have hfi : fin = m + Y1.length := by omega
    have N : Nums n X1.length X2.length Y1.length Y2.length a m b mid nn lo hi p start fin := ⟨by omega, by omega, hb, hmid, hnn, hp, hfin, hm, hbb, by omega, hst, hfi⟩
    simp only [List.append_assoc] at f1 f4 f15 f16 hn hkeys ⊢
    have hk2 : KeysOk (P ++ (X1 ++ (Y1 ++ (X2 ++ (Y2 ++ Q))))) := by
      intro z hz; refine hkeys z ?_
      simp only [List.mem_append] at hz ⊢
      rcases hz with h | h | h | h | h | h
      · exact .inl h
      · exact .inr (.inl h)
      · exact .inr (.inr (.inr (.inl h)))
      · exact .inr (.inr (.inl h))
      · exact .inr (.inr (.inr (.inr (.inl h))))
      · exact .inr (.inr (.inr (.inr (.inr h))))
    obtain ⟨Z1, p1, q1, s2, n2⟩ : ∃ Z1 : List Evt, Z1.Perm (X1 ++ Y1) ∧ Z1.Pairwise leE ∧ (a < start → start < mid → MergeTo g cl n a start mid (P ++ (X1 ++ (Y1 ++ (X2 ++ (Y2 ++ Q))))) (P ++ (Z1 ++ (X2 ++ (Y2 ++ Q))))) ∧ (¬ (a < start ∧ start < mid) → P ++ (Z1 ++ (X2 ++ (Y2 ++ Q))) = P ++ (X1 ++ (Y1 ++ (X2 ++ (Y2 ++ Q))))) := by
      by_cases c : a < start ∧ start < mid
      · obtain ⟨Z, p1, q1, r1⟩ := ih P X1 Y1 (X2 ++ (Y2 ++ Q)) (by omega) (by omega) (by omega) x1 y1 (by rw [hlen]; simp; omega) hk2 a start mid ha hst (by omega)
        exact ⟨Z, p1, q1, fun _ _ => r1, fun h => absurd c h⟩
      · refine ⟨X1 ++ Y1, .refl _, ?_, fun h1 h2 => absurd ⟨h1, h2⟩ c, fun _ => by simp⟩
        by_cases c1 : a < start
        · rw [show Y1 = [] from List.eq_nil_of_length_eq_zero (by omega), List.append_nil]; exact x1
        · rw [show X1 = [] from List.eq_nil_of_length_eq_zero (by omega), List.nil_append]; exact y1
    have lz := p1.length_eq
    rw [List.length_append] at lz
    have hk3 : KeysOk (P ++ Z1 ++ (X2 ++ (Y2 ++ Q))) := by
      intro z hz; refine hk2 z ?_
      have := p1.mem_iff (a := z)
      simp only [List.mem_append] at hz this ⊢
      rcases hz with (h | h) | h
      · exact .inl h
      · rcases this.1 h with h | h
        · exact .inr (.inl h)
        · exact .inr (.inr (.inl h))
      · exact .inr (.inr (.inr h))
    obtain ⟨Z2, p2, q2, s3, n3⟩ : ∃ Z2 : List Evt, Z2.Perm (X2 ++ Y2) ∧ Z2.Pairwise leE ∧ (mid < fin → fin < b → MergeTo g cl n mid fin b (P ++ (Z1 ++ (X2 ++ (Y2 ++ Q)))) (P ++ (Z1 ++ (Z2 ++ Q)))) ∧ (¬ (mid < fin ∧ fin < b) → P ++ (Z1 ++ (Z2 ++ Q)) = P ++ (Z1 ++ (X2 ++ (Y2 ++ Q)))) := by
      by_cases c : mid < fin ∧ fin < b
      · obtain ⟨Z, p2, q2, r2⟩ := ih (P ++ Z1) X2 Y2 Q (by omega) (by omega) (by omega) x2 y2 (by rw [hlen]; simp; omega) hk3 mid fin b (by simp; omega) (by omega) (by omega)
        simp only [List.append_assoc] at r2
        exact ⟨Z, p2, q2, fun _ _ => r2, fun h => absurd c h⟩
      · refine ⟨X2 ++ Y2, .refl _, ?_, fun h1 h2 => absurd ⟨h1, h2⟩ c, fun _ => by simp⟩
        by_cases c1 : mid < fin
        · rw [show Y2 = [] from List.eq_nil_of_length_eq_zero (by omega), List.append_nil]; exact x2
        · rw [show X2 = [] from List.eq_nil_of_length_eq_zero (by omega), List.nil_append]; exact y2
    have ms := merge_split leE_trans hX hY (Z1 := Z1) (Z2 := Z2) ?_ ?_ p1 p2 q1 q2
    · refine ⟨Z1 ++ Z2, by simpa using ms.1, ms.2, ?_⟩
      simp only [List.append_assoc]
      refine merge_way g cl n X1.length X2.length Y1.length Y2.length a m b mid nn lo hi p start fin _ _ _ _ N hlo ⟨y, f1, f2, f3, f4, f5, f6, f7, f8, f9, f10, f11, f12⟩ ?_ ?_ s2 n2 s3 n3
      · intro c1 c2
        have r := rotate_ev g cl n (P ++ X1) X2 Y1 (Y2 ++ Q) (by omega) (by omega) (by rw [hlen]; simp; omega) hb start m fin (by simp; omega) (by omega) (by omega)
        simpa only [List.append_assoc] using r
      · intro c
        by_cases c1 : start < m
        · rw [show Y1 = [] from List.eq_nil_of_length_eq_zero (by omega)]; simp
        · rw [show X2 = [] from List.eq_nil_of_length_eq_zero (by omega)]; simp
    · intro u v hu hv
      have hlt : X1.length - 1 < X1.length := (List.getElem?_eq_some_iff.1 hu).1
      have hlt2 : 0 < Y2.length := (List.getElem?_eq_some_iff.1 hv).1
      rcases f15 with h | h
      · omega
      · refine h u v ?_ ?_
        · rw [← hu]; exact get_in (L := P) (X := X1) (M := X2 ++ (Y1 ++ (Y2 ++ Q))) rfl hlt (by omega)
        · rw [← hv]; exact get_in (L := P ++ (X1 ++ (X2 ++ Y1))) (X := Y2) (M := Q) (by simp) hlt2 (by simp; omega)
    · intro u v hu hv
      have hlt : Y1.length - 1 < Y1.length := (List.getElem?_eq_some_iff.1 hu).1
      have hlt2 : 0 < X2.length := (List.getElem?_eq_some_iff.1 hv).1
      rcases f16 with h | h
      · omega
      · refine h u v ?_ ?_
        · rw [← hu]; exact get_in (L := P ++ (X1 ++ X2)) (X := Y1) (M := Y2 ++ Q) (by simp) hlt (by simp; omega)
        · rw [← hv]; exact get_in (L := P ++ X1) (X := X2) (M := Y1 ++ (Y2 ++ Q)) (by simp) hlt2 (by simp; omega)
end
end Go.Proofs.Ytlcakphdkpdenaa.K
