/- For every input the statement of this claim returns true: texts of its proof, joined (part 9). -/
import Derived.Test.YtdphbgnlmffgaaaGA06
import Derived.Test.YtdphbgnlmffgaaaGA07
set_option linter.unusedSectionVars false
set_option linter.unusedSimpArgs false
set_option linter.unusedVariables false
namespace Go.Proofs.Ytdphbgnlmffgaaa.K
open Go.Ev
set_option maxRecDepth 10000
theorem CompareEvents_ev0 (x y : Evt) (hx : x.key.length ≤ 9223372036854775807) (hy : y.key.length ≤ 9223372036854775807) :
    (evL T).call n_evkey_CompareEvents [(.agg [(.v (.int .i64 (x.time))), (.fsl ((x.key).map intC) false), (.v (.int .i64 (x.lp))), (.v (.int .i64 (x.kind))), (.v (.int .i64 (x.proc))), (.v (.int .i64 (x.arg)))]), (.agg [(.v (.int .i64 (y.time))), (.fsl ((y.key).map intC) false), (.v (.int .i64 (y.lp))), (.v (.int .i64 (y.kind))), (.v (.int .i64 (y.proc))), (.v (.int .i64 (y.arg)))])] [] = some ((.v (.int .i64 (cmpE x y))), []) := by
  obtain ⟨xt, xk, xl, xi, xp, xa⟩ := x
  obtain ⟨yt, yk, yl, yi, yp, ya⟩ := y
  have hc := cmp_Compare_ev xt yt
  have hk := evkey_CompareKeys_ev xk yk false false hx hy
  have hf := evkey_first_ev (cmpZ xt yt) (keysZ xk yk) true
  simp only [List.map_cons, List.map_nil, intC] at hf
  rw [evL_code ext_evkey_CompareEvents code_evkey_CompareEvents]
  simp only [c_evkey_CompareEvents, show ∀ v : List AV, List.replicate 2 v = [v, v] from fun _ => rfl, hc, hk, hf, cmpE, ints_lo, Ev.runFunc, Ev.exec, Ev.evOpers, Ev.evOper, Ev.item_op, Ev.item_P, Ev.evOp, Ev.evs, Ev.Opnd.ev, Ev.Env.get, Ev.Env.set, Ev.look, Ev.argVars, Ev.cellsAt, Ev.loadC, Ev.fillR, Ev.AV.cells, Ev.AV.uc, Ev.plains, Ev.AV.plain, Ev.resVals, Ev.resVal, Ev.resOf, Ev.kill, Ev.leave, Ev.storeLo, Ev.lo_v, Ev.lo_fsl, Ev.los_nil, Ev.los_cons, Ev.loss_nil, Ev.loss_cons, ↓Ev.obind, ↓reduceIte, List.length_cons, List.length_nil, List.take_nil, List.drop_succ_cons, List.drop_zero, List.set_cons_zero, List.set_cons_succ, List.head?_cons, Nat.reduceAdd, Nat.reduceEqDiff, Nat.reduceMul, Nat.reduceLT, Nat.reduceLeDiff, Nat.reducePow, reduceCtorEq, Bool.and_self, Bool.false_eq_true, and_self, ne_eq, not_false_eq_true, List.cons_ne_nil, Nat.zero_add, Nat.lt_add_one, eq_self]
section
variable (l : List Evt) (c : Bool) (x : Evt)
def At (l : List Evt) (x : Evt) (k : Nat) : Prop := k ≤ l.length ∧ (∀ u, 0 < k → l[k - 1]? = some u → cmpE u x < 0) ∧ (∀ v, l[k]? = some v → 0 ≤ cmpE v x)
theorem bs_L (hl : l.length ≤ 1000000) (hk : KeysOk l) (kx : x.key.length ≤ 9223372036854775807) :
    ∃ y, itB (exec (evL T) itL none c_slices_BinarySearchFunc_Lapi_SimEvent_api_SimEvent_api_SimEvent_L1) (Ev.settle [0, 2, 4, 8, 9, 10] true 0) ⟨[(0, (.fsl ((l).map Evt.r) c)), (2, (.fn (.func n_evkey_CompareEvents) [] [])), (4, (.fptr [(.v (.int .i64 (x.time))), (.fsl ((x.key).map intC) false), (.v (.int .i64 (x.lp))), (.v (.int .i64 (x.kind))), (.v (.int .i64 (x.proc))), (.v (.int .i64 (x.arg)))])), (8, (.v (.int .i64 (l.length)))), (9, (.v (.int .i64 (0)))), (10, (.v (.int .i64 (l.length))))], []⟩ [] = some y ∧
      ∃ k : Nat, y.1 = .exit 0 ∧ y.2.1.marks = [] ∧ y.2.2 = [] ∧ Ev.look y.2.1.vars 0 = some (.fsl ((l).map Evt.r) c) ∧ Ev.look y.2.1.vars 2 = some (.fn (.func n_evkey_CompareEvents) [] []) ∧ Ev.look y.2.1.vars 4 = some (.fptr [(.v (.int .i64 (x.time))), (.fsl ((x.key).map intC) false), (.v (.int .i64 (x.lp))), (.v (.int .i64 (x.kind))), (.v (.int .i64 (x.proc))), (.v (.int .i64 (x.arg)))]) ∧ Ev.look y.2.1.vars 8 = some (.v (.int .i64 (l.length))) ∧ Ev.look y.2.1.vars 9 = some (.v (.int .i64 (k))) ∧ At l x k := by
  have key := itB_while (f := exec (evL T) itL none c_slices_BinarySearchFunc_Lapi_SimEvent_api_SimEvent_api_SimEvent_L1) (s := Ev.settle [0, 2, 4, 8, 9, 10] true 0) (τ := Nat × Nat) (fun a => ⟨[(0, (.fsl ((l).map Evt.r) c)), (2, (.fn (.func n_evkey_CompareEvents) [] [])), (4, (.fptr [(.v (.int .i64 (x.time))), (.fsl ((x.key).map intC) false), (.v (.int .i64 (x.lp))), (.v (.int .i64 (x.kind))), (.v (.int .i64 (x.proc))), (.v (.int .i64 (x.arg)))])), (8, (.v (.int .i64 (l.length)))), (9, (.v (.int .i64 (a.1)))), (10, (.v (.int .i64 (a.2))))], []⟩) (fun _ => []) (fun a => a.2 - a.1)
    (fun a => a.1 ≤ a.2 ∧ a.2 ≤ l.length ∧ (∀ u, 0 < a.1 → l[a.1 - 1]? = some u → cmpE u x < 0) ∧ (∀ v, l[a.2]? = some v → 0 ≤ cmpE v x))
    (fun y => ∃ k : Nat, y.1 = .exit 0 ∧ y.2.1.marks = [] ∧ y.2.2 = [] ∧ Ev.look y.2.1.vars 0 = some (.fsl ((l).map Evt.r) c) ∧ Ev.look y.2.1.vars 2 = some (.fn (.func n_evkey_CompareEvents) [] []) ∧ Ev.look y.2.1.vars 4 = some (.fptr [(.v (.int .i64 (x.time))), (.fsl ((x.key).map intC) false), (.v (.int .i64 (x.lp))), (.v (.int .i64 (x.kind))), (.v (.int .i64 (x.proc))), (.v (.int .i64 (x.arg)))]) ∧ Ev.look y.2.1.vars 8 = some (.v (.int .i64 (l.length))) ∧ Ev.look y.2.1.vars 9 = some (.v (.int .i64 (k))) ∧ At l x k)
    ?_ (0, l.length) ⟨Nat.zero_le _, Nat.le_refl _, fun u h => by simp only at h; omega, fun v hv => by simp at hv⟩
  · exact key
  rintro ⟨i, j⟩ ⟨h1, h2, h3, h4⟩
  simp only at h1 h2 h3 h4 ⊢
  by_cases hij : i < j
  case neg =>
    have c1 : ¬ (i : Int) < (j : Int) := by omega
    right
    simp only [c_slices_BinarySearchFunc_Lapi_SimEvent_api_SimEvent_api_SimEvent_L1, c1, Ev.exec, Ev.evOpers, Ev.evOper, Ev.item_op, Ev.evOp, Ev.Opnd.ev, Ev.Env.get, Ev.Env.set, Ev.look, Ev.bin_lss, ↓Ev.obind, Ev.it1, ↓reduceIte, Nat.reduceEqDiff, reduceCtorEq, decide_false, Bool.false_eq_true, eq_self]
    obtain rfl : i = j := by omega
    exact ⟨_, rfl, i, rfl, rfl, rfl, rfl, rfl, rfl, rfl, rfl, by omega, h3, h4⟩
  obtain ⟨h, hh⟩ : ∃ h, h = (i + j) / 2 := ⟨_, rfl⟩
  have c1 : (i : Int) < (j : Int) := by omega
  obtain ⟨y, hy⟩ : ∃ y, l[h]? = some y := ⟨_, List.getElem?_eq_getElem (by omega)⟩
  have w1 : IntKind.i64.wrap ((i : Int) + (j : Int)) = ((i + j : Nat) : Int) := w64_add (by omega)
  have w2 : IntKind.u64.wrap ((i + j : Nat) : Int) = ((i + j : Nat) : Int) := u64_small (by omega)
  have w3 := half_bin (i + j) h hh
  have w4 : IntKind.i64.wrap (h : Int) = (h : Int) := i64_small (by omega)
  have w5 : IntKind.i64.wrap ((h : Int) + 1) = ((h + 1 : Nat) : Int) := w64_add1 (by omega)
  have ky : y.key.length ≤ 9223372036854775807 := hk y (List.mem_of_getElem? hy)
  have hc := CompareEvents_ev0 y x ky kx
  left
  by_cases hlt : cmpE y x < 0
  · refine ⟨(h + 1, j), ?_, ⟨by simp only; omega, h2, fun u _ hu => ?_, h4⟩, by simp only; omega⟩
    · clear h3 h4
      obtain ⟨xt, xk, xl, xi, xp, xa⟩ := x
      obtain ⟨yt, yk, yl, yi, yp, ya⟩ := y
      simp only at hc
      simp only [c_slices_BinarySearchFunc_Lapi_SimEvent_api_SimEvent_api_SimEvent_L1, Int.natCast_nonneg, Int.toNat_natCast, List.getElem?_map, Option.map_some, hy, c1, w1, w2, w3, w4, w5, hc, hlt, Evt.r, evts_lo, ints_lo, Ev.exec, Ev.evOpers, Ev.evOper, Ev.item_op, Ev.item_v, Ev.evOp, Ev.evs, Ev.Opnd.ev, Ev.Env.get, Ev.Env.set, Ev.look, Ev.cellsAt, Ev.loadC, Ev.bin_add, Ev.bin_lss, Ev.settle, Ev.keep, Ev.varsLo, Ev.marksLo, Ev.storeLo, Ev.lo_v, Ev.lo_fsl, Ev.lo_fptr, Ev.lo_fn, Ev.los_nil, Ev.los_cons, ↓Ev.obind, Ev.it1, ↓reduceIte, List.length_cons, List.length_nil, List.take_succ_cons, List.take_nil, List.nil_append, List.append_nil, Nat.reduceAdd, Nat.reduceEqDiff, reduceCtorEq, decide_true, Bool.and_self, and_self, Nat.zero_add, Nat.le_refl, eq_self]
    · simp only [Nat.add_sub_cancel] at hu
      rw [hy] at hu; cases hu; exact hlt
  · refine ⟨(i, h), ?_, ⟨by simp only; omega, by simp only; omega, h3, fun v hv => by simp only at hv; rw [hy] at hv; cases hv; omega⟩, by simp only; omega⟩
    clear h3 h4
    obtain ⟨xt, xk, xl, xi, xp, xa⟩ := x
    obtain ⟨yt, yk, yl, yi, yp, ya⟩ := y
    simp only at hc
    simp only [c_slices_BinarySearchFunc_Lapi_SimEvent_api_SimEvent_api_SimEvent_L1, Int.natCast_nonneg, Int.toNat_natCast, List.getElem?_map, Option.map_some, hy, c1, w1, w2, w3, w4, hc, hlt, Evt.r, evts_lo, ints_lo, Ev.exec, Ev.evOpers, Ev.evOper, Ev.item_op, Ev.item_v, Ev.evOp, Ev.evs, Ev.Opnd.ev, Ev.Env.get, Ev.Env.set, Ev.look, Ev.cellsAt, Ev.loadC, Ev.bin_add, Ev.bin_lss, Ev.settle, Ev.keep, Ev.varsLo, Ev.marksLo, Ev.storeLo, Ev.lo_v, Ev.lo_fsl, Ev.lo_fptr, Ev.lo_fn, Ev.los_nil, Ev.los_cons, ↓Ev.obind, Ev.it1, ↓reduceIte, List.length_cons, List.length_nil, List.take_succ_cons, List.take_nil, List.nil_append, List.append_nil, Nat.reduceAdd, Nat.reduceEqDiff, reduceCtorEq, decide_true, decide_false, Bool.and_self, Bool.false_eq_true, and_self, Nat.zero_add, Nat.le_refl, eq_self]
theorem bs_ev (hl : l.length ≤ 1000000) (hk : KeysOk l) (kx : x.key.length ≤ 9223372036854775807) : ∃ (k : Nat) (b : Bool), At l x k ∧
    callZ (evL T) n_slices_BinarySearchFunc_Lapi_SimEvent_api_SimEvent_api_SimEvent [(.fsl ((l).map Evt.r) c), (.agg [(.v (.int .i64 (x.time))), (.fsl ((x.key).map intC) false), (.v (.int .i64 (x.lp))), (.v (.int .i64 (x.kind))), (.v (.int .i64 (x.proc))), (.v (.int .i64 (x.arg)))]), (.fn (.func n_evkey_CompareEvents) [] [])] = some (.tup [(.v (.int .i64 (k))), (.v (.bool (b)))]) := by
  obtain ⟨⟨y, e, σ⟩, h1, k, h2, h3, h4, h5, h6, h7, h8, h9, hA⟩ := bs_L l c x hl hk kx
  simp only at h2 h3 h4 h5 h6 h7 h8 h9
  subst h2; subst h4
  refine ⟨k, match l[k]? with | some v => decide (cmpE v x = 0) | none => false, hA, ?_⟩
  rw [callZ, evL_code ext_slices_BinarySearchFunc_Lapi_SimEvent_api_SimEvent_api_SimEvent code_slices_BinarySearchFunc_Lapi_SimEvent_api_SimEvent_api_SimEvent]
  by_cases hkn : k < l.length
  · obtain ⟨v, hv⟩ : ∃ v, l[k]? = some v := ⟨_, List.getElem?_eq_getElem hkn⟩
    have c1 : (k : Int) < (l.length : Int) := by omega
    have hc := CompareEvents_ev0 v x (hk v (List.mem_of_getElem? hv)) kx
    clear hA
    obtain ⟨xt, xk, xl, xi, xp, xa⟩ := x
    obtain ⟨yt, yk, yl, yi, yp, ya⟩ := v
    simp only at hc h1 h7
    simp only [c_slices_BinarySearchFunc_Lapi_SimEvent_api_SimEvent_api_SimEvent, Int.natCast_nonneg, Int.toNat_natCast, List.getElem?_map, Option.map_some, h1, h3, h5, h6, h7, h8, h9, hv, c1, hc, Evt.r, evts_lo, ints_lo, Ev.runFunc, Ev.exec, Ev.evOpers, Ev.evOper, Ev.item_op, Ev.item_v, Ev.evOp, Ev.evs, Ev.Opnd.ev, Ev.Env.get, Ev.Env.set, Ev.look, Ev.argVars, Ev.cellsAt, Ev.loadC, Ev.AV.cells, Ev.plains, Ev.AV.plain, Ev.bin_eql, Ev.bin_lss, Ev.resVals, Ev.resVal, Ev.resOf, Ev.kill, Ev.leave, Ev.settle, Ev.keep, Ev.varsLo, Ev.marksLo, Ev.storeLo, Ev.lo_v, Ev.lo_tup, Ev.lo_fsl, Ev.lo_fptr, Ev.lo_fn, Ev.los_nil, Ev.los_cons, Ev.frz_lo, List.length_map, ↓Ev.obind, ↓Ev.itL_itB, ↓reduceIte, List.length_cons, List.length_nil, List.take_succ_cons, List.take_nil, List.nil_append, List.append_nil, Nat.reduceAdd, Nat.reduceEqDiff, reduceCtorEq, decide_true, Bool.and_self, and_self, ne_eq, not_false_eq_true, List.cons_ne_nil, Nat.zero_add, Nat.le_refl, eq_self]
  · have c1 : ¬ (k : Int) < (l.length : Int) := by omega
    have hv : l[k]? = none := List.getElem?_eq_none (by omega)
    clear hA
    obtain ⟨xt, xk, xl, xi, xp, xa⟩ := x
    simp only at h1 h7
    simp only [c_slices_BinarySearchFunc_Lapi_SimEvent_api_SimEvent_api_SimEvent, h1, h3, h8, h9, hv, c1, evts_lo, ints_lo, Ev.runFunc, Ev.exec, Ev.evOpers, Ev.evOper, Ev.item_op, Ev.evOp, Ev.Opnd.ev, Ev.Env.get, Ev.Env.set, Ev.Env.unset, Ev.look, Ev.argVars, Ev.AV.cells, Ev.plains, Ev.AV.plain, Ev.bin_lss, Ev.resVals, Ev.resVal, Ev.resOf, Ev.kill, Ev.leave, Ev.settle, Ev.keep, Ev.varsLo, Ev.marksLo, Ev.storeLo, Ev.lo_v, Ev.lo_tup, Ev.lo_fsl, Ev.lo_fptr, Ev.lo_fn, Ev.los_nil, Ev.los_cons, Ev.frz_lo, List.length_map, ↓Ev.obind, ↓Ev.itL_itB, ↓reduceIte, List.length_cons, List.length_nil, List.take_nil, Nat.reduceAdd, Nat.reduceEqDiff, reduceCtorEq, decide_false, Bool.and_self, Bool.false_eq_true, and_self, ne_eq, not_false_eq_true, List.cons_ne_nil, Nat.zero_add, eq_self]
theorem mailbox_Insert_ev (hl : l.length ≤ 1000000) (hk : KeysOk l) (kx : x.key.length ≤ 9223372036854775807) : ∃ k : Nat, At l x k ∧
    callZ (evL T) n_mailbox_Insert [(.fsl ((l).map Evt.r) c), (.agg [(.v (.int .i64 (x.time))), (.fsl ((x.key).map intC) false), (.v (.int .i64 (x.lp))), (.v (.int .i64 (x.kind))), (.v (.int .i64 (x.proc))), (.v (.int .i64 (x.arg)))])] = some (.fsl ((l.take k ++ x :: l.drop k).map Evt.r) false) := by
  obtain ⟨k, b, hA, hb⟩ := bs_ev l c x hl hk kx
  refine ⟨k, hA, ?_⟩
  have hcl := clone_evts_ev l c hl
  have hkl : k ≤ l.length := hA.1
  have ok1 := evts_ok [x]
  have ok2 := evts_ok l
  have hb2 : (l.length + 1) * 64 ≤ 2 ^ 47 := by omega
  have hins : (evL T).call n_slices_Insert_Lapi_SimEvent_api_SimEvent [.sl 0 0 0 l.length false, (.v (.int .i64 (k))), .fsl [x.r] true] [.row 6 (l.map Evt.r) 0] = some (.sl 0 2 0 (l.length + 1) false, [.row 6 ((l.take k ++ x :: l.drop k).map Evt.r) 2]) := by
    rw [evL_ins exti_slices_Insert_Lapi_SimEvent_api_SimEvent ins_slices_Insert_Lapi_SimEvent_api_SimEvent]
    simp only [insF, List.getElem?_cons_zero, Int.toNat_natCast]
    rw [if_pos ⟨trivial, trivial, trivial, by omega, by omega, by simp, by omega, hkl, ok1, by rw [List.take_of_length_le (by simp)]; exact ok2, hb2⟩]
    rw [List.map_append, List.map_cons, List.map_take, List.map_drop, List.take_of_length_le (l := l.map Evt.r) (i := l.length) (by simp)]
    rfl
  have htk : ((l.take k ++ x :: l.drop k).map Evt.r).take (l.length + 1) = (l.take k ++ x :: l.drop k).map Evt.r := List.take_of_length_le (by simp; omega)
  have hlen : l.length + 1 ≤ (l.take k ++ x :: l.drop k).length := by simp; omega
  rw [callZ, evL_code ext_mailbox_Insert code_mailbox_Insert]
  clear hA
  generalize l.take k ++ x :: l.drop k = R at *
  obtain ⟨xt, xk, xl, xi, xp, xa⟩ := x
  simp only [Evt.r] at hins
  simp only at hb
  simp only [c_mailbox_Insert, hb, hcl, hins, htk, hlen, evts_lo, ints_lo, Ev.runFunc, Ev.exec, Ev.evOpers, Ev.evOper, Ev.item_op, Ev.item_P, Ev.item_A, Ev.item_I, Ev.impO, Ev.AV.shift, Ev.evOp, Ev.evs, Ev.Opnd.ev, Ev.Env.get, Ev.Env.set, Ev.look, Ev.argVars, Ev.cellsAt, Ev.loadC, Ev.fillR, Ev.AV.cells, Ev.plains, Ev.AV.plain, Ev.resVals, Ev.resVal, Ev.resOf, Ev.kill, Ev.leave, Ev.storeLo, Ev.lo_v, Ev.lo_agg, Ev.lo_fsl, Ev.lo_sl, Ev.lo_fn, Ev.los_nil, Ev.los_cons, Ev.frz_own, Ev.omap_los, Ev.omap_nil, Ev.omap_cons, Ev.shiftss_lo, List.replicate_one, List.length_map, ↓Ev.obind, ↓reduceIte, List.length_cons, List.length_nil, List.getElem?_cons_zero, List.getElem?_cons_succ, List.take_succ_cons, List.take_zero, List.take_nil, List.drop_zero, List.nil_append, List.set_cons_zero, Nat.reduceAdd, Nat.reduceEqDiff, Nat.reduceMul, Nat.reduceLT, Nat.reduceLeDiff, Nat.reducePow, reduceCtorEq, decide_false, Bool.and_self, Bool.false_eq_true, and_self, and_true, ne_eq, not_false_eq_true, List.cons_ne_nil, Nat.zero_add, Nat.add_zero, Nat.lt_add_one, Nat.le_refl, eq_self]
end
set_option maxRecDepth 10000
theorem loss_app (n : Nat) : ∀ (a b : List (List AV)), loss n (a ++ b) = (loss n a && loss n b)
  | [], b => by simp [loss_nil]
  | x :: a, b => by rw [List.cons_append, loss_cons, loss_cons, loss_app n a b, Bool.and_assoc]
set_option maxRecDepth 10000
def Fits (l : List Evt) (x : Evt) (k : Nat) : Prop := k ≤ l.length ∧ (∀ u, 0 < k → l[k - 1]? = some u → leE u x) ∧ (∀ v, l[k]? = some v → leE x v)
theorem At.fits {l : List Evt} {x : Evt} {k : Nat} (h : At l x k) : Fits l x k :=
  ⟨h.1, fun u h0 hu => leE_of u x (h.2.1 u h0 hu), fun v hv => by have := h.2.2 v hv; have := cmpE_neg v x; unfold leE; omega⟩
theorem Fits.perm {l : List Evt} {x : Evt} {k : Nat} : (l.take k ++ x :: l.drop k).Perm (x :: l) := by
  have := List.perm_middle (a := x) (l₁ := l.take k) (l₂ := l.drop k)
  rwa [List.take_append_drop] at this
theorem Fits.sorted {l : List Evt} {x : Evt} {k : Nat} (h : Fits l x k) (hs : l.Pairwise leE) : (l.take k ++ x :: l.drop k).Pairwise leE := by
  obtain ⟨h1, h2, h3⟩ := h
  have hlen : (l.take k).length = k := by rw [List.length_take]; omega
  refine insert_split leE_trans (by rwa [List.take_append_drop]) (fun u hu => ?_) (fun v hv => ?_)
  · rw [hlen] at hu
    rw [List.getElem?_take] at hu
    split at hu
    · exact h2 u (by omega) hu
    · cases hu
  · rw [List.getElem?_drop] at hv
    exact h3 v hv
theorem Fits.eq {l : List Evt} {x : Evt} {k : Nat} (h : Fits l x k) (hs : l.Pairwise leE) (hd : Dist (x :: l)) : l.take k ++ x :: l.drop k = sortL (x :: l) :=
  sortL_unique hd Fits.perm (h.sorted hs)
section
variable (l : List Evt) (c : Bool) (x : Evt)
theorem mailbox_Insert_S (hl : l.length ≤ 1000000) (hk : KeysOk l) (kx : x.key.length ≤ 9223372036854775807) (hs : l.Pairwise leE) (hd : Dist (x :: l)) : callZ (evL T) n_mailbox_Insert [(.fsl ((l).map Evt.r) c), (.agg [(.v (.int .i64 (x.time))), (.fsl ((x.key).map intC) false), (.v (.int .i64 (x.lp))), (.v (.int .i64 (x.kind))), (.v (.int .i64 (x.proc))), (.v (.int .i64 (x.arg)))])] = some (.fsl ((sortL (x :: l)).map Evt.r) false) := by
  obtain ⟨k, hA, h⟩ := mailbox_Insert_ev l c x hl hk kx
  rw [hA.fits.eq hs hd] at h
  exact h
theorem refIns_L (hl : l.length ≤ 1000000) (hk : KeysOk l) (hkx : x.key.length ≤ 9223372036854775807) :
    ∃ y, itB (exec (evL T) itL none c_ref22_Insert_L1) (Ev.settle [0, 3, 5] true 0) ⟨[(0, (.fsl ((l).map Evt.r) c)), (3, (.fptr [(.v (.int .i64 (x.time))), (.fsl ((x.key).map intC) false), (.v (.int .i64 (x.lp))), (.v (.int .i64 (x.kind))), (.v (.int .i64 (x.proc))), (.v (.int .i64 (x.arg)))])), (5, (.v (.int .i64 (l.length))))], []⟩ [] = some y ∧
      ∃ k : Nat, y.1 = .exit 0 ∧ y.2.1.marks = [] ∧ y.2.2 = [] ∧ Ev.look y.2.1.vars 0 = some (.fsl ((l).map Evt.r) c) ∧ Ev.look y.2.1.vars 3 = some (.fptr [(.v (.int .i64 (x.time))), (.fsl ((x.key).map intC) false), (.v (.int .i64 (x.lp))), (.v (.int .i64 (x.kind))), (.v (.int .i64 (x.proc))), (.v (.int .i64 (x.arg)))]) ∧ Ev.look y.2.1.vars 5 = some (.v (.int .i64 (k))) ∧ Fits l x k := by
  refine itB_while (τ := Nat) (fun k => ⟨[(0, (.fsl ((l).map Evt.r) c)), (3, (.fptr [(.v (.int .i64 (x.time))), (.fsl ((x.key).map intC) false), (.v (.int .i64 (x.lp))), (.v (.int .i64 (x.kind))), (.v (.int .i64 (x.proc))), (.v (.int .i64 (x.arg)))])), (5, (.v (.int .i64 (k))))], []⟩) (fun _ => []) (fun k => k)
    (fun k => k ≤ l.length ∧ (∀ v, l[k]? = some v → leE x v)) _ ?_ l.length ⟨Nat.le_refl _, fun v hv => by simp at hv⟩
  rintro k ⟨h1, h2⟩
  cases k with
  | zero =>
    right
    simp only [c_ref22_Insert_L1, Int.lt_irrefl, gt_iff_lt, Ev.exec, Ev.evOpers, Ev.evOper, Ev.item_op, Ev.evOp, Ev.Opnd.ev, Ev.Env.get, Ev.Env.set, Ev.Env.unset, Ev.look, Ev.bin_gtr, ↓Ev.obind, Ev.it1, ↓reduceIte, Nat.reduceEqDiff, Int.cast_ofNat_Int, reduceCtorEq, decide_false, Bool.false_eq_true, eq_self]
    exact ⟨_, rfl, 0, rfl, rfl, rfl, rfl, rfl, rfl, Nat.zero_le _, fun u h => by omega, h2⟩
  | succ j =>
    obtain ⟨y, hy⟩ : ∃ y, l[j]? = some y := ⟨_, List.getElem?_eq_getElem (by omega)⟩
    obtain ⟨k, hk1⟩ : ∃ k, k = j + 1 := ⟨_, rfl⟩
    rw [← hk1] at h1 h2 ⊢
    have c1 : (k : Int) > 0 := by omega
    have w1 : IntKind.i64.wrap ((k : Int) - 1) = (j : Int) := w64_sub1 hk1 (by omega)
    have hc := ref03_CompareEvents_ev y x (hk y (List.mem_of_getElem? hy)) hkx
    by_cases hlt : cmpE y x > 0
    · left
      refine ⟨j, ?_, ⟨by omega, fun v hv => by rw [hy] at hv; cases hv; exact (by have := cmpE_neg y x; unfold leE; omega)⟩, by omega⟩
      clear h2
      obtain ⟨xt, xk, xl, xi, xp, xa⟩ := x
      obtain ⟨yt, yk, yl, yi, yp, ya⟩ := y
      simp only at hc
      simp only [c_ref22_Insert_L1, Int.natCast_nonneg, Int.toNat_natCast, List.getElem?_map, Option.map_some, hy, c1, w1, hc, hlt, Evt.r, evts_lo, ints_lo, Ev.exec, Ev.evOpers, Ev.evOper, Ev.item_op, Ev.item_P, Ev.evOp, Ev.evs, Ev.Opnd.ev, Ev.Env.get, Ev.Env.set, Ev.look, Ev.cellsAt, Ev.loadC, Ev.bin_sub, Ev.bin_gtr, Ev.settle, Ev.keep, Ev.varsLo, Ev.marksLo, Ev.storeLo, Ev.lo_v, Ev.lo_agg, Ev.lo_fsl, Ev.lo_fptr, Ev.los_nil, Ev.los_cons, ↓Ev.obind, Ev.it1, ↓reduceIte, List.length_cons, List.length_nil, List.take_succ_cons, List.take_nil, Nat.reduceAdd, Nat.reduceEqDiff, reduceCtorEq, decide_true, Bool.and_self, and_self, Nat.zero_add, Nat.le_refl, eq_self]
    · right
      have hle : leE y x := by unfold leE; omega
      have h3 : ∀ u, 0 < k → l[k - 1]? = some u → leE u x := fun u _ hu => by
        rw [hk1, Nat.add_sub_cancel, hy] at hu; cases hu; exact hle
      have hF : Fits l x k := ⟨h1, h3, h2⟩
      clear hle h3 h2
      obtain ⟨xt, xk, xl, xi, xp, xa⟩ := x
      obtain ⟨yt, yk, yl, yi, yp, ya⟩ := y
      simp only at hc
      simp only [c_ref22_Insert_L1, Int.natCast_nonneg, Int.toNat_natCast, List.getElem?_map, Option.map_some, hy, c1, w1, hc, hlt, Evt.r, ints_lo, Ev.exec, Ev.evOpers, Ev.evOper, Ev.item_op, Ev.item_P, Ev.evOp, Ev.evs, Ev.Opnd.ev, Ev.Env.get, Ev.Env.set, Ev.look, Ev.cellsAt, Ev.loadC, Ev.bin_sub, Ev.bin_gtr, Ev.lo_v, Ev.lo_agg, Ev.lo_fsl, Ev.los_nil, Ev.los_cons, ↓Ev.obind, Ev.it1, ↓reduceIte, List.length_cons, List.length_nil, List.take_succ_cons, List.take_nil, Nat.reduceAdd, Nat.reduceEqDiff, reduceCtorEq, decide_true, decide_false, Bool.and_self, Bool.false_eq_true, Nat.zero_add, Nat.le_refl, eq_self]
      exact ⟨_, rfl, k, rfl, rfl, rfl, rfl, rfl, rfl, hF⟩
theorem ref22_Insert_ev (hl : l.length ≤ 1000000) (hk : KeysOk l) (hkx : x.key.length ≤ 9223372036854775807) : ∃ k : Nat, Fits l x k ∧ callZ (evL T) n_ref22_Insert [(.fsl ((l).map Evt.r) c), (.agg [(.v (.int .i64 (x.time))), (.fsl ((x.key).map intC) false), (.v (.int .i64 (x.lp))), (.v (.int .i64 (x.kind))), (.v (.int .i64 (x.proc))), (.v (.int .i64 (x.arg)))])] = some (.fsl ((l.take k ++ x :: l.drop k).map Evt.r) false) := by
  obtain ⟨⟨y, e, σ⟩, k1, k, k2, k3, k4, k5, k6, k7, hF⟩ := refIns_L l c x hl hk hkx
  simp only at k1 k2 k3 k4 k5 k6 k7
  subst k2; subst k4
  refine ⟨k, hF, ?_⟩
  have hkl := hF.1
  clear hF
  obtain ⟨A, B, rfl, hA⟩ : ∃ A B, l = A ++ B ∧ A.length = k := ⟨l.take k, l.drop k, (List.take_append_drop _ _).symm, by simp; omega⟩
  subst hA
  rw [List.take_left' rfl, List.drop_left' rfl]
  have c1 : (A.length : Int) ≤ ((A ++ B).length : Int) := by rw [List.length_append]; omega
  have c2 : (0 : Int) ≤ (A.length : Int) := by omega
  have tk : List.take A.length ((A ++ B).map Evt.r) = A.map Evt.r := by rw [List.map_append]; exact List.take_left' (by simp)
  have dr : List.drop A.length ((A ++ B).map Evt.r) = B.map Evt.r := by rw [List.map_append]; exact List.drop_left' (by simp)
  have hlen : A.length + B.length ≤ 1000000 := by rw [List.length_append] at hl; exact hl
  have b1 : A.length * 64 ≤ 140737488355328 := by omega
  have b2 : (A.length + 1) * 64 ≤ 140737488355328 := by omega
  have b3 : (A.length + 1 + B.length) * 64 ≤ 140737488355328 := by omega
  have tb : List.take ((A ++ B).length - A.length) (B.map Evt.r) = B.map Evt.r := List.take_of_length_le (by simp)
  have ta : List.take A.length (A.map Evt.r) = A.map Evt.r := List.take_of_length_le (by simp)
  have ta2 : ∀ e : List AV, List.take (A.length + 1) (A.map Evt.r ++ [e]) = A.map Evt.r ++ [e] := fun e => List.take_of_length_le (by simp)
  have ta3 : ∀ e : List AV, List.take (A.length + 1 + B.length) (A.map Evt.r ++ e :: B.map Evt.r) = A.map Evt.r ++ e :: B.map Evt.r := fun e => List.take_of_length_le (by simp; omega)
  have okAB : okRows 6 ((A ++ B).map Evt.r) = true := evts_ok _
  have goal' : (AV.fsl ((A ++ x :: B).map Evt.r) false) = AV.fsl (A.map Evt.r ++ x.r :: B.map Evt.r) false := by rw [List.map_append, List.map_cons]
  have n1 : ∀ p q : Nat, p + 1 + q ≤ p + (q + 1) := fun p q => by omega
  have n2 : ∀ q : Nat, 1 + q ≤ q + 1 := fun q => by omega
  rw [goal']
  clear hl hk
  rw [callZ, evL_code ext_ref22_Insert code_ref22_Insert]
  rcases A with _ | ⟨a, A⟩ <;> rcases B with _ | ⟨b, B⟩
  · obtain ⟨xt, xk, xl, xi, xp, xa⟩ := x
    simp only [List.nil_append, List.length_nil, List.map_nil, Int.ofNat_zero] at *
    simp only [c_ref22_Insert, k1, k3, k5, k6, k7, c1, tk, dr, b1, b2, ta2, okAB, imp_self, Nat.sub_zero, Int.toNat_zero, Evt.r, ints_lo, Ev.runFunc, Ev.exec, Ev.evOpers, Ev.evOper, Ev.item_op, Ev.evOp, Ev.appE, Ev.Opnd.ev, Ev.Env.get, Ev.Env.set, Ev.look, Ev.argVars, Ev.optInt, Ev.cellsAt, Ev.content, Ev.loadC, Ev.fillR, Ev.AV.cells, Ev.plains, Ev.AV.plain, Ev.resVals, Ev.resVal, Ev.resOf, Ev.kill, Ev.leave, Ev.settle, Ev.keep, Ev.varsLo, Ev.marksLo, Ev.storeLo, Ev.lo_v, Ev.lo_fsl, Ev.lo_fptr, Ev.lo_sl, Ev.los_nil, Ev.los_cons, Ev.loss_nil, Ev.okRows_cons, Ev.frz_lo, Ev.frz_own, Ev.omap_nil, Ev.omap_cons, List.replicate_one, ↓Ev.obind, ↓Ev.itL_itB, ↓reduceIte, List.length_cons, List.length_nil, List.getElem?_cons_zero, List.take_succ_cons, List.take_zero, List.take_nil, List.drop_zero, List.nil_append, List.set_cons_zero, Nat.reduceAdd, Nat.reduceEqDiff, Nat.reduceMul, Nat.reduceLT, Nat.reduceLeDiff, Nat.reducePow, Int.cast_ofNat_Int, reduceCtorEq, decide_true, decide_false, Bool.and_self, Bool.and_true, Bool.false_eq_true, and_self, and_true, ne_eq, not_false_eq_true, List.cons_ne_nil, Nat.zero_add, Nat.add_zero, Nat.lt_add_one, Nat.le_refl, Option.isSome_some, Option.isSome_none, eq_self, implies_true]
  · generalize hRB : List.map Evt.r (b :: B) = RB at *
    have nB : ¬ RB = [] := by rw [← hRB]; simp
    have lB : RB.length = (b :: B).length := by rw [← hRB]; simp
    have oB : okRows 6 RB = true := by rw [← hRB]; exact evts_ok _
    have loB : ∀ n, loss n RB = true := fun n => by rw [← hRB]; exact evts_lo n _
    obtain ⟨xt, xk, xl, xi, xp, xa⟩ := x
    simp only [List.nil_append, List.length_nil, List.map_nil, Int.ofNat_zero, hRB, Nat.sub_zero, List.drop_zero] at *
    generalize hrb : (b :: B).length = nb at *
    simp only [c_ref22_Insert, Int.toNat_natCast, k1, k3, k5, k6, k7, c1, c2, tk, b1, b2, b3, ta, ta2, ta3, tb, okAB, imp_self, n2, Int.le_refl, Nat.sub_zero, nB, lB, loB, okRows_nil, Int.toNat_zero, Evt.r, ints_lo, Ev.runFunc, Ev.exec, Ev.evOpers, Ev.evOper, Ev.item_op, Ev.evOp, Ev.appE, Ev.Opnd.ev, Ev.Env.get, Ev.Env.set, Ev.look, Ev.argVars, Ev.optInt, Ev.cellsAt, Ev.content, Ev.loadC, Ev.fillR, Ev.AV.cells, Ev.plains, Ev.AV.plain, Ev.resVals, Ev.resVal, Ev.resOf, Ev.kill, Ev.leave, Ev.settle, Ev.keep, Ev.varsLo, Ev.marksLo, Ev.storeLo, Ev.lo_v, Ev.lo_fsl, Ev.lo_fptr, Ev.lo_sl, Ev.los_nil, Ev.los_cons, Ev.okRows_nil, Ev.okRows_cons, Ev.frz_lo, Ev.frz_own, Ev.omap_los, Ev.omap_nil, Ev.omap_cons, List.replicate_one, ↓Ev.obind, ↓Ev.itL_itB, ↓reduceIte, List.length_cons, List.length_nil, List.getElem?_cons_zero, List.take_succ_cons, List.take_zero, List.take_nil, List.drop_zero, List.cons_append, List.nil_append, List.set_cons_zero, Nat.reduceAdd, Nat.reduceEqDiff, Nat.reduceMul, Nat.reduceLT, Nat.reduceLeDiff, Nat.reducePow, reduceCtorEq, decide_true, decide_false, Bool.and_self, Bool.and_true, Bool.false_eq_true, and_self, and_true, ne_eq, not_false_eq_true, List.cons_ne_nil, Nat.zero_add, Nat.add_zero, Nat.lt_add_one, Nat.le_refl, Option.isSome_some, Option.isSome_none, eq_self, implies_true]
  · generalize hRA : List.map Evt.r (a :: A) = RA at *
    have nA : ¬ RA = [] := by rw [← hRA]; simp
    have lA : RA.length = (a :: A).length := by rw [← hRA]; simp
    have oA : okRows 6 RA = true := by rw [← hRA]; exact evts_ok _
    have loA : ∀ n, loss n RA = true := fun n => by rw [← hRA]; exact evts_lo n _
    obtain ⟨xt, xk, xl, xi, xp, xa⟩ := x
    simp only [List.append_nil, List.length_nil, List.map_nil, hRA, Nat.add_zero, Nat.sub_self] at *
    generalize hra : (a :: A).length = na at *
    simp only [c_ref22_Insert, Int.toNat_natCast, k1, k3, k5, k6, k7, c1, c2, tk, dr, b1, b2, ta2, tb, okAB, imp_self, Int.le_refl, Nat.sub_zero, nA, lA, loA, okRows_nil, List.take_nil, loss_app, Evt.r, ints_lo, Ev.runFunc, Ev.exec, Ev.evOpers, Ev.evOper, Ev.item_op, Ev.evOp, Ev.appE, Ev.Opnd.ev, Ev.Env.get, Ev.Env.set, Ev.look, Ev.argVars, Ev.optInt, Ev.cellsAt, Ev.content, Ev.loadC, Ev.fillR, Ev.AV.cells, Ev.plains, Ev.AV.plain, Ev.resVals, Ev.resVal, Ev.resOf, Ev.kill, Ev.leave, Ev.settle, Ev.keep, Ev.varsLo, Ev.marksLo, Ev.storeLo, Ev.lo_v, Ev.lo_fsl, Ev.lo_fptr, Ev.lo_sl, Ev.los_nil, Ev.los_cons, Ev.loss_nil, Ev.loss_cons, Ev.okRows_nil, Ev.okRows_cons, Ev.frz_own, Ev.omap_los, List.replicate_one, ↓Ev.obind, ↓Ev.itL_itB, ↓reduceIte, List.length_cons, List.length_nil, List.length_append, List.getElem?_cons_zero, List.take_succ_cons, List.take_zero, List.take_nil, List.drop_zero, List.nil_append, List.set_cons_zero, Nat.reduceAdd, Nat.reduceEqDiff, Nat.reduceMul, Nat.reduceLT, Nat.reduceLeDiff, Nat.reducePow, Int.reduceToNat, reduceCtorEq, decide_true, decide_false, Bool.and_self, Bool.and_true, Bool.false_eq_true, and_self, and_true, ne_eq, not_false_eq_true, List.cons_ne_nil, Nat.zero_add, Nat.add_zero, Nat.lt_add_one, Nat.le_refl, Option.isSome_some, Option.isSome_none, eq_self, implies_true]
  · generalize hRA : List.map Evt.r (a :: A) = RA at *
    generalize hRB : List.map Evt.r (b :: B) = RB at *
    have nA : ¬ RA = [] := by rw [← hRA]; simp
    have nB : ¬ RB = [] := by rw [← hRB]; simp
    have lA : RA.length = (a :: A).length := by rw [← hRA]; simp
    have lB : RB.length = (b :: B).length := by rw [← hRB]; simp
    have oA : okRows 6 RA = true := by rw [← hRA]; exact evts_ok _
    have oB : okRows 6 RB = true := by rw [← hRB]; exact evts_ok _
    have loA : ∀ n, loss n RA = true := fun n => by rw [← hRA]; exact evts_lo n _
    have loB : ∀ n, loss n RB = true := fun n => by rw [← hRB]; exact evts_lo n _
    generalize hra : (a :: A).length = na at *
    generalize hrb : (b :: B).length = nb at *
    generalize (a :: A) ++ (b :: B) = AB at *
    obtain ⟨xt, xk, xl, xi, xp, xa⟩ := x
    simp only [c_ref22_Insert, Int.toNat_natCast, k1, k3, k5, k6, k7, c1, c2, tk, dr, b1, b2, b3, ta, ta2, ta3, tb, okAB, imp_self, n1, List.append_assoc, Int.le_refl, Nat.sub_zero, nA, nB, lA, lB, oA, oB, loA, loB, loss_app, Evt.r, evts_lo, ints_lo, Ev.runFunc, Ev.exec, Ev.evOpers, Ev.evOper, Ev.item_op, Ev.evOp, Ev.appE, Ev.Opnd.ev, Ev.Env.get, Ev.Env.set, Ev.look, Ev.argVars, Ev.optInt, Ev.cellsAt, Ev.content, Ev.loadC, Ev.fillR, Ev.AV.cells, Ev.plains, Ev.AV.plain, Ev.resVals, Ev.resVal, Ev.resOf, Ev.kill, Ev.leave, Ev.settle, Ev.keep, Ev.varsLo, Ev.marksLo, Ev.storeLo, Ev.lo_v, Ev.lo_fsl, Ev.lo_fptr, Ev.lo_sl, Ev.los_nil, Ev.los_cons, Ev.loss_cons, Ev.okRows_nil, Ev.okRows_cons, Ev.frz_own, Ev.omap_los, List.replicate_one, List.length_map, ↓Ev.obind, ↓Ev.itL_itB, ↓reduceIte, List.length_cons, List.length_nil, List.length_append, List.getElem?_cons_zero, List.take_succ_cons, List.take_zero, List.take_nil, List.drop_zero, List.cons_append, List.nil_append, List.set_cons_zero, Nat.reduceAdd, Nat.reduceEqDiff, Nat.reduceMul, Nat.reduceLT, Nat.reduceLeDiff, Nat.reducePow, Int.reduceToNat, reduceCtorEq, decide_true, decide_false, Bool.and_self, Bool.and_true, Bool.false_eq_true, and_self, and_true, ne_eq, not_false_eq_true, List.cons_ne_nil, Nat.zero_add, Nat.lt_add_one, Nat.le_refl, Option.isSome_some, Option.isSome_none, eq_self, implies_true]
theorem ref22_Insert_S (hl : l.length ≤ 1000000) (hk : KeysOk l) (kx : x.key.length ≤ 9223372036854775807) (hs : l.Pairwise leE) (hd : Dist (x :: l)) : callZ (evL T) n_ref22_Insert [(.fsl ((l).map Evt.r) c), (.agg [(.v (.int .i64 (x.time))), (.fsl ((x.key).map intC) false), (.v (.int .i64 (x.lp))), (.v (.int .i64 (x.kind))), (.v (.int .i64 (x.proc))), (.v (.int .i64 (x.arg)))])] = some (.fsl ((sortL (x :: l)).map Evt.r) false) := by
  obtain ⟨k, hA, h⟩ := ref22_Insert_ev l c x hl hk kx
  rw [hA.eq hs hd] at h
  exact h
end
set_option maxRecDepth 10000
theorem Dist.sub {l m : List Evt} (h : Dist m) (s : l.Sublist m) : Dist l := List.Pairwise.sublist s h
theorem sortL_self {l : List Evt} (hd : Dist l) (hs : l.Pairwise leE) : l = sortL l := sortL_unique hd (List.Perm.refl _) hs
theorem sortL_perm_eq {l m : List Evt} (hd : Dist m) (hp : l.Perm m) : sortL l = sortL m := sortL_unique hd ((sortL_perm l).trans hp) (sortL_sorted l)
theorem sortL_length (l : List Evt) : (sortL l).length = l.length := (sortL_perm l).length_eq
theorem KeysOk.sortL {l : List Evt} (h : KeysOk l) : KeysOk (sortL l) := fun x hx => h x ((sortL_perm l).mem_iff.1 hx)
section
variable (l m : List Evt) (c d : Bool)
theorem refMerge_L (hl : (l ++ m).length ≤ 1000000) (hk : KeysOk (l ++ m)) (hs : l.Pairwise leE) (hd : Dist (l ++ m)) :
    ∃ y, itB (exec (evL T) itL none c_ref22_Merge_L1) (Ev.settle [1, 5, 6] true 0) ⟨[(1, (.fsl ((m).map Evt.r) d)), (5, (.fsl ((l).map Evt.r) c)), (6, (.v (.int .i64 (0))))], []⟩ [] = some y ∧
      ∃ cf : Bool, y.1 = .exit 0 ∧ y.2.1.marks = [] ∧ y.2.2 = [] ∧ Ev.look y.2.1.vars 5 = some (.fsl ((sortL (l ++ m)).map Evt.r) cf) := by
  have key := itB_for (f := exec (evL T) itL none c_ref22_Merge_L1) (s := Ev.settle [1, 5, 6] true 0) (α := List Evt × Bool)
    (fun i a => ⟨[(1, (.fsl ((m).map Evt.r) d)), (5, (.fsl ((a.1).map Evt.r) a.2)), (6, (.v (.int .i64 (i))))], []⟩) (fun i a => [])
    (fun i a => a.1 = sortL (l ++ m.take i)) m.length
    (fun y => ∃ cf : Bool, y.1 = .exit 0 ∧ y.2.1.marks = [] ∧ y.2.2 = [] ∧ Ev.look y.2.1.vars 5 = some (.fsl ((sortL (l ++ m)).map Evt.r) cf)) ?_ ?_ 0 (l, c) (Nat.zero_le _) (by simp only [List.take_zero, List.append_nil]; exact sortL_self (hd.sub (List.sublist_append_left l m)) hs)
  · exact key
  · rintro i ⟨acc, cf⟩ hi ha
    simp only at ha ⊢
    obtain ⟨x, hx⟩ : ∃ x, m[i]? = some x := ⟨_, List.getElem?_eq_getElem hi⟩
    have hi' : (i : Int) < (m.length : Int) := by omega
    have hw : IntKind.i64.wrap ((i : Int) + 1) = ((i + 1 : Nat) : Int) := w64_add1 (by rw [List.length_append] at hl; omega)
    have hsub : (l ++ m.take (i + 1)).Sublist (l ++ m) := List.Sublist.append_left (List.take_sublist _ _) l
    have hsub0 : (l ++ m.take i).Sublist (l ++ m) := List.Sublist.append_left (List.take_sublist _ _) l
    have hp : (x :: acc).Perm (l ++ m.take (i + 1)) := by
      rw [take_next hx, ← List.append_assoc]
      have h1 : (x :: acc).Perm (x :: (l ++ m.take i)) := List.Perm.cons x (by rw [ha]; exact sortL_perm _)
      exact h1.trans (List.perm_append_singleton x _).symm
    have hdx : Dist (x :: acc) := (hd.sub hsub).perm hp
    have hka : KeysOk acc := by rw [ha]; exact KeysOk.sortL fun z hz => hk z (hsub0.subset hz)
    have hla : acc.length ≤ 1000000 := by rw [ha, sortL_length]; exact Nat.le_trans hsub0.length_le hl
    have hins := ref22_Insert_S acc cf x hla hka (hk x (List.mem_append_right _ (List.mem_of_getElem? hx))) (by rw [ha]; exact sortL_sorted _) hdx
    refine .inl ⟨(sortL (x :: acc), false), ?_, sortL_perm_eq (hd.sub hsub) hp⟩
    clear hdx hp ha hka hla
    obtain ⟨xt, xk, xl, xi, xp, xa⟩ := x
    simp only at hins
    simp only [c_ref22_Merge_L1, Int.natCast_nonneg, Int.toNat_natCast, List.getElem?_map, Option.map_some, hx, hi', hw, hins, Evt.r, evts_lo, ints_lo, Ev.exec, Ev.evOpers, Ev.evOper, Ev.item_op, Ev.item_P, Ev.evOp, Ev.evs, Ev.Opnd.ev, Ev.Env.get, Ev.Env.set, Ev.look, Ev.cellsAt, Ev.loadC, Ev.bin_add, Ev.bin_lss, Ev.settle, Ev.keep, Ev.varsLo, Ev.marksLo, Ev.storeLo, Ev.lo_v, Ev.lo_agg, Ev.lo_fsl, Ev.los_nil, Ev.los_cons, List.length_map, ↓Ev.obind, Ev.it1, ↓reduceIte, List.length_cons, List.length_nil, List.take_succ_cons, List.take_nil, Nat.reduceAdd, Nat.reduceEqDiff, decide_true, Bool.and_self, and_self, Nat.zero_add, Nat.le_refl, eq_self]
  · rintro ⟨acc, cf⟩ ha
    rw [List.take_length] at ha
    simp only at ha
    subst ha
    simp only [c_ref22_Merge_L1, Int.lt_irrefl, Ev.exec, Ev.evOpers, Ev.evOper, Ev.item_op, Ev.evOp, Ev.Opnd.ev, Ev.Env.get, Ev.Env.set, Ev.look, Ev.bin_lss, List.length_map, ↓Ev.obind, Ev.it1, ↓reduceIte, Nat.reduceEqDiff, decide_false, Bool.false_eq_true, eq_self]
    exact ⟨_, rfl, cf, rfl, rfl, rfl, rfl⟩
theorem ref22_Merge_ev (hl : (l ++ m).length ≤ 1000000) (hk : KeysOk (l ++ m)) (hs : l.Pairwise leE) (hd : Dist (l ++ m)) : ∃ cf : Bool, callZ (evL T) n_ref22_Merge [(.fsl ((l).map Evt.r) c), (.fsl ((m).map Evt.r) d)] = some (.fsl ((sortL (l ++ m)).map Evt.r) cf) := by
  obtain ⟨⟨y, e, σ⟩, h1, cf, h2, h3, h4, h5⟩ := refMerge_L l m c d hl hk hs hd
  simp only at h2 h3 h4 h5
  subst h2; subst h4
  refine ⟨cf, ?_⟩
  rw [callZ, evL_code ext_ref22_Merge code_ref22_Merge]
  simp only [c_ref22_Merge, h1, h3, h5, evts_lo, Ev.runFunc, Ev.exec, Ev.evOpers, Ev.evOper, Ev.item_op, Ev.evOp, Ev.Opnd.ev, Ev.Env.get, Ev.Env.set, Ev.look, Ev.argVars, Ev.resVals, Ev.resVal, Ev.resOf, Ev.kill, Ev.leave, Ev.settle, Ev.keep, Ev.varsLo, Ev.marksLo, Ev.storeLo, Ev.lo_v, Ev.lo_fsl, Ev.frz_lo, ↓Ev.obind, ↓Ev.itL_itB, ↓reduceIte, List.length_cons, List.length_nil, List.take_nil, Nat.reduceAdd, Nat.reduceEqDiff, reduceCtorEq, Bool.and_self, and_self, Nat.zero_add, eq_self]
end
def cancelE (l : List Evt) (k : List Int) : List Evt × Bool := (l.eraseP (fun e => decide (e.key = k)), l.any (fun e => decide (e.key = k)))
section
variable (l : List Evt) (c : Bool) (k : List Int) (d : Bool)
theorem eraseP_at {i : Nat} {x : Evt} (h : l[i]? = some x) (hx : x.key = k) (hb : ∀ (j : Nat) (z : Evt), j < i → l[j]? = some z → ¬ z.key = k) : cancelE l k = (l.take i ++ l.drop (i + 1), true) := by
  unfold cancelE
  have hany : l.any (fun e => decide (e.key = k)) = true := List.any_eq_true.2 ⟨x, List.mem_of_getElem? h, by simpa using hx⟩
  rw [hany]
  obtain ⟨hi, hxe⟩ := List.getElem?_eq_some_iff.1 h
  have hsplit : l = l.take i ++ x :: l.drop (i + 1) := by
    rw [← hxe]; simp
  congr 1
  conv => lhs; rw [hsplit]
  rw [List.eraseP_append_right _ (fun z hz => by
    obtain ⟨j, hj⟩ := List.mem_iff_getElem?.1 hz
    rw [List.getElem?_take] at hj
    split at hj
    · simpa using hb j z (by omega) hj
    · cases hj)]
  rw [List.eraseP_cons_of_pos (by simpa using hx)]
theorem cancel_none (h : ∀ x ∈ l, ¬ x.key = k) : cancelE l k = (l, false) := by
  unfold cancelE
  rw [List.eraseP_of_forall_not (fun x hx => by simpa using h x hx)]
  congr 1
  rw [List.any_eq_false]
  exact fun x hx => by simpa using h x hx
theorem refCancel_L (hl : l.length ≤ 1000000) (hk : KeysOk l) (kk : k.length ≤ 9223372036854775807) :
    ∃ y, itB (exec (evL T) itL none c_ref22_Cancel_L1) (Ev.settle [0, 1, 6] true 0) ⟨[(0, (.fsl ((l).map Evt.r) c)), (1, (.fsl ((k).map intC) d)), (6, (.v (.int .i64 (0))))], []⟩ [] = some y ∧
      ((y.1 = .exit 0 ∧ y.2.1.marks = [] ∧ y.2.2 = [] ∧ Ev.look y.2.1.vars 0 = some (.fsl ((l).map Evt.r) c) ∧ cancelE l k = (l, false)) ∨
       ∃ (g : Nat), y.1 = .ret ∧ y.2.1.marks = [] ∧ y.2.2 = [.row 6 ((cancelE l k).1.map Evt.r) g] ∧ Ev.look y.2.1.vars 4 = some (.sl 0 g 0 (cancelE l k).1.length false) ∧ Ev.look y.2.1.vars 5 = some (.v (.bool (true))) ∧ (cancelE l k).2 = true) := by
  have key := itB_for (f := exec (evL T) itL none c_ref22_Cancel_L1) (s := Ev.settle [0, 1, 6] true 0) (α := Unit)
    (fun i a => ⟨[(0, (.fsl ((l).map Evt.r) c)), (1, (.fsl ((k).map intC) d)), (6, (.v (.int .i64 (i))))], []⟩) (fun i a => [])
    (fun i a => ∀ (j : Nat) (z : Evt), j < i → l[j]? = some z → ¬ z.key = k) l.length
    (fun y => ((y.1 = .exit 0 ∧ y.2.1.marks = [] ∧ y.2.2 = [] ∧ Ev.look y.2.1.vars 0 = some (.fsl ((l).map Evt.r) c) ∧ cancelE l k = (l, false)) ∨
       ∃ (g : Nat), y.1 = .ret ∧ y.2.1.marks = [] ∧ y.2.2 = [.row 6 ((cancelE l k).1.map Evt.r) g] ∧ Ev.look y.2.1.vars 4 = some (.sl 0 g 0 (cancelE l k).1.length false) ∧ Ev.look y.2.1.vars 5 = some (.v (.bool (true))) ∧ (cancelE l k).2 = true)) ?_ ?_ 0 () (Nat.zero_le _) (fun j z h => by omega)
  · exact key
  · rintro i _ hi hinv
    obtain ⟨x, hx⟩ : ∃ x, l[i]? = some x := ⟨_, List.getElem?_eq_getElem hi⟩
    have hi' : (i : Int) < (l.length : Int) := by omega
    have hw : IntKind.i64.wrap ((i : Int) + 1) = ((i + 1 : Nat) : Int) := w64_add1 (by omega)
    have hc := SameKey_ev x.key k false d (hk x (List.mem_of_getElem? hx)) kk
    by_cases hxk : x.key = k
    · have hE := eraseP_at l k hx hxk hinv
      rw [hE]
      refine .inr ?_
      obtain ⟨A, B, hAB, hA⟩ : ∃ A B, l = A ++ x :: B ∧ A.length = i := ⟨l.take i, l.drop (i + 1), by rw [← (List.getElem?_eq_some_iff.1 hx).2]; simp, by simp; omega⟩
      have e1 : l.take i = A := by rw [hAB]; exact List.take_left' hA
      have e2 : l.drop (i + 1) = B := by rw [hAB, ← List.singleton_append, ← List.append_assoc]; exact List.drop_left' (by simp [hA])
      rw [e1, e2]
      have c1 : (i : Int) ≤ (l.length : Int) := by omega
      have c2 : (0 : Int) ≤ (i : Int) := by omega
      have c3 : ((i + 1 : Nat) : Int) ≤ (l.length : Int) := by omega
      have c4 : (0 : Int) ≤ ((i + 1 : Nat) : Int) := by omega
      have tk : List.take i (l.map Evt.r) = A.map Evt.r := by rw [← List.map_take, e1]
      have dr : List.drop (i + 1) (l.map Evt.r) = B.map Evt.r := by rw [← List.map_drop, e2]
      have hBl : l.length - (i + 1) = B.length := by rw [← e2]; simp
      have hlen : i + B.length ≤ 1000000 := by omega
      have tb : List.take (l.length - (i + 1)) (B.map Evt.r) = B.map Evt.r := List.take_of_length_le (by simp; omega)
      have okl := evts_ok l
      have okA := evts_ok A
      have okB := evts_ok B
      have b1 : (0 + A.length) * 64 ≤ 140737488355328 := by omega
      have b2 : (A.length + B.length) * 64 ≤ 140737488355328 := by omega
      have b1' : A.length * 64 ≤ 140737488355328 := by omega
      have hd' : x.key = k := hxk
      subst hA
      have ta : List.take A.length (A.map Evt.r) = A.map Evt.r := List.take_of_length_le (by simp)
      have ta0 : List.take A.length (l.map Evt.r) = A.map Evt.r := tk
      rw [decide_eq_true hxk] at hc
      clear hE hinv hAB e1 e2
      obtain ⟨xt, xk, xl, xi, xp, xa⟩ := x
      simp only at hc
      by_cases hB0 : B = []
      · subst hB0
        simp only [List.append_nil, List.map_nil, List.length_nil, Nat.add_zero] at *
        simp only [c_ref22_Cancel_L1, Int.toNat_natCast, List.getElem?_map, Option.map_some, hx, hi', hw, hc, c1, c2, c3, c4, tk, dr, tb, okl, okA, b2, Int.le_refl, Nat.sub_zero, imp_self, okRows_nil, Int.toNat_zero, Evt.r, ints_lo, Ev.exec, Ev.evOpers, Ev.evOper, Ev.item_op, Ev.item_P, Ev.evOp, Ev.appE, Ev.evs, Ev.Opnd.ev, Ev.Env.get, Ev.Env.set, Ev.look, Ev.optInt, Ev.cellsAt, Ev.content, Ev.loadC, Ev.fillR, Ev.bin_add, Ev.bin_lss, Ev.lo_fsl, Ev.los_nil, Ev.los_cons, Ev.okRows_nil, List.replicate_zero, List.length_map, ↓Ev.obind, Ev.it1, ↓reduceIte, List.length_cons, List.length_nil, List.getElem?_cons_zero, List.drop_succ_cons, List.drop_zero, List.nil_append, List.head?_cons, Nat.reduceAdd, Nat.reduceEqDiff, Nat.reduceMul, Nat.reduceLT, Nat.reduceLeDiff, Nat.reducePow, reduceCtorEq, decide_true, Bool.and_self, Bool.and_true, Bool.false_eq_true, and_self, and_true, ne_eq, not_false_eq_true, not_true_eq_false, List.cons_ne_nil, Nat.zero_add, Nat.add_zero, Nat.le_refl, Option.isSome_some, Option.isSome_none, eq_self, implies_true, and_false]
        exact ⟨_, rfl, .inr ⟨0, rfl, rfl, rfl, rfl, rfl⟩⟩
      · have hm : ¬ B.map Evt.r = [] := by simpa using hB0
        simp only [c_ref22_Cancel_L1, Int.toNat_natCast, List.getElem?_map, Option.map_some, hx, hi', hw, hc, c1, c2, c3, c4, tk, ta, dr, tb, hm, okl, okA, okB, b2, b1', Int.le_refl, Nat.sub_zero, imp_self, Int.toNat_zero, Evt.r, ints_lo, Ev.exec, Ev.evOpers, Ev.evOper, Ev.item_op, Ev.item_P, Ev.evOp, Ev.appE, Ev.evs, Ev.Opnd.ev, Ev.Env.get, Ev.Env.set, Ev.look, Ev.optInt, Ev.cellsAt, Ev.content, Ev.loadC, Ev.fillR, Ev.bin_add, Ev.bin_lss, Ev.lo_fsl, Ev.los_nil, Ev.los_cons, List.replicate_zero, List.length_map, ↓Ev.obind, Ev.it1, ↓reduceIte, List.length_cons, List.length_nil, List.length_append, List.getElem?_cons_zero, List.drop_succ_cons, List.drop_zero, List.nil_append, List.set_cons_zero, List.head?_cons, Nat.reduceAdd, Nat.reduceEqDiff, Nat.reduceMul, Nat.reduceLT, Nat.reduceLeDiff, Nat.reducePow, reduceCtorEq, decide_true, Bool.and_self, Bool.and_true, Bool.false_eq_true, and_self, and_true, ne_eq, not_false_eq_true, not_true_eq_false, List.cons_ne_nil, Nat.zero_add, Nat.le_refl, Option.isSome_some, Option.isSome_none, eq_self, implies_true, and_false]
        exact ⟨_, rfl, .inr ⟨1, rfl, rfl, by simp only [List.map_append], by simp only [Ev.look, reduceIte]; try rfl, rfl⟩⟩
    · refine .inl ⟨(), ?_, fun j z hj hz => ?_⟩
      · rw [decide_eq_false hxk] at hc
        clear hinv
        obtain ⟨xt, xk, xl, xi, xp, xa⟩ := x
        simp only at hc
        simp only [c_ref22_Cancel_L1, Int.natCast_nonneg, Int.toNat_natCast, List.getElem?_map, Option.map_some, hx, hi', hw, hc, Evt.r, evts_lo, ints_lo, Ev.exec, Ev.evOpers, Ev.evOper, Ev.item_op, Ev.item_P, Ev.evOp, Ev.evs, Ev.Opnd.ev, Ev.Env.get, Ev.Env.set, Ev.look, Ev.cellsAt, Ev.loadC, Ev.bin_add, Ev.bin_lss, Ev.settle, Ev.keep, Ev.varsLo, Ev.marksLo, Ev.storeLo, Ev.lo_v, Ev.lo_fsl, Ev.los_nil, Ev.los_cons, List.length_map, ↓Ev.obind, Ev.it1, ↓reduceIte, List.length_cons, List.length_nil, List.take_nil, List.drop_succ_cons, List.drop_zero, List.head?_cons, Nat.reduceAdd, Nat.reduceEqDiff, reduceCtorEq, decide_true, Bool.and_self, Bool.false_eq_true, and_self, Nat.zero_add, eq_self]
      · rcases Nat.lt_or_ge j i with h1 | h1
        · exact hinv j z h1 hz
        · have : j = i := by omega
          subst this
          rw [hx] at hz; cases hz; exact hxk
  · rintro _ hinv
    simp only [c_ref22_Cancel_L1, Int.lt_irrefl, Ev.exec, Ev.evOpers, Ev.evOper, Ev.item_op, Ev.evOp, Ev.Opnd.ev, Ev.Env.get, Ev.Env.set, Ev.look, Ev.bin_lss, List.length_map, ↓Ev.obind, Ev.it1, ↓reduceIte, Nat.reduceEqDiff, reduceCtorEq, decide_false, Bool.false_eq_true, eq_self]
    exact ⟨_, rfl, .inl ⟨rfl, rfl, rfl, rfl, cancel_none l k fun x hx => by
      obtain ⟨j, hj⟩ := List.mem_iff_getElem?.1 hx
      exact hinv j x (List.getElem?_eq_some_iff.1 hj).1 hj⟩⟩
theorem ref22_Cancel_ev (hl : l.length ≤ 1000000) (hk : KeysOk l) (kk : k.length ≤ 9223372036854775807) : ∃ cf : Bool, callZ (evL T) n_ref22_Cancel [(.fsl ((l).map Evt.r) c), (.fsl ((k).map intC) d)] = some (.tup [(.fsl (((cancelE l k).1).map Evt.r) cf), (.v (.bool ((cancelE l k).2)))]) := by
  obtain ⟨⟨y, e, σ⟩, h1, h⟩ := refCancel_L l c k d hl hk kk
  rcases h with ⟨h2, h3, h4, h5, h6⟩ | ⟨g, h2, h3, h4, h5, h6, h7⟩ <;> simp only at h2 h3 h4 h5 <;> subst h2 <;> subst h4
  · rw [h6]
    refine ⟨c, ?_⟩
    rw [callZ, evL_code ext_ref22_Cancel code_ref22_Cancel]
    simp only [c_ref22_Cancel, h1, h3, h5, evts_lo, ints_lo, Ev.runFunc, Ev.exec, Ev.evOpers, Ev.evOper, Ev.item_op, Ev.evOp, Ev.Opnd.ev, Ev.Env.get, Ev.Env.set, Ev.look, Ev.argVars, Ev.resVals, Ev.resVal, Ev.resOf, Ev.kill, Ev.leave, Ev.settle, Ev.keep, Ev.varsLo, Ev.marksLo, Ev.storeLo, Ev.lo_v, Ev.lo_tup, Ev.lo_fsl, Ev.los_nil, Ev.los_cons, Ev.frz_lo, ↓Ev.obind, ↓Ev.itL_itB, ↓reduceIte, List.length_cons, List.length_nil, List.take_nil, Nat.reduceAdd, Nat.reduceEqDiff, reduceCtorEq, Bool.and_self, and_self, Nat.zero_add, eq_self]
  · rw [h7]
    refine ⟨false, ?_⟩
    rw [callZ, evL_code ext_ref22_Cancel code_ref22_Cancel]
    simp only at h6
    have htk : ((cancelE l k).1.map Evt.r).take (cancelE l k).1.length = (cancelE l k).1.map Evt.r := List.take_of_length_le (by simp)
    simp only [c_ref22_Cancel, h1, h3, h5, h6, htk, evts_lo, ints_lo, Ev.runFunc, Ev.exec, Ev.evOpers, Ev.evOper, Ev.item_op, Ev.evOp, Ev.Opnd.ev, Ev.Env.get, Ev.Env.set, Ev.look, Ev.argVars, Ev.resVals, Ev.resVal, Ev.resOf, Ev.kill, Ev.leave, Ev.settle, Ev.keep, Ev.varsLo, Ev.marksLo, Ev.storeLo, Ev.lo_v, Ev.lo_tup, Ev.lo_fsl, Ev.lo_sl, Ev.los_nil, Ev.los_cons, Ev.frz_lo, Ev.frz_tup, Ev.frz_own, Ev.omap_los, Ev.omap_nil, Ev.omap_cons, List.length_map, ↓Ev.obind, ↓Ev.itL_itB, ↓reduceIte, List.length_cons, List.length_nil, List.getElem?_cons_zero, List.take_zero, List.take_nil, List.drop_zero, Nat.reduceAdd, Nat.reduceEqDiff, Nat.reduceLT, reduceCtorEq, decide_false, Bool.and_self, Bool.and_true, Bool.false_eq_true, and_self, and_true, Nat.zero_add, Nat.le_refl, eq_self]
end
def zEvt : Evt := ⟨0, [], 0, 0, 0, 0⟩
theorem zEvt_r : zEvt.r = [(.v (.int .i64 (0))), .fsl [] false, (.v (.int .i64 (0))), (.v (.int .i64 (0))), (.v (.int .i64 (0))), (.v (.int .i64 (0)))] := rfl
set_option maxRecDepth 10000
def evtsC (l : List Evt) : List AV := [(.fsl ((l).map Evt.r) false)]
theorem evtsC_lo (n : Nat) (l : List Evt) : los n (evtsC l) = true := by simp only [evtsC, los, AV.lo, evts_lo, Bool.and_self]
theorem evss_lo (n : Nat) (l : List (List Evt)) : loss n (l.map evtsC) = true := loss_map (evtsC_lo n) l
theorem grow_ev (n : Nat) (h : n ≤ 1000000) : (evL T).call n_slices_Grow_Lapi_SimEvent_api_SimEvent [.fsl [] true, (.v (.int .i64 (n)))] [] =
    if n = 0 then some (.fsl [] true, []) else some (.sl 0 0 0 0 false, [.row 6 ((List.replicate n zEvt).map Evt.r) 0]) := by
  have c1 : ¬ (n : Int) < 0 := by omega
  have w : IntKind.i64.wrap ((n : Int) - ((0 : Nat) : Int)) = n := by rw [w64_small (by omega) (by omega)]; omega
  have w0 : IntKind.i64.wrap 0 = 0 := rfl
  have w1 : IntKind.i64.wrap ((n : Int) - 0) = n := by rw [w64_small (by omega) (by omega)]; omega
  have ok := evts_ok (List.replicate n zEvt)
  rw [List.map_replicate] at ok ⊢
  have b : n * 64 ≤ 140737488355328 := by omega
  rw [evL_code ext_slices_Grow_Lapi_SimEvent_api_SimEvent code_slices_Grow_Lapi_SimEvent_api_SimEvent]
  by_cases h0 : n = 0
  · subst h0
    rw [if_pos rfl]
    simp only [c_slices_Grow_Lapi_SimEvent_api_SimEvent, Int.lt_irrefl, w0, Int.sub_zero, gt_iff_lt, Ev.runFunc, Ev.exec, Ev.evOpers, Ev.evOper, Ev.item_op, Ev.evOp, Ev.Opnd.ev, Ev.Env.get, Ev.Env.set, Ev.look, Ev.argVars, Ev.bin_sub, Ev.bin_lss, Ev.bin_gtr, Ev.resVals, Ev.resVal, Ev.resOf, Ev.kill, Ev.leave, Ev.storeLo, Ev.lo_fsl, Ev.loss_nil, ↓Ev.obind, ↓reduceIte, List.length_cons, List.length_nil, List.take_nil, Nat.reduceAdd, Nat.reduceEqDiff, Int.cast_ofNat_Int, reduceCtorEq, decide_false, Bool.false_eq_true, and_self, Nat.zero_add, eq_self]
  · have c2 : (n : Int) > 0 := by omega
    rw [if_neg h0]
    simp only [zEvt_r] at ok ⊢
    simp only [c_slices_Grow_Lapi_SimEvent_api_SimEvent, Int.toNat_natCast, c1, c2, w0, w1, ok, b, Int.natCast_nonneg, Nat.sub_zero, Int.le_refl, Ev.runFunc, Ev.exec, Ev.evOpers, Ev.evOper, Ev.item_op, Ev.evOp, Ev.Opnd.ev, Ev.Env.get, Ev.Env.set, Ev.look, Ev.argVars, Ev.optInt, Ev.bin_sub, Ev.bin_lss, Ev.bin_gtr, Ev.resVals, Ev.resVal, Ev.resOf, Ev.kill, Ev.leave, Ev.storeLo, Ev.lo_sl, Ev.okRows_nil, ↓Ev.obind, ↓reduceIte, List.length_cons, List.length_nil, List.getElem?_cons_zero, List.take_zero, List.take_nil, List.drop_nil, List.nil_append, Nat.reduceAdd, Nat.reduceEqDiff, Nat.reduceLT, Nat.reducePow, Int.reduceSub, Int.reduceToNat, Int.cast_ofNat_Int, reduceCtorEq, decide_true, decide_false, Bool.and_self, Bool.false_eq_true, and_self, and_true, Nat.zero_add, Nat.add_zero, Option.isSome_some, Option.isSome_none, eq_self, implies_true, Bool.false_and]
set_option maxRecDepth 10000
section
variable (xs : List (List Evt)) (cl : Bool)
theorem flat_take {xs : List (List Evt)} {i : Nat} {x : List Evt} (h : xs[i]? = some x) : (xs.take (i + 1)).flatten = (xs.take i).flatten ++ x := by rw [take_next h, List.flatten_append]; simp
theorem flat_le (xs : List (List Evt)) (i : Nat) : (xs.take i).flatten.length ≤ xs.flatten.length := by
  have : xs.flatten = (xs.take i).flatten ++ (xs.drop i).flatten := by rw [← List.flatten_append, List.take_append_drop]
  rw [this, List.length_append]; omega
theorem concat_l1 (hx : xs.length ≤ 1000000) (hT : xs.flatten.length ≤ 1000000) :
    ∃ y, itB (exec (evL T) itL none c_slices_Concat_Lapi_SimEvent_api_SimEvent_L1) (Ev.settle [0, 3, 9, 10, 11] true 0) ⟨[(0, (.fsl ((xs).map evtsC) cl)), (3, (.v (.int .i64 (0)))), (9, (.fsl ((xs).map evtsC) cl)), (10, (.v (.int .i64 (xs.length)))), (11, (.v (.int .i64 (0))))], []⟩ [] = some y ∧
      y.1 = .exit 0 ∧ y.2.1.marks = [] ∧ y.2.2 = [] ∧ Ev.look y.2.1.vars 0 = some (.fsl ((xs).map evtsC) cl) ∧ Ev.look y.2.1.vars 3 = some (.v (.int .i64 (xs.flatten.length))) := by
  have key := itB_for (f := exec (evL T) itL none c_slices_Concat_Lapi_SimEvent_api_SimEvent_L1) (s := Ev.settle [0, 3, 9, 10, 11] true 0) (α := Unit)
    (fun i _ => ⟨[(0, (.fsl ((xs).map evtsC) cl)), (3, (.v (.int .i64 ((xs.take i).flatten.length)))), (9, (.fsl ((xs).map evtsC) cl)), (10, (.v (.int .i64 (xs.length)))), (11, (.v (.int .i64 (i))))], []⟩) (fun _ _ => [])
    (fun _ _ => True) xs.length (fun y => y.1 = .exit 0 ∧ y.2.1.marks = [] ∧ y.2.2 = [] ∧ Ev.look y.2.1.vars 0 = some (.fsl ((xs).map evtsC) cl) ∧ Ev.look y.2.1.vars 3 = some (.v (.int .i64 (xs.flatten.length)))) ?_ ?_ 0 () (Nat.zero_le _) trivial
  · exact key
  · rintro i _ hi _
    obtain ⟨x, hx'⟩ : ∃ x, xs[i]? = some x := ⟨_, List.getElem?_eq_getElem hi⟩
    have hi' : (i : Int) < (xs.length : Int) := by omega
    have hw : IntKind.i64.wrap ((i : Int) + 1) = ((i + 1 : Nat) : Int) := by rw [w64_small (by omega) (by omega)]; simp
    have h1 := flat_le xs (i + 1)
    rw [flat_take hx', List.length_append] at h1
    have h2 : IntKind.i64.wrap (((xs.take i).flatten.length : Int) + (x.length : Int)) = (((xs.take i).flatten.length + x.length : Nat) : Int) := w64_add (by omega)
    refine .inl ⟨(), ?_, trivial⟩
    rw [flat_take hx', List.length_append]
    generalize (xs.take i).flatten.length = m at h2 h1 ⊢
    have h3 : ¬ ((m + x.length : Nat) : Int) < 0 := by omega
    simp only [c_slices_Concat_Lapi_SimEvent_api_SimEvent_L1, Int.natCast_nonneg, Int.toNat_natCast, List.getElem?_map, Option.map_some, hx', hi', hw, h2, h3, evtsC, evss_lo, Ev.exec, Ev.evOpers, Ev.evOper, Ev.item_op, Ev.evOp, Ev.Opnd.ev, Ev.Env.get, Ev.Env.set, Ev.look, Ev.cellsAt, Ev.loadC, Ev.bin_add, Ev.bin_lss, Ev.settle, Ev.keep, Ev.varsLo, Ev.marksLo, Ev.storeLo, Ev.lo_v, Ev.lo_fsl, List.length_map, ↓Ev.obind, Ev.it1, ↓reduceIte, List.length_cons, List.length_nil, List.take_nil, List.head?_cons, Nat.reduceEqDiff, reduceCtorEq, decide_true, decide_false, Bool.and_self, Bool.false_eq_true, and_self, Nat.zero_add, eq_self]
  · rintro _ _
    simp only [c_slices_Concat_Lapi_SimEvent_api_SimEvent_L1, Int.lt_irrefl, List.take_length, Ev.exec, Ev.evOpers, Ev.evOper, Ev.item_op, Ev.evOp, Ev.Opnd.ev, Ev.Env.get, Ev.Env.set, Ev.look, Ev.bin_lss, List.take_length, ↓Ev.obind, Ev.it1, ↓reduceIte, Nat.reduceEqDiff, reduceCtorEq, decide_false, Bool.false_eq_true, eq_self]
    exact ⟨_, rfl, rfl, rfl, rfl, rfl, rfl⟩
def CInv (xs : List (List Evt)) (i : Nat) (a : AV × Store) : Prop :=
  (i = 0 ∧ xs.flatten.length = 0 ∧ a = (.fsl [] true, [])) ∨
  ∃ (g : Nat) (W : List Evt), a = (.sl 0 g 0 (xs.take i).flatten.length false, [.row 6 (W.map Evt.r) g]) ∧ (W = (xs.take i).flatten ∨ (xs.take i).flatten = [] ∧ 0 < xs.flatten.length)
theorem concat_l2 (hx : xs.length ≤ 1000000) (hT : xs.flatten.length ≤ 1000000) (a : AV × Store) (ha : CInv xs 0 a) (n : Nat) :
    ∃ y, itB (exec (evL T) itL none c_slices_Concat_Lapi_SimEvent_api_SimEvent_L2) (Ev.settle [6, 25, 26, 27] false n) ⟨[(6, a.1), (25, (.fsl ((xs).map evtsC) cl)), (26, (.v (.int .i64 (xs.length)))), (27, (.v (.int .i64 (0))))], []⟩ a.2 = some y ∧
      ∃ b, CInv xs xs.length b ∧ y.1 = .exit 2 ∧ y.2.1.marks = [] ∧ y.2.2 = b.2 ∧ Ev.look y.2.1.vars 6 = some b.1 := by
  have key := itB_for (f := exec (evL T) itL none c_slices_Concat_Lapi_SimEvent_api_SimEvent_L2) (s := Ev.settle [6, 25, 26, 27] false n) (α := AV × Store)
    (fun i a => ⟨[(6, a.1), (25, (.fsl ((xs).map evtsC) cl)), (26, (.v (.int .i64 (xs.length)))), (27, (.v (.int .i64 (i))))], []⟩) (fun _ a => a.2)
    (fun i a => CInv xs i a) xs.length (fun y => ∃ b, CInv xs xs.length b ∧ y.1 = .exit 2 ∧ y.2.1.marks = [] ∧ y.2.2 = b.2 ∧ Ev.look y.2.1.vars 6 = some b.1) ?_ ?_ 0 a (Nat.zero_le _) ha
  · exact key
  · rintro i a hi ha
    obtain ⟨x, hx'⟩ : ∃ x, xs[i]? = some x := ⟨_, List.getElem?_eq_getElem hi⟩
    have hi' : (i : Int) < (xs.length : Int) := by omega
    have hw : IntKind.i64.wrap ((i : Int) + 1) = ((i + 1 : Nat) : Int) := by rw [w64_small (by omega) (by omega)]; simp
    have h1 := flat_le xs (i + 1)
    have hfl := flat_take hx'
    rw [hfl, List.length_append] at h1
    have ok := evts_ok x
    rcases ha with ⟨hi0, h0, rfl⟩ | ⟨g, W, rfl, hW⟩
    · have hfi : (xs.take i).flatten = [] := by rw [hi0]; rfl
      have hx0 : x = [] := List.eq_nil_of_length_eq_zero (by omega)
      subst hx0
      refine .inl ⟨(.sl 0 0 0 0 false, [.row 6 [] 0]), ?_, .inr ⟨0, [], ?_, .inl ?_⟩⟩
      · simp only [c_slices_Concat_Lapi_SimEvent_api_SimEvent_L2, Int.natCast_nonneg, Int.toNat_natCast, List.getElem?_map, Option.map_some, hx', hi', hw, evtsC, List.map_nil, Nat.zero_mul, Nat.zero_le, Ev.exec, Ev.evOpers, Ev.evOper, Ev.item_op, Ev.evOp, Ev.appE, Ev.Opnd.ev, Ev.Env.get, Ev.Env.set, Ev.look, Ev.cellsAt, Ev.content, Ev.loadC, Ev.bin_add, Ev.bin_lss, Ev.settle, Ev.keep, Ev.okRows_nil, ↓Ev.obind, Ev.it1, ↓reduceIte, List.length_cons, List.length_nil, List.nil_append, List.append_nil, List.head?_cons, Nat.reduceEqDiff, Nat.reduceLT, Nat.reducePow, decide_true, Bool.false_eq_true, and_self, ne_eq, not_true_eq_false, Nat.zero_add, Nat.add_zero, eq_self, and_false]
      · rw [hfl, hfi]; simp
      · rw [hfl, hfi]; simp
    · by_cases hx0 : x = []
      · subst hx0
        rw [List.append_nil] at hfl
        refine .inl ⟨(.sl 0 g 0 (xs.take i).flatten.length false, [.row 6 (W.map Evt.r) g]), ?_, .inr ⟨g, W, by rw [hfl], by rw [hfl]; exact hW⟩⟩
        have hWl : (xs.take i).flatten.length ≤ W.length := by
          rcases hW with rfl | ⟨h, _⟩
          · exact Nat.le_refl _
          · rw [h]; exact Nat.zero_le _
        have b : (xs.take i).flatten.length * 64 ≤ 140737488355328 := by have := h1; simp at this; omega
        simp only [c_slices_Concat_Lapi_SimEvent_api_SimEvent_L2, Int.natCast_nonneg, Int.toNat_natCast, List.getElem?_map, Option.map_some, hx', hi', hw, evtsC, List.map_nil, hWl, b, Ev.exec, Ev.evOpers, Ev.evOper, Ev.item_op, Ev.evOp, Ev.appE, Ev.Opnd.ev, Ev.Env.get, Ev.Env.set, Ev.look, Ev.cellsAt, Ev.content, Ev.loadC, Ev.bin_add, Ev.bin_lss, Ev.settle, Ev.keep, Ev.okRows_nil, List.length_map, ↓Ev.obind, Ev.it1, ↓reduceIte, List.length_cons, List.length_nil, List.getElem?_cons_zero, List.head?_cons, Nat.reduceEqDiff, Nat.reducePow, decide_true, Bool.false_eq_true, and_self, Nat.zero_add, Nat.add_zero, eq_self]
      · have hWl : (xs.take i).flatten.length ≤ W.length ∧ W.take (xs.take i).flatten.length = (xs.take i).flatten := by
          rcases hW with rfl | ⟨h, _⟩
          · exact ⟨Nat.le_refl _, List.take_length⟩
          · rw [h]; exact ⟨Nat.zero_le _, rfl⟩
        obtain ⟨w1, w2⟩ := hWl
        have hm : x.map Evt.r ≠ [] := by simpa using hx0
        have w3 : (W.map Evt.r).take (xs.take i).flatten.length = ((xs.take i).flatten).map Evt.r := by rw [← List.map_take, w2]
        have b : ((xs.take i).flatten.length + x.length) * 64 ≤ 140737488355328 := by omega
        refine .inl ⟨(.sl 0 (g + 1) 0 ((xs.take i).flatten.length + x.length) false, [.row 6 (((xs.take i).flatten ++ x).map Evt.r) (g + 1)]), ?_, .inr ⟨g + 1, _, by rw [hfl, List.length_append], .inl hfl.symm⟩⟩
        rw [List.map_append]
        generalize (xs.take i).flatten = F at *
        simp only [c_slices_Concat_Lapi_SimEvent_api_SimEvent_L2, Int.natCast_nonneg, Int.toNat_natCast, List.getElem?_map, Option.map_some, hx', hi', hw, evtsC, ok, hm, w1, w3, b, Ev.exec, Ev.evOpers, Ev.evOper, Ev.item_op, Ev.evOp, Ev.appE, Ev.Opnd.ev, Ev.Env.get, Ev.Env.set, Ev.look, Ev.cellsAt, Ev.content, Ev.loadC, Ev.bin_add, Ev.bin_lss, Ev.settle, Ev.keep, List.length_map, ↓Ev.obind, Ev.it1, ↓reduceIte, List.length_cons, List.length_nil, List.getElem?_cons_zero, List.set_cons_zero, List.head?_cons, Nat.reduceEqDiff, Nat.reducePow, decide_true, Bool.false_eq_true, and_self, Nat.zero_add, eq_self]
  · rintro a ha
    simp only [c_slices_Concat_Lapi_SimEvent_api_SimEvent_L2, Int.lt_irrefl, Ev.exec, Ev.evOpers, Ev.evOper, Ev.item_op, Ev.evOp, Ev.Opnd.ev, Ev.Env.get, Ev.Env.set, Ev.look, Ev.bin_lss, ↓Ev.obind, Ev.it1, ↓reduceIte, Nat.reduceEqDiff, decide_false, Bool.false_eq_true, eq_self]
    exact ⟨_, rfl, a, ha, rfl, rfl, rfl, rfl⟩
theorem concat_ev (hx : xs.length ≤ 1000000) (hT : xs.flatten.length ≤ 1000000) (hne : xs ≠ []) :
    ∃ g : Nat, (evL T).call n_slices_Concat_Lapi_SimEvent_api_SimEvent [(.fsl ((xs).map evtsC) cl)] [] = some (.sl 0 g 0 xs.flatten.length false, [.row 6 (xs.flatten.map Evt.r) g]) := by
  obtain ⟨⟨y, e, σ⟩, k1, k2, k3, k4, k5, k6⟩ := concat_l1 xs cl hx hT
  simp only at k1 k2 k3 k4 k5 k6
  subst k2; subst k4
  have hg := grow_ev xs.flatten.length hT
  obtain ⟨a, n, ha, hc, hn⟩ : ∃ (a : AV × Store) (n : Nat), CInv xs 0 a ∧ (evL T).call n_slices_Grow_Lapi_SimEvent_api_SimEvent [.fsl [] true, (.v (.int .i64 (xs.flatten.length)))] [] = some a ∧ a.2.length = n := by
    by_cases h0 : xs.flatten.length = 0
    · exact ⟨_, _, .inl ⟨rfl, h0, rfl⟩, by rw [hg, if_pos h0], rfl⟩
    · exact ⟨(.sl 0 0 0 0 false, [.row 6 ((List.replicate xs.flatten.length zEvt).map Evt.r) 0]), _, .inr ⟨0, _, rfl, .inr ⟨rfl, by omega⟩⟩, by rw [hg, if_neg h0], rfl⟩
  obtain ⟨⟨y', e', σ'⟩, l1, b, hb, l2, l3, l4, l5⟩ := concat_l2 xs cl hx hT a ha n
  simp only at l1 l2 l3 l4 l5
  subst l2; subst l4
  have hb' : ∃ g : Nat, b = (.sl 0 g 0 xs.flatten.length false, [.row 6 (xs.flatten.map Evt.r) g]) := by
    rcases hb with ⟨h, _⟩ | ⟨g, W, rfl, hW⟩
    · exact absurd (List.eq_nil_of_length_eq_zero h) hne
    · rw [List.take_length] at hW ⊢
      rcases hW with rfl | ⟨h, h2⟩
      · exact ⟨g, rfl⟩
      · rw [h] at h2; simp at h2
  obtain ⟨g, rfl⟩ := hb'
  refine ⟨g, ?_⟩
  have himp : omap (impO 0) a.2 = some a.2 ∧ a.1.shift 0 = a.1 := by
    rcases ha with ⟨_, _, rfl⟩ | ⟨g, W, rfl, _⟩
    · exact ⟨rfl, rfl⟩
    · refine ⟨?_, rfl⟩
      simp only [impO, omap_cons, omap_nil, shiftss_lo, evts_lo, Ev.impO, Ev.omap_nil, Ev.omap_cons, Ev.shiftss_lo, ↓Ev.obind, eq_self]
  obtain ⟨i1, i2⟩ := himp
  rw [evL_code ext_slices_Concat_Lapi_SimEvent_api_SimEvent code_slices_Concat_Lapi_SimEvent_api_SimEvent]
  simp only [c_slices_Concat_Lapi_SimEvent_api_SimEvent, k1, k3, k5, k6, hc, hn, i1, i2, l1, l3, l5, evss_lo, Ev.runFunc, Ev.exec, Ev.evOpers, Ev.evOper, Ev.item_op, Ev.item_A, Ev.evOp, Ev.evs, Ev.Opnd.ev, Ev.Env.get, Ev.Env.set, Ev.look, Ev.argVars, Ev.resVals, Ev.resVal, Ev.resOf, Ev.kill, Ev.leave, Ev.settle, Ev.keep, Ev.varsLo, Ev.marksLo, Ev.storeLo, Ev.lo_v, Ev.lo_fsl, Ev.lo_sl, Ev.los_nil, Ev.los_cons, Ev.loss_nil, List.length_map, ↓Ev.obind, ↓Ev.itL_itB, ↓reduceIte, List.length_cons, List.length_nil, List.take_zero, List.take_nil, List.nil_append, Nat.reduceEqDiff, Nat.reduceLT, reduceCtorEq, decide_false, Bool.and_self, Bool.false_eq_true, and_self, and_true, Nat.zero_add, eq_self]
end
set_option maxRecDepth 10000
theorem zip_all_eq {α : Type} [DecidableEq α] : ∀ {a b : List α}, a.length = b.length → ((a.zip b).all (fun z => decide (z.1 = z.2)) = true ↔ a = b)
  | [], [], _ => by simp
  | x :: a, y :: b, h => by
    rw [List.zip_cons_cons, List.all_cons, Bool.and_eq_true, decide_eq_true_eq, zip_all_eq (a := a) (b := b) (by simpa using h), List.cons.injEq]
  | [], _ :: _, h => by simp at h
  | _ :: _, [], h => by simp at h
section
variable (a b : List Int) (c d : Bool)
theorem slices_Equal_L (hab : a.length = b.length) (hl : a.length ≤ 9223372036854775807) :
    ∃ y, itB (exec (evL T) itL none c_slices_Equal_Lint_int_L1) (Ev.settle [0, 1, 12, 13] true 0) ⟨[(0, (.fsl ((a).map intC) c)), (1, (.fsl ((b).map intC) d)), (12, (.v (.int .i64 (a.length)))), (13, (.v (.int .i64 (0))))], []⟩ [] = some y ∧ ((a.zip b).all (fun z => decide (z.1 = z.2)) = true ∧ (y.1 = .exit 0 ∧ y.2.1.marks = [] ∧ y.2.2 = []) ∨
      (a.zip b).all (fun z => decide (z.1 = z.2)) = false ∧ ∃ x, (a.zip b).find? (fun z => !decide (z.1 = z.2)) = some x ∧ (y.1 = .ret ∧ y.2.1.marks = [] ∧ y.2.2 = [] ∧ Ev.look y.2.1.vars 4 = some (.v (.bool (false))))) := by
  have hzl : (a.zip b).length = a.length := by rw [List.length_zip, ← hab, Nat.min_self]
  refine itB_find (a.zip b) (fun i => ⟨[(0, (.fsl ((a).map intC) c)), (1, (.fsl ((b).map intC) d)), (12, (.v (.int .i64 (a.length)))), (13, (.v (.int .i64 (i))))], []⟩) [] (fun z => decide (z.1 = z.2)) _ (fun _ y => _) ?_ ?_ ?_
  · intro i x hi hx hp
    rw [hzl] at hi
    have hi' : (i : Int) < (a.length : Int) := by omega
    have hw : IntKind.i64.wrap ((i : Int) + 1) = ((i + 1 : Nat) : Int) := by rw [w64_small (by omega) (by omega)]; simp
    obtain ⟨hxa, hxb⟩ := List.getElem?_zip_eq_some.1 hx
    have hp' := of_decide_eq_true hp
    simp only [c_slices_Equal_Lint_int_L1, Int.natCast_nonneg, Int.toNat_natCast, List.getElem?_map, Option.map_some, hxa, hxb, hi', hw, hp', ints_lo, intC, Ev.exec, Ev.evOpers, Ev.evOper, Ev.item_op, Ev.evOp, Ev.Opnd.ev, Ev.Env.get, Ev.Env.set, Ev.look, Ev.cellsAt, Ev.loadC, Ev.bin_add, Ev.bin_neq, Ev.bin_lss, Ev.settle, Ev.keep, Ev.varsLo, Ev.marksLo, Ev.storeLo, Ev.lo_v, Ev.lo_fsl, ↓Ev.obind, Ev.it1, ↓reduceIte, List.length_cons, List.length_nil, List.take_nil, List.head?_cons, Nat.reduceEqDiff, reduceCtorEq, decide_true, decide_false, Bool.and_self, Bool.false_eq_true, and_self, ne_eq, not_true_eq_false, Nat.zero_add, eq_self]
  · intro i x hi hx hp
    rw [hzl] at hi
    have hi' : (i : Int) < (a.length : Int) := by omega
    obtain ⟨hxa, hxb⟩ := List.getElem?_zip_eq_some.1 hx
    have hp' : ¬ x.1 = x.2 := of_decide_eq_false hp
    simp only [c_slices_Equal_Lint_int_L1, Int.natCast_nonneg, Int.toNat_natCast, List.getElem?_map, Option.map_some, hxa, hxb, hi', hp', intC, Ev.exec, Ev.evOpers, Ev.evOper, Ev.item_op, Ev.evOp, Ev.Opnd.ev, Ev.Env.get, Ev.Env.set, Ev.look, Ev.cellsAt, Ev.loadC, Ev.bin_neq, Ev.bin_lss, ↓Ev.obind, Ev.it1, ↓reduceIte, List.length_cons, List.length_nil, List.head?_cons, Nat.reduceEqDiff, reduceCtorEq, decide_true, Bool.false_eq_true, ne_eq, not_false_eq_true, Nat.zero_add, eq_self]
    exact ⟨_, rfl, rfl, rfl, rfl, rfl⟩
  · rw [hzl]
    simp only [c_slices_Equal_Lint_int_L1, Int.lt_irrefl, Ev.exec, Ev.evOpers, Ev.evOper, Ev.item_op, Ev.evOp, Ev.Opnd.ev, Ev.Env.get, Ev.Env.set, Ev.look, Ev.bin_lss, ↓Ev.obind, Ev.it1, ↓reduceIte, Nat.reduceEqDiff, reduceCtorEq, decide_false, Bool.false_eq_true, eq_self]
    exact ⟨_, rfl, rfl, rfl, rfl⟩
theorem slices_Equal_ev (hl : a.length ≤ 9223372036854775807) (hl2 : b.length ≤ 9223372036854775807) : callZ (evL T) n_slices_Equal_Lint_int [(.fsl ((a).map intC) c), (.fsl ((b).map intC) d)] = some (.v (.bool (decide (a = b)))) := by
  rw [callZ, evL_code ext_slices_Equal_Lint_int code_slices_Equal_Lint_int]
  by_cases hab : a.length = b.length
  · have hab' : (a.length : Int) = (b.length : Int) := by omega
    obtain ⟨⟨y, e, σ⟩, k1, k2⟩ := slices_Equal_L a b c d hab hl
    simp only at k2
    rcases k2 with ⟨k3, rfl, k4, rfl⟩ | ⟨k3, x, _, rfl, k4, rfl, k5⟩
    · have : a = b := (zip_all_eq hab).1 k3
      rw [hab'] at k1
      simp only [c_slices_Equal_Lint_int, this, ints_lo, Ev.runFunc, Ev.exec, Ev.evOpers, Ev.evOper, Ev.item_op, Ev.evOp, Ev.Opnd.ev, Ev.Env.get, Ev.Env.set, Ev.look, Ev.argVars, Ev.bin_neq, Ev.resVals, Ev.resVal, Ev.resOf, Ev.leave, Ev.settle, Ev.keep, Ev.varsLo, Ev.marksLo, Ev.storeLo, Ev.lo_v, Ev.lo_fsl, List.length_map, ↓Ev.obind, ↓Ev.itL_itB, ↓reduceIte, List.length_cons, List.length_nil, List.take_zero, List.take_nil, Nat.reduceAdd, Nat.reduceEqDiff, reduceCtorEq, decide_true, decide_false, Bool.and_self, Bool.false_eq_true, and_self, and_true, ne_eq, not_true_eq_false, Nat.zero_add, eq_self]
      subst this
      simp only [k1, k4, Ev.look, Ev.kill, Ev.lo_v, Ev.frz_lo, ↓reduceIte, eq_self]
    · have : ¬ a = b := fun h => by rw [(zip_all_eq hab).2 h] at k3; cases k3
      simp only [this]
      rw [hab'] at k1
      simp only [c_slices_Equal_Lint_int, hab', k1, k4, k5, ints_lo, Ev.runFunc, Ev.exec, Ev.evOpers, Ev.evOper, Ev.item_op, Ev.evOp, Ev.Opnd.ev, Ev.Env.get, Ev.Env.set, Ev.look, Ev.argVars, Ev.bin_neq, Ev.resVals, Ev.resVal, Ev.resOf, Ev.kill, Ev.leave, Ev.settle, Ev.keep, Ev.varsLo, Ev.marksLo, Ev.storeLo, Ev.lo_v, Ev.lo_fsl, Ev.frz_lo, List.length_map, ↓Ev.obind, ↓Ev.itL_itB, ↓reduceIte, List.length_cons, List.length_nil, List.take_nil, Nat.reduceAdd, Nat.reduceEqDiff, reduceCtorEq, decide_false, Bool.and_self, Bool.false_eq_true, and_self, ne_eq, not_true_eq_false, Nat.zero_add, eq_self]
  · have hab' : ¬ (a.length : Int) = (b.length : Int) := by omega
    have : ¬ a = b := fun h => hab (by rw [h])
    simp only [c_slices_Equal_Lint_int, hab', this, Ev.runFunc, Ev.exec, Ev.evOpers, Ev.evOper, Ev.item_op, Ev.evOp, Ev.Opnd.ev, Ev.Env.get, Ev.Env.set, Ev.look, Ev.argVars, Ev.bin_neq, Ev.resVals, Ev.resVal, Ev.resOf, Ev.kill, Ev.leave, Ev.storeLo, Ev.lo_v, Ev.frz_lo, List.length_map, ↓Ev.obind, ↓reduceIte, List.length_cons, List.length_nil, List.take_nil, Nat.reduceAdd, Nat.reduceEqDiff, reduceCtorEq, decide_true, decide_false, and_self, ne_eq, not_false_eq_true, Nat.zero_add, eq_self]
end
set_option maxRecDepth 10000
section
variable (l : List Evt) (c : Bool) (k : List Int) (d : Bool)
theorem cancel1_ev (x : Evt) (kx : x.key.length ≤ 9223372036854775807) (kk : k.length ≤ 9223372036854775807) : (evL T).call n_mailbox_Cancel_1 [(.agg [(.v (.int .i64 (x.time))), (.fsl ((x.key).map intC) false), (.v (.int .i64 (x.lp))), (.v (.int .i64 (x.kind))), (.v (.int .i64 (x.proc))), (.v (.int .i64 (x.arg)))]), (.fptr [(.fsl ((k).map intC) d)])] [] = some ((.v (.bool (decide (x.key = k)))), []) := by
  have h := slices_Equal_ev x.key k false d kx kk
  obtain ⟨xt, xk, xl, xi, xp, xa⟩ := x
  simp only at h
  rw [evL_code ext_mailbox_Cancel_1 code_mailbox_Cancel_1]
  simp only [c_mailbox_Cancel_1, h, ints_lo, Ev.runFunc, Ev.exec, Ev.evOpers, Ev.evOper, Ev.item_op, Ev.item_P, Ev.evOp, Ev.evs, Ev.Opnd.ev, Ev.Env.get, Ev.Env.set, Ev.look, Ev.argVars, Ev.cellsAt, Ev.loadC, Ev.AV.cells, Ev.plains, Ev.AV.plain, Ev.resVals, Ev.resVal, Ev.resOf, Ev.kill, Ev.leave, Ev.storeLo, Ev.lo_v, Ev.lo_fsl, Ev.los_nil, Ev.los_cons, ↓Ev.obind, ↓reduceIte, List.length_cons, List.length_nil, List.take_nil, List.drop_succ_cons, List.drop_zero, List.head?_cons, Nat.reduceAdd, Nat.reduceEqDiff, reduceCtorEq, Bool.and_self, Bool.false_eq_true, and_self, ne_eq, not_false_eq_true, List.cons_ne_nil, Nat.zero_add, eq_self]
theorem canIdx_L (hl : l.length ≤ 1000000) (hk : KeysOk l) (kk : k.length ≤ 9223372036854775807) :
    ∃ y, itB (exec (evL T) itL none c_slices_IndexFunc_Lapi_SimEvent_api_SimEvent_L1) (Ev.settle [0, 1, 7, 8] true 0) ⟨[(0, (.fsl ((l).map Evt.r) c)), (1, (.fn (.func n_mailbox_Cancel_1) [] [(.fptr [(.fsl ((k).map intC) d)])])), (7, (.v (.int .i64 (l.length)))), (8, (.v (.int .i64 (0))))], []⟩ [] = some y ∧
      ((y.1 = .exit 0 ∧ y.2.1.marks = [] ∧ y.2.2 = [] ∧ cancelE l k = (l, false)) ∨
       ∃ (i : Nat) (x : Evt), y.1 = .ret ∧ y.2.1.marks = [] ∧ y.2.2 = [] ∧ Ev.look y.2.1.vars 4 = some (.v (.int .i64 (i))) ∧ l[i]? = some x ∧ cancelE l k = (l.take i ++ l.drop (i + 1), true)) := by
  have key := itB_for (f := exec (evL T) itL none c_slices_IndexFunc_Lapi_SimEvent_api_SimEvent_L1) (s := Ev.settle [0, 1, 7, 8] true 0) (α := Unit)
    (fun i a => ⟨[(0, (.fsl ((l).map Evt.r) c)), (1, (.fn (.func n_mailbox_Cancel_1) [] [(.fptr [(.fsl ((k).map intC) d)])])), (7, (.v (.int .i64 (l.length)))), (8, (.v (.int .i64 (i))))], []⟩) (fun i a => [])
    (fun i a => ∀ (j : Nat) (z : Evt), j < i → l[j]? = some z → ¬ z.key = k) l.length
    (fun y => ((y.1 = .exit 0 ∧ y.2.1.marks = [] ∧ y.2.2 = [] ∧ cancelE l k = (l, false)) ∨
       ∃ (i : Nat) (x : Evt), y.1 = .ret ∧ y.2.1.marks = [] ∧ y.2.2 = [] ∧ Ev.look y.2.1.vars 4 = some (.v (.int .i64 (i))) ∧ l[i]? = some x ∧ cancelE l k = (l.take i ++ l.drop (i + 1), true))) ?_ ?_ 0 () (Nat.zero_le _) (fun j z h => by omega)
  · exact key
  · rintro i _ hi hinv
    obtain ⟨x, hx⟩ : ∃ x, l[i]? = some x := ⟨_, List.getElem?_eq_getElem hi⟩
    have hi' : (i : Int) < (l.length : Int) := by omega
    have hw : IntKind.i64.wrap ((i : Int) + 1) = ((i + 1 : Nat) : Int) := w64_add1 (by omega)
    have hc := cancel1_ev k d x (hk x (List.mem_of_getElem? hx)) kk
    by_cases hxk : x.key = k
    · have hE := eraseP_at l k hx hxk hinv
      rw [decide_eq_true hxk] at hc
      refine .inr ?_
      generalize cancelE l k = R at *
      have hx' := hx
      clear hinv hxk
      obtain ⟨xt, xk, xl, xi, xp, xa⟩ := x
      simp only at hc
      simp only [c_slices_IndexFunc_Lapi_SimEvent_api_SimEvent_L1, Int.natCast_nonneg, Int.toNat_natCast, List.getElem?_map, Option.map_some, hx, hi', hc, Evt.r, Ev.exec, Ev.evOpers, Ev.evOper, Ev.item_op, Ev.item_v, Ev.evOp, Ev.evs, Ev.Opnd.ev, Ev.Env.get, Ev.Env.set, Ev.look, Ev.cellsAt, Ev.loadC, Ev.bin_lss, ↓Ev.obind, Ev.it1, ↓reduceIte, List.length_cons, List.length_nil, List.take_succ_cons, List.take_nil, List.cons_append, List.nil_append, Nat.reduceAdd, Nat.reduceEqDiff, reduceCtorEq, decide_true, Nat.zero_add, Nat.le_refl, eq_self]
      exact ⟨_, rfl, .inr ⟨i, _, rfl, rfl, rfl, rfl, hx', hE⟩⟩
    · refine .inl ⟨(), ?_, fun j z hj hz => ?_⟩
      · rw [decide_eq_false hxk] at hc
        clear hinv
        obtain ⟨xt, xk, xl, xi, xp, xa⟩ := x
        simp only at hc
        simp only [c_slices_IndexFunc_Lapi_SimEvent_api_SimEvent_L1, Int.natCast_nonneg, Int.toNat_natCast, List.getElem?_map, Option.map_some, hx, hi', hw, hc, Evt.r, evts_lo, ints_lo, Ev.exec, Ev.evOpers, Ev.evOper, Ev.item_op, Ev.item_v, Ev.evOp, Ev.evs, Ev.Opnd.ev, Ev.Env.get, Ev.Env.set, Ev.look, Ev.cellsAt, Ev.loadC, Ev.bin_add, Ev.bin_lss, Ev.settle, Ev.keep, Ev.varsLo, Ev.marksLo, Ev.storeLo, Ev.lo_v, Ev.lo_fsl, Ev.lo_fptr, Ev.lo_fn, Ev.los_nil, Ev.los_cons, ↓Ev.obind, Ev.it1, ↓reduceIte, List.length_cons, List.length_nil, List.take_succ_cons, List.take_nil, List.cons_append, List.nil_append, Nat.reduceAdd, Nat.reduceEqDiff, reduceCtorEq, decide_true, Bool.and_self, Bool.false_eq_true, and_self, Nat.zero_add, Nat.le_refl, eq_self]
      · rcases Nat.lt_or_ge j i with h1 | h1
        · exact hinv j z h1 hz
        · have : j = i := by omega
          subst this
          rw [hx] at hz; cases hz; exact hxk
  · rintro _ hinv
    have hE := cancel_none l k fun x hx => by
      obtain ⟨j, hj⟩ := List.mem_iff_getElem?.1 hx
      exact hinv j x (List.getElem?_eq_some_iff.1 hj).1 hj
    generalize cancelE l k = R at *
    simp only [c_slices_IndexFunc_Lapi_SimEvent_api_SimEvent_L1, Int.lt_irrefl, Ev.exec, Ev.evOpers, Ev.evOper, Ev.item_op, Ev.evOp, Ev.Opnd.ev, Ev.Env.get, Ev.Env.set, Ev.look, Ev.bin_lss, ↓Ev.obind, Ev.it1, ↓reduceIte, Nat.reduceEqDiff, reduceCtorEq, decide_false, Bool.false_eq_true, eq_self]
    exact ⟨_, rfl, .inl ⟨rfl, rfl, rfl, hE⟩⟩
theorem canIdx_ev (hl : l.length ≤ 1000000) (hk : KeysOk l) (kk : k.length ≤ 9223372036854775807) :
    ∃ z : Int, (evL T).call n_slices_IndexFunc_Lapi_SimEvent_api_SimEvent [(.fsl ((l).map Evt.r) c), (.fn (.func n_mailbox_Cancel_1) [] [(.fptr [(.fsl ((k).map intC) d)])])] [] = some ((.v (.int .i64 (z))), []) ∧ ((z = -1 ∧ cancelE l k = (l, false)) ∨ ∃ (i : Nat) (x : Evt), z = i ∧ l[i]? = some x ∧ cancelE l k = (l.take i ++ l.drop (i + 1), true)) := by
  obtain ⟨⟨y, e, σ⟩, h1, h⟩ := canIdx_L l c k d hl hk kk
  rw [evL_code ext_slices_IndexFunc_Lapi_SimEvent_api_SimEvent code_slices_IndexFunc_Lapi_SimEvent_api_SimEvent]
  rcases h with ⟨h2, h3, h4, h5⟩ | ⟨i, x, h2, h3, h4, h5, h6, h7⟩ <;> simp only at h2 h3 h4 <;> subst h2 <;> subst h4
  · refine ⟨-1, ?_, .inl ⟨rfl, h5⟩⟩
    simp only [c_slices_IndexFunc_Lapi_SimEvent_api_SimEvent, h1, h3, evts_lo, ints_lo, Ev.runFunc, Ev.exec, Ev.evOpers, Ev.evOper, Ev.item_op, Ev.evOp, Ev.Opnd.ev, Ev.Env.get, Ev.Env.set, Ev.look, Ev.argVars, Ev.resVals, Ev.resVal, Ev.resOf, Ev.kill, Ev.leave, Ev.settle, Ev.keep, Ev.varsLo, Ev.marksLo, Ev.storeLo, Ev.lo_v, Ev.lo_fsl, Ev.lo_fptr, Ev.lo_fn, Ev.los_nil, Ev.los_cons, List.length_map, ↓Ev.obind, ↓Ev.itL_itB, ↓reduceIte, List.length_cons, List.length_nil, List.take_nil, Nat.reduceAdd, Nat.reduceEqDiff, Int.reduceNeg, reduceCtorEq, Bool.and_self, and_self, Nat.zero_add, eq_self]
  · refine ⟨i, ?_, .inr ⟨i, x, rfl, h6, h7⟩⟩
    simp only at h5
    simp only [c_slices_IndexFunc_Lapi_SimEvent_api_SimEvent, h1, h3, h5, evts_lo, ints_lo, Ev.runFunc, Ev.exec, Ev.evOpers, Ev.evOper, Ev.item_op, Ev.evOp, Ev.Opnd.ev, Ev.Env.get, Ev.Env.set, Ev.look, Ev.argVars, Ev.resVals, Ev.resVal, Ev.resOf, Ev.kill, Ev.leave, Ev.settle, Ev.keep, Ev.varsLo, Ev.marksLo, Ev.storeLo, Ev.lo_v, Ev.lo_fsl, Ev.lo_fptr, Ev.lo_fn, Ev.los_nil, Ev.los_cons, List.length_map, ↓Ev.obind, ↓Ev.itL_itB, ↓reduceIte, List.length_cons, List.length_nil, List.take_nil, Nat.reduceAdd, Nat.reduceEqDiff, Int.reduceNeg, reduceCtorEq, Bool.and_self, and_self, Nat.zero_add, eq_self]
theorem mailbox_Cancel_ev (hl : l.length ≤ 1000000) (hk : KeysOk l) (kk : k.length ≤ 9223372036854775807) (hc0 : l ≠ [] → c = false) :
    ∃ cf : Bool, ((cancelE l k).1 ≠ [] → cf = false) ∧ callZ (evL T) n_mailbox_Cancel [(.fsl ((l).map Evt.r) c), (.fsl ((k).map intC) d)] = some (.tup [(.fsl (((cancelE l k).1).map Evt.r) cf), (.v (.bool ((cancelE l k).2)))]) := by
  obtain ⟨z, h1, h⟩ := canIdx_ev l c k false hl hk kk
  rcases h with ⟨rfl, h2⟩ | ⟨i, x, rfl, hx, h2⟩
  · rw [h2]
    refine ⟨c, hc0, ?_⟩
    rw [callZ, evL_code ext_mailbox_Cancel code_mailbox_Cancel]
    simp only [c_mailbox_Cancel, h1, evts_lo, Ev.runFunc, Ev.exec, Ev.evOpers, Ev.evOper, Ev.item_op, Ev.item_I, Ev.evOp, Ev.evs, Ev.Opnd.ev, Ev.Env.get, Ev.Env.set, Ev.look, Ev.argVars, Ev.AV.cells, Ev.AV.uc, Ev.plains, Ev.AV.plain, Ev.bin_lss, Ev.resVals, Ev.resVal, Ev.resOf, Ev.kill, Ev.leave, Ev.storeLo, Ev.lo_v, Ev.lo_tup, Ev.lo_fsl, Ev.los_nil, Ev.los_cons, Ev.frz_lo, ↓Ev.obind, ↓reduceIte, List.length_cons, List.length_nil, List.take_nil, Nat.reduceAdd, Nat.reduceEqDiff, Int.reduceLT, Int.reduceNeg, reduceCtorEq, decide_true, Bool.and_self, and_self, ne_eq, not_false_eq_true, List.cons_ne_nil, Nat.zero_add, eq_self]
  · rw [h2]
    obtain ⟨hi, _⟩ := List.getElem?_eq_some_iff.1 hx
    obtain rfl : c = false := hc0 (by intro h; subst h; simp at hi)
    refine ⟨false, fun _ => rfl, ?_⟩
    have c0 : ¬ (i : Int) < 0 := by omega
    have c1 : (i : Int) ≤ (l.length : Int) := by omega
    have c2 : (0 : Int) ≤ (i : Int) := by omega
    have c3 : ((i + 1 : Nat) : Int) ≤ (l.length : Int) := by omega
    have c4 : (0 : Int) ≤ ((i + 1 : Nat) : Int) := by omega
    have hw : IntKind.i64.wrap ((i : Int) + 1) = ((i + 1 : Nat) : Int) := w64_add1 (by omega)
    obtain ⟨g, hcc⟩ := concat_ev [l.take i, l.drop (i + 1)] true (by simp) (by simp; omega) (by simp)
    simp only [List.flatten_cons, List.flatten_nil, List.append_nil, List.map_cons, List.map_nil, evtsC] at hcc
    have tk : List.take i (l.map Evt.r) = (l.take i).map Evt.r := by rw [List.map_take]
    have dr : List.drop (i + 1) (l.map Evt.r) = (l.drop (i + 1)).map Evt.r := by rw [List.map_drop]
    have tb : List.take (l.length - (i + 1)) ((l.drop (i + 1)).map Evt.r) = (l.drop (i + 1)).map Evt.r := List.take_of_length_le (by simp)
    have okl := evts_ok l
    have htk : ∀ R : List Evt, (R.map Evt.r).take R.length = R.map Evt.r := fun R => List.take_of_length_le (by simp)
    have htk2 : List.take ((l.take i).length + (l.drop (i + 1)).length) ((l.take i ++ l.drop (i + 1)).map Evt.r) = (l.take i ++ l.drop (i + 1)).map Evt.r := List.take_of_length_le (by rw [List.length_map, List.length_append]; exact Nat.le_refl _)
    rw [callZ, evL_code ext_mailbox_Cancel code_mailbox_Cancel]
    simp only [c_mailbox_Cancel, Int.toNat_natCast, h1, htk2, c0, c1, c2, c3, c4, hw, hcc, tk, dr, tb, okl, Int.le_refl, Nat.sub_zero, List.drop_zero, imp_self, show ∀ v : List AV, List.replicate 2 v = [v, v] from fun _ => rfl, Int.toNat_zero, evts_lo, Ev.runFunc, Ev.exec, Ev.evOpers, Ev.evOper, Ev.item_op, Ev.item_A, Ev.item_I, Ev.impO, Ev.AV.shift, Ev.evOp, Ev.evs, Ev.Opnd.ev, Ev.Env.get, Ev.Env.set, Ev.look, Ev.argVars, Ev.optInt, Ev.fillR, Ev.AV.cells, Ev.AV.uc, Ev.plains, Ev.AV.plain, Ev.bin_add, Ev.bin_lss, Ev.resVals, Ev.resVal, Ev.resOf, Ev.kill, Ev.leave, Ev.storeLo, Ev.lo_v, Ev.lo_tup, Ev.lo_fsl, Ev.lo_sl, Ev.los_nil, Ev.los_cons, Ev.loss_nil, Ev.loss_cons, Ev.frz_lo, Ev.frz_tup, Ev.frz_own, Ev.omap_los, Ev.omap_nil, Ev.omap_cons, Ev.shiftss_lo, List.length_map, ↓Ev.obind, ↓reduceIte, List.length_cons, List.length_nil, List.length_append, List.getElem?_cons_zero, List.take_zero, List.drop_zero, List.nil_append, List.set_cons_zero, List.set_cons_succ, Nat.reduceAdd, Nat.reduceEqDiff, Nat.reduceMul, Nat.reduceLT, Nat.reduceLeDiff, Nat.reducePow, reduceCtorEq, decide_true, decide_false, Bool.and_self, Bool.and_true, Bool.false_eq_true, and_self, and_true, ne_eq, not_false_eq_true, List.cons_ne_nil, Nat.zero_add, Nat.add_zero, Nat.lt_add_one, Nat.le_refl, Option.isSome_some, Option.isSome_none, eq_self, implies_true, Bool.false_and]
end
set_option maxRecDepth 10000
def mergeE : List Evt → List Evt → List Evt
  | [], b => b
  | x :: ax, [] => x :: ax
  | x :: ax, y :: bs => if cmpE y x < 0 then y :: mergeE (x :: ax) bs else x :: mergeE ax (y :: bs)
termination_by a b => a.length + b.length
theorem mergeE_nil (b : List Evt) : mergeE [] b = b := by rw [mergeE]
theorem mergeE_nil' (a : List Evt) : mergeE a [] = a := by cases a <;> rw [mergeE]
theorem mergeE_perm : ∀ (a b : List Evt), (mergeE a b).Perm (a ++ b)
  | [], b => by rw [mergeE]; exact List.Perm.refl _
  | x :: ax, [] => by rw [mergeE, List.append_nil]
  | x :: ax, y :: bs => by
    rw [mergeE]
    split
    · exact (List.Perm.cons y (mergeE_perm (x :: ax) bs)).trans List.perm_middle.symm
    · exact List.Perm.cons x (mergeE_perm ax (y :: bs))
termination_by a b => a.length + b.length
theorem mergeE_sorted : ∀ (a b : List Evt), a.Pairwise leE → b.Pairwise leE → (mergeE a b).Pairwise leE
  | [], b, _, hb => by rw [mergeE]; exact hb
  | x :: ax, [], ha, _ => by rw [mergeE]; exact ha
  | x :: ax, y :: bs, ha, hb => by
    rw [mergeE]
    have ha' := List.pairwise_cons.1 ha
    have hb' := List.pairwise_cons.1 hb
    split
    · rename_i h
      refine List.pairwise_cons.2 ⟨fun z hz => ?_, mergeE_sorted (x :: ax) bs ha hb'.2⟩
      rcases List.mem_append.1 ((mergeE_perm _ _).mem_iff.1 hz) with hz | hz
      · rcases List.mem_cons.1 hz with rfl | hz
        · exact leE_of y _ h
        · exact leE_trans y x z (leE_of y x h) (ha'.1 z hz)
      · exact hb'.1 z hz
    · rename_i h
      have hxy := leE_of_not y x h
      refine List.pairwise_cons.2 ⟨fun z hz => ?_, mergeE_sorted ax (y :: bs) ha'.2 hb⟩
      rcases List.mem_append.1 ((mergeE_perm _ _).mem_iff.1 hz) with hz | hz
      · exact ha'.1 z hz
      · rcases List.mem_cons.1 hz with rfl | hz
        · exact hxy
        · exact leE_trans x y z hxy (hb'.1 z hz)
termination_by a b => a.length + b.length
def mS (a b out : List Evt) (g : Nat) : Store := [.row 1 [[(.fsl ((a).map Evt.r) false)]] 0, .row 1 [[(.fsl ((b).map Evt.r) false)]] 0, .row 6 (out.map Evt.r) g, .row 1 [[.sl 2 g 0 out.length false]] 0, .defr, .loop ⟨[(2, .ptr 3 0 0 0)], []⟩ [7] c_slices_AppendSeq_Lapi_SimEvent_api_SimEvent_A1 c_slices_AppendSeq_Lapi_SimEvent_api_SimEvent_L1 .ready none]
theorem ap_round (a b out : List Evt) (g : Nat) (x : Evt) (h : out.length ≤ 1000000) : (evL T).round 5 [(.agg [(.v (.int .i64 (x.time))), (.fsl ((x.key).map intC) false), (.v (.int .i64 (x.lp))), (.v (.int .i64 (x.kind))), (.v (.int .i64 (x.proc))), (.v (.int .i64 (x.arg)))])] (mS a b out g) = some ((.v (.bool (true))), mS a b (out ++ [x]) (g + 1)) := by
  rw [evL_round]
  have hb : (out.length + 1) * 64 ≤ 140737488355328 := by omega
  have htk : (out.map Evt.r).take out.length = out.map Evt.r := List.take_of_length_le (by simp)
  have hr : (out ++ [x]).map Evt.r = out.map Evt.r ++ [x.r] := by rw [List.map_append]; rfl
  have hl : (out ++ [x]).length = out.length + 1 := by simp
  rw [mS, mS, hr, hl]
  obtain ⟨xt, xk, xl, xi, xp, xa⟩ := x
  simp only [c_slices_AppendSeq_Lapi_SimEvent_api_SimEvent_A1, c_slices_AppendSeq_Lapi_SimEvent_api_SimEvent_L1, hb, htk, loss_app, Evt.r, evts_lo, ints_lo, Ev.runRound, Ev.setParams, Ev.exec, Ev.evOpers, Ev.evOper, Ev.item_op, Ev.evOp, Ev.appE, Ev.Opnd.ev, Ev.Env.get, Ev.Env.set, Ev.look, Ev.cellsAt, Ev.content, Ev.loadC, Ev.fillR, Ev.AV.cells, Ev.AV.uc, Ev.plains, Ev.AV.plain, Ev.leave, Ev.varsLo, Ev.storeLo, Ev.SObj.lo, Ev.lo_v, Ev.lo_fsl, Ev.lo_sl, Ev.lo_ptr, Ev.los_nil, Ev.los_cons, Ev.loss_nil, Ev.loss_cons, Ev.okRows_nil, Ev.okRows_cons, List.replicate_one, List.length_map, ↓Ev.obind, ↓reduceIte, List.length_cons, List.length_nil, List.getElem?_cons_zero, List.getElem?_cons_succ, List.take_succ_cons, List.take_zero, List.take_nil, List.drop_succ_cons, List.drop_zero, List.drop_nil, List.cons_append, List.nil_append, List.append_nil, List.set_cons_zero, List.set_cons_succ, List.head?_cons, Nat.reduceAdd, Nat.reduceEqDiff, Nat.reduceMul, Nat.reduceLT, Nat.reduceLeDiff, Nat.reducePow, decide_true, Bool.and_self, Bool.false_eq_true, and_self, ne_eq, not_false_eq_true, List.cons_ne_nil, Nat.zero_add, Nat.lt_add_one, Nat.le_refl, eq_self]
section
variable (a0 b0 : List Evt)
structure MgInv (s : (List Evt × List Evt) × (List Evt × Nat)) : Prop where
  sum : s.2.1 ++ mergeE s.1.1 s.1.2 = mergeE a0 b0
  len : s.2.1.length + (s.1.1.length + s.1.2.length) ≤ 1000000
  ka : KeysOk s.1.1
  kb : KeysOk s.1.2
theorem mg_L (hl : (a0 ++ b0).length ≤ 1000000) (ha : KeysOk a0) (hb : KeysOk b0) :
    ∃ y, itB (exec (evL T) itL none c_mailbox_merged_1_L1) (Ev.settle [0, 1, 2] true 6) ⟨[(0, .yld 5), (1, .ptr 0 0 0 0), (2, .ptr 1 0 0 0)], []⟩ (mS a0 b0 [] 0) = some y ∧ ∃ g : Nat, y.1 = .exit 0 ∧ y.2.1.marks = [] ∧ y.2.2 = mS [] [] (mergeE a0 b0) g := by
  have key := itB_while (f := exec (evL T) itL none c_mailbox_merged_1_L1) (s := Ev.settle [0, 1, 2] true 6) (τ := (List Evt × List Evt) × (List Evt × Nat)) (fun _ => ⟨[(0, .yld 5), (1, .ptr 0 0 0 0), (2, .ptr 1 0 0 0)], []⟩) (fun s => mS s.1.1 s.1.2 s.2.1 s.2.2) (fun s => s.1.1.length + s.1.2.length)
    (MgInv a0 b0) (fun y => ∃ g : Nat, y.1 = .exit 0 ∧ y.2.1.marks = [] ∧ y.2.2 = mS [] [] (mergeE a0 b0) g) ?_ ((a0, b0), ([], 0)) ⟨rfl, by simpa using hl, ha, hb⟩
  · exact key
  rintro ⟨⟨a, b⟩, ⟨out, g⟩⟩ ⟨h1, h2, h3, h4⟩
  simp only at h1 h2 h3 h4 ⊢
  have w00 : IntKind.i64.wrap 0 = 0 := rfl
  rcases a with _ | ⟨x, ax⟩ <;> rcases b with _ | ⟨y, bs⟩
  · right
    rw [mergeE_nil, List.append_nil] at h1
    rw [← h1]
    simp only [c_mailbox_merged_1_L1, mS, List.map_nil, Int.add_zero, w00, Int.lt_irrefl, gt_iff_lt, Ev.exec, Ev.evOpers, Ev.evOper, Ev.item_op, Ev.evOp, Ev.Opnd.ev, Ev.Env.get, Ev.Env.set, Ev.look, Ev.cellsAt, Ev.loadC, Ev.bin_add, Ev.bin_gtr, ↓Ev.obind, Ev.it1, ↓reduceIte, List.length_nil, List.getElem?_cons_zero, List.getElem?_cons_succ, List.drop_zero, List.head?_cons, Nat.reduceEqDiff, Int.cast_ofNat_Int, reduceCtorEq, decide_false, Bool.false_eq_true, eq_self]
    exact ⟨_, rfl, g, rfl, rfl, rfl⟩
  · left
    have hr := ap_round [] (y :: bs) out g y (by omega)
    refine ⟨(([], bs), (out ++ [y], g + 1)), ?_, ⟨?_, by simp at h2 ⊢; omega, h3, fun z hz => h4 z (List.mem_cons_of_mem _ hz)⟩, by simp⟩
    · have w1 : IntKind.i64.wrap ((0 : Int) + ((bs.length + 1 : Nat) : Int)) = ((bs.length + 1 : Nat) : Int) := by simp at h2; rw [w64_small (by omega) (by omega)]; omega
      have w2 : ((bs.length + 1 : Nat) : Int) > 0 := by omega
      have w3 : (1 : Int) ≤ ((bs.length + 1 : Nat) : Int) := by omega
      have tk : (bs.map Evt.r).take bs.length = bs.map Evt.r := List.take_of_length_le (by simp)
      have ok := evts_ok bs
      clear h1 h4
      obtain ⟨yt, yk, yl, yi, yp, ya⟩ := y
      simp only [mS, List.map_cons, List.map_nil, Evt.r, List.length_append, List.length_cons, List.length_nil, Nat.zero_add] at hr
      simp only [c_mailbox_merged_1_L1, mS, List.map_cons, List.map_nil, Evt.r, Int.toNat_natCast, hr, w1, w2, w3, tk, ok, Int.le_refl, Nat.add_sub_cancel, imp_self, evts_lo, Ev.exec, Ev.evOpers, Ev.evOper, Ev.item_op, Ev.item_v, Ev.evOp, Ev.evs, Ev.Opnd.ev, Ev.Env.get, Ev.Env.set, Ev.Env.unset, Ev.look, Ev.optInt, Ev.cellsAt, Ev.loadC, Ev.AV.cells, Ev.AV.uc, Ev.plains, Ev.AV.plain, Ev.bin_add, Ev.bin_eql, Ev.bin_gtr, Ev.settle, Ev.keep, Ev.varsLo, Ev.marksLo, Ev.storeLo, Ev.SObj.lo, Ev.lo_fsl, Ev.lo_sl, Ev.lo_ptr, Ev.lo_yld, Ev.los_nil, Ev.los_cons, Ev.loss_nil, Ev.loss_cons, Ev.okRows_cons, List.length_map, ↓Ev.obind, Ev.it1, ↓reduceIte, List.length_cons, List.length_nil, List.length_append, List.getElem?_cons_zero, List.getElem?_cons_succ, List.take_succ_cons, List.take_zero, List.take_nil, List.drop_succ_cons, List.drop_zero, List.drop_nil, List.nil_append, List.append_nil, List.set_cons_zero, List.set_cons_succ, List.head?_cons, Nat.reduceAdd, Nat.reduceEqDiff, Nat.reduceLT, Int.reduceLE, Int.reduceToNat, Int.cast_ofNat_Int, reduceCtorEq, decide_true, Bool.and_self, Bool.and_true, Bool.not_true, Bool.false_eq_true, Bool.true_eq_false, and_self, Nat.zero_add, Nat.lt_add_one, Nat.le_refl, Option.isSome_none, eq_self]
    · rw [mergeE_nil] at h1 ⊢; rw [← h1]; simp
  · left
    have hr := ap_round (x :: ax) [] out g x (by omega)
    refine ⟨((ax, []), (out ++ [x], g + 1)), ?_, ⟨?_, by simp at h2 ⊢; omega, fun z hz => h3 z (List.mem_cons_of_mem _ hz), h4⟩, by simp⟩
    · have w1 : IntKind.i64.wrap (((ax.length + 1 : Nat) : Int) + (0 : Int)) = ((ax.length + 1 : Nat) : Int) := by simp at h2; rw [w64_small (by omega) (by omega)]; omega
      have w2 : ((ax.length + 1 : Nat) : Int) > 0 := by omega
      have w3 : (1 : Int) ≤ ((ax.length + 1 : Nat) : Int) := by omega
      have w4 : ¬ ((ax.length + 1 : Nat) : Int) = 0 := by omega
      have tk : (ax.map Evt.r).take ax.length = ax.map Evt.r := List.take_of_length_le (by simp)
      have ok := evts_ok ax
      clear h1 h3
      obtain ⟨xt, xk, xl, xi, xp, xa⟩ := x
      simp only [mS, List.map_cons, List.map_nil, Evt.r, List.length_append, List.length_cons, List.length_nil, Nat.zero_add] at hr
      simp only [c_mailbox_merged_1_L1, mS, List.map_cons, List.map_nil, Evt.r, Int.toNat_natCast, hr, w1, w2, w3, w4, tk, ok, Int.lt_irrefl, gt_iff_lt, Int.le_refl, Nat.add_sub_cancel, imp_self, evts_lo, Ev.exec, Ev.evOpers, Ev.evOper, Ev.item_op, Ev.item_v, Ev.evOp, Ev.evs, Ev.Opnd.ev, Ev.Env.get, Ev.Env.set, Ev.Env.unset, Ev.look, Ev.optInt, Ev.cellsAt, Ev.loadC, Ev.AV.cells, Ev.AV.uc, Ev.plains, Ev.AV.plain, Ev.bin_add, Ev.bin_eql, Ev.bin_gtr, Ev.settle, Ev.keep, Ev.varsLo, Ev.marksLo, Ev.storeLo, Ev.SObj.lo, Ev.lo_fsl, Ev.lo_sl, Ev.lo_ptr, Ev.lo_yld, Ev.los_nil, Ev.los_cons, Ev.loss_nil, Ev.loss_cons, Ev.okRows_cons, List.length_map, ↓Ev.obind, Ev.it1, ↓reduceIte, List.length_cons, List.length_nil, List.length_append, List.getElem?_cons_zero, List.getElem?_cons_succ, List.take_succ_cons, List.take_zero, List.take_nil, List.drop_succ_cons, List.drop_zero, List.drop_nil, List.nil_append, List.append_nil, List.set_cons_zero, List.head?_cons, Nat.reduceAdd, Nat.reduceEqDiff, Nat.reduceLT, Int.reduceLE, Int.reduceToNat, Int.cast_ofNat_Int, reduceCtorEq, decide_true, decide_false, Bool.and_self, Bool.and_true, Bool.not_true, Bool.false_eq_true, and_self, Nat.zero_add, Nat.lt_add_one, Nat.le_refl, Option.isSome_none, eq_self]
    · rw [mergeE_nil'] at h1 ⊢; rw [← h1]; simp
  · left
    have w1 : IntKind.i64.wrap (((ax.length + 1 : Nat) : Int) + ((bs.length + 1 : Nat) : Int)) = ((ax.length + 1 + (bs.length + 1) : Nat) : Int) := w64_add (by simp at h2; omega)
    have w2 : ((ax.length + 1 + (bs.length + 1) : Nat) : Int) > 0 := by omega
    have w3 : (1 : Int) ≤ ((ax.length + 1 : Nat) : Int) := by omega
    have w4 : ¬ ((ax.length + 1 : Nat) : Int) = 0 := by omega
    have w5 : ((bs.length + 1 : Nat) : Int) > 0 := by omega
    have w6 : (1 : Int) ≤ ((bs.length + 1 : Nat) : Int) := by omega
    have hc := evkey_CompareEvents_ev y x (h4 y (by simp)) (h3 x (by simp))
    by_cases hlt : cmpE y x < 0
    · have hr := ap_round (x :: ax) (y :: bs) out g y (by omega)
      refine ⟨((x :: ax, bs), (out ++ [y], g + 1)), ?_, ⟨?_, by simp at h2 ⊢; omega, h3, fun z hz => h4 z (List.mem_cons_of_mem _ hz)⟩, by simp⟩
      · have tk : (bs.map Evt.r).take bs.length = bs.map Evt.r := List.take_of_length_le (by simp)
        have ok := evts_ok bs
        clear h1 h3 h4
        obtain ⟨xt, xk, xl, xi, xp, xa⟩ := x
        obtain ⟨yt, yk, yl, yi, yp, ya⟩ := y
        simp only at hc
        simp only [mS, List.map_cons, Evt.r, List.length_append, List.length_cons, List.length_nil, Nat.zero_add] at hr
        simp only [c_mailbox_merged_1_L1, mS, List.map_cons, Evt.r, Int.toNat_natCast, hr, hc, hlt, w1, w2, w4, w5, w6, tk, ok, Int.le_refl, Nat.add_sub_cancel, imp_self, evts_lo, ints_lo, Ev.exec, Ev.evOpers, Ev.evOper, Ev.item_op, Ev.item_P, Ev.item_v, Ev.evOp, Ev.evs, Ev.Opnd.ev, Ev.Env.get, Ev.Env.set, Ev.look, Ev.optInt, Ev.cellsAt, Ev.loadC, Ev.AV.cells, Ev.AV.uc, Ev.plains, Ev.AV.plain, Ev.bin_add, Ev.bin_eql, Ev.bin_lss, Ev.bin_gtr, Ev.settle, Ev.keep, Ev.varsLo, Ev.marksLo, Ev.storeLo, Ev.SObj.lo, Ev.lo_v, Ev.lo_agg, Ev.lo_fsl, Ev.lo_sl, Ev.lo_ptr, Ev.lo_yld, Ev.los_nil, Ev.los_cons, Ev.loss_nil, Ev.loss_cons, Ev.okRows_cons, List.length_map, ↓Ev.obind, Ev.it1, ↓reduceIte, List.length_cons, List.length_nil, List.length_append, List.getElem?_cons_zero, List.getElem?_cons_succ, List.take_succ_cons, List.take_zero, List.take_nil, List.drop_succ_cons, List.drop_zero, List.drop_nil, List.nil_append, List.append_nil, List.set_cons_zero, List.set_cons_succ, List.head?_cons, Nat.reduceAdd, Nat.reduceEqDiff, Nat.reduceLT, Int.reduceLE, Int.reduceToNat, reduceCtorEq, decide_true, decide_false, Bool.and_self, Bool.and_true, Bool.not_true, Bool.false_eq_true, and_self, Nat.zero_add, Nat.lt_add_one, Nat.le_refl, Option.isSome_none, eq_self]
      · rw [mergeE, if_pos hlt] at h1; rw [← h1]; simp
    · have hr := ap_round (x :: ax) (y :: bs) out g x (by omega)
      refine ⟨((ax, y :: bs), (out ++ [x], g + 1)), ?_, ⟨?_, by simp at h2 ⊢; omega, fun z hz => h3 z (List.mem_cons_of_mem _ hz), h4⟩, by simp⟩
      · have tk : (ax.map Evt.r).take ax.length = ax.map Evt.r := List.take_of_length_le (by simp)
        have ok := evts_ok ax
        clear h1 h3 h4
        obtain ⟨xt, xk, xl, xi, xp, xa⟩ := x
        obtain ⟨yt, yk, yl, yi, yp, ya⟩ := y
        simp only at hc
        simp only [mS, List.map_cons, Evt.r, List.length_append, List.length_cons, List.length_nil, Nat.zero_add] at hr
        simp only [c_mailbox_merged_1_L1, mS, List.map_cons, Evt.r, Int.toNat_natCast, hr, hc, hlt, w1, w2, w3, w4, w5, tk, ok, Int.le_refl, Nat.add_sub_cancel, imp_self, evts_lo, ints_lo, Ev.exec, Ev.evOpers, Ev.evOper, Ev.item_op, Ev.item_P, Ev.item_v, Ev.evOp, Ev.evs, Ev.Opnd.ev, Ev.Env.get, Ev.Env.set, Ev.look, Ev.optInt, Ev.cellsAt, Ev.loadC, Ev.AV.cells, Ev.AV.uc, Ev.plains, Ev.AV.plain, Ev.bin_add, Ev.bin_eql, Ev.bin_lss, Ev.bin_gtr, Ev.settle, Ev.keep, Ev.varsLo, Ev.marksLo, Ev.storeLo, Ev.SObj.lo, Ev.lo_v, Ev.lo_agg, Ev.lo_fsl, Ev.lo_sl, Ev.lo_ptr, Ev.lo_yld, Ev.los_nil, Ev.los_cons, Ev.loss_nil, Ev.loss_cons, Ev.okRows_cons, List.length_map, ↓Ev.obind, Ev.it1, ↓reduceIte, List.length_cons, List.length_nil, List.length_append, List.getElem?_cons_zero, List.getElem?_cons_succ, List.take_succ_cons, List.take_zero, List.take_nil, List.drop_succ_cons, List.drop_zero, List.drop_nil, List.nil_append, List.append_nil, List.set_cons_zero, List.head?_cons, Nat.reduceAdd, Nat.reduceEqDiff, Nat.reduceLT, Int.reduceLE, Int.reduceToNat, reduceCtorEq, decide_true, decide_false, Bool.and_self, Bool.and_true, Bool.not_true, Bool.false_eq_true, and_self, Nat.zero_add, Nat.lt_add_one, Nat.le_refl, Option.isSome_none, eq_self]
      · rw [mergeE, if_neg hlt] at h1; rw [← h1]; simp
theorem merged_1_ev (hl : (a0 ++ b0).length ≤ 1000000) (ha : KeysOk a0) (hb : KeysOk b0) : ∃ g : Nat, (evL T).call n_mailbox_merged_1 [.yld 5, .ptr 0 0 0 0, .ptr 1 0 0 0] (mS a0 b0 [] 0) = some (.tup [], mS [] [] (mergeE a0 b0) g) := by
  obtain ⟨⟨y, e, σ⟩, h1, g, h2, h3, h4⟩ := mg_L a0 b0 hl ha hb
  simp only at h2 h3 h4
  subst h2; subst h4
  refine ⟨g, ?_⟩
  rw [evL_code ext_mailbox_merged_1 code_mailbox_merged_1]
  have hn : ∀ (a b out : List Evt) (g : Nat), (mS a b out g).length = 6 := fun _ _ _ _ => rfl
  have ht : ∀ (a b out : List Evt) (g : Nat), (mS a b out g).take 6 = mS a b out g := fun _ _ _ _ => rfl
  have hlo : ∀ (a b out : List Evt) (g : Nat), storeLo 6 (mS a b out g) = true := fun a b out g => by simp only [mS, evts_lo, Ev.varsLo, Ev.storeLo, Ev.SObj.lo, Ev.lo_fsl, Ev.lo_sl, Ev.lo_ptr, Ev.los_nil, Ev.los_cons, Ev.loss_nil, Ev.loss_cons, Nat.reduceLT, decide_true, Bool.and_self, eq_self]
  simp only [c_mailbox_merged_1, hn, ht, hlo, h1, h3, Ev.runFunc, Ev.exec, Ev.Env.get, Ev.look, Ev.argVars, Ev.resVals, Ev.resOf, Ev.kill, Ev.leave, Ev.settle, Ev.keep, Ev.varsLo, Ev.marksLo, Ev.lo_tup, Ev.lo_ptr, Ev.lo_yld, Ev.los_nil, ↓Ev.obind, ↓Ev.itL_itB, ↓reduceIte, List.length_cons, List.length_nil, Nat.reduceAdd, Nat.reduceEqDiff, Nat.reduceLT, reduceCtorEq, decide_true, Bool.and_self, and_self, Nat.zero_add, Nat.lt_add_one, eq_self]
theorem appendSeq_ev (hl : (a0 ++ b0).length ≤ 1000000) (ha : KeysOk a0) (hb : KeysOk b0) : ∃ (g : Nat) (τ : Store), (evL T).call n_slices_AppendSeq_Lapi_SimEvent_api_SimEvent [.fsl [] true, .fn (.func n_mailbox_merged_1) [] [.ptr 0 0 0 0, .ptr 1 0 0 0]] [.row 1 [[(.fsl ((a0).map Evt.r) false)]] 0, .row 1 [[(.fsl ((b0).map Evt.r) false)]] 0] =
    some (.sl 2 g 0 (mergeE a0 b0).length false, [.row 1 [[(.fsl (([]).map Evt.r) false)]] 0, .row 1 [[(.fsl (([]).map Evt.r) false)]] 0, .row 6 ((mergeE a0 b0).map Evt.r) g] ++ τ) := by
  obtain ⟨g, h⟩ := merged_1_ev a0 b0 hl ha hb
  simp only [mS, List.map_nil, List.length_nil] at h
  refine ⟨g, [.row 1 [[.sl 2 g 0 (mergeE a0 b0).length false]] 0, .dead, .loop ⟨[(2, .ptr 3 0 0 0)], []⟩ [7] c_slices_AppendSeq_Lapi_SimEvent_api_SimEvent_A1 c_slices_AppendSeq_Lapi_SimEvent_api_SimEvent_L1 .exhausted none], ?_⟩
  rw [evL_code ext_slices_AppendSeq_Lapi_SimEvent_api_SimEvent code_slices_AppendSeq_Lapi_SimEvent_api_SimEvent]
  simp only [c_slices_AppendSeq_Lapi_SimEvent_api_SimEvent, h, evL_ent ext_mailbox_merged_1, List.map_nil, Ev.runFunc, Ev.rangeIn, Ev.exec, Ev.evOpers, Ev.evOper, Ev.item_op, Ev.evOp, Ev.Opnd.ev, Ev.Env.get, Ev.Env.set, Ev.look, Ev.argVars, Ev.cellsAt, Ev.loadC, Ev.resVals, Ev.resVal, Ev.resOf, Ev.kill, Ev.leave, Ev.keep, Ev.storeLo, Ev.SObj.lo, Ev.lo_fsl, Ev.lo_sl, Ev.los_nil, Ev.los_cons, Ev.loss_nil, Ev.loss_cons, ↓Ev.obind, ↓reduceIte, List.length_cons, List.length_nil, List.getElem?_cons_zero, List.getElem?_cons_succ, List.take_succ_cons, List.take_zero, List.drop_zero, List.cons_append, List.nil_append, List.set_cons_zero, List.set_cons_succ, List.head?_cons, Nat.reduceAdd, Nat.reduceEqDiff, Nat.reduceLT, reduceCtorEq, decide_false, Bool.and_self, Bool.false_eq_true, and_true, ne_eq, not_false_eq_true, Nat.zero_add, eq_self]
theorem mailbox_merged_ev (c d : Bool) : (evL T).call n_mailbox_merged [(.fsl ((a0).map Evt.r) c), (.fsl ((b0).map Evt.r) d)] [] = some (.fn (.func n_mailbox_merged_1) [] [.ptr 0 0 0 0, .ptr 1 0 0 0], [.row 1 [[(.fsl ((a0).map Evt.r) false)]] 0, .row 1 [[(.fsl ((b0).map Evt.r) false)]] 0]) := by
  rw [evL_code ext_mailbox_merged code_mailbox_merged]
  simp only [c_mailbox_merged, Ev.runFunc, Ev.exec, Ev.evOpers, Ev.evOper, Ev.item_op, Ev.evOp, Ev.evs, Ev.Opnd.ev, Ev.Env.get, Ev.Env.set, Ev.look, Ev.argVars, Ev.AV.cells, Ev.AV.uc, Ev.plains, Ev.AV.plain, Ev.resVals, Ev.resVal, Ev.resOf, Ev.kill, Ev.leave, Ev.storeLo, Ev.lo_ptr, Ev.lo_fn, Ev.los_nil, Ev.los_cons, ↓Ev.obind, ↓reduceIte, List.length_cons, List.length_nil, List.take_zero, List.cons_append, List.nil_append, Nat.reduceAdd, Nat.reduceEqDiff, Nat.reduceLT, reduceCtorEq, decide_false, Bool.and_self, Bool.and_true, Bool.false_eq_true, and_self, and_true, ne_eq, not_false_eq_true, List.cons_ne_nil, Nat.zero_add, eq_self, Bool.and_false]
theorem collect_ev (hl : (a0 ++ b0).length ≤ 1000000) (ha : KeysOk a0) (hb : KeysOk b0) : ∃ (g : Nat) (τ : Store), (evL T).call n_slices_Collect_api_SimEvent [.fn (.func n_mailbox_merged_1) [] [.ptr 0 0 0 0, .ptr 1 0 0 0]] [.row 1 [[(.fsl ((a0).map Evt.r) false)]] 0, .row 1 [[(.fsl ((b0).map Evt.r) false)]] 0] =
    some (.sl 2 g 0 (mergeE a0 b0).length false, [.row 1 [[.fsl [] false]] 0, .row 1 [[.fsl [] false]] 0, .row 6 ((mergeE a0 b0).map Evt.r) g] ++ τ) := by
  obtain ⟨g, τ, h⟩ := appendSeq_ev a0 b0 hl ha hb
  refine ⟨g, τ, ?_⟩
  simp only [List.map_nil, List.cons_append, List.nil_append] at h ⊢
  rw [evL_code ext_slices_Collect_api_SimEvent code_slices_Collect_api_SimEvent]
  simp only [c_slices_Collect_api_SimEvent, h, Ev.runFunc, Ev.exec, Ev.evOpers, Ev.evOper, Ev.item_op, Ev.item_I, Ev.evOp, Ev.evs, Ev.Opnd.ev, Ev.Env.get, Ev.Env.set, Ev.look, Ev.argVars, Ev.resVals, Ev.resVal, Ev.resOf, Ev.kill, Ev.leave, Ev.storeLo, Ev.SObj.lo, Ev.lo_fsl, Ev.lo_sl, Ev.los_nil, Ev.los_cons, Ev.loss_nil, Ev.loss_cons, ↓Ev.obind, ↓reduceIte, List.length_cons, List.length_nil, List.take_succ_cons, List.take_zero, Nat.reduceAdd, Nat.reduceLT, reduceCtorEq, decide_false, Bool.and_self, Bool.false_eq_true, and_true, Nat.zero_add, eq_self]
theorem mailbox_Merge_ev (c d : Bool) (hl : (a0 ++ b0).length ≤ 1000000) (hk : KeysOk (a0 ++ b0)) (hs : a0.Pairwise leE) (hd : Dist (a0 ++ b0)) : callZ (evL T) n_mailbox_Merge [(.fsl ((a0).map Evt.r) c), (.fsl ((b0).map Evt.r) d)] = some (.fsl ((sortL (a0 ++ b0)).map Evt.r) false) := by
  have ka : KeysOk a0 := fun z hz => hk z (List.mem_append_left _ hz)
  have kb : KeysOk b0 := fun z hz => hk z (List.mem_append_right _ hz)
  have hlb : b0.length ≤ 1000000 := by rw [List.length_append] at hl; omega
  have h1 := evkey_SortEvents_evD b0 d hlb kb (hd.sub (List.sublist_append_right a0 b0))
  have h2 := mailbox_merged_ev a0 (sortL b0) c false
  obtain ⟨g, τ, h3⟩ := collect_ev a0 (sortL b0) (by rw [List.length_append, sortL_length, ← List.length_append]; exact hl) ka kb.sortL
  have hp : (mergeE a0 (sortL b0)).Perm (a0 ++ b0) := (mergeE_perm _ _).trans (List.Perm.append_left a0 (sortL_perm b0))
  have he := sortL_unique hd hp (mergeE_sorted _ _ hs (sortL_sorted b0))
  rw [he] at h3
  generalize sortL (a0 ++ b0) = R at *
  have htk : (R.map Evt.r).take R.length = R.map Evt.r := List.take_of_length_le (by simp)
  simp only [List.cons_append, List.nil_append] at h3
  have s1 : Ev.shifts 0 ([] : List AV) = [] := by simp only [Ev.shifts]
  have s2 : Ev.shifts 0 [AV.ptr 0 0 0 0, AV.ptr 1 0 0 0] = [AV.ptr 0 0 0 0, AV.ptr 1 0 0 0] := by simp only [Ev.shifts, AV.shift, Nat.add_zero]
  rw [callZ, evL_code ext_mailbox_Merge code_mailbox_Merge]
  simp only [c_mailbox_Merge, s1, s2, h1, h2, h3, htk, evts_lo, Ev.runFunc, Ev.exec, Ev.evOpers, Ev.evOper, Ev.item_op, Ev.item_P, Ev.item_A, Ev.item_I, Ev.impO, Ev.AV.shift, Ev.evOp, Ev.evs, Ev.Opnd.ev, Ev.Env.get, Ev.Env.set, Ev.look, Ev.argVars, Ev.resVals, Ev.resVal, Ev.resOf, Ev.kill, Ev.leave, Ev.storeLo, Ev.lo_fsl, Ev.lo_sl, Ev.los_nil, Ev.los_cons, Ev.loss_nil, Ev.loss_cons, Ev.frz_own, Ev.omap_los, Ev.omap_nil, Ev.omap_cons, Ev.shiftss_lo, List.length_map, ↓Ev.obind, ↓reduceIte, List.length_cons, List.length_nil, List.getElem?_cons_zero, List.getElem?_cons_succ, List.take_zero, List.drop_zero, List.nil_append, Nat.reduceAdd, Nat.reduceEqDiff, Nat.reduceLT, reduceCtorEq, decide_false, Bool.and_self, Bool.false_eq_true, and_self, and_true, Nat.zero_add, Nat.le_refl, eq_self]
end
set_option maxRecDepth 10000
section
variable (l : List Evt) (cl : Bool)
theorem rsort_inner (out : List Evt) (x : Evt) (i : Nat) (cf : Bool) (hx : l[i]? = some x) (ho : out.length ≤ 1000000) (hk : KeysOk out) (hkx : x.key.length ≤ 9223372036854775807) :
    ∃ y, itB (exec (evL T) itL none c_ref03_SortEvents_L2) (Ev.settle [0, 3, 4, 5] true 0) ⟨[(0, (.fsl ((l).map Evt.r) cl)), (3, (.fsl ((out).map Evt.r) cf)), (4, (.v (.int .i64 (i)))), (5, (.v (.int .i64 (out.length))))], []⟩ [] = some y ∧
      ∃ k : Nat, y.1 = .exit 2 ∧ y.2.1.marks = [] ∧ y.2.2 = [] ∧ Ev.look y.2.1.vars 0 = some (.fsl ((l).map Evt.r) cl) ∧ Ev.look y.2.1.vars 3 = some (.fsl ((out).map Evt.r) cf) ∧ Ev.look y.2.1.vars 4 = some (.v (.int .i64 (i))) ∧ Ev.look y.2.1.vars 5 = some (.v (.int .i64 (k))) ∧
        k ≤ out.length ∧ (∀ u, 0 < k → out[k - 1]? = some u → leE u x) ∧ (∀ v, out[k]? = some v → leE x v) := by
  refine itB_while (τ := Nat) (fun k => ⟨[(0, (.fsl ((l).map Evt.r) cl)), (3, (.fsl ((out).map Evt.r) cf)), (4, (.v (.int .i64 (i)))), (5, (.v (.int .i64 (k))))], []⟩) (fun _ => []) (fun k => k)
    (fun k => k ≤ out.length ∧ (∀ v, out[k]? = some v → leE x v)) _ ?_ out.length ⟨Nat.le_refl _, fun v hv => by simp at hv⟩
  rintro k ⟨h1, h2⟩
  cases k with
  | zero =>
    right
    simp only [c_ref03_SortEvents_L2, Int.lt_irrefl, Ev.exec, Ev.evOpers, Ev.evOper, Ev.item_op, Ev.evOp, Ev.Opnd.ev, Ev.Env.get, Ev.Env.set, Ev.Env.unset, Ev.look, Ev.bin_gtr, ↓Ev.obind, Ev.it1, ↓reduceIte, Nat.reduceEqDiff, Int.cast_ofNat_Int, reduceCtorEq, decide_false, Bool.false_eq_true, eq_self]
    exact ⟨_, rfl, 0, rfl, rfl, rfl, rfl, rfl, rfl, rfl, Nat.zero_le _, fun u h => by omega, h2⟩
  | succ j =>
    obtain ⟨y, hy⟩ : ∃ y, out[j]? = some y := ⟨_, List.getElem?_eq_getElem (by omega)⟩
    obtain ⟨k, hk1⟩ : ∃ k, k = j + 1 := ⟨_, rfl⟩
    rw [← hk1] at h1 h2 ⊢
    have c1 : (k : Int) > 0 := by omega
    have w1 : IntKind.i64.wrap ((k : Int) - 1) = (j : Int) := w64_sub1 hk1 (by omega)
    have hc := ref03_CompareEvents_ev y x (hk y (List.mem_of_getElem? hy)) hkx
    by_cases hlt : cmpE y x > 0
    · left
      refine ⟨j, ?_, ⟨by omega, fun v hv => by rw [hy] at hv; cases hv; exact (by have := cmpE_neg y x; unfold leE; omega)⟩, by omega⟩
      obtain ⟨xt, xk, xl, xi, xp, xa⟩ := x
      obtain ⟨yt, yk, yl, yi, yp, ya⟩ := y
      simp only at hc
      simp only [c_ref03_SortEvents_L2, Int.natCast_nonneg, Int.toNat_natCast, List.getElem?_map, Option.map_some, hx, hy, c1, w1, hc, hlt, Evt.r, evts_lo, ints_lo, Ev.exec, Ev.evOpers, Ev.evOper, Ev.item_op, Ev.item_P, Ev.evOp, Ev.evs, Ev.Opnd.ev, Ev.Env.get, Ev.Env.set, Ev.look, Ev.cellsAt, Ev.loadC, Ev.bin_sub, Ev.bin_gtr, Ev.settle, Ev.keep, Ev.varsLo, Ev.marksLo, Ev.storeLo, Ev.lo_v, Ev.lo_agg, Ev.lo_fsl, Ev.los_nil, Ev.los_cons, ↓Ev.obind, Ev.it1, ↓reduceIte, List.length_cons, List.length_nil, List.take_succ_cons, List.take_nil, Nat.reduceAdd, Nat.reduceEqDiff, reduceCtorEq, decide_true, Bool.and_self, and_self, Nat.zero_add, Nat.le_refl, eq_self]
    · right
      have hle : leE y x := by unfold leE; omega
      have h3 : ∀ u, 0 < k → out[k - 1]? = some u → leE u x := fun u _ hu => by
        rw [hk1, Nat.add_sub_cancel, hy] at hu; cases hu; exact hle
      clear hle
      obtain ⟨xt, xk, xl, xi, xp, xa⟩ := x
      obtain ⟨yt, yk, yl, yi, yp, ya⟩ := y
      simp only at hc
      simp only [c_ref03_SortEvents_L2, Int.natCast_nonneg, Int.toNat_natCast, List.getElem?_map, Option.map_some, hx, hy, c1, w1, hc, hlt, Evt.r, ints_lo, Ev.exec, Ev.evOpers, Ev.evOper, Ev.item_op, Ev.item_P, Ev.evOp, Ev.evs, Ev.Opnd.ev, Ev.Env.get, Ev.Env.set, Ev.look, Ev.cellsAt, Ev.loadC, Ev.bin_sub, Ev.bin_gtr, Ev.lo_v, Ev.lo_agg, Ev.lo_fsl, Ev.los_nil, Ev.los_cons, ↓Ev.obind, Ev.it1, ↓reduceIte, List.length_cons, List.length_nil, List.take_succ_cons, List.take_nil, Nat.reduceAdd, Nat.reduceEqDiff, reduceCtorEq, decide_true, decide_false, Bool.and_self, Bool.false_eq_true, Nat.zero_add, Nat.le_refl, eq_self]
      exact ⟨_, rfl, k, rfl, rfl, rfl, rfl, rfl, rfl, rfl, h1, h3, h2⟩
theorem rsort_outer (hl : l.length ≤ 1000000) (hk : KeysOk l) :
    ∃ y, itB (exec (evL T) itL none c_ref03_SortEvents_L1) (Ev.settle [0, 3, 4] true 0) ⟨[(0, (.fsl ((l).map Evt.r) cl)), (3, .fsl [] true), (4, (.v (.int .i64 (0))))], []⟩ [] = some y ∧
      ∃ (l' : List Evt) (cf : Bool), y.1 = .exit 0 ∧ y.2.1.marks = [] ∧ y.2.2 = [] ∧ Ev.look y.2.1.vars 3 = some (.fsl ((l').map Evt.r) cf) ∧ l'.Perm l ∧ l'.Pairwise leE ∧ (l ≠ [] → cf = false) := by
  have key := itB_for (f := exec (evL T) itL none c_ref03_SortEvents_L1) (s := Ev.settle [0, 3, 4] true 0) (α := List Evt × Bool)
    (fun i a => ⟨[(0, (.fsl ((l).map Evt.r) cl)), (3, (.fsl ((a.1).map Evt.r) a.2)), (4, (.v (.int .i64 (i))))], []⟩) (fun i a => [])
    (fun i a => a.1.Perm (l.take i) ∧ a.1.Pairwise leE ∧ (i ≠ 0 → a.2 = false)) l.length
    (fun y => ∃ (l' : List Evt) (cf : Bool), y.1 = .exit 0 ∧ y.2.1.marks = [] ∧ y.2.2 = [] ∧ Ev.look y.2.1.vars 3 = some (.fsl ((l').map Evt.r) cf) ∧ l'.Perm l ∧ l'.Pairwise leE ∧ (l ≠ [] → cf = false)) ?_ ?_ 0 ([], true) (Nat.zero_le _) ⟨by simp, .nil, fun h => absurd rfl h⟩
  · exact key
  · rintro i ⟨out, cf⟩ hi ⟨hp, hs, _⟩
    simp only at hp hs ⊢
    obtain ⟨x, hx⟩ : ∃ x, l[i]? = some x := ⟨_, List.getElem?_eq_getElem hi⟩
    have hi' : (i : Int) < (l.length : Int) := by omega
    have hw : IntKind.i64.wrap ((i : Int) + 1) = ((i + 1 : Nat) : Int) := by rw [w64_small (by omega) (by omega)]; simp
    have hol : out.length ≤ 1000000 := by have := hp.length_eq; rw [List.length_take] at this; omega
    obtain ⟨⟨y, e, σ⟩, k1, k, k2, k3, k4, k5, k6, k7, k8, k9, k10, k11⟩ := rsort_inner l cl out x i cf hx hol (fun z hz => hk z (List.mem_of_mem_take (hp.mem_iff.1 hz))) (hk x (List.mem_of_getElem? hx))
    simp only at k1 k2 k3 k4 k5 k6 k7 k8
    subst k2; subst k4
    obtain ⟨A, B, rfl, hA⟩ : ∃ A B, out = A ++ B ∧ A.length = k := ⟨out.take k, out.drop k, (List.take_append_drop _ _).symm, by simp; omega⟩
    subst hA
    have c1 : (A.length : Int) ≤ ((A ++ B).length : Int) := by rw [List.length_append]; omega
    have c2 : (0 : Int) ≤ (A.length : Int) := by omega
    have tk : List.take A.length ((A ++ B).map Evt.r) = A.map Evt.r := by rw [List.map_append]; exact List.take_left' (by simp)
    have dr : List.drop A.length ((A ++ B).map Evt.r) = B.map Evt.r := by rw [List.map_append]; exact List.drop_left' (by simp)
    have hlen : A.length + B.length ≤ 1000000 := by rw [List.length_append] at hol; exact hol
    have new : (A ++ x :: B).Perm (l.take (i + 1)) ∧ (A ++ x :: B).Pairwise leE := by
      constructor
      · rw [take_next hx]
        exact (List.perm_middle.trans ((List.Perm.cons x hp))).trans (List.perm_append_singleton x _).symm
      · refine insert_split leE_trans hs (fun u hu => ?_) (fun v hv => ?_)
        · have hlt : A.length - 1 < A.length := (List.getElem?_eq_some_iff.1 hu).1
          refine k10 u (by omega) ?_
          rw [List.getElem?_append_left hlt]; exact hu
        · refine k11 v ?_
          rw [List.getElem?_append_right (Nat.le_refl _), Nat.sub_self]; exact hv
    refine .inl ⟨(A ++ x :: B, false), ?_, new.1, new.2, fun _ => rfl⟩
    have b1 : A.length * 64 ≤ 140737488355328 := by omega
    have b2 : (A.length + 1) * 64 ≤ 140737488355328 := by omega
    have b3 : (A.length + 1 + B.length) * 64 ≤ 140737488355328 := by omega
    have tb : List.take ((A ++ B).length - A.length) (B.map Evt.r) = B.map Evt.r := List.take_of_length_le (by simp)
    have ta : List.take A.length (A.map Evt.r) = A.map Evt.r := List.take_of_length_le (by simp)
    have ta2 : ∀ e : List AV, List.take (A.length + 1) (A.map Evt.r ++ [e]) = A.map Evt.r ++ [e] := fun e => List.take_of_length_le (by simp)
    have ta3 : ∀ e : List AV, List.take (A.length + 1 + B.length) (A.map Evt.r ++ e :: B.map Evt.r) = A.map Evt.r ++ e :: B.map Evt.r := fun e => List.take_of_length_le (by simp; omega)
    have okAB : okRows 6 ((A ++ B).map Evt.r) = true := evts_ok _
    have goal' : (AV.fsl ((A ++ x :: B).map Evt.r) false) = AV.fsl (A.map Evt.r ++ x.r :: B.map Evt.r) false := by rw [List.map_append, List.map_cons]
    have n1 : ∀ p q : Nat, p + 1 + q ≤ p + (q + 1) := fun p q => by omega
    have n2 : ∀ q : Nat, 1 + q ≤ q + 1 := fun q => by omega
    simp only
    rw [goal']
    rcases A with _ | ⟨a, A⟩ <;> rcases B with _ | ⟨b, B⟩
    · obtain ⟨xt, xk, xl, xi, xp, xa⟩ := x
      simp only [List.nil_append, List.length_nil, List.map_nil, Int.ofNat_zero] at *
      simp only [c_ref03_SortEvents_L1, Int.natCast_nonneg, Int.toNat_natCast, List.getElem?_map, Option.map_some, hx, hi', hw, k1, k3, k5, k6, k7, k8, c1, tk, dr, b1, b2, ta2, okAB, imp_self, Nat.sub_zero, Int.toNat_zero, Evt.r, evts_lo, ints_lo, Ev.exec, Ev.evOpers, Ev.evOper, Ev.item_op, Ev.evOp, Ev.appE, Ev.Opnd.ev, Ev.Env.get, Ev.Env.set, Ev.look, Ev.optInt, Ev.cellsAt, Ev.content, Ev.loadC, Ev.fillR, Ev.AV.cells, Ev.plains, Ev.AV.plain, Ev.bin_add, Ev.bin_lss, Ev.settle, Ev.keep, Ev.varsLo, Ev.marksLo, Ev.storeLo, Ev.lo_v, Ev.lo_fsl, Ev.los_nil, Ev.los_cons, Ev.loss_nil, Ev.loss_cons, Ev.okRows_cons, List.replicate_one, List.length_map, ↓Ev.obind, ↓Ev.itL_itB, Ev.it1, ↓reduceIte, List.length_cons, List.length_nil, List.getElem?_cons_zero, List.take_succ_cons, List.take_zero, List.take_nil, List.drop_zero, List.nil_append, List.set_cons_zero, Nat.reduceAdd, Nat.reduceEqDiff, Nat.reduceMul, Nat.reduceLT, Nat.reduceLeDiff, Nat.reducePow, Int.cast_ofNat_Int, reduceCtorEq, decide_true, Bool.and_self, Bool.and_true, Bool.false_eq_true, and_self, ne_eq, not_false_eq_true, List.cons_ne_nil, Nat.zero_add, Nat.add_zero, Nat.lt_add_one, Nat.le_refl, Option.isSome_some, Option.isSome_none, eq_self, implies_true]
    · generalize hRB : List.map Evt.r (b :: B) = RB at *
      have nB : ¬ RB = [] := by rw [← hRB]; simp
      have lB : RB.length = (b :: B).length := by rw [← hRB]; simp
      have oB : okRows 6 RB = true := by rw [← hRB]; exact evts_ok _
      have loB : ∀ n, loss n RB = true := fun n => by rw [← hRB]; exact evts_lo n _
      obtain ⟨xt, xk, xl, xi, xp, xa⟩ := x
      simp only [List.nil_append, List.length_nil, List.map_nil, Int.ofNat_zero, hRB, Nat.sub_zero, List.drop_zero] at *
      generalize hrb : (b :: B).length = nb at *
      simp only [c_ref03_SortEvents_L1, Int.natCast_nonneg, Int.toNat_natCast, List.getElem?_map, Option.map_some, hx, hi', hw, k1, k3, k5, k6, k7, k8, c1, c2, tk, b1, b2, b3, ta, ta2, ta3, tb, okAB, imp_self, n2, Int.le_refl, Nat.sub_zero, nB, lB, loB, okRows_nil, Int.toNat_zero, Evt.r, evts_lo, ints_lo, Ev.exec, Ev.evOpers, Ev.evOper, Ev.item_op, Ev.evOp, Ev.appE, Ev.Opnd.ev, Ev.Env.get, Ev.Env.set, Ev.look, Ev.optInt, Ev.cellsAt, Ev.content, Ev.loadC, Ev.fillR, Ev.AV.cells, Ev.plains, Ev.AV.plain, Ev.bin_add, Ev.bin_lss, Ev.settle, Ev.keep, Ev.varsLo, Ev.marksLo, Ev.storeLo, Ev.lo_v, Ev.lo_fsl, Ev.los_nil, Ev.los_cons, Ev.loss_cons, Ev.okRows_nil, Ev.okRows_cons, List.replicate_one, List.length_map, ↓Ev.obind, ↓Ev.itL_itB, Ev.it1, ↓reduceIte, List.length_cons, List.length_nil, List.getElem?_cons_zero, List.take_succ_cons, List.take_zero, List.take_nil, List.drop_zero, List.cons_append, List.nil_append, List.set_cons_zero, Nat.reduceAdd, Nat.reduceEqDiff, Nat.reduceMul, Nat.reduceLT, Nat.reduceLeDiff, Nat.reducePow, reduceCtorEq, decide_true, Bool.and_self, Bool.and_true, Bool.false_eq_true, and_self, ne_eq, not_false_eq_true, List.cons_ne_nil, Nat.zero_add, Nat.add_zero, Nat.lt_add_one, Nat.le_refl, Option.isSome_some, Option.isSome_none, eq_self, implies_true]
    · generalize hRA : List.map Evt.r (a :: A) = RA at *
      have nA : ¬ RA = [] := by rw [← hRA]; simp
      have lA : RA.length = (a :: A).length := by rw [← hRA]; simp
      have oA : okRows 6 RA = true := by rw [← hRA]; exact evts_ok _
      have loA : ∀ n, loss n RA = true := fun n => by rw [← hRA]; exact evts_lo n _
      obtain ⟨xt, xk, xl, xi, xp, xa⟩ := x
      simp only [List.append_nil, List.length_nil, List.map_nil, hRA, Nat.add_zero, Nat.sub_self] at *
      generalize hra : (a :: A).length = na at *
      simp only [c_ref03_SortEvents_L1, Int.natCast_nonneg, Int.toNat_natCast, List.getElem?_map, Option.map_some, hx, hi', hw, k1, k3, k5, k6, k7, k8, c1, c2, tk, dr, b1, b2, ta2, tb, okAB, imp_self, Int.le_refl, Nat.sub_zero, nA, lA, loA, okRows_nil, List.take_nil, loss_app, Evt.r, evts_lo, ints_lo, Ev.exec, Ev.evOpers, Ev.evOper, Ev.item_op, Ev.evOp, Ev.appE, Ev.Opnd.ev, Ev.Env.get, Ev.Env.set, Ev.look, Ev.optInt, Ev.cellsAt, Ev.content, Ev.loadC, Ev.fillR, Ev.AV.cells, Ev.plains, Ev.AV.plain, Ev.bin_add, Ev.bin_lss, Ev.settle, Ev.keep, Ev.varsLo, Ev.marksLo, Ev.storeLo, Ev.lo_v, Ev.lo_fsl, Ev.los_nil, Ev.los_cons, Ev.loss_nil, Ev.loss_cons, Ev.okRows_nil, Ev.okRows_cons, List.replicate_one, List.length_map, ↓Ev.obind, ↓Ev.itL_itB, Ev.it1, ↓reduceIte, List.length_cons, List.length_nil, List.length_append, List.getElem?_cons_zero, List.take_succ_cons, List.take_zero, List.take_nil, List.drop_zero, List.nil_append, List.set_cons_zero, Nat.reduceAdd, Nat.reduceEqDiff, Nat.reduceMul, Nat.reduceLT, Nat.reduceLeDiff, Nat.reducePow, Int.reduceToNat, reduceCtorEq, decide_true, Bool.and_self, Bool.and_true, Bool.false_eq_true, and_self, ne_eq, not_false_eq_true, List.cons_ne_nil, Nat.zero_add, Nat.add_zero, Nat.lt_add_one, Nat.le_refl, Option.isSome_some, Option.isSome_none, eq_self, implies_true]
    · generalize hRA : List.map Evt.r (a :: A) = RA at *
      generalize hRB : List.map Evt.r (b :: B) = RB at *
      have nA : ¬ RA = [] := by rw [← hRA]; simp
      have nB : ¬ RB = [] := by rw [← hRB]; simp
      have lA : RA.length = (a :: A).length := by rw [← hRA]; simp
      have lB : RB.length = (b :: B).length := by rw [← hRB]; simp
      have oA : okRows 6 RA = true := by rw [← hRA]; exact evts_ok _
      have oB : okRows 6 RB = true := by rw [← hRB]; exact evts_ok _
      have loA : ∀ n, loss n RA = true := fun n => by rw [← hRA]; exact evts_lo n _
      have loB : ∀ n, loss n RB = true := fun n => by rw [← hRB]; exact evts_lo n _
      generalize hra : (a :: A).length = na at *
      generalize hrb : (b :: B).length = nb at *
      generalize (a :: A) ++ (b :: B) = AB at *
      obtain ⟨xt, xk, xl, xi, xp, xa⟩ := x
      simp only [c_ref03_SortEvents_L1, Int.natCast_nonneg, Int.toNat_natCast, List.getElem?_map, Option.map_some, hx, hi', hw, k1, k3, k5, k6, k7, k8, c1, c2, tk, dr, b1, b2, b3, ta, ta2, ta3, tb, okAB, imp_self, n1, List.append_assoc, Int.le_refl, Nat.sub_zero, nA, nB, lA, lB, oA, oB, loA, loB, loss_app, Evt.r, evts_lo, ints_lo, Ev.exec, Ev.evOpers, Ev.evOper, Ev.item_op, Ev.evOp, Ev.appE, Ev.Opnd.ev, Ev.Env.get, Ev.Env.set, Ev.look, Ev.optInt, Ev.cellsAt, Ev.content, Ev.loadC, Ev.fillR, Ev.AV.cells, Ev.plains, Ev.AV.plain, Ev.bin_add, Ev.bin_lss, Ev.settle, Ev.keep, Ev.varsLo, Ev.marksLo, Ev.storeLo, Ev.lo_v, Ev.lo_fsl, Ev.los_nil, Ev.los_cons, Ev.loss_cons, Ev.okRows_nil, Ev.okRows_cons, List.replicate_one, List.length_map, ↓Ev.obind, ↓Ev.itL_itB, Ev.it1, ↓reduceIte, List.length_cons, List.length_nil, List.length_append, List.getElem?_cons_zero, List.take_succ_cons, List.take_zero, List.take_nil, List.drop_zero, List.cons_append, List.nil_append, List.set_cons_zero, Nat.reduceAdd, Nat.reduceEqDiff, Nat.reduceMul, Nat.reduceLT, Nat.reduceLeDiff, Nat.reducePow, Int.reduceToNat, reduceCtorEq, decide_true, Bool.and_self, Bool.and_true, Bool.false_eq_true, and_self, ne_eq, not_false_eq_true, List.cons_ne_nil, Nat.zero_add, Nat.lt_add_one, Nat.le_refl, Option.isSome_some, Option.isSome_none, eq_self, implies_true]
  · rintro ⟨out, cf⟩ ⟨hp, hs, hc⟩
    rw [List.take_length] at hp
    simp only at hp hs hc ⊢
    simp only [c_ref03_SortEvents_L1, Int.lt_irrefl, Ev.exec, Ev.evOpers, Ev.evOper, Ev.item_op, Ev.evOp, Ev.Opnd.ev, Ev.Env.get, Ev.Env.set, Ev.look, Ev.bin_lss, List.length_map, ↓Ev.obind, Ev.it1, ↓reduceIte, Nat.reduceEqDiff, reduceCtorEq, decide_false, Bool.false_eq_true, ne_eq, eq_self]
    exact ⟨_, rfl, out, cf, rfl, rfl, rfl, rfl, hp, hs, fun h => hc (by intro e; exact h (List.eq_nil_of_length_eq_zero e))⟩
theorem ref03_SortEvents_ev (hl : l.length ≤ 1000000) (hk : KeysOk l) : ∃ (l' : List Evt) (cf : Bool), l'.Perm l ∧ l'.Pairwise leE ∧ (l ≠ [] → cf = false) ∧ callZ (evL T) n_ref03_SortEvents [(.fsl ((l).map Evt.r) cl)] = some (.fsl ((l').map Evt.r) cf) := by
  obtain ⟨⟨y, e, σ⟩, k1, l', cf, k2, k3, k4, k5, k6, k7, k8⟩ := rsort_outer l cl hl hk
  simp only at k1 k2 k3 k4 k5
  subst k2; subst k4
  refine ⟨l', cf, k6, k7, k8, ?_⟩
  rw [callZ, evL_code ext_ref03_SortEvents code_ref03_SortEvents]
  simp only [c_ref03_SortEvents, k1, k3, k5, evts_lo, Ev.runFunc, Ev.exec, Ev.evOpers, Ev.evOper, Ev.item_op, Ev.evOp, Ev.Opnd.ev, Ev.Env.get, Ev.Env.set, Ev.look, Ev.argVars, Ev.resVals, Ev.resVal, Ev.resOf, Ev.kill, Ev.leave, Ev.settle, Ev.keep, Ev.varsLo, Ev.marksLo, Ev.storeLo, Ev.lo_v, Ev.lo_fsl, Ev.loss_nil, Ev.frz_lo, ↓Ev.obind, ↓Ev.itL_itB, ↓reduceIte, List.length_cons, List.length_nil, List.take_nil, Nat.reduceEqDiff, reduceCtorEq, Bool.and_self, and_self, Nat.zero_add, eq_self]
theorem ref03_SortEvents_evD (hl : l.length ≤ 1000000) (hk : KeysOk l) (hd : Dist l) : ∃ cf : Bool, (l ≠ [] → cf = false) ∧ callZ (evL T) n_ref03_SortEvents [(.fsl ((l).map Evt.r) cl)] = some (.fsl ((sortL l).map Evt.r) cf) := by
  obtain ⟨l', cf, h1, h2, h3, h4⟩ := ref03_SortEvents_ev l cl hl hk
  rw [← sortL_unique hd h1 h2]; exact ⟨cf, h3, h4⟩
end
set_option maxRecDepth 10000
section
variable (l : List Evt) (c : Bool)
theorem dis_inner (R : List Evt) (g i : Nat) (x : Evt) (hx : l[i]? = some x) (hl : l.length ≤ 1000000) (hk : KeysOk l) :
    ∃ y, itB (exec (evL T) itL none c_ref22_Distinct_L2) (Ev.settle [0, 3, 4, 5, 6] true 1) ⟨[(0, (.fsl ((l).map Evt.r) c)), (3, .sl 0 g 0 R.length false), (4, (.v (.int .i64 (i)))), (5, (.v (.bool (true)))), (6, (.v (.int .i64 (0))))], []⟩ [.row 6 ((R).map Evt.r) g] = some y ∧
      ∃ b : Bool, y.1 = .exit 2 ∧ y.2.1.marks = [] ∧ y.2.2 = [.row 6 ((R).map Evt.r) g] ∧ Ev.look y.2.1.vars 0 = some (.fsl ((l).map Evt.r) c) ∧ Ev.look y.2.1.vars 3 = some (.sl 0 g 0 R.length false) ∧ Ev.look y.2.1.vars 4 = some (.v (.int .i64 (i))) ∧ Ev.look y.2.1.vars 5 = some (.v (.bool (b))) ∧
        (b = true → ∀ (k : Nat) (z : Evt), k < i → l[k]? = some z → ¬ cmpE z x = 0) := by
  have hil : i < l.length := (List.getElem?_eq_some_iff.1 hx).1
  have key := itB_for (f := exec (evL T) itL none c_ref22_Distinct_L2) (s := Ev.settle [0, 3, 4, 5, 6] true 1) (α := Bool)
    (fun k b => ⟨[(0, (.fsl ((l).map Evt.r) c)), (3, .sl 0 g 0 R.length false), (4, (.v (.int .i64 (i)))), (5, (.v (.bool (b)))), (6, (.v (.int .i64 (k))))], []⟩) (fun k b => [.row 6 ((R).map Evt.r) g])
    (fun k b => b = true → ∀ (j : Nat) (z : Evt), j < k → l[j]? = some z → ¬ cmpE z x = 0) i
    (fun y => ∃ b : Bool, y.1 = .exit 2 ∧ y.2.1.marks = [] ∧ y.2.2 = [.row 6 ((R).map Evt.r) g] ∧ Ev.look y.2.1.vars 0 = some (.fsl ((l).map Evt.r) c) ∧ Ev.look y.2.1.vars 3 = some (.sl 0 g 0 R.length false) ∧ Ev.look y.2.1.vars 4 = some (.v (.int .i64 (i))) ∧ Ev.look y.2.1.vars 5 = some (.v (.bool (b))) ∧
        (b = true → ∀ (k : Nat) (z : Evt), k < i → l[k]? = some z → ¬ cmpE z x = 0)) ?_ ?_ 0 true (Nat.zero_le _) (fun _ j z h => by omega)
  · exact key
  · rintro k b hki hb
    obtain ⟨z, hz⟩ : ∃ z, l[k]? = some z := ⟨_, List.getElem?_eq_getElem (by omega)⟩
    have hi' : (k : Int) < (i : Int) := by omega
    have hw : IntKind.i64.wrap ((k : Int) + 1) = ((k + 1 : Nat) : Int) := w64_add1 (by omega)
    have hc := ref03_CompareEvents_ev z x (hk z (List.mem_of_getElem? hz)) (hk x (List.mem_of_getElem? hx))
    refine .inl ⟨b && decide (¬ cmpE z x = 0), ?_, fun hbt j u hj hu => ?_⟩
    · clear hb
      obtain ⟨xt, xk, xl, xi, xp, xa⟩ := x
      obtain ⟨yt, yk, yl, yi, yp, ya⟩ := z
      simp only at hc
      cases b
      · simp only [c_ref22_Distinct_L2, hi', hw, evts_lo, Ev.exec, Ev.evOpers, Ev.evOper, Ev.item_op, Ev.evOp, Ev.Opnd.ev, Ev.Env.get, Ev.Env.set, Ev.Env.unset, Ev.look, Ev.bin_add, Ev.bin_lss, Ev.settle, Ev.keep, Ev.varsLo, Ev.marksLo, Ev.storeLo, Ev.SObj.lo, Ev.lo_v, Ev.lo_fsl, Ev.lo_sl, ↓Ev.obind, Ev.it1, ↓reduceIte, List.take_succ_cons, List.take_nil, Nat.reduceEqDiff, reduceCtorEq, decide_true, Bool.and_self, Bool.false_eq_true, and_self, Nat.lt_add_one, eq_self, Bool.false_and]
      · simp only [c_ref22_Distinct_L2, Int.natCast_nonneg, Int.toNat_natCast, List.getElem?_map, Option.map_some, hx, hz, hi', hw, hc, Evt.r, evts_lo, ints_lo, Ev.exec, Ev.evOpers, Ev.evOper, Ev.item_op, Ev.item_P, Ev.evOp, Ev.evs, Ev.Opnd.ev, Ev.Env.get, Ev.Env.set, Ev.look, Ev.cellsAt, Ev.loadC, Ev.bin_add, Ev.bin_neq, Ev.bin_lss, Ev.settle, Ev.keep, Ev.varsLo, Ev.marksLo, Ev.storeLo, Ev.SObj.lo, Ev.lo_v, Ev.lo_agg, Ev.lo_fsl, Ev.lo_sl, Ev.los_nil, Ev.los_cons, ↓Ev.obind, Ev.it1, ↓reduceIte, List.length_cons, List.length_nil, List.take_succ_cons, List.take_nil, Nat.reduceAdd, Nat.reduceEqDiff, reduceCtorEq, decide_true, Bool.and_self, Bool.true_and, and_self, ne_eq, Nat.zero_add, Nat.lt_add_one, Nat.le_refl, eq_self]
    · simp only [Bool.and_eq_true, decide_eq_true_eq] at hbt
      rcases Nat.lt_or_ge j k with h1 | h1
      · exact hb hbt.1 j u h1 hu
      · have : j = k := by omega
        subst this
        rw [hz] at hu; cases hu; exact hbt.2
  · rintro b hb
    simp only [c_ref22_Distinct_L2, Int.lt_irrefl, Ev.exec, Ev.evOpers, Ev.evOper, Ev.item_op, Ev.evOp, Ev.Opnd.ev, Ev.Env.get, Ev.Env.set, Ev.look, Ev.bin_lss, ↓Ev.obind, Ev.it1, ↓reduceIte, Nat.reduceEqDiff, reduceCtorEq, decide_false, Bool.false_eq_true, eq_self]
    exact ⟨_, rfl, b, rfl, rfl, rfl, rfl, rfl, rfl, rfl, hb⟩
theorem dis_outer (hl : l.length ≤ 1000000) (hk : KeysOk l) :
    ∃ y, itB (exec (evL T) itL none c_ref22_Distinct_L1) (Ev.settle [0, 3, 4] true 1) ⟨[(0, (.fsl ((l).map Evt.r) c)), (3, .sl 0 0 0 0 false), (4, (.v (.int .i64 (0))))], []⟩ [.row 6 [] 0] = some y ∧
      ∃ (R : List Evt) (g : Nat), y.1 = .exit 0 ∧ y.2.1.marks = [] ∧ y.2.2 = [.row 6 ((R).map Evt.r) g] ∧ Ev.look y.2.1.vars 3 = some (.sl 0 g 0 R.length false) ∧ R.Sublist l ∧ Dist R := by
  have key := itB_for (f := exec (evL T) itL none c_ref22_Distinct_L1) (s := Ev.settle [0, 3, 4] true 1) (α := List Evt × Nat)
    (fun i a => ⟨[(0, (.fsl ((l).map Evt.r) c)), (3, .sl 0 a.2 0 a.1.length false), (4, (.v (.int .i64 (i))))], []⟩) (fun i a => [.row 6 ((a.1).map Evt.r) a.2])
    (fun i a => a.1.Sublist (l.take i) ∧ Dist a.1) l.length
    (fun y => ∃ (R : List Evt) (g : Nat), y.1 = .exit 0 ∧ y.2.1.marks = [] ∧ y.2.2 = [.row 6 ((R).map Evt.r) g] ∧ Ev.look y.2.1.vars 3 = some (.sl 0 g 0 R.length false) ∧ R.Sublist l ∧ Dist R) ?_ ?_ 0 ([], 0) (Nat.zero_le _) ⟨by simp, .nil⟩
  · exact key
  · rintro i ⟨R, g⟩ hi ⟨hs, hd⟩
    simp only at hs hd ⊢
    obtain ⟨x, hx⟩ : ∃ x, l[i]? = some x := ⟨_, List.getElem?_eq_getElem hi⟩
    have hi' : (i : Int) < (l.length : Int) := by omega
    have hw : IntKind.i64.wrap ((i : Int) + 1) = ((i + 1 : Nat) : Int) := w64_add1 (by omega)
    obtain ⟨⟨y, e, σ⟩, k1, b, k2, k3, k4, k5, k6, k7, k8, k9⟩ := dis_inner l c R g i x hx hl hk
    simp only at k2 k3 k4 k5 k6 k7 k8
    subst k2; subst k4
    have hsl := hs.length_le
    rw [List.length_take] at hsl
    have tk1 : (l.take (i + 1)) = l.take i ++ [x] := take_next hx
    cases b
    · refine .inl ⟨(R, g), ?_, by rw [tk1]; exact hs.trans (List.sublist_append_left _ _), hd⟩
      simp only [c_ref22_Distinct_L1, hi', hw, k1, k3, k5, k6, k7, k8, evts_lo, Ev.exec, Ev.evOpers, Ev.evOper, Ev.item_op, Ev.evOp, Ev.Opnd.ev, Ev.Env.get, Ev.Env.set, Ev.look, Ev.bin_add, Ev.bin_lss, Ev.settle, Ev.keep, Ev.varsLo, Ev.marksLo, Ev.storeLo, Ev.SObj.lo, Ev.lo_v, Ev.lo_fsl, Ev.lo_sl, List.length_map, ↓Ev.obind, ↓Ev.itL_itB, Ev.it1, ↓reduceIte, List.length_cons, List.length_nil, List.take_succ_cons, List.take_nil, Nat.reduceEqDiff, reduceCtorEq, decide_true, Bool.and_self, Bool.false_eq_true, and_self, Nat.zero_add, Nat.lt_add_one, eq_self]
    · refine .inl ⟨(R ++ [x], g + 1), ?_, by rw [tk1]; exact List.Sublist.append_right hs [x], ?_⟩
      · have hb : (R.length + 1) * 64 ≤ 140737488355328 := by omega
        have htk : (R.map Evt.r).take R.length = R.map Evt.r := List.take_of_length_le (by simp)
        have hr : (R ++ [x]).map Evt.r = R.map Evt.r ++ [x.r] := by rw [List.map_append]; rfl
        have hlr : (R ++ [x]).length = R.length + 1 := by simp
        simp only
        rw [hr, hlr]
        clear k9 hr hlr
        obtain ⟨xt, xk, xl, xi, xp, xa⟩ := x
        simp only [c_ref22_Distinct_L1, Int.natCast_nonneg, Int.toNat_natCast, List.getElem?_map, Option.map_some, hx, hi', hw, k1, k3, k5, k6, k7, k8, hb, htk, loss_app, Evt.r, evts_lo, ints_lo, Ev.exec, Ev.evOpers, Ev.evOper, Ev.item_op, Ev.evOp, Ev.appE, Ev.Opnd.ev, Ev.Env.get, Ev.Env.set, Ev.look, Ev.cellsAt, Ev.content, Ev.loadC, Ev.fillR, Ev.AV.cells, Ev.plains, Ev.AV.plain, Ev.bin_add, Ev.bin_lss, Ev.settle, Ev.keep, Ev.varsLo, Ev.marksLo, Ev.storeLo, Ev.SObj.lo, Ev.lo_v, Ev.lo_fsl, Ev.lo_sl, Ev.los_nil, Ev.los_cons, Ev.loss_nil, Ev.loss_cons, Ev.okRows_nil, Ev.okRows_cons, List.replicate_one, List.length_map, ↓Ev.obind, ↓Ev.itL_itB, Ev.it1, ↓reduceIte, List.length_cons, List.length_nil, List.getElem?_cons_zero, List.take_succ_cons, List.take_nil, List.set_cons_zero, Nat.reduceAdd, Nat.reduceEqDiff, Nat.reduceMul, Nat.reduceLeDiff, Nat.reducePow, reduceCtorEq, decide_true, Bool.and_self, and_self, ne_eq, not_false_eq_true, List.cons_ne_nil, Nat.zero_add, Nat.lt_add_one, Nat.le_refl, eq_self]
      · refine List.pairwise_append.2 ⟨hd, List.pairwise_singleton _ _, fun u hu v hv => ?_⟩
        rw [List.mem_singleton.1 hv]
        obtain ⟨j, hj⟩ := List.mem_iff_getElem?.1 (hs.subset hu)
        rw [List.getElem?_take] at hj
        split at hj
        · exact k9 rfl j u (by omega) hj
        · cases hj
  · rintro ⟨R, g⟩ ⟨hs, hd⟩
    rw [List.take_length] at hs
    simp only at hs hd ⊢
    simp only [c_ref22_Distinct_L1, Int.lt_irrefl, Ev.exec, Ev.evOpers, Ev.evOper, Ev.item_op, Ev.evOp, Ev.Opnd.ev, Ev.Env.get, Ev.Env.set, Ev.look, Ev.bin_lss, List.length_map, ↓Ev.obind, Ev.it1, ↓reduceIte, Nat.reduceEqDiff, reduceCtorEq, decide_false, Bool.false_eq_true, eq_self]
    exact ⟨_, rfl, R, g, rfl, rfl, rfl, rfl, hs, hd⟩
theorem ref22_Distinct_ev (hl : l.length ≤ 1000000) (hk : KeysOk l) : ∃ R : List Evt, R.Sublist l ∧ Dist R ∧ callZ (evL T) n_ref22_Distinct [(.fsl ((l).map Evt.r) c)] = some (.fsl ((R).map Evt.r) false) := by
  obtain ⟨⟨y, e, σ⟩, h1, R, g, h2, h3, h4, h5, h6, h7⟩ := dis_outer l c hl hk
  simp only at h2 h3 h4 h5
  subst h2; subst h4
  refine ⟨R, h6, h7, ?_⟩
  have htk : (R.map Evt.r).take R.length = R.map Evt.r := List.take_of_length_le (by simp)
  rw [callZ, evL_code ext_ref22_Distinct code_ref22_Distinct]
  simp only [c_ref22_Distinct, h1, h3, h5, htk, evts_lo, Ev.runFunc, Ev.exec, Ev.evOpers, Ev.evOper, Ev.item_op, Ev.evOp, Ev.Opnd.ev, Ev.Env.get, Ev.Env.set, Ev.look, Ev.argVars, Ev.resVals, Ev.resVal, Ev.resOf, Ev.kill, Ev.leave, Ev.settle, Ev.keep, Ev.varsLo, Ev.marksLo, Ev.storeLo, Ev.SObj.lo, Ev.lo_v, Ev.lo_fsl, Ev.lo_sl, Ev.loss_nil, Ev.frz_own, Ev.omap_los, List.length_map, ↓Ev.obind, ↓Ev.itL_itB, ↓reduceIte, List.length_cons, List.length_nil, List.getElem?_cons_zero, List.take_succ_cons, List.take_zero, List.take_nil, List.drop_zero, List.nil_append, Nat.reduceEqDiff, Nat.reduceLT, reduceCtorEq, decide_true, decide_false, Bool.and_self, Bool.false_eq_true, and_self, and_true, Nat.zero_add, Nat.lt_add_one, Nat.le_refl, eq_self]
end
set_option maxRecDepth 10000
theorem law22_head_ev : callZ (evL T) n_law22_head [] = some (.v (.bool (true))) := callZ_of_F 16 (by kernel_rfl)
section
variable (l : List Evt) (c : Bool)
def greatE (l : List Evt) : Bool := decide (l.length > 100) || l.any (fun x => decide (x.key.length > 50))
theorem great_L (hl : l.length ≤ 100) : ∃ y, itB (exec (evL T) itL none c_law03_Great_L1) (Ev.settle [0, 3] true 0) ⟨[(0, (.fsl ((l).map Evt.r) c)), (3, (.v (.int .i64 (0))))], []⟩ [] = some y ∧
    (l.all (fun x => !decide (x.key.length > 50)) = true ∧ (y.1 = .exit 0 ∧ y.2.1.marks = [] ∧ y.2.2 = []) ∨ l.all (fun x => !decide (x.key.length > 50)) = false ∧ ∃ x, l.find? (fun x => !(!decide (x.key.length > 50))) = some x ∧ (y.1 = .ret ∧ y.2.1.marks = [] ∧ y.2.2 = [] ∧ Ev.look y.2.1.vars 2 = some (.v (.bool (true))))) := by
  refine itB_find l (fun i => ⟨[(0, (.fsl ((l).map Evt.r) c)), (3, (.v (.int .i64 (i))))], []⟩) [] (fun x => !decide (x.key.length > 50)) _ (fun v y => _) ?_ ?_ ?_
  · intro i x hi hx hp
    have hi' : (i : Int) < (l.length : Int) := by omega
    have hw : IntKind.i64.wrap ((i : Int) + 1) = ((i + 1 : Nat) : Int) := w64_add1 (by omega)
    have hp' : ¬ (x.key.length : Int) > 50 := by simp at hp; omega
    clear hp
    obtain ⟨xt, xk, xl, xi, xp, xa⟩ := x
    simp only at hp'
    simp only [c_law03_Great_L1, Int.natCast_nonneg, Int.toNat_natCast, List.getElem?_map, Option.map_some, hx, hi', hw, hp', Evt.r, evts_lo, Ev.exec, Ev.evOpers, Ev.evOper, Ev.item_op, Ev.evOp, Ev.Opnd.ev, Ev.Env.get, Ev.Env.set, Ev.look, Ev.cellsAt, Ev.loadC, Ev.bin_add, Ev.bin_lss, Ev.bin_gtr, Ev.settle, Ev.keep, Ev.varsLo, Ev.marksLo, Ev.storeLo, Ev.lo_v, Ev.lo_fsl, List.length_map, ↓Ev.obind, Ev.it1, ↓reduceIte, List.length_cons, List.length_nil, List.take_nil, List.drop_succ_cons, List.drop_zero, List.head?_cons, Nat.reduceAdd, Nat.reduceEqDiff, reduceCtorEq, decide_true, decide_false, Bool.and_self, Bool.false_eq_true, and_self, Nat.zero_add, eq_self]
  · intro i x hi hx hp
    have hi' : (i : Int) < (l.length : Int) := by omega
    have hp' : (x.key.length : Int) > 50 := by simp at hp; omega
    clear hp
    obtain ⟨xt, xk, xl, xi, xp, xa⟩ := x
    simp only at hp'
    simp only [c_law03_Great_L1, Int.natCast_nonneg, Int.toNat_natCast, List.getElem?_map, Option.map_some, hx, hi', hp', Evt.r, Ev.exec, Ev.evOpers, Ev.evOper, Ev.item_op, Ev.evOp, Ev.Opnd.ev, Ev.Env.get, Ev.Env.set, Ev.look, Ev.cellsAt, Ev.loadC, Ev.bin_lss, Ev.bin_gtr, List.length_map, ↓Ev.obind, Ev.it1, ↓reduceIte, List.length_cons, List.length_nil, List.drop_succ_cons, List.drop_zero, List.head?_cons, Nat.reduceAdd, Nat.reduceEqDiff, reduceCtorEq, decide_true, Bool.false_eq_true, Nat.zero_add, eq_self]
    exact ⟨_, rfl, rfl, rfl, rfl, rfl⟩
  · simp only [c_law03_Great_L1, Int.lt_irrefl, Ev.exec, Ev.evOpers, Ev.evOper, Ev.item_op, Ev.evOp, Ev.Opnd.ev, Ev.Env.get, Ev.Env.set, Ev.look, Ev.bin_lss, List.length_map, ↓Ev.obind, Ev.it1, ↓reduceIte, Nat.reduceEqDiff, reduceCtorEq, decide_false, Bool.false_eq_true, eq_self]
    exact ⟨_, rfl, rfl, rfl, rfl⟩
theorem law03_Great_ev : callZ (evL T) n_law03_Great [(.fsl ((l).map Evt.r) c)] = some (.v (.bool (greatE l))) := by
  rw [callZ, evL_code ext_law03_Great code_law03_Great]
  by_cases h : l.length > 100
  · have h' : (l.length : Int) > 100 := by omega
    have hg : greatE l = true := by simp [greatE, h]
    rw [hg]
    simp only [c_law03_Great, h', Ev.runFunc, Ev.exec, Ev.evOpers, Ev.evOper, Ev.item_op, Ev.evOp, Ev.Opnd.ev, Ev.Env.get, Ev.Env.set, Ev.look, Ev.argVars, Ev.bin_gtr, Ev.resVals, Ev.resVal, Ev.resOf, Ev.kill, Ev.leave, Ev.storeLo, Ev.lo_v, Ev.frz_lo, List.length_map, ↓Ev.obind, ↓reduceIte, List.length_cons, List.length_nil, List.take_nil, reduceCtorEq, decide_true, and_self, Nat.zero_add, eq_self]
  · have h' : ¬ (l.length : Int) > 100 := by omega
    obtain ⟨⟨y, e, σ⟩, h1, h2⟩ := great_L l c (by omega)
    rcases h2 with ⟨ha, h2, h3, h4⟩ | ⟨ha, x, hx, h2, h3, h4, h5⟩ <;> simp only at h2 h3 h4 <;> subst h2 <;> subst h4
    · have hg : greatE l = false := by
        simp only [greatE, h, decide_false, Bool.false_or, List.any_eq_false]
        intro x hx
        have := List.all_eq_true.1 ha x hx
        simpa using this
      rw [hg]
      simp only [c_law03_Great, h', h1, h3, evts_lo, Ev.runFunc, Ev.exec, Ev.evOpers, Ev.evOper, Ev.item_op, Ev.evOp, Ev.Opnd.ev, Ev.Env.get, Ev.Env.set, Ev.look, Ev.argVars, Ev.bin_gtr, Ev.resVals, Ev.resVal, Ev.resOf, Ev.kill, Ev.leave, Ev.settle, Ev.keep, Ev.varsLo, Ev.marksLo, Ev.storeLo, Ev.lo_v, Ev.lo_fsl, Ev.frz_lo, List.length_map, ↓Ev.obind, ↓Ev.itL_itB, ↓reduceIte, List.length_cons, List.length_nil, List.take_nil, reduceCtorEq, decide_false, Bool.and_self, Bool.false_eq_true, and_self, Nat.zero_add, eq_self]
    · have hg : greatE l = true := by
        have h6 := List.find?_some hx
        simp only [Bool.not_not] at h6
        simp only [greatE, Bool.or_eq_true, List.any_eq_true]
        exact .inr ⟨x, List.mem_of_find?_eq_some hx, h6⟩
      rw [hg]
      simp only at h5
      simp only [c_law03_Great, h', h1, h3, h5, evts_lo, Ev.runFunc, Ev.exec, Ev.evOpers, Ev.evOper, Ev.item_op, Ev.evOp, Ev.Opnd.ev, Ev.Env.get, Ev.Env.set, Ev.look, Ev.argVars, Ev.bin_gtr, Ev.resVals, Ev.resVal, Ev.resOf, Ev.kill, Ev.leave, Ev.settle, Ev.keep, Ev.varsLo, Ev.marksLo, Ev.storeLo, Ev.lo_v, Ev.lo_fsl, Ev.frz_lo, List.length_map, ↓Ev.obind, ↓Ev.itL_itB, ↓reduceIte, List.length_cons, List.length_nil, List.take_nil, reduceCtorEq, decide_false, Bool.and_self, Bool.false_eq_true, and_self, Nat.zero_add, eq_self]
theorem great_sizes (h : greatE l = false) : l.length ≤ 100 ∧ ∀ x ∈ l, x.key.length ≤ 50 := by
  simp only [greatE, Bool.or_eq_false_iff, decide_eq_false_iff_not, List.any_eq_false, decide_eq_true_eq] at h
  exact ⟨by omega, fun x hx => by have := h.2 x hx; omega⟩
end
set_option maxRecDepth 10000
structure Split (l A B : List Evt) (cf : Bool) : Prop where
  sorted : A.Pairwise leE
  dist : Dist (A ++ B)
  len : (A ++ B).length ≤ l.length
  sub : ∀ x ∈ A ++ B, x ∈ l
  flag : A ≠ [] → cf = false
theorem law22_split_ev (l : List Evt) (c : Bool) (a : Int) (h0 : 0 ≤ a) (h1 : a ≤ 255) (hl : l.length ≤ 1000) (hk : KeysOk l) : ∃ (A B : List Evt) (cf : Bool), Split l A B cf ∧
    callZ (evL T) n_law22_split [(.fsl ((l).map Evt.r) c), .v (.int .u8 a)] = some (.tup [(.fsl ((A).map Evt.r) cf), (.fsl ((B).map Evt.r) false)]) := by
  obtain ⟨R, hs, hd, hR⟩ := ref22_Distinct_ev l c (by omega) hk
  have hRl := hs.length_le
  obtain ⟨k, hkR, hkk⟩ : ∃ k : Nat, k ≤ R.length ∧ ((R = [] ∧ k = 0) ∨ (R ≠ [] ∧ (a.tmod ((R.length + 1 : Nat) : Int)) = (k : Int))) := by
    by_cases hr : R = []
    · exact ⟨0, Nat.zero_le _, .inl ⟨hr, rfl⟩⟩
    · refine ⟨(a.tmod ((R.length + 1 : Nat) : Int)).toNat, ?_, .inr ⟨hr, ?_⟩⟩
      · have h2 := Int.tmod_lt_of_pos a (show (0 : Int) < ((R.length + 1 : Nat) : Int) by omega)
        omega
      · have h3 := Int.tmod_nonneg ((R.length + 1 : Nat) : Int) h0
        omega
  have hdk : Dist (R.take k) := hd.sub (List.take_sublist _ _)
  have hkk2 : KeysOk (R.take k) := fun z hz => hk z (hs.subset (List.mem_of_mem_take hz))
  obtain ⟨cf, hcf, hS⟩ := ref03_SortEvents_evD (R.take k) (false && decide ((k : Int) = (R.length : Int))) (by rw [List.length_take]; omega) hkk2 hdk
  have hp : (sortL (R.take k) ++ R.drop k).Perm R := by
    have := (sortL_perm (R.take k)).append_right (R.drop k)
    rwa [List.take_append_drop] at this
  refine ⟨sortL (R.take k), R.drop k, cf, ⟨sortL_sorted _, hd.perm hp, by rw [hp.length_eq]; exact hRl, fun x hx => hs.subset (hp.mem_iff.1 hx), fun hne => hcf fun h => hne (by rw [h]; exact List.eq_nil_of_length_eq_zero (by rw [sortL_length]; rfl))⟩, ?_⟩
  have w0 : IntKind.i64.wrap a = a := by rw [w64_small (by omega) (by omega)]
  have w1 : IntKind.i64.wrap ((R.length : Int) + 1) = ((R.length + 1 : Nat) : Int) := w64_add1 (by omega)
  have c1 : (k : Int) ≤ (R.length : Int) := by omega
  have c2 : (0 : Int) ≤ (k : Int) := by omega
  have c3 : ¬ ((R.length + 1 : Nat) : Int) = 0 := by omega
  have tk : (R.map Evt.r).take k = (R.take k).map Evt.r := by rw [List.map_take]
  have dr : (R.map Evt.r).drop k = (R.drop k).map Evt.r := by rw [List.map_drop]
  have tb : ((R.drop k).map Evt.r).take (R.length - k) = (R.drop k).map Evt.r := List.take_of_length_le (by simp)
  have okR := evts_ok R
  simp only [Bool.false_and] at hS
  rw [callZ, evL_code ext_law22_split code_law22_split]
  rcases hkk with ⟨hr, rfl⟩ | ⟨hr, hk2⟩
  · subst hr
    simp only [List.take_nil, List.drop_nil, List.map_nil] at *
    simp only [c_law22_split, hR, hS, List.length_nil, gt_iff_lt, Int.lt_irrefl, Int.le_refl, Nat.sub_zero, Int.toNat_zero, imp_self, evts_lo, Ev.runFunc, Ev.exec, Ev.evOpers, Ev.evOper, Ev.item_op, Ev.item_P, Ev.evOp, Ev.evs, Ev.Opnd.ev, Ev.Env.get, Ev.Env.set, Ev.look, Ev.argVars, Ev.optInt, Ev.bin_gtr, Ev.resVals, Ev.resVal, Ev.resOf, Ev.kill, Ev.leave, Ev.storeLo, Ev.lo_tup, Ev.lo_fsl, Ev.los_nil, Ev.los_cons, Ev.loss_nil, Ev.okRows_nil, Ev.frz_lo, ↓Ev.obind, ↓reduceIte, List.length_cons, List.length_nil, List.take_nil, List.drop_nil, Nat.reduceAdd, Nat.reduceEqDiff, Int.cast_ofNat_Int, reduceCtorEq, decide_true, decide_false, Bool.and_self, Bool.and_true, Bool.false_eq_true, and_self, Nat.zero_add, Option.isSome_some, Option.isSome_none, eq_self, implies_true]
  · have c4 : (R.length : Int) > 0 := by have := List.length_pos_iff.2 hr; omega
    simp only [c_law22_split, Int.toNat_natCast, hR, hS, c1, c2, c3, c4, w0, w1, hk2, tk, dr, tb, okR, Int.le_refl, Nat.sub_zero, List.drop_zero, imp_self, Int.toNat_zero, evts_lo, Ev.runFunc, Ev.exec, Ev.evOpers, Ev.evOper, Ev.item_op, Ev.item_P, Ev.evOp, Ev.evs, Ev.Opnd.ev, Ev.Env.get, Ev.Env.set, Ev.look, Ev.argVars, Ev.optInt, Ev.bin_add, Ev.bin_rem, Ev.bin_gtr, Ev.resVals, Ev.resVal, Ev.resOf, Ev.kill, Ev.leave, Ev.storeLo, Ev.lo_tup, Ev.lo_fsl, Ev.los_nil, Ev.los_cons, Ev.frz_lo, List.length_map, ↓Ev.obind, ↓reduceIte, List.length_cons, List.length_nil, List.take_nil, List.drop_zero, Nat.reduceAdd, Nat.reduceEqDiff, reduceCtorEq, decide_true, Bool.and_self, Bool.and_true, Bool.false_eq_true, and_self, Nat.zero_add, Option.isSome_some, Option.isSome_none, eq_self, implies_true, Bool.false_and]
end Go.Proofs.Ytdphbgnlmffgaaa.K
