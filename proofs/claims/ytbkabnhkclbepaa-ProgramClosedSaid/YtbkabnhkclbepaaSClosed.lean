/- Part of the proofs about this seat's program (module SClosed). -/
import Derived.Test.YtbkabnhkclbepaaSSends
set_option linter.unusedSectionVars false
set_option linter.unusedSimpArgs false
set_option linter.unusedVariables false
namespace Go.Proofs.Ytbkabnhkclbepaa.K
open Go.Ev
set_option linter.unusedSimpArgs false
set_option linter.unusedVariables false
set_option maxRecDepth 10000
def boolC (b : Bool) : List AV := [(.v (.bool (b)))]
theorem bool_lo (n : Nat) (x : Bool) : los n (boolC x) = true := rfl
theorem bools_lo (n : Nat) (l : List Bool) : loss n (l.map boolC) = true := loss_map (bool_lo n) l
section
variable (p : List OpI) (c : Bool)
theorem closed_l1 (hv : PV p) {S : List Int} (hr : Reached p S) :
    ∃ y, itB (exec (evL T) itL none c_law18_ProgramClosed_L1) (Ev.settle [0, 3, 4, 5, 6] true 1) ⟨[(0, (.fsl ((p).map OpI.r) c)), (3, (.v (.bool (true)))), (4, (.fsl ((S).map intC) false)), (5, .sl 0 0 0 p.length true), (6, (.v (.int .i64 (0))))], []⟩ [.row 1 (List.replicate p.length [(.v (.bool (false)))]) 0] = some y ∧
      ∃ bs : List Bool, y.1 = .exit 0 ∧ y.2.1.marks = [] ∧ y.2.2 = [(.row 1 ((bs).map boolC) 0)] ∧ Ev.look y.2.1.vars 0 = some (.fsl ((p).map OpI.r) c) ∧ Ev.look y.2.1.vars 3 = some (.v (.bool (true))) ∧ Ev.look y.2.1.vars 4 = some (.fsl ((S).map intC) false) ∧ Ev.look y.2.1.vars 5 = some (.sl 0 0 0 p.length true) ∧ bs.length = p.length ∧ ∀ j, j < p.length → bs[j]? = some (decide ((j : Int) ∈ S)) := by
  have hl := nodup_len hr.nodup hr.rng
  have hp := hv.len
  have hrep : List.replicate p.length ([(.v (.bool (false)))] : List AV) = (List.replicate p.length false).map boolC := by rw [List.map_replicate]; rfl
  rw [hrep]
  have key := itB_for (f := exec (evL T) itL none c_law18_ProgramClosed_L1) (s := Ev.settle [0, 3, 4, 5, 6] true 1) (α := List Bool) (fun i _ => ⟨[(0, (.fsl ((p).map OpI.r) c)), (3, (.v (.bool (true)))), (4, (.fsl ((S).map intC) false)), (5, .sl 0 0 0 p.length true), (6, (.v (.int .i64 (i))))], []⟩) (fun _ bs => [(.row 1 ((bs).map boolC) 0)])
    (fun i bs => bs.length = p.length ∧ ∀ j, j < p.length → bs[j]? = some (decide ((j : Int) ∈ S.take i))) S.length
    (fun y => ∃ bs : List Bool, y.1 = .exit 0 ∧ y.2.1.marks = [] ∧ y.2.2 = [(.row 1 ((bs).map boolC) 0)] ∧ Ev.look y.2.1.vars 0 = some (.fsl ((p).map OpI.r) c) ∧ Ev.look y.2.1.vars 3 = some (.v (.bool (true))) ∧ Ev.look y.2.1.vars 4 = some (.fsl ((S).map intC) false) ∧ Ev.look y.2.1.vars 5 = some (.sl 0 0 0 p.length true) ∧ bs.length = p.length ∧ ∀ j, j < p.length → bs[j]? = some (decide ((j : Int) ∈ S))) ?_ ?_ 0 (List.replicate p.length false) (Nat.zero_le _) ⟨by simp, fun j hj => by simp [hj]⟩
  · exact key
  · rintro i bs hi ⟨hbl, hbs⟩
    obtain ⟨s, hs⟩ : ∃ s, S[i]? = some s := ⟨_, List.getElem?_eq_getElem hi⟩
    have hsr := hr.rng s (List.mem_of_getElem? hs)
    obtain ⟨j, rfl⟩ : ∃ j : Nat, s = (j : Int) := ⟨s.toNat, by have := hsr.1; omega⟩
    have hjp : j < p.length := by have := hsr.2; omega
    have hi' : (i : Int) < (S.length : Int) := by omega
    have hw : IntKind.i64.wrap ((i : Int) + 1) = ((i + 1 : Nat) : Int) := w64_add1 (by omega)
    have c1 : ¬ (j : Int) < 0 := by omega
    have c2 : ¬ (j : Int) ≥ (p.length : Int) := by omega
    have hnot : (j : Int) ∉ S.take i := fun hm => by
      obtain ⟨k, hk⟩ := List.mem_iff_getElem?.1 hm
      have hkl := (List.getElem?_eq_some_iff.1 hk).1
      simp only [List.length_take] at hkl
      rw [List.getElem?_take_of_lt (by omega)] at hk
      have hn := hr.nodup
      rw [List.Nodup, List.pairwise_iff_getElem] at hn
      obtain ⟨h1, h2⟩ := List.getElem?_eq_some_iff.1 hk
      obtain ⟨h3, h4⟩ := List.getElem?_eq_some_iff.1 hs
      exact hn k i h1 h3 (by omega) (by rw [h2, h4])
    have hbj := hbs j hjp
    rw [decide_eq_false hnot] at hbj
    refine .inl ⟨bs.set j true, ?_, by rw [List.length_set]; exact hbl, fun k hk => ?_⟩
    · have hlo := bools_lo 1 (bs.set j true)
      simp only [List.map_set, boolC] at hlo
      by_cases hi0 : i = 0
      · have c3 : ¬ (i : Int) > 0 := by omega
        simp only [c_law18_ProgramClosed_L1, Int.natCast_nonneg, Int.toNat_natCast, List.getElem?_map, Option.map_some, hs, hi', hw, c1, c2, c3, hbj, hjp, hlo, boolC, List.map_set, intC, prog_lo, ints_lo, Go.Ev.exec, Go.Ev.evOpers, Go.Ev.evOper, Go.Ev.item_op, Go.Ev.evOp, Go.Ev.Opnd.ev, Go.Ev.Env.get, Go.Ev.Env.set, Go.Ev.Env.unset, Go.Ev.look, Go.Ev.cellsAt, Go.Ev.loadC, Go.Ev.AV.cells, Go.Ev.AV.uc, Go.Ev.plains, Go.Ev.AV.plain, Go.Ev.bin_add, Go.Ev.bin_lss, Go.Ev.bin_gtr, Go.Ev.bin_geq, Go.Ev.settle, Go.Ev.keep, Go.Ev.varsLo, Go.Ev.marksLo, Go.Ev.storeLo, Go.Ev.SObj.lo, Go.Ev.lo_v, Go.Ev.lo_fsl, Go.Ev.lo_sl, List.length_map, ↓Go.Ev.obind, Go.Ev.it1, ↓reduceIte, List.length_cons, List.length_nil, List.getElem?_cons_zero, List.take_succ_cons, List.take_zero, List.take_nil, List.drop_succ_cons, List.drop_zero, List.drop_nil, List.nil_append, List.append_nil, List.set_cons_zero, List.head?_cons, Nat.reduceEqDiff, reduceCtorEq, decide_true, decide_false, Bool.and_self, Bool.false_eq_true, and_self, Nat.zero_add, Nat.lt_add_one, Nat.le_refl, eq_self]
      · obtain ⟨m, hm⟩ : ∃ m, i = m + 1 := ⟨i - 1, by omega⟩
        have c3 : (i : Int) > 0 := by omega
        have w1 : IntKind.i64.wrap ((i : Int) - 1) = (m : Int) := w64_sub1 hm (by omega)
        obtain ⟨t, ht⟩ : ∃ t, S[m]? = some t := ⟨_, List.getElem?_eq_getElem (by omega)⟩
        have c4 : ¬ (j : Int) < t := by
          have hso := hr.sorted
          rw [LeI, List.pairwise_iff_getElem] at hso
          obtain ⟨h1, h2⟩ := List.getElem?_eq_some_iff.1 ht
          obtain ⟨h3, h4⟩ := List.getElem?_eq_some_iff.1 hs
          have := hso m i h1 h3 (by omega)
          rw [h2, h4] at this; omega
        simp only [c_law18_ProgramClosed_L1, Int.natCast_nonneg, Int.toNat_natCast, List.getElem?_map, Option.map_some, hs, ht, hi', hw, w1, c1, c2, c3, c4, hbj, hjp, hlo, boolC, List.map_set, intC, prog_lo, ints_lo, Go.Ev.exec, Go.Ev.evOpers, Go.Ev.evOper, Go.Ev.item_op, Go.Ev.evOp, Go.Ev.Opnd.ev, Go.Ev.Env.get, Go.Ev.Env.set, Go.Ev.look, Go.Ev.cellsAt, Go.Ev.loadC, Go.Ev.AV.cells, Go.Ev.AV.uc, Go.Ev.plains, Go.Ev.AV.plain, Go.Ev.bin_add, Go.Ev.bin_sub, Go.Ev.bin_lss, Go.Ev.bin_gtr, Go.Ev.bin_geq, Go.Ev.settle, Go.Ev.keep, Go.Ev.varsLo, Go.Ev.marksLo, Go.Ev.storeLo, Go.Ev.SObj.lo, Go.Ev.lo_v, Go.Ev.lo_fsl, Go.Ev.lo_sl, List.length_map, ↓Go.Ev.obind, Go.Ev.it1, ↓reduceIte, List.length_cons, List.length_nil, List.getElem?_cons_zero, List.take_succ_cons, List.take_zero, List.take_nil, List.drop_succ_cons, List.drop_zero, List.drop_nil, List.nil_append, List.append_nil, List.set_cons_zero, List.head?_cons, Nat.reduceEqDiff, reduceCtorEq, decide_true, decide_false, Bool.and_self, Bool.false_eq_true, and_self, Nat.zero_add, Nat.lt_add_one, Nat.le_refl, eq_self]
    · by_cases hkj : k = j
      · subst hkj
        rw [List.getElem?_set_self (by omega), take_next hs]
        simp
      · rw [List.getElem?_set_ne (Ne.symm hkj), hbs k hk, take_next hs]
        have : ¬ (k : Int) = (j : Int) := by omega
        simp [this]
  · rintro bs ⟨hbl, hbs⟩
    rw [List.take_length] at hbs
    simp only [c_law18_ProgramClosed_L1, Int.lt_irrefl, Go.Ev.exec, Go.Ev.evOpers, Go.Ev.evOper, Go.Ev.item_op, Go.Ev.evOp, Go.Ev.Opnd.ev, Go.Ev.Env.get, Go.Ev.Env.set, Go.Ev.look, Go.Ev.bin_lss, List.length_map, ↓Go.Ev.obind, Go.Ev.it1, ↓reduceIte, Nat.reduceEqDiff, reduceCtorEq, decide_false, Bool.false_eq_true, eq_self]
    exact ⟨_, rfl, bs, rfl, rfl, rfl, rfl, rfl, rfl, rfl, hbl, hbs⟩
theorem closed_l3 (hv : PV p) {S : List Int} (hr : Reached p S) (bs fs0 : List Bool) (hbs : ∀ j, j < p.length → bs[j]? = some (decide ((j : Int) ∈ S))) (hbl : bs.length = p.length) (hfl : fs0.length = p.length) (y0 : Int) (hy0 : y0 ∈ S) (i : Int) :
    ∃ y, itB (exec (evL T) itL none c_law18_ProgramClosed_L3) (Ev.settle [0, 3, 4, 5, 7, 8, 9, 10] true 2) ⟨[(0, (.fsl ((p).map OpI.r) c)), (3, (.v (.bool (true)))), (4, (.fsl ((S).map intC) false)), (5, .sl 0 0 0 p.length true), (7, .sl 1 0 0 p.length true), (8, (.v (.int .i64 (i)))), (9, (.fsl ((nextOf p y0).map intC) false)), (10, (.v (.int .i64 (0))))], []⟩ [(.row 1 ((bs).map boolC) 0), (.row 1 ((fs0).map boolC) 0)] = some y ∧
      ∃ fs : List Bool, y.1 = .exit 4 ∧ y.2.1.marks = [] ∧ y.2.2 = [(.row 1 ((bs).map boolC) 0), (.row 1 ((fs).map boolC) 0)] ∧ Ev.look y.2.1.vars 0 = some (.fsl ((p).map OpI.r) c) ∧ Ev.look y.2.1.vars 3 = some (.v (.bool (true))) ∧ Ev.look y.2.1.vars 4 = some (.fsl ((S).map intC) false) ∧ Ev.look y.2.1.vars 5 = some (.sl 0 0 0 p.length true) ∧ Ev.look y.2.1.vars 7 = some (.sl 1 0 0 p.length true) ∧ Ev.look y.2.1.vars 8 = some (.v (.int .i64 (i))) ∧
        fs.length = p.length ∧ (∀ k : Nat, fs0[k]? = some true → fs[k]? = some true) ∧ ∀ s ∈ nextOf p y0, fs[s.toNat]? = some true := by
  have hp := hv.len
  have hnl : (nextOf p y0).length ≤ 3 := nextL_len _ _ _
  have key := itB_for (f := exec (evL T) itL none c_law18_ProgramClosed_L3) (s := Ev.settle [0, 3, 4, 5, 7, 8, 9, 10] true 2) (α := List Bool) (fun k _ => ⟨[(0, (.fsl ((p).map OpI.r) c)), (3, (.v (.bool (true)))), (4, (.fsl ((S).map intC) false)), (5, .sl 0 0 0 p.length true), (7, .sl 1 0 0 p.length true), (8, (.v (.int .i64 (i)))), (9, (.fsl ((nextOf p y0).map intC) false)), (10, (.v (.int .i64 (k))))], []⟩) (fun _ fs => [(.row 1 ((bs).map boolC) 0), (.row 1 ((fs).map boolC) 0)])
    (fun k fs => fs.length = p.length ∧ (∀ k : Nat, fs0[k]? = some true → fs[k]? = some true) ∧ ∀ s ∈ (nextOf p y0).take k, fs[s.toNat]? = some true) (nextOf p y0).length
    (fun y => ∃ fs : List Bool, y.1 = .exit 4 ∧ y.2.1.marks = [] ∧ y.2.2 = [(.row 1 ((bs).map boolC) 0), (.row 1 ((fs).map boolC) 0)] ∧ Ev.look y.2.1.vars 0 = some (.fsl ((p).map OpI.r) c) ∧ Ev.look y.2.1.vars 3 = some (.v (.bool (true))) ∧ Ev.look y.2.1.vars 4 = some (.fsl ((S).map intC) false) ∧ Ev.look y.2.1.vars 5 = some (.sl 0 0 0 p.length true) ∧ Ev.look y.2.1.vars 7 = some (.sl 1 0 0 p.length true) ∧ Ev.look y.2.1.vars 8 = some (.v (.int .i64 (i))) ∧
        fs.length = p.length ∧ (∀ k : Nat, fs0[k]? = some true → fs[k]? = some true) ∧ ∀ s ∈ nextOf p y0, fs[s.toNat]? = some true) ?_ ?_ 0 fs0 (Nat.zero_le _) ⟨hfl, fun _ h => h, fun s hs => by simp at hs⟩
  · exact key
  · rintro k fs hk ⟨h1, h2, h3⟩
    obtain ⟨s, hs⟩ : ∃ s, (nextOf p y0)[k]? = some s := ⟨_, List.getElem?_eq_getElem hk⟩
    have hsm := List.mem_of_getElem? hs
    have hsr := hv.next y0 (hr.rng y0 hy0) s hsm
    have hsS := hr.clo y0 hy0 s hsm
    obtain ⟨j, rfl⟩ : ∃ j : Nat, s = (j : Int) := ⟨s.toNat, by have := hsr.1; omega⟩
    have hjp : j < p.length := by have := hsr.2; omega
    have hk' : (k : Int) < ((nextOf p y0).length : Int) := by omega
    have hw : IntKind.i64.wrap ((k : Int) + 1) = ((k + 1 : Nat) : Int) := w64_add1 (by omega)
    have hbj := hbs j hjp
    rw [decide_eq_true hsS] at hbj
    obtain ⟨f, hf⟩ : ∃ f, fs[j]? = some f := ⟨_, List.getElem?_eq_getElem (by omega)⟩
    refine .inl ⟨fs.set j true, ?_, by rw [List.length_set]; exact h1, fun m hm => ?_, fun t ht => ?_⟩
    · have hlo := bools_lo 2 (fs.set j true)
      simp only [List.map_set, boolC] at hlo
      generalize nextOf p y0 = N at hs hk' ⊢
      simp only [c_law18_ProgramClosed_L3, Int.natCast_nonneg, Int.toNat_natCast, List.getElem?_map, Option.map_some, hs, hk', hw, hbj, hf, hjp, hlo, boolC, List.map_set, intC, prog_lo, ints_lo, bools_lo, Go.Ev.exec, Go.Ev.evOpers, Go.Ev.evOper, Go.Ev.item_op, Go.Ev.evOp, Go.Ev.Opnd.ev, Go.Ev.Env.get, Go.Ev.Env.set, Go.Ev.look, Go.Ev.cellsAt, Go.Ev.loadC, Go.Ev.AV.cells, Go.Ev.AV.uc, Go.Ev.plains, Go.Ev.AV.plain, Go.Ev.bin_add, Go.Ev.bin_lss, Go.Ev.settle, Go.Ev.keep, Go.Ev.varsLo, Go.Ev.marksLo, Go.Ev.storeLo, Go.Ev.SObj.lo, Go.Ev.lo_v, Go.Ev.lo_fsl, Go.Ev.lo_sl, List.length_map, ↓Go.Ev.obind, Go.Ev.it1, ↓reduceIte, List.length_cons, List.length_nil, List.getElem?_cons_zero, List.getElem?_cons_succ, List.take_succ_cons, List.take_zero, List.take_nil, List.drop_succ_cons, List.drop_zero, List.drop_nil, List.nil_append, List.append_nil, List.set_cons_zero, List.set_cons_succ, List.head?_cons, Nat.reduceEqDiff, Nat.reduceLT, reduceCtorEq, decide_true, Bool.and_self, Bool.not_true, Bool.false_eq_true, and_self, Nat.zero_add, Nat.lt_add_one, Nat.le_refl, eq_self]
    · by_cases e : m = j
      · subst e; rw [List.getElem?_set_self (by omega)]
      · rw [List.getElem?_set_ne (Ne.symm e)]; exact h2 m hm
    · rw [take_next hs] at ht
      by_cases e : t.toNat = j
      · rw [e, List.getElem?_set_self (by omega)]
      · rw [List.getElem?_set_ne (Ne.symm e)]
        rcases List.mem_append.1 ht with ht | ht
        · exact h3 t ht
        · rw [List.mem_singleton] at ht; subst ht; exact absurd (Int.toNat_natCast j) e
  · rintro fs ⟨h1, h2, h3⟩
    rw [List.take_length] at h3
    simp only [c_law18_ProgramClosed_L3, Int.lt_irrefl, Go.Ev.exec, Go.Ev.evOpers, Go.Ev.evOper, Go.Ev.item_op, Go.Ev.evOp, Go.Ev.Opnd.ev, Go.Ev.Env.get, Go.Ev.Env.set, Go.Ev.look, Go.Ev.bin_lss, List.length_map, ↓Go.Ev.obind, Go.Ev.it1, ↓reduceIte, Nat.reduceEqDiff, reduceCtorEq, decide_false, Bool.false_eq_true, eq_self]
    exact ⟨_, rfl, fs, rfl, rfl, rfl, rfl, rfl, rfl, rfl, rfl, rfl, h1, h2, h3⟩
theorem closed_l2 (hv : PV p) {S : List Int} (hr : Reached p S) (bs fs0 : List Bool) (hbs : ∀ j, j < p.length → bs[j]? = some (decide ((j : Int) ∈ S))) (hbl : bs.length = p.length) (hfl : fs0.length = p.length) :
    ∃ y, itB (exec (evL T) itL none c_law18_ProgramClosed_L2) (Ev.settle [0, 3, 4, 5, 7, 8] true 2) ⟨[(0, (.fsl ((p).map OpI.r) c)), (3, (.v (.bool (true)))), (4, (.fsl ((S).map intC) false)), (5, .sl 0 0 0 p.length true), (7, .sl 1 0 0 p.length true), (8, (.v (.int .i64 (0))))], []⟩ [(.row 1 ((bs).map boolC) 0), (.row 1 ((fs0).map boolC) 0)] = some y ∧
      ∃ fs : List Bool, y.1 = .exit 2 ∧ y.2.1.marks = [] ∧ y.2.2 = [(.row 1 ((bs).map boolC) 0), (.row 1 ((fs).map boolC) 0)] ∧ Ev.look y.2.1.vars 0 = some (.fsl ((p).map OpI.r) c) ∧ Ev.look y.2.1.vars 3 = some (.v (.bool (true))) ∧ Ev.look y.2.1.vars 5 = some (.sl 0 0 0 p.length true) ∧ Ev.look y.2.1.vars 7 = some (.sl 1 0 0 p.length true) ∧
        fs.length = p.length ∧ ∀ y0 ∈ S, ∀ s ∈ nextOf p y0, fs[s.toNat]? = some true := by
  have hp := hv.len
  have hl := nodup_len hr.nodup hr.rng
  have key := itB_for (f := exec (evL T) itL none c_law18_ProgramClosed_L2) (s := Ev.settle [0, 3, 4, 5, 7, 8] true 2) (α := List Bool) (fun i _ => ⟨[(0, (.fsl ((p).map OpI.r) c)), (3, (.v (.bool (true)))), (4, (.fsl ((S).map intC) false)), (5, .sl 0 0 0 p.length true), (7, .sl 1 0 0 p.length true), (8, (.v (.int .i64 (i))))], []⟩) (fun _ fs => [(.row 1 ((bs).map boolC) 0), (.row 1 ((fs).map boolC) 0)])
    (fun i fs => fs.length = p.length ∧ ∀ y0 ∈ S.take i, ∀ s ∈ nextOf p y0, fs[s.toNat]? = some true) S.length
    (fun y => ∃ fs : List Bool, y.1 = .exit 2 ∧ y.2.1.marks = [] ∧ y.2.2 = [(.row 1 ((bs).map boolC) 0), (.row 1 ((fs).map boolC) 0)] ∧ Ev.look y.2.1.vars 0 = some (.fsl ((p).map OpI.r) c) ∧ Ev.look y.2.1.vars 3 = some (.v (.bool (true))) ∧ Ev.look y.2.1.vars 5 = some (.sl 0 0 0 p.length true) ∧ Ev.look y.2.1.vars 7 = some (.sl 1 0 0 p.length true) ∧
        fs.length = p.length ∧ ∀ y0 ∈ S, ∀ s ∈ nextOf p y0, fs[s.toNat]? = some true) ?_ ?_ 0 fs0 (Nat.zero_le _) ⟨hfl, fun y0 hy => by simp at hy⟩
  · exact key
  · rintro i fs hi ⟨h1, h2⟩
    obtain ⟨s, hs⟩ : ∃ s, S[i]? = some s := ⟨_, List.getElem?_eq_getElem hi⟩
    have hsm := List.mem_of_getElem? hs
    have hsr := hr.rng s hsm
    obtain ⟨⟨y, e, σ⟩, k1, fs', k2, k3, k4, k5, k6, k7, k8, k9, k10, k11, k12, k13⟩ := closed_l3 p c hv hr bs fs hbs hbl h1 s hsm (i : Int)
    simp only at k1 k2 k3 k4 k5 k6 k7 k8 k9 k10
    subst k2; subst k4
    obtain ⟨j, rfl⟩ : ∃ j : Nat, s = (j : Int) := ⟨s.toNat, by have := hsr.1; omega⟩
    obtain ⟨x, hx⟩ : ∃ x, p[j]? = some x := ⟨_, List.getElem?_eq_getElem (by have := hsr.2; omega)⟩
    have hN := next_ev p c j x hx (by have := hsr.2; omega)
    have hno : nextL p j x = nextOf p (j : Int) := by unfold nextOf; rw [Int.toNat_natCast, hx]; rfl
    rw [hno] at hN
    have hi' : (i : Int) < (S.length : Int) := by omega
    have hw : IntKind.i64.wrap ((i : Int) + 1) = ((i + 1 : Nat) : Int) := w64_add1 (by omega)
    refine .inl ⟨fs', ?_, k11, fun y0 hy t ht => ?_⟩
    · generalize nextOf p (j : Int) = N at hN k1
      simp only [c_law18_ProgramClosed_L2, Int.natCast_nonneg, Int.toNat_natCast, List.getElem?_map, Option.map_some, hs, hi', hw, hN, k1, k3, k5, k6, k7, k8, k9, k10, intC, prog_lo, ints_lo, bools_lo, Go.Ev.exec, Go.Ev.evOpers, Go.Ev.evOper, Go.Ev.item_op, Go.Ev.item_P, Go.Ev.evOp, Go.Ev.evs, Go.Ev.Opnd.ev, Go.Ev.Env.get, Go.Ev.Env.set, Go.Ev.look, Go.Ev.cellsAt, Go.Ev.loadC, Go.Ev.bin_add, Go.Ev.bin_lss, Go.Ev.settle, Go.Ev.keep, Go.Ev.varsLo, Go.Ev.marksLo, Go.Ev.storeLo, Go.Ev.SObj.lo, Go.Ev.lo_v, Go.Ev.lo_fsl, Go.Ev.lo_sl, Go.Ev.los_nil, Go.Ev.los_cons, List.length_map, ↓Go.Ev.obind, ↓Go.Ev.itL_itB, Go.Ev.it1, ↓reduceIte, List.length_cons, List.length_nil, List.take_succ_cons, List.take_nil, List.head?_cons, Nat.reduceAdd, Nat.reduceEqDiff, Nat.reduceLT, reduceCtorEq, decide_true, Bool.and_self, Bool.false_eq_true, and_self, Nat.zero_add, Nat.lt_add_one, eq_self]
    · rw [take_next hs] at hy
      rcases List.mem_append.1 hy with hy | hy
      · exact k12 _ (h2 y0 hy t ht)
      · rw [List.mem_singleton] at hy; subst hy; exact k13 t ht
  · rintro fs ⟨h1, h2⟩
    rw [List.take_length] at h2
    simp only [c_law18_ProgramClosed_L2, Int.lt_irrefl, Go.Ev.exec, Go.Ev.evOpers, Go.Ev.evOper, Go.Ev.item_op, Go.Ev.evOp, Go.Ev.Opnd.ev, Go.Ev.Env.get, Go.Ev.Env.set, Go.Ev.look, Go.Ev.bin_lss, List.length_map, ↓Go.Ev.obind, Go.Ev.it1, ↓reduceIte, Nat.reduceEqDiff, reduceCtorEq, decide_false, Bool.false_eq_true, eq_self]
    exact ⟨_, rfl, fs, rfl, rfl, rfl, rfl, rfl, rfl, rfl, h1, h2⟩
theorem closed_l4 (hv : PV p) {S : List Int} (hr : Reached p S) (bs fs : List Bool) (hbs : ∀ j, j < p.length → bs[j]? = some (decide ((j : Int) ∈ S))) (hfl : fs.length = p.length) (hfs : ∀ y0 ∈ S, ∀ s ∈ nextOf p y0, fs[s.toNat]? = some true) :
    ∃ y, itB (exec (evL T) itL none c_law18_ProgramClosed_L4) (Ev.settle [0, 3, 5, 7, 11] true 2) ⟨[(0, (.fsl ((p).map OpI.r) c)), (3, (.v (.bool (true)))), (5, .sl 0 0 0 p.length true), (7, .sl 1 0 0 p.length true), (11, (.v (.int .i64 (1))))], []⟩ [(.row 1 ((bs).map boolC) 0), (.row 1 ((fs).map boolC) 0)] = some y ∧
      (y.1 = .exit 6 ∧ y.2.1.marks = [] ∧ y.2.2 = [(.row 1 ((bs).map boolC) 0), (.row 1 ((fs).map boolC) 0)] ∧ Ev.look y.2.1.vars 3 = some (.v (.bool (true))) ∧ Ev.look y.2.1.vars 5 = some (.sl 0 0 0 p.length true)) := by
  have hp := hv.len
  have key := itB_for (f := exec (evL T) itL none c_law18_ProgramClosed_L4) (s := Ev.settle [0, 3, 5, 7, 11] true 2) (α := Unit) (fun i _ => ⟨[(0, (.fsl ((p).map OpI.r) c)), (3, (.v (.bool (true)))), (5, .sl 0 0 0 p.length true), (7, .sl 1 0 0 p.length true), (11, (.v (.int .i64 (i))))], []⟩) (fun _ _ => [(.row 1 ((bs).map boolC) 0), (.row 1 ((fs).map boolC) 0)])
    (fun i _ => 1 ≤ i) p.length (fun y => y.1 = .exit 6 ∧ y.2.1.marks = [] ∧ y.2.2 = [(.row 1 ((bs).map boolC) 0), (.row 1 ((fs).map boolC) 0)] ∧ Ev.look y.2.1.vars 3 = some (.v (.bool (true))) ∧ Ev.look y.2.1.vars 5 = some (.sl 0 0 0 p.length true)) ?_ ?_ 1 () hp.1 (Nat.le_refl _)
  · exact key
  · rintro i _ hi h1
    have hi' : (i : Int) < (p.length : Int) := by omega
    have hw : IntKind.i64.wrap ((i : Int) + 1) = ((i + 1 : Nat) : Int) := w64_add1 (by omega)
    have hb := hbs i hi
    obtain ⟨f, hf⟩ : ∃ f, fs[i]? = some f := ⟨_, List.getElem?_eq_getElem (by omega)⟩
    refine .inl ⟨(), ?_, by omega⟩
    by_cases hm : (i : Int) ∈ S
    · rw [decide_eq_true hm] at hb
      have hft : f = true := by
        rcases hr.frm _ hm with h0 | ⟨y, hy, hk⟩
        · omega
        · have := hfs y hy _ hk
          rw [Int.toNat_natCast, hf] at this; exact Option.some.inj this
      subst hft
      simp only [c_law18_ProgramClosed_L4, Int.natCast_nonneg, Int.toNat_natCast, List.getElem?_map, Option.map_some, hi', hw, hb, hf, hi, boolC, prog_lo, bools_lo, Go.Ev.exec, Go.Ev.evOpers, Go.Ev.evOper, Go.Ev.item_op, Go.Ev.evOp, Go.Ev.Opnd.ev, Go.Ev.Env.get, Go.Ev.Env.set, Go.Ev.look, Go.Ev.cellsAt, Go.Ev.loadC, Go.Ev.bin_add, Go.Ev.bin_lss, Go.Ev.settle, Go.Ev.keep, Go.Ev.varsLo, Go.Ev.marksLo, Go.Ev.storeLo, Go.Ev.SObj.lo, Go.Ev.lo_v, Go.Ev.lo_fsl, Go.Ev.lo_sl, List.length_map, ↓Go.Ev.obind, Go.Ev.it1, ↓reduceIte, List.getElem?_cons_zero, List.getElem?_cons_succ, List.take_succ_cons, List.take_nil, List.drop_zero, List.head?_cons, Nat.reduceEqDiff, Nat.reduceLT, reduceCtorEq, decide_true, Bool.and_self, Bool.not_true, Bool.false_eq_true, and_self, Nat.zero_add, Nat.lt_add_one, eq_self]
    · rw [decide_eq_false hm] at hb
      simp only [c_law18_ProgramClosed_L4, Int.natCast_nonneg, Int.toNat_natCast, List.getElem?_map, Option.map_some, hi', hw, hb, hi, boolC, prog_lo, bools_lo, Go.Ev.exec, Go.Ev.evOpers, Go.Ev.evOper, Go.Ev.item_op, Go.Ev.evOp, Go.Ev.Opnd.ev, Go.Ev.Env.get, Go.Ev.Env.set, Go.Ev.Env.unset, Go.Ev.look, Go.Ev.cellsAt, Go.Ev.loadC, Go.Ev.bin_add, Go.Ev.bin_lss, Go.Ev.settle, Go.Ev.keep, Go.Ev.varsLo, Go.Ev.marksLo, Go.Ev.storeLo, Go.Ev.SObj.lo, Go.Ev.lo_v, Go.Ev.lo_fsl, Go.Ev.lo_sl, List.length_map, ↓Go.Ev.obind, Go.Ev.it1, ↓reduceIte, List.getElem?_cons_zero, List.take_succ_cons, List.take_nil, List.drop_zero, List.head?_cons, Nat.reduceEqDiff, Nat.reduceLT, reduceCtorEq, decide_true, Bool.and_self, Bool.false_eq_true, and_self, Nat.zero_add, Nat.lt_add_one, eq_self]
  · rintro _ _
    simp only [c_law18_ProgramClosed_L4, Int.lt_irrefl, Go.Ev.exec, Go.Ev.evOpers, Go.Ev.evOper, Go.Ev.item_op, Go.Ev.evOp, Go.Ev.Opnd.ev, Go.Ev.Env.get, Go.Ev.Env.set, Go.Ev.look, Go.Ev.bin_lss, List.length_map, ↓Go.Ev.obind, Go.Ev.it1, ↓reduceIte, Nat.reduceEqDiff, reduceCtorEq, decide_false, Bool.false_eq_true, eq_self]
    exact ⟨_, rfl, rfl, rfl, rfl, rfl, rfl⟩
theorem law_ProgramClosed : callZ (evL T) n_law18_ProgramClosed [(.fsl ((p).map OpI.r) c)] = some (.v (.bool (true))) := by
  rw [callZ, evL_code ext_law18_ProgramClosed code_law18_ProgramClosed]
  by_cases h40 : (p.length : Int) > 40
  · simp only [c_law18_ProgramClosed, law18_head_ev, h40, Go.Ev.runFunc, Go.Ev.exec, Go.Ev.evOpers, Go.Ev.evOper, Go.Ev.item_op, Go.Ev.item_P, Go.Ev.evOp, Go.Ev.evs, Go.Ev.Opnd.ev, Go.Ev.Env.get, Go.Ev.Env.set, Go.Ev.Env.unset, Go.Ev.look, Go.Ev.argVars, Go.Ev.bin_gtr, Go.Ev.resVals, Go.Ev.resVal, Go.Ev.resOf, Go.Ev.kill, Go.Ev.leave, Go.Ev.storeLo, Go.Ev.lo_v, Go.Ev.los_nil, Go.Ev.frz_lo, List.length_map, ↓Go.Ev.obind, ↓reduceIte, List.length_cons, List.length_nil, List.take_nil, Nat.reduceEqDiff, reduceCtorEq, decide_true, Bool.true_eq_false, and_self, Nat.zero_add, eq_self]
  have hr := ref18_Check_ev p c 1099511627776 4611686018427387904 0
  by_cases hz : checkZ p 1099511627776 4611686018427387904 0 = 0
  case neg => simp only [c_law18_ProgramClosed, law18_head_ev, h40, hr, hz, prog_lo, Go.Ev.runFunc, Go.Ev.exec, Go.Ev.evOpers, Go.Ev.evOper, Go.Ev.item_op, Go.Ev.item_P, Go.Ev.evOp, Go.Ev.evs, Go.Ev.Opnd.ev, Go.Ev.Env.get, Go.Ev.Env.set, Go.Ev.look, Go.Ev.argVars, Go.Ev.bin_neq, Go.Ev.bin_gtr, Go.Ev.resVals, Go.Ev.resVal, Go.Ev.resOf, Go.Ev.kill, Go.Ev.leave, Go.Ev.storeLo, Go.Ev.lo_v, Go.Ev.lo_fsl, Go.Ev.los_nil, Go.Ev.los_cons, Go.Ev.frz_lo, List.length_map, ↓Go.Ev.obind, ↓reduceIte, List.length_cons, List.length_nil, List.take_nil, Nat.reduceEqDiff, reduceCtorEq, decide_true, decide_false, Bool.and_self, Bool.false_eq_true, and_self, ne_eq, not_false_eq_true, Nat.zero_add, eq_self]
  have hv := pv_of hz
  rw [hz] at hr
  have hp := hv.len
  obtain ⟨S, hS, hR⟩ := Reachable_ev p c hv
  obtain ⟨⟨y, e, σ⟩, k1, bs, k2, k3, k4, k5, k6, k7, k8, k9, k10⟩ := closed_l1 p c hv hS
  simp only at k1 k2 k3 k4 k5 k6 k7 k8
  subst k2; subst k4
  have hrep : List.replicate p.length ([(.v (.bool (false)))] : List AV) = (List.replicate p.length false).map boolC := by rw [List.map_replicate]; rfl
  obtain ⟨⟨y2, e2, σ2⟩, l1, fs, l2, l3, l4, l5, l6, l7, l8, l9, l10⟩ := closed_l2 p c hv hS bs (List.replicate p.length false) k10 k9 (by simp)
  simp only at l1 l2 l3 l4 l5 l6 l7 l8
  subst l2; subst l4
  rw [← hrep] at l1
  obtain ⟨⟨y3, e3, σ3⟩, m1, m2, m3, m4, m5, m6⟩ := closed_l4 p c hv hS bs fs k10 l9 l10
  simp only at m1 m2 m3 m4 m5 m6
  subst m2; subst m4
  have h0 := k10 0 (by omega)
  have hz0 : ((0 : Nat) : Int) ∈ S := hS.zero
  rw [decide_eq_true hz0] at h0
  have b1 : (1 : Int) * (p.length : Int) ≤ 140737488355328 := by omega
  have b2 : (p.length : Int) ≤ 4611686018427387904 := by omega
  have b3 : (0 : Int) ≤ (p.length : Int) := by omega
  have r0 : 0 < p.length := by omega
  simp only [c_law18_ProgramClosed, Int.toNat_natCast, List.getElem?_map, Option.map_some, law18_head_ev, h40, hr, hR, b1, b2, b3, k1, k3, k5, k6, k7, k8, l1, l3, l5, l6, l7, l8, m1, m3, m5, m6, h0, r0, boolC, Int.le_refl, prog_lo, ints_lo, bools_lo, Go.Ev.runFunc, Go.Ev.exec, Go.Ev.evOpers, Go.Ev.evOper, Go.Ev.item_op, Go.Ev.item_P, Go.Ev.evOp, Go.Ev.evs, Go.Ev.Opnd.ev, Go.Ev.Env.get, Go.Ev.Env.set, Go.Ev.look, Go.Ev.argVars, Go.Ev.cellsAt, Go.Ev.loadC, Go.Ev.plains, Go.Ev.AV.plain, Go.Ev.bin_neq, Go.Ev.bin_gtr, Go.Ev.resVals, Go.Ev.resVal, Go.Ev.resOf, Go.Ev.kill, Go.Ev.leave, Go.Ev.settle, Go.Ev.keep, Go.Ev.varsLo, Go.Ev.marksLo, Go.Ev.storeLo, Go.Ev.SObj.lo, Go.Ev.lo_v, Go.Ev.lo_fsl, Go.Ev.lo_sl, Go.Ev.los_nil, Go.Ev.los_cons, Go.Ev.frz_lo, Go.Ev.loss_replicate, List.length_map, ↓Go.Ev.obind, ↓Go.Ev.itL_itB, ↓reduceIte, List.length_cons, List.length_nil, List.getElem?_cons_zero, List.take_succ_cons, List.take_zero, List.take_nil, List.drop_zero, List.cons_append, List.nil_append, List.head?_cons, Nat.reduceAdd, Nat.reduceEqDiff, Nat.reduceLT, Int.reducePow, Int.reduceToNat, Int.cast_ofNat_Int, reduceCtorEq, decide_true, decide_false, Bool.and_self, Bool.false_eq_true, and_self, ne_eq, not_false_eq_true, not_true_eq_false, List.cons_ne_nil, Nat.zero_add, Nat.add_zero, Nat.lt_add_one, eq_self]
end
end Go.Proofs.Ytbkabnhkclbepaa.K
