/- For every input MailboxDrains returns true, and its arguments read as before. No conditions. -/
import Derived.Test.YtdphbgnlmffgaaaGA09
set_option linter.unusedSectionVars false
set_option linter.unusedSimpArgs false
set_option linter.unusedVariables false
namespace Go.Proofs.Ytdphbgnlmffgaaa.K
open Go.Ev
set_option maxRecDepth 10000
theorem leE_time {x y : Evt} (h : leE x y) : x.time ≤ y.time := by
  unfold leE cmpE at h
  have hc := cmpZ_cases x.time y.time
  split at h
  · rename_i h0
    have := hc.2.1.1 h0; omega
  · have h3 := hc.2.2
    have h2 := hc.1
    omega
theorem early_ex (bound : Int) : ∀ (l : List Evt), l.Pairwise leE → ∃ E : Nat, E ≤ l.length ∧ ∀ (j : Nat) (x : Evt), l[j]? = some x → (x.time < bound ↔ j < E)
  | [], _ => ⟨0, Nat.le_refl _, fun j x h => by simp at h⟩
  | x :: r, h => by
    obtain ⟨h1, h2⟩ := List.pairwise_cons.1 h
    obtain ⟨E, h3, h4⟩ := early_ex bound r h2
    by_cases hx : x.time < bound
    · refine ⟨E + 1, by simp; omega, fun j y hy => ?_⟩
      cases j with
      | zero => simp at hy; subst hy; simp [hx]
      | succ j => simp at hy; rw [h4 j y hy]; omega
    · refine ⟨0, Nat.zero_le _, fun j y hy => ?_⟩
      cases j with
      | zero => simp at hy; subst hy; simp [hx]
      | succ j =>
        simp at hy
        have := leE_time (h1 y (List.mem_of_getElem? hy))
        omega
section
variable (box : List Evt) (cf : Bool) (bound : Int) (E : Nat)
theorem drains_L1 (hl : box.length ≤ 1000) (hE : E ≤ box.length) (h : ∀ (j : Nat) (x : Evt), box[j]? = some x → (x.time < bound ↔ j < E)) :
    ∃ y, itB (exec (evL T) itL none c_law22_MailboxDrains_L1) (Ev.settle [1, 5, 6, 7, 8] true 0) ⟨[(1, (.v (.int .i64 (bound)))), (5, (.v (.bool (true)))), (6, (.fsl ((box).map Evt.r) cf)), (7, (.v (.int .i64 (0)))), (8, (.v (.int .i64 (0))))], []⟩ [] = some y ∧
      y.1 = .exit 0 ∧ y.2.1.marks = [] ∧ y.2.2 = [] ∧ Ev.look y.2.1.vars 1 = some (.v (.int .i64 (bound))) ∧ Ev.look y.2.1.vars 5 = some (.v (.bool (true))) ∧ Ev.look y.2.1.vars 6 = some (.fsl ((box).map Evt.r) cf) ∧ Ev.look y.2.1.vars 7 = some (.v (.int .i64 (E))) := by
  have key := itB_for (f := exec (evL T) itL none c_law22_MailboxDrains_L1) (s := Ev.settle [1, 5, 6, 7, 8] true 0) (α := Unit)
    (fun i _ => ⟨[(1, (.v (.int .i64 (bound)))), (5, (.v (.bool (true)))), (6, (.fsl ((box).map Evt.r) cf)), (7, (.v (.int .i64 ((min i E : Nat))))), (8, (.v (.int .i64 (i))))], []⟩) (fun _ _ => []) (fun _ _ => True) box.length
    (fun y => y.1 = .exit 0 ∧ y.2.1.marks = [] ∧ y.2.2 = [] ∧ Ev.look y.2.1.vars 1 = some (.v (.int .i64 (bound))) ∧ Ev.look y.2.1.vars 5 = some (.v (.bool (true))) ∧ Ev.look y.2.1.vars 6 = some (.fsl ((box).map Evt.r) cf) ∧ Ev.look y.2.1.vars 7 = some (.v (.int .i64 (E)))) ?_ ?_ 0 () (Nat.zero_le _) trivial
  · simpa using key
  · rintro i _ hi _
    obtain ⟨x, hx⟩ : ∃ x, box[i]? = some x := ⟨_, List.getElem?_eq_getElem hi⟩
    have hi' : (i : Int) < (box.length : Int) := by omega
    have hw : IntKind.i64.wrap ((i : Int) + 1) = ((i + 1 : Nat) : Int) := w64_add1 (by omega)
    have hh := h i x hx
    refine .inl ⟨(), ?_, trivial⟩
    by_cases hE2 : i < E
    · have ht : x.time < bound := hh.2 hE2
      have m1 : min i E = i := by omega
      have m2 : min (i + 1) E = i + 1 := by omega
      rw [m1, m2]
      clear hh
      obtain ⟨xt, xk, xl, xi, xp, xa⟩ := x
      simp only at ht
      simp only [c_law22_MailboxDrains_L1, Int.natCast_nonneg, Int.toNat_natCast, List.getElem?_map, Option.map_some, hx, hi', hw, ht, Evt.r, evts_lo, Ev.exec, Ev.evOpers, Ev.evOper, Ev.item_op, Ev.evOp, Ev.Opnd.ev, Ev.Env.get, Ev.Env.set, Ev.look, Ev.cellsAt, Ev.loadC, Ev.bin_add, Ev.bin_lss, Ev.settle, Ev.keep, Ev.varsLo, Ev.marksLo, Ev.storeLo, Ev.lo_v, Ev.lo_fsl, List.length_map, ↓Ev.obind, Ev.it1, ↓reduceIte, List.length_cons, List.length_nil, List.take_nil, List.drop_zero, List.head?_cons, Nat.reduceAdd, Nat.reduceEqDiff, decide_true, Bool.and_self, Bool.false_eq_true, and_self, Nat.zero_add, eq_self]
    · have ht : ¬ x.time < bound := fun h => hE2 (hh.1 h)
      have m1 : min i E = E := by omega
      have m2 : min (i + 1) E = E := by omega
      rw [m1, m2]
      clear hh
      obtain ⟨xt, xk, xl, xi, xp, xa⟩ := x
      simp only at ht
      simp only [c_law22_MailboxDrains_L1, Int.natCast_nonneg, Int.toNat_natCast, List.getElem?_map, Option.map_some, hx, hi', hw, ht, Evt.r, evts_lo, Ev.exec, Ev.evOpers, Ev.evOper, Ev.item_op, Ev.evOp, Ev.Opnd.ev, Ev.Env.get, Ev.Env.set, Ev.look, Ev.cellsAt, Ev.loadC, Ev.bin_add, Ev.bin_lss, Ev.settle, Ev.keep, Ev.varsLo, Ev.marksLo, Ev.storeLo, Ev.lo_v, Ev.lo_fsl, List.length_map, ↓Ev.obind, Ev.it1, ↓reduceIte, List.length_cons, List.length_nil, List.take_nil, List.drop_zero, List.head?_cons, Nat.reduceAdd, Nat.reduceEqDiff, decide_true, decide_false, Bool.and_self, Bool.false_eq_true, and_self, Nat.zero_add, eq_self]
  · rintro _ _
    have m1 : min box.length E = E := by omega
    rw [m1]
    simp only [c_law22_MailboxDrains_L1, Int.lt_irrefl, Ev.exec, Ev.evOpers, Ev.evOper, Ev.item_op, Ev.evOp, Ev.Opnd.ev, Ev.Env.get, Ev.Env.set, Ev.look, Ev.bin_lss, List.length_map, ↓Ev.obind, Ev.it1, ↓reduceIte, Nat.reduceEqDiff, decide_false, Bool.false_eq_true, eq_self]
    exact ⟨_, rfl, rfl, rfl, rfl, rfl, rfl, rfl, rfl⟩
end
set_option maxRecDepth 10000
section
variable (box : List Evt) (cf : Bool) (bound : Int) (E : Nat)
theorem drains_L2 (hl : box.length ≤ 1000) (hk : KeysOk box) (hE : E ≤ box.length) (h : ∀ (j : Nat) (x : Evt), box[j]? = some x → (x.time < bound ↔ j < E)) :
    ∃ y, itB (exec (evL T) itL none c_law22_MailboxDrains_L2) (Ev.settle [1, 5, 6, 7, 9, 10] true 0) ⟨[(1, (.v (.int .i64 (bound)))), (5, (.v (.bool (true)))), (6, (.fsl ((box).map Evt.r) cf)), (7, (.v (.int .i64 (E)))), (9, (.fsl ((box).map Evt.r) cf)), (10, (.v (.int .i64 (0))))], []⟩ [] = some y ∧
      ∃ f : Bool, y.1 = .exit 2 ∧ y.2.1.marks = [] ∧ y.2.2 = [] ∧ Ev.look y.2.1.vars 1 = some (.v (.int .i64 (bound))) ∧ Ev.look y.2.1.vars 5 = some (.v (.bool (true))) ∧ Ev.look y.2.1.vars 6 = some (.fsl ((box).map Evt.r) cf) ∧ Ev.look y.2.1.vars 7 = some (.v (.int .i64 (E))) ∧ Ev.look y.2.1.vars 9 = some (.fsl ((box.drop E).map Evt.r) f) := by
  have key := itB_for (f := exec (evL T) itL none c_law22_MailboxDrains_L2) (s := Ev.settle [1, 5, 6, 7, 9, 10] true 0) (α := Bool)
    (fun i f => ⟨[(1, (.v (.int .i64 (bound)))), (5, (.v (.bool (true)))), (6, (.fsl ((box).map Evt.r) cf)), (7, (.v (.int .i64 (E)))), (9, (.fsl ((box.drop i).map Evt.r) f)), (10, (.v (.int .i64 (i))))], []⟩) (fun _ _ => []) (fun _ _ => True) E
    (fun y => ∃ f : Bool, y.1 = .exit 2 ∧ y.2.1.marks = [] ∧ y.2.2 = [] ∧ Ev.look y.2.1.vars 1 = some (.v (.int .i64 (bound))) ∧ Ev.look y.2.1.vars 5 = some (.v (.bool (true))) ∧ Ev.look y.2.1.vars 6 = some (.fsl ((box).map Evt.r) cf) ∧ Ev.look y.2.1.vars 7 = some (.v (.int .i64 (E))) ∧ Ev.look y.2.1.vars 9 = some (.fsl ((box.drop E).map Evt.r) f)) ?_ ?_ 0 cf (Nat.zero_le _) trivial
  · exact key
  · rintro i f hi _
    obtain ⟨x, hx⟩ : ∃ x, box[i]? = some x := ⟨_, List.getElem?_eq_getElem (by omega)⟩
    have hi' : (i : Int) < (E : Int) := by omega
    have hw : IntKind.i64.wrap ((i : Int) + 1) = ((i + 1 : Nat) : Int) := w64_add1 (by omega)
    have ht : x.time < bound := (h i x hx).2 hi
    have hd : box.drop i = x :: box.drop (i + 1) := by
      obtain ⟨h1, h2⟩ := List.getElem?_eq_some_iff.1 hx
      rw [List.drop_eq_getElem_cons h1, h2]
    obtain ⟨f', hT⟩ := mailbox_Take_ev (box.drop i) f bound (by simp; omega)
    have htk : takeE (box.drop i) bound = (box.drop (i + 1), x, true) := by rw [hd]; simp [takeE, ht]
    rw [htk] at hT
    have hS := same_evt x (hk x (List.mem_of_getElem? hx))
    refine .inl ⟨f', ?_, trivial⟩
    generalize box.drop i = D at *
    generalize box.drop (i + 1) = D2 at *
    clear h hd htk ht
    obtain ⟨xt, xk, xl, xi, xp, xa⟩ := x
    simp only at hT hS
    simp only [c_law22_MailboxDrains_L2, Int.natCast_nonneg, Int.toNat_natCast, List.getElem?_map, Option.map_some, hx, hi', hw, hT, hS, Evt.r, evts_lo, ints_lo, Ev.exec, Ev.evOpers, Ev.evOper, Ev.item_op, Ev.item_P, Ev.evOp, Ev.evs, Ev.Opnd.ev, Ev.Env.get, Ev.Env.set, Ev.look, Ev.cellsAt, Ev.loadC, Ev.AV.cells, Ev.plains, Ev.AV.plain, Ev.bin_add, Ev.bin_lss, Ev.settle, Ev.keep, Ev.varsLo, Ev.marksLo, Ev.storeLo, Ev.lo_v, Ev.lo_agg, Ev.lo_fsl, Ev.los_nil, Ev.los_cons, ↓Ev.obind, Ev.it1, ↓reduceIte, List.length_cons, List.length_nil, List.getElem?_cons_zero, List.getElem?_cons_succ, List.take_succ_cons, List.take_zero, List.take_nil, List.drop_succ_cons, List.drop_zero, List.drop_nil, List.nil_append, List.append_nil, List.set_cons_zero, Nat.reduceAdd, Nat.reduceEqDiff, decide_true, Bool.and_self, Bool.not_true, Bool.false_eq_true, and_self, ne_eq, not_false_eq_true, List.cons_ne_nil, Nat.zero_add, Nat.le_refl, eq_self]
  · rintro f _
    simp only [c_law22_MailboxDrains_L2, Int.lt_irrefl, Ev.exec, Ev.evOpers, Ev.evOper, Ev.item_op, Ev.evOp, Ev.Opnd.ev, Ev.Env.get, Ev.Env.set, Ev.look, Ev.bin_lss, ↓Ev.obind, Ev.it1, ↓reduceIte, Nat.reduceEqDiff, decide_false, Bool.false_eq_true, eq_self]
    exact ⟨_, rfl, f, rfl, rfl, rfl, rfl, rfl, rfl, rfl, rfl⟩
end
set_option maxRecDepth 10000
theorem law_Drains (l : List Evt) (c : Bool) (bound : Int) : callZ (evL T) n_law22_MailboxDrains [(.fsl ((l).map Evt.r) c), (.v (.int .i64 (bound)))] = some (.v (.bool (true))) := by
  have hH := law22_head_ev
  have hG := law03_Great_ev l c
  rw [callZ, evL_code ext_law22_MailboxDrains code_law22_MailboxDrains]
  by_cases hg : greatE l = true
  · rw [hg] at hG
    simp only [c_law22_MailboxDrains, hH, hG, evts_lo, Ev.runFunc, Ev.exec, Ev.evOpers, Ev.evOper, Ev.item_op, Ev.item_P, Ev.evOp, Ev.evs, Ev.Opnd.ev, Ev.Env.get, Ev.Env.set, Ev.look, Ev.argVars, Ev.resVals, Ev.resVal, Ev.resOf, Ev.kill, Ev.leave, Ev.storeLo, Ev.lo_v, Ev.lo_fsl, Ev.los_nil, Ev.los_cons, Ev.frz_lo, ↓Ev.obind, ↓reduceIte, List.length_cons, List.length_nil, List.take_nil, Nat.reduceAdd, Nat.reduceEqDiff, reduceCtorEq, Bool.and_self, and_self, Nat.zero_add, eq_self]
  simp only [Bool.not_eq_true] at hg
  rw [hg] at hG
  obtain ⟨hl, hkk⟩ := great_sizes l hg
  have hk : KeysOk l := fun x hx => by have := hkk x hx; omega
  obtain ⟨R, hs, hd, hR⟩ := ref22_Distinct_ev l c (by omega) hk
  have hRl := hs.length_le
  have kR : KeysOk R := fun z hz => hk z (hs.subset hz)
  obtain ⟨cf, hcf, hS⟩ := ref03_SortEvents_evD (l := R) (cl := false) (by omega) kR hd
  have sB := sortL_sorted R
  have kB := kR.sortL
  have lB : (sortL R).length ≤ 100 := by rw [sortL_length]; omega
  generalize sortL R = box at *
  obtain ⟨E, hE, h⟩ := early_ex bound box sB
  obtain ⟨⟨y, e, σ⟩, k1, k2, k3, k4, k5, k6, k7, k8⟩ := drains_L1 box cf bound E (by omega) hE h
  simp only at k2 k3 k4 k5 k6 k7 k8
  subst k2; subst k4
  obtain ⟨⟨y', e', σ'⟩, m1, f, m2, m3, m4, m5, m6, m7, m8, m9⟩ := drains_L2 box cf bound E (by omega) kB hE h
  simp only at m2 m3 m4 m5 m6 m7 m8 m9
  subst m2; subst m4
  have lD : (box.drop E).length ≤ 1000000 := by simp; omega
  have kD : KeysOk (box.drop E) := fun z hz => kB z (List.mem_of_mem_drop hz)
  obtain ⟨f', hT⟩ := mailbox_Take_ev (box.drop E) f bound lD
  have htk : takeE (box.drop E) bound = (box.drop E, noEvt, false) := by
    cases hD : box.drop E with
    | nil => rfl
    | cons x r =>
      have hx : box[E]? = some x := by rw [← List.head?_drop, hD]; rfl
      have ht : ¬ x.time < bound := fun hh => by have := (h E x hx).1 hh; omega
      simp [takeE, ht]
  rw [htk] at hT
  simp only [noEvt] at hT
  have hb : box.drop E = box.drop E := rfl
  have e1 := same_evts (box.drop E) f' f lD kD
  have e2 := fun g => same_evts (box.drop E) f g lD kD
  have c1 : (E : Int) ≤ (box.length : Int) := by omega
  have c2 : (0 : Int) ≤ (E : Int) := by omega
  have dr : (box.map Evt.r).drop E = (box.drop E).map Evt.r := by rw [List.map_drop]
  have tb : ((box.drop E).map Evt.r).take (box.length - E) = (box.drop E).map Evt.r := List.take_of_length_le (by simp)
  have okB := evts_ok box
  clear h htk
  generalize box.drop E = D at *
  simp only [c_law22_MailboxDrains, Int.toNat_natCast, hH, hG, hR, hS, k1, k3, k5, k6, k7, k8, m1, m3, m5, m6, m7, m8, m9, hT, e1, e2, c1, c2, dr, tb, okB, Int.le_refl, imp_self, List.map_nil, evts_lo, Ev.runFunc, Ev.exec, Ev.evOpers, Ev.evOper, Ev.item_op, Ev.item_P, Ev.evOp, Ev.evs, Ev.Opnd.ev, Ev.Env.get, Ev.Env.set, Ev.look, Ev.argVars, Ev.optInt, Ev.AV.cells, Ev.plains, Ev.AV.plain, Ev.resVals, Ev.resVal, Ev.resOf, Ev.kill, Ev.leave, Ev.settle, Ev.keep, Ev.varsLo, Ev.marksLo, Ev.storeLo, Ev.lo_v, Ev.lo_fsl, Ev.los_nil, Ev.los_cons, Ev.frz_lo, List.length_map, ↓Ev.obind, ↓Ev.itL_itB, ↓reduceIte, List.length_cons, List.length_nil, List.getElem?_cons_zero, List.getElem?_cons_succ, List.take_zero, List.take_nil, List.drop_succ_cons, List.drop_nil, List.nil_append, List.append_nil, List.set_cons_zero, Nat.reduceAdd, Nat.reduceEqDiff, reduceCtorEq, decide_true, Bool.and_self, Bool.and_true, Bool.not_false, Bool.false_eq_true, and_self, ne_eq, not_false_eq_true, List.cons_ne_nil, Nat.zero_add, Nat.le_refl, Option.isSome_none, eq_self]
open Go.ChangeShapes Go.WideShapes Go.ChangeAt Go.RowKit
set_option maxRecDepth 100000 in
theorem mailboxDrains_lifted (os : Os) (started : os.Started) (H : Type) (enc : TypeId × Value → H) :
    ReturnsInHanded {} Try.checked os 6 .any (Rows.mailboxDrainsSpec.pre6 enc Try.prog Try.f6 Rows.mailboxDrainsRow.domain false) (Rows.mailboxDrainsSpec.post enc Try.prog Try.f6 false true false false) := by
  refine returnsInHanded_of_change (C := Try.checked) own started (by kernel_rfl) Try.func6
    (ChangeSpec.witness6 (enc := enc) (C := Try.checked) false ⟨#[], #[.slice none 0 0, .int .i64 0], []⟩ 8 (by kernel_rfl) (by kernel_rfl) (by kernel_rfl) (by kernel_rfl)) ?_
  intro W base args ds gs before hval hW hcnd _
  have hargs := isArgs_cell Try.underlying22 rfl data_evts (isArgs_cell Try.underlying3 rfl data_int (isArgs_nil (enc := enc)))
  refine contract_of (P := Try.prog) (fn := Try.f6) (tb := 4) T_ok code_law22_MailboxDrains (by rw [Try.params6]) hargs ?_ rfl ?_ (by kernel_rfl) Try.underlying4 laid (by decide +kernel) W base args ds gs before hval hW
  · rintro ⟨l, b, _⟩ _
    exact law_Drains l false b
  · intro ds h
    match ds, h with
    | [_, _], _ => rfl
theorem mailboxDrains_over : Rows.mailboxDrainsRow.holds Try.pinned (OpenSpec.ofChange Rows.mailboxDrainsSpec) :=
  OpenClaim.holds_of_wide 6 Try.f6 rfl rfl rfl rfl rfl rfl rfl ⟨rfl, rfl, rfl, rfl, rfl⟩ rfl rfl rfl rfl rfl (by kernel_rfl) Try.func6 (by kernel_rfl)
    (of_decide_eq_true (by kernel_rfl)) (by unfold Func.isWrapper; first | (rw [if_pos (by decide +kernel)]; kernel_rfl) | (rw [if_neg (by decide +kernel)]; exact ⟨rfl, rfl⟩))
    (fun os started H enc _ => mailboxDrains_lifted os started H enc)
end Go.Proofs.Ytdphbgnlmffgaaa.K
namespace Go.Proofs.Ytdphbgnlmffgaaa
theorem mailboxDrains_holds : Rows.MailboxDrainsSaid := K.mailboxDrains_over
end Go.Proofs.Ytdphbgnlmffgaaa
#print axioms Go.Proofs.Ytdphbgnlmffgaaa.mailboxDrains_holds
