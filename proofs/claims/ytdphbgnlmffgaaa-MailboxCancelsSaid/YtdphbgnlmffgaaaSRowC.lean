/- For every input MailboxCancels returns true, and its arguments read as before. No conditions. -/
import Derived.Test.YtdphbgnlmffgaaaGA09
set_option linter.unusedSectionVars false
set_option linter.unusedSimpArgs false
set_option linter.unusedVariables false
namespace Go.Proofs.Ytdphbgnlmffgaaa.K
open Go.Ev
set_option maxRecDepth 10000
section
variable (box : List Evt) (cf : Bool) (x : Evt)
theorem cancels_L (hl : box.length ≤ 1000000) (hk : KeysOk box) (hx : x.key.length ≤ 9223372036854775807) :
    ∃ y, itB (exec (evL T) itL none c_law22_MailboxCancels_L1) (Ev.settle [3, 5, 6, 7] true 0) ⟨[(3, (.fptr [(.v (.int .i64 (x.time))), (.fsl ((x.key).map intC) false), (.v (.int .i64 (x.lp))), (.v (.int .i64 (x.kind))), (.v (.int .i64 (x.proc))), (.v (.int .i64 (x.arg)))])), (5, (.v (.bool (true)))), (6, (.fsl ((box).map Evt.r) cf)), (7, (.v (.int .i64 (0))))], []⟩ [] = some y ∧
    (box.all (fun z => !decide (z.key = x.key)) = true ∧ (y.1 = .exit 0 ∧ y.2.1.marks = [] ∧ y.2.2 = [] ∧ Ev.look y.2.1.vars 3 = some (.fptr [(.v (.int .i64 (x.time))), (.fsl ((x.key).map intC) false), (.v (.int .i64 (x.lp))), (.v (.int .i64 (x.kind))), (.v (.int .i64 (x.proc))), (.v (.int .i64 (x.arg)))]) ∧ Ev.look y.2.1.vars 5 = some (.v (.bool (true))) ∧ Ev.look y.2.1.vars 6 = some (.fsl ((box).map Evt.r) cf)) ∨
     box.all (fun z => !decide (z.key = x.key)) = false ∧ ∃ v, box.find? (fun z => !(!decide (z.key = x.key))) = some v ∧ (y.1 = .ret ∧ y.2.1.marks = [] ∧ y.2.2 = [] ∧ Ev.look y.2.1.vars 4 = some (.v (.bool (true))))) := by
  refine itB_find box (fun i => ⟨[(3, (.fptr [(.v (.int .i64 (x.time))), (.fsl ((x.key).map intC) false), (.v (.int .i64 (x.lp))), (.v (.int .i64 (x.kind))), (.v (.int .i64 (x.proc))), (.v (.int .i64 (x.arg)))])), (5, (.v (.bool (true)))), (6, (.fsl ((box).map Evt.r) cf)), (7, (.v (.int .i64 (i))))], []⟩) [] (fun z => !decide (z.key = x.key)) _ (fun v y => _) ?_ ?_ ?_
  · intro i z hi hz hp
    have hi' : (i : Int) < (box.length : Int) := by omega
    have hw : IntKind.i64.wrap ((i : Int) + 1) = ((i + 1 : Nat) : Int) := w64_add1 (by omega)
    have hc := SameKey_ev z.key x.key false false (hk z (List.mem_of_getElem? hz)) hx
    rw [decide_eq_false (by simpa using hp)] at hc
    clear hp
    obtain ⟨xt, xk, xl, xi, xp, xa⟩ := x
    obtain ⟨yt, yk, yl, yi, yp, ya⟩ := z
    simp only at hc
    simp only [c_law22_MailboxCancels_L1, Int.natCast_nonneg, Int.toNat_natCast, List.getElem?_map, Option.map_some, hz, hi', hw, hc, Evt.r, evts_lo, ints_lo, Ev.exec, Ev.evOpers, Ev.evOper, Ev.item_op, Ev.item_P, Ev.evOp, Ev.evs, Ev.Opnd.ev, Ev.Env.get, Ev.Env.set, Ev.look, Ev.cellsAt, Ev.loadC, Ev.bin_add, Ev.bin_lss, Ev.settle, Ev.keep, Ev.varsLo, Ev.marksLo, Ev.storeLo, Ev.lo_v, Ev.lo_fsl, Ev.lo_fptr, Ev.los_nil, Ev.los_cons, List.length_map, ↓Ev.obind, Ev.it1, ↓reduceIte, List.length_cons, List.length_nil, List.take_nil, List.drop_succ_cons, List.drop_zero, List.head?_cons, Nat.reduceAdd, Nat.reduceEqDiff, decide_true, Bool.and_self, Bool.false_eq_true, and_self, Nat.zero_add, eq_self]
  · intro i z hi hz hp
    have hi' : (i : Int) < (box.length : Int) := by omega
    have hc := SameKey_ev z.key x.key false false (hk z (List.mem_of_getElem? hz)) hx
    rw [decide_eq_true (by simpa using hp)] at hc
    clear hp
    obtain ⟨xt, xk, xl, xi, xp, xa⟩ := x
    obtain ⟨yt, yk, yl, yi, yp, ya⟩ := z
    simp only at hc
    simp only [c_law22_MailboxCancels_L1, Int.natCast_nonneg, Int.toNat_natCast, List.getElem?_map, Option.map_some, hz, hi', hc, Evt.r, ints_lo, Ev.exec, Ev.evOpers, Ev.evOper, Ev.item_op, Ev.item_P, Ev.evOp, Ev.evs, Ev.Opnd.ev, Ev.Env.get, Ev.Env.set, Ev.look, Ev.cellsAt, Ev.loadC, Ev.bin_lss, Ev.lo_fsl, Ev.los_nil, Ev.los_cons, List.length_map, ↓Ev.obind, Ev.it1, ↓reduceIte, List.length_cons, List.length_nil, List.drop_succ_cons, List.drop_zero, List.head?_cons, Nat.reduceAdd, Nat.reduceEqDiff, decide_true, Bool.and_self, Bool.false_eq_true, Nat.zero_add, eq_self]
    exact ⟨_, rfl, rfl, rfl, rfl, rfl⟩
  · simp only [c_law22_MailboxCancels_L1, Int.lt_irrefl, Ev.exec, Ev.evOpers, Ev.evOper, Ev.item_op, Ev.evOp, Ev.Opnd.ev, Ev.Env.get, Ev.Env.set, Ev.look, Ev.bin_lss, List.length_map, ↓Ev.obind, Ev.it1, ↓reduceIte, Nat.reduceEqDiff, decide_false, Bool.false_eq_true, eq_self]
    exact ⟨_, rfl, rfl, rfl, rfl, rfl, rfl, rfl⟩
end
theorem law_Cancels (l : List Evt) (c : Bool) (x : Evt) (hkx : x.key.length ≤ 9223372036854775807) : callZ (evL T) n_law22_MailboxCancels [(.fsl ((l).map Evt.r) c), (.agg [(.v (.int .i64 (x.time))), (.fsl ((x.key).map intC) false), (.v (.int .i64 (x.lp))), (.v (.int .i64 (x.kind))), (.v (.int .i64 (x.proc))), (.v (.int .i64 (x.arg)))])] = some (.v (.bool (true))) := by
  have hH := law22_head_ev
  have hG := law03_Great_ev l c
  rw [callZ, evL_code ext_law22_MailboxCancels code_law22_MailboxCancels]
  by_cases hg : greatE l = true
  · rw [hg] at hG
    obtain ⟨xt, xk, xl, xi, xp, xa⟩ := x
    simp only [c_law22_MailboxCancels, hH, hG, evts_lo, Ev.runFunc, Ev.exec, Ev.evOpers, Ev.evOper, Ev.item_op, Ev.item_P, Ev.evOp, Ev.evs, Ev.Opnd.ev, Ev.Env.get, Ev.Env.set, Ev.Env.unset, Ev.look, Ev.argVars, Ev.AV.cells, Ev.plains, Ev.AV.plain, Ev.resVals, Ev.resVal, Ev.resOf, Ev.kill, Ev.leave, Ev.storeLo, Ev.lo_v, Ev.lo_fsl, Ev.los_nil, Ev.los_cons, Ev.frz_lo, ↓Ev.obind, ↓reduceIte, List.length_cons, List.length_nil, List.take_nil, Nat.reduceAdd, Nat.reduceEqDiff, reduceCtorEq, Bool.and_self, Bool.true_eq_false, and_self, ne_eq, not_false_eq_true, List.cons_ne_nil, Nat.zero_add, eq_self]
  simp only [Bool.not_eq_true] at hg
  rw [hg] at hG
  obtain ⟨hl, hkk⟩ := great_sizes l hg
  have hk : KeysOk l := fun x hx => by have := hkk x hx; omega
  by_cases hkey : x.key.length > 60
  · have hkey' : (x.key.length : Int) > 60 := by omega
    obtain ⟨xt, xk, xl, xi, xp, xa⟩ := x
    simp only at hkey'
    simp only [c_law22_MailboxCancels, hH, hG, hkey', evts_lo, Ev.runFunc, Ev.exec, Ev.evOpers, Ev.evOper, Ev.item_op, Ev.item_P, Ev.evOp, Ev.evs, Ev.Opnd.ev, Ev.Env.get, Ev.Env.set, Ev.look, Ev.argVars, Ev.cellsAt, Ev.loadC, Ev.AV.cells, Ev.plains, Ev.AV.plain, Ev.bin_gtr, Ev.resVals, Ev.resVal, Ev.resOf, Ev.kill, Ev.leave, Ev.storeLo, Ev.lo_v, Ev.lo_fsl, Ev.los_nil, Ev.los_cons, Ev.frz_lo, List.length_map, ↓Ev.obind, ↓reduceIte, List.length_cons, List.length_nil, List.take_nil, List.drop_succ_cons, List.drop_zero, List.head?_cons, Nat.reduceAdd, Nat.reduceEqDiff, reduceCtorEq, decide_true, Bool.and_self, Bool.false_eq_true, and_self, ne_eq, not_false_eq_true, List.cons_ne_nil, Nat.zero_add, eq_self]
  have hkey' : ¬ (x.key.length : Int) > 60 := by omega
  obtain ⟨R, hs, hd, hR⟩ := ref22_Distinct_ev l c (by omega) hk
  have hRl := hs.length_le
  have kR : KeysOk R := fun z hz => hk z (hs.subset hz)
  obtain ⟨cf, hcf, hS⟩ := ref03_SortEvents_evD (l := R) (cl := false) (by omega) kR hd
  have hfl : sortL R ≠ [] → cf = false := fun hne => hcf fun h => hne (by rw [h]; exact List.eq_nil_of_length_eq_zero (by rw [sortL_length]; rfl))
  have sB := sortL_sorted R
  have dB : Dist (sortL R) := hd.perm (sortL_perm R)
  have kB := kR.sortL
  have lB : (sortL R).length ≤ 100 := by rw [sortL_length]; omega
  generalize sortL R = box at *
  clear hd hcf
  obtain ⟨⟨y, e, σ⟩, k1, k2⟩ := cancels_L box cf x (by omega) kB hkx
  rcases k2 with ⟨ha, k2, k3, k4, k5, k6, k7⟩ | ⟨ha, v, hv, k2, k3, k4, k5⟩ <;> simp only at k2 k3 k4 <;> subst k2 <;> subst k4
  · have hn : ∀ z ∈ box, ¬ z.key = x.key := fun z hz => by simpa using List.all_eq_true.1 ha z hz
    have dI := dist_ins dB hn
    have hI := mailbox_Insert_S box cf x (by omega) kB hkx sB dI
    have kI : KeysOk (sortL (x :: box)) := KeysOk.sortL fun z hz => by
      rcases List.mem_cons.1 hz with rfl | hz
      · exact hkx
      · exact kB z hz
    have lI : (sortL (x :: box)).length = box.length + 1 := by rw [sortL_length]; rfl
    obtain ⟨f1, hf1, hC1⟩ := mailbox_Cancel_ev (sortL (x :: box)) false x.key false (by omega) kI hkx (fun _ => rfl)
    rw [cancel_ins sB dB hn] at hC1 hf1
    obtain ⟨f2, _, hC2⟩ := mailbox_Cancel_ev box f1 x.key false (by omega) kB hkx hf1
    rw [cancel_none box x.key hn] at hC2
    have e1 := same_evts box f1 cf (by omega) kB
    have e2 := same_evts box f2 cf (by omega) kB
    have w1 : IntKind.i64.wrap ((box.length : Int) + 1) = ((box.length + 1 : Nat) : Int) := w64_add1 (by omega)
    generalize sortL (x :: box) = I at *
    simp only at k5 k6 k7
    clear ha hn dI
    obtain ⟨xt, xk, xl, xi, xp, xa⟩ := x
    simp only at *
    simp only [c_law22_MailboxCancels, hH, hG, hkey', hR, hS, k1, k3, k5, k6, k7, hI, lI, hC1, hC2, e1, e2, w1, evts_lo, ints_lo, Ev.runFunc, Ev.exec, Ev.evOpers, Ev.evOper, Ev.item_op, Ev.item_P, Ev.evOp, Ev.evs, Ev.Opnd.ev, Ev.Env.get, Ev.Env.set, Ev.look, Ev.argVars, Ev.cellsAt, Ev.loadC, Ev.AV.cells, Ev.plains, Ev.AV.plain, Ev.bin_add, Ev.bin_eql, Ev.bin_gtr, Ev.resVals, Ev.resVal, Ev.resOf, Ev.kill, Ev.leave, Ev.settle, Ev.keep, Ev.varsLo, Ev.marksLo, Ev.storeLo, Ev.lo_v, Ev.lo_agg, Ev.lo_fsl, Ev.lo_fptr, Ev.los_nil, Ev.los_cons, Ev.frz_lo, List.length_map, ↓Ev.obind, ↓Ev.itL_itB, ↓reduceIte, List.length_cons, List.length_nil, List.getElem?_cons_zero, List.getElem?_cons_succ, List.take_succ_cons, List.take_nil, List.drop_succ_cons, List.drop_zero, List.head?_cons, Nat.reduceAdd, Nat.reduceEqDiff, reduceCtorEq, decide_true, decide_false, Bool.and_self, Bool.not_false, Bool.false_eq_true, and_self, ne_eq, not_false_eq_true, List.cons_ne_nil, Nat.zero_add, Nat.le_refl, eq_self]
  · simp only at k5
    clear ha hv
    obtain ⟨xt, xk, xl, xi, xp, xa⟩ := x
    simp only at *
    simp only [c_law22_MailboxCancels, hH, hG, hkey', hR, hS, k1, k3, k5, evts_lo, ints_lo, Ev.runFunc, Ev.exec, Ev.evOpers, Ev.evOper, Ev.item_op, Ev.item_P, Ev.evOp, Ev.evs, Ev.Opnd.ev, Ev.Env.get, Ev.Env.set, Ev.look, Ev.argVars, Ev.cellsAt, Ev.loadC, Ev.AV.cells, Ev.plains, Ev.AV.plain, Ev.bin_gtr, Ev.resVals, Ev.resVal, Ev.resOf, Ev.kill, Ev.leave, Ev.settle, Ev.keep, Ev.varsLo, Ev.marksLo, Ev.storeLo, Ev.lo_v, Ev.lo_fsl, Ev.lo_fptr, Ev.los_nil, Ev.los_cons, Ev.frz_lo, List.length_map, ↓Ev.obind, ↓Ev.itL_itB, ↓reduceIte, List.length_cons, List.length_nil, List.take_nil, List.drop_succ_cons, List.drop_zero, List.head?_cons, Nat.reduceAdd, Nat.reduceEqDiff, reduceCtorEq, decide_false, Bool.and_self, Bool.false_eq_true, and_self, ne_eq, not_false_eq_true, List.cons_ne_nil, Nat.zero_add, eq_self]
open Go.ChangeShapes Go.WideShapes Go.ChangeAt Go.RowKit
set_option maxRecDepth 100000 in
theorem mailboxCancels_lifted (os : Os) (started : os.Started) (H : Type) (enc : TypeId × Value → H) :
    ReturnsInHanded {} Try.checked os 7 .any (Rows.mailboxCancelsSpec.pre6 enc Try.prog Try.f7 Rows.mailboxCancelsRow.domain false) (Rows.mailboxCancelsSpec.post enc Try.prog Try.f7 false true false false) := by
  refine returnsInHanded_of_change (C := Try.checked) own started (by kernel_rfl) Try.func7
    (ChangeSpec.witness6 (enc := enc) (C := Try.checked) false ⟨#[], #[.slice none 0 0, .agg #[.int .i64 0, .slice none 0 0, .int .i64 0, .int .i64 0, .int .i64 0, .int .i64 0]], []⟩ 8 (by kernel_rfl) (by kernel_rfl) (by kernel_rfl) (by kernel_rfl)) ?_
  intro W base args ds gs before hval hW hcnd _
  have hargs := isArgs_cell Try.underlying22 rfl data_evts (isArgs_struct Try.underlying31 data_evt (isArgs_nil (enc := enc)))
  refine contract_of (P := Try.prog) (fn := Try.f7) (tb := 4) T_ok code_law22_MailboxCancels (by rw [Try.params7]) hargs ?_ rfl ?_ (by kernel_rfl) Try.underlying4 laid (by decide +kernel) W base args ds gs before hval hW
  · rintro ⟨l, x, _⟩ ⟨_, h1, _⟩
    exact law_Cancels l false x h1
  · intro ds h
    match ds, h with
    | [_, _], _ => rfl
theorem mailboxCancels_over : Rows.mailboxCancelsRow.holds Try.pinned (OpenSpec.ofChange Rows.mailboxCancelsSpec) :=
  OpenClaim.holds_of_wide 7 Try.f7 rfl rfl rfl rfl rfl rfl rfl ⟨rfl, rfl, rfl, rfl, rfl⟩ rfl rfl rfl rfl rfl (by kernel_rfl) Try.func7 (by kernel_rfl)
    (of_decide_eq_true (by kernel_rfl)) (by unfold Func.isWrapper; first | (rw [if_pos (by decide +kernel)]; kernel_rfl) | (rw [if_neg (by decide +kernel)]; exact ⟨rfl, rfl⟩))
    (fun os started H enc _ => mailboxCancels_lifted os started H enc)
end Go.Proofs.Ytdphbgnlmffgaaa.K
namespace Go.Proofs.Ytdphbgnlmffgaaa
theorem mailboxCancels_holds : Rows.MailboxCancelsSaid := K.mailboxCancels_over
end Go.Proofs.Ytdphbgnlmffgaaa
#print axioms Go.Proofs.Ytdphbgnlmffgaaa.mailboxCancels_holds
