/- For every input MailboxOrdered returns true, and its arguments read as before. No conditions. -/
import Derived.Test.YtdphbgnlmffgaaaGA09
set_option linter.unusedSectionVars false
set_option linter.unusedSimpArgs false
set_option linter.unusedVariables false
namespace Go.Proofs.Ytdphbgnlmffgaaa.K
open Go.Ev
set_option maxRecDepth 10000
theorem valid_of {l : List Evt} (hs : l.Pairwise leE) (hd : Dist l) : validB l = true := by
  rw [validB_iff]
  intro k x y hx hy
  obtain ⟨h1, e1⟩ := List.getElem?_eq_some_iff.1 hx
  obtain ⟨h2, e2⟩ := List.getElem?_eq_some_iff.1 hy
  have h3 := List.pairwise_iff_getElem.1 hs k (k + 1) h1 h2 (by omega)
  have h4 := List.pairwise_iff_getElem.1 hd k (k + 1) h1 h2 (by omega)
  rw [e1, e2] at h3 h4
  unfold leE at h3
  omega
theorem takeE_sub (l : List Evt) (b : Int) : (takeE l b).1.Sublist l := by
  cases l with
  | nil => simp [takeE]
  | cons x r =>
    by_cases h : x.time < b
    · simp [takeE, h]
    · simp [takeE, h]
theorem law_Ordered (l : List Evt) (c : Bool) (a : Int) (h0 : 0 ≤ a) (h1 : a ≤ 255) (wh : Int) (h2 : 0 ≤ wh) (h3 : wh ≤ 255) (bound : Int) :
    callZ (evL T) n_law22_MailboxOrdered [(.fsl ((l).map Evt.r) c), .v (.int .u8 a), .v (.int .u8 wh), (.v (.int .i64 (bound)))] = some (.v (.bool (true))) := by
  have hH := law22_head_ev
  have hG := law03_Great_ev l c
  rw [callZ, evL_code ext_law22_MailboxOrdered code_law22_MailboxOrdered]
  by_cases hg : greatE l = true
  · rw [hg] at hG
    simp only [c_law22_MailboxOrdered, hH, hG, evts_lo, Ev.runFunc, Ev.exec, Ev.evOpers, Ev.evOper, Ev.item_op, Ev.item_P, Ev.evOp, Ev.evs, Ev.Opnd.ev, Ev.Env.get, Ev.Env.set, Ev.look, Ev.argVars, Ev.resVals, Ev.resVal, Ev.resOf, Ev.kill, Ev.leave, Ev.storeLo, Ev.lo_v, Ev.lo_fsl, Ev.los_nil, Ev.los_cons, Ev.frz_lo, ↓Ev.obind, ↓reduceIte, List.length_cons, List.length_nil, List.take_nil, Nat.reduceAdd, Nat.reduceEqDiff, reduceCtorEq, Bool.and_self, and_self, Nat.zero_add, eq_self]
  simp only [Bool.not_eq_true] at hg
  rw [hg] at hG
  obtain ⟨hl, hkk⟩ := great_sizes l hg
  have hk : KeysOk l := fun x hx => by have := hkk x hx; omega
  obtain ⟨A, B, cf, ⟨s1, s2, s3, s4, s5⟩, hS⟩ := law22_split_ev l c a h0 h1 (by omega) hk
  have kAB : KeysOk (A ++ B) := fun x hx => hk x (s4 x hx)
  have kA : KeysOk A := fun x hx => kAB x (List.mem_append_left _ hx)
  have lAB : (A ++ B).length ≤ 1000 := by omega
  have lA : A.length + B.length ≤ 1000 := by rwa [List.length_append] at lAB
  have dA : Dist A := s2.sub (List.sublist_append_left A B)
  have hM := mailbox_Merge_ev A B cf false (by omega) kAB s1 s2
  have sS := sortL_sorted (A ++ B)
  have dS : Dist (sortL (A ++ B)) := s2.perm (sortL_perm _)
  have kS := kAB.sortL
  have lS : (sortL (A ++ B)).length = A.length + B.length := by rw [sortL_length, List.length_append]
  have hV1 := mailbox_Valid_ev A cf (by omega) kA
  rw [valid_of s1 dA] at hV1
  have hV2 := mailbox_Valid_ev (sortL (A ++ B)) false (by omega) kS
  rw [valid_of sS dS] at hV2
  have w1 : IntKind.i64.wrap ((A.length : Int) + (B.length : Int)) = ((A.length + B.length : Nat) : Int) := w64_add (by omega)
  obtain ⟨f2, hT⟩ := mailbox_Take_ev (sortL (A ++ B)) false bound (by omega)
  have tsub := takeE_sub (sortL (A ++ B)) bound
  have hV4 := mailbox_Valid_ev (takeE (sortL (A ++ B)) bound).1 f2 (by have := tsub.length_le; omega) (fun z hz => kS z (tsub.subset hz))
  rw [valid_of (sS.sublist tsub) (dS.sub tsub)] at hV4
  have main : ∀ (Q : (A ++ B).length ≠ 0), ∃ (k : Nat) (x : Evt) (f1 : Bool), wh.tmod ((A.length + B.length : Nat) : Int) = (k : Int) ∧ (sortL (A ++ B))[k]? = some x ∧
      callZ (evL T) n_mailbox_Cancel [(.fsl ((sortL (A ++ B)).map Evt.r) false), (.fsl ((x.key).map intC) false)] = some (.tup [(.fsl (((cancelE (sortL (A ++ B)) x.key).1).map Evt.r) f1), (.v (.bool ((cancelE (sortL (A ++ B)) x.key).2)))]) ∧
      callZ (evL T) n_mailbox_Valid [(.fsl (((cancelE (sortL (A ++ B)) x.key).1).map Evt.r) f1)] = some (.v (.bool (true))) := by
    intro Q
    rw [List.length_append] at Q
    have q1 := Int.tmod_lt_of_pos wh (show (0 : Int) < ((A.length + B.length : Nat) : Int) by omega)
    have q2 := Int.tmod_nonneg ((A.length + B.length : Nat) : Int) h2
    obtain ⟨x, hx⟩ : ∃ x, (sortL (A ++ B))[(wh.tmod ((A.length + B.length : Nat) : Int)).toNat]? = some x := ⟨_, List.getElem?_eq_getElem (by omega)⟩
    obtain ⟨f1, _, hC⟩ := mailbox_Cancel_ev (sortL (A ++ B)) false x.key false (by omega) kS (kS x (List.mem_of_getElem? hx)) (fun _ => rfl)
    obtain ⟨u1, u2⟩ := cancelE_ok (sortL (A ++ B)) x.key
    have hsub : (cancelE (sortL (A ++ B)) x.key).1.Sublist (sortL (A ++ B)) := List.eraseP_sublist
    have hV := mailbox_Valid_ev (cancelE (sortL (A ++ B)) x.key).1 f1 (by omega) (fun z hz => kS z (u2 z hz))
    rw [valid_of (sS.sublist hsub) (dS.sub hsub)] at hV
    exact ⟨_, x, f1, by omega, hx, hC, hV⟩
  have w2 : IntKind.i64.wrap wh = wh := by rw [w64_small (by omega) (by omega)]
  have w3 : IntKind.i64.wrap (A.length : Int) = (A.length : Int) := by rw [w64_small (by omega) (by omega)]
  by_cases Q : (A ++ B).length = 0
  · have hA0 : A = [] := List.eq_nil_of_length_eq_zero (by rw [List.length_append] at Q; omega)
    have hB0 : B = [] := List.eq_nil_of_length_eq_zero (by rw [List.length_append] at Q; omega)
    subst hA0 hB0
    simp only [List.map_nil, List.length_nil, Nat.add_zero] at *
    generalize sortL ([] ++ []) = R at *
    have hR0 : R = [] := List.eq_nil_of_length_eq_zero lS
    subst hR0
    simp only [List.map_nil] at *
    simp only [c_law22_MailboxOrdered, hH, hG, hS, hM, hV1, hV2, List.length_nil, Int.add_zero, gt_iff_lt, Int.lt_irrefl, show IntKind.i64.wrap 0 = 0 from rfl, evts_lo, Ev.runFunc, Ev.exec, Ev.evOpers, Ev.evOper, Ev.item_op, Ev.item_P, Ev.evOp, Ev.evs, Ev.Opnd.ev, Ev.Env.get, Ev.Env.set, Ev.Env.unset, Ev.look, Ev.argVars, Ev.bin_add, Ev.bin_eql, Ev.bin_neq, Ev.bin_gtr, Ev.resVals, Ev.resVal, Ev.resOf, Ev.kill, Ev.leave, Ev.storeLo, Ev.lo_v, Ev.lo_fsl, Ev.los_nil, Ev.los_cons, Ev.loss_nil, Ev.frz_lo, ↓Ev.obind, ↓reduceIte, List.length_cons, List.length_nil, List.getElem?_cons_zero, List.getElem?_cons_succ, List.take_nil, Nat.reduceAdd, Nat.reduceEqDiff, Int.cast_ofNat_Int, reduceCtorEq, decide_true, decide_false, Bool.and_self, Bool.not_true, Bool.false_eq_true, and_self, ne_eq, not_true_eq_false, Nat.zero_add, eq_self]
  · obtain ⟨k, x, f1, m1, m2, m3, m4⟩ := main Q
    have c0 : ¬ ((A.length + B.length : Nat) : Int) = 0 := by rw [List.length_append] at Q; omega
    have hxlen : x.key.length ≤ 9223372036854775807 := kS x (List.mem_of_getElem? m2)
    have hI : ∀ z B', B = z :: B' → callZ (evL T) n_mailbox_Insert [(.fsl ((A).map Evt.r) cf), (.agg [(.v (.int .i64 (z.time))), (.fsl ((z.key).map intC) false), (.v (.int .i64 (z.lp))), (.v (.int .i64 (z.kind))), (.v (.int .i64 (z.proc))), (.v (.int .i64 (z.arg)))])] = some (.fsl ((sortL (z :: A)).map Evt.r) false) ∧ callZ (evL T) n_mailbox_Valid [(.fsl ((sortL (z :: A)).map Evt.r) false)] = some (.v (.bool (true))) := by
      rintro z B' rfl
      have hz : z ∈ A ++ z :: B' := by simp
      have hd1 : Dist (z :: A) := by
        have h2 : (A ++ [z]).Sublist (A ++ z :: B') := List.Sublist.append_left (List.Sublist.cons_cons z (List.nil_sublist B')) A
        exact (s2.sub h2).perm (List.perm_append_singleton z A).symm
      have hI1 := mailbox_Insert_S A cf z (by omega) kA (kAB z hz) s1 hd1
      have hV := mailbox_Valid_ev (sortL (z :: A)) false (by rw [sortL_length]; simp; omega) (KeysOk.sortL fun u hu => by
        rcases List.mem_cons.1 hu with rfl | hu
        · exact kAB _ hz
        · exact kA u hu)
      rw [valid_of (sortL_sorted _) (hd1.perm (sortL_perm _))] at hV
      exact ⟨hI1, hV⟩
    clear main
    rcases B with _ | ⟨z, B'⟩
    · simp only [List.map_nil, List.length_nil, Nat.add_zero] at *
      generalize sortL (A ++ []) = R at *
      generalize takeE R bound = tk at *
      obtain ⟨tl, ⟨tt, tk2, tlp, tki, tp, ta⟩, tb⟩ := tk
      generalize cancelE R x.key = ck at *
      obtain ⟨cl, cb⟩ := ck
      clear hI
      obtain ⟨xt, xk, xl, xi, xp, xa⟩ := x
      simp only at *
      simp only [c_law22_MailboxOrdered, hH, hG, hS, hM, hV1, hV2, hV4, hT, m1, m2, m3, m4, lS, c0, w2, w3, Int.natCast_nonneg, Int.toNat_natCast, List.getElem?_map, Option.map_some, Evt.r, List.length_nil, Int.add_zero, gt_iff_lt, Int.lt_irrefl, evts_lo, ints_lo, Ev.runFunc, Ev.exec, Ev.evOpers, Ev.evOper, Ev.item_op, Ev.item_P, Ev.evOp, Ev.evs, Ev.Opnd.ev, Ev.Env.get, Ev.Env.set, Ev.Env.unset, Ev.look, Ev.argVars, Ev.cellsAt, Ev.loadC, Ev.AV.cells, Ev.plains, Ev.AV.plain, Ev.bin_add, Ev.bin_rem, Ev.bin_eql, Ev.bin_neq, Ev.bin_gtr, Ev.resVals, Ev.resVal, Ev.resOf, Ev.kill, Ev.leave, Ev.storeLo, Ev.lo_v, Ev.lo_fsl, Ev.los_nil, Ev.los_cons, Ev.loss_nil, Ev.frz_lo, List.length_map, ↓Ev.obind, ↓reduceIte, List.length_cons, List.length_nil, List.getElem?_cons_zero, List.getElem?_cons_succ, List.take_zero, List.drop_succ_cons, List.drop_zero, List.drop_nil, List.nil_append, List.append_nil, List.set_cons_zero, List.head?_cons, Nat.reduceAdd, Nat.reduceEqDiff, Int.cast_ofNat_Int, reduceCtorEq, decide_false, Bool.and_self, Bool.not_true, Bool.false_eq_true, and_self, ne_eq, not_false_eq_true, not_true_eq_false, List.cons_ne_nil, Nat.zero_add, Nat.le_refl, eq_self]
    · obtain ⟨i1, i2⟩ := hI z B' rfl
      clear hI
      have c1 : ((B'.length + 1 : Nat) : Int) > 0 := by omega
      simp only [List.map_cons, List.length_cons] at *
      generalize sortL (A ++ z :: B') = R at *
      generalize sortL (z :: A) = R2 at *
      generalize takeE R bound = tk at *
      obtain ⟨tl, ⟨tt, tk2, tlp, tki, tp, ta⟩, tb⟩ := tk
      generalize cancelE R x.key = ck at *
      obtain ⟨cl, cb⟩ := ck
      clear s2 s3 s4 kAB
      obtain ⟨xt, xk, xl, xi, xp, xa⟩ := x
      obtain ⟨zt, zk, zl, zi, zp, za⟩ := z
      simp only [Evt.r] at *
      simp only [c_law22_MailboxOrdered, hH, hG, hS, hM, hV1, hV2, hV4, hT, m1, m2, m3, m4, lS, c0, c1, w1, w2, i1, i2, Int.natCast_nonneg, Int.toNat_natCast, List.getElem?_map, Option.map_some, Evt.r, evts_lo, ints_lo, Ev.runFunc, Ev.exec, Ev.evOpers, Ev.evOper, Ev.item_op, Ev.item_P, Ev.evOp, Ev.evs, Ev.Opnd.ev, Ev.Env.get, Ev.Env.set, Ev.look, Ev.argVars, Ev.cellsAt, Ev.loadC, Ev.AV.cells, Ev.plains, Ev.AV.plain, Ev.bin_add, Ev.bin_rem, Ev.bin_eql, Ev.bin_neq, Ev.bin_gtr, Ev.resVals, Ev.resVal, Ev.resOf, Ev.kill, Ev.leave, Ev.storeLo, Ev.lo_v, Ev.lo_agg, Ev.lo_fsl, Ev.los_nil, Ev.los_cons, Ev.loss_cons, Ev.frz_lo, List.length_map, ↓Ev.obind, ↓reduceIte, List.length_cons, List.length_nil, List.getElem?_cons_zero, List.getElem?_cons_succ, List.take_succ_cons, List.take_zero, List.take_nil, List.drop_succ_cons, List.drop_zero, List.drop_nil, List.nil_append, List.append_nil, List.set_cons_zero, List.head?_cons, Nat.reduceAdd, Nat.reduceEqDiff, Int.reduceLE, Int.reduceToNat, reduceCtorEq, decide_true, decide_false, Bool.and_self, Bool.not_true, Bool.false_eq_true, and_self, ne_eq, not_false_eq_true, not_true_eq_false, List.cons_ne_nil, Nat.zero_add, Nat.le_refl, eq_self]
open Go.ChangeShapes Go.WideShapes Go.ChangeAt Go.RowKit
set_option maxRecDepth 100000 in
theorem mailboxOrdered_lifted (os : Os) (started : os.Started) (H : Type) (enc : TypeId × Value → H) :
    ReturnsInHanded {} Try.checked os 4 .any (Rows.mailboxOrderedSpec.pre6 enc Try.prog Try.f4 Rows.mailboxOrderedRow.domain false) (Rows.mailboxOrderedSpec.post enc Try.prog Try.f4 false true false false) := by
  refine returnsInHanded_of_change (C := Try.checked) own started (by kernel_rfl) Try.func4
    (ChangeSpec.witness6 (enc := enc) (C := Try.checked) false ⟨#[], #[.slice none 0 0, .int .u8 0, .int .u8 0, .int .i64 0], []⟩ 8 (by kernel_rfl) (by kernel_rfl) (by kernel_rfl) (by kernel_rfl)) ?_
  intro W base args ds gs before hval hW hcnd _
  have hargs := isArgs_cell Try.underlying22 rfl data_evts (isArgs_cell Try.underlying5 rfl data_u8 (isArgs_cell Try.underlying5 rfl data_u8 (isArgs_cell Try.underlying3 rfl data_int (isArgs_nil (enc := enc)))))
  refine contract_of (P := Try.prog) (fn := Try.f4) (tb := 4) T_ok code_law22_MailboxOrdered (by rw [Try.params4]) hargs ?_ rfl ?_ (by kernel_rfl) Try.underlying4 laid (by decide +kernel) W base args ds gs before hval hW
  · rintro ⟨l, a, w, b, _⟩ ⟨_, h1, h2, _⟩
    exact law_Ordered l false a h1.1 h1.2 w h2.1 h2.2 b
  · intro ds h
    match ds, h with
    | [_, _, _, _], _ => rfl
theorem mailboxOrdered_over : Rows.mailboxOrderedRow.holds Try.pinned (OpenSpec.ofChange Rows.mailboxOrderedSpec) :=
  OpenClaim.holds_of_wide 4 Try.f4 rfl rfl rfl rfl rfl rfl rfl ⟨rfl, rfl, rfl, rfl, rfl⟩ rfl rfl rfl rfl rfl (by kernel_rfl) Try.func4 (by kernel_rfl)
    (of_decide_eq_true (by kernel_rfl)) (by unfold Func.isWrapper; first | (rw [if_pos (by decide +kernel)]; kernel_rfl) | (rw [if_neg (by decide +kernel)]; exact ⟨rfl, rfl⟩))
    (fun os started H enc _ => mailboxOrdered_lifted os started H enc)
end Go.Proofs.Ytdphbgnlmffgaaa.K
namespace Go.Proofs.Ytdphbgnlmffgaaa
theorem mailboxOrdered_holds : Rows.MailboxOrderedSaid := K.mailboxOrdered_over
end Go.Proofs.Ytdphbgnlmffgaaa
#print axioms Go.Proofs.Ytdphbgnlmffgaaa.mailboxOrdered_holds
