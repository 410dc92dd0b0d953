/- For every input MailboxOneByOne returns true, and its arguments read as before. No conditions. -/
import Derived.Test.YtdphbgnlmffgaaaGA09
set_option linter.unusedSectionVars false
set_option linter.unusedSimpArgs false
set_option linter.unusedVariables false
namespace Go.Proofs.Ytdphbgnlmffgaaa.K
open Go.Ev
set_option maxRecDepth 10000
section
variable (A B M : List Evt) (cf : Bool)
theorem oneByOne_L (hl : (A ++ B).length ≤ 1000) (hk : KeysOk (A ++ B)) (hs : A.Pairwise leE) (hd : Dist (A ++ B)) :
    ∃ y, itB (exec (evL T) itL none c_law22_MailboxOneByOne_L1) (Ev.settle [5, 7, 8, 9, 10, 11] true 0) ⟨[(5, (.v (.bool (true)))), (7, (.fsl ((B).map Evt.r) false)), (8, (.fsl ((M).map Evt.r) false)), (9, (.fsl ((A).map Evt.r) cf)), (10, (.fsl ((A).map Evt.r) cf)), (11, (.v (.int .i64 (0))))], []⟩ [] = some y ∧
      ∃ f1 f2 : Bool, y.1 = .exit 0 ∧ y.2.1.marks = [] ∧ y.2.2 = [] ∧ Ev.look y.2.1.vars 5 = some (.v (.bool (true))) ∧ Ev.look y.2.1.vars 8 = some (.fsl ((M).map Evt.r) false) ∧ Ev.look y.2.1.vars 9 = some (.fsl ((sortL (A ++ B)).map Evt.r) f1) ∧ Ev.look y.2.1.vars 10 = some (.fsl ((sortL (A ++ B)).map Evt.r) f2) := by
  have key := itB_for (f := exec (evL T) itL none c_law22_MailboxOneByOne_L1) (s := Ev.settle [5, 7, 8, 9, 10, 11] true 0) (α := (List Evt × Bool) × (List Evt × Bool))
    (fun i a => ⟨[(5, (.v (.bool (true)))), (7, (.fsl ((B).map Evt.r) false)), (8, (.fsl ((M).map Evt.r) false)), (9, (.fsl ((a.1.1).map Evt.r) a.1.2)), (10, (.fsl ((a.2.1).map Evt.r) a.2.2)), (11, (.v (.int .i64 (i))))], []⟩) (fun i a => [])
    (fun i a => a.1.1 = sortL (A ++ B.take i) ∧ a.2.1 = sortL (A ++ B.drop (B.length - i))) B.length
    (fun y => ∃ f1 f2 : Bool, y.1 = .exit 0 ∧ y.2.1.marks = [] ∧ y.2.2 = [] ∧ Ev.look y.2.1.vars 5 = some (.v (.bool (true))) ∧ Ev.look y.2.1.vars 8 = some (.fsl ((M).map Evt.r) false) ∧ Ev.look y.2.1.vars 9 = some (.fsl ((sortL (A ++ B)).map Evt.r) f1) ∧ Ev.look y.2.1.vars 10 = some (.fsl ((sortL (A ++ B)).map Evt.r) f2)) ?_ ?_ 0 ((A, cf), (A, cf)) (Nat.zero_le _) ?_
  · exact key
  · rintro i ⟨⟨b, fb⟩, ⟨cc, fc⟩⟩ hi ⟨hb, hc⟩
    simp only at hb hc ⊢
    obtain ⟨x, hx⟩ : ∃ x, B[i]? = some x := ⟨_, List.getElem?_eq_getElem hi⟩
    obtain ⟨p, hp⟩ : ∃ p, B.length = p + 1 + i := ⟨B.length - 1 - i, by omega⟩
    obtain ⟨z, hz⟩ : ∃ z, B[p]? = some z := ⟨_, List.getElem?_eq_getElem (by omega)⟩
    have hi' : (i : Int) < (B.length : Int) := by omega
    rw [List.length_append] at hl
    have hw : IntKind.i64.wrap ((i : Int) + 1) = ((i + 1 : Nat) : Int) := w64_add1 (by omega)
    have hw1 : IntKind.i64.wrap ((B.length : Int) - 1) = ((p + i : Nat) : Int) := w64_sub1 (by omega) (by omega)
    have hw2 : IntKind.i64.wrap (((p + i : Nat) : Int) - (i : Int)) = (p : Int) := by rw [w64_small (by omega) (by omega)]; omega
    have hdz : B.drop p = z :: B.drop (p + 1) := by
      obtain ⟨h1, h2⟩ := List.getElem?_eq_some_iff.1 hz
      rw [List.drop_eq_getElem_cons h1, h2]
    have e1 : B.length - i = p + 1 := by omega
    have e2 : B.length - (i + 1) = p := by omega
    rw [e1] at hc
    have sub1 : (A ++ B.take (i + 1)).Sublist (A ++ B) := List.Sublist.append_left (List.take_sublist _ _) A
    have sub0 : (A ++ B.take i).Sublist (A ++ B) := List.Sublist.append_left (List.take_sublist _ _) A
    have sub2 : (A ++ B.drop p).Sublist (A ++ B) := List.Sublist.append_left (List.drop_sublist _ _) A
    have sub3 : (A ++ B.drop (p + 1)).Sublist (A ++ B) := List.Sublist.append_left (List.drop_sublist _ _) A
    have p1 : (x :: b).Perm (A ++ B.take (i + 1)) := by
      rw [take_next hx, ← List.append_assoc]
      exact (List.Perm.cons x (by rw [hb]; exact sortL_perm _)).trans (List.perm_append_singleton x _).symm
    have p2 : (z :: cc).Perm (A ++ B.drop p) := by
      rw [hdz]
      exact (List.Perm.cons z (by rw [hc]; exact sortL_perm _)).trans List.perm_middle.symm
    have kx : x.key.length ≤ 9223372036854775807 := hk x (List.mem_append_right _ (List.mem_of_getElem? hx))
    have kz : z.key.length ≤ 9223372036854775807 := hk z (List.mem_append_right _ (List.mem_of_getElem? hz))
    have lb : b.length ≤ 1000000 := by rw [hb, sortL_length]; have := sub0.length_le; simp only [List.length_append] at this ⊢; omega
    have lc : cc.length ≤ 1000000 := by rw [hc, sortL_length]; have := sub3.length_le; simp only [List.length_append] at this ⊢; omega
    have i1 := mailbox_Insert_S b fb x lb (by rw [hb]; exact KeysOk.sortL fun u hu => hk u (sub0.subset hu)) kx (by rw [hb]; exact sortL_sorted _) ((hd.sub sub1).perm p1)
    have i2 := mailbox_Insert_S cc fc z lc (by rw [hc]; exact KeysOk.sortL fun u hu => hk u (sub3.subset hu)) kz (by rw [hc]; exact sortL_sorted _) ((hd.sub sub2).perm p2)
    refine .inl ⟨((sortL (x :: b), false), (sortL (z :: cc), false)), ?_, sortL_perm_eq (hd.sub sub1) p1, by rw [e2]; exact sortL_perm_eq (hd.sub sub2) p2⟩
    clear p1 p2 sub1 sub0 sub2 sub3 hb hc lb lc hdz hk
    generalize sortL (x :: b) = R1 at *
    generalize sortL (z :: cc) = R2 at *
    obtain ⟨xt, xk, xl, xi, xp, xa⟩ := x
    obtain ⟨zt, zk, zl, zi, zp, za⟩ := z
    simp only at i1 i2
    simp only [c_law22_MailboxOneByOne_L1, Int.natCast_nonneg, Int.toNat_natCast, List.getElem?_map, Option.map_some, hx, hz, hi', hw, hw1, hw2, i1, i2, Evt.r, evts_lo, ints_lo, Ev.exec, Ev.evOpers, Ev.evOper, Ev.item_op, Ev.item_P, Ev.evOp, Ev.evs, Ev.Opnd.ev, Ev.Env.get, Ev.Env.set, Ev.look, Ev.cellsAt, Ev.loadC, Ev.bin_add, Ev.bin_sub, Ev.bin_lss, Ev.settle, Ev.keep, Ev.varsLo, Ev.marksLo, Ev.storeLo, Ev.lo_v, Ev.lo_agg, Ev.lo_fsl, Ev.los_nil, Ev.los_cons, List.length_map, ↓Ev.obind, Ev.it1, ↓reduceIte, List.length_cons, List.length_nil, List.take_succ_cons, List.take_nil, Nat.reduceAdd, Nat.reduceEqDiff, decide_true, Bool.and_self, and_self, Nat.zero_add, Nat.le_refl, eq_self]
  · rintro ⟨⟨b, fb⟩, ⟨cc, fc⟩⟩ ⟨hb, hc⟩
    rw [List.take_length] at hb
    rw [Nat.sub_self, List.drop_zero] at hc
    simp only at hb hc ⊢
    rw [hb, hc]
    simp only [c_law22_MailboxOneByOne_L1, Int.lt_irrefl, Ev.exec, Ev.evOpers, Ev.evOper, Ev.item_op, Ev.evOp, Ev.Opnd.ev, Ev.Env.get, Ev.Env.set, Ev.look, Ev.bin_lss, List.length_map, ↓Ev.obind, Ev.it1, ↓reduceIte, Nat.reduceEqDiff, decide_false, Bool.false_eq_true, eq_self]
    exact ⟨_, rfl, fb, fc, rfl, rfl, rfl, rfl, rfl, rfl, rfl⟩
  · simp only [List.take_zero, Nat.sub_zero, List.drop_length, List.append_nil]
    have := sortL_self (hd.sub (List.sublist_append_left A B)) hs
    exact ⟨this, this⟩
end
theorem law_OneByOne (l : List Evt) (c : Bool) (a : Int) (h0 : 0 ≤ a) (h1 : a ≤ 255) : callZ (evL T) n_law22_MailboxOneByOne [(.fsl ((l).map Evt.r) c), .v (.int .u8 a)] = some (.v (.bool (true))) := by
  have hH := law22_head_ev
  have hG := law03_Great_ev l c
  rw [callZ, evL_code ext_law22_MailboxOneByOne code_law22_MailboxOneByOne]
  by_cases hg : greatE l = true
  · rw [hg] at hG
    simp only [c_law22_MailboxOneByOne, hH, hG, evts_lo, Ev.runFunc, Ev.exec, Ev.evOpers, Ev.evOper, Ev.item_op, Ev.item_P, Ev.evOp, Ev.evs, Ev.Opnd.ev, Ev.Env.get, Ev.Env.set, Ev.Env.unset, Ev.look, Ev.argVars, Ev.resVals, Ev.resVal, Ev.resOf, Ev.kill, Ev.leave, Ev.storeLo, Ev.lo_v, Ev.lo_fsl, Ev.los_nil, Ev.los_cons, Ev.frz_lo, ↓Ev.obind, ↓reduceIte, List.length_cons, List.length_nil, List.take_nil, Nat.reduceAdd, Nat.reduceEqDiff, reduceCtorEq, Bool.and_self, Bool.true_eq_false, and_self, Nat.zero_add, eq_self]
  simp only [Bool.not_eq_true] at hg
  rw [hg] at hG
  obtain ⟨hl, hkk⟩ := great_sizes l hg
  have hk : KeysOk l := fun x hx => by have := hkk x hx; omega
  by_cases h60 : l.length > 60
  · have h60' : (l.length : Int) > 60 := by omega
    simp only [c_law22_MailboxOneByOne, hH, hG, h60', evts_lo, Ev.runFunc, Ev.exec, Ev.evOpers, Ev.evOper, Ev.item_op, Ev.item_P, Ev.evOp, Ev.evs, Ev.Opnd.ev, Ev.Env.get, Ev.Env.set, Ev.look, Ev.argVars, Ev.bin_gtr, Ev.resVals, Ev.resVal, Ev.resOf, Ev.kill, Ev.leave, Ev.storeLo, Ev.lo_v, Ev.lo_fsl, Ev.los_nil, Ev.los_cons, Ev.frz_lo, List.length_map, ↓Ev.obind, ↓reduceIte, List.length_cons, List.length_nil, List.take_nil, Nat.reduceAdd, Nat.reduceEqDiff, reduceCtorEq, decide_true, Bool.and_self, Bool.false_eq_true, and_self, Nat.zero_add, eq_self]
  have h60' : ¬ (l.length : Int) > 60 := by omega
  obtain ⟨A, B, cf, ⟨s1, s2, s3, s4, s5⟩, hS⟩ := law22_split_ev l c a h0 h1 (by omega) hk
  have kAB : KeysOk (A ++ B) := fun x hx => hk x (s4 x hx)
  have hM := mailbox_Merge_ev A B cf false (by omega) kAB s1 s2
  obtain ⟨⟨y, e, σ⟩, k1, f1, f2, k2, k3, k4, k5, k6, k7, k8⟩ := oneByOne_L A B (sortL (A ++ B)) cf (by omega) kAB s1 s2
  simp only at k2 k3 k4 k5 k6 k7 k8
  subst k2; subst k4
  have e1 := same_evts (sortL (A ++ B)) false f1 (by rw [sortL_length]; omega) kAB.sortL
  have e2 := same_evts (sortL (A ++ B)) false f2 (by rw [sortL_length]; omega) kAB.sortL
  generalize sortL (A ++ B) = R at *
  simp only [c_law22_MailboxOneByOne, hH, hG, h60', hS, hM, k1, k3, k5, k6, k7, k8, e1, e2, evts_lo, Ev.runFunc, Ev.exec, Ev.evOpers, Ev.evOper, Ev.item_op, Ev.item_P, Ev.evOp, Ev.evs, Ev.Opnd.ev, Ev.Env.get, Ev.Env.set, Ev.look, Ev.argVars, Ev.bin_gtr, Ev.resVals, Ev.resVal, Ev.resOf, Ev.kill, Ev.leave, Ev.settle, Ev.keep, Ev.varsLo, Ev.marksLo, Ev.storeLo, Ev.lo_v, Ev.lo_fsl, Ev.los_nil, Ev.los_cons, Ev.frz_lo, List.length_map, ↓Ev.obind, ↓Ev.itL_itB, ↓reduceIte, List.length_cons, List.length_nil, List.getElem?_cons_zero, List.getElem?_cons_succ, List.take_nil, Nat.reduceAdd, Nat.reduceEqDiff, reduceCtorEq, decide_false, Bool.and_self, Bool.false_eq_true, and_self, Nat.zero_add, eq_self]
open Go.ChangeShapes Go.WideShapes Go.ChangeAt Go.RowKit
set_option maxRecDepth 100000 in
theorem mailboxOneByOne_lifted (os : Os) (started : os.Started) (H : Type) (enc : TypeId × Value → H) :
    ReturnsInHanded {} Try.checked os 5 .any (Rows.mailboxOneByOneSpec.pre6 enc Try.prog Try.f5 Rows.mailboxOneByOneRow.domain false) (Rows.mailboxOneByOneSpec.post enc Try.prog Try.f5 false true false false) := by
  refine returnsInHanded_of_change (C := Try.checked) own started (by kernel_rfl) Try.func5
    (ChangeSpec.witness6 (enc := enc) (C := Try.checked) false ⟨#[], #[.slice none 0 0, .int .u8 0], []⟩ 8 (by kernel_rfl) (by kernel_rfl) (by kernel_rfl) (by kernel_rfl)) ?_
  intro W base args ds gs before hval hW hcnd _
  have hargs := isArgs_cell Try.underlying22 rfl data_evts (isArgs_cell Try.underlying5 rfl data_u8 (isArgs_nil (enc := enc)))
  refine contract_of (P := Try.prog) (fn := Try.f5) (tb := 4) T_ok code_law22_MailboxOneByOne (by rw [Try.params5]) hargs ?_ rfl ?_ (by kernel_rfl) Try.underlying4 laid (by decide +kernel) W base args ds gs before hval hW
  · rintro ⟨l, a, _⟩ ⟨_, h1, _⟩
    exact law_OneByOne l false a h1.1 h1.2
  · intro ds h
    match ds, h with
    | [_, _], _ => rfl
theorem mailboxOneByOne_over : Rows.mailboxOneByOneRow.holds Try.pinned (OpenSpec.ofChange Rows.mailboxOneByOneSpec) :=
  OpenClaim.holds_of_wide 5 Try.f5 rfl rfl rfl rfl rfl rfl rfl ⟨rfl, rfl, rfl, rfl, rfl⟩ rfl rfl rfl rfl rfl (by kernel_rfl) Try.func5 (by kernel_rfl)
    (of_decide_eq_true (by kernel_rfl)) (by unfold Func.isWrapper; first | (rw [if_pos (by decide +kernel)]; kernel_rfl) | (rw [if_neg (by decide +kernel)]; exact ⟨rfl, rfl⟩))
    (fun os started H enc _ => mailboxOneByOne_lifted os started H enc)
end Go.Proofs.Ytdphbgnlmffgaaa.K
namespace Go.Proofs.Ytdphbgnlmffgaaa
theorem mailboxOneByOne_holds : Rows.MailboxOneByOneSaid := K.mailboxOneByOne_over
end Go.Proofs.Ytdphbgnlmffgaaa
#print axioms Go.Proofs.Ytdphbgnlmffgaaa.mailboxOneByOne_holds
