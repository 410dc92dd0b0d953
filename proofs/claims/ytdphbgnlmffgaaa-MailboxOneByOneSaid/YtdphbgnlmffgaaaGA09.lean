/- For every input the statement of this claim returns true: texts of its proof, joined (part 10). -/
import Derived.ChangeShapes
import Derived.ChangeOld
import Derived.ChangeArms
import Derived.DataReads
import Derived.Carry
import Derived.ChangeSame
import Derived.OpenShut
import Derived.Handed
import Derived.RowKit3
import Derived.ChangeAt
import Derived.Test.YtdphbgnlmffgaaaRows
import Derived.WalkKit
import Derived.ProofKit
import Derived.Test.YtdphbgnlmffgaaaE3
import Derived.Test.YtdphbgnlmffgaaaGA08
set_option linter.unusedSectionVars false
set_option linter.unusedSimpArgs false
set_option linter.unusedVariables false
namespace Go.Proofs.Ytdphbgnlmffgaaa.K
open Go.Ev
set_option maxRecDepth 10000
theorem same_evts (a : List Evt) (c d : Bool) (h : a.length ≤ 1000000) (hk : KeysOk a) : callZ (evL T) n_ref03_SameEvents [(.fsl ((a).map Evt.r) c), (.fsl ((a).map Evt.r) d)] = some (.v (.bool (true))) := by
  have := SameEvents_ev a a c d (by omega) (by omega) hk hk
  simpa using this
theorem same_evt (x : Evt) (h : x.key.length ≤ 9223372036854775807) : callZ (evL T) n_ref03_SameEvent [(.agg [(.v (.int .i64 (x.time))), (.fsl ((x.key).map intC) false), (.v (.int .i64 (x.lp))), (.v (.int .i64 (x.kind))), (.v (.int .i64 (x.proc))), (.v (.int .i64 (x.arg)))]), (.agg [(.v (.int .i64 (x.time))), (.fsl ((x.key).map intC) false), (.v (.int .i64 (x.lp))), (.v (.int .i64 (x.kind))), (.v (.int .i64 (x.proc))), (.v (.int .i64 (x.arg)))])] = some (.v (.bool (true))) := by
  have := SameEvent_ev x x h h
  simpa using this
theorem takeE_ok (l : List Evt) (b : Int) : (takeE l b).1.length ≤ l.length ∧ (∀ x ∈ (takeE l b).1, x ∈ l) ∧ ((takeE l b).2.1 ∈ l ∨ (takeE l b).2.1 = noEvt) := by
  cases l with
  | nil => simp [takeE]
  | cons x r =>
    by_cases h : x.time < b
    · simp [takeE, h]
      exact fun z hz => .inr hz
    · simp [takeE, h]
theorem cancelE_ok (l : List Evt) (k : List Int) : (cancelE l k).1.length ≤ l.length ∧ (∀ x ∈ (cancelE l k).1, x ∈ l) :=
  ⟨List.length_eraseP_le, fun x hx => List.mem_of_mem_eraseP hx⟩
theorem law_Matches (l : List Evt) (c : Bool) (a : Int) (h0 : 0 ≤ a) (h1 : a ≤ 255) (key : List Int) (d : Bool) (bound : Int) (hkl : key.length ≤ 9223372036854775807) :
    callZ (evL T) n_law22_MailboxMatchesReference [(.fsl ((l).map Evt.r) c), .v (.int .u8 a), (.fsl ((key).map intC) d), (.v (.int .i64 (bound)))] = some (.v (.bool (true))) := by
  have hH := law22_head_ev
  have hG := law03_Great_ev l c
  rw [callZ, evL_code ext_law22_MailboxMatchesReference code_law22_MailboxMatchesReference]
  by_cases hg : greatE l = true
  · rw [hg] at hG
    simp only [c_law22_MailboxMatchesReference, hH, hG, evts_lo, Ev.runFunc, Ev.exec, Ev.evOpers, Ev.evOper, Ev.item_op, Ev.item_P, Ev.evOp, Ev.evs, Ev.Opnd.ev, Ev.Env.get, Ev.Env.set, Ev.Env.unset, Ev.look, Ev.argVars, Ev.resVals, Ev.resVal, Ev.resOf, Ev.kill, Ev.leave, Ev.storeLo, Ev.lo_v, Ev.lo_fsl, Ev.los_nil, Ev.los_cons, Ev.frz_lo, ↓Ev.obind, ↓reduceIte, List.length_cons, List.length_nil, List.take_nil, Nat.reduceAdd, Nat.reduceEqDiff, reduceCtorEq, Bool.and_self, Bool.true_eq_false, and_self, Nat.zero_add, eq_self]
  simp only [Bool.not_eq_true] at hg
  rw [hg] at hG
  obtain ⟨hl, hkk⟩ := great_sizes l hg
  have hk : KeysOk l := fun x hx => by have := hkk x hx; omega
  have hV1 := mailbox_Valid_ev l c (by omega) hk
  have hV2 := ref22_Valid_ev l c (by omega) hk
  by_cases hkey : key.length > 60
  · have hkey' : (key.length : Int) > 60 := by omega
    simp only [c_law22_MailboxMatchesReference, hH, hG, hkey', evts_lo, Ev.runFunc, Ev.exec, Ev.evOpers, Ev.evOper, Ev.item_op, Ev.item_P, Ev.evOp, Ev.evs, Ev.Opnd.ev, Ev.Env.get, Ev.Env.set, Ev.Env.unset, Ev.look, Ev.argVars, Ev.bin_gtr, Ev.resVals, Ev.resVal, Ev.resOf, Ev.kill, Ev.leave, Ev.storeLo, Ev.lo_v, Ev.lo_fsl, Ev.los_nil, Ev.los_cons, Ev.frz_lo, List.length_map, ↓Ev.obind, ↓reduceIte, List.length_cons, List.length_nil, List.take_nil, Nat.reduceAdd, Nat.reduceEqDiff, reduceCtorEq, decide_true, Bool.and_self, Bool.false_eq_true, Bool.true_eq_false, and_self, Nat.zero_add, eq_self]
  have hkey' : ¬ (key.length : Int) > 60 := by omega
  obtain ⟨A, B, cf, ⟨s1, s2, s3, s4, s5⟩, hS⟩ := law22_split_ev l c a h0 h1 (by omega) hk
  have kA : KeysOk A := fun x hx => hk x (s4 x (List.mem_append_left _ hx))
  have kB : KeysOk B := fun x hx => hk x (s4 x (List.mem_append_right _ hx))
  have kAB : KeysOk (A ++ B) := fun x hx => hk x (s4 x hx)
  have lAB : (A ++ B).length ≤ 1000000 := by omega
  have lA : A.length ≤ 1000000 := by rw [List.length_append] at lAB; omega
  obtain ⟨f1, hT1⟩ := mailbox_Take_ev A cf bound lA
  obtain ⟨f2, hT2⟩ := ref22_Take_ev A cf bound lA
  obtain ⟨f3, _, hC1⟩ := mailbox_Cancel_ev A cf key d lA kA (by omega) s5
  obtain ⟨f4, hC2⟩ := ref22_Cancel_ev A cf key d lA kA (by omega)
  have hM1 := mailbox_Merge_ev A B cf false lAB kAB s1 s2
  obtain ⟨f5, hM2⟩ := ref22_Merge_ev A B cf false lAB kAB s1 s2
  obtain ⟨t1, t2, t3⟩ := takeE_ok A bound
  obtain ⟨u1, u2⟩ := cancelE_ok A key
  have e1 := same_evts (takeE A bound).1 f1 f2 (by omega) (fun x hx => kA x (t2 x hx))
  have e2 := same_evt (takeE A bound).2.1 (by rcases t3 with h | h; exact kA _ h; rw [h]; simp [noEvt])
  have e3 := same_evts (cancelE A key).1 f3 f4 (by omega) (fun x hx => kA x (u2 x hx))
  have e4 := same_evts (sortL (A ++ B)) false f5 (by rw [sortL_length]; omega) kAB.sortL
  rcases B with _ | ⟨x, B⟩
  · simp only [List.map_nil] at *
    generalize takeE A bound = tk at *
    generalize cancelE A key = ck at *
    generalize sortL (A ++ []) = R at *
    obtain ⟨tl, ⟨tt, tk2, tlp, tki, tp, ta⟩, tb⟩ := tk
    obtain ⟨cl, cb⟩ := ck
    simp only at *
    simp only [c_law22_MailboxMatchesReference, hH, hG, hV1, hV2, hkey', hS, hT1, hT2, hC1, hC2, hM1, hM2, e1, e2, e3, e4, List.length_nil, gt_iff_lt, Int.lt_irrefl, evts_lo, ints_lo, Ev.runFunc, Ev.exec, Ev.evOpers, Ev.evOper, Ev.item_op, Ev.item_P, Ev.evOp, Ev.evs, Ev.Opnd.ev, Ev.Env.get, Ev.Env.set, Ev.Env.unset, Ev.look, Ev.argVars, Ev.cellsAt, Ev.loadC, Ev.AV.cells, Ev.plains, Ev.AV.plain, Ev.bin_gtr, Ev.resVals, Ev.resVal, Ev.resOf, Ev.kill, Ev.leave, Ev.storeLo, Ev.lo_v, Ev.lo_agg, Ev.lo_fsl, Ev.los_nil, Ev.los_cons, Ev.loss_nil, Ev.frz_lo, List.length_map, ↓Ev.obind, ↓reduceIte, List.length_cons, List.length_nil, List.getElem?_cons_zero, List.getElem?_cons_succ, List.take_succ_cons, List.take_zero, List.take_nil, List.drop_succ_cons, List.drop_zero, List.drop_nil, List.cons_append, List.nil_append, List.append_nil, List.set_cons_zero, List.set_cons_succ, Nat.reduceAdd, Nat.reduceEqDiff, Int.cast_ofNat_Int, reduceCtorEq, decide_false, Bool.and_self, Bool.not_true, Bool.false_eq_true, and_self, ne_eq, not_false_eq_true, List.cons_ne_nil, Nat.zero_add, Nat.le_refl, eq_self, beq_self_eq_true]
  · have hx : x ∈ A ++ x :: B := by simp
    have hd1 : Dist (x :: A) := by
      have h2 : (A ++ [x]).Sublist (A ++ x :: B) := by
        refine List.Sublist.append_left ?_ A
        exact List.Sublist.cons_cons x (List.nil_sublist B)
      exact (s2.sub h2).perm (List.perm_append_singleton x A).symm
    have hI1 := mailbox_Insert_S A cf x lA kA (kAB x hx) s1 hd1
    have hI2 := ref22_Insert_S A cf x lA kA (kAB x hx) s1 hd1
    have e5 := same_evts (sortL (x :: A)) false false (by rw [sortL_length]; rw [List.length_append] at lAB; simp at lAB ⊢; omega) (KeysOk.sortL fun z hz => by
      rcases List.mem_cons.1 hz with rfl | hz
      · exact kAB _ hx
      · exact kA z hz)
    have c1 : ((B.length + 1 : Nat) : Int) > 0 := by omega
    generalize takeE A bound = tk at *
    generalize cancelE A key = ck at *
    generalize sortL (A ++ x :: B) = R at *
    generalize sortL (x :: A) = R2 at *
    obtain ⟨tl, ⟨tt, tk2, tlp, tki, tp, ta⟩, tb⟩ := tk
    obtain ⟨cl, cb⟩ := ck
    clear s2 s3 s4 kB kAB hd1 hx t1 t2 t3 u1 u2
    obtain ⟨xt, xk, xl, xi, xp, xa⟩ := x
    simp only [List.map_cons, Evt.r] at *
    simp only [c_law22_MailboxMatchesReference, hH, hG, hV1, hV2, hkey', hS, hT1, hT2, hC1, hC2, hM1, hM2, hI1, hI2, e1, e2, e3, e4, e5, c1, evts_lo, ints_lo, Ev.runFunc, Ev.exec, Ev.evOpers, Ev.evOper, Ev.item_op, Ev.item_P, Ev.evOp, Ev.evs, Ev.Opnd.ev, Ev.Env.get, Ev.Env.set, Ev.look, Ev.argVars, Ev.cellsAt, Ev.loadC, Ev.AV.cells, Ev.plains, Ev.AV.plain, Ev.bin_gtr, Ev.resVals, Ev.resVal, Ev.resOf, Ev.kill, Ev.leave, Ev.storeLo, Ev.lo_v, Ev.lo_agg, Ev.lo_fsl, Ev.los_nil, Ev.los_cons, Ev.loss_cons, Ev.frz_lo, List.length_map, ↓Ev.obind, ↓reduceIte, List.length_cons, List.length_nil, List.getElem?_cons_zero, List.getElem?_cons_succ, List.take_succ_cons, List.take_zero, List.take_nil, List.drop_succ_cons, List.drop_zero, List.drop_nil, List.cons_append, List.nil_append, List.append_nil, List.set_cons_zero, List.set_cons_succ, Nat.reduceAdd, Nat.reduceEqDiff, Int.reduceLE, Int.reduceToNat, reduceCtorEq, decide_true, decide_false, Bool.and_self, Bool.not_true, Bool.false_eq_true, and_self, ne_eq, not_false_eq_true, List.cons_ne_nil, Nat.zero_add, Nat.le_refl, eq_self, beq_self_eq_true]
end Go.Proofs.Ytdphbgnlmffgaaa.K
namespace Go.Ev
def Ctx.nil : Ctx := { n := 0, loc := fun _ => ⟨0, 0, 0, 0⟩, own := fun _ => False, far := fun _ => False }
theorem SR.nil (P : Program) (w : World) : SR P Ctx.nil [] w where
  len := rfl
  obj o ob h := by simp at h
  blk o h := absurd h (Nat.not_lt_zero _)
  inj o o' h := absurd h (Nat.not_lt_zero _)
  ownlt b h := h.elim
  farlt b h := h.elim
  sep b h := h.elim
section
variable (P : Program) {H : Type} (enc : TypeId × Value → H)
def IsData (t : TypeId) {τ : Type} (c : τ → List AV) (ok : τ → Prop) : Prop :=
  ∀ (w : World) (fuel : Nat) (cs : List Value) (d : DataW H) (ps : List MemPlace), DataW.trod enc P w 0 (fun _ => true) true fuel t cs = some (d, ps) → ∃ x : τ, ok x ∧ VRs Ctx.nil w (c x) cs
variable {P enc}
theorem VRs.one {Γ : Ctx} {w : World} {a : AV} {v : Value} (h : VR Γ w a v) : VRs Γ w [a] [v] := by
  simp only [VRs]; exact ⟨v, [], rfl, h, rfl⟩
theorem isData_int {t : TypeId} {k : IntKind} (hu : P.underlying t = some (.int k)) : IsData P enc t (fun n : Int => [.v (.int k n)]) (fun n => (Lit.int k n).wf = true) := by
  intro w fuel cs d ps h
  cases fuel with
  | zero => simp [DataW.trod] at h
  | succ fuel =>
    unfold DataW.trod at h
    rw [hu] at h
    split at h <;> rename_i heq <;> first | (cases heq; done) | (cases h; done) | skip
    cases heq
    split at h
    · rename_i hk
      obtain ⟨rfl, hwf⟩ := hk
      exact ⟨_, hwf, VRs.one (by simp only [VR])⟩
    · cases h
variable (P enc) in
def IsFields (off : Nat) (fs : List Field) {τ : Type} (c : τ → List AV) (ok : τ → Prop) (tot : Nat) : Prop :=
  ∀ (w : World) (fuel : Nat) (cs : List Value), (∀ (i : Nat) (f : Field), fs[i]? = some f → ∃ x, DataW.trod enc P w 0 (fun _ => true) true fuel f.type ((cs.drop f.offset).take (P.cellsOf f.type)) = some x) →
    ∃ x : τ, ok x ∧ VRs Ctx.nil w (c x) ((cs.drop off).take tot)
theorem isFields_nil (off : Nat) : IsFields P enc off [] (fun _ : Unit => []) (fun _ => True) 0 := fun w fuel cs _ => ⟨(), trivial, by simp [VRs]⟩
theorem isFields_cons {off : Nat} {f : Field} {fs : List Field} {α β : Type} {c1 : α → List AV} {ok1 : α → Prop} {c2 : β → List AV} {ok2 : β → Prop} {tot : Nat} {sz : Nat} (ho : f.offset = off) (hs : P.cellsOf f.type = sz)
    (h1 : IsData P enc f.type c1 ok1) (h2 : IsFields P enc (off + sz) fs c2 ok2 tot) : IsFields P enc off (f :: fs) (fun x : α × β => c1 x.1 ++ c2 x.2) (fun x => ok1 x.1 ∧ ok2 x.2) (sz + tot) := by
  intro w fuel cs h
  obtain ⟨⟨d, ps⟩, h3⟩ := h 0 f rfl
  obtain ⟨x, k1, k2⟩ := h1 w fuel _ d ps h3
  obtain ⟨y, k3, k4⟩ := h2 w fuel cs fun i g hg => h (i + 1) g (by simpa using hg)
  refine ⟨(x, y), ⟨k1, k3⟩, ?_⟩
  rw [List.take_add, List.drop_drop]
  rw [ho, hs] at k2
  exact k2.append k4
theorem isData_struct {t : TypeId} {fs : Array Field} {τ : Type} {c : τ → List AV} {ok : τ → Prop} (hu : P.underlying t = some (.struct fs)) (h : IsFields P enc 0 fs.toList c ok (P.cellsOf t)) : IsData P enc t c ok := by
  intro w fuel cs d ps ht
  obtain ⟨xs, n, rfl, _, hl, hx, hall⟩ := DataW.trod_struct hu ht
  obtain ⟨x, k1, k2⟩ := h w n cs fun i f hf => by
    have hf' : fs[i]? = some f := by simpa using hf
    have := hall i f hf'
    have hlt : i < xs.length := by rw [hx]; exact (Array.getElem?_eq_some_iff.1 hf').1
    exact ⟨xs[i], by rw [this, List.getElem?_eq_getElem hlt]⟩
  refine ⟨x, k1, ?_⟩
  rw [List.drop_zero, ← hl, List.take_length] at k2
  exact k2
theorem isData_struct' {t : TypeId} {fs : Array Field} {τ : Type} {c : τ → List AV} {ok : τ → Prop} {n : Nat} (hu : P.underlying t = some (.struct fs)) (h : IsFields P enc 0 fs.toList c ok n) (hn : P.cellsOf t = n) : IsData P enc t c ok := isData_struct hu (by rw [hn]; exact h)
theorem IsData.map {t : TypeId} {α β : Type} {c : α → List AV} {ok : α → Prop} {c' : β → List AV} {ok' : β → Prop} (g : α → β) (h : IsData P enc t c ok) (hc : ∀ x, c' (g x) = c x) (ho : ∀ x, ok x → ok' (g x)) : IsData P enc t c' ok' := by
  intro w fuel cs d ps ht
  obtain ⟨x, h1, h2⟩ := h w fuel cs d ps ht
  exact ⟨g x, ho x h1, by rw [hc]; exact h2⟩
theorem choose_list {τ : Type} {Q : Nat → τ → Prop} : ∀ (n : Nat), (∀ i, i < n → ∃ x, Q i x) → ∃ xs : List τ, xs.length = n ∧ ∀ (i : Nat) (x : τ), xs[i]? = some x → Q i x
  | 0, _ => ⟨[], rfl, by simp⟩
  | n + 1, h => by
    obtain ⟨xs, h1, h2⟩ := choose_list n fun i hi => h i (by omega)
    obtain ⟨x, hx⟩ := h n (by omega)
    refine ⟨xs ++ [x], by simp [h1], fun i y hy => ?_⟩
    rw [List.getElem?_append] at hy
    split at hy
    · exact h2 i y hy
    · rename_i hi
      have hlt : i - xs.length < 1 := by
        have := (List.getElem?_eq_some_iff.1 hy).1
        simpa using this
      have : i = n := by omega
      subst this
      rw [h1, Nat.sub_self] at hy
      simp at hy; subst hy; exact hx
theorem VRrows_of {Γ : Ctx} {w : World} {sz : Nat} {τ : Type} {c : τ → List AV} : ∀ (xs : List τ) (get : Nat → Option Value), (∀ (i : Nat) (x : τ), xs[i]? = some x → VRcells Γ w (c x) (fun j => get (j + i * sz))) → VRrows Γ w sz (xs.map c) get
  | [], _, _ => by simp [VRrows]
  | x :: xs, get, h => by
    simp only [List.map_cons, VRrows]
    refine ⟨by simpa using h 0 x (by simp), VRrows_of xs _ fun i y hy => ?_⟩
    refine (h (i + 1) y (by simpa using hy)).congr fun j => ?_
    congr 1
    rw [Nat.add_mul]; omega
theorem isData_slice {t e : TypeId} {sz : Nat} {τ : Type} {c : τ → List AV} {ok : τ → Prop} (hu : P.underlying t = some (.slice e)) (hs : P.cellsOf e = sz) (h0 : 0 < sz) (hc : ∀ x, (c x).length = sz) (h : IsData P enc e c ok) :
    IsData P enc t (fun xs : List τ => [.fsl (xs.map c) false]) (fun xs => (∀ x ∈ xs, ok x) ∧ xs.length ≤ maxLen) := by
  intro w fuel cs d ps ht
  rcases DataW.trod_slice hu ht with ⟨rfl, _⟩ | ⟨a, len, cap, elems, rest, n, rfl, rfl, _, _, hle, hcap, hel, hall, _⟩
  · refine ⟨[], by simp, VRs.one ?_⟩
    simp only [VR]
    exact ⟨none, 0, rfl, by simp, fun h => (by cases h), .inl rfl⟩
  · have hex : ∀ i, i < len → ∃ x : τ, ok x ∧ ∃ vs, w.cells? 0 (a.add (i * sz)) sz = some vs ∧ VRs Ctx.nil w (c x) vs := by
      intro i hi
      have hb := hall i hi
      rw [List.getElem?_eq_getElem (by omega), Option.bind_eq_some_iff] at hb
      obtain ⟨vs, k1, k2⟩ := hb
      obtain ⟨x, k3, k4⟩ := h w n vs _ _ k2
      rw [hs] at k1
      exact ⟨x, k3, vs, k1, k4⟩
    obtain ⟨xs, h4, h5⟩ := choose_list (Q := fun i x => ok x ∧ ∃ vs, w.cells? 0 (a.add (i * sz)) sz = some vs ∧ VRs Ctx.nil w (c x) vs) len hex
    refine ⟨xs, ⟨fun x hx => ?_, by omega⟩, VRs.one ?_⟩
    · obtain ⟨i, hi, rfl⟩ := List.mem_iff_getElem.1 hx
      exact (h5 i _ (by simp [hi])).1
    · simp only [VR]
      refine ⟨some a, cap, by simp [h4], by simp [h4]; omega, fun h => (by cases h), ?_⟩
      by_cases hx0 : xs = []
      · left; simp [hx0]
      · right
        have hlen0 : 0 < xs.length := List.length_pos_iff.2 hx0
        have hcell : ∀ (i : Nat) (x : τ), xs[i]? = some x → ∀ j, j < sz → ∃ v, w.cell? ((a.add (i * sz)).add j) = some v := by
          intro i x hx j hj
          obtain ⟨_, vs, k1, k2⟩ := h5 i x hx
          obtain ⟨_, k3, k4⟩ := World.cells?_some k1
          exact ⟨vs[j]'(by omega), by rw [k4 j hj, List.getElem?_eq_getElem (by omega)]⟩
        obtain ⟨v0, hv0⟩ := hcell 0 xs[0] (by simp [hlen0]) 0 h0
        obtain ⟨b, off, spot⟩ := a
        have hspot : spot = none := by simpa [Addr.add] using World.cell?_spot hv0
        subst hspot
        have hblt : b < w.heap.size := by
          rw [Addr.add_lit, Addr.add_lit] at hv0
          unfold World.cell? at hv0
          cases hh : w.heap[b]? with
          | none => rw [hh] at hv0; simp at hv0
          | some o => exact (Array.getElem?_eq_some_iff.1 hh).1
        refine ⟨b, off, sz, rfl, ⟨hblt, id, id⟩, h0, ?_, ?_⟩
        · intro e he
          obtain ⟨x, _, rfl⟩ := List.mem_map.1 he
          exact hc x
        · refine VRrows_of xs _ fun i x hx => ?_
          obtain ⟨_, vs, k1, k2⟩ := h5 i x hx
          obtain ⟨_, k3, k4⟩ := World.cells?_some k1
          refine VRcells.of_list k2 fun j v hj => ?_
          have hjl := (List.getElem?_eq_some_iff.1 hj).1
          have := k4 j (by omega)
          rw [hj, Addr.add_lit, Addr.add_lit] at this
          rw [← this]
          congr 2
          omega
end
end Go.Ev
namespace Go.Ev
open Go.RowKit (Below)
open Go.ChangeShapes Go.WideShapes Go.ChangeAt Go.RowKit
variable {H : Type} {enc : TypeId × Value → H} {P : Program}
theorem Ext.below {w w' : World} {Γ' : Ctx} (x : Ext Ctx.nil Γ' w w') : Below w.heap.size w w' := ⟨x.os, x.tape, x.output, x.size, fun k hk => x.same k hk id⟩
theorem trodAll_stays (hl : laidOutB P = true) {w w' : World} (hb : Below w.heap.size w w') {sp : Nat → Bool} : ∀ {ts : List TypeId} {vs : List Value} {ds : List (DataW H)} {ps : List MemPlace},
    (∀ t ∈ ts, P.readableRec t = true ∧ t < P.types.size) → DataW.TrodAll enc P w 0 (fun _ => true) true ts vs ds ps → (∀ p ∈ ps, p.block < w.heap.size) → (∀ p ∈ ps, sp p.block = true) → DataW.TrodAll enc P w' 0 sp true ts vs ds ps
  | [], [], [], ps, _, h, _, _ => h
  | t :: ts, v :: vs, d :: ds, ps, ht, ⟨p, q, h1, h2, e⟩, hlt, hs => by
    subst e
    obtain ⟨r1, r2⟩ := ht t (by simp)
    exact ⟨p, q, WideElems.Trod_stays hl r1 r2 h1 (fun x hx => hb.same (hlt x (List.mem_append_left _ hx))) (fun x hx => hs x (List.mem_append_left _ hx)),
      trodAll_stays hl hb (fun u hu => ht u (by simp [hu])) h2 (fun x hx => hlt x (List.mem_append_right _ hx)) (fun x hx => hs x (List.mem_append_right _ hx)), rfl⟩
  | [], _ :: _, _, _, _, h, _, _ => h.elim
  | [], [], _ :: _, _, _, h, _, _ => h.elim
  | _ :: _, [], _, _, _, h, _, _ => h.elim
  | _ :: _, _ :: _, [], _, _, h, _, _ => h.elim
theorem frz_bool {σ : Store} {d : Nat} {a : AV} {b : Bool} : frz σ (d + 1) a = some (.v (.bool b)) → a = .v (.bool b) := by
  intro h
  simp only [frz] at h
  split at h
  · cases h; rfl
  · cases a with
    | v x => cases h; rfl
    | sl o g off len c =>
      simp only at h
      split at h
      · split at h
        · rw [Option.bind_eq_some_iff] at h; obtain ⟨_, _, h⟩ := h; cases h
        · cases h
      · cases h
    | ptr o g i off =>
      simp only at h
      split at h
      · split at h
        · rw [Option.bind_eq_some_iff] at h; obtain ⟨_, _, h⟩ := h
          rw [Option.bind_eq_some_iff] at h; obtain ⟨_, _, h⟩ := h; cases h
        · cases h
      · cases h
    | agg cs => simp only [Option.bind_eq_some_iff] at h; obtain ⟨_, _, h⟩ := h; cases h
    | tup cs => simp only [Option.bind_eq_some_iff] at h; obtain ⟨_, _, h⟩ := h; cases h
    | fsl es c => simp only [Option.bind_eq_some_iff] at h; obtain ⟨_, _, h⟩ := h; cases h
    | fptr cs => simp only [Option.bind_eq_some_iff] at h; obtain ⟨_, _, h⟩ := h; cases h
    | fn f a b => simp only [Option.bind_eq_some_iff] at h; obtain ⟨_, _, _, _, h⟩ := h; cases h
    | yld o => cases h
    | mp o => cases h
theorem calls_bool {T : Tab} (hT : TabOk P T) {f : Nat} {cf : CFunc} (hc : T.code f = some cf) {as_ : List AV} {b : Bool} (h : callZ (evL T) f as_ = some (.v (.bool b))) {W : World} {args : Array Value} (hv : VRs Ctx.nil W as_ args.toList) :
    Calls P f args W fun e W' => e = .returned (.bool b) ∧ Below W.heap.size W W' := by
  unfold callZ at h
  rw [Option.bind_eq_some_iff] at h
  obtain ⟨⟨r, σ⟩, h1, h2⟩ := h
  obtain rfl := frz_bool (d := 5) h2
  have hn := evL_ok hT f as_ [] _ σ h1 Ctx.nil W args.toList (SR.nil P W) hv
  rw [Array.toArray_toList, hT.enter hc] at hn
  refine (callsIn_wide.1 hn).mono fun e W' he => ?_
  cases e with
  | returned v =>
    obtain ⟨Γ', k1, _, k3⟩ := he
    simp only [VR] at k1
    exact ⟨by rw [k1], k3.below⟩
  | panicked _ => exact he.elim
  | outgrown => exact he.elim
theorem post_of_true {f : Func} {s : ChangeSpec} {apart fresh handsOn again : Bool} {W W' : World} {args : Array Value} {ds gs : List (DataW H)} {before : List MemPlace} {tb : TypeId}
    (hvars : s.vars = []) (hspec : s.fn H (ds ++ gs) = { results := [.lit (.bool true)], args := ds }) (hr : f.resultTypes = #[tb]) (htb : P.underlying tb = some .bool) (hl : laidOutB P = true)
    (hts : ∀ t ∈ f.params.toList, P.readableRec t = true ∧ t < P.types.size)
    (hW : DataW.Whole enc P f.params.toList s.vars apart W args.toList ds gs before) (hb : Below W.heap.size W W') : s.post enc P f apart fresh handsOn again W args (.bool true) W' := by
  have hlt := hW.lt
  have hW' := hW
  obtain ⟨p, q, hA, hV, rfl, hz, hnd⟩ := hW
  rw [hvars] at hV
  obtain ⟨rfl, rfl⟩ := trodVars_none hV
  have hargs : ∀ sp : Nat → Bool, (∀ x ∈ p, sp x.block = true) → DataW.TrodAll enc P W' 0 sp true f.params.toList args.toList ds p := fun sp hs => trodAll_stays hl hb hts hA (fun x hx => hlt x (by simp [hx])) hs
  have hres : ∀ (bb : Nat) (sp : Nat → Bool) (hd : Bool), DataW.TrodAll enc P W' bb sp hd f.resultTypes.toList ((Value.bool true).resultList f.resultTypes.size) [.lit (.bool true)] [] := fun bb sp hd => by
    rw [hr]
    exact trodAll_mk1 (shut_bool htb true)
  refine ⟨ds, [], p ++ [], [], p, [], hW', ?_, ?_, ?_, hb.frame _, fun _ => ⟨?_, ?_⟩⟩
  · rw [hspec]; exact hres _ _ _
  · rw [hspec]; exact hargs _ fun x hx => by simpa using hlt x (by simp [hx])
  · rw [hspec, hvars]; rfl
  · exact ok_one hr rfl (okWide_bool_mk htb true)
  · refine ⟨[.lit (.bool true)] ++ ds, [], ([] ++ p) ++ [], ⟨[] ++ p, [], trodAll_append (hargs _ (fun _ _ => rfl)) (hres _ _ _), by rw [hvars]; rfl, rfl, ?_, ?_⟩, ?_⟩
    · intro b off hp
      have hp' : MemPlace.cell b off ∈ p := by simpa using hp
      have hblt : b < W.heap.size := hlt (.cell b off) (by simp [hp'])
      rw [hb.frozen (p := ⟨b, off, none⟩) hblt]
      exact hz b off (by simp [hp'])
    · intro ha
      simpa using hnd ha
    · intro x hx _
      simpa using hx
end Go.Ev
namespace Go.Ev
open Go.RowKit (Below)
open Go.ChangeShapes Go.WideShapes Go.ChangeAt Go.RowKit
section
variable {H : Type} (P : Program) (enc : TypeId × Value → H)
def IsArgs (ts : List TypeId) {τ : Type} (c : τ → List AV) (ok : τ → Prop) : Prop :=
  ∀ (W : World) (args : List Value) (ds : List (DataW H)) (p : List MemPlace), DataW.TrodAll enc P W 0 (fun _ => true) true ts args ds p →
    (∀ (j : Nat) t v, ts[j]? = some t → args[j]? = some v → ∃ base, Value.okWide P W .any base t v) → ∃ x : τ, ok x ∧ VRs Ctx.nil W (c x) args ∧ ds.length = ts.length
variable {P enc}
def plainU : TypeDesc → Bool
  | .struct _ => false
  | .array _ _ => false
  | _ => true
theorem okWide_plain {w : World} {r : Reach} {base : Nat} {t : TypeId} {v : Value} {u : TypeDesc} (hu : P.underlying t = some u) (hp : plainU u = true) (h : Value.okWide P w r base t v) : ∀ cs, v ≠ .agg cs := by
  rintro cs rfl
  unfold Value.okWide at h
  rw [hu] at h
  cases u <;> simp only [plainU, Bool.false_eq_true] at hp <;> simp only [Cell.okWide, Cell.ok, hu] at h
theorem isArgs_nil : IsArgs P enc [] (fun _ : Unit => []) (fun _ => True) := by
  intro W args ds p h _
  obtain ⟨rfl, rfl, rfl⟩ := trodAll_nil h
  exact ⟨(), trivial, by simp [VRs], rfl⟩
theorem isArgs_cell {t : TypeId} {ts : List TypeId} {u : TypeDesc} {α β : Type} {a : α → AV} {ok1 : α → Prop} {c2 : β → List AV} {ok2 : β → Prop} (hu : P.underlying t = some u) (hp : plainU u = true)
    (h1 : IsData P enc t (fun x => [a x]) ok1) (h2 : IsArgs P enc ts c2 ok2) : IsArgs P enc (t :: ts) (fun x : α × β => a x.1 :: c2 x.2) (fun x => ok1 x.1 ∧ ok2 x.2) := by
  intro W args ds p h hval
  obtain ⟨v, vs, d, ds', p, q, rfl, rfl, rfl, ht, hr⟩ := trodAll_cons h
  obtain ⟨y, k1, k2, k3⟩ := h2 W vs ds' q hr fun j t v e1 e2 => hval (j + 1) t v (by simpa using e1) (by simpa using e2)
  obtain ⟨fuel, hf⟩ := ht
  obtain ⟨x, m1, m2⟩ := h1 W fuel _ d p hf
  obtain ⟨base, hv⟩ := hval 0 t v rfl rfl
  have hna := okWide_plain hu hp hv
  have hc : v.cells.toList = [v] := by
    cases v with
    | agg cs => exact absurd rfl (hna cs)
    | _ => rfl
  rw [hc] at m2
  simp only [VRs] at m2
  obtain ⟨v', r, e, m3, rfl⟩ := m2
  cases e
  refine ⟨(x, y), ⟨m1, k1⟩, ?_, by simp [k3]⟩
  simp only [VRs]
  exact ⟨v, vs, rfl, m3, k2⟩
theorem isArgs_struct {t : TypeId} {ts : List TypeId} {fs : Array Field} {α β : Type} {c1 : α → List AV} {ok1 : α → Prop} {c2 : β → List AV} {ok2 : β → Prop} (hu : P.underlying t = some (.struct fs))
    (h1 : IsData P enc t c1 ok1) (h2 : IsArgs P enc ts c2 ok2) : IsArgs P enc (t :: ts) (fun x : α × β => .agg (c1 x.1) :: c2 x.2) (fun x => ok1 x.1 ∧ ok2 x.2) := by
  intro W args ds p h hval
  obtain ⟨v, vs, d, ds', p, q, rfl, rfl, rfl, ht, hr⟩ := trodAll_cons h
  obtain ⟨y, k1, k2, k3⟩ := h2 W vs ds' q hr fun j t v e1 e2 => hval (j + 1) t v (by simpa using e1) (by simpa using e2)
  obtain ⟨fuel, hf⟩ := ht
  obtain ⟨x, m1, m2⟩ := h1 W fuel _ d p hf
  obtain ⟨base, hv⟩ := hval 0 t v rfl rfl
  obtain ⟨cs, rfl, _⟩ := okWide_struct hu hv
  refine ⟨(x, y), ⟨m1, k1⟩, ?_, by simp [k3]⟩
  simp only [VRs]
  refine ⟨_, vs, rfl, ?_, k2⟩
  simp only [VR]
  exact ⟨cs.toList, by simp, by simpa [Value.cells] using m2⟩
end
theorem contract_of {H : Type} {enc : TypeId × Value → H} {P : Program} {T : Tab} (hT : TabOk P T) {f : Nat} {fn : Func} {cf : CFunc} (hc : T.code f = some cf) {s : ChangeSpec} {apart : Bool} {ts : List TypeId} {tb : TypeId} {τ : Type} {c : τ → List AV} {ok : τ → Prop}
    (hpar : fn.params.toList = ts) (hargs : IsArgs P enc ts c ok) (hlaw : ∀ x, ok x → callZ (evL T) f (c x) = some (.v (.bool true)))
    (hvars : s.vars = []) (hspec : ∀ ds : List (DataW H), ds.length = ts.length → s.fn H ds = { results := [.lit (.bool true)], args := ds })
    (hr : fn.resultTypes = #[tb]) (htb : P.underlying tb = some .bool) (hl : laidOutB P = true) (hts : ∀ t ∈ ts, P.readableRec t = true ∧ t < P.types.size)
    (W : World) (base : Nat) (args : Array Value) (ds gs : List (DataW H)) (before : List MemPlace) (hval : ∀ (j : Nat) t v, fn.params[j]? = some t → args[j]? = some v → Value.okWide P W .any base t v)
    (hW : DataW.Whole enc P fn.params.toList s.vars apart W args.toList ds gs before) : Calls P f args W fun e W' => ∃ v, e = .returned v ∧ s.post enc P fn apart true false false W args v W' := by
  have hW' := hW
  obtain ⟨p, q, hA, hV, rfl, hz, hnd⟩ := hW
  rw [hvars] at hV
  obtain ⟨rfl, rfl⟩ := trodVars_none hV
  obtain ⟨x, h1, h2, h3⟩ := hargs W args.toList ds p (hpar ▸ hA) fun j t v e1 e2 => ⟨base, hval j t v (by rw [← hpar] at e1; simpa using e1) (by simpa using e2)⟩
  refine (calls_bool hT hc (hlaw x h1) h2).mono fun e W' ⟨he, hb⟩ => ⟨_, he, ?_⟩
  exact post_of_true hvars (by rw [List.append_nil]; exact hspec ds h3) hr htb hl (by rw [hpar]; exact hts) hW' hb
end Go.Ev
namespace Go.Proofs.Ytdphbgnlmffgaaa.K
open Go.Ev
open Go.ChangeShapes Go.WideShapes Go.ChangeAt Go.RowKit
section
variable {H : Type} {enc : TypeId × Value → H}
theorem wf_u8 {n : Int} (h : (Lit.int .u8 n).wf = true) : 0 ≤ n ∧ n ≤ 255 := by
  simp [Lit.wf] at h
  have h1 : IntKind.u8.min = 0 := rfl
  have h2 : IntKind.u8.max = 255 := rfl
  omega
theorem data_int : IsData Try.prog enc 3 (fun n : Int => [(.v (.int .i64 (n)))]) (fun _ => True) := (isData_int Try.underlying3).map id (fun _ => rfl) (fun _ _ => trivial)
theorem data_u8 : IsData Try.prog enc 5 (fun n : Int => [(.v (.int .u8 n))]) (fun n => 0 ≤ n ∧ n ≤ 255) := (isData_int Try.underlying5).map id (fun _ => rfl) (fun _ h => wf_u8 h)
theorem data_ints : IsData Try.prog enc 23 (fun l : List Int => [(.fsl ((l).map intC) false)]) (fun l => (∀ x ∈ l, True) ∧ l.length ≤ maxLen) := isData_slice (sz := 1) Try.underlying23 (by kernel_rfl) (by decide) (fun _ => rfl) data_int
theorem data_evt : IsData Try.prog enc 31 Evt.r (fun x => x.key.length ≤ maxLen) := by
  have h := isData_struct' (P := Try.prog) (enc := enc) (t := 31) Try.underlying31 (isFields_cons (sz := 1) rfl (by kernel_rfl) data_int (isFields_cons (sz := 1) rfl (by kernel_rfl) data_ints (isFields_cons (sz := 1) rfl (by kernel_rfl) data_int (isFields_cons (sz := 1) rfl (by kernel_rfl) data_int (isFields_cons (sz := 1) rfl (by kernel_rfl) data_int (isFields_cons (sz := 1) rfl (by kernel_rfl) data_int (isFields_nil _))))))) (by kernel_rfl)
  exact h.map (fun x => (⟨x.1, x.2.1, x.2.2.1, x.2.2.2.1, x.2.2.2.2.1, x.2.2.2.2.2.1⟩ : Evt)) (fun _ => rfl) (fun _ h => h.2.1.2)
theorem data_evts : IsData Try.prog enc 22 (fun l : List Evt => [(.fsl ((l).map Evt.r) false)]) (fun l => (∀ x ∈ l, x.key.length ≤ maxLen) ∧ l.length ≤ maxLen) := isData_slice (sz := 6) Try.underlying22 (by kernel_rfl) (by decide) (fun _ => rfl) data_evt
end
theorem own : ownKnob Try.prog.godebug = none := by kernel_rfl
theorem laid : laidOutB Try.prog = true := by kernel_rfl
open Go.Ev
set_option maxRecDepth 10000
theorem cmpE_key {x y : Evt} (h : ¬ x.key = y.key) : ¬ cmpE x y = 0 := fun hc => h ((cmpE_zero x y).1 hc).2
theorem cancel_ins {box : List Evt} {x : Evt} (hs : box.Pairwise leE) (hd : Dist box) (hn : ∀ z ∈ box, ¬ z.key = x.key) : cancelE (sortL (x :: box)) x.key = (box, true) := by
  have hp := sortL_perm (x :: box)
  unfold cancelE
  have h1 : (sortL (x :: box)).any (fun e => decide (e.key = x.key)) = true := List.any_eq_true.2 ⟨x, hp.mem_iff.2 (by simp), by simp⟩
  rw [h1]
  congr 1
  have hpw : (x :: box).Pairwise (fun a b => decide (a.key = x.key) = true → decide (b.key = x.key) = true → False) := by
    refine List.pairwise_cons.2 ⟨fun z hz _ h => hn z hz (of_decide_eq_true h), ?_⟩
    exact hd.imp_of_mem fun {a b} ha hb _ h _ => hn a ha (of_decide_eq_true h)
  have h2 := (List.Perm.eraseP (fun e => decide (e.key = x.key)) hpw hp.symm).symm
  rw [List.eraseP_cons_of_pos (by simp)] at h2
  have h3 := sortL_unique hd h2 ((sortL_sorted _).sublist List.eraseP_sublist)
  rw [h3]
  exact (sortL_self hd hs).symm
theorem dist_ins {box : List Evt} {x : Evt} (hd : Dist box) (hn : ∀ z ∈ box, ¬ z.key = x.key) : Dist (x :: box) :=
  List.pairwise_cons.2 ⟨fun z hz => cmpE_key fun h => hn z hz h.symm, hd⟩
end Go.Proofs.Ytdphbgnlmffgaaa.K
