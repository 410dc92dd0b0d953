/- Part of the proofs about this seat's program (module EvG). -/
import Derived.Test.YtbkabnhkclbepaaEvF
import Derived.Laws.Tables
import Derived.Great.BuildSlice
set_option linter.unusedSectionVars false
set_option linter.unusedSimpArgs false
set_option linter.unusedVariables false
namespace Go.Ev
open Go.RowKit (Below)
variable {P : Program} {Γ Γ' : Ctx} {w w' : World} {σ σ' : Store} {e : Env} {a : Act} {av : AV}

/-- What one operation comes to. -/
def OpOk (P : Program) (Γ : Ctx) (w : World) (res : Result Next) (av : AV) (σ' : Store) : Prop :=
  ∃ nx v w' Γ', res = .ok nx w' ∧ (nx = .value v ∨ (nx = .skip ∧ v = undef)) ∧ VR Γ' w' av v ∧ SR P Γ' σ' w' ∧ Ext Γ Γ' w w'
theorem OpOk.here {res : Result Next} {v : Value} (s : SR P Γ σ w) (h : res = .ok (.value v) w) (hv : VR Γ w av v) : OpOk P Γ w res av σ :=
  ⟨_, v, w, Γ, h, .inl rfl, hv, s, Ext.refl _ _⟩

theorem alloc_new (w : World) (o : Obj) : (w.alloc o).heap[w.heap.size]? = some o := by
  show (w.heap.push o)[w.heap.size]? = _
  simp
theorem row_push (s : SR P Γ σ w) (hB : Below w.heap.size w w') {b : Nat} {et : TypeId} {arr : Array Value} (hb1 : w.heap.size ≤ b) (hb2 : w'.heap[b]? = some (.cells arr et (0, 0)))
    (sz ct : Nat) (es : List (List AV)) (hsz : 0 < sz) (hlen : es.length ≤ ct) (hes : ∀ e ∈ es, e.length = sz) (harr : arr.size = ct * sz) {vs : List Value} (hvs : VRs Γ w es.flatten vs)
    (hget : ∀ (j : Nat) (v : Value), vs[j]? = some v → arr[j]? = some v) :
    SR P (Γ.push ⟨0, b, sz, ct⟩) (σ ++ [.row sz es 0]) w' ∧ Ext Γ (Γ.push ⟨0, b, sz, ct⟩) w w' := by
  have hbl : b < w'.heap.size := (Array.getElem?_eq_some_iff.1 hb2).1
  have e := Ext.push (Γ := Γ) hB ⟨0, b, sz, ct⟩ fun _ => hb1
  refine ⟨s.push hB _ (fun _ => ⟨hb1, hbl⟩) ?_, e⟩
  simp only [OR, Ctx.push_new]
  exact ⟨trivial, trivial, hsz, hlen, hes, .inr ⟨arr, et, hb2, harr, VRcells.of_list (VRs.mono e _ _ hvs) hget⟩⟩

theorem okB_new (s : SR P Γ σ w) (hB : Below w.heap.size w w') {b : Nat} (h1 : w.heap.size ≤ b) (h2 : b < w'.heap.size) : Γ.okB w' b :=
  ⟨h2, fun h => by have := s.ownlt b h; omega, fun h => by have := s.farlt b h; omega⟩

theorem VR.uc {x : AV} {y : Value} (h : VR Γ w x y) : VR Γ w x.uc y := by
  cases x with
  | fsl es c =>
    simp only [VR, AV.uc] at h ⊢
    obtain ⟨A, c, rfl, h1, _, h3⟩ := h
    exact ⟨A, c, rfl, h1, fun h => (by cases h), h3⟩
  | sl o g off len c =>
    simp only [VR, AV.uc] at h ⊢
    obtain ⟨A, c, rfl, h1, _, h3⟩ := h
    exact ⟨A, c, rfl, h1, fun h => (by cases h), h3⟩
  | _ => exact h
theorem cells_ok {x : AV} {y : Value} (h : VR Γ w x y) (hp : plains x.cells = true) : VRs Γ w x.cells y.cells.toList := by
  cases x with
  | agg cs =>
    simp only [VR] at h
    obtain ⟨vs, rfl, h2⟩ := h
    simpa [AV.cells, Value.cells] using h2
  | tup cs => simp [AV.cells, AV.uc, plains, AV.plain] at hp
  | v x =>
    have h' := h
    simp only [VR] at h
    subst h
    simp only [AV.cells, AV.uc, plains, AV.plain] at hp
    have : y.cells = #[y] := by cases y <;> simp_all [Value.cells]
    rw [this]
    simp only [AV.cells, AV.uc, VRs]
    exact ⟨y, [], by simp, h', rfl⟩
  | _ =>
    have hc : y.cells = #[y] := by
      have h := h
      simp only [VR] at h
      cases y <;> first | rfl | (exfalso; simp at h)
    rw [hc]
    simp only [AV.cells, VRs]
    exact ⟨y, [], by simp, h.uc, rfl⟩
theorem plain_one {x : AV} {y : Value} (h : VR Γ w x y) (hp : x.plain = true) : y.oneCell' = true := by
  cases x with
  | v x =>
    simp only [VR] at h
    subst h
    cases y <;> first | rfl | (simp [AV.plain] at hp)
  | agg cs => simp [AV.plain] at hp
  | tup cs => simp [AV.plain] at hp
  | _ =>
    simp only [VR] at h
    cases y <;> first | rfl | (exfalso; simp at h)
theorem plains_one : ∀ {xs : List AV} {ys : List Value}, VRs Γ w xs ys → plains xs = true → ∀ y ∈ ys, y.oneCell' = true
  | [], ys, h, _, y, hy => by simp only [VRs] at h; subst h; cases hy
  | x :: xs, ys, h, hp, y, hy => by
    simp only [VRs] at h
    obtain ⟨u, us, rfl, h1, h2⟩ := h
    simp only [plains, Bool.and_eq_true] at hp
    rcases List.mem_cons.1 hy with rfl | hy
    · exact plain_one h1 hp.1
    · exact plains_one h2 hp.2 y hy

theorem zT_ok {t : TypeId} {z : List AV} (h : zT P t = some z) : ∃ i zv, P.info? t = some i ∧ i.zero = some zv ∧ zv.cells.size = i.size ∧ z = zv.cells.toList.map ofLeaf := by
  unfold zT at h
  obtain ⟨i, hi, h⟩ := Option.bind_eq_some_iff.1 h
  obtain ⟨zv, hz, h⟩ := Option.bind_eq_some_iff.1 h
  split at h
  · cases h; exact ⟨i, zv, hi, hz, ‹_›, rfl⟩
  · cases h
theorem szT_ok {t : TypeId} {s : Nat} (h : szT P t = some s) : ∃ i, P.info? t = some i ∧ i.size = s := by
  unfold szT at h
  obtain ⟨i, hi, h⟩ := Option.map_eq_some_iff.1 h
  exact ⟨i, hi, h⟩
theorem byT_ok {t : TypeId} {s : Nat} (h : byT P t = some s) : ∃ i, P.info? t = some i ∧ i.bytes = s := by
  unfold byT at h
  obtain ⟨i, hi, h⟩ := Option.map_eq_some_iff.1 h
  exact ⟨i, hi, h⟩
theorem elemT_ok {t e : TypeId} (h : elemT P t = some e) : P.underlying t = some (.slice e) := by
  unfold elemT at h
  split at h
  · cases h; assumption
  · cases h
theorem run_sizeOf' {t : TypeId} {i : TypeInfo} (h : P.info? t = some i) : (sizeOf t).run P w = .ok i.size w := by simp [sizeOf, typeInfo, h]
theorem run_zero' {t : TypeId} {i : TypeInfo} {z : Value} (h : P.info? t = some i) (hz : i.zero = some z) : (zeroValue t).run P w = .ok z w := by simp [zeroValue, typeInfo, h, hz]

/-- What is asked of zero cells. -/
def ZV (P : Program) (t : TypeId) (z : List AV) : Prop := ∃ i zv, P.info? t = some i ∧ i.zero = some zv ∧ zv.cells.size = i.size ∧ z.length = zv.cells.size ∧ ∀ (Γ : Ctx) (w : World), VRs Γ w z zv.cells.toList
theorem zT_zv {t : TypeId} {z : List AV} (h : zT P t = some z) : ZV P t z := by
  obtain ⟨i, zv, h1, h2, h3, rfl⟩ := zT_ok h
  exact ⟨i, zv, h1, h2, h3, by simp, fun Γ w => VRs.ofLeaf _⟩
theorem zTopT_ok {t : TypeId} {z : List AV} (h : zTopT P t = some z) : ∃ i zv, P.info? t = some i ∧ i.zero = some zv ∧ zv.cells.size = i.size ∧ z = zv.cells.toList.map ofTop := by
  unfold zTopT at h
  simp only [Option.bind_eq_some_iff] at h
  obtain ⟨z', h1, i, h2, zv, h3, h⟩ := h
  cases h
  obtain ⟨i', zv', q1, q2, q3, _⟩ := zT_ok h1
  rw [h2] at q1; cases q1
  rw [h3] at q2; cases q2
  exact ⟨i, zv, h2, h3, q3, rfl⟩
theorem zH_zv {b : Bool} {t : TypeId} {z : List AV} (h : zH P b t = some z) : ZV P t z := by
  unfold zH at h
  split at h
  · obtain ⟨i, zv, h1, h2, h3, rfl⟩ := zTopT_ok h
    exact ⟨i, zv, h1, h2, h3, by simp, fun Γ w => VRs.ofTop _⟩
  · exact zT_zv h
theorem ok_alloc {t : TypeId} {z : List AV} (s : SR P Γ σ w) (hz : ZV P t z) (hne : z ≠ []) :
    OpOk P Γ w (((Instr.alloc t true (.tuple #[])).run P w).andThen fun v w => .ok (.value v) w) (.ptr σ.length 0 0 0) (σ ++ [.row z.length [z] 0]) := by
  obtain ⟨i, zv, hi, hzv, hsz, hzl, hvr⟩ := hz
  have hlen : 0 < zv.cells.size := by
    rcases Nat.eq_zero_or_pos zv.cells.size with h | h
    · exact absurd (List.eq_nil_of_length_eq_zero (hzl.trans h)) hne
    · exact h
  have hrun : (Instr.alloc t true (.tuple #[])).run P w = .ok (.pointer (some ⟨w.heap.size, 0, none⟩)) (w.alloc (.cells zv.cells t)) := by
    simp [Instr.alloc, run_zero' hi hzv, newVar, newRow]
  obtain ⟨h1, h2⟩ := row_push (P := P) s (below_alloc w (.cells zv.cells t)) (Nat.le_refl _) (b := w.heap.size) (et := t) (arr := zv.cells) (alloc_new _ _) zv.cells.size 1 [z] hlen (by simp) (by simpa using hzl) (by simp)
    (vs := zv.cells.toList) (by simpa using hvr _ _) (by simp)
  refine ⟨_, _, _, _, by rw [hrun]; rfl, .inl rfl, ?_, by rw [hzl]; exact h1, h2⟩
  simp only [VR, s.len, Ctx.push_new]
  exact ⟨_, rfl, by simp [Ctx.push], Nat.le_refl _, fun _ => by simp⟩

theorem ok_box {t : TypeId} {x : AV} {y : Value} (s : SR P Γ σ w) (hx : VR Γ w x y) (hne : x.cells ≠ []) (hp : plains x.cells = true) :
    OpOk P Γ w (((Instr.box t y).run P w).andThen fun v w => .ok (.value v) w) (.ptr σ.length 0 0 0) (σ ++ [.row x.cells.length [x.cells] 0]) := by
  have hc := cells_ok hx hp
  have hrun : (Instr.box t y).run P w = .ok (.pointer (some ⟨w.heap.size, 0, none⟩)) (w.alloc (.cells y.cells t)) := by
    simp [Instr.box, newVar, newRow]
  have hl := hc.length
  obtain ⟨h1, h2⟩ := row_push (P := P) s (below_alloc w (.cells y.cells t)) (Nat.le_refl _) (b := w.heap.size) (et := t) (arr := y.cells) (alloc_new _ _) x.cells.length 1 [x.cells] (List.length_pos_iff.2 hne) (by simp) (by simp) (by simpa using hl)
    (vs := y.cells.toList) (by simpa using hc) (by simp)
  refine ⟨_, _, _, _, by rw [hrun]; rfl, .inl rfl, ?_, h1, h2⟩
  simp only [VR, s.len, Ctx.push_new]
  exact ⟨_, rfl, by simp [Ctx.push], Nat.le_refl _, fun _ => by simp⟩

theorem ok_boxF {t : TypeId} {x : AV} {y : Value} (s : SR P Γ σ w) (hx : VR Γ w x y) (hp : plains x.cells = true) :
    OpOk P Γ w (((Instr.box t y).run P w).andThen fun v w => .ok (.value v) w) (.fptr x.cells) σ := by
  have hc := cells_ok hx hp
  have hB := below_alloc w (.cells y.cells t)
  have hrun : (Instr.box t y).run P w = .ok (.pointer (some ⟨w.heap.size, 0, none⟩)) (w.alloc (.cells y.cells t)) := by
    simp [Instr.box, newVar, newRow]
  refine ⟨_, _, _, Γ, by rw [hrun]; rfl, .inl rfl, ?_, s.of_below hB, .of_below Γ hB⟩
  simp only [VR]
  refine ⟨w.heap.size, 0, rfl, okB_new s hB (Nat.le_refl _) (by simp), VRcells.of_list (VRs.mono (.of_below Γ hB) _ _ hc) fun j v hj => ?_⟩
  simpa using hj

/-! ### Filling -/
def splice {α : Type} (cs : List α) (off : Nat) (vs : List α) : List α := cs.take off ++ (vs ++ cs.drop (off + vs.length))
theorem splice_step {α : Type} (cs : List α) (off : Nat) (v : α) (vs : List α) (h : off < cs.length) : splice (cs.set off v) (off + 1) vs = splice cs off (v :: vs) := by
  unfold splice
  have hl : (cs.take off).length = off := by simp; omega
  have e : cs.set off v = cs.take off ++ v :: cs.drop (off + 1) := by rw [List.set_eq_take_append_cons_drop, if_pos h]
  have h1 : (cs.set off v).take (off + 1) = cs.take off ++ [v] := by
    rw [e, List.take_append, hl, List.take_of_length_le (by omega), show off + 1 - off = 1 by omega]; simp
  have h2 : (cs.set off v).drop (off + 1 + vs.length) = cs.drop (off + (vs.length + 1)) := by
    rw [e, List.drop_append, hl, List.drop_eq_nil_of_le (by omega), show off + 1 + vs.length - off = vs.length + 1 by omega]
    simp only [List.drop_succ_cons, List.drop_drop, List.nil_append]
    congr 1; omega
  rw [h1, h2]
  simp
theorem fold_splice (off : Nat) : ∀ (vs : List Value) (k : Nat) (cs : Array Value), off + k + vs.length ≤ cs.size →
    ((vs.zipIdx k).foldl (fun cs (c, j) => cs.setIfInBounds (off + j) c) cs).toList = splice cs.toList (off + k) vs
  | [], k, cs, _ => by simp [splice]
  | v :: vs, k, cs, h => by
    simp only [List.length_cons] at h
    simp only [List.zipIdx_cons, List.foldl_cons]
    rw [fold_splice off vs (k + 1) (cs.setIfInBounds (off + k) v) (by simp; omega)]
    rw [Array.toList_setIfInBounds, ← Nat.add_assoc, splice_step _ _ _ _ (by simp; omega)]
theorem VRs.splice {cs xs : List AV} {vs us : List Value} (h : VRs Γ w cs vs) (k : VRs Γ w xs us) (off : Nat) : VRs Γ w (cs.take off ++ (xs ++ cs.drop (off + xs.length))) (Ev.splice vs off us) := by
  unfold Ev.splice
  rw [k.length]
  exact (h.take off).append (k.append (h.drop _))
theorem splice_length {α : Type} {cs : List α} {off : Nat} {vs : List α} (h : off + vs.length ≤ cs.length) : (splice cs off vs).length = cs.length := by
  simp [splice]; omega

theorem fill_ok (place : Nat → Option (Nat × Nat)) (f : Nat × Operand → Option (Nat × Nat × Opnd))
    (hf : ∀ i x p, f (i, x) = some p → ∃ q y, place i = some q ∧ cOpnd x = some y ∧ p = (q.1, q.2, y)) (hv : VE Γ w e a) :
    ∀ (parts : List (Nat × Operand)) (ps : List (Nat × Nat × Opnd)) (cs cs' : List AV) (vs : Array Value), omap f parts = some ps → fillP e cs ps = some cs' → VRs Γ w cs vs.toList →
      ∃ arr, Instr.fill place vs (parts.map fun (i, x) => (i, a.eval x)) = some arr ∧ VRs Γ w cs' arr.toList
  | [], ps, cs, cs', vs, h1, h2, h3 => by
    simp only [omap] at h1; cases h1
    simp only [fillP] at h2; cases h2
    exact ⟨vs, by simp [Instr.fill], h3⟩
  | (i, x) :: parts, ps, cs, cs', vs, h1, h2, h3 => by
    simp only [omap] at h1
    obtain ⟨p, hp, h1⟩ := Option.bind_eq_some_iff.1 h1
    obtain ⟨ps', hps, h1⟩ := Option.bind_eq_some_iff.1 h1
    cases h1
    obtain ⟨⟨off, size⟩, y, hpl, hy, rfl⟩ := hf i x p hp
    simp only [fillP] at h2
    obtain ⟨b, hb, h2⟩ := Option.bind_eq_some_iff.1 h2
    split at h2
    · rename_i hc
      have hcells : VRs Γ w b.cells (a.eval x).cells.toList := cells_ok (opnd_ok hy hb hv) hc.2.2
      have hl := hcells.length
      have hl2 := h3.length
      simp only [Array.length_toList] at hl hl2
      simp only [List.map_cons, Instr.fill, hpl]
      have hnot : ¬ ((a.eval x).cells.size ≠ size || decide (off + (a.eval x).cells.size > vs.size)) = true := by
        rw [hl, hl2]; simp; omega
      rw [if_neg hnot]
      have hz := fold_splice off (a.eval x).cells.toList 0 vs (by simp; omega)
      refine fill_ok place f hf hv parts ps' _ cs' _ hps h2 ?_
      rw [show (a.eval x).cells.zipIdx.foldl (fun cs (c, j) => cs.setIfInBounds (off + j) c) vs = ((a.eval x).cells.toList.zipIdx 0).foldl (fun cs (c, j) => cs.setIfInBounds (off + j) c) vs by
        rw [← Array.foldl_toList, Array.toList_zipIdx], hz]
      have := h3.splice hcells off
      rw [hc.1] at this
      simpa using this
    · cases h2
end Go.Ev
