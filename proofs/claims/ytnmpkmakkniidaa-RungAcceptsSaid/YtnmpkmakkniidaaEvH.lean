/- Part of the proofs about this seat's program (module EvH). -/
import Derived.Test.YtnmpkmakkniidaaEvG
set_option linter.unusedSectionVars false
set_option linter.unusedSimpArgs false
set_option linter.unusedVariables false
namespace Go.Ev
open Go.RowKit (Below)
variable {P : Program} {Γ Γ' : Ctx} {w w' : World} {σ σ' : Store} {e : Env} {a : Act} {av : AV}

theorem run_isAgg' {t : TypeId} (h : (P.underlying t).isSome = true) : (isAgg t).run P w = .ok (aggT P t) w := by
  obtain ⟨d, hd⟩ := Option.isSome_iff_exists.1 h
  unfold isAgg aggT
  simp only [Sem.run_bind, run_underlying hd, Result.andThen_ok, hd]
  cases d <;> rfl
/-- What a pointer's cells hold. -/
theorem cellsAt_ok {x : AV} {y : Value} {cs : List AV} (s : SR P Γ σ w) (hx : VR Γ w x y) (hc : cellsAt σ x = some cs) :
    ∃ b off, y = .pointer (some ⟨b, off, none⟩) ∧ VRcells Γ w cs (fun j => w.cell? ⟨b, off + j, none⟩) := by
  unfold cellsAt at hc
  split at hc
  · cases hc
    simp only [VR] at hx
    obtain ⟨b, off, h1, _, h2⟩ := hx
    exact ⟨b, off, h1, h2⟩
  · rename_i o g i off
    split at hc
    · rename_i sz es g' ho
      split at hc
      · rename_i hg
        subst hg
        obtain ⟨c, hi, hc⟩ := Option.bind_eq_some_iff.1 hc
        cases hc
        simp only [VR] at hx
        obtain ⟨p, rfl, h1, h2, h3⟩ := hx
        have hO := s.obj o _ ho
        simp only [OR] at hO
        obtain ⟨k1, k2, k3, k4, k5, k6⟩ := hO
        rcases k6 with k6 | ⟨arr, et, k7, k8, k9⟩
        · exfalso
          have := (List.getElem?_eq_some_iff.1 hi).1
          omega
        · refine ⟨_, _, by rw [h3 k1], ?_⟩
          have hel := VRcells.elem k5 k9 hi
          by_cases hoff : off ≤ c.length
          · refine (hel.drop off hoff).congr fun j => ?_
            simp only [World.cell?, k7, k2]
            simp
            congr 1; omega
          · rw [List.drop_eq_nil_of_le (by omega)]; simp [VRcells]
      · cases hc
    · cases hc
  · cases hc
theorem loadC_ok {t : TypeId} {b off : Nat} {cs : List AV} {r : AV} {sz : Nat} (hsz : szT P t = some sz) (hu : (P.underlying t).isSome = true) (h1 : aggT P t = true ∨ sz = 1)
    (hcs : VRcells Γ w cs (fun j => w.cell? ⟨b, off + j, none⟩)) (hl : loadC sz (aggT P t) cs = some r) : ∃ v, (loadVar t ⟨b, off, none⟩).run P w = .ok v w ∧ VR Γ w r v := by
  obtain ⟨i, hi, rfl⟩ := szT_ok hsz
  unfold loadC at hl
  split at hl
  · rename_i hag
    split at hl
    · rename_i hle
      cases hl
      obtain ⟨vs, hvs, hget⟩ := (hcs.take i.size).list
      have hlen := hvs.length
      rw [List.length_take, Nat.min_eq_left hle] at hlen
      have hld := run_loadCells_list (P := P) w ⟨b, off, none⟩ vs (fun j v hj => by rw [Addr.add_lit]; exact hget j v hj)
      rw [hlen] at hld
      refine ⟨.agg vs.toArray, ?_, by simp only [VR]; exact ⟨vs, rfl, hvs⟩⟩
      simp [loadVar, run_isAgg' hu, hag, run_sizeOf' hi, hld]
    · cases hl
  · rename_i hag
    cases cs with
    | nil => simp at hl
    | cons c cs =>
      simp at hl; subst hl
      simp only [VRcells] at hcs
      obtain ⟨⟨u, h2, h3⟩, _⟩ := hcs
      refine ⟨u, ?_, h3⟩
      have hag' : aggT P t = false := by simpa using hag
      simp only [Nat.add_zero] at h2
      simp [loadVar, run_isAgg' hu, hag', h2]
theorem ok_ld {t : TypeId} {x : AV} {y : Value} {cs : List AV} {r : AV} {sz : Nat} (s : SR P Γ σ w) (hx : VR Γ w x y) (hc : cellsAt σ x = some cs) (hsz : szT P t = some sz)
    (hu : (P.underlying t).isSome = true) (h1 : aggT P t = true ∨ sz = 1) (hl : loadC sz (aggT P t) cs = some r) :
    OpOk P Γ w (((Instr.loadAt t y).run P w).andThen fun v w => .ok (.value v) w) r σ := by
  obtain ⟨b, off, rfl, hcs⟩ := cellsAt_ok s hx hc
  obtain ⟨v, h2, h3⟩ := loadC_ok hsz hu h1 hcs hl
  exact .here s (by simp [Instr.loadAt, Instr.sureAddr, h2]) h3

theorem splice_get {α : Type} {l : List α} {k : Nat} {vs : List α} (h : k + vs.length ≤ l.length) (j : Nat) : (splice l k vs)[j]? = if j < k then l[j]? else if j < k + vs.length then vs[j - k]? else l[j]? := by
  unfold splice
  have hl : (l.take k).length = k := by simp; omega
  rw [List.getElem?_append, hl]
  split
  · rw [List.getElem?_take, if_pos (by assumption)]
  · rw [List.getElem?_append]
    split
    · rw [if_pos (by omega)]
    · rw [if_neg (by omega), List.getElem?_drop]
      congr 1; omega
theorem VRcells.splice {flat ys : List AV} {vs arr : List Value} {k : Nat} (h : VRcells Γ w flat (fun j => arr[j]?)) (hy : VRs Γ w ys vs) (hk : k + ys.length ≤ flat.length) (ha : k + ys.length ≤ arr.length) :
    VRcells Γ w (Ev.splice flat k ys) (fun j => (Ev.splice arr k vs)[j]?) := by
  obtain ⟨us, h1, h2⟩ := h.list
  have hl := hy.length
  have hl2 := h1.length
  have h3 := h1.splice hy k
  refine VRcells.of_list (vs := Ev.splice us k vs) (by simpa [Ev.splice] using h3) fun j v hj => ?_
  rw [splice_get (by omega)] at hj ⊢
  split
  · rw [if_pos (by assumption)] at hj; exact h2 j v hj
  · rw [if_neg (by assumption)] at hj
    split
    · rw [if_pos (by assumption)] at hj; exact hj
    · rw [if_neg (by assumption)] at hj; exact h2 j v hj
theorem splice_mid {α : Type} (A c B ys : List α) (off : Nat) (h : off + ys.length ≤ c.length) : splice (A ++ (c ++ B)) (A.length + off) ys = A ++ (splice c off ys ++ B) := by
  unfold splice
  have h1 : (A ++ (c ++ B)).take (A.length + off) = A ++ c.take off := by
    rw [List.take_append, List.take_of_length_le (by omega), List.take_append]
    have : A.length + off - A.length - c.length = 0 := by omega
    rw [this]; simp
  have h2 : (A ++ (c ++ B)).drop (A.length + off + ys.length) = c.drop (off + ys.length) ++ B := by
    rw [List.drop_append, List.drop_eq_nil_of_le (by omega), List.drop_append]
    have : A.length + off + ys.length - A.length - c.length = 0 := by omega
    rw [this, show A.length + off + ys.length - A.length = off + ys.length by omega]; simp
  rw [h1, h2]
  simp
theorem flatten_splice {sz : Nat} {es : List (List AV)} (h : ∀ e ∈ es, e.length = sz) {i off : Nat} {c ys : List AV} (hi : es[i]? = some c) (ho : off + ys.length ≤ c.length) :
    (es.set i (splice c off ys)).flatten = splice es.flatten (i * sz + off) ys := by
  have hl : i < es.length := (List.getElem?_eq_some_iff.1 hi).1
  have hlen : (es.flatten.take (i * sz)).length = i * sz := by
    rw [List.length_take, flatten_length h]
    exact Nat.min_eq_left (Nat.mul_le_mul_right _ (Nat.le_of_lt hl))
  rw [flatten_set h hl]
  have := splice_mid (es.flatten.take (i * sz)) c (es.flatten.drop ((i + 1) * sz)) ys off ho
  rw [← flatten_at h hi, hlen] at this
  exact this.symm

theorem setRow_sameB {b : Nat} {arr : Array Value} (x : Nat) : x = b ∨ (w.setRow b arr).heap[x]? = w.heap[x]? := by
  by_cases h : x = b
  · exact .inl h
  · exact .inr (setRow_other w b x arr h)
theorem Ctx.loc_eta (Γ : Ctx) (o : Nat) : Γ.loc o = ⟨(Γ.loc o).g, (Γ.loc o).b, (Γ.loc o).sz, (Γ.loc o).ct⟩ := rfl

/-- A row is written in place. -/
theorem row_write (s : SR P Γ σ w) {o sz g : Nat} {es : List (List AV)} (ho : σ[o]? = some (.row sz es g)) {arr arr' : Array Value} {et : TypeId} (harr : w.heap[(Γ.loc o).b]? = some (.cells arr et (0, 0)))
    (hct : (Γ.loc o).ct ≠ 0) (g' : Nat) (hg' : g' = g ∨ g < g') (es' : List (List AV)) (hlen : es'.length ≤ (Γ.loc o).ct) (hes : ∀ e ∈ es', e.length = sz) (hsize : arr'.size = (Γ.loc o).ct * sz)
    (hv : VRcells Γ w es'.flatten (fun j => arr'[j]?)) :
    SR P (Γ.upd o ⟨g', (Γ.loc o).b, sz, (Γ.loc o).ct⟩) (σ.set o (.row sz es' g')) (w.setRow (Γ.loc o).b arr') ∧ Ext Γ (Γ.upd o ⟨g', (Γ.loc o).b, sz, (Γ.loc o).ct⟩) w (w.setRow (Γ.loc o).b arr') := by
  have hn : o < Γ.n := by rw [← s.len]; exact (List.getElem?_eq_some_iff.1 ho).1
  have hO := s.obj o _ ho
  simp only [OR] at hO
  obtain ⟨k1, k2, k3, k4, k5, k6⟩ := hO
  have hbl := (Array.getElem?_eq_some_iff.1 harr).1
  have hgg : (⟨g', (Γ.loc o).b, sz, (Γ.loc o).ct⟩ : Loc) = Γ.loc o ∨ (Γ.loc o).g < g' := by
    rcases hg' with rfl | hg'
    · left; rw [Γ.loc_eta o, k1, k2]
    · right; rw [k1]; exact hg'
  have hs1 : ∀ b, b < w.heap.size → (b = (Γ.loc o).b ∧ (Γ.loc o).ct ≠ 0) ∨ (w.setRow (Γ.loc o).b arr').heap[b]? = w.heap[b]? := fun b _ => (setRow_sameB b).imp (fun h => ⟨h, hct⟩) id
  have hl : (Γ.loc o).ct ≠ 0 → ((Γ.loc o).b = (Γ.loc o).b ∧ (Γ.loc o).ct ≠ 0 ∨ w.heap.size ≤ (Γ.loc o).b) ∧ (Γ.loc o).b < (w.setRow (Γ.loc o).b arr').heap.size := fun h => ⟨.inl ⟨rfl, h⟩, by simpa using hbl⟩
  have e := Ext.upd (l := ⟨g', (Γ.loc o).b, sz, (Γ.loc o).ct⟩) s hn hgg (by simp) hs1 hl rfl rfl rfl
  refine ⟨SR.upd s hn hgg (by simp) hs1 hl rfl rfl rfl ?_, e⟩
  simp only [OR, Ctx.upd_same]
  exact ⟨trivial, trivial, k3, hlen, hes, .inr ⟨arr', et, setRow_heap w _ _ _ _ _ harr, hsize, VRcells.mono e _ _ _ (fun _ => rfl) hv⟩⟩

theorem ok_st {t : TypeId} {x : AV} {y : Value} {sz o g i off rs : Nat} {p : Value} {es : List (List AV)} {c : List AV} (s : SR P Γ σ w) (hp : VR Γ w (.ptr o g i off) p) (hx : VR Γ w x y)
    (hsz : szT P t = some sz) (ho : σ[o]? = some (.row rs es g)) (hi : es[i]? = some c) (h1 : off + sz ≤ c.length) (h2 : x.cells.length = sz) (h3 : plains x.cells = true) :
    OpOk P Γ w (((Instr.storeAt t p y).run P w).andThen fun _ w => .ok .skip w) (.v (.tuple #[])) (σ.set o (.row rs (es.set i (c.take off ++ (x.cells ++ c.drop (off + sz)))) g)) := by
  obtain ⟨inf, hinf, rfl⟩ := szT_ok hsz
  have hO := s.obj o _ ho
  simp only [OR] at hO
  obtain ⟨k1, k2, k3, k4, k5, k6⟩ := hO
  have hil := (List.getElem?_eq_some_iff.1 hi).1
  have hct : (Γ.loc o).ct ≠ 0 := by omega
  obtain ⟨arr, et, k7, k8, k9⟩ := k6.resolve_left hct
  have hcl := k5 c (mem_of_get? hi)
  simp only [VR] at hp
  obtain ⟨p', rfl, _, _, hp3⟩ := hp
  obtain rfl := hp3 k1
  rw [k2]
  have hcells := cells_ok hx h3
  have hl := hcells.length
  simp only [Array.length_toList] at hl
  have hfl := flatten_length k5
  have hbound : i * rs + off + x.cells.length ≤ es.flatten.length := by
    rw [hfl, h2]
    have : (i + 1) * rs ≤ es.length * rs := Nat.mul_le_mul_right _ hil
    rw [Nat.add_mul] at this; omega
  have hbound2 : es.flatten.length ≤ arr.size := by rw [hfl, k8]; exact Nat.mul_le_mul_right _ k4
  have hst := run_storeCells_at P (Γ.loc o).b (i * rs + off) et y.cells.toList 0 arr w k7 (by simp; omega) (plains_one hcells h3)
  simp only [Nat.add_zero] at hst
  have hs : splice c off x.cells = c.take off ++ (x.cells ++ c.drop (off + inf.size)) := by unfold splice; rw [h2]
  have hw := row_write s ho k7 hct g (.inl rfl) (es.set i (splice c off x.cells)) (by simpa using k4)
    (arr' := (splice arr.toList (i * rs + off) y.cells.toList).toArray)
    (fun e he => by
      rcases List.mem_or_eq_of_mem_set he with he | rfl
      · exact k5 e he
      · rw [splice_length (by omega)]; exact hcl)
    (by simp only [List.size_toArray]; rw [splice_length (by simp; omega)]; simpa using k8)
    (by
      rw [flatten_splice k5 hi (by omega)]
      have := VRcells.splice (k := i * rs + off) (arr := arr.toList) (by simpa using k9) hcells (by omega) (by simp; omega)
      simpa using this)
  rw [hs] at hw
  refine ⟨.skip, undef, _, _, ?_, .inr ⟨rfl, rfl⟩, by simp only [VR]; rfl, hw.1, hw.2⟩
  simp [Instr.storeAt, Instr.sureAddr, storeVar, run_sizeOf' hinf, hl, h2, hst, splice]
end Go.Ev
