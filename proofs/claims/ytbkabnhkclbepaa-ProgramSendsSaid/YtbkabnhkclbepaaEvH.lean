/- Part of the proofs about this seat's program (module EvH). -/
import Derived.Test.YtbkabnhkclbepaaEvG
import Derived.MapKept
set_option linter.unusedSectionVars false
set_option linter.unusedSimpArgs false
set_option linter.unusedVariables false
namespace Go.Ev
open Go.RowKit (Below)
variable {P : Program} {Γ Γ' : Ctx} {w w' : World} {σ σ' : Store} {e : Env} {a : Act} {av : AV}

theorem run_isAgg' {t : TypeId} (h : (P.underlying t).isSome = true) : (isAgg t).run P w = .ok (aggT P t) w := by
  obtain ⟨d, hd⟩ := Option.isSome_iff_exists.1 h
  unfold isAgg aggT
  simp only [Sem.run_bind, run_underlying hd, Result.andThen_ok, hd]
  cases d <;> rfl
/-- What a pointer's cells hold. -/
theorem cellsAt_ok {x : AV} {y : Value} {cs : List AV} (s : SR P Γ σ w) (hx : VR Γ w x y) (hc : cellsAt σ x = some cs) :
    ∃ b off, y = .pointer (some ⟨b, off, none⟩) ∧ VRcells Γ w cs (fun j => w.cell? ⟨b, off + j, none⟩) := by
  unfold cellsAt at hc
  split at hc
  · cases hc
    simp only [VR] at hx
    obtain ⟨b, off, h1, _, h2⟩ := hx
    exact ⟨b, off, h1, h2⟩
  · rename_i o g i off
    split at hc
    · rename_i sz es g' ho
      split at hc
      · rename_i hg
        subst hg
        obtain ⟨c, hi, hc⟩ := Option.bind_eq_some_iff.1 hc
        cases hc
        simp only [VR] at hx
        obtain ⟨p, rfl, h1, h2, h3⟩ := hx
        have hO := s.obj o _ ho
        simp only [OR] at hO
        obtain ⟨k1, k2, k3, k4, k5, k6⟩ := hO
        rcases k6 with k6 | ⟨arr, et, k7, k8, k9⟩
        · exfalso
          have := (List.getElem?_eq_some_iff.1 hi).1
          omega
        · refine ⟨_, _, by rw [h3 k1], ?_⟩
          have hel := VRcells.elem k5 k9 hi
          by_cases hoff : off ≤ c.length
          · refine (hel.drop off hoff).congr fun j => ?_
            simp only [World.cell?, k7, k2]
            simp
            congr 1; omega
          · rw [List.drop_eq_nil_of_le (by omega)]; simp [VRcells]
      · cases hc
    · cases hc
  · cases hc
theorem loadC_ok {t : TypeId} {b off : Nat} {cs : List AV} {r : AV} {sz : Nat} (hsz : szT P t = some sz) (hu : (P.underlying t).isSome = true) (h1 : aggT P t = true ∨ sz = 1)
    (hcs : VRcells Γ w cs (fun j => w.cell? ⟨b, off + j, none⟩)) (hl : loadC sz (aggT P t) cs = some r) : ∃ v, (loadVar t ⟨b, off, none⟩).run P w = .ok v w ∧ VR Γ w r v := by
  obtain ⟨i, hi, rfl⟩ := szT_ok hsz
  unfold loadC at hl
  split at hl
  · rename_i hag
    split at hl
    · rename_i hle
      cases hl
      obtain ⟨vs, hvs, hget⟩ := (hcs.take i.size).list
      have hlen := hvs.length
      rw [List.length_take, Nat.min_eq_left hle] at hlen
      have hld := run_loadCells_list (P := P) w ⟨b, off, none⟩ vs (fun j v hj => by rw [Addr.add_lit]; exact hget j v hj)
      rw [hlen] at hld
      refine ⟨.agg vs.toArray, ?_, by simp only [VR]; exact ⟨vs, rfl, hvs⟩⟩
      simp [loadVar, run_isAgg' hu, hag, run_sizeOf' hi, hld]
    · cases hl
  · rename_i hag
    cases cs with
    | nil => simp at hl
    | cons c cs =>
      simp at hl; subst hl
      simp only [VRcells] at hcs
      obtain ⟨⟨u, h2, h3⟩, _⟩ := hcs
      refine ⟨u, ?_, h3⟩
      have hag' : aggT P t = false := by simpa using hag
      simp only [Nat.add_zero] at h2
      simp [loadVar, run_isAgg' hu, hag', h2]
theorem ok_ld {t : TypeId} {x : AV} {y : Value} {cs : List AV} {r : AV} {sz : Nat} (s : SR P Γ σ w) (hx : VR Γ w x y) (hc : cellsAt σ x = some cs) (hsz : szT P t = some sz)
    (hu : (P.underlying t).isSome = true) (h1 : aggT P t = true ∨ sz = 1) (hl : loadC sz (aggT P t) cs = some r) :
    OpOk P Γ w (((Instr.loadAt t y).run P w).andThen fun v w => .ok (.value v) w) r σ := by
  obtain ⟨b, off, rfl, hcs⟩ := cellsAt_ok s hx hc
  obtain ⟨v, h2, h3⟩ := loadC_ok hsz hu h1 hcs hl
  exact .here s (by simp [Instr.loadAt, Instr.sureAddr, h2]) h3

theorem splice_get {α : Type} {l : List α} {k : Nat} {vs : List α} (h : k + vs.length ≤ l.length) (j : Nat) : (splice l k vs)[j]? = if j < k then l[j]? else if j < k + vs.length then vs[j - k]? else l[j]? := by
  unfold splice
  have hl : (l.take k).length = k := by simp; omega
  rw [List.getElem?_append, hl]
  split
  · rw [List.getElem?_take, if_pos (by assumption)]
  · rw [List.getElem?_append]
    split
    · rw [if_pos (by omega)]
    · rw [if_neg (by omega), List.getElem?_drop]
      congr 1; omega
theorem VRcells.splice {flat ys : List AV} {vs arr : List Value} {k : Nat} (h : VRcells Γ w flat (fun j => arr[j]?)) (hy : VRs Γ w ys vs) (hk : k + ys.length ≤ flat.length) (ha : k + ys.length ≤ arr.length) :
    VRcells Γ w (Ev.splice flat k ys) (fun j => (Ev.splice arr k vs)[j]?) := by
  obtain ⟨us, h1, h2⟩ := h.list
  have hl := hy.length
  have hl2 := h1.length
  have h3 := h1.splice hy k
  refine VRcells.of_list (vs := Ev.splice us k vs) (by simpa [Ev.splice] using h3) fun j v hj => ?_
  rw [splice_get (by omega)] at hj ⊢
  split
  · rw [if_pos (by assumption)] at hj; exact h2 j v hj
  · rw [if_neg (by assumption)] at hj
    split
    · rw [if_pos (by assumption)] at hj; exact hj
    · rw [if_neg (by assumption)] at hj; exact h2 j v hj
theorem splice_mid {α : Type} (A c B ys : List α) (off : Nat) (h : off + ys.length ≤ c.length) : splice (A ++ (c ++ B)) (A.length + off) ys = A ++ (splice c off ys ++ B) := by
  unfold splice
  have h1 : (A ++ (c ++ B)).take (A.length + off) = A ++ c.take off := by
    rw [List.take_append, List.take_of_length_le (by omega), List.take_append]
    have : A.length + off - A.length - c.length = 0 := by omega
    rw [this]; simp
  have h2 : (A ++ (c ++ B)).drop (A.length + off + ys.length) = c.drop (off + ys.length) ++ B := by
    rw [List.drop_append, List.drop_eq_nil_of_le (by omega), List.drop_append]
    have : A.length + off + ys.length - A.length - c.length = 0 := by omega
    rw [this, show A.length + off + ys.length - A.length = off + ys.length by omega]; simp
  rw [h1, h2]
  simp
theorem flatten_splice {sz : Nat} {es : List (List AV)} (h : ∀ e ∈ es, e.length = sz) {i off : Nat} {c ys : List AV} (hi : es[i]? = some c) (ho : off + ys.length ≤ c.length) :
    (es.set i (splice c off ys)).flatten = splice es.flatten (i * sz + off) ys := by
  have hl : i < es.length := (List.getElem?_eq_some_iff.1 hi).1
  have hlen : (es.flatten.take (i * sz)).length = i * sz := by
    rw [List.length_take, flatten_length h]
    exact Nat.min_eq_left (Nat.mul_le_mul_right _ (Nat.le_of_lt hl))
  rw [flatten_set h hl]
  have := splice_mid (es.flatten.take (i * sz)) c (es.flatten.drop ((i + 1) * sz)) ys off ho
  rw [← flatten_at h hi, hlen] at this
  exact this.symm

theorem setRow_sameB {b : Nat} {arr : Array Value} (x : Nat) : x = b ∨ (w.setRow b arr).heap[x]? = w.heap[x]? := by
  by_cases h : x = b
  · exact .inl h
  · exact .inr (setRow_other w b x arr h)
theorem Ctx.loc_eta (Γ : Ctx) (o : Nat) : Γ.loc o = ⟨(Γ.loc o).g, (Γ.loc o).b, (Γ.loc o).sz, (Γ.loc o).ct⟩ := rfl

/-- A row is written in place. -/
theorem row_write (s : SR P Γ σ w) {o sz g : Nat} {es : List (List AV)} (ho : σ[o]? = some (.row sz es g)) {arr arr' : Array Value} {et : TypeId} (harr : w.heap[(Γ.loc o).b]? = some (.cells arr et (0, 0)))
    (hct : (Γ.loc o).ct ≠ 0) (g' : Nat) (hg' : g' = g ∨ g < g') (es' : List (List AV)) (hlen : es'.length ≤ (Γ.loc o).ct) (hes : ∀ e ∈ es', e.length = sz) (hsize : arr'.size = (Γ.loc o).ct * sz)
    (hv : VRcells Γ w es'.flatten (fun j => arr'[j]?)) :
    SR P (Γ.upd o ⟨g', (Γ.loc o).b, sz, (Γ.loc o).ct⟩) (σ.set o (.row sz es' g')) (w.setRow (Γ.loc o).b arr') ∧ Ext Γ (Γ.upd o ⟨g', (Γ.loc o).b, sz, (Γ.loc o).ct⟩) w (w.setRow (Γ.loc o).b arr') := by
  have hn : o < Γ.n := by rw [← s.len]; exact (List.getElem?_eq_some_iff.1 ho).1
  have hO := s.obj o _ ho
  simp only [OR] at hO
  obtain ⟨k1, k2, k3, k4, k5, k6⟩ := hO
  have hbl := (Array.getElem?_eq_some_iff.1 harr).1
  have hgg : (⟨g', (Γ.loc o).b, sz, (Γ.loc o).ct⟩ : Loc) = Γ.loc o ∨ (Γ.loc o).g < g' := by
    rcases hg' with rfl | hg'
    · left; rw [Γ.loc_eta o, k1, k2]
    · right; rw [k1]; exact hg'
  have hs1 : ∀ b, b < w.heap.size → (b = (Γ.loc o).b ∧ (Γ.loc o).ct ≠ 0) ∨ (w.setRow (Γ.loc o).b arr').heap[b]? = w.heap[b]? := fun b _ => (setRow_sameB b).imp (fun h => ⟨h, hct⟩) id
  have hl : (Γ.loc o).ct ≠ 0 → ((Γ.loc o).b = (Γ.loc o).b ∧ (Γ.loc o).ct ≠ 0 ∨ w.heap.size ≤ (Γ.loc o).b) ∧ (Γ.loc o).b < (w.setRow (Γ.loc o).b arr').heap.size := fun h => ⟨.inl ⟨rfl, h⟩, by simpa using hbl⟩
  have e := Ext.upd (l := ⟨g', (Γ.loc o).b, sz, (Γ.loc o).ct⟩) s hn hgg (by simp) hs1 hl rfl rfl rfl
  refine ⟨SR.upd s hn hgg (by simp) hs1 hl rfl rfl rfl ?_, e⟩
  simp only [OR, Ctx.upd_same]
  exact ⟨trivial, trivial, k3, hlen, hes, .inr ⟨arr', et, setRow_heap w _ _ _ _ _ harr, hsize, VRcells.mono e _ _ _ (fun _ => rfl) hv⟩⟩

theorem ok_st {t : TypeId} {x : AV} {y : Value} {sz o g i off rs : Nat} {p : Value} {es : List (List AV)} {c : List AV} (s : SR P Γ σ w) (hp : VR Γ w (.ptr o g i off) p) (hx : VR Γ w x y)
    (hsz : szT P t = some sz) (ho : σ[o]? = some (.row rs es g)) (hi : es[i]? = some c) (h1 : off + sz ≤ c.length) (h2 : x.cells.length = sz) (h3 : plains x.cells = true) :
    OpOk P Γ w (((Instr.storeAt t p y).run P w).andThen fun _ w => .ok .skip w) (.v (.tuple #[])) (σ.set o (.row rs (es.set i (c.take off ++ (x.cells ++ c.drop (off + sz)))) g)) := by
  obtain ⟨inf, hinf, rfl⟩ := szT_ok hsz
  have hO := s.obj o _ ho
  simp only [OR] at hO
  obtain ⟨k1, k2, k3, k4, k5, k6⟩ := hO
  have hil := (List.getElem?_eq_some_iff.1 hi).1
  have hct : (Γ.loc o).ct ≠ 0 := by omega
  obtain ⟨arr, et, k7, k8, k9⟩ := k6.resolve_left hct
  have hcl := k5 c (mem_of_get? hi)
  simp only [VR] at hp
  obtain ⟨p', rfl, _, _, hp3⟩ := hp
  obtain rfl := hp3 k1
  rw [k2]
  have hcells := cells_ok hx h3
  have hl := hcells.length
  simp only [Array.length_toList] at hl
  have hfl := flatten_length k5
  have hbound : i * rs + off + x.cells.length ≤ es.flatten.length := by
    rw [hfl, h2]
    have : (i + 1) * rs ≤ es.length * rs := Nat.mul_le_mul_right _ hil
    rw [Nat.add_mul] at this; omega
  have hbound2 : es.flatten.length ≤ arr.size := by rw [hfl, k8]; exact Nat.mul_le_mul_right _ k4
  have hst := run_storeCells_at P (Γ.loc o).b (i * rs + off) et y.cells.toList 0 arr w k7 (by simp; omega) (plains_one hcells h3)
  simp only [Nat.add_zero] at hst
  have hs : splice c off x.cells = c.take off ++ (x.cells ++ c.drop (off + inf.size)) := by unfold splice; rw [h2]
  have hw := row_write s ho k7 hct g (.inl rfl) (es.set i (splice c off x.cells)) (by simpa using k4)
    (arr' := (splice arr.toList (i * rs + off) y.cells.toList).toArray)
    (fun e he => by
      rcases List.mem_or_eq_of_mem_set he with he | rfl
      · exact k5 e he
      · rw [splice_length (by omega)]; exact hcl)
    (by simp only [List.size_toArray]; rw [splice_length (by simp; omega)]; simpa using k8)
    (by
      rw [flatten_splice k5 hi (by omega)]
      have := VRcells.splice (k := i * rs + off) (arr := arr.toList) (by simpa using k9) hcells (by omega) (by simp; omega)
      simpa using this)
  rw [hs] at hw
  refine ⟨.skip, undef, _, _, ?_, .inr ⟨rfl, rfl⟩, by simp only [VR]; rfl, hw.1, hw.2⟩
  simp [Instr.storeAt, Instr.sureAddr, storeVar, run_sizeOf' hinf, hl, h2, hst, splice]

/-! ### Maps -/
theorem mapT_ok {t : TypeId} {k : IntKind} {z : AV} (h : mapT P t = some (k, z)) : ∃ kt et i zv, P.underlying t = some (.map kt et) ∧ P.underlying kt = some (.int k) ∧ P.info? et = some i ∧ i.zero = some zv ∧ z = ofLeaf zv := by
  unfold mapT at h
  split at h
  · rename_i kt et ht
    split at h
    · rename_i k' hk
      simp only [Option.bind_eq_some_iff] at h
      obtain ⟨i, h1, zv, h2, h⟩ := h
      cases h
      exact ⟨kt, et, i, zv, ht, hk, h1, h2, rfl⟩
    · cases h
  · cases h
theorem MapR.key {k : IntKind} : ∀ {ps : List (Int × AV)} {ens : List MapEntry}, MapR Γ w k ps ens → ∀ x ∈ ens, MapKept.IsKey (.int k) x.key
  | [], [], _, x, hx => by cases hx
  | p :: ps, en :: ens, ⟨⟨_, h2, _⟩, h4⟩, x, hx => by
    rcases List.mem_cons.1 hx with rfl | hx
    · rw [h2]; exact rfl
    · exact MapR.key h4 x hx
  | [], _ :: _, h, _, _ => h.elim
  | _ :: _, [], h, _, _ => h.elim
theorem MapR.find {k : IntKind} (n : Int) : ∀ {ps : List (Int × AV)} {ens : List MapEntry} (i : Nat), MapR Γ w k ps ens →
    (getL n ps = none ∧ Instr.findNow (.int k) (.int k n) ens i = some none ∧ ∀ (y : AV) (en : MapEntry), y.lo 0 = true → en.key = .int k n → VR Γ w y en.val → MapR Γ w k (putL n y ps) (ens ++ [en])) ∨
    (∃ j en v, getL n ps = some v ∧ Instr.findNow (.int k) (.int k n) ens i = some (some (i + j, en.val)) ∧ ens[j]? = some en ∧ en.key = .int k n ∧ VR Γ w v en.val ∧
      ∀ (y : AV) (en' : MapEntry), y.lo 0 = true → en'.key = .int k n → VR Γ w y en'.val → MapR Γ w k (putL n y ps) (ens.set j en'))
  | [], [], i, _ => .inl ⟨rfl, rfl, fun y en h1 h2 h3 => by simp only [putL, List.nil_append, MapR]; exact ⟨⟨h1, h2, h3⟩, trivial⟩⟩
  | [], _ :: _, _, h => h.elim
  | _ :: _, [], _, h => h.elim
  | p :: ps, en :: ens, i, ⟨⟨h1, h2, h3⟩, h4⟩ => by
    obtain ⟨r, hr, hiff⟩ := MapKept.sameNow_of_keys (d := .int k) (a := .int k n) (b := en.key) rfl (by rw [h2]; exact rfl)
    by_cases hp : p.1 = n
    · have hrt : r = true := hiff.2 (by rw [h2, hp])
      subst hrt
      refine .inr ⟨0, en, p.2, by simp [getL, hp], by simp [Instr.findNow, hr], rfl, by rw [h2, hp], h3, fun y en' q1 q2 q3 => ?_⟩
      simp only [putL, hp, if_true, List.set_cons_zero, MapR]
      exact ⟨⟨q1, q2, q3⟩, h4⟩
    · have hrf : r = false := by
        cases r with
        | false => rfl
        | true =>
          have := hiff.1 rfl
          rw [h2] at this
          injection this with _ e
          exact absurd e.symm hp
      subst hrf
      rcases MapR.find n (i + 1) h4 with ⟨q1, q2, q3⟩ | ⟨j, en2, v, q1, q2, q3, q4, q5, q6⟩
      · refine .inl ⟨by simp [getL, hp, q1], by simp [Instr.findNow, hr, q2], fun y en' a1 a2 a3 => ?_⟩
        simp only [putL, hp, if_false, List.cons_append, MapR]
        exact ⟨⟨h1, h2, h3⟩, q3 y en' a1 a2 a3⟩
      · refine .inr ⟨j + 1, en2, v, by simp [getL, hp, q1], by simp [Instr.findNow, hr, q2]; omega, by simpa using q3, q4, q5, fun y en' a1 a2 a3 => ?_⟩
        simp only [putL, hp, if_false, List.set_cons_succ, MapR]
        exact ⟨⟨h1, h2, h3⟩, q6 y en' a1 a2 a3⟩
theorem ok_mkmap {t : TypeId} {k : IntKind} (s : SR P Γ σ w) : OpOk P Γ w (((Instr.makeMap t none).run P w).andThen fun v w => .ok (.value v) w) (.mp σ.length) (σ ++ [.mp k []]) := by
  have x := Ext.push (Γ := Γ) (below_alloc w (.map #[] 0)) ⟨0, w.heap.size, 1, 1⟩ fun _ => Nat.le_refl _
  refine ⟨_, .map (some w.heap.size), w.alloc (.map #[] 0), Γ.push ⟨0, w.heap.size, 1, 1⟩, rfl, .inl rfl, ?_, s.push (below_alloc w (.map #[] 0)) _ (fun _ => ⟨Nat.le_refl _, by simp⟩) ?_, x⟩
  · simp only [VR, s.len, Ctx.push_new]
    exact ⟨_, rfl, by simp [Ctx.push], fun _ => by simp⟩
  · simp only [OR, Ctx.push_new]
    exact ⟨trivial, by simp, #[], 0, alloc_new w _, by simp [MapR]⟩
/-- A map's object is written in place. -/
theorem map_write (s : SR P Γ σ w) {o : Nat} {k : IntKind} {es es' : List (Int × AV)} (ho : σ[o]? = some (.mp k es)) {arr arr' : Array MapEntry} {clock clock' : Nat} (harr : w.heap[(Γ.loc o).b]? = some (.map arr clock))
    (hv : MapR Γ w k es' arr'.toList) :
    SR P (Γ.upd o (Γ.loc o)) (σ.set o (.mp k es')) { w with heap := w.heap.setIfInBounds (Γ.loc o).b (.map arr' clock') } ∧ Ext Γ (Γ.upd o (Γ.loc o)) w { w with heap := w.heap.setIfInBounds (Γ.loc o).b (.map arr' clock') } := by
  have hn : o < Γ.n := by rw [← s.len]; exact (List.getElem?_eq_some_iff.1 ho).1
  have hO := s.obj o _ ho
  simp only [OR] at hO
  obtain ⟨k1, k2, _⟩ := hO
  have hbl := (Array.getElem?_eq_some_iff.1 harr).1
  have hset := MapKept.heap_set (o' := .map arr' clock') harr
  have hs1 : ∀ b, b < w.heap.size → (b = (Γ.loc o).b ∧ (Γ.loc o).ct ≠ 0) ∨ (w.heap.setIfInBounds (Γ.loc o).b (.map arr' clock'))[b]? = w.heap[b]? := fun b _ => by
    by_cases h : b = (Γ.loc o).b
    · exact .inl ⟨h, k2⟩
    · exact .inr (hset.2 b h)
  have hl : (Γ.loc o).ct ≠ 0 → ((Γ.loc o).b = (Γ.loc o).b ∧ (Γ.loc o).ct ≠ 0 ∨ w.heap.size ≤ (Γ.loc o).b) ∧ (Γ.loc o).b < (w.heap.setIfInBounds (Γ.loc o).b (.map arr' clock')).size := fun h => ⟨.inl ⟨rfl, h⟩, by simpa using hbl⟩
  have e := Ext.upd (w' := { w with heap := w.heap.setIfInBounds (Γ.loc o).b (.map arr' clock') }) (l := Γ.loc o) s hn (.inl rfl) (by simp) hs1 hl rfl rfl rfl
  refine ⟨SR.upd (w' := { w with heap := w.heap.setIfInBounds (Γ.loc o).b (.map arr' clock') }) s hn (.inl rfl) (by simp) hs1 hl rfl rfl rfl ?_, e⟩
  simp only [OR, Ctx.upd_same]
  exact ⟨k1, k2, arr', clock', hset.1, hv.imp fun a y _ hy => VR.mono e _ _ hy⟩
theorem ok_mput {t kt et : TypeId} {k : IntKind} {n : Int} {o : Nat} {es : List (Int × AV)} {y : AV} {p u : Value} (s : SR P Γ σ w) (hp : VR Γ w (.mp o) p) (hx : VR Γ w y u) (hy : y.lo 0 = true)
    (hm : P.underlying t = some (.map kt et)) (hk : P.underlying kt = some (.int k)) (ho : σ[o]? = some (.mp k es)) :
    OpOk P Γ w (((Instr.mapUpdate t p (.int k n) u).run P w).andThen fun _ w => .ok .skip w) (.v (.tuple #[])) (σ.set o (.mp k (putL n y es))) := by
  have hO := s.obj o _ ho
  simp only [OR] at hO
  obtain ⟨k1, k2, arr, clock, k3, k4⟩ := hO
  simp only [VR] at hp
  obtain ⟨b, rfl, _, hb⟩ := hp
  obtain rfl := hb k1
  have hkey : MapKept.IsKey (.int k) (.int k n) := rfl
  rcases MapR.find n 0 k4 with ⟨q1, q2, q3⟩ | ⟨j, en, v, q1, q2, q3, q4, q5, q6⟩
  · obtain ⟨h1, h2⟩ := map_write s ho k3 (es' := putL n y es) (arr' := arr.push { key := .int k n, val := u, born := clock }) (clock' := clock + 1) (by simpa using q3 y ⟨.int k n, u, clock⟩ hy rfl hx)
    refine ⟨.skip, undef, _, _, ?_, .inr ⟨rfl, rfl⟩, by simp only [VR]; rfl, h1, h2⟩
    simp [Instr.mapUpdate, run_underlying hm, MapKept.run_getObj_map k3, MapKept.run_checkKey hk hkey, MapKept.run_findKey hk q2, MapKept.run_setObj_map _ k3, Result.andThen]
  · rw [Nat.zero_add] at q2
    have hj : arr[j]? = some en := by simpa using q3
    have hl : (arr.modify j fun e => { e with key := .int k n, val := u }).toList = arr.toList.set j { en with key := .int k n, val := u } := by
      apply List.ext_getElem?
      intro i
      simp only [Array.toList_modify, List.getElem?_modify, List.getElem?_set]
      by_cases hij : j = i
      · subst hij
        have hlt := (List.getElem?_eq_some_iff.1 q3).1
        rw [q3]
        simp only [if_true, Option.map_some, Option.map_eq_map, if_pos hlt]
      · simp [hij]
    obtain ⟨h1, h2⟩ := map_write s ho k3 (es' := putL n y es) (arr' := arr.modify j fun e => { e with key := .int k n, val := u }) (clock' := clock) (by rw [hl]; exact q6 y _ hy rfl hx)
    refine ⟨.skip, undef, _, _, ?_, .inr ⟨rfl, rfl⟩, by simp only [VR]; rfl, h1, h2⟩
    simp [Instr.mapUpdate, run_underlying hm, MapKept.run_getObj_map k3, MapKept.run_checkKey hk hkey, MapKept.run_findKey hk q2, hj, q4, MapKept.run_keyThatStays hkey, MapKept.run_setObj_map _ k3, Result.andThen]
theorem ok_mget {t kt et : TypeId} {k : IntKind} {n : Int} {o : Nat} {es : List (Int × AV)} {p zv : Value} {ok : Bool} {i : TypeInfo} (s : SR P Γ σ w) (hp : VR Γ w (.mp o) p)
    (hm : P.underlying t = some (.map kt et)) (hk : P.underlying kt = some (.int k)) (hi : P.info? et = some i) (hz : i.zero = some zv) (ho : σ[o]? = some (.mp k es)) :
    OpOk P Γ w (((Instr.lookup t p (.int k n) ok).run P w).andThen fun v w => .ok (.value v) w) (gotL ok (ofLeaf zv) (getL n es)) σ := by
  have hO := s.obj o _ ho
  simp only [OR] at hO
  obtain ⟨k1, k2, arr, clock, k3, k4⟩ := hO
  simp only [VR] at hp
  obtain ⟨b, rfl, _, hb⟩ := hp
  obtain rfl := hb k1
  have hkey : MapKept.IsKey (.int k) (.int k n) := rfl
  have hpair : ∀ (v : AV) (u : Value) (q : Bool), VR Γ w v u → VR Γ w (if ok = true then .tup [v, .v (.bool q)] else v) (if ok = true then .tuple #[u, .bool q] else u) := fun v u q hv => by
    cases ok with
    | false => simpa using hv
    | true =>
      simp only [if_true, VR, VRs]
      exact ⟨[u, .bool q], rfl, u, _, rfl, hv, _, _, rfl, rfl, rfl⟩
  rcases MapR.find n 0 k4 with ⟨q1, q2, q3⟩ | ⟨j, en, v, q1, q2, q3, q4, q5, q6⟩
  · rw [q1]
    refine .here s (v := if ok = true then .tuple #[zv, .bool false] else zv) ?_ (hpair _ _ false (VR.ofLeaf zv))
    simp [Instr.lookup, run_underlying hm, MapKept.run_getObj_map k3, MapKept.run_checkKey hk hkey, MapKept.run_findKey hk q2, run_zero' hi hz, Result.andThen]
  · rw [q1]
    refine .here s (v := if ok = true then .tuple #[en.val, .bool true] else en.val) ?_ (hpair _ _ true q5)
    rw [Nat.zero_add] at q2
    simp [Instr.lookup, run_underlying hm, MapKept.run_getObj_map k3, MapKept.run_checkKey hk hkey, MapKept.run_findKey hk q2, Result.andThen]
end Go.Ev
