/- Part of the proofs about this seat's program (module EvK). -/
import Derived.Test.YtbkabnhkclbepaaEvJ
import Derived.ChangeKeysEq
set_option linter.unusedSectionVars false
set_option linter.unusedSimpArgs false
set_option linter.unusedVariables false
namespace Go.Ev
open Go.RowKit (Below)
variable {P : Program} {Γ Γ' : Ctx} {w w' : World} {σ σ' : Store} {e : Env} {a : Act} {av : AV}

/-! ### make, slice literals, copy -/
theorem made_flat (z : Array Value) (h : 0 < z.size) : ∀ c, (List.range (c * z.size)).map (fun j => z[j % z.size]!) = (List.replicate c z.toList).flatten
  | 0 => by simp
  | c + 1 => by
    rw [List.replicate_succ, List.flatten_cons, ← made_flat z h c, Nat.add_mul, Nat.one_mul, Nat.add_comm, List.range_add, List.map_append, List.map_map]
    congr 1
    · apply List.ext_getElem?
      intro j
      simp only [List.getElem?_map]
      by_cases hj : j < z.size
      · rw [List.getElem?_range hj]
        simp [Nat.mod_eq_of_lt hj, hj]
      · rw [List.getElem?_eq_none (by simp; omega)]
        simp; omega
    · apply List.map_congr_left
      intro j _
      simp
theorem VRs.replicate {cs : List AV} {vs : List Value} (h : VRs Γ w cs vs) : ∀ c, VRs Γ w (List.replicate c cs).flatten (List.replicate c vs).flatten
  | 0 => by simp [VRs]
  | c + 1 => by simp only [List.replicate_succ, List.flatten_cons]; exact h.append (VRs.replicate h c)
theorem made_VRs {zs : List AV} (z : Value) (h : 0 < z.cells.size) (hz : VRs Γ w zs z.cells.toList) (c : Nat) : VRs Γ w (List.replicate c zs).flatten (madeCells z.cells (c * z.cells.size)).toList := by
  have : (madeCells z.cells (c * z.cells.size)).toList = (List.replicate c z.cells.toList).flatten := by
    rw [← made_flat _ h]
    simp [madeCells]
  rw [this]
  exact hz.replicate c

theorem ok_mksl {t el : TypeId} {z : List AV} {bytes : Nat} {l c : Int} (s : SR P Γ σ w) (ht : P.underlying t = some (.slice el)) (hz : ZV P el z) (hby : byT P el = some bytes)
    (h0 : 0 ≤ l) (h1 : l ≤ c) (h2 : bytes * c ≤ 2 ^ 47) (h3 : c ≤ 2 ^ 62) (hne : z ≠ []) :
    OpOk P Γ w (((Instr.makeSlice t (.int .i64 l) (.int .i64 c)).run P w).andThen fun v w => .ok (.value v) w) (.sl σ.length 0 0 l.toNat (decide (l = c))) (σ ++ [.row z.length (List.replicate c.toNat z) 0]) := by
  obtain ⟨i, zv, hi, hzv, hsz, hzl, hvr⟩ := hz
  obtain ⟨i', hi', rfl⟩ := byT_ok hby
  rw [hi] at hi'; cases hi'
  have hlen : 0 < zv.cells.size := by
    rcases Nat.eq_zero_or_pos zv.cells.size with h | h
    · exact absurd (List.eq_nil_of_length_eq_zero (hzl.trans h)) hne
    · exact h
  have hr := run_make (P := P) w t el i zv ht hi hzv .i64 .i64 l c h0 h1 (by omega) (by omega)
  rw [← hsz] at hr
  obtain ⟨q1, q2⟩ := row_push (P := P) s (below_alloc w (.cells (madeCells zv.cells (c.toNat * zv.cells.size)) el)) (Nat.le_refl _) (b := w.heap.size) (et := el) (arr := madeCells zv.cells (c.toNat * zv.cells.size)) (alloc_new _ _) zv.cells.size c.toNat
    (List.replicate c.toNat z) hlen (by simp) (fun x hx => by rw [List.eq_of_mem_replicate hx]; exact hzl) (by rw [size_madeCells])
    (vs := (madeCells zv.cells (c.toNat * zv.cells.size)).toList) (made_VRs zv hlen (hvr _ _) _) (by simp)
  refine ⟨_, _, _, _, by rw [hr]; rfl, .inl rfl, ?_, by rw [hzl]; exact q1, q2⟩
  simp only [VR, s.len, Ctx.push_new]
  refine ⟨_, c.toNat, rfl, by omega, fun h => ?_, by simp [Ctx.push], Nat.le_refl _, fun _ => ⟨by omega, .inr (by simp)⟩⟩
  have := of_decide_eq_true h
  omega

theorem fillR_ok (sz : Nat) (f : Nat × Operand → Option (Nat × Opnd)) (hf : ∀ i x p, f (i, x) = some p → ∃ y, cOpnd x = some y ∧ p = (i, y)) (hv : VE Γ w e a) :
    ∀ (parts : List (Nat × Operand)) (ps : List (Nat × Opnd)) (es es' : List (List AV)) (arr : Array Value), omap f parts = some ps → fillR e sz es ps = some es' → (∀ x ∈ es, x.length = sz) → VRs Γ w es.flatten arr.toList →
      ∃ arr', Instr.fill (fun i => some (i * sz, sz)) arr (parts.map fun (i, x) => (i, a.eval x)) = some arr' ∧ VRs Γ w es'.flatten arr'.toList ∧ (∀ x ∈ es', x.length = sz) ∧ es'.length = es.length
  | [], ps, es, es', arr, h1, h2, h3, h4 => by
    simp only [omap] at h1; cases h1
    simp only [fillR] at h2; cases h2
    exact ⟨arr, by simp [Instr.fill], h4, h3, rfl⟩
  | (i, x) :: parts, ps, es, es', arr, h1, h2, h3, h4 => by
    simp only [omap] at h1
    obtain ⟨p, hp, h1⟩ := Option.bind_eq_some_iff.1 h1
    obtain ⟨ps', hps, h1⟩ := Option.bind_eq_some_iff.1 h1
    cases h1
    obtain ⟨y, hy, rfl⟩ := hf i x p hp
    simp only [fillR] at h2
    obtain ⟨b, hb, h2⟩ := Option.bind_eq_some_iff.1 h2
    split at h2
    · rename_i hc
      obtain ⟨hc1, hc2, hc3⟩ := hc
      have hcells : VRs Γ w b.cells (a.eval x).cells.toList := cells_ok (opnd_ok hy hb hv) hc3
      have hl := hcells.length
      have hl2 := h4.length
      rw [flatten_length h3] at hl2
      simp only [Array.length_toList] at hl hl2
      have hbound : i * sz + sz ≤ es.length * sz := by
        have : (i + 1) * sz ≤ es.length * sz := Nat.mul_le_mul_right _ hc2
        rw [Nat.add_mul] at this; omega
      simp only [List.map_cons, Instr.fill]
      have hnot : ¬ ((a.eval x).cells.size ≠ sz || decide (i * sz + (a.eval x).cells.size > arr.size)) = true := by
        rw [hl, hl2]; simp; omega
      rw [if_neg hnot]
      have hz := fold_splice (i * sz) (a.eval x).cells.toList 0 arr (by simp; omega)
      obtain ⟨c, hci⟩ : ∃ c, es[i]? = some c := ⟨es[i], List.getElem?_eq_getElem hc2⟩
      have hcl := h3 c (mem_of_get? hci)
      have hset : (es.set i b.cells).flatten = splice es.flatten (i * sz) b.cells := by
        have := flatten_splice (off := 0) (ys := b.cells) h3 hci (by omega)
        have hs : splice c 0 b.cells = b.cells := by
          unfold splice
          rw [List.take_zero, List.nil_append, List.drop_eq_nil_of_le (by omega), List.append_nil]
        rw [hs] at this
        simpa using this
      obtain ⟨arr', g1, g2, g3, g4⟩ := fillR_ok sz f hf hv parts ps' (es.set i b.cells) es' (splice arr.toList (i * sz) (a.eval x).cells.toList).toArray hps h2
        (fun x hx => by
          rcases List.mem_or_eq_of_mem_set hx with hx | rfl
          · exact h3 x hx
          · exact hc1) (by rw [hset]; exact h4.splice hcells (i * sz))
      refine ⟨arr', ?_, g2, g3, by simpa using g4⟩
      rw [show (a.eval x).cells.zipIdx.foldl (fun cs (c, j) => cs.setIfInBounds (i * sz + j) c) arr = (splice arr.toList (i * sz) (a.eval x).cells.toList).toArray by
        apply Array.ext'
        rw [← Array.foldl_toList, Array.toList_zipIdx, hz]
        rfl]
      exact g1
    · cases h2

theorem run_bsl {t el : TypeId} {i : TypeInfo} {z : Value} {n : Nat} {parts : Array (Nat × Value)} {arr : Array Value} (ht : P.underlying t = some (.slice el)) (hi : P.info? el = some i) (hz : i.zero = some z) (hsz : z.cells.size = i.size) (h0 : 0 < i.size)
    (hsm : n * i.size ≤ 2 ^ 24) (hf : Instr.fill (fun j => some (j * i.size, i.size)) (madeCells z.cells (n * z.cells.size)) parts.toList = some arr) :
    (Instr.buildSlice t n parts).run P w = .ok (.slice (some ⟨w.heap.size, 0, none⟩) n n) (w.alloc (.cells arr el)) := by
  have hsm' : ¬ (2 ^ 24 < n * i.size) := by omega
  rw [hsz] at hf
  by_cases hn : n * i.size = 0
  · have hn0 : n = 0 := by
      rcases Nat.mul_eq_zero.1 hn with h | h
      · exact h
      · omega
    subst hn0
    have : madeCells z.cells (0 * i.size) = #[] := by simp [madeCells]
    rw [this] at hf
    simp [Instr.buildSlice, run_underlying ht, run_sizeOf' hi, Array.range_zero', hf, newRow]
  · exact run_buildSlice w t el n parts arr i z ht hi hz (by omega) hn hf

theorem ok_bsl {t el : TypeId} {z : List AV} {n : Nat} {parts : Array (Nat × Operand)} {ps : List (Nat × Opnd)} {es : List (List AV)} (s : SR P Γ σ w) (hv : VE Γ w e a) (ht : P.underlying t = some (.slice el)) (hz : zT P el = some z)
    (hps : omap (fun (i, x) => (cOpnd x).bind fun x => some (i, x)) parts.toList = some ps) (hes : fillR e z.length (List.replicate n z) ps = some es) (hne : z ≠ []) (hsm : n * z.length ≤ 2 ^ 24) :
    ∃ arr, (Instr.buildSlice t n (parts.map fun (i, x) => (i, a.eval x))).run P w = .ok (.slice (some ⟨w.heap.size, 0, none⟩) n n) (w.alloc (.cells arr el)) ∧ VRs Γ w es.flatten arr.toList ∧ (∀ x ∈ es, x.length = z.length) ∧ es.length = n ∧ 0 < z.length := by
  obtain ⟨i, zv, hi, hzv, hsz, rfl⟩ := zT_ok hz
  have hlen : 0 < zv.cells.size := by
    rcases Nat.eq_zero_or_pos zv.cells.size with h | h
    · exact absurd (by simp [Array.size_eq_zero_iff.1 h]) hne
    · exact h
  simp only [List.length_map, Array.length_toList] at hes hsm
  obtain ⟨arr, g1, g2, g3, g4⟩ := fillR_ok zv.cells.size (fun (i, x) => (cOpnd x).bind fun x => some (i, x)) (fun i x p hp => by
    obtain ⟨y, hy, hp⟩ := Option.bind_eq_some_iff.1 hp
    cases hp; exact ⟨y, hy, rfl⟩) hv parts.toList ps (List.replicate n (zv.cells.toList.map ofLeaf)) es (madeCells zv.cells (n * zv.cells.size)) hps hes (fun x hx => by rw [List.eq_of_mem_replicate hx]; simp) (made_VRs zv hlen (VRs.ofLeaf _) n)
  refine ⟨arr, run_bsl (P := P) ht hi hzv hsz (by omega) (by rw [← hsz]; exact hsm) ?_, g2, by simpa using g3, by simpa using g4, by simpa using hlen⟩
  rw [← hsz, Array.toList_map]
  exact g1

/-! ### Comparisons -/
theorem scalT_ok {t : TypeId} {k : Bool} (h : scalT P t = some k) : ((k = false ∧ P.underlying t = some .bool) ∨ (k = true ∧ ∃ i, P.underlying t = some (.int i))) ∧ szT P t = some 1 := by
  unfold scalT at h
  split at h
  · rename_i hu; split at h <;> cases h; exact ⟨.inl ⟨rfl, hu⟩, ‹_›⟩
  · rename_i i hu; split at h <;> cases h; exact ⟨.inr ⟨rfl, i, hu⟩, ‹_›⟩
  · cases h
theorem scal_isAgg {t : TypeId} {k : Bool} (h : scalT P t = some k) : (P.underlying t).isSome = true ∧ aggT P t = false := by
  obtain ⟨⟨_, h1⟩ | ⟨_, i, h1⟩, _⟩ := scalT_ok h <;> simp [aggT, h1]
theorem run_part_scal {t : TypeId} {k : Bool} {vs : Array Value} {off : Nat} {v : Value} (h : scalT P t = some k) (hv : vs[off]? = some v) : (part t vs off).run P w = .ok v w := by
  obtain ⟨h1, h2⟩ := scal_isAgg h
  simp [part, run_isAgg' h1, h2, hv]
/-- One place of two rows that are compared. -/
theorem eq_step {t : TypeId} {k : Bool} {ks : List Bool} {x y : AV} {xs ys : List AV} {u v : Value} {r : Bool} (hs : scalT P t = some k) (hx : VR Γ w x u) (hy : VR Γ w y v) (he : eqCells (k :: ks) (x :: xs) (y :: ys) = some r) (d : Nat) :
    ∃ r1 r2, (Op.equalIn (d + 1) t u v).run P w = .ok r1 w ∧ eqCells ks xs ys = some r2 ∧ r = (r1 && r2) := by
  obtain ⟨hu, _⟩ := scalT_ok hs
  unfold eqCells at he
  split at he
  · rename_i h _ _; cases h
  · rename_i k1 i1 a1 xs1 i2 a2 ys1 e0 e1 e2
    cases e0; cases e1; cases e2
    simp only [VR] at hx hy
    subst hx hy
    split at he
    · rename_i hk
      subst hk
      obtain ⟨r2, h2, he⟩ := Option.bind_eq_some_iff.1 he
      cases he
      rcases hu with ⟨h, _⟩ | ⟨_, k, hu⟩
      · cases h
      · exact ⟨a1 == a2, r2, run_equalIn_int w d t _ k _ _ hu, h2, rfl⟩
    · cases he
  · rename_i k1 a1 xs1 a2 ys1 e0 e1 e2
    cases e0; cases e1; cases e2
    simp only [VR] at hx hy
    subst hx hy
    obtain ⟨r2, h2, he⟩ := Option.bind_eq_some_iff.1 he
    cases he
    rcases hu with ⟨_, hu⟩ | ⟨h, _⟩
    · exact ⟨a1 == a2, r2, run_equalIn_bool w d t _ _ hu, h2, rfl⟩
    · cases h
  · cases he
theorem eqCells_cons {k : Bool} {ks : List Bool} {xs ys : List AV} {r : Bool} (h : eqCells (k :: ks) xs ys = some r) : ∃ x xs' y ys', xs = x :: xs' ∧ ys = y :: ys' := by
  cases xs with
  | nil => cases k <;> simp [eqCells] at h
  | cons x xs =>
    cases ys with
    | nil => unfold eqCells at h; split at h <;> simp_all
    | cons y ys => exact ⟨x, xs, y, ys, rfl, rfl⟩
theorem eqFields_ok (d : Nat) : ∀ (fs : List Field) (off : Nat) (ks : List Bool) (xs ys : List AV) (us vs : Array Value) (r : Bool), flatFs P off fs = some ks → eqCells ks xs ys = some r →
    VRs Γ w xs (us.toList.drop off) → VRs Γ w ys (vs.toList.drop off) → (Op.eqFields (d + 1) us vs fs).run P w = .ok r w
  | [], off, ks, xs, ys, us, vs, r, h1, h2, h3, h4 => by
    simp only [flatFs] at h1; cases h1
    unfold eqCells at h2
    split at h2 <;> simp_all [Op.eqFields]
  | f :: fs, off, ks, xs, ys, us, vs, r, h1, h2, h3, h4 => by
    simp only [flatFs] at h1
    split at h1
    · rename_i hc
      obtain ⟨k, hk, h1⟩ := Option.bind_eq_some_iff.1 h1
      obtain ⟨ks', hks, h1⟩ := Option.bind_eq_some_iff.1 h1
      cases h1
      obtain ⟨x, xs', y, ys', rfl, rfl⟩ := eqCells_cons h2
      simp only [VRs] at h3 h4
      obtain ⟨u, us', eu, hxu, h3⟩ := h3
      obtain ⟨v, vs', ev, hyv, h4⟩ := h4
      have hu : us[off]? = some u := by
        have : us.toList[off]? = some u := by rw [← List.head?_drop, eu]; rfl
        simpa using this
      have hv : vs[off]? = some v := by
        have : vs.toList[off]? = some v := by rw [← List.head?_drop, ev]; rfl
        simpa using this
      obtain ⟨r1, r2, q1, q2, rfl⟩ := eq_step hk hxu hyv h2 d
      have hu' : us.toList.drop (off + 1) = us' := by rw [← List.drop_drop, eu]; rfl
      have hv' : vs.toList.drop (off + 1) = vs' := by rw [← List.drop_drop, ev]; rfl
      have ih := eqFields_ok d fs (off + 1) ks' xs' ys' us vs r2 hks q2 (by rw [hu']; exact h3) (by rw [hv']; exact h4)
      simp only [Op.eqFields, hc.1, ne_eq, not_false_eq_true, if_true, Sem.run_bind, hc.2, run_part_scal hk hu, run_part_scal hk hv, Result.andThen_ok, q1]
      cases r1
      · simp
      · simpa using ih
    · cases h1
theorem eqItems_ok (d : Nat) {el : TypeId} {k : Bool} (hk : scalT P el = some k) (hone : P.cellsOf el = 1) : ∀ (n off : Nat) (xs ys : List AV) (us vs : Array Value) (r : Bool), eqCells (List.replicate n k) xs ys = some r →
    VRs Γ w xs (us.toList.drop off) → VRs Γ w ys (vs.toList.drop off) → (Op.eqItems (d + 1) el (P.cellsOf el) us vs (List.range' off n)).run P w = .ok r w
  | 0, off, xs, ys, us, vs, r, h2, h3, h4 => by
    unfold eqCells at h2
    split at h2 <;> simp_all [Op.eqItems]
  | n + 1, off, xs, ys, us, vs, r, h2, h3, h4 => by
    rw [List.replicate_succ] at h2
    obtain ⟨x, xs', y, ys', rfl, rfl⟩ := eqCells_cons h2
    simp only [VRs] at h3 h4
    obtain ⟨u, us', eu, hxu, h3⟩ := h3
    obtain ⟨v, vs', ev, hyv, h4⟩ := h4
    have hu : us[off]? = some u := by
      have : us.toList[off]? = some u := by rw [← List.head?_drop, eu]; rfl
      simpa using this
    have hv : vs[off]? = some v := by
      have : vs.toList[off]? = some v := by rw [← List.head?_drop, ev]; rfl
      simpa using this
    obtain ⟨r1, r2, q1, q2, rfl⟩ := eq_step hk hxu hyv h2 d
    have hu' : us.toList.drop (off + 1) = us' := by rw [← List.drop_drop, eu]; rfl
    have hv' : vs.toList.drop (off + 1) = vs' := by rw [← List.drop_drop, ev]; rfl
    have ih := eqItems_ok d hk hone n (off + 1) xs' ys' us vs r2 q2 (by rw [hu']; exact h3) (by rw [hv']; exact h4)
    simp only [List.range'_succ, Op.eqItems, Sem.run_bind, hone, Nat.mul_one, run_part_scal hk hu, run_part_scal hk hv, Result.andThen_ok, q1]
    rw [hone] at ih
    cases r1
    · simp
    · simpa using ih
theorem cellsOf_one {t : TypeId} (h : szT P t = some 1) : P.cellsOf t = 1 := by
  obtain ⟨i, hi, hs⟩ := szT_ok h
  simp [Program.cellsOf, hi, hs]
theorem eqGuard_flat {t : TypeId} {ks : List Bool} (h : flatT P t = some ks) (d : Nat) : P.eqGuardType (d + 2) t = false := by
  have hsc : ∀ {t k}, scalT P t = some k → ∀ d, P.eqGuardType (d + 1) t = false := by
    intro t k hk d
    obtain ⟨⟨_, h1⟩ | ⟨_, i, h1⟩, _⟩ := scalT_ok hk <;> simp [Program.eqGuardType, h1]
  unfold flatT at h
  split at h
  · rename_i n e hu
    obtain ⟨k, hk, _⟩ := Option.bind_eq_some_iff.1 h
    rw [Program.eqGuardType, hu]
    exact hsc hk d
  · rename_i fs hu
    split at h
    · have : ∀ (l : List Field) (off : Nat) (ks : List Bool), flatFs P off l = some ks → (l.any fun f => f.name != "_" && P.eqGuardType (d + 1) f.type) = false := by
        intro l
        induction l with
        | nil => intro _ _ _; rfl
        | cons f l ih =>
          intro off ks hl
          simp only [flatFs] at hl
          split at hl
          · obtain ⟨k, hk, hl⟩ := Option.bind_eq_some_iff.1 hl
            obtain ⟨ks', hks, _⟩ := Option.bind_eq_some_iff.1 hl
            simp [List.any_cons, hsc hk, ih _ _ hks]
          · cases hl
      have h2 := this _ _ _ h
      simp only [Program.eqGuardType, hu]
      rw [← Array.any_toList]
      exact h2
    · cases h
  · cases h
theorem ok_eqs_agg {t : TypeId} {ks : List Bool} {x y : List AV} {u v : Value} {r : Bool} {op : BinOp} {xo yo : Operand} (hop : op = .eql ∨ op = .neq) (hf : flatT P t = some ks) (hx : VR Γ w (.agg x) u) (hy : VR Γ w (.agg y) v) (he : eqCells ks x y = some r) :
    (do eqGuard op t xo yo u v; binOp op t u v : Sem Value).run P w = .ok (.bool (if op = .neq then !r else r)) w := by
  simp only [VR] at hx hy
  obtain ⟨us, rfl, hx⟩ := hx
  obtain ⟨vs, rfl, hy⟩ := hy
  have hd : P.depth = 2 * (P.types.size + Made.depth) + 2 := rfl
  have hg : (eqGuard op t xo yo (.agg us.toArray) (.agg vs.toArray)).run P w = .ok () w := by
    unfold eqGuard
    have h1 := eqGuard_flat hf (2 * (P.types.size + Made.depth))
    rw [← hd] at h1
    rcases hop with rfl | rfl <;> simp [h1]
  have heq : (Op.equal t (.agg us.toArray) (.agg vs.toArray)).run P w = .ok r w := by
    unfold Op.equal Op.maxDepth
    have hf' := hf
    unfold flatT at hf
    split at hf
    · rename_i n el hu
      obtain ⟨k, hk, hks⟩ := Option.bind_eq_some_iff.1 hf
      cases hks
      obtain ⟨_, hsz⟩ := scalT_ok hk
      obtain ⟨i, hi, _⟩ := szT_ok hsz
      rw [run_equalIn_array w 9999 _ _ hu hi, List.range_eq_range']
      exact eqItems_ok 9998 hk (cellsOf_one hsz) n 0 _ _ _ _ _ he (by simpa using hx) (by simpa using hy)
    · rename_i fs hu
      split at hf
      · rename_i hst
        have hfo : P.underlying t = some (.struct (P.fieldsOf t)) := by simp [Program.fieldsOf, hu]
        rw [run_equalIn_struct w 9999 t _ _ hfo hst]
        have : P.fieldsOf t = fs := by simp [Program.fieldsOf, hu]
        rw [this]
        exact eqFields_ok 9998 _ 0 ks _ _ _ _ _ hf he (by simpa using hx) (by simpa using hy)
      · cases hf
    · cases hf
  simp only [Sem.run_bind, hg, Result.andThen_ok]
  rcases hop with rfl | rfl
  · simp [binOp, heq]
  · simp [binOp, heq]
end Go.Ev
