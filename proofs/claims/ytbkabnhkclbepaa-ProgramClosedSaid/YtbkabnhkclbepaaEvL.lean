/- Part of the proofs about this seat's program (module EvL). -/
import Derived.Test.YtbkabnhkclbepaaEvK
set_option linter.unusedSectionVars false
set_option linter.unusedSimpArgs false
set_option linter.unusedVariables false
namespace Go.Ev
open Go.RowKit (Below)
variable {P : Program} {Γ Γ' : Ctx} {w w' : World} {σ σ' : Store} {e : Env} {a : Act} {av : AV}

theorem OpOk.val {s : SR P Γ σ w} {x : Sem Value} {v : Value} (h : x.run P w = .ok v w) (hv : VR Γ w av v) : OpOk P Γ w ((x.run P w).andThen fun v w => .ok (.value v) w) av σ :=
  .here s (by rw [h]; rfl) hv

theorem ok_bin {op : BinOp} {t : TypeId} {xo yo : Operand} {x y r : AV} {u v : Value} (hx : VR Γ w x u) (hy : VR Γ w y v) (he : evBin op x y = some r) :
    ∃ z, (do eqGuard op t xo yo u v; binOp op t u v : Sem Value).run P w = .ok z w ∧ VR Γ w r z := by
  unfold evBin at he
  split at he
  · rename_i k i k' j
    simp only [VR] at hx hy
    subst hx hy
    have hg : ∀ op, (eqGuard op t xo yo (.int k i) (.int k' j)).run P w = .ok () w := fun op => by
      unfold eqGuard; cases op <;> simp
    simp only [Sem.run_bind, hg, Result.andThen_ok]
    split at he
    · split at he
      · cases he
      · cases he
        refine ⟨_, ?_, by simp only [VR]; rfl⟩
        simp [binOp, Op.shift, *]
    · split at he
      · cases he
      · cases he
        refine ⟨_, ?_, by simp only [VR]; rfl⟩
        simp [binOp, Op.shift, *]
    · split at he
      · rename_i hk
        subst hk
        split at he <;> (try split at he) <;> first
          | (cases he; done)
          | (cases he
             refine ⟨_, ?_, by simp only [VR]; rfl⟩
             simp_all [binOp, Op.intArith, Op.intDiv, Op.intBits, Op.intCmp])
      · cases he
  · rename_i i j
    simp only [VR] at hx hy
    subst hx hy
    have hg : ∀ op, (eqGuard op t xo yo (.string i) (.string j)).run P w = .ok () w := fun op => by
      unfold eqGuard; cases op <;> simp
    simp only [Sem.run_bind, hg, Result.andThen_ok]
    split at he
    · split at he
      · cases he
        refine ⟨_, ?_, by simp only [VR]; rfl⟩
        have : (i.size : Int) + (j.size : Int) ≤ 9223372036854775807 := by omega
        simp [binOp, Op.stringOp, this]
      · cases he
    · cases he
      refine ⟨_, ?_, by simp only [VR]; rfl⟩
      simp [binOp, Op.stringOp, beq_toListBytes]
    · cases he
      refine ⟨_, ?_, by simp only [VR]; rfl⟩
      simp [binOp, Op.stringOp, beq_toListBytes]
    · cases he
  · cases he


theorem ok_eqb {t : TypeId} {x y : Bool} {op : BinOp} {xo yo : Operand} (hop : op = .eql ∨ op = .neq) (hu : P.underlying t = some .bool) :
    (do eqGuard op t xo yo (.bool x) (.bool y); binOp op t (.bool x) (.bool y) : Sem Value).run P w = .ok (.bool (if op = .neq then !(x == y) else x == y)) w := by
  have hg : ∀ op, (eqGuard op t xo yo (.bool x) (.bool y)).run P w = .ok () w := fun op => by
    unfold eqGuard; cases op <;> simp
  have he : (Op.equal t (.bool x) (.bool y)).run P w = .ok (x == y) w := run_equalIn_bool w 9999 t _ _ hu
  simp only [Sem.run_bind, hg, Result.andThen_ok]
  rcases hop with rfl | rfl <;> simp [binOp, he]

theorem VRs.set {cs : List AV} {vs : List Value} {i : Nat} {x : AV} {v : Value} (h : VRs Γ w cs vs) (hv : vs[i]? = some v) (hx : VR Γ w x v) : VRs Γ w (cs.set i x) vs := by
  induction cs generalizing vs i with
  | nil => simpa using h
  | cons c cs ih =>
    simp only [VRs] at h
    obtain ⟨u, us, rfl, h1, h2⟩ := h
    cases i with
    | zero =>
      simp at hv; subst hv
      simp only [List.set_cons_zero, VRs]
      exact ⟨_, _, rfl, hx, h2⟩
    | succ i =>
      simp only [List.set_cons_succ, VRs]
      exact ⟨_, _, rfl, h1, ih h2 (by simpa using hv)⟩
theorem VRs.at {cs : List AV} {vs : List Value} {i : Nat} {x : AV} (h : VRs Γ w cs vs) (hi : cs[i]? = some x) : ∃ v, vs[i]? = some v ∧ VR Γ w x v := by
  induction cs generalizing vs i with
  | nil => simp at hi
  | cons c cs ih =>
    simp only [VRs] at h
    obtain ⟨u, us, rfl, h1, h2⟩ := h
    cases i with
    | zero => simp at hi; subst hi; exact ⟨u, rfl, h1⟩
    | succ i => simpa using ih h2 (by simpa using hi)
theorem ownL_ok : ∀ (os : List (Nat × Nat)) {Γ : Ctx} {σ σ2 : Store} {cs cs2 : List AV} {vs : List Value}, SR P Γ σ w → VRs Γ w cs vs → ownL σ cs os = some (cs2, σ2) →
    ∃ Γ2, VRs Γ2 w cs2 vs ∧ SR P Γ2 σ2 w ∧ Ext Γ Γ2 w w
  | [], Γ, σ, σ2, cs, cs2, vs, s, h, ho => by simp only [ownL] at ho; cases ho; exact ⟨Γ, h, s, Ext.refl _ _⟩
  | (off, sz) :: os, Γ, σ, σ2, cs, cs2, vs, s, h, ho => by
    simp only [ownL] at ho
    split at ho
    · rename_i hc
      split at ho
      · rename_i h0
        obtain ⟨v, hv, hx⟩ := h.at hc
        obtain ⟨k1, k2, k3⟩ := empty_push (P := P) s h0 hx
        obtain ⟨Γ2, m1, m2, m3⟩ := ownL_ok os k1 (VRs.set (VRs.mono k2 _ _ h) hv k3) ho
        exact ⟨Γ2, m1, m2, k2.trans m3⟩
      · cases ho
    · cases ho
theorem mput_ok {t : TypeId} {m key x : Operand} {c : COp} (s : SR P Γ σ w)
    (hc : ((mapT P t).bind fun (k, _) => (cOpnd m).bind fun m => (cOpnd key).bind fun key => (cOpnd x).bind fun x => some (COp.mput k m key x)) = some c) (he : evOp e σ c = some (av, σ')) (hv : VE Γ w e a) :
    OpOk P Γ w (((Instr.mapUpdate t (a.eval m) (a.eval key) (a.eval x)).run P w).andThen fun _ w => .ok .skip w) av σ' := by
  rw [Option.bind_eq_some_iff] at hc; obtain ⟨⟨k, z⟩, ht, hc⟩ := hc
  rw [Option.bind_eq_some_iff] at hc; obtain ⟨m', hm, hc⟩ := hc
  rw [Option.bind_eq_some_iff] at hc; obtain ⟨key', hkey, hc⟩ := hc
  rw [Option.bind_eq_some_iff] at hc; obtain ⟨x', hx, hc⟩ := hc
  cases hc
  simp only [evOp] at he
  rw [Option.bind_eq_some_iff] at he; obtain ⟨p, hp, he⟩ := he
  rw [Option.bind_eq_some_iff] at he; obtain ⟨i, hi, he⟩ := he
  rw [Option.bind_eq_some_iff] at he; obtain ⟨y, hy, he⟩ := he
  split at he
  · split at he
    · rename_i o k' n _ k2 es ho
      split at he
      · rename_i hcc
        obtain ⟨rfl, rfl, hlo⟩ := hcc
        cases he
        obtain ⟨kt, et, inf, zv, t1, t2, _, _, _⟩ := mapT_ok ht
        have hkv := opnd_ok hkey hi hv
        simp only [VR] at hkv
        rw [hkv]
        exact ok_mput (P := P) (n := n) s (opnd_ok hm hp hv) (opnd_ok hx hy hv) hlo t1 t2 ho
      · cases he
    · cases he
  · cases he
/-- EVERY OPERATION THAT IS NO CALL. -/
theorem op_ok {h : Hints} {o : Oper} {c : COp} (hc : cOp P h o = some c) (he : evOp e σ c = some (av, σ')) (hv : VE Γ w e a) (s : SR P Γ σ w) : OpOk P Γ w ((execOp a.eval o).run P w) av σ' := by
  obtain ⟨dst, op, type, pos, after, guard⟩ := o
  cases op with
  | move x =>
    simp only [cOp] at hc
    rw [Option.bind_eq_some_iff] at hc; obtain ⟨x', hx, hc⟩ := hc
    split at hc
    · cases hc
      simp only [evOp] at he
      rw [Option.bind_eq_some_iff] at he; obtain ⟨y, hy, he⟩ := he
      have hy' := opnd_ok hx hy hv
      split at he
      · split at he
        · rename_i ho
          split at he
          · rename_i hc2
            obtain ⟨rfl, hle⟩ := hc2
            cases he
            obtain ⟨q1, q2⟩ := freeze_ok s hy' ho hle
            exact ⟨_, _, w, _, by simp [execOp], .inl rfl, q2, q1, Ext.drop Γ w _⟩
          · cases he
        · cases he
      · cases he
        exact .here s (by simp [execOp]) hy'
    · cases hc
      simp only [evOp] at he
      rw [Option.bind_eq_some_iff] at he; obtain ⟨y, hy, he⟩ := he
      cases he
      exact .here s (by simp [execOp]) (opnd_ok hx hy hv)
  | assign x =>
    simp only [cOp] at hc
    split at hc
    · split at hc
      · rw [Option.bind_eq_some_iff] at hc; obtain ⟨el, hel, hc⟩ := hc
        rw [Option.bind_eq_some_iff] at hc; obtain ⟨sz, hsz, hc⟩ := hc
        cases hc
        simp only [evOp] at he
        split at he
        · cases he
          have hB := Below.refl w.heap.size w
          refine ⟨_, .slice none 0 0, w, Γ.push ⟨0, 0, sz, 0⟩, by simp [execOp]; rfl, .inl rfl, ?_, s.push hB _ (fun h => absurd rfl h) ?_, Ext.push hB _ (fun h => absurd rfl h)⟩
          · simp only [VR, s.len, Ctx.push_new]
            exact ⟨none, 0, rfl, Nat.le_refl _, fun _ => rfl, by simp [Ctx.push], Nat.le_refl _, fun _ => ⟨Nat.le_refl _, .inl rfl⟩⟩
          · simp only [OR, Ctx.push_new]
            exact ⟨trivial, trivial, ‹_›, by simp, by simp, .inl trivial⟩
        · cases he
      · cases hc
      · rw [Option.bind_eq_some_iff] at hc; obtain ⟨x', hx, hc⟩ := hc
        cases hc
        simp only [evOp] at he
        rw [Option.bind_eq_some_iff] at he; obtain ⟨y, hy, he⟩ := he
        cases he
        exact .here s (by simp [execOp]) (opnd_ok hx hy hv)
    · rw [Option.bind_eq_some_iff] at hc; obtain ⟨x', hx, hc⟩ := hc
      cases hc
      simp only [evOp] at he
      rw [Option.bind_eq_some_iff] at he; obtain ⟨y, hy, he⟩ := he
      cases he
      exact .here s (by simp [execOp]) (opnd_ok hx hy hv)
  | pick c x y =>
    simp only [cOp] at hc
    rw [Option.bind_eq_some_iff] at hc; obtain ⟨c', hc', hc⟩ := hc
    rw [Option.bind_eq_some_iff] at hc; obtain ⟨x', hx, hc⟩ := hc
    rw [Option.bind_eq_some_iff] at hc; obtain ⟨y', hy, hc⟩ := hc
    cases hc
    simp only [evOp] at he
    rw [Option.bind_eq_some_iff] at he; obtain ⟨t, ht, he⟩ := he
    split at he
    · rename_i t
      have htv := opnd_ok hc' ht hv
      simp only [VR] at htv
      rw [Option.bind_eq_some_iff] at he; obtain ⟨r, hr, he⟩ := he
      cases he
      split at hr
      · rename_i h1; subst h1
        exact .here s (v := a.eval x) (by simp [execOp, htv, asBool]) (opnd_ok hx hr hv)
      · rename_i h1
        have h1 : t = false := by simpa using h1
        subst h1
        exact .here s (v := a.eval y) (by simp [execOp, htv, asBool]) (opnd_ok hy hr hv)
    · cases he
  | alloc t =>
    simp only [cOp] at hc
    rw [Option.bind_eq_some_iff] at hc; obtain ⟨z, hz, hc⟩ := hc
    cases hc
    simp only [evOp] at he
    split at he
    · cases he
      have := ok_alloc (P := P) s (zH_zv hz) (And.left ‹_›)
      simpa only [execOp, Sem.run_bind, Sem.run_pure] using this
    · cases he
  | box t x =>
    simp only [cOp] at hc
    rw [Option.bind_eq_some_iff] at hc; obtain ⟨x', hx, hc⟩ := hc
    split at hc
    · cases hc
      simp only [evOp] at he
      rw [Option.bind_eq_some_iff] at he; obtain ⟨y, hy, he⟩ := he
      split at he
      · cases he
        have := ok_boxF (P := P) (t := t) s (opnd_ok hx hy hv) (And.right ‹_›)
        simpa only [execOp, Sem.run_bind, Sem.run_pure] using this
      · cases he
    · cases hc
      simp only [evOp] at he
      rw [Option.bind_eq_some_iff] at he; obtain ⟨y, hy, he⟩ := he
      split at he
      · cases he
        have := ok_box (P := P) (t := t) s (opnd_ok hx hy hv) (And.left ‹_›) (And.right ‹_›)
        simpa only [execOp, Sem.run_bind, Sem.run_pure] using this
      · cases he
  | build t parts =>
    simp only [cOp] at hc
    rw [Option.bind_eq_some_iff] at hc; obtain ⟨z, hz, hc⟩ := hc
    obtain ⟨i, zv, hi, hzv, hsz, rfl⟩ := zT_ok hz
    have fin : ∀ (place : Nat → Option (Nat × Nat)) (f : Nat × Operand → Option (Nat × Nat × Opnd)) (ps : List (Nat × Nat × Opnd)) (zz cs : List AV), (∀ i x p, f (i, x) = some p → ∃ q y, place i = some q ∧ cOpnd x = some y ∧ p = (q.1, q.2, y)) →
        omap f parts.toList = some ps → VRs Γ w zz zv.cells.toList → fillP e zz ps = some cs → (∀ vs : List (Nat × Value), P.built t vs = Instr.fill place zv.cells vs) →
        ∃ arr : Array Value, (execOp a.eval ⟨dst, .build t parts, type, pos, after, guard⟩).run P w = .ok (.value (.agg arr)) w ∧ VRs Γ w cs arr.toList := by
      intro place f ps zz cs hf hps hzz hcs hb
      obtain ⟨arr, g1, g2⟩ := fill_ok place f hf hv parts.toList ps _ cs zv.cells hps hcs hzz
      have hr : (Instr.build t (parts.map fun (i, x) => (i, a.eval x))).run P w = .ok (.agg arr) w := run_build w t _ _ (by rw [Array.toList_map, hb]; exact g1)
      exact ⟨arr, by simp only [execOp, Sem.run_bind, hr]; rfl, g2⟩
    have one : ∀ (place : Nat → Option (Nat × Nat)) (f : Nat × Operand → Option (Nat × Nat × Opnd)) (ps : List (Nat × Nat × Opnd)), (∀ i x p, f (i, x) = some p → ∃ q y, place i = some q ∧ cOpnd x = some y ∧ p = (q.1, q.2, y)) →
        omap f parts.toList = some ps → c = .build (zv.cells.toList.map ofLeaf) ps → (∀ vs : List (Nat × Value), P.built t vs = Instr.fill place zv.cells vs) → OpOk P Γ w ((execOp a.eval ⟨dst, .build t parts, type, pos, after, guard⟩).run P w) av σ' := by
      rintro place f ps hf hps rfl hb
      simp only [evOp] at he
      rw [Option.bind_eq_some_iff] at he; obtain ⟨cs, hcs, he⟩ := he
      cases he
      obtain ⟨arr, g1, g2⟩ := fin place f ps _ cs hf hps (VRs.ofLeaf _) hcs hb
      refine .here s (v := .agg arr) g1 ?_
      simp only [VR]
      exact ⟨arr.toList, by simp, g2⟩
    split at hc
    · rename_i fs hu
      rw [Option.bind_eq_some_iff] at hc; obtain ⟨places, hpl, hc⟩ := hc
      rw [Option.bind_eq_some_iff] at hc; obtain ⟨ps, hps, hc⟩ := hc
      have hf : ∀ (i : Nat) (x : Operand) (p : Nat × Nat × Opnd), ((places[i]?).bind fun (p : Nat × Nat) => (cOpnd x).bind fun x => some (p.1, p.2, x)) = some p → ∃ (q : Nat × Nat) (y : Opnd), places[i]? = some q ∧ cOpnd x = some y ∧ p = (q.1, q.2, y) := fun i x p hp => by
        obtain ⟨q, hq, hp⟩ := Option.bind_eq_some_iff.1 hp
        obtain ⟨y, hy, hp⟩ := Option.bind_eq_some_iff.1 hp
        cases hp
        exact ⟨q, y, hq, hy, rfl⟩
      have hb : ∀ vs : List (Nat × Value), P.built t vs = Instr.fill (places[·]?) zv.cells vs := fun vs => by simp [Program.built, hi, hu, hzv, hpl]
      split at hc
      · cases hc
        exact one (places[·]?) _ ps hf hps rfl hb
      · rw [Option.bind_eq_some_iff] at hc; obtain ⟨zz, hzz, hc⟩ := hc
        cases hc
        simp only [evOp] at he
        rw [Option.bind_eq_some_iff] at he; obtain ⟨cs, hcs, he⟩ := he
        rw [Option.bind_eq_some_iff] at he; obtain ⟨⟨cs2, σ2⟩, ho, he⟩ := he
        cases he
        have hz2 : VRs Γ w zz zv.cells.toList := by
          obtain ⟨i2, zv2, q1, q2, _, rfl⟩ := zTopT_ok hzz
          rw [hi] at q1; cases q1
          rw [hzv] at q2; cases q2
          exact VRs.ofTop _
        obtain ⟨arr, g1, g2⟩ := fin (places[·]?) _ ps _ cs hf hps hz2 hcs hb
        obtain ⟨Γ2, k1, k2, k3⟩ := ownL_ok (P := P) _ s g2 ho
        refine ⟨_, .agg arr, w, Γ2, g1, .inl rfl, ?_, k2, k3⟩
        simp only [VR]
        exact ⟨arr.toList, by simp, k1⟩
    · rename_i n el hu
      rw [Option.bind_eq_some_iff] at hc; obtain ⟨sz, hsz', hc⟩ := hc
      rw [Option.bind_eq_some_iff] at hc; obtain ⟨ps, hps, hc⟩ := hc
      cases hc
      obtain ⟨ie, hie, rfl⟩ := szT_ok hsz'
      refine one (fun i => some (i * ie.size, ie.size)) _ ps (fun i x p hp => ?_) hps rfl (fun vs => by simp [Program.built, hi, hu, hzv, hie])
      obtain ⟨y, hy, hp⟩ := Option.bind_eq_some_iff.1 hp
      cases hp
      exact ⟨_, y, rfl, hy, rfl⟩
    · cases hc
  | buildSlice t n parts =>
    simp only [cOp] at hc
    rw [Option.bind_eq_some_iff] at hc; obtain ⟨el, hel, hc⟩ := hc
    rw [Option.bind_eq_some_iff] at hc; obtain ⟨z, hz, hc⟩ := hc
    rw [Option.bind_eq_some_iff] at hc; obtain ⟨ps, hps, hc⟩ := hc
    have ht := elemT_ok hel
    split at hc
    · cases hc
      simp only [evOp] at he
      rw [Option.bind_eq_some_iff] at he; obtain ⟨es, hes, he⟩ := he
      split at he
      · rename_i hcc
        cases he
        obtain ⟨arr, hr, g1, g2, g3, g4⟩ := ok_bsl (P := P) s hv ht hz hps hes hcc.1 hcc.2.2
        have hal := g1.length
        rw [flatten_length g2, g3, Array.length_toList] at hal
        obtain ⟨q1, q2⟩ := row_push (P := P) s (below_alloc w (.cells arr el)) (Nat.le_refl _) (b := w.heap.size) (et := el) (arr := arr) (alloc_new _ _) z.length n es g4 (by omega) g2 hal (vs := arr.toList) g1 (by simp)
        refine ⟨_, _, _, _, by simp only [execOp, Sem.run_bind, hr]; rfl, .inl rfl, ?_, q1, q2⟩
        simp only [VR, s.len, Ctx.push_new]
        exact ⟨_, n, rfl, Nat.le_refl _, fun _ => rfl, by simp [Ctx.push], Nat.le_refl _, fun _ => ⟨by omega, .inr (by simp)⟩⟩
      · cases he
    · cases hc
      simp only [evOp] at he
      rw [Option.bind_eq_some_iff] at he; obtain ⟨es, hes, he⟩ := he
      split at he
      · rename_i hcc
        cases he
        obtain ⟨arr, hr, g1, g2, g3, g4⟩ := ok_bsl (P := P) s hv ht hz hps hes hcc.1 hcc.2
        have hB := below_alloc w (.cells arr el)
        refine ⟨_, _, _, Γ, by simp only [execOp, Sem.run_bind, hr]; rfl, .inl rfl, ?_, s.of_below hB, .of_below Γ hB⟩
        simp only [VR]
        refine ⟨_, n, by rw [g3], by omega, fun _ => g3.symm, .inr ⟨w.heap.size, 0, z.length, rfl, okB_new s hB (Nat.le_refl _) (by simp), g4, g2, ?_⟩⟩
        rw [VRrows_iff g2]
        exact VRcells.of_list (VRs.mono (.of_below Γ hB) _ _ g1) fun j v hj => by simpa using hj
      · cases he
  | load t x =>
    simp only [cOp] at hc
    rw [Option.bind_eq_some_iff] at hc; obtain ⟨sz, hsz, hc⟩ := hc
    rw [Option.bind_eq_some_iff] at hc; obtain ⟨x', hx, hc⟩ := hc
    split at hc
    · rename_i hcc
      have he : ∃ p cs r, x'.ev e = some p ∧ cellsAt σ p = some cs ∧ loadC sz (aggT P t) cs = some r ∧ av = r ∧ σ' = σ := by
        split at hc
        · cases hc
          simp only [evOp] at he
          rw [Option.bind_eq_some_iff] at he; obtain ⟨p, hp, he⟩ := he
          split at he
          · rename_i cs
            rw [Option.bind_eq_some_iff] at he; obtain ⟨r, hr, he⟩ := he
            cases he
            exact ⟨_, cs, _, hp, rfl, hr, rfl, rfl⟩
          · cases he
        split at hc
        · cases hc
          simp only [evOp] at he
          rw [Option.bind_eq_some_iff] at he; obtain ⟨p, hp, he⟩ := he
          rw [Option.bind_eq_some_iff] at he; obtain ⟨cs, hcs, he⟩ := he
          rw [Option.bind_eq_some_iff] at he; obtain ⟨r, hr, he⟩ := he
          cases he
          exact ⟨p, cs, _, hp, hcs, hr, rfl, rfl⟩
        · cases hc
          simp only [evOp] at he
          rw [Option.bind_eq_some_iff] at he; obtain ⟨p, hp, he⟩ := he
          split at he
          · rw [Option.bind_eq_some_iff] at he; obtain ⟨cs, hcs, he⟩ := he
            rw [Option.bind_eq_some_iff] at he; obtain ⟨r, hr, he⟩ := he
            cases he
            exact ⟨p, cs, _, hp, hcs, hr, rfl, rfl⟩
          · cases he
      obtain ⟨p, cs, r, hp, hcs, hr, rfl, rfl⟩ := he
      have := ok_ld (P := P) s (opnd_ok hx hp hv) hcs hsz hcc.1 hcc.2 hr
      simpa only [execOp, Sem.run_bind, Sem.run_pure] using this
    · cases hc
  | makeMap t r =>
    cases r with
    | some _ => simp [cOp] at hc
    | none =>
      simp only [cOp] at hc
      rw [Option.bind_eq_some_iff] at hc; obtain ⟨⟨k, z⟩, _, hc⟩ := hc
      cases hc
      simp only [evOp] at he
      cases he
      simpa only [execOp, Option.map_none, Sem.run_bind, Sem.run_pure] using ok_mkmap (P := P) (t := t) (k := k) s
  | insert t m key x =>
    simp only [cOp] at hc
    have := mput_ok (P := P) s hc he hv
    simpa only [execOp, Sem.run_bind, Sem.run_pure] using this
  | mapUpdate t m key x =>
    simp only [cOp] at hc
    have := mput_ok (P := P) s hc he hv
    simpa only [execOp, Sem.run_bind, Sem.run_pure] using this
  | lookup t m key ok =>
    simp only [cOp] at hc
    rw [Option.bind_eq_some_iff] at hc; obtain ⟨⟨k, z⟩, ht, hc⟩ := hc
    rw [Option.bind_eq_some_iff] at hc; obtain ⟨m', hm, hc⟩ := hc
    rw [Option.bind_eq_some_iff] at hc; obtain ⟨key', hkey, hc⟩ := hc
    cases hc
    simp only [evOp] at he
    rw [Option.bind_eq_some_iff] at he; obtain ⟨p, hp, he⟩ := he
    rw [Option.bind_eq_some_iff] at he; obtain ⟨i, hi, he⟩ := he
    split at he
    · split at he
      · rename_i o k' n _ k2 es ho
        split at he
        · rename_i hcc
          obtain ⟨rfl, rfl⟩ := hcc
          cases he
          obtain ⟨kt, et, inf, zv, t1, t2, t3, t4, rfl⟩ := mapT_ok ht
          have hkv := opnd_ok hkey hi hv
          simp only [VR] at hkv
          have := ok_mget (P := P) (n := n) (ok := ok) s (opnd_ok hm hp hv) t1 t2 t3 t4 ho
          simpa only [execOp, hkv, Sem.run_bind, Sem.run_pure] using this
        · cases he
      · cases he
    · cases he
  | store t x y =>
    simp only [cOp] at hc
    rw [Option.bind_eq_some_iff] at hc; obtain ⟨sz, hsz, hc⟩ := hc
    rw [Option.bind_eq_some_iff] at hc; obtain ⟨x', hx, hc⟩ := hc
    rw [Option.bind_eq_some_iff] at hc; obtain ⟨y', hy, hc⟩ := hc
    cases hc
    simp only [evOp] at he
    rw [Option.bind_eq_some_iff] at he; obtain ⟨p, hp, he⟩ := he
    rw [Option.bind_eq_some_iff] at he; obtain ⟨v, hve, he⟩ := he
    split at he
    · split at he
      · rename_i rs es g' ho
        rw [Option.bind_eq_some_iff] at he; obtain ⟨c, hci, he⟩ := he
        split at he
        · rename_i hcc
          obtain ⟨rfl, h1, h2, h3⟩ := hcc
          cases he
          have := ok_st (P := P) s (opnd_ok hx hp hv) (opnd_ok hy hve hv) hsz ho hci h1 h2 h3
          simpa only [execOp, Sem.run_bind, Sem.run_pure] using this
        · cases he
      · cases he
    · cases he
  | nilCheck x =>
    simp only [cOp] at hc
    rw [Option.bind_eq_some_iff] at hc; obtain ⟨x', hx, hc⟩ := hc
    cases hc
    simp only [evOp] at he
    rw [Option.bind_eq_some_iff] at he; obtain ⟨y, hy, he⟩ := he
    have hxv := opnd_ok hx hy hv
    split at he
    · cases he
      have h' := hxv
      simp only [VR] at h'
      obtain ⟨b, off, h1, _⟩ := h'
      exact .here s (v := a.eval x) (by simp [execOp, h1]) hxv
    · cases he
      have h' := hxv
      simp only [VR] at h'
      obtain ⟨p, h1, _⟩ := h'
      exact .here s (v := a.eval x) (by simp [execOp, h1]) hxv
    · cases he
  | binOp op t x y yt =>
    simp only [cOp] at hc
    rw [Option.bind_eq_some_iff] at hc; obtain ⟨x', hx, hc⟩ := hc
    rw [Option.bind_eq_some_iff] at hc; obtain ⟨y', hy, hc⟩ := hc
    have agg : ∀ (neg : Bool) (ks : List Bool), (op = .eql ∧ neg = false ∨ op = .neq ∧ neg = true) → flatT P t = some ks → c = .eqs neg ks x' y' → OpOk P Γ w ((execOp a.eval ⟨dst, .binOp op t x y yt, type, pos, after, guard⟩).run P w) av σ' := by
      rintro neg ks hop hf rfl
      simp only [evOp] at he
      rw [Option.bind_eq_some_iff] at he; obtain ⟨u, hu, he⟩ := he
      rw [Option.bind_eq_some_iff] at he; obtain ⟨v, hvv, he⟩ := he
      split at he
      · rw [Option.bind_eq_some_iff] at he; obtain ⟨r, hr, he⟩ := he
        cases he
        have h1 := ok_eqs_agg (P := P) (xo := x) (yo := y) (op := op) (hop.imp And.left And.left) hf (opnd_ok hx hu hv) (opnd_ok hy hvv hv) hr
        refine .here s (v := .bool (if op = .neq then !r else r)) (by simp only [execOp]; rw [Sem.run_bind, h1]; rfl) ?_
        simp only [VR]
        rcases hop with ⟨rfl, rfl⟩ | ⟨rfl, rfl⟩ <;> simp
      · cases he
    have bool : ∀ (neg : Bool), (op = .eql ∧ neg = false ∨ op = .neq ∧ neg = true) → P.underlying t = some .bool → c = .eqb neg x' y' → OpOk P Γ w ((execOp a.eval ⟨dst, .binOp op t x y yt, type, pos, after, guard⟩).run P w) av σ' := by
      rintro neg hop hf rfl
      simp only [evOp] at he
      rw [Option.bind_eq_some_iff] at he; obtain ⟨u, hu, he⟩ := he
      rw [Option.bind_eq_some_iff] at he; obtain ⟨v, hvv, he⟩ := he
      split at he
      · rename_i b1 b2
        cases he
        have e1 := opnd_ok hx hu hv
        have e2 := opnd_ok hy hvv hv
        simp only [VR] at e1 e2
        have h1 := ok_eqb (P := P) (w := w) (x := b1) (y := b2) (xo := x) (yo := y) (op := op) (hop.imp And.left And.left) hf
        refine .here s (v := .bool (if op = .neq then !(b1 == b2) else b1 == b2)) (by simp only [execOp, e1, e2]; rw [Sem.run_bind, h1]; rfl) ?_
        simp only [VR]
        rcases hop with ⟨rfl, rfl⟩ | ⟨rfl, rfl⟩ <;> simp
      · cases he
    have bin : c = .bin op x' y' → OpOk P Γ w ((execOp a.eval ⟨dst, .binOp op t x y yt, type, pos, after, guard⟩).run P w) av σ' := by
      rintro rfl
      simp only [evOp] at he
      rw [Option.bind_eq_some_iff] at he; obtain ⟨u, hu, he⟩ := he
      rw [Option.bind_eq_some_iff] at he; obtain ⟨v, hvv, he⟩ := he
      rw [Option.bind_eq_some_iff] at he; obtain ⟨r, hr, he⟩ := he
      cases he
      obtain ⟨z, h1, h2⟩ := ok_bin (P := P) (t := t) (xo := x) (yo := y) (opnd_ok hx hu hv) (opnd_ok hy hvv hv) hr
      exact .here s (v := z) (by simp only [execOp]; rw [Sem.run_bind, h1]; rfl) h2
    split at hc
    · rw [Option.bind_eq_some_iff] at hc; obtain ⟨ks, hks, hc⟩ := hc
      cases hc; exact agg _ _ (.inl ⟨rfl, rfl⟩) hks rfl
    · rw [Option.bind_eq_some_iff] at hc; obtain ⟨ks, hks, hc⟩ := hc
      cases hc; exact agg _ _ (.inl ⟨rfl, rfl⟩) hks rfl
    · rw [Option.bind_eq_some_iff] at hc; obtain ⟨ks, hks, hc⟩ := hc
      cases hc; exact agg _ _ (.inr ⟨rfl, rfl⟩) hks rfl
    · rw [Option.bind_eq_some_iff] at hc; obtain ⟨ks, hks, hc⟩ := hc
      cases hc; exact agg _ _ (.inr ⟨rfl, rfl⟩) hks rfl
    · cases hc; exact bool _ (.inl ⟨rfl, rfl⟩) ‹_› rfl
    · cases hc; exact bool _ (.inr ⟨rfl, rfl⟩) ‹_› rfl
    · cases hc; exact bin rfl
    · cases hc; exact bin rfl
    · cases hc
  | unOp op t x =>
    simp only [cOp] at hc
    rw [Option.bind_eq_some_iff] at hc; obtain ⟨x', hx, hc⟩ := hc
    cases hc
    simp only [evOp] at he
    rw [Option.bind_eq_some_iff] at he; obtain ⟨y, hy, he⟩ := he
    have hxv := opnd_ok hx hy hv
    split at he
    · cases he
      simp only [VR] at hxv
      exact .here s (by simp only [execOp, hxv, Op.unary]; rfl) (by simp only [VR])
    · cases he
      simp only [VR] at hxv
      exact .here s (by simp only [execOp, hxv, Op.unary, Op.intArith]; rfl) (by simp only [VR])
    · cases he
  | convert sT dT x =>
    simp only [cOp] at hc
    rw [Option.bind_eq_some_iff] at hc; obtain ⟨x', hx, hc⟩ := hc
    split at hc
    · rename_i k1 k2 hs hd
      cases hc
      simp only [evOp] at he
      rw [Option.bind_eq_some_iff] at he; obtain ⟨y, hy, he⟩ := he
      have hxv := opnd_ok hx hy hv
      split at he
      · cases he
        simp only [VR] at hxv
        refine .here s (v := .int k2 (k2.wrap _)) (by simp [execOp, hxv, convert, run_underlying hs, run_underlying hd, Conv.intToInt]; rfl) (by simp only [VR])
      · cases he
    · cases hc
  | makeFunc f first cap =>
    simp only [cOp] at hc
    rw [Option.bind_eq_some_iff] at hc; obtain ⟨x', hx, hc⟩ := hc
    rw [Option.bind_eq_some_iff] at hc; obtain ⟨y', hy, hc⟩ := hc
    cases hc
    simp only [evOp] at he
    rw [Option.bind_eq_some_iff] at he; obtain ⟨u, hu, he⟩ := he
    rw [Option.bind_eq_some_iff] at he; obtain ⟨v, hvv, he⟩ := he
    cases he
    refine .here s (v := .func f (first.map a.eval) (cap.map a.eval)) (by simp [execOp, Instr.makeFunc]) ?_
    simp only [VR]
    refine ⟨first.toList.map a.eval, cap.toList.map a.eval, ?_, opnds_ok hx hu hv, opnds_ok hy hvv hv⟩
    congr 1 <;> (apply Array.ext'; simp)
  | makeSlice t l c' =>
    simp only [cOp] at hc
    rw [Option.bind_eq_some_iff] at hc; obtain ⟨el, hel, hc⟩ := hc
    rw [Option.bind_eq_some_iff] at hc; obtain ⟨z, hz, hc⟩ := hc
    rw [Option.bind_eq_some_iff] at hc; obtain ⟨by', hby, hc⟩ := hc
    rw [Option.bind_eq_some_iff] at hc; obtain ⟨x', hx, hc⟩ := hc
    rw [Option.bind_eq_some_iff] at hc; obtain ⟨y', hy, hc⟩ := hc
    cases hc
    simp only [evOp] at he
    rw [Option.bind_eq_some_iff] at he; obtain ⟨u, hu, he⟩ := he
    rw [Option.bind_eq_some_iff] at he; obtain ⟨v, hvv, he⟩ := he
    split at he
    · split at he
      · rename_i hcc
        cases he
        have e1 := opnd_ok hx hu hv
        have e2 := opnd_ok hy hvv hv
        simp only [VR] at e1 e2
        have := ok_mksl (P := P) s (elemT_ok hel) (zH_zv hz) hby hcc.1 hcc.2.1 hcc.2.2.1 hcc.2.2.2.1 hcc.2.2.2.2.1
        simpa only [execOp, Sem.run_bind, Sem.run_pure, e1, e2] using this
      · cases he
    · cases he
  | slice t x lo hi mx =>
    simp only [cOp] at hc
    rw [Option.bind_eq_some_iff] at hc; obtain ⟨x', hx, hc⟩ := hc
    rw [Option.bind_eq_some_iff] at hc; obtain ⟨lo', hlo, hc⟩ := hc
    rw [Option.bind_eq_some_iff] at hc; obtain ⟨hi', hhi, hc⟩ := hc
    rw [Option.bind_eq_some_iff] at hc; obtain ⟨mx', hmx, hc⟩ := hc
    have isS : ∀ {x : Option Operand} {y : Option Opnd}, cOpt x = some y → (y.isSome = x.isSome) := fun {x y} h => by
      cases x with
      | none => simp only [cOpt] at h; cases h; rfl
      | some x => simp only [cOpt] at h; obtain ⟨z, _, h⟩ := Option.bind_eq_some_iff.1 h; cases h; rfl
    have arg : ∀ {d n : Int} {x : Option Operand} {x' : Option Opnd}, cOpt x = some x' → optInt e d x' = some n → (x.map a.eval = none ∧ n = d) ∨ ∃ k, x.map a.eval = some (.int k n) := fun h1 h2 => by
      rcases optInt_ok h1 h2 hv with ⟨rfl, h⟩ | h
      · exact .inl ⟨rfl, h⟩
      · exact .inr h
    split at hc
    · rename_i el hu
      rw [Option.bind_eq_some_iff] at hc; obtain ⟨sz, hsz, hc⟩ := hc
      cases hc
      simp only [evOp] at he
      rw [Option.bind_eq_some_iff] at he; obtain ⟨y, hy, he⟩ := he
      have hxv := opnd_ok hx hy hv
      split at he
      · rename_i es clip
        rw [Option.bind_eq_some_iff] at he; obtain ⟨l, hl, he⟩ := he
        rw [Option.bind_eq_some_iff] at he; obtain ⟨h', hh, he⟩ := he
        rw [Option.bind_eq_some_iff] at he; obtain ⟨m, hm, he⟩ := he
        split at he
        · rename_i hcc
          obtain ⟨c1, c2, c3, c4, c5, c6, c7⟩ := hcc
          cases he
          have hmm : (mx.map a.eval = none ∧ m = h') ∨ ((∃ k, mx.map a.eval = some (.int k m)) ∧ hi.map a.eval ≠ none) := by
            rcases arg hmx hm with h1 | h1
            · exact .inl h1
            · refine .inr ⟨h1, fun hn => ?_⟩
              obtain ⟨k, h1⟩ := h1
              have h2 : mx.isSome = true := by cases mx <;> simp_all
              rw [← isS hmx] at h2
              have h3 := c7 h2
              rw [isS hhi] at h3
              cases hi <;> simp_all
          obtain ⟨v, g1, g2⟩ := ok_slc_fsl (P := P) (if mx'.isSome = true then decide (m = h') else clip && decide (h' = es.length)) hxv hu hsz (by
              cases es with
              | nil => exact .inl rfl
              | cons x es => exact .inr ⟨x, by simp, okRows_len c6 x (by simp)⟩) (arg hlo hl) (arg hhi hh) hmm c1 c2 c4 c5 c3 (fun hcl => by
              split at hcl
              · rename_i h3
                rw [isS hmx] at h3
                exact .inr ⟨by cases mx <;> simp_all, of_decide_eq_true hcl⟩
              · rename_i h3
                rw [isS hmx] at h3
                simp only [Bool.and_eq_true, decide_eq_true_eq] at hcl
                exact .inl ⟨by cases mx <;> simp_all, hcl⟩)
          exact .here s (v := v) (by simp only [execOp, Sem.run_bind, g1]; rfl) g2
        · cases he
      · rename_i o g off len clip
        split at he
        · rename_i rs es g' ho
          rw [Option.bind_eq_some_iff] at he; obtain ⟨l, hl, he⟩ := he
          rw [Option.bind_eq_some_iff] at he; obtain ⟨h', hh, he⟩ := he
          rw [Option.bind_eq_some_iff] at he; obtain ⟨m, hm, he⟩ := he
          split at he
          · rename_i hcc
            obtain ⟨c1, c2, c3, c4, c5, rfl, rfl, c7⟩ := hcc
            cases he
            have hO := s.obj o _ ho
            simp only [OR] at hO
            have hmm : (mx.map a.eval = none ∧ m = h') ∨ ((∃ k, mx.map a.eval = some (.int k m)) ∧ hi.map a.eval ≠ none) := by
              rcases arg hmx hm with h1 | h1
              · exact .inl h1
              · refine .inr ⟨h1, fun hn => ?_⟩
                obtain ⟨k, h1⟩ := h1
                have h2 : mx.isSome = true := by cases mx <;> simp_all
                rw [← isS hmx] at h2
                have h3 := c7 h2
                rw [isS hhi] at h3
                cases hi <;> simp_all
            obtain ⟨v, g1, g2⟩ := ok_slc_sl (P := P) (if mx'.isSome = true then decide (m = h') else clip && decide (h' = len)) hxv hu hsz (fun _ => hO.2.1) (arg hlo hl) (arg hhi hh) hmm c1 c2 c4 c5 c3 (fun hcl => by
                split at hcl
                · rename_i h3
                  rw [isS hmx] at h3
                  exact .inr ⟨by cases mx <;> simp_all, of_decide_eq_true hcl⟩
                · rename_i h3
                  rw [isS hmx] at h3
                  simp only [Bool.and_eq_true, decide_eq_true_eq] at hcl
                  exact .inl ⟨by cases mx <;> simp_all, hcl⟩)
            exact .here s (v := v) (by simp only [execOp, Sem.run_bind, g1]; rfl) g2
          · cases he
        · cases he
      · cases he
    · rename_i hu
      split at hc
      · rename_i hmn
        cases hc
        have hmx0 : mx = none := by
          have := isS hmx
          cases mx <;> cases mx' <;> simp_all
        subst hmx0
        simp only [evOp] at he
        rw [Option.bind_eq_some_iff] at he; obtain ⟨y, hy, he⟩ := he
        have hxv := opnd_ok hx hy hv
        split at he
        · rename_i str
          rw [Option.bind_eq_some_iff] at he; obtain ⟨l, hl, he⟩ := he
          rw [Option.bind_eq_some_iff] at he; obtain ⟨h', hh, he⟩ := he
          split at he
          · rename_i hcc
            obtain ⟨c1, c2, c3⟩ := hcc
            cases he
            simp only [VR] at hxv
            have e1 : (h'.toNat : Int) = h' := Int.toNat_of_nonneg (by omega)
            have g1 : 0 ≤ h' := by omega
            have hb : (Instr.sliceBounds false str.size str.size (lo.map a.eval) (hi.map a.eval) none).run P w = .ok (l.toNat, h'.toNat, str.size) w := by
              rcases arg hlo hl with ⟨q1, rfl⟩ | ⟨k1, q1⟩ <;> rcases arg hhi hh with ⟨q2, rfl⟩ | ⟨k2, q2⟩ <;> rw [q1, q2] <;> simp [Instr.sliceBounds, run_sliceBound, *]
            have hr : (Instr.sliceAt t (.string str) (lo.map a.eval) (hi.map a.eval) none).run P w = .ok (.string (str.extract l.toNat h'.toNat)) w := by
              simp [Instr.sliceAt, Instr.slice, run_underlying hu, hb]
            exact .here s (v := .string (str.extract l.toNat h'.toNat)) (by simp only [execOp, Sem.run_bind, hxv]; rw [show (none : Option Operand).map a.eval = none from rfl, hr]; rfl) (by simp only [VR])
          · cases he
        · cases he
      · cases hc
    · cases hc
  | fieldAddr t x f =>
    simp only [cOp] at hc
    split at hc
    · rename_i fs hu
      rw [Option.bind_eq_some_iff] at hc; obtain ⟨fd, hfd, hc⟩ := hc
      rw [Option.bind_eq_some_iff] at hc; obtain ⟨sz, hsz, hc⟩ := hc
      split at hc
      · cases hc
      · rename_i h0
        rw [Option.bind_eq_some_iff] at hc; obtain ⟨x', hx, hc⟩ := hc
        cases hc
        simp only [evOp] at he
        rw [Option.bind_eq_some_iff] at he; obtain ⟨y, hy, he⟩ := he
        have hxv := opnd_ok hx hy hv
        split at he
        · cases he
          obtain ⟨v, h1, h2⟩ := ok_faddr (P := P) hxv hu hfd hsz h0 (.inl ⟨_, rfl, rfl⟩)
          exact .here s (v := v) (by simp only [execOp, Sem.run_bind, h1]; rfl) h2
        · cases he
          obtain ⟨v, h1, h2⟩ := ok_faddr (P := P) hxv hu hfd hsz h0 (.inr ⟨_, _, _, _, rfl, rfl⟩)
          exact .here s (v := v) (by simp only [execOp, Sem.run_bind, h1]; rfl) h2
        · cases he
    · cases hc
  | field t x f =>
    simp only [cOp] at hc
    split at hc
    · rename_i fs hu
      rw [Option.bind_eq_some_iff] at hc; obtain ⟨fd, hfd, hc⟩ := hc
      rw [Option.bind_eq_some_iff] at hc; obtain ⟨sz, hsz, hc⟩ := hc
      split at hc
      · cases hc
      · split at hc
        · rename_i h0 hcc
          rw [Option.bind_eq_some_iff] at hc; obtain ⟨x', hx, hc⟩ := hc
          cases hc
          simp only [evOp] at he
          rw [Option.bind_eq_some_iff] at he; obtain ⟨y, hy, he⟩ := he
          have hxv := opnd_ok hx hy hv
          split at he
          · rw [Option.bind_eq_some_iff] at he; obtain ⟨r, hr, he⟩ := he
            cases he
            simp only [VR] at hxv
            obtain ⟨vs, h3, h4⟩ := hxv
            obtain ⟨v, h1, h2⟩ := ok_part (P := P) h4 hsz hcc.1 hcc.2 hr
            exact .here s (v := v) (by simp [execOp, Instr.field, run_underlying hu, hfd, asAgg, h3, h1]) h2
          · cases he
        · cases hc
    · cases hc
  | indexAddr t x i =>
    simp only [cOp] at hc
    rw [Option.bind_eq_some_iff] at hc; obtain ⟨x', hx, hc⟩ := hc
    rw [Option.bind_eq_some_iff] at hc; obtain ⟨i', hi, hc⟩ := hc
    split at hc
    · rename_i el hu
      rw [Option.bind_eq_some_iff] at hc; obtain ⟨sz, hsz, hc⟩ := hc
      split at hc
      · cases hc
      · cases hc
        simp only [evOp] at he
        rw [Option.bind_eq_some_iff] at he; obtain ⟨y, hy, he⟩ := he
        rw [Option.bind_eq_some_iff] at he; obtain ⟨n, hn, he⟩ := he
        have hxv := opnd_ok hx hy hv
        have hnv := opnd_ok hi hn hv
        split at he
        · rename_i k n
          simp only [VR] at hnv
          split at he
          · rename_i h0
            split at he
            · rw [Option.bind_eq_some_iff] at he; obtain ⟨c, hci, he⟩ := he
              split at he
              · cases he
                obtain ⟨v, h1, h2⟩ := ok_iaddr_fsl (P := P) (k := k) hxv hu hsz h0 hci ‹_›
                exact .here s (v := v) (by simp only [execOp, Sem.run_bind, hnv, h1]; rfl) h2
              · cases he
            · split at he
              · rename_i rs es g' ho
                split at he
                · rename_i hcc
                  obtain ⟨rfl, rfl, h3⟩ := hcc
                  cases he
                  obtain ⟨v, h1, h2⟩ := ok_iaddr_sl (P := P) (k := k) s hxv hu hsz h0 ho h3
                  exact .here s (v := v) (by simp only [execOp, Sem.run_bind, hnv, h1]; rfl) h2
                · cases he
              · cases he
            · cases he
          · cases he
        · cases he
    · rename_i m el hu
      rw [Option.bind_eq_some_iff] at hc; obtain ⟨sz, hsz, hc⟩ := hc
      split at hc
      · cases hc
      · cases hc
        simp only [evOp] at he
        rw [Option.bind_eq_some_iff] at he; obtain ⟨y, hy, he⟩ := he
        rw [Option.bind_eq_some_iff] at he; obtain ⟨n, hn, he⟩ := he
        have hxv := opnd_ok hx hy hv
        have hnv := opnd_ok hi hn hv
        split at he
        · rename_i k n
          simp only [VR] at hnv
          split at he
          · rename_i h0
            split at he
            · cases he
              obtain ⟨v, h1, h2⟩ := ok_iaddrA (P := P) (k := k) hxv hu hsz h0.1 h0.2 (.inl ⟨_, rfl, rfl⟩)
              exact .here s (v := v) (by simp only [execOp, Sem.run_bind, hnv, h1]; rfl) h2
            · cases he
              obtain ⟨v, h1, h2⟩ := ok_iaddrA (P := P) (k := k) hxv hu hsz h0.1 h0.2 (.inr ⟨_, _, _, _, rfl, rfl⟩)
              exact .here s (v := v) (by simp only [execOp, Sem.run_bind, hnv, h1]; rfl) h2
            · cases he
          · cases he
        · cases he
    · cases hc
  | index t x i =>
    simp only [cOp] at hc
    rw [Option.bind_eq_some_iff] at hc; obtain ⟨x', hx, hc⟩ := hc
    rw [Option.bind_eq_some_iff] at hc; obtain ⟨i', hi, hc⟩ := hc
    split at hc
    · rename_i hu
      cases hc
      simp only [evOp] at he
      rw [Option.bind_eq_some_iff] at he; obtain ⟨y, hy, he⟩ := he
      rw [Option.bind_eq_some_iff] at he; obtain ⟨n, hn, he⟩ := he
      have hxv := opnd_ok hx hy hv
      have hnv := opnd_ok hi hn hv
      split at he
      · rename_i str k n
        split at he
        · rename_i h0
          rw [Option.bind_eq_some_iff] at he; obtain ⟨b, hb, he⟩ := he
          cases he
          simp only [VR] at hxv hnv
          have hb' : str[n.toNat]? = some b := by
            have := hb
            rw [Array.getElem?_toList] at this
            obtain ⟨h5, h6⟩ := Array.getElem?_eq_some_iff.1 this
            show getElem? str n.toNat = _
            rw [getElem?_pos str n.toNat h5]
            exact congrArg some h6
          refine .here s (v := .int .u8 b.toNat) (by simp [execOp, Instr.index, asIntOf, hxv, hnv, run_underlying hu, h0, hb']) (by simp only [VR])
        · cases he
      · cases he
    · rename_i m el hu
      rw [Option.bind_eq_some_iff] at hc; obtain ⟨sz, hsz, hc⟩ := hc
      split at hc
      · cases hc
      · split at hc
        · rename_i h0 hcc
          cases hc
          simp only [evOp] at he
          rw [Option.bind_eq_some_iff] at he; obtain ⟨y, hy, he⟩ := he
          rw [Option.bind_eq_some_iff] at he; obtain ⟨n, hn, he⟩ := he
          have hxv := opnd_ok hx hy hv
          have hnv := opnd_ok hi hn hv
          split at he
          · rename_i cs k n
            split at he
            · rename_i hbb
              rw [Option.bind_eq_some_iff] at he; obtain ⟨r, hr, he⟩ := he
              cases he
              simp only [VR] at hxv hnv
              obtain ⟨vs, h3, h4⟩ := hxv
              obtain ⟨v, h1, h2⟩ := ok_part (P := P) h4 hsz hcc.1 hcc.2 hr
              obtain ⟨inf, hinf, rfl⟩ := szT_ok hsz
              have hb : 0 ≤ n ∧ n < m := ⟨hbb.1, by omega⟩
              exact .here s (v := v) (by simp [execOp, Instr.index, asIntOf, hnv, h3, run_underlying hu, hb, run_sizeOf' hinf, h1]) h2
            · cases he
          · cases he
        · cases hc
    · cases hc
  | extract x k =>
    simp only [cOp] at hc
    rw [Option.bind_eq_some_iff] at hc; obtain ⟨x', hx, hc⟩ := hc
    cases hc
    simp only [evOp] at he
    rw [Option.bind_eq_some_iff] at he; obtain ⟨y, hy, he⟩ := he
    have hxv := opnd_ok hx hy hv
    split at he
    · rw [Option.bind_eq_some_iff] at he; obtain ⟨r, hr, he⟩ := he
      cases he
      simp only [VR] at hxv
      obtain ⟨vs, h3, h4⟩ := hxv
      obtain ⟨v, h1, h2⟩ := h4.get hr
      exact .here s (v := v) (by simp [execOp, Instr.extract, h3, h1]) h2
    · cases he
  | call c' =>
    obtain ⟨callee, args, argTypes⟩ := c'
    simp only [cOp] at hc
    have two : ∀ {x y : Operand}, args.toList = [x, y] → args.map a.eval = #[a.eval x, a.eval y] := fun {x y} h => by
      apply Array.ext'; rw [Array.toList_map, h]; rfl
    split at hc
    · rename_i x hargs
      have one : args.map a.eval = #[a.eval x] := by apply Array.ext'; rw [Array.toList_map, hargs]; rfl
      split at hc
      · rename_i el hd
        rw [Option.bind_eq_some_iff] at hd; obtain ⟨t, ht, hu⟩ := hd
        rw [Option.bind_eq_some_iff] at hc; obtain ⟨x', hx, hc⟩ := hc
        cases hc
        simp only [evOp] at he
        rw [Option.bind_eq_some_iff] at he; obtain ⟨y, hy, he⟩ := he
        have hxv := opnd_ok hx hy hv
        split at he
        · cases he
          simp only [VR] at hxv
          obtain ⟨A, cp, h1, _⟩ := hxv
          exact .here s (v := goInt _) (by simp [execOp, resolve, one, invoke, builtin, Builtin.len_, ht, run_underlying hu, h1]; rfl) (by simp only [VR]; rfl)
        · cases he
          simp only [VR] at hxv
          obtain ⟨A, cp, h1, _⟩ := hxv
          exact .here s (v := goInt _) (by simp [execOp, resolve, one, invoke, builtin, Builtin.len_, ht, run_underlying hu, h1]; rfl) (by simp only [VR]; rfl)
        · cases he
      · rename_i hd
        rw [Option.bind_eq_some_iff] at hd; obtain ⟨t, ht, hu⟩ := hd
        rw [Option.bind_eq_some_iff] at hc; obtain ⟨x', hx, hc⟩ := hc
        cases hc
        simp only [evOp] at he
        rw [Option.bind_eq_some_iff] at he; obtain ⟨y, hy, he⟩ := he
        have hxv := opnd_ok hx hy hv
        split at he
        · cases he
          simp only [VR] at hxv
          exact .here s (v := goInt _) (by simp [execOp, resolve, one, invoke, builtin, Builtin.len_, ht, run_underlying hu, hxv]; rfl) (by simp only [VR]; rfl)
        · cases he
      · cases hc
    · rename_i x y hargs
      have hmap := two hargs
      have fin : ∀ (t tx : TypeId), argTypes[0]? = some t → argTypes[1]? = some tx → ((∃ e', P.underlying tx = some (.slice e')) ∨ P.underlying tx = some .string) →
          ((elemT P t).bind fun e => (szT P e).bind fun sz => (byT P e).bind fun b => (cOpnd x).bind fun s => (cOpnd y).bind fun x =>
            if sz = 0 ∨ b = 0 ∨ (zT P e).isNone = true then none else if hasIn h.appN dst = true then some (COp.appN sz b s x) else if hasIn h.appF dst = true then some (.appF sz b s x) else if hasIn h.appZ dst = true then some (.appZ sz b s x) else some (.app sz b s x)) = some c →
          OpOk P Γ w ((execOp a.eval ⟨dst, .call ⟨.builtin .append, args, argTypes⟩, type, pos, after, guard⟩).run P w) av σ' := by
        intro t tx ht htx hk hc
        rw [Option.bind_eq_some_iff] at hc; obtain ⟨el, hel, hc⟩ := hc
        rw [Option.bind_eq_some_iff] at hc; obtain ⟨sz, hsz, hc⟩ := hc
        rw [Option.bind_eq_some_iff] at hc; obtain ⟨by', hby, hc⟩ := hc
        rw [Option.bind_eq_some_iff] at hc; obtain ⟨x', hx, hc⟩ := hc
        rw [Option.bind_eq_some_iff] at hc; obtain ⟨y', hy, hc⟩ := hc
        split at hc
        · cases hc
        · rename_i hcc
          obtain ⟨c1, c2⟩ := not_or.1 hcc
          obtain ⟨c2, c3⟩ := not_or.1 c2
          have hat : argTypes.toList = t :: tx :: argTypes.toList.drop 2 := by
            have h1 : argTypes.toList[0]? = some t := by simpa using ht
            have h2 : argTypes.toList[1]? = some tx := by simpa using htx
            match hl : argTypes.toList with
            | [] => rw [hl] at h1; simp at h1
            | [q] => rw [hl] at h2; simp at h2
            | q :: q' :: r => rw [hl] at h1 h2; simp at h1 h2; simp [h1, h2]
          have hzo : ZOk P el := by
            cases hz : zT P el with
            | none => simp [hz] at c3
            | some z => obtain ⟨i, zv, q1, q2, q3, _⟩ := zT_ok hz; exact ⟨i, zv, q1, q2, q3⟩
          have hrun : (execOp a.eval ⟨dst, .call ⟨.builtin .append, args, argTypes⟩, type, pos, after, guard⟩).run P w =
              ((Builtin.append_ #[t, tx] type #[a.eval x, a.eval y]).run P w).andThen fun v w => .ok (.value v) w := by
            have : Builtin.append_ argTypes type #[a.eval x, a.eval y] = Builtin.append_ #[t, tx] type #[a.eval x, a.eval y] := by
              unfold Builtin.append_
              simp [ht, htx]
            simp [execOp, resolve, hmap, invoke, builtin, this]
          rw [hrun]
          split at hc
          · cases hc
            simp only [evOp] at he
            rw [Option.bind_eq_some_iff] at he; obtain ⟨u, hu, he⟩ := he
            rw [Option.bind_eq_some_iff] at he; obtain ⟨v, hvv, he⟩ := he
            rw [Option.bind_eq_some_iff] at he; obtain ⟨xs, hxs, he⟩ := he
            split at he
            · rename_i es
              split at he
              · rename_i hc2
                have := ok_appN (P := P) (ty := type) s (opnd_ok hx hu hv) (opnd_ok hy hvv hv) (elemT_ok hel) hk hzo hsz hby hc2.1 (by omega) hxs hc2.2.1 hc2.2.2
                split at he
                · rename_i hx0
                  cases he; rw [if_pos hx0.1, if_pos hx0.1] at this; exact this
                · rename_i hx0
                  cases he
                  by_cases hx1 : xs = []
                  · have he0 : es = [] := Classical.byContradiction fun h => hx0 ⟨hx1, h⟩
                    subst hx1; subst he0
                    rw [if_pos rfl, if_pos rfl] at this
                    simpa using this.own_empty hc2.1
                  · rw [if_neg hx1, if_neg hx1] at this; exact this
              · cases he
            · cases he
          · split at hc
            · cases hc
              simp only [evOp] at he
              rw [Option.bind_eq_some_iff] at he; obtain ⟨u, hu, he⟩ := he
              rw [Option.bind_eq_some_iff] at he; obtain ⟨v, hvv, he⟩ := he
              rw [Option.bind_eq_some_iff] at he; obtain ⟨xs, hxs, he⟩ := he
              split at he
              · rename_i es
                split at he
                · rename_i hc2
                  have := ok_appN (P := P) (ty := type) s (opnd_ok hx hu hv) (opnd_ok hy hvv hv) (elemT_ok hel) hk hzo hsz hby hc2.1 (by omega) hxs hc2.2.1 hc2.2.2
                  split at he
                  · cases he; rw [if_pos ‹_›, if_pos ‹_›] at this; exact this
                  · cases he; rw [if_neg ‹_›, if_neg ‹_›] at this; exact this.freeze (by simp)
                · cases he
              · cases he
            have appOk : ∀ (u v : AV) (xs : List (List AV)) (r : AV) (σ1 : Store), x'.ev e = some u → y'.ev e = some v → content σ v = some xs → appE sz by' u xs σ = some (r, σ1) →
                OpOk P Γ w (((Builtin.append_ #[t, tx] type #[a.eval x, a.eval y]).run P w).andThen fun v w => .ok (.value v) w) r σ1 := by
              intro u v xs r σ1 hu hvv hxs he
              unfold appE at he
              split at he
              · split at he
                · rename_i hok
                  split at he
                  · rename_i rs es g' ho
                    split at he
                    · rename_i hc2
                      obtain ⟨rfl, rfl, rfl, hle, hfit⟩ := hc2
                      have := ok_app (P := P) (ty := type) s (opnd_ok hx hu hv) (opnd_ok hy hvv hv) (elemT_ok hel) hk hzo hsz hby (by omega) (by omega) hxs hok ho hle hfit
                      split at he
                      · cases he; rw [if_pos ‹_›, if_pos ‹_›] at this; exact this
                      · cases he; rw [if_neg ‹_›, if_neg ‹_›] at this; exact this
                    · cases he
                  · cases he
                · cases he
              · rename_i es
                split at he
                · rename_i hc2
                  have := ok_appN (P := P) (ty := type) s (opnd_ok hx hu hv) (opnd_ok hy hvv hv) (elemT_ok hel) hk hzo hsz hby hc2.1 (by omega) hxs hc2.2.1 hc2.2.2
                  split at he
                  · rename_i hx0
                    cases he; rw [if_pos hx0.1, if_pos hx0.1] at this; exact this
                  · rename_i hx0
                    cases he
                    by_cases hx1 : xs = []
                    · have he0 : es = [] := Classical.byContradiction fun h => hx0 ⟨hx1, h⟩
                      subst hx1; subst he0
                      rw [if_pos rfl, if_pos rfl] at this
                      simpa using this.own_empty hc2.1
                    · rw [if_neg hx1, if_neg hx1] at this; exact this
                · cases he
              · cases he
            split at hc
            · cases hc
              simp only [evOp] at he
              rw [Option.bind_eq_some_iff] at he; obtain ⟨u, hu, he⟩ := he
              rw [Option.bind_eq_some_iff] at he; obtain ⟨v, hvv, he⟩ := he
              rw [Option.bind_eq_some_iff] at he; obtain ⟨xs, hxs, he⟩ := he
              rw [Option.bind_eq_some_iff] at he; obtain ⟨⟨r, σ1⟩, ha, he⟩ := he
              exact (appOk u v xs r σ1 hu hvv hxs ha).give he
            · cases hc
              simp only [evOp] at he
              rw [Option.bind_eq_some_iff] at he; obtain ⟨u, hu, he⟩ := he
              rw [Option.bind_eq_some_iff] at he; obtain ⟨v, hvv, he⟩ := he
              rw [Option.bind_eq_some_iff] at he; obtain ⟨xs, hxs, he⟩ := he
              exact appOk u v xs _ _ hu hvv hxs he
      split at hc
      · rename_i t el ht htx
        rw [Option.bind_eq_some_iff] at htx; obtain ⟨tx, h1, h2⟩ := htx
        exact fin t tx ht h1 (.inl ⟨_, h2⟩) hc
      · rename_i t ht htx
        rw [Option.bind_eq_some_iff] at htx; obtain ⟨tx, h1, h2⟩ := htx
        exact fin t tx ht h1 (.inr h2) hc
      · cases hc
    · rename_i x y hargs
      have hmap := two hargs
      rw [Option.bind_eq_some_iff] at hc; obtain ⟨x', hx, hc⟩ := hc
      rw [Option.bind_eq_some_iff] at hc; obtain ⟨y', hy, hc⟩ := hc
      cases hc
      simp only [evOp] at he
      rw [Option.bind_eq_some_iff] at he; obtain ⟨u, hu, he⟩ := he
      rw [Option.bind_eq_some_iff] at he; obtain ⟨v, hvv, he⟩ := he
      have e1 := opnd_ok hx hu hv
      have e2 := opnd_ok hy hvv hv
      split at he
      · cases he
        simp only [VR] at e1 e2
        rename_i k i k' j
        refine .here s (v := .int k (if j > i then j else i)) (by simp [execOp, resolve, hmap, invoke, builtin, Builtin.max_, Builtin.max2, e1, e2]) (by simp only [VR]; rfl)
      · cases he
    · rename_i x y hargs
      have hmap := two hargs
      rw [Option.bind_eq_some_iff] at hc; obtain ⟨x', hx, hc⟩ := hc
      rw [Option.bind_eq_some_iff] at hc; obtain ⟨y', hy, hc⟩ := hc
      cases hc
      simp only [evOp] at he
      rw [Option.bind_eq_some_iff] at he; obtain ⟨u, hu, he⟩ := he
      rw [Option.bind_eq_some_iff] at he; obtain ⟨v, hvv, he⟩ := he
      have e1 := opnd_ok hx hu hv
      have e2 := opnd_ok hy hvv hv
      split at he
      · cases he
        simp only [VR] at e1 e2
        rename_i k i k' j
        refine .here s (v := .int k (if j < i then j else i)) (by simp [execOp, resolve, hmap, invoke, builtin, Builtin.min_, Builtin.min2, e1, e2]) (by simp only [VR]; rfl)
      · cases he
    · cases hc
  | _ => simp [cOp] at hc
end Go.Ev
