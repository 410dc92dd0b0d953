/- Part of the proofs about this seat's program (module EvP). -/
import Derived.Test.YtbkabnhkclbepaaEvO
set_option linter.unusedSectionVars false
set_option linter.unusedSimpArgs false
set_option linter.unusedVariables false
namespace Go.Ev
open Go.RowKit (Below)
variable {P : Program} {Γ Γ' : Ctx} {w w' : World} {σ σ' : Store} {e e' : Env} {a a' : Act} {av : AV} {N : Nat}

/-! ### An activation -/
def MR (Γ : Ctx) : List Nat → List Deferred → Prop
  | [], ds => ds = []
  | m :: ms, ds => ∃ b ds', ds = { target := .collected b, args := #[] } :: ds' ∧ m < Γ.n ∧ ((Γ.loc m).g = 0 → b = (Γ.loc m).b) ∧ MR Γ ms ds'
structure AR (P : Program) (Γ : Ctx) (N : Nat) (e : Env) (σ : Store) (a : Act) (w : World) : Prop where
  ve : VE Γ w e a
  sr : SR P Γ σ w
  sz : a.tmps.size = N
  mr : MR Γ e.marks a.defers
theorem MR.mono (x : Ext Γ Γ' w w') : ∀ {ms : List Nat} {ds : List Deferred}, MR Γ ms ds → MR Γ' ms ds
  | [], ds, h => h
  | m :: ms, ds, h => by
    simp only [MR] at h ⊢
    obtain ⟨b, ds', rfl, h1, h2, h3⟩ := h
    refine ⟨b, ds', rfl, Nat.lt_of_lt_of_le h1 x.n, fun hg => ?_, MR.mono x h3⟩
    rcases x.loc m h1 with h4 | h4
    · rw [h4] at hg ⊢; exact h2 hg
    · omega
theorem put_tmps (a : Act) (d : Option Nat) (v : Value) (t : Nat) (hd : ∀ k, d = some k → k < a.tmps.size) : (a.put d v).tmps.getD t undef = if d = some t then v else a.tmps.getD t undef := by
  cases d with
  | none => simp [Act.put]
  | some k =>
    have := hd k rfl
    by_cases h : k = t
    · subst h; simp [Act.put, this]
    · simp only [Act.put, Option.some.injEq, if_neg h]
      simp [Array.getElem?_setIfInBounds_ne h]
theorem put_size (a : Act) (d : Option Nat) (v : Value) : (a.put d v).tmps.size = a.tmps.size := by cases d <;> simp [Act.put]
@[simp] theorem put_defers (a : Act) (d : Option Nat) (v : Value) : (a.put d v).defers = a.defers := by cases d <;> rfl
theorem okDst_lt {d : Option Nat} (h : okDst N d = true) : ∀ k, d = some k → k < N := by
  intro k hk; subst hk; simpa [okDst] using h
theorem AR.put (h : AR P Γ N e σ a w) {v : Value} {d : Option Nat} (hd : okDst N d = true) (hv : VR Γ' w' av v) (hs : SR P Γ' σ' w') (x : Ext Γ Γ' w w') : AR P Γ' N (e.set d av) σ' (a.put d v) w' where
  ve t u ht := by
    rw [put_tmps a d v t (by rw [h.sz]; exact okDst_lt hd)]
    have ht : (e.set d av).get t = some u := ht
    rw [get_set] at ht
    split at ht
    · cases ht; rw [if_pos ‹_›]; exact hv
    · rw [if_neg ‹_›]; exact VR.mono x _ _ (h.ve t u ht)
  sr := hs
  sz := by rw [put_size, h.sz]
  mr := by rw [marks_set, put_defers]; exact h.mr.mono x
theorem AR.unset (h : AR P Γ N e σ a w) {d : Option Nat} (hd : okDst N d = true) : AR P Γ N (e.unset d) σ (a.put d undef) w where
  ve t u ht := by
    rw [put_tmps a d undef t (by rw [h.sz]; exact okDst_lt hd)]
    have ht : (e.unset d).get t = some u := ht
    rw [get_unset] at ht
    split at ht
    · cases ht
      rw [if_pos ‹_›]
      simp only [VR, VRs]
      exact ⟨[], rfl, rfl⟩
    · rw [if_neg ‹_›]; exact h.ve t u ht
  sr := h.sr
  sz := by rw [put_size, h.sz]
  mr := by rw [marks_unset, put_defers]; exact h.mr
theorem AR.eqv (h : AR P Γ N e σ a w) (k : Eqv e e') : AR P Γ N e' σ a w := ⟨fun t u ht => h.ve t u ((k.1 t).trans ht), h.sr, h.sz, by rw [← k.2]; exact h.mr⟩
theorem AR.below (h : AR P Γ N e σ a w) (k : Below w.heap.size w w') : AR P Γ N e σ a w' := ⟨h.ve.mono (.of_below Γ k), h.sr.of_below k, h.sz, h.mr⟩

/-! ### One operation in its activation -/
theorem wp_next {ro : Option Nat} {ops : Array Oper} {Q : Exit → Act → World → Prop} {i : Nat} {o : Oper} {K : Act → World → Prop} {G : Value → World → Prop} (hi : ops[i]? = some o) (hnd : ∀ c, o.op ≠ .defer c)
    (hw : Region.wanted o (yielded ops a.tmps) = true) (h : NextOk P G ((execOp a.eval o).run P w)) (hK : ∀ v w', G v w' → K (a.put o.dst v) w') : wpOpIn (FR ro) 0 P ops Q i K a w := by
  unfold wpOpIn
  simp only [hi, hw, if_true, Oper.wpIn]
  refine ⟨fun _ _ => trivial, ?_⟩
  rw [Oper.semAt_eq _ _ _ hnd]
  generalize (execOp a.eval o).run P w = r at h
  have hB : ∀ e w', Back G e w' → ∃ v, e = .returned v ∧ K (a.put o.dst v) w' := fun e w' he => by
    cases e with
    | returned v => exact ⟨v, rfl, hK v w' he⟩
    | panicked _ => exact he.elim
    | outgrown => exact he.elim
  cases r with
  | ok nx w' =>
    cases nx <;> simp only [NextOk] at h <;> simp only [Oper.uponIn]
    · exact hK _ _ h
    · exact hK _ _ h
    · refine ⟨fun hd => by simp [Fence.wide] at hd, CallsIn.mono h fun e w' he => ?_⟩
      obtain ⟨v, rfl, h2⟩ := hB e w' he
      exact h2
    · refine ⟨fun hd => by simp [Fence.wide] at hd, RoundIn.mono h fun e w' he => ?_⟩
      obtain ⟨v, rfl, h2⟩ := hB e w' he
      exact h2
  | halt _ _ => exact h.elim

theorem cOper_parts {h : Hints} {n : Nat} {ops : Array Oper} {o : Oper} {c : COper} (hc : cOper P h n ops o = some c) :
    okDst n o.dst = true ∧ c.dst = o.dst ∧ cItem P h o = some c.it ∧ ((o.guard = none ∧ c.guard = none) ∨ ∃ j want t, o.guard = some (j, want) ∧ c.guard = some (t, want) ∧ (ops[j]?).bind (·.dst) = some t) := by
  unfold cOper at hc
  split at hc
  · rename_i hd
    rw [Option.bind_eq_some_iff] at hc
    obtain ⟨it, h1, hc⟩ := hc
    split at hc
    · rename_i hg
      cases hc
      exact ⟨hd, rfl, h1, .inl ⟨hg, rfl⟩⟩
    · rename_i j want hg
      rw [Option.bind_eq_some_iff] at hc
      obtain ⟨t, h2, hc⟩ := hc
      cases hc
      exact ⟨hd, rfl, h1, .inr ⟨j, want, t, hg, rfl, h2⟩⟩
  · cases hc
theorem cItem_noDefer {h : Hints} {o : Oper} {it : Item'} (hc : cItem P h o = some it) : ∀ c, o.op ≠ .defer c := by
  intro c hd
  unfold cItem at hc
  rw [hd] at hc
  simp [cOp, hd] at hc
theorem wanted_some {ops : Array Oper} {o : Oper} {j t : Nat} {want b : Bool} (hg : o.guard = some (j, want)) (hj : (ops[j]?).bind (·.dst) = some t) (hb : a.tmps.getD t undef = .bool b) :
    Region.wanted o (yielded ops a.tmps) = (b == want) := by
  have hlt : a.tmps[t]? = some (.bool b) := by
    rw [Array.getD_eq_getD_getElem?] at hb
    cases h : a.tmps[t]? with
    | none => rw [h] at hb; simp [undef] at hb
    | some x => rw [h] at hb; simp at hb; rw [hb]
  simp only [Region.wanted, hg, yielded, hj, Option.bind_some, hlt]
  cases b <;> cases want <;> rfl

theorem oper_wp {O : Orc} (hO : CallOk P O) (hR : RoundOk P O) {ro : Option Nat} {h : Hints} {ops : Array Oper} {Q : Exit → Act → World → Prop} {i : Nat} {o : Oper} {c : COper} {K : Act → World → Prop} {e1 : Env} {σ1 : Store}
    (hi : ops[i]? = some o) (hc : cOper P h N ops o = some c) (he : evOper O e σ c = some (e1, σ1)) (ha : AR P Γ N e σ a w) (hK : ∀ Γ' a' w', Ext Γ Γ' w w' → AR P Γ' N e1 σ1 a' w' → K a' w') :
    wpOpIn (FR ro) 0 P ops Q i K a w := by
  obtain ⟨hd, hdst, hit, hg⟩ := cOper_parts hc
  have run : (∃ r, evItem O e σ c.it = some (r, σ1) ∧ e1 = e.set c.dst r) → Region.wanted o (yielded ops a.tmps) = true → wpOpIn (FR ro) 0 P ops Q i K a w := by
    rintro ⟨r, h1, rfl⟩ hw
    refine wp_next hi (cItem_noDefer hit) hw (item_ok hO hR hit h1 ha.ve ha.sr) ?_
    rintro v w' ⟨Γ', h2, h3, h4⟩
    rw [hdst] at hK
    exact hK Γ' _ w' h4 (ha.put hd h2 h3 h4)
  unfold evOper at he
  rcases hg with ⟨h1, h2⟩ | ⟨j, want, t, h1, h2, h3⟩
  · rw [h2] at he
    simp only [Option.bind_eq_some_iff] at he
    obtain ⟨⟨r, s1⟩, h3, he⟩ := he
    cases he
    exact run ⟨r, h3, rfl⟩ (by simp [Region.wanted, h1])
  · rw [h2] at he
    simp only [Option.bind_eq_some_iff] at he
    obtain ⟨bv, h4, he⟩ := he
    split at he
    · rename_i b
      have hb := ha.ve t _ h4
      simp only [VR] at hb
      have hw := wanted_some h1 h3 hb
      split at he
      · rename_i hbw
        simp only [Option.bind_eq_some_iff] at he
        obtain ⟨⟨r, s1⟩, h5, he⟩ := he
        cases he
        exact run ⟨r, h5, rfl⟩ (by rw [hw, hbw]; simp)
      · rename_i hbw
        cases he
        unfold wpOpIn
        simp only [hi]
        rw [if_neg (by rw [hw]; simpa using hbw)]
        exact ⟨fun _ _ => trivial, hK Γ _ w (Ext.refl _ _) (by rw [hdst]; exact ha.unset hd)⟩
    · have hb := ha.ve t _ h4
      simp only [VR, VRs] at hb
      obtain ⟨vs, hb, rfl⟩ := hb
      cases he
      have hw : ¬ Region.wanted o (yielded ops a.tmps) = true := by
        have hx : ∀ x, a.tmps[t]? = some x → x = .tuple #[] := fun x hx => by
          rw [Array.getD_eq_getD_getElem?, hx] at hb; exact hb
        simp only [Region.wanted, h1, yielded, h3, Option.bind_some]
        cases hz : a.tmps[t]? with
        | none => simp
        | some x => rw [hx x hz]; simp
      unfold wpOpIn
      simp only [hi]
      rw [if_neg hw]
      exact ⟨fun _ _ => trivial, hK Γ _ w (Ext.refl _ _) (by rw [hdst]; exact ha.unset hd)⟩
    · cases he

/-! ### A region in the order of its text -/
def pickOps (cs : List COper) (l : List Nat) : List COper := l.filterMap (cs[·]?)
theorem pickOps_cons {cs : List COper} {i : Nat} {c : COper} (h : cs[i]? = some c) (l : List Nat) : pickOps cs (i :: l) = c :: pickOps cs l := by simp [pickOps, h]
theorem pickOps_range : ∀ (cs : List COper), pickOps cs (List.range cs.length) = cs
  | [] => rfl
  | c :: cs => by
    have ih := pickOps_range cs
    unfold pickOps at ih ⊢
    rw [List.length_cons, List.range_succ_eq_map, List.filterMap_cons]
    simp only [List.getElem?_cons_zero, List.filterMap_map]
    rw [show ((fun x => (c :: cs)[x]?) ∘ Nat.succ) = fun x => cs[x]? from funext fun x => by simp]
    rw [ih]
theorem ops_wp {O : Orc} (hO : CallOk P O) (hR : RoundOk P O) {ro : Option Nat} {h : Hints} {ops : Array Oper} {cs : List COper} {Q : Exit → Act → World → Prop} (hcs : omap (cOper P h N ops) ops.toList = some cs) {e' : Env} {σ' : Store} :
    ∀ (l : List Nat) {e : Env} {σ : Store} {Γ : Ctx} {a : Act} {w : World}, (∀ i ∈ l, i < ops.size) → evOpers O (pickOps cs l) e σ = some (e', σ') → AR P Γ N e σ a w →
      (∀ Γ' a' w', Ext Γ Γ' w w' → AR P Γ' N e' σ' a' w' → Q .normal a' w') → wpOpsIn (FR ro) 0 P ops Q l a w
  | [], e, σ, Γ, a, w, _, he, ha, hq => by
    simp only [pickOps, List.filterMap_nil, evOpers] at he
    cases he
    exact hq Γ a w (Ext.refl _ _) ha
  | i :: l, e, σ, Γ, a, w, hl, he, ha, hq => by
    rw [wpOpsIn_cons]
    have hi : i < ops.size := hl i (by simp)
    have ho : ops[i]? = some ops[i] := by simp [hi]
    obtain ⟨c, hc, hco⟩ := omap_get hcs (i := i) (a := ops[i]) (by simp [hi])
    rw [pickOps_cons hc] at he
    simp only [evOpers, Option.bind_eq_some_iff] at he
    obtain ⟨⟨e1, σ1⟩, h1, h2⟩ := he
    exact oper_wp hO hR ho hco h1 ha fun Γ1 a1 w1 x1 ha1 => ops_wp hO hR hcs l (fun j hj => hl j (by simp [hj])) h2 ha1 fun Γ2 a2 w2 x2 ha2 => hq Γ2 a2 w2 (x1.trans x2) ha2
end Go.Ev
