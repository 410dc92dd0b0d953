/- Part of the proofs about this seat's program (module EvQ). -/
import Derived.Test.YtbkabnhkclbepaaEvP
set_option linter.unusedSectionVars false
set_option linter.unusedSimpArgs false
set_option linter.unusedVariables false
namespace Go.Ev
open Go.RowKit (Below)
variable {P : Program} {Γ Γ' : Ctx} {w w' : World} {σ σ' : Store} {e e' : Env} {a a' : Act} {av : AV} {N : Nat}

/-! ### Who waits for whom -/
theorem befs_spec : ∀ (l : List Oper) (acc : List Nat), (befs l acc).length = acc.length + l.length ∧ (befs l acc).take acc.length = acc ∧
    ∀ k o, l[k]? = some o → (befs l acc)[acc.length + k]? = some (bits ((befs l acc).take (acc.length + k)) o.after.toList)
  | [], acc => ⟨by simp [befs], by simp [befs], by simp⟩
  | o :: r, acc => by
    obtain ⟨h1, h2, h3⟩ := befs_spec r (acc ++ [bits acc o.after.toList])
    have hlen : (acc ++ [bits acc o.after.toList]).length = acc.length + 1 := by simp
    rw [hlen] at h1 h2 h3
    simp only [befs]
    have hacc : (befs r (acc ++ [bits acc o.after.toList])).take acc.length = acc := by
      have := congrArg (List.take acc.length) h2
      rw [List.take_take, Nat.min_eq_left (by omega)] at this
      rw [this]; simp
    refine ⟨by rw [h1]; simp; omega, hacc, fun k o' hk => ?_⟩
    cases k with
    | zero =>
      simp at hk; subst hk
      rw [Nat.add_zero, hacc]
      have := congrArg (fun l => l[acc.length]?) h2
      simp only [List.getElem?_take] at this
      rw [if_pos (by omega)] at this
      rw [this]; simp
    | succ k =>
      have := h3 k o' (by simpa using hk)
      rw [show acc.length + (k + 1) = acc.length + 1 + k from by omega]
      exact this
theorem rowOk_spec {b : COper} {bj : Nat} : ∀ {l : List COper} {i : Nat}, rowOk b bj l i = true → ∀ {m : Nat} {a : COper}, l[m]? = some a → bj.testBit (i + m) = true ∨ apartC a b = true
  | [], _, _, m, a, hm => by simp at hm
  | x :: l, i, h, m, a, hm => by
    simp only [rowOk, Bool.and_eq_true, Bool.or_eq_true] at h
    cases m with
    | zero => simp at hm; subst hm; simpa using h.1
    | succ m =>
      have := rowOk_spec h.2 (m := m) (a := a) (by simpa using hm)
      rw [show i + (m + 1) = i + 1 + m from by omega]; exact this
theorem rowsOk_spec : ∀ {cs done : List COper} {bs : List Nat}, rowsOk done cs bs = true → ∀ {k : Nat} {b : COper}, cs[k]? = some b → ∃ bj, bs[k]? = some bj ∧ rowOk b bj (done ++ cs.take k) 0 = true
  | [], _, _, _, k, b, hk => by simp at hk
  | c :: cs, done, [], h, k, b, hk => by simp [rowsOk] at h
  | c :: cs, done, bj :: bs, h, k, b, hk => by
    simp only [rowsOk, Bool.and_eq_true] at h
    cases k with
    | zero => simp at hk; subst hk; exact ⟨bj, by simp, by simpa using h.1⟩
    | succ k =>
      obtain ⟨b2, h1, h2⟩ := rowsOk_spec h.2 (k := k) (b := b) (by simpa using hk)
      exact ⟨b2, by simpa using h1, by simpa using h2⟩
theorem bits_spec {acc : List Nat} {j : Nat} : ∀ {l : List Edge}, (bits acc l).testBit j = true → ∃ ed ∈ l, Region.binds .any ed = true ∧ (j = ed.on ∨ (acc.getD ed.on 0).testBit j = true)
  | [], h => by simp [bits] at h
  | x :: l, h => by
    simp only [bits] at h
    split at h
    · rename_i hb
      simp only [Nat.testBit_or, Bool.or_eq_true] at h
      rcases h with h | h | h
      · refine ⟨x, by simp, hb, .inl ?_⟩
        rw [Nat.testBit_two_pow] at h
        simpa using (of_decide_eq_true h).symm
      · exact ⟨x, by simp, hb, .inr h⟩
      · obtain ⟨ed, h1, h2⟩ := bits_spec h
        exact ⟨ed, by simp [h1], h2⟩
    · obtain ⟨ed, h1, h2⟩ := bits_spec h
      exact ⟨ed, by simp [h1], h2⟩
theorem edgesLt_spec : ∀ {l : List Oper} {i : Nat}, edgesLt l i = true → ∀ {k : Nat} {o : Oper}, l[k]? = some o → ∀ ed ∈ o.after, Region.binds .any ed = true → ed.on < i + k
  | [], _, _, k, o, hk => by simp at hk
  | x :: l, i, h, k, o, hk => by
    simp only [edgesLt, Bool.and_eq_true, List.all_eq_true, Bool.or_eq_true, Bool.not_eq_true', decide_eq_true_eq] at h
    cases k with
    | zero => simp at hk; subst hk; intro ed hed hb; exact (h.1 ed (by simpa using hed)).resolve_left (by simp [hb])
    | succ k =>
      intro ed hed hb
      have := edgesLt_spec h.2 (k := k) (o := o) (by simpa using hk) ed hed hb
      omega

/-- Whoever is listed: whom it waits for is listed too. -/
def Closed (ops : Array Oper) (listed : Array Bool) : Prop := ∀ (j : Nat) (o : Oper), ops[j]? = some o → listed.getD j false = true → ∀ ed ∈ o.after, Region.binds .any ed = true → listed.getD ed.on false = true

theorem bits_listed {ops : Array Oper} {listed : Array Bool} (hlt : edgesLt ops.toList 0 = true) (hcl : Closed ops listed) : ∀ (i : Nat) (o : Oper), ops[i]? = some o → (∀ ed ∈ o.after, Region.binds .any ed = true → listed.getD ed.on false = true) →
    ∀ bj, (befs ops.toList [])[i]? = some bj → ∀ j, bj.testBit j = true → listed.getD j false = true := by
  intro i
  induction i using Nat.strongRecOn with
  | _ i ih =>
    intro o ho hall bj hbj j hj
    have hsp := (befs_spec ops.toList []).2.2 i o (by simpa using ho)
    simp only [List.length_nil, Nat.zero_add] at hsp
    rw [hsp] at hbj
    cases hbj
    obtain ⟨ed, h1, h2, h3⟩ := bits_spec hj
    have hed : ed ∈ o.after := by simpa using h1
    rcases h3 with rfl | h3
    · exact hall ed hed h2
    · have hlt' : ed.on < i := by simpa using edgesLt_spec hlt (k := i) (o := o) (by simpa using ho) ed hed h2
      obtain ⟨o', ho'⟩ : ∃ o', ops[ed.on]? = some o' := ⟨_, Array.getElem?_eq_getElem (Nat.lt_trans hlt' (Array.getElem?_eq_some_iff.1 ho).1)⟩
      refine ih ed.on hlt' o' ho' (hcl ed.on o' ho' (hall ed hed h2)) _ ?_ j h3
      have hsp' := (befs_spec ops.toList []).2.2 ed.on o' (by simpa using ho')
      simp only [List.length_nil, Nat.zero_add] at hsp'
      rw [List.getD_eq_getElem?_getD, List.getElem?_take, if_pos hlt', hsp']
      rfl

/-! ### What is asked of the operands of loads -/
theorem lo_ofLeaf (n : Nat) (v : Value) : (ofLeaf v).lo n = true := by
  unfold ofLeaf; split <;> simp [AV.lo, loss]
theorem lo_ofTop (n : Nat) (v : Value) : (ofTop v).lo n = true := by
  unfold ofTop; split <;> simp [AV.lo, loss]
theorem los_ofLeaf (n : Nat) : ∀ (l : List Value), los n (l.map ofLeaf) = true
  | [] => rfl
  | v :: vs => by simp only [List.map_cons, los, lo_ofLeaf, los_ofLeaf n vs, Bool.and_self]
theorem lo_ofV (n : Nat) (v : Value) : (ofV v).lo n = true := by
  unfold ofV; split
  · simp only [AV.lo]; exact los_ofLeaf n _
  · exact lo_ofTop n _
theorem okC_of {x : Operand} {x' : Opnd} (h : cOpnd x = some x') : x'.okC = true := by
  unfold cOpnd at h
  split at h
  · cases h; rfl
  · cases h
  · cases h; exact lo_ofV 0 _
  · cases h; rfl
  · cases h
theorem load_okC {h : Hints} {o : Oper} {it : Item'} (hc : cItem P h o = some it) : loadC' it = true := by
  unfold cItem at hc
  split at hc
  · rw [Option.bind_eq_some_iff] at hc
    obtain ⟨as, h1, hc⟩ := hc
    split at hc
    · split at hc
      · cases hc; rfl
      · split at hc
        · cases hc; rfl
        · split at hc
          · cases hc; rfl
          · split at hc <;> (cases hc; rfl)
    · rw [Option.bind_eq_some_iff] at hc
      obtain ⟨f', h2, hc⟩ := hc
      cases hc; rfl
  · rw [Option.bind_eq_some_iff] at hc
    obtain ⟨c, h1, hc⟩ := hc
    cases hc
    unfold loadC'
    split
    · rename_i sz ag x heq
      cases heq
      unfold cOp at h1
      (repeat' (first | (obtain ⟨_, _, h1⟩ := h1) | split at h1 | rw [Option.bind_eq_some_iff] at h1)) <;> first
        | (cases h1; done)
        | exact okC_of (by assumption)
    · rename_i sz ag x av heq
      cases heq
      unfold cOp at h1
      (repeat' (first | (obtain ⟨_, _, h1⟩ := h1) | split at h1 | rw [Option.bind_eq_some_iff] at h1)) <;> first
        | (cases h1; done)
        | exact okC_of (by assumption)
    · rename_i ok k z x key heq
      cases heq
      unfold cOp at h1
      (repeat' (first | (obtain ⟨_, _, h1⟩ := h1) | split at h1 | rw [Option.bind_eq_some_iff] at h1)) <;> first
        | (cases h1; done)
        | exact okC_of (by assumption)
    · rename_i sz x i heq
      cases heq
      unfold cOp at h1
      (repeat' (first | (obtain ⟨_, _, h1⟩ := h1) | split at h1 | rw [Option.bind_eq_some_iff] at h1)) <;> first
        | (cases h1; done)
        | exact okC_of (by assumption)
    · rename_i sz x lo hi mx heq
      cases heq
      unfold cOp at h1
      (repeat' (first | (obtain ⟨_, _, h1⟩ := h1) | split at h1 | rw [Option.bind_eq_some_iff] at h1)) <;> first
        | (cases h1; done)
        | exact okC_of (by assumption)
    · rfl
theorem AR.known (h : AR P Γ N e σ a w) : Known σ.length e := by
  intro t av o ht ho
  have hv := h.ve t av ht
  rw [h.sr.len]
  cases av <;> simp only [AV.obj?] at ho <;> first
    | (cases ho; done)
    | skip
  · cases ho
    simp only [VR] at hv
    obtain ⟨A, c, _, _, _, h1, _⟩ := hv
    exact h1
  · cases ho
    simp only [VR] at hv
    obtain ⟨p, _, h1, _⟩ := hv
    exact h1
  · cases ho
    simp only [VR] at hv
    obtain ⟨p, _, h1, _⟩ := hv
    exact h1
end Go.Ev
