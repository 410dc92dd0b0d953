/- Part of the proofs about this seat's program (module EvS). -/
import Derived.Test.YtbkabnhkclbepaaEvR
set_option linter.unusedSectionVars false
set_option linter.unusedSimpArgs false
set_option linter.unusedVariables false
namespace Go.Ev
open Go.RowKit (Below)
variable {P : Program} {Γ Γ' : Ctx} {w w' : World} {σ σ' : Store} {e e' : Env} {a a' : Act} {av : AV} {N : Nat}

/-! ### Fewer objects -/
def Ctx.cut (Γ : Ctx) (k : Nat) : Ctx := { Γ with n := k }
theorem storeLo_get {n : Nat} : ∀ {l : Store} {i : Nat} {o : SObj}, storeLo n l = true → l[i]? = some o → o.lo n = true
  | [], _, _, _, h => by simp at h
  | x :: l, i, o, hl, h => by
    simp only [storeLo, Bool.and_eq_true] at hl
    cases i with
    | zero => simp at h; subst h; exact hl.1
    | succ i => exact storeLo_get hl.2 (by simpa using h)
theorem varsLo_get {n : Nat} : ∀ {l : List (Nat × AV)} {t : Nat} {av : AV}, varsLo n l = true → look l t = some av → av.lo n = true
  | [], _, _, _, h => by simp [look] at h
  | (k, v) :: l, t, av, hl, h => by
    simp only [varsLo, Bool.and_eq_true] at hl
    simp only [look] at h
    split at h
    · cases h; exact hl.1
    · exact varsLo_get hl.2 h
theorem los_append {n : Nat} : ∀ {l m : List AV}, los n l = true → los n m = true → los n (l ++ m) = true
  | [], m, _, h => h
  | x :: l, m, h, k => by
    simp only [los, Bool.and_eq_true, List.cons_append] at h ⊢
    exact ⟨h.1, los_append h.2 k⟩
theorem loss_flat {n : Nat} : ∀ {l : List (List AV)}, loss n l = true → los n l.flatten = true
  | [], _ => rfl
  | x :: l, h => by
    simp only [loss, Bool.and_eq_true] at h
    rw [List.flatten_cons]
    exact los_append h.1 (loss_flat h.2)
theorem VR.cut {v : Value} (k : Nat) (hl : av.lo k = true) (h : VR Γ w av v) : VR (Γ.cut k) w av v := VR.weaken (Γ := Γ) (Γ' := Γ.cut k) (fun _ h => h) k (Nat.le_refl _) (fun _ _ => rfl) _ _ hl h
theorem OR.cut {o k : Nat} {ob : SObj} (h : OR P Γ w o ob) (hl : ob.lo k = true) : OR P (Γ.cut k) w o ob := by
  cases ob with
  | row sz es g =>
    simp only [OR] at h ⊢
    obtain ⟨h1, h2, h3, h4, h5, h6⟩ := h
    refine ⟨h1, h2, h3, h4, h5, h6.imp id ?_⟩
    rintro ⟨arr, et, h7, h8, h9⟩
    exact ⟨arr, et, h7, h8, VRcells.weaken (Γ := Γ) (Γ' := Γ.cut k) (fun _ h => h) k (Nat.le_refl _) (fun _ _ => rfl) _ _ (loss_flat (by simpa only [SObj.lo] using hl)) h9⟩
  | loop env ps as body st pend =>
    simp only [OR] at h ⊢
    obtain ⟨h1, h2, r, h3, h4, h5, h6, h7, h8, h9, h10⟩ := h
    exact ⟨h1, h2, r, h3, h4, h5, h6, h7, h8, fun t av ht => (h9 t av ht).cut k (varsLo_get (by simpa only [SObj.lo] using hl) ht), h10⟩
  | defr => exact h
  | dead => trivial
  | mp kk es =>
    simp only [OR] at h ⊢
    obtain ⟨h1, h2, arr, clock, h3, h4⟩ := h
    exact ⟨h1, h2, arr, clock, h3, h4.imp fun a y hl hy => VR.weaken (Γ := Γ) (Γ' := Γ.cut k) (fun _ h => h) 0 (Nat.zero_le _) (fun o ho => absurd ho (Nat.not_lt_zero _)) a y hl hy⟩
theorem SR.cut (s : SR P Γ σ w) {k : Nat} (hk : k ≤ Γ.n) (hl : storeLo k (σ.take k) = true) : SR P (Γ.cut k) (σ.take k) w where
  len := by rw [List.length_take, s.len]; exact Nat.min_eq_left hk
  obj o ob ho := (s.obj o ob (by
    rw [List.getElem?_take] at ho
    split at ho
    · exact ho
    · cases ho)).cut (storeLo_get hl ho)
  blk o ho := s.blk o (Nat.lt_of_lt_of_le ho hk)
  inj o o' ho ho' := s.inj o o' (Nat.lt_of_lt_of_le ho hk) (Nat.lt_of_lt_of_le ho' hk)
  ownlt := s.ownlt
  farlt := s.farlt
  sep := s.sep
theorem Ext.cut {Γ0 : Ctx} {w0 : World} (x : Ext Γ0 Γ w0 w) : Ext Γ0 (Γ.cut Γ0.n) w0 w := ⟨Nat.le_refl _, x.size, x.same, x.own, x.far, x.loc, x.os, x.tape, x.output⟩
theorem look_keep (e : Env) : ∀ {l : List Nat} {t : Nat} {av : AV}, look (keep e l) t = some av → e.get t = some av
  | [], _, _, h => by simp [keep, look] at h
  | k :: l, t, av, h => by
    simp only [keep] at h
    split at h
    · rename_i u hu
      simp only [look] at h
      split at h
      · rename_i hk
        subst hk
        cases h
        exact hu
      · exact look_keep e h
    · exact look_keep e h
theorem marksLo_MR {k : Nat} : ∀ {ms : List Nat} {ds : List Deferred}, marksLo k ms = true → MR Γ ms ds → MR (Γ.cut k) ms ds
  | [], _, _, h => h
  | m :: ms, ds, hl, h => by
    simp only [marksLo, Bool.and_eq_true, decide_eq_true_eq] at hl
    simp only [MR] at h ⊢
    obtain ⟨b, ds', rfl, h1, h2, h3⟩ := h
    exact ⟨b, ds', rfl, hl.1, h2, marksLo_MR hl.2 h3⟩
theorem settle_ok {Γ0 : Ctx} {w0 : World} {live : List Nat} {trim : Bool} {e1 : Env} {σ1 : Store} (h : settle live trim Γ0.n e σ = some (e1, σ1)) (x : Ext Γ0 Γ w0 w) (ha : AR P Γ N e σ a w) : ∃ Γ', Ext Γ0 Γ' w0 w ∧ AR P Γ' N e1 σ1 a w := by
  unfold settle at h
  split at h
  · split at h
    · rename_i hl
      cases h
      exact ⟨Γ.cut Γ0.n, x.cut, fun t av ht => (ha.ve t av (look_keep e ht)).cut _ (varsLo_get hl.1 ht), ha.sr.cut x.n hl.2.2, ha.sz, marksLo_MR hl.2.1 ha.mr⟩
    · cases h
  · cases h
    exact ⟨Γ, x, fun t av ht => ha.ve t av (look_keep e ht), ha.sr, ha.sz, ha.mr⟩
theorem leave_ok {Γ0 : Ctx} {w0 : World} {v : Value} (x : Ext Γ0 Γ w0 w) (s : SR P Γ σ w) (hv : VR Γ w av v) : Got P Γ0 w0 (leave Γ0.n av σ).1 (leave Γ0.n av σ).2 v w := by
  unfold leave
  split
  · rename_i hl
    exact ⟨Γ.cut Γ0.n, hv.cut _ hl.1, s.cut x.n hl.2, x.cut⟩
  · exact ⟨Γ, hv, s, x⟩

/-! ### Loops, unrolled -/
inductive Unroll (f : Env → Store → R3) (s : Env → Store → Option (Env × Store)) : Env → Store → CExit × Env × Store → Prop where
  | stop {e : Env} {σ : Store} {e1 : Env} {σ1 : Store} {x : CExit} {e2 : Env} {σ2 : Store} : s e σ = some (e1, σ1) → f e1 σ1 = some (x, e2, σ2) → x ≠ .normal → Unroll f s e σ (x, e2, σ2)
  | next {e : Env} {σ : Store} {e1 : Env} {σ1 : Store} {e2 : Env} {σ2 : Store} {r : CExit × Env × Store} : s e σ = some (e1, σ1) → f e1 σ1 = some (.normal, e2, σ2) → Unroll f s e2 σ2 r → Unroll f s e σ r
def IterOk (I : Iter) : Prop := ∀ f s e σ r, I f s e σ = some r → Unroll f s e σ r
theorem iterN_ok : ∀ m, IterOk (iterN m)
  | 0 => fun f s e σ r h => by simp [iterN] at h
  | m + 1 => fun f s e σ r h => by
    simp only [iterN, Option.bind_eq_some_iff] at h
    obtain ⟨⟨e1, σ1⟩, h1, ⟨x, e2, σ2⟩, h2, h⟩ := h
    cases x with
    | normal => exact .next h1 h2 (iterN_ok m f s e2 σ2 r h)
    | exit id => cases h; exact .stop h1 h2 (by simp)
    | ret => cases h; exact .stop h1 h2 (by simp)

/-! ### Code -/
def CExit.ex : CExit → Exit
  | .normal => .normal
  | .exit id => .exit id
  | .ret => .ret
def PostOk (P : Program) (Γ : Ctx) (w : World) (N : Nat) (x : CExit) (e' : Env) (σ' : Store) (ex : Exit) (a' : Act) (w' : World) : Prop := ex = x.ex ∧ ∃ Γ', Ext Γ Γ' w w' ∧ AR P Γ' N e' σ' a' w'
theorem PostOk.of_ext {x : CExit} {ex : Exit} {Γ0 : Ctx} {w0 : World} (k : Ext Γ0 Γ w0 w) (h : PostOk P Γ w N x e' σ' ex a' w') : PostOk P Γ0 w0 N x e' σ' ex a' w' := let ⟨h1, Γ', h2, h3⟩ := h; ⟨h1, Γ', k.trans h2, h3⟩
def RoOk (Γ : Ctx) : Option Nat → Option Nat → Prop
  | none, none => True
  | some o, some l => o < Γ.n ∧ ((Γ.loc o).g = 0 → l = (Γ.loc o).b)
  | _, _ => False
theorem RoOk.mono (x : Ext Γ Γ' w w') : ∀ {ro l : Option Nat}, RoOk Γ ro l → RoOk Γ' ro l
  | none, none, _ => trivial
  | some o, some l, h => by
    simp only [RoOk] at h ⊢
    refine ⟨Nat.lt_of_lt_of_le h.1 x.n, fun hg => ?_⟩
    rcases x.loc o h.1 with h4 | h4
    · rw [h4] at hg ⊢; exact h.2 hg
    · omega
  | none, some _, h => h
  | some _, none, h => h
def EntOk (P : Program) (O : Orc) : Prop := ∀ k, O.ent k = true → ∀ args σ r, O.call k args σ = some r → ∀ vs w, (callFunc k vs).run P w = .ok (.enter k vs) w

def ExecOk (P : Program) (O : Orc) (I : Iter) (N : Nat) (c : Code) (cc : CCode) : Prop := ∀ {ro l : Option Nat} {e : Env} {σ : Store} {Γ : Ctx} {a : Act} {w : World} {x : CExit} {e' : Env} {σ' : Store}, exec O I ro cc e σ = some (x, e', σ') → AR P Γ N e σ a w → RoOk Γ ro l →
  c.wpIn (FR l) 0 P (PostOk P Γ w N x e' σ') a w

theorem loop_ok {O : Orc} {I : Iter} {ro l : Option Nat} {live : List Nat} {trim : Bool} {c : Code} {cc : CCode} (hc : ExecOk P O I N c cc) {Γ0 : Ctx} {w0 : World} (hro : RoOk Γ0 ro l) :
    ∀ {e σ r}, Unroll (exec O I ro cc) (settle live trim Γ0.n) e σ r → ∀ {Γ a w}, Ext Γ0 Γ w0 w → AR P Γ N e σ a w → ∀ (b : Frame) (k : List Item) (cs : List Frame), b.roundOf = l →
      ∃ ex a' w', PostOk P Γ0 w0 N r.1 r.2.1 r.2.2 ex a' w' ∧ ArrivesIn (Machine.fenced P (FR l)) P (lone (b.atR a (.code c :: .inLoop c :: k)) cs w) b k cs ex a' w' := by
  have room : ∀ n, (FR l).room n := fun n d hd => by simp [Fence.wide] at hd
  intro e σ r hu
  induction hu with
  | @stop e σ e1 σ1 x e2 σ2 h1 h2 h3 =>
    intro Γ a w hx ha b k cs hb
    obtain ⟨Γ1, x1, ha1⟩ := settle_ok h1 hx ha
    obtain ⟨ex, a', w', hq, harr⟩ := hc h2 ha1 (hro.mono x1) b (.inLoop c :: k) cs hb trivial (room _)
    refine ⟨ex, a', w', hq.of_ext x1, .pass (x := .inLoop c) rfl (fun _ _ => .inl ?_) harr⟩
    rw [hq.1]; cases x <;> simp [CExit.ex] at h3 ⊢
  | @next e σ e1 σ1 e2 σ2 r h1 h2 _ ih =>
    intro Γ a w hx ha b k cs hb
    obtain ⟨Γ1, x1, ha1⟩ := settle_ok h1 hx ha
    obtain ⟨ex, a', w', ⟨hex, Γ2, x2, ha2⟩, harr⟩ := hc h2 ha1 (hro.mono x1) b (.inLoop c :: k) cs hb trivial (room _)
    subst hex
    obtain ⟨ex', a2, w2, hq, harr2⟩ := ih (x1.trans x2) ha2 b k cs hb
    exact ⟨ex', a2, w2, hq, .of_steps (StepsIn.trans harr (.one (fenced_calm (n := 0) trivial (room _) rfl) stepR_inLoop)) harr2⟩
end Go.Ev
