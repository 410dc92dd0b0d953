/- Part of the proofs about this seat's program (module EvF). -/
import Derived.Test.YtbkabnhkclbepaaEvE
set_option linter.unusedSectionVars false
set_option linter.unusedSimpArgs false
set_option linter.unusedVariables false
namespace Go.Ev
open Go.RowKit (Below)
variable {P : Program} {Γ Γ' : Ctx} {w w' : World} {σ : Store}

def pendCode : Option (Option Nat) → Option Code
  | none => none
  | some none => some .ret
  | some (some id) => some (.exit id)
/-- A compiled text of a code. -/
def CR (P : Program) (n : Nat) (c : Code) (cc : CCode) : Prop := ∃ h i j, cCode P h n c i = some (cc, j)
def VarsR (Γ : Ctx) (w : World) (l : List (Nat × AV)) (tmps : Array Value) : Prop := ∀ t a, look l t = some a → VR Γ w a (tmps.getD t undef)

/-- A map's entries. -/
def MapR (Γ : Ctx) (w : World) (k : IntKind) : List (Int × AV) → List MapEntry → Prop
  | [], [] => True
  | p :: ps, en :: ens => (p.2.lo 0 = true ∧ en.key = .int k p.1 ∧ VR Γ w p.2 en.val) ∧ MapR Γ w k ps ens
  | _, _ => False
theorem MapR.imp {Γ Γ' : Ctx} {w w' : World} {k : IntKind} (h : ∀ (a : AV) (y : Value), a.lo 0 = true → VR Γ w a y → VR Γ' w' a y) : ∀ {ps : List (Int × AV)} {ens : List MapEntry}, MapR Γ w k ps ens → MapR Γ' w' k ps ens
  | [], [], _ => trivial
  | p :: ps, en :: ens, ⟨⟨h1, h2, h3⟩, h4⟩ => ⟨⟨h1, h2, h _ _ h1 h3⟩, MapR.imp h h4⟩
  | [], _ :: _, h => h
  | _ :: _, [], h => h
def OR (P : Program) (Γ : Ctx) (w : World) (o : Nat) : SObj → Prop
  | .row sz es g => (Γ.loc o).g = g ∧ (Γ.loc o).sz = sz ∧ 0 < sz ∧ es.length ≤ (Γ.loc o).ct ∧ (∀ e ∈ es, e.length = sz) ∧
      ((Γ.loc o).ct = 0 ∨ ∃ arr et, w.heap[(Γ.loc o).b]? = some (.cells arr et (0, 0)) ∧ arr.size = (Γ.loc o).ct * sz ∧ VRcells Γ w es.flatten (fun j => arr[j]?))
  | .loop env ps as body st pend => (Γ.loc o).g = 0 ∧ (Γ.loc o).ct ≠ 0 ∧ ∃ r : Loop, w.heap[(Γ.loc o).b]? = some (.loop r) ∧ r.state = st ∧ r.pending = pendCode pend ∧ r.params = ps.toArray ∧
      CR P r.tmps.size r.assign as ∧ CR P r.tmps.size r.body body ∧ VarsR Γ w env.vars r.tmps ∧ (∀ p ∈ ps, p < r.tmps.size)
  | .defr => (Γ.loc o).g = 0 ∧ (Γ.loc o).ct ≠ 0 ∧ w.heap[(Γ.loc o).b]? = some (.deferred (some []))
  | .dead => True
  | .mp k es => (Γ.loc o).g = 0 ∧ (Γ.loc o).ct ≠ 0 ∧ ∃ arr clock, w.heap[(Γ.loc o).b]? = some (.map arr clock) ∧ MapR Γ w k es arr.toList

structure SR (P : Program) (Γ : Ctx) (σ : Store) (w : World) : Prop where
  len : σ.length = Γ.n
  obj : ∀ o ob, σ[o]? = some ob → OR P Γ w o ob
  blk : ∀ o, o < Γ.n → (Γ.loc o).ct ≠ 0 → Γ.own (Γ.loc o).b
  inj : ∀ o o', o < Γ.n → o' < Γ.n → (Γ.loc o).ct ≠ 0 → (Γ.loc o').ct ≠ 0 → (Γ.loc o).b = (Γ.loc o').b → o = o'
  ownlt : ∀ b, Γ.own b → b < w.heap.size
  farlt : ∀ b, Γ.far b → b < w.heap.size
  sep : ∀ b, Γ.own b → ¬ Γ.far b

theorem OR.mono {o : Nat} {ob : SObj} (h : OR P Γ w o ob) (e : Ext Γ Γ' w w') (hl : Γ'.loc o = Γ.loc o) (hb : (Γ.loc o).ct ≠ 0 → w'.heap[(Γ.loc o).b]? = w.heap[(Γ.loc o).b]?) : OR P Γ' w' o ob := by
  cases ob with
  | row sz es g =>
    simp only [OR] at h ⊢
    rw [hl]
    obtain ⟨h1, h2, h3, h4, h5, h6⟩ := h
    refine ⟨h1, h2, h3, h4, h5, ?_⟩
    rcases h6 with h6 | ⟨arr, et, h7, h8, h9⟩
    · exact .inl h6
    · by_cases hc : (Γ.loc o).ct = 0
      · exact .inl hc
      · exact .inr ⟨arr, et, (hb hc).trans h7, h8, VRcells.mono e _ _ _ (fun _ => rfl) h9⟩
  | loop env ps as body st pend =>
    simp only [OR] at h ⊢
    rw [hl]
    obtain ⟨h1, h2, r, h3, h4, h5, h6, h7, h8, h9, h10⟩ := h
    exact ⟨h1, h2, r, (hb h2).trans h3, h4, h5, h6, h7, h8, fun t a ht => VR.mono e _ _ (h9 t a ht), h10⟩
  | defr =>
    simp only [OR] at h ⊢
    rw [hl]
    exact ⟨h.1, h.2.1, (hb h.2.1).trans h.2.2⟩
  | dead => trivial
  | mp k es =>
    simp only [OR] at h ⊢
    rw [hl]
    obtain ⟨h1, h2, arr, clock, h3, h4⟩ := h
    exact ⟨h1, h2, arr, clock, (hb h2).trans h3, h4.imp fun a y _ hy => VR.mono e _ _ hy⟩

theorem Ext.of_below (Γ : Ctx) (h : Below w.heap.size w w') : Ext Γ Γ w w' := ⟨Nat.le_refl _, h.size, fun b hb _ => h.block b hb, fun _ h => .inl h, rfl, fun _ _ => .inl rfl, h.os, h.tape, h.output⟩
theorem SR.of_below (s : SR P Γ σ w) (h : Below w.heap.size w w') : SR P Γ σ w' where
  len := s.len
  obj o ob ho := (s.obj o ob ho).mono (.of_below Γ h) rfl fun hc => h.block _ (s.ownlt _ (s.blk o (by rw [← s.len]; exact (List.getElem?_eq_some_iff.1 ho).1) hc))
  blk := s.blk
  inj := s.inj
  ownlt b hb := Nat.lt_of_lt_of_le (s.ownlt b hb) h.size
  farlt b hb := Nat.lt_of_lt_of_le (s.farlt b hb) h.size
  sep := s.sep
theorem below_drew (w : World) : Below w.heap.size w w.drew := (Below.refl _ _).drew
theorem below_alloc (w : World) (o : Obj) : Below w.heap.size w (w.alloc o) := (Below.refl _ _).alloc (Nat.le_refl _) o

def Ctx.push (Γ : Ctx) (l : Loc) : Ctx := { n := Γ.n + 1, loc := fun o => if o = Γ.n then l else Γ.loc o, own := fun b => Γ.own b ∨ (l.ct ≠ 0 ∧ b = l.b), far := Γ.far }
theorem Ctx.push_new (Γ : Ctx) (l : Loc) : (Γ.push l).loc Γ.n = l := by simp [Ctx.push]
theorem Ctx.push_old (Γ : Ctx) (l : Loc) {o : Nat} (h : o < Γ.n) : (Γ.push l).loc o = Γ.loc o := by simp [Ctx.push, Nat.ne_of_lt h]

theorem Ext.push (h : Below w.heap.size w w') (l : Loc) (hl : l.ct ≠ 0 → w.heap.size ≤ l.b) : Ext Γ (Γ.push l) w w' where
  n := Nat.le_succ _
  size := h.size
  same b hb _ := h.block b hb
  own b hb := Or.imp id (fun (hb : l.ct ≠ 0 ∧ b = l.b) => by rw [hb.2]; exact hl hb.1) hb
  far := rfl
  loc o ho := .inl (Γ.push_old l ho)
  os := h.os
  tape := h.tape
  output := h.output
theorem SR.push (s : SR P Γ σ w) (h : Below w.heap.size w w') (l : Loc) (hl : l.ct ≠ 0 → w.heap.size ≤ l.b ∧ l.b < w'.heap.size) {ob : SObj} (hob : OR P (Γ.push l) w' Γ.n ob) : SR P (Γ.push l) (σ ++ [ob]) w' where
  len := by simp [Ctx.push, s.len]
  obj o ob' ho := by
    have e : Ext Γ (Γ.push l) w w' := .push h l fun hc => (hl hc).1
    rcases Nat.lt_or_ge o σ.length with hlt | hge
    · rw [List.getElem?_append_left hlt] at ho
      have hn : o < Γ.n := by rw [← s.len]; exact hlt
      exact (s.obj o ob' ho).mono e (Γ.push_old l hn) fun hc => h.block _ (s.ownlt _ (s.blk o hn hc))
    · rw [List.getElem?_append_right hge] at ho
      have ho2 : o - σ.length = 0 := by
        rcases Nat.eq_zero_or_pos (o - σ.length) with h0 | h0
        · exact h0
        · rw [List.getElem?_eq_none (by simp; omega)] at ho; cases ho
      rw [ho2] at ho
      simp at ho
      subst ho
      have : o = Γ.n := by rw [← s.len]; omega
      rw [this]; exact hob
  blk o ho hc := by
    by_cases he : o = Γ.n
    · subst he; rw [Γ.push_new] at hc ⊢; exact .inr ⟨hc, rfl⟩
    · have ho' : o < Γ.n := by simp [Ctx.push] at ho; omega
      rw [Γ.push_old l ho'] at hc ⊢
      exact .inl (s.blk o ho' hc)
  inj o o' ho ho' hc hc' hb := by
    by_cases he : o = Γ.n <;> by_cases he' : o' = Γ.n
    · omega
    · have h2 : o' < Γ.n := by simp [Ctx.push] at ho'; omega
      subst he
      rw [Γ.push_new] at hc hb
      rw [Γ.push_old l h2] at hc' hb
      have := s.ownlt _ (s.blk o' h2 hc')
      have := (hl hc).1
      omega
    · have h2 : o < Γ.n := by simp [Ctx.push] at ho; omega
      subst he'
      rw [Γ.push_new] at hc' hb
      rw [Γ.push_old l h2] at hc hb
      have := s.ownlt _ (s.blk o h2 hc)
      have := (hl hc').1
      omega
    · have h2 : o < Γ.n := by simp [Ctx.push] at ho; omega
      have h3 : o' < Γ.n := by simp [Ctx.push] at ho'; omega
      rw [Γ.push_old l h2] at hc hb
      rw [Γ.push_old l h3] at hc' hb
      exact s.inj o o' h2 h3 hc hc' hb
  ownlt b hb := by
    rcases hb with hb | ⟨hc, rfl⟩
    · exact Nat.lt_of_lt_of_le (s.ownlt b hb) h.size
    · exact (hl hc).2
  farlt b hb := Nat.lt_of_lt_of_le (s.farlt b hb) h.size
  sep b hb hf := by
    rcases hb with hb | ⟨hc, rfl⟩
    · exact s.sep b hb hf
    · have := s.farlt _ hf; have := (hl hc).1; omega

def Ctx.upd (Γ : Ctx) (o : Nat) (l : Loc) : Ctx := { n := Γ.n, loc := fun o' => if o' = o then l else Γ.loc o', own := fun b => Γ.own b ∨ (l.ct ≠ 0 ∧ b = l.b), far := Γ.far }
theorem Ctx.upd_same (Γ : Ctx) (o : Nat) (l : Loc) : (Γ.upd o l).loc o = l := by simp [Ctx.upd]
theorem Ctx.upd_other (Γ : Ctx) (l : Loc) {o o' : Nat} (h : o' ≠ o) : (Γ.upd o l).loc o' = Γ.loc o' := by simp [Ctx.upd, h]
section upd
variable {o : Nat} {l : Loc} (s : SR P Γ σ w) (ho : o < Γ.n) (hg : l = Γ.loc o ∨ (Γ.loc o).g < l.g) (hsize : w.heap.size ≤ w'.heap.size)
  (hsame : ∀ b, b < w.heap.size → (b = (Γ.loc o).b ∧ (Γ.loc o).ct ≠ 0) ∨ w'.heap[b]? = w.heap[b]?)
  (hl : l.ct ≠ 0 → (l.b = (Γ.loc o).b ∧ (Γ.loc o).ct ≠ 0 ∨ w.heap.size ≤ l.b) ∧ l.b < w'.heap.size)
  (hos : w'.os = w.os) (htape : w'.tape = w.tape) (hout : w'.output = w.output)
include s ho hg hsize hsame hl hos htape hout
theorem Ext.upd : Ext Γ (Γ.upd o l) w w' where
  n := Nat.le_refl _
  size := hsize
  same b hb hn := by
    rcases hsame b hb with ⟨rfl, hc⟩ | h
    · exact absurd (s.blk o ho hc) hn
    · exact h
  own b hb := by
    rcases hb with hb | ⟨hc, rfl⟩
    · exact .inl hb
    · rcases (hl hc).1 with ⟨h1, h2⟩ | h1
      · rw [h1]; exact .inl (s.blk o ho h2)
      · exact .inr h1
  far := rfl
  loc o' _ := by
    by_cases he : o' = o
    · subst he; rw [Γ.upd_same]; exact hg
    · exact .inl (Γ.upd_other l he)
  os := hos
  tape := htape
  output := hout
theorem SR.upd {ob : SObj} (hob : OR P (Γ.upd o l) w' o ob) : SR P (Γ.upd o l) (σ.set o ob) w' where
  len := by simp [Ctx.upd, s.len]
  obj o' ob' ho' := by
    have e := Ext.upd s ho hg hsize hsame hl hos htape hout
    rw [List.getElem?_set] at ho'
    by_cases he : o = o'
    · subst he
      rw [if_pos rfl, if_pos (by rw [s.len]; exact ho)] at ho'
      cases ho'
      exact hob
    · rw [if_neg he] at ho'
      have hn : o' < Γ.n := by rw [← s.len]; exact (List.getElem?_eq_some_iff.1 ho').1
      refine (s.obj o' ob' ho').mono e (Γ.upd_other l (Ne.symm he)) fun hc => ?_
      rcases hsame _ (s.ownlt _ (s.blk o' hn hc)) with ⟨h1, h2⟩ | h1
      · exact absurd (s.inj o' o hn ho hc h2 h1) (Ne.symm he)
      · exact h1
  blk o' ho' hc := by
    by_cases he : o' = o
    · subst he; rw [Γ.upd_same] at hc ⊢; exact .inr ⟨hc, rfl⟩
    · rw [Γ.upd_other l he] at hc ⊢; exact .inl (s.blk o' ho' hc)
  inj o1 o2 h1 h2 c1 c2 hb := by
    by_cases e1 : o1 = o <;> by_cases e2 : o2 = o
    · omega
    · subst e1
      rw [Γ.upd_same] at c1 hb
      rw [Γ.upd_other l e2] at c2 hb
      rcases (hl c1).1 with ⟨h3, h4⟩ | h3
      · exact s.inj o1 o2 h1 h2 h4 c2 (h3.symm.trans hb)
      · have := s.ownlt _ (s.blk o2 h2 c2); omega
    · subst e2
      rw [Γ.upd_same] at c2 hb
      rw [Γ.upd_other l e1] at c1 hb
      rcases (hl c2).1 with ⟨h3, h4⟩ | h3
      · exact s.inj o1 o2 h1 h2 c1 h4 (hb.trans h3)
      · have := s.ownlt _ (s.blk o1 h1 c1); omega
    · rw [Γ.upd_other l e1] at c1 hb
      rw [Γ.upd_other l e2] at c2 hb
      exact s.inj o1 o2 h1 h2 c1 c2 hb
  ownlt b hb := by
    rcases hb with hb | ⟨hc, rfl⟩
    · exact Nat.lt_of_lt_of_le (s.ownlt b hb) hsize
    · exact (hl hc).2
  farlt b hb := Nat.lt_of_lt_of_le (s.farlt b hb) hsize
  sep b hb hf := by
    rcases hb with hb | ⟨hc, rfl⟩
    · exact s.sep b hb hf
    · rcases (hl hc).1 with ⟨h1, h2⟩ | h1
      · rw [h1] at hf; exact s.sep _ (s.blk o ho h2) hf
      · have := s.farlt _ hf; omega
end upd

/-- An object that is given up: its block is nobody's to change any more. -/
def Ctx.drop (Γ : Ctx) (o : Nat) : Ctx := { n := Γ.n, loc := fun o' => if o' = o then ⟨(Γ.loc o).g + 1, 0, (Γ.loc o).sz, 0⟩ else Γ.loc o', own := fun b => Γ.own b ∧ ((Γ.loc o).ct ≠ 0 → b ≠ (Γ.loc o).b), far := Γ.far }
theorem Ext.drop (Γ : Ctx) (w : World) (o : Nat) : Ext Γ (Γ.drop o) w w where
  n := Nat.le_refl _
  size := Nat.le_refl _
  same _ _ _ := rfl
  own b hb := .inl hb.1
  far := rfl
  loc o' _ := by
    by_cases h : o' = o
    · subst h; right; simp [Ctx.drop]
    · left; simp [Ctx.drop, h]
  os := rfl
  tape := rfl
  output := rfl
theorem SR.drop (s : SR P Γ σ w) {o : Nat} (ho : o < Γ.n) : SR P (Γ.drop o) (σ.set o .dead) w where
  len := by simp [Ctx.drop, s.len]
  obj o' ob hob := by
    rw [List.getElem?_set] at hob
    by_cases he : o = o'
    · subst he
      rw [if_pos rfl, if_pos (by rw [s.len]; exact ho)] at hob
      cases hob
      trivial
    · rw [if_neg he] at hob
      exact (s.obj o' ob hob).mono (Ext.drop Γ w o) (by simp [Ctx.drop, Ne.symm he]) fun _ => rfl
  blk o' ho' hc := by
    by_cases he : o' = o
    · subst he; simp [Ctx.drop] at hc
    · have hl : (Γ.drop o).loc o' = Γ.loc o' := by simp [Ctx.drop, he]
      rw [hl] at hc ⊢
      exact ⟨s.blk o' ho' hc, fun h2 hb => he (s.inj o' o ho' ho hc h2 hb)⟩
  inj o1 o2 h1 h2 c1 c2 hb := by
    by_cases e1 : o1 = o
    · subst e1; simp [Ctx.drop] at c1
    · by_cases e2 : o2 = o
      · subst e2; simp [Ctx.drop] at c2
      · have l1 : (Γ.drop o).loc o1 = Γ.loc o1 := by simp [Ctx.drop, e1]
        have l2 : (Γ.drop o).loc o2 = Γ.loc o2 := by simp [Ctx.drop, e2]
        rw [l1] at c1 hb; rw [l2] at c2 hb
        exact s.inj o1 o2 h1 h2 c1 c2 hb
  ownlt b hb := s.ownlt b hb.1
  farlt := s.farlt
  sep b hb := s.sep b hb.1

/-! ### Operands -/
def VE (Γ : Ctx) (w : World) (e : Env) (a : Act) : Prop := VarsR Γ w e.vars a.tmps
theorem VE.mono {e : Env} {a : Act} (h : VE Γ w e a) (x : Ext Γ Γ' w w') : VE Γ' w' e a := fun t v ht => VR.mono x _ _ (h t v ht)
theorem VR.ofLeaf (x : Value) : VR Γ w (ofLeaf x) x := by
  unfold Ev.ofLeaf
  split
  · simp only [VR]; exact ⟨none, 0, rfl, Nat.le_refl _, fun _ => rfl, .inl trivial⟩
  · simp only [VR]
theorem VR.ofTop (x : Value) : VR Γ w (ofTop x) x := by
  unfold Ev.ofTop
  split
  · simp only [VR]; exact ⟨none, 0, rfl, Nat.le_refl _, fun _ => rfl, .inl trivial⟩
  · simp only [VR]
theorem VRs.ofTop : ∀ (l : List Value), VRs Γ w (l.map Ev.ofTop) l
  | [] => by simp [VRs]
  | x :: xs => by simp only [List.map_cons, VRs]; exact ⟨x, xs, rfl, VR.ofTop x, VRs.ofTop xs⟩
theorem VRs.ofLeaf : ∀ (l : List Value), VRs Γ w (l.map Ev.ofLeaf) l
  | [] => by simp [VRs]
  | x :: xs => by simp only [List.map_cons, VRs]; exact ⟨x, xs, rfl, VR.ofLeaf x, VRs.ofLeaf xs⟩
theorem VR.ofV (x : Value) : VR Γ w (ofV x) x := by
  unfold Ev.ofV
  split
  · rename_i cs
    simp only [VR]
    exact ⟨cs.toList, by simp, VRs.ofLeaf _⟩
  · exact VR.ofTop _
theorem opnd_ok {x : Operand} {x' : Opnd} {e : Env} {a : Act} {v : AV} (hc : cOpnd x = some x') (he : x'.ev e = some v) (hv : VE Γ w e a) : VR Γ w v (a.eval x) := by
  unfold cOpnd at hc
  split at hc
  · cases hc; exact hv _ _ he
  · cases hc
  · cases hc; cases he; exact VR.ofV _
  · cases hc; cases he
    simp only [VR, Act.eval]
    exact ⟨[], [], by simp, by simp [VRs], by simp [VRs]⟩
  · cases hc
theorem opnds_ok : ∀ {l : List Operand} {l' : List Opnd} {e : Env} {a : Act} {vs : List AV}, cOpnds l = some l' → evs e l' = some vs → VE Γ w e a → VRs Γ w vs (l.map a.eval)
  | [], l', e, a, vs, hc, he, hv => by
    simp only [cOpnds, omap] at hc; cases hc
    simp only [evs] at he; cases he
    simp [VRs]
  | x :: xs, l', e, a, vs, hc, he, hv => by
    simp only [cOpnds, omap] at hc
    obtain ⟨y, hy, hc⟩ := Option.bind_eq_some_iff.1 hc
    obtain ⟨ys, hys, hc⟩ := Option.bind_eq_some_iff.1 hc
    cases hc
    simp only [evs] at he
    obtain ⟨u, hu, he⟩ := Option.bind_eq_some_iff.1 he
    obtain ⟨us, hus, he⟩ := Option.bind_eq_some_iff.1 he
    cases he
    simp only [List.map_cons, VRs]
    exact ⟨_, _, rfl, opnd_ok hy hu hv, opnds_ok hys hus hv⟩
end Go.Ev
