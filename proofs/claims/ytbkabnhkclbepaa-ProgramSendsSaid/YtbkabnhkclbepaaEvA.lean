/- Part of the proofs about this seat's program (module EvA). -/
import Derived.RangeFuncLeaves
import Derived.OrdersIn
import Derived.Below
set_option linter.unusedSectionVars false
set_option linter.unusedSimpArgs false
set_option linter.unusedVariables false
namespace Go.Ev
/-! Abstract values -/
inductive AV where
  | v (x : Value)
  | agg (cs : List AV)
  | tup (cs : List AV)
  | fsl (es : List (List AV)) (clip : Bool)
  | fptr (cs : List AV)
  | sl (o g off len : Nat) (clip : Bool)
  | ptr (o g i off : Nat)
  | fn (f : Fn) (first cap : List AV)
  | yld (o : Nat)
  | mp (o : Nat)
  deriving Inhabited

structure Loc where
  g : Nat
  b : Nat
  sz : Nat
  ct : Nat

structure Ctx where
  n : Nat
  loc : Nat → Loc
  own : Nat → Prop
  far : Nat → Prop

def Ctx.okB (Γ : Ctx) (w : World) (b : Nat) : Prop := b < w.heap.size ∧ ¬ Γ.own b ∧ ¬ Γ.far b

mutual
def VR (Γ : Ctx) (w : World) : AV → Value → Prop
  | .v x, y => y = x
  | .agg cs, y => ∃ vs : List Value, y = .agg vs.toArray ∧ VRs Γ w cs vs
  | .tup cs, y => ∃ vs : List Value, y = .tuple vs.toArray ∧ VRs Γ w cs vs
  | .fsl es clip, y => ∃ A c, y = .slice A es.length c ∧ es.length ≤ c ∧ (clip = true → c = es.length) ∧
      (es = [] ∨ ∃ b off sz, A = some ⟨b, off, none⟩ ∧ Γ.okB w b ∧ 0 < sz ∧ (∀ e ∈ es, e.length = sz) ∧ VRrows Γ w sz es (fun j => w.cell? ⟨b, off + j, none⟩))
  | .fptr cs, y => ∃ b off, y = .pointer (some ⟨b, off, none⟩) ∧ Γ.okB w b ∧ VRcells Γ w cs (fun j => w.cell? ⟨b, off + j, none⟩)
  | .sl o g off len clip, y => ∃ A c, y = .slice A len c ∧ len ≤ c ∧ (clip = true → c = len) ∧ o < Γ.n ∧ g ≤ (Γ.loc o).g ∧
      ((Γ.loc o).g = g → off + c ≤ (Γ.loc o).ct ∧ (c = 0 ∨ A = some ⟨(Γ.loc o).b, off * (Γ.loc o).sz, none⟩))
  | .ptr o g i off, y => ∃ p, y = .pointer (some p) ∧ o < Γ.n ∧ g ≤ (Γ.loc o).g ∧ ((Γ.loc o).g = g → p = ⟨(Γ.loc o).b, i * (Γ.loc o).sz + off, none⟩)
  | .fn f first cap, y => ∃ fs cs : List Value, y = .func f fs.toArray cs.toArray ∧ VRs Γ w first fs ∧ VRs Γ w cap cs
  | .yld o, y => ∃ l, y = .func (.yield l) #[] #[] ∧ o < Γ.n ∧ ((Γ.loc o).g = 0 → l = (Γ.loc o).b)
  | .mp o, y => ∃ l, y = .map (some l) ∧ o < Γ.n ∧ ((Γ.loc o).g = 0 → l = (Γ.loc o).b)
def VRs (Γ : Ctx) (w : World) : List AV → List Value → Prop
  | [], vs => vs = []
  | a :: as, vs => ∃ u us, vs = u :: us ∧ VR Γ w a u ∧ VRs Γ w as us
def VRcells (Γ : Ctx) (w : World) : List AV → (Nat → Option Value) → Prop
  | [], _ => True
  | a :: as, get => (∃ u, get 0 = some u ∧ VR Γ w a u) ∧ VRcells Γ w as (fun j => get (j + 1))
def VRrows (Γ : Ctx) (w : World) (sz : Nat) : List (List AV) → (Nat → Option Value) → Prop
  | [], _ => True
  | e :: es, get => VRcells Γ w e get ∧ VRrows Γ w sz es (fun j => get (j + sz))
end

structure Ext (Γ Γ' : Ctx) (w w' : World) : Prop where
  n : Γ.n ≤ Γ'.n
  size : w.heap.size ≤ w'.heap.size
  same : ∀ b, b < w.heap.size → ¬ Γ.own b → w'.heap[b]? = w.heap[b]?
  own : ∀ b, Γ'.own b → Γ.own b ∨ w.heap.size ≤ b
  far : Γ'.far = Γ.far
  loc : ∀ o, o < Γ.n → Γ'.loc o = Γ.loc o ∨ (Γ.loc o).g < (Γ'.loc o).g
  os : w'.os = w.os
  tape : w'.tape = w.tape
  output : w'.output = w.output

theorem Ext.refl (Γ : Ctx) (w : World) : Ext Γ Γ w w := ⟨Nat.le_refl _, Nat.le_refl _, fun _ _ _ => rfl, fun _ h => .inl h, rfl, fun _ _ => .inl rfl, rfl, rfl, rfl⟩

theorem Ext.trans {Γ Γ' Γ'' : Ctx} {w w' w'' : World} (h : Ext Γ Γ' w w') (k : Ext Γ' Γ'' w' w'') : Ext Γ Γ'' w w'' where
  n := Nat.le_trans h.n k.n
  size := Nat.le_trans h.size k.size
  same b hb ho := by
    rw [k.same b (Nat.lt_of_lt_of_le hb h.size) (fun hc => by rcases h.own b hc with h1 | h1; exact ho h1; omega), h.same b hb ho]
  own b hb := by
    rcases k.own b hb with h1 | h1
    · exact h.own b h1
    · exact .inr (Nat.le_trans h.size h1)
  far := k.far.trans h.far
  loc o ho := by
    rcases h.loc o ho with h1 | h1 <;> rcases k.loc o (Nat.lt_of_lt_of_le ho h.n) with h2 | h2
    · exact .inl (h2.trans h1)
    · right; rw [← h1]; exact h2
    · right; rw [h2]; exact h1
    · right; omega
  os := k.os.trans h.os
  tape := k.tape.trans h.tape
  output := k.output.trans h.output

theorem Ext.okB {Γ Γ' : Ctx} {w w' : World} (h : Ext Γ Γ' w w') {b : Nat} (hb : Γ.okB w b) : Γ'.okB w' b := by
  obtain ⟨h1, h2, h3⟩ := hb
  refine ⟨Nat.lt_of_lt_of_le h1 h.size, fun hc => ?_, by rw [h.far]; exact h3⟩
  rcases h.own b hc with h4 | h4
  · exact h2 h4
  · omega

theorem Ext.cell {Γ Γ' : Ctx} {w w' : World} (h : Ext Γ Γ' w w') {b : Nat} (hb : Γ.okB w b) (off : Nat) (s : Option Nat) : w'.cell? ⟨b, off, s⟩ = w.cell? ⟨b, off, s⟩ := by
  unfold World.cell?
  rw [h.same b hb.1 hb.2.1]

theorem Ext.frozen {Γ Γ' : Ctx} {w w' : World} (h : Ext Γ Γ' w w') {b : Nat} (hb : Γ.okB w b) (off : Nat) (s : Option Nat) : w'.frozen? ⟨b, off, s⟩ = w.frozen? ⟨b, off, s⟩ := by
  unfold World.frozen?
  rw [h.same b hb.1 hb.2.1]

section mono
variable {Γ Γ' : Ctx} {w w' : World} (h : Ext Γ Γ' w w')
include h
mutual
theorem VR.mono : ∀ (a : AV) (y : Value), VR Γ w a y → VR Γ' w' a y
  | .v x, y, hy => by simpa only [VR] using hy
  | .agg cs, y, hy => by
    simp only [VR] at hy ⊢
    obtain ⟨vs, rfl, h2⟩ := hy
    exact ⟨vs, rfl, VRs.mono cs vs h2⟩
  | .tup cs, y, hy => by
    simp only [VR] at hy ⊢
    obtain ⟨vs, rfl, h2⟩ := hy
    exact ⟨vs, rfl, VRs.mono cs vs h2⟩
  | .fsl es clip, y, hy => by
    simp only [VR] at hy ⊢
    obtain ⟨A, c, rfl, h1, h2, h3⟩ := hy
    refine ⟨A, c, rfl, h1, h2, ?_⟩
    rcases h3 with h3 | ⟨b, off, sz, h4, h5, h6, h7, h8⟩
    · exact .inl h3
    · exact .inr ⟨b, off, sz, h4, h.okB h5, h6, h7, VRrows.mono sz es _ _ (fun j => h.cell h5 _ _) h8⟩
  | .fptr cs, y, hy => by
    simp only [VR] at hy ⊢
    obtain ⟨b, off, rfl, h5, h6⟩ := hy
    exact ⟨b, off, rfl, h.okB h5, VRcells.mono cs _ _ (fun j => h.cell h5 _ _) h6⟩
  | .sl o g off len clip, y, hy => by
    simp only [VR] at hy ⊢
    obtain ⟨A, c, rfl, h5, h6, h1, h2, h3⟩ := hy
    refine ⟨A, c, rfl, h5, h6, Nat.lt_of_lt_of_le h1 h.n, ?_, ?_⟩
    · rcases h.loc o h1 with h4 | h4
      · rw [h4]; exact h2
      · omega
    · rcases h.loc o h1 with h4 | h4
      · rw [h4]; exact h3
      · intro hg; omega
  | .ptr o g i off, y, hy => by
    simp only [VR] at hy ⊢
    obtain ⟨p, rfl, h1, h2, h3⟩ := hy
    refine ⟨p, rfl, Nat.lt_of_lt_of_le h1 h.n, ?_, ?_⟩
    · rcases h.loc o h1 with h4 | h4
      · rw [h4]; exact h2
      · omega
    · rcases h.loc o h1 with h4 | h4
      · rw [h4]; exact h3
      · intro hg; omega
  | .fn f first cap, y, hy => by
    simp only [VR] at hy ⊢
    obtain ⟨fs, cs, rfl, h1, h2⟩ := hy
    exact ⟨fs, cs, rfl, VRs.mono first fs h1, VRs.mono cap cs h2⟩
  | .yld o, y, hy => by
    simp only [VR] at hy ⊢
    obtain ⟨l, rfl, h1, h3⟩ := hy
    refine ⟨l, rfl, Nat.lt_of_lt_of_le h1 h.n, ?_⟩
    rcases h.loc o h1 with h4 | h4
    · rw [h4]; exact h3
    · intro hg; omega
  | .mp o, y, hy => by
    simp only [VR] at hy ⊢
    obtain ⟨l, rfl, h1, h3⟩ := hy
    refine ⟨l, rfl, Nat.lt_of_lt_of_le h1 h.n, ?_⟩
    rcases h.loc o h1 with h4 | h4
    · rw [h4]; exact h3
    · intro hg; omega
theorem VRs.mono : ∀ (as : List AV) (ys : List Value), VRs Γ w as ys → VRs Γ' w' as ys
  | [], ys, hy => by simpa only [VRs] using hy
  | a :: as, ys, hy => by
    simp only [VRs] at hy ⊢
    obtain ⟨u, us, rfl, h1, h2⟩ := hy
    exact ⟨u, us, rfl, VR.mono a u h1, VRs.mono as us h2⟩
theorem VRcells.mono : ∀ (as : List AV) (get get' : Nat → Option Value), (∀ j, get' j = get j) → VRcells Γ w as get → VRcells Γ' w' as get'
  | [], _, _, _, _ => by simp only [VRcells]
  | a :: as, get, get', hg, hy => by
    simp only [VRcells] at hy ⊢
    obtain ⟨⟨u, h1, h2⟩, h3⟩ := hy
    exact ⟨⟨u, (hg 0).trans h1, VR.mono a u h2⟩, VRcells.mono as _ _ (fun j => hg (j + 1)) h3⟩
theorem VRrows.mono (sz : Nat) : ∀ (es : List (List AV)) (get get' : Nat → Option Value), (∀ j, get' j = get j) → VRrows Γ w sz es get → VRrows Γ' w' sz es get'
  | [], _, _, _, _ => by simp only [VRrows]
  | e :: es, get, get', hg, hy => by
    simp only [VRrows] at hy ⊢
    exact ⟨VRcells.mono e _ _ hg hy.1, VRrows.mono sz es _ _ (fun j => hg (j + sz)) hy.2⟩
end
end mono
end Go.Ev
