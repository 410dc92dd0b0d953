/- Part of the proofs about this seat's program (module EvZB). -/
import Derived.Test.YtbkabnhkclbepaaEvZ
set_option linter.unusedSectionVars false
set_option linter.unusedSimpArgs false
set_option linter.unusedVariables false
namespace Go.Ev
open Go.RowKit (Below)
open Go.ChangeShapes Go.WideShapes Go.ChangeAt Go.RowKit
section
variable {H : Type} (P : Program) (enc : TypeId × Value → H)
/-- Arguments that read as data are the values of τ. -/
def IsArgs (ts : List TypeId) {τ : Type} (c : τ → List AV) (ok : τ → Prop) : Prop :=
  ∀ (W : World) (args : List Value) (ds : List (DataW H)) (p : List MemPlace), DataW.TrodAll enc P W 0 (fun _ => true) true ts args ds p →
    (∀ (j : Nat) t v, ts[j]? = some t → args[j]? = some v → ∃ base, Value.okWide P W .any base t v) → ∃ x : τ, ok x ∧ VRs Ctx.nil W (c x) args ∧ ds.length = ts.length
variable {P enc}
def plainU : TypeDesc → Bool
  | .struct _ => false
  | .array _ _ => false
  | _ => true
theorem okWide_plain {w : World} {r : Reach} {base : Nat} {t : TypeId} {v : Value} {u : TypeDesc} (hu : P.underlying t = some u) (hp : plainU u = true) (h : Value.okWide P w r base t v) : ∀ cs, v ≠ .agg cs := by
  rintro cs rfl
  unfold Value.okWide at h
  rw [hu] at h
  cases u <;> simp only [plainU, Bool.false_eq_true] at hp <;> simp only [Cell.okWide, Cell.ok, hu] at h
theorem isArgs_nil : IsArgs P enc [] (fun _ : Unit => []) (fun _ => True) := by
  intro W args ds p h _
  obtain ⟨rfl, rfl, rfl⟩ := trodAll_nil h
  exact ⟨(), trivial, by simp [VRs], rfl⟩
theorem isArgs_cell {t : TypeId} {ts : List TypeId} {u : TypeDesc} {α β : Type} {a : α → AV} {ok1 : α → Prop} {c2 : β → List AV} {ok2 : β → Prop} (hu : P.underlying t = some u) (hp : plainU u = true)
    (h1 : IsData P enc t (fun x => [a x]) ok1) (h2 : IsArgs P enc ts c2 ok2) : IsArgs P enc (t :: ts) (fun x : α × β => a x.1 :: c2 x.2) (fun x => ok1 x.1 ∧ ok2 x.2) := by
  intro W args ds p h hval
  obtain ⟨v, vs, d, ds', p, q, rfl, rfl, rfl, ht, hr⟩ := trodAll_cons h
  obtain ⟨y, k1, k2, k3⟩ := h2 W vs ds' q hr fun j t v e1 e2 => hval (j + 1) t v (by simpa using e1) (by simpa using e2)
  obtain ⟨fuel, hf⟩ := ht
  obtain ⟨x, m1, m2⟩ := h1 W fuel _ d p hf
  obtain ⟨base, hv⟩ := hval 0 t v rfl rfl
  have hna := okWide_plain hu hp hv
  have hc : v.cells.toList = [v] := by
    cases v with
    | agg cs => exact absurd rfl (hna cs)
    | _ => rfl
  rw [hc] at m2
  simp only [VRs] at m2
  obtain ⟨v', r, e, m3, rfl⟩ := m2
  cases e
  refine ⟨(x, y), ⟨m1, k1⟩, ?_, by simp [k3]⟩
  simp only [VRs]
  exact ⟨v, vs, rfl, m3, k2⟩
theorem isArgs_struct {t : TypeId} {ts : List TypeId} {fs : Array Field} {α β : Type} {c1 : α → List AV} {ok1 : α → Prop} {c2 : β → List AV} {ok2 : β → Prop} (hu : P.underlying t = some (.struct fs))
    (h1 : IsData P enc t c1 ok1) (h2 : IsArgs P enc ts c2 ok2) : IsArgs P enc (t :: ts) (fun x : α × β => .agg (c1 x.1) :: c2 x.2) (fun x => ok1 x.1 ∧ ok2 x.2) := by
  intro W args ds p h hval
  obtain ⟨v, vs, d, ds', p, q, rfl, rfl, rfl, ht, hr⟩ := trodAll_cons h
  obtain ⟨y, k1, k2, k3⟩ := h2 W vs ds' q hr fun j t v e1 e2 => hval (j + 1) t v (by simpa using e1) (by simpa using e2)
  obtain ⟨fuel, hf⟩ := ht
  obtain ⟨x, m1, m2⟩ := h1 W fuel _ d p hf
  obtain ⟨base, hv⟩ := hval 0 t v rfl rfl
  obtain ⟨cs, rfl, _⟩ := okWide_struct hu hv
  refine ⟨(x, y), ⟨m1, k1⟩, ?_, by simp [k3]⟩
  simp only [VRs]
  refine ⟨_, vs, rfl, ?_, k2⟩
  simp only [VR]
  exact ⟨cs.toList, by simp, by simpa [Value.cells] using m2⟩
end
/-- **THE ROW's STEP**, out of the evaluator's answer. -/
theorem contract_of {H : Type} {enc : TypeId × Value → H} {P : Program} {T : Tab} (hT : TabOk P T) {f : Nat} {fn : Func} {cf : CFunc} (hc : T.code f = some cf) {s : ChangeSpec} {apart : Bool} {ts : List TypeId} {tb : TypeId} {τ : Type} {c : τ → List AV} {ok : τ → Prop}
    (hpar : fn.params.toList = ts) (hargs : IsArgs P enc ts c ok) (hlaw : ∀ x, ok x → callZ (evL T) f (c x) = some (.v (.bool true)))
    (hvars : s.vars = []) (hspec : ∀ ds : List (DataW H), ds.length = ts.length → s.fn H ds = { results := [.lit (.bool true)], args := ds })
    (hr : fn.resultTypes = #[tb]) (htb : P.underlying tb = some .bool) (hl : laidOutB P = true) (hts : ∀ t ∈ ts, P.readableRec t = true ∧ t < P.types.size)
    (W : World) (base : Nat) (args : Array Value) (ds gs : List (DataW H)) (before : List MemPlace) (hval : ∀ (j : Nat) t v, fn.params[j]? = some t → args[j]? = some v → Value.okWide P W .any base t v)
    (hW : DataW.Whole enc P fn.params.toList s.vars apart W args.toList ds gs before) : Calls P f args W fun e W' => ∃ v, e = .returned v ∧ s.post enc P fn apart true false false W args v W' := by
  have hW' := hW
  obtain ⟨p, q, hA, hV, rfl, hz, hnd⟩ := hW
  rw [hvars] at hV
  obtain ⟨rfl, rfl⟩ := trodVars_none hV
  obtain ⟨x, h1, h2, h3⟩ := hargs W args.toList ds p (hpar ▸ hA) fun j t v e1 e2 => ⟨base, hval j t v (by rw [← hpar] at e1; simpa using e1) (by simpa using e2)⟩
  refine (calls_bool hT hc (hlaw x h1) h2).mono fun e W' ⟨he, hb⟩ => ⟨_, he, ?_⟩
  exact post_of_true hvars (by rw [List.append_nil]; exact hspec ds h3) hr htb hl (by rw [hpar]; exact hts) hW' hb
end Go.Ev
