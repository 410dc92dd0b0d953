/- For every input the statement of this claim returns true: texts of its proof, joined (part 12). -/
import Derived.Test.YthkjkdbjgpeigaaGreatRows
import Derived.WalkKit
import Derived.ProofKit
import Derived.Test.YthkjkdbjgpeigaaGreatGB10
set_option linter.unusedSectionVars false
set_option linter.unusedSimpArgs false
set_option linter.unusedVariables false
namespace Go.Ev
open Go.RowKit (Below)
open Go.ChangeShapes Go.WideShapes Go.ChangeAt Go.RowKit
section
variable {H : Type} (P : Program) (enc : TypeId × Value → H)
def q3q (ts : List TypeId) {τ : Type} (c : τ → List AV) (ok : τ → Prop) : Prop :=
  ∀ (W : World) (args : List Value) (ds : List (DataW H)) (p : List MemPlace), DataW.TrodAll enc P W 0 (fun _ => true) true ts args ds p →
    (∀ (j : Nat) t v, ts[j]? = some t → args[j]? = some v → ∃ base, Value.okWide P W .any base t v) → ∃ x : τ, ok x ∧ VRs Ctx.nil W (c x) args ∧ ds.length = ts.length
variable {P enc}
def qaac : TypeDesc → Bool
  | .struct _ => false
  | .array _ _ => false
  | _ => true
theorem q5a {w : World} {r : Reach} {base : Nat} {t : TypeId} {v : Value} {u : TypeDesc} (hu : P.underlying t = some u) (hp : qaac u = true) (h : Value.okWide P w r base t v) : ∀ cs, v ≠ .agg cs := by
  rintro cs rfl
  unfold Value.okWide at h
  rw [hu] at h
  cases u <;> simp only [qaac, Bool.false_eq_true] at hp <;> simp only [Cell.okWide, Cell.ok, hu] at h
theorem q9i : q3q P enc [] (fun _ : Unit => []) (fun _ => True) := by
  intro W args ds p h _
  obtain ⟨rfl, rfl, rfl⟩ := trodAll_nil h
  exact ⟨(), trivial, by simp [VRs], rfl⟩
theorem q6w {t : TypeId} {ts : List TypeId} {u : TypeDesc} {α β : Type} {a : α → AV} {ok1 : α → Prop} {c2 : β → List AV} {ok2 : β → Prop} (hu : P.underlying t = some u) (hp : qaac u = true)
    (h1 : qll P enc t (fun x => [a x]) ok1) (h2 : q3q P enc ts c2 ok2) : q3q P enc (t :: ts) (fun x : α × β => a x.1 :: c2 x.2) (fun x => ok1 x.1 ∧ ok2 x.2) := by
  intro W args ds p h hval
  obtain ⟨v, vs, d, ds', p, q, rfl, rfl, rfl, ht, hr⟩ := trodAll_cons h
  obtain ⟨y, k1, k2, k3⟩ := h2 W vs ds' q hr fun j t v e1 e2 => hval (j + 1) t v (by simpa using e1) (by simpa using e2)
  obtain ⟨fuel, hf⟩ := ht
  obtain ⟨x, m1, m2⟩ := h1 W fuel _ d p hf
  obtain ⟨base, hv⟩ := hval 0 t v rfl rfl
  have hna := q5a hu hp hv
  have hc : v.cells.toList = [v] := by
    cases v with
    | agg cs => exact absurd rfl (hna cs)
    | _ => rfl
  rw [hc] at m2
  simp only [VRs] at m2
  obtain ⟨v', r, e, m3, rfl⟩ := m2
  cases e
  refine ⟨(x, y), ⟨m1, k1⟩, ?_, by simp [k3]⟩
  simp only [VRs]
  exact ⟨v, vs, rfl, m3, k2⟩
theorem q4w {t : TypeId} {ts : List TypeId} {fs : Array Field} {α β : Type} {c1 : α → List AV} {ok1 : α → Prop} {c2 : β → List AV} {ok2 : β → Prop} (hu : P.underlying t = some (.struct fs))
    (h1 : qll P enc t c1 ok1) (h2 : q3q P enc ts c2 ok2) : q3q P enc (t :: ts) (fun x : α × β => .agg (c1 x.1) :: c2 x.2) (fun x => ok1 x.1 ∧ ok2 x.2) := by
  intro W args ds p h hval
  obtain ⟨v, vs, d, ds', p, q, rfl, rfl, rfl, ht, hr⟩ := trodAll_cons h
  obtain ⟨y, k1, k2, k3⟩ := h2 W vs ds' q hr fun j t v e1 e2 => hval (j + 1) t v (by simpa using e1) (by simpa using e2)
  obtain ⟨fuel, hf⟩ := ht
  obtain ⟨x, m1, m2⟩ := h1 W fuel _ d p hf
  obtain ⟨base, hv⟩ := hval 0 t v rfl rfl
  obtain ⟨cs, rfl, _⟩ := okWide_struct hu hv
  refine ⟨(x, y), ⟨m1, k1⟩, ?_, by simp [k3]⟩
  simp only [VRs]
  refine ⟨_, vs, rfl, ?_, k2⟩
  simp only [VR]
  exact ⟨cs.toList, by simp, by simpa [Value.cells] using m2⟩
end
theorem q6m {H : Type} {enc : TypeId × Value → H} {P : Program} {T : Tab} (hT : TabOk P T) {f : Nat} {fn : Func} {cf : CFunc} (hc : T.code f = some cf) {s : ChangeSpec} {apart : Bool} {ts : List TypeId} {tb : TypeId} {τ : Type} {c : τ → List AV} {ok : τ → Prop}
    (hpar : fn.params.toList = ts) (hargs : q3q P enc ts c ok) (hlaw : ∀ x, ok x → qaz (evL T) f (c x) = some (.v (.bool true)))
    (hvars : s.vars = []) (hspec : ∀ ds : List (DataW H), ds.length = ts.length → s.fn H ds = { results := [.lit (.bool true)], args := ds })
    (hr : fn.resultTypes = #[tb]) (htb : P.underlying tb = some .bool) (hl : laidOutB P = true) (hts : ∀ t ∈ ts, P.readableRec t = true ∧ t < P.types.size)
    (W : World) (base : Nat) (args : Array Value) (ds gs : List (DataW H)) (before : List MemPlace) (hval : ∀ (j : Nat) t v, fn.params[j]? = some t → args[j]? = some v → Value.okWide P W .any base t v)
    (hW : DataW.Whole enc P fn.params.toList s.vars apart W args.toList ds gs before) : Calls P f args W fun e W' => ∃ v, e = .returned v ∧ s.post enc P fn apart true false false W args v W' := by
  have hW' := hW
  obtain ⟨p, q, hA, hV, rfl, hz, hnd⟩ := hW
  rw [hvars] at hV
  obtain ⟨rfl, rfl⟩ := trodVars_none hV
  obtain ⟨x, h1, h2, h3⟩ := hargs W args.toList ds p (hpar ▸ hA) fun j t v e1 e2 => ⟨base, hval j t v (by rw [← hpar] at e1; simpa using e1) (by simpa using e2)⟩
  refine (q9l hT hc (hlaw x h1) h2).mono fun e W' ⟨he, hb⟩ => ⟨_, he, ?_⟩
  exact q5n hvars (by rw [List.append_nil]; exact hspec ds h3) hr htb hl (by rw [hpar]; exact hts) hW' hb
end Go.Ev
namespace Go.Proofs.YthkjkdbjgpeigaaGreat.K
open Go.Ev
open Go.ChangeShapes Go.WideShapes Go.ChangeAt Go.RowKit
section
variable {H : Type} {enc : TypeId × Value → H}
theorem wf_u8 {n : Int} (h : (Lit.int .u8 n).wf = true) : 0 ≤ n ∧ n ≤ 255 := by
  simp [Lit.wf] at h
  have h1 : IntKind.u8.min = 0 := rfl
  have h2 : IntKind.u8.max = 255 := rfl
  omega
theorem wf_i64 {n : Int} (h : (Lit.int .i64 n).wf = true) : -9223372036854775808 ≤ n ∧ n ≤ 9223372036854775807 := by
  simp [Lit.wf] at h
  have h1 : IntKind.i64.min = -9223372036854775808 := rfl
  have h2 : IntKind.i64.max = 9223372036854775807 := rfl
  omega
theorem qnp : qll Tryz.prog enc 3 (fun n : Int => [(ii n)]) (fun n => -9223372036854775808 ≤ n ∧ n ≤ 9223372036854775807) := (q3p Tryz.underlying3).map id (fun _ => rfl) (fun _ h => wf_i64 h)
theorem data_u8 : qll Tryz.prog enc 5 (fun n : Int => [(.v (.int .u8 n))]) (fun n => 0 ≤ n ∧ n ≤ 255) := (q3p Tryz.underlying5).map id (fun _ => rfl) (fun _ h => wf_u8 h)
theorem data_op : qll Tryz.prog enc 66 OpI.r (fun _ => True) := by
  have h := qqo (P := Tryz.prog) (enc := enc) (t := 66) Tryz.underlying66 (qfg (sz := 1) rfl (by kernel_rfl) qnp (qfg (sz := 1) rfl (by kernel_rfl) qnp (qfg (sz := 1) rfl (by kernel_rfl) qnp (qfg (sz := 1) rfl (by kernel_rfl) qnp (qte _))))) (by kernel_rfl)
  exact h.map (fun x => (⟨x.1, x.2.1, x.2.2.1, x.2.2.2.1⟩ : OpI)) (fun _ => rfl) (fun _ _ => trivial)
theorem qaaf : qll Tryz.prog enc 50 (fun l : List OpI => [(.fsl ((l).map OpI.r) false)]) (fun l => (∀ x ∈ l, True) ∧ l.length ≤ maxLen) := qps (sz := 4) Tryz.underlying50 (by kernel_rfl) (by decide) (fun _ => rfl) data_op
theorem q9r : qll Tryz.prog enc 23 (fun l : List (List OpI) => [(.fsl ((l).map qbm) false)]) (fun l => (∀ x ∈ l, (∀ y ∈ x, True) ∧ x.length ≤ maxLen) ∧ l.length ≤ maxLen) := qps (sz := 1) Tryz.underlying23 (by kernel_rfl) (by decide) (fun _ => rfl) qaaf
theorem q8s : qll Tryz.prog enc 64 Start.r (fun _ => True) := by
  have h := qqo (P := Tryz.prog) (enc := enc) (t := 64) Tryz.underlying64 (qfg (sz := 1) rfl (by kernel_rfl) qnp (qfg (sz := 1) rfl (by kernel_rfl) qnp (qte _))) (by kernel_rfl)
  exact h.map (fun x => (⟨x.1, x.2.1⟩ : Start)) (fun _ => rfl) (fun _ _ => trivial)
theorem q69 : qll Tryz.prog enc 49 (fun l : List Start => [(.fsl ((l).map Start.r) false)]) (fun l => (∀ x ∈ l, True) ∧ l.length ≤ maxLen) := qps (sz := 2) Tryz.underlying49 (by kernel_rfl) (by decide) (fun _ => rfl) q8s
theorem data_lps : qll Tryz.prog enc 22 (fun l : List (List Start) => [(.fsl ((l).map lpC) false)]) (fun l => (∀ x ∈ l, (∀ y ∈ x, True) ∧ x.length ≤ maxLen) ∧ l.length ≤ maxLen) := qps (sz := 1) Tryz.underlying22 (by kernel_rfl) (by decide) (fun _ => rfl) q69
theorem data_cfg : qll Tryz.prog enc 25 (fun c : Cfg => [(.fsl ((c.lps).map lpC) false), (.fsl ((c.progs).map qbm) false), (ii c.look), (ii c.fin), (ii c.cap)]) (fun c => -9223372036854775808 ≤ c.look ∧ c.look ≤ 9223372036854775807) := by
  have h := qqo (P := Tryz.prog) (enc := enc) (t := 25) Tryz.underlying25 (qfg (sz := 1) rfl (by kernel_rfl) data_lps (qfg (sz := 1) rfl (by kernel_rfl) q9r (qfg (sz := 1) rfl (by kernel_rfl) qnp (qfg (sz := 1) rfl (by kernel_rfl) qnp (qfg (sz := 1) rfl (by kernel_rfl) qnp (qte _)))))) (by kernel_rfl)
  exact h.map (fun x => (⟨x.1, x.2.1, x.2.2.1, x.2.2.2.1, x.2.2.2.2.1⟩ : Cfg)) (fun _ => rfl) (fun _ h => h.2.2.1)
end
theorem own : ownKnob Tryz.prog.godebug = none := by kernel_rfl
theorem laid : laidOutB Tryz.prog = true := by kernel_rfl
end Go.Proofs.YthkjkdbjgpeigaaGreat.K
