/- Part of the proofs about this seat's program (module EvW). -/
import Derived.Test.YtbkabnhkclbepaaEvV
set_option linter.unusedSectionVars false
set_option linter.unusedSimpArgs false
set_option linter.unusedVariables false
namespace Go.Ev
open Go.RowKit (Below)
variable {P : Program} {Γ Γ' : Ctx} {w w' : World} {σ σ' : Store} {e e' : Env} {a a' : Act} {av : AV} {N : Nat}

/-! ### A function that asks whether a slice is nil: slices.Clone -/
def cloneF (sz bytes : Nat) : List AV → Option (AV × Store)
  | [.fsl es _] => if 0 < sz ∧ okRows sz es = true ∧ es.length * bytes ≤ 2 ^ 47 then some (.sl 0 0 0 es.length false, [.row sz es 0]) else none
  | _ => none
structure CloneParts where
  fn : Func
  t : TypeId
  el : TypeId
  r0 : Code
  i1 : Nat
  o3 : Oper
  o4 : Oper
  y : TypeId
  A : Code
  B : Code
def clonePartsOf (P : Program) (k : Nat) : Option CloneParts :=
  (P.funcs[k]?).bind fun fn =>
  match fn.body with
  | some (.seq r0 (.seq (.seq (.region i1 ops false) (.cond (.tmp 4) A .skip)) B)) =>
    match ops.toList with
    | [o3, o4] =>
      match o4.op with
      | .binOp .eql t (.tmp 3) (.const (.slice none 0 0)) y =>
        match P.underlying t with
        | some (.slice el) => some ⟨fn, t, el, r0, i1, o3, o4, y, A, B⟩
        | _ => none
      | _ => none
    | _ => none
  | _ => none
def isCell2 : List ResultVar → Bool
  | [.tmp 2] => true
  | _ => false
/-- The size of an element, and how many bytes it takes. -/
def cloneOf (P : Program) (k : Nat) : Option (Nat × Nat) :=
  (clonePartsOf P k).bind fun p =>
  if (p.fn.name == "runtime.NumGoroutine") = false ∧ p.fn.params.size + p.fn.nfree = 1 ∧ p.fn.ntmps = 8 ∧ isCell2 p.fn.results.toList = true ∧ p.o4.dst = some 4 ∧ p.o4.guard = none then
    match cCode P {} 8 p.r0 0, cOper P {} 8 #[] p.o3, cCode P {} 8 p.A 0, cCode P { appN := [7] } 8 p.B 0 with
    | some (.region [⟨some 2, none, .op (.mv (.c (.fsl [] true)))⟩], _), some ⟨some 3, none, .op (.mv (.t 0))⟩, some (.seq (.region [⟨some 2, none, .op (.mv (.c (.fsl [] true)))⟩]) .ret, _),
      some (.seq (.region [⟨some 5, none, .op (.bslF z 0 [])⟩, ⟨some 6, none, .op (.mv (.t 0))⟩, ⟨some 7, none, .op (.appN sz bytes (.t 5) (.t 6))⟩, ⟨some 2, none, .op (.mv (.t 7))⟩]) .ret, _) =>
      if z ≠ [] then some (sz, bytes) else none
    | _, _, _, _ => none
  else none
def noneOrc : Orc := ⟨fun _ _ _ => none, fun _ _ _ => none, fun _ => false⟩
theorem noneOrc_call : CallOk P noneOrc := fun k args σ r σ' h => by cases h
theorem noneOrc_round : RoundOk P noneOrc := fun k args σ r σ' h => by cases h
theorem noneOrc_ent : EntOk P noneOrc := fun k h => by cases h

theorem run_isNil {t el : TypeId} {A : Option Addr} {n c : Nat} {x y : Operand} (ht : P.underlying t = some (.slice el)) :
    (do eqGuard .eql t x y (.slice A n c) (.slice none 0 0); binOp .eql t (.slice A n c) (.slice none 0 0) : Sem Value).run P w = .ok (.bool A.isNone) w := by
  have hg : (eqGuard .eql t x y (.slice A n c) (.slice none 0 0)).run P w = .ok () w := by unfold eqGuard; simp
  have he : (Op.equal t (.slice A n c) (.slice none 0 0)).run P w = .ok A.isNone w := by
    unfold Op.equal
    rw [show Op.maxDepth = 9999 + 1 from rfl]
    unfold Op.equalIn
    simp only [Sem.run_bind, run_underlying ht, Result.andThen_ok]
    cases A <;> simp
  simp only [Sem.run_bind, hg, Result.andThen_ok]
  unfold binOp
  simp [he]
/-- An empty slice, taken for an owned one. -/
theorem own_empty {v : Value} {c : Bool} {sz : Nat} (s : SR P Γ [] w) (h0 : 0 < sz) (hv : VR Γ w (.fsl [] c) v) (hc : v = .slice none 0 0 ∨ c = true) {Γ0 : Ctx} {w0 : World} (x : Ext Γ0 Γ w0 w) : Got P Γ0 w0 (.sl 0 0 0 0 false) [.row sz [] 0] v w := by
  have hx := Ext.push (Γ := Γ) (Below.refl w.heap.size w) ⟨0, 0, sz, 0⟩ fun h => absurd rfl h
  have hn : Γ.n = 0 := by rw [← s.len]; rfl
  have hs := s.push (Below.refl w.heap.size w) ⟨0, 0, sz, 0⟩ (ob := .row sz [] 0) (fun h => absurd rfl h) (by
    simp only [OR, Ctx.push_new]
    exact ⟨trivial, trivial, h0, Nat.le_refl _, by simp, .inl trivial⟩)
  refine ⟨_, ?_, by simpa using hs, x.trans hx⟩
  simp only [VR] at hv ⊢
  have hl : (Γ.push ⟨0, 0, sz, 0⟩).loc 0 = ⟨0, 0, sz, 0⟩ := by have := Γ.push_new ⟨0, 0, sz, 0⟩; rwa [hn] at this
  rw [hl]
  obtain ⟨A, cap, rfl, h1, h2, _⟩ := hv
  rcases hc with hc | hc
  · cases hc
    exact ⟨none, 0, rfl, Nat.le_refl _, fun _ => rfl, by simp [Ctx.push], Nat.le_refl _, fun _ => ⟨Nat.le_refl _, .inl rfl⟩⟩
  · have := h2 hc
    simp at this
    subst this
    exact ⟨A, 0, rfl, Nat.le_refl _, fun _ => rfl, by simp [Ctx.push], Nat.le_refl _, fun _ => ⟨Nat.le_refl _, .inl rfl⟩⟩

theorem cOper_ops {h : Hints} {n : Nat} {ops ops' : Array Oper} {o : Oper} {c : COper} (hc : cOper P h n ops o = some c) (hg : c.guard = none) : cOper P h n ops' o = some c := by
  obtain ⟨h1, h2, h3, h4⟩ := cOper_parts hc
  rcases h4 with ⟨h4, _⟩ | ⟨j, want, t, _, h5, _⟩
  · unfold cOper
    rw [if_pos h1, h3, h4]
    obtain ⟨d, g, it⟩ := c
    simp only at h2 hg
    simp [h2, hg]
  · rw [hg] at h5; cases h5
theorem clonePartsOf_spec {k : Nat} {p : CloneParts} (h : clonePartsOf P k = some p) : P.funcs[k]? = some p.fn ∧ (∃ ops, p.fn.body = some (.seq p.r0 (.seq (.seq (.region p.i1 ops false) (.cond (.tmp 4) p.A .skip)) p.B)) ∧ ops.toList = [p.o3, p.o4]) ∧
    p.o4.op = .binOp .eql p.t (.tmp 3) (.const (.slice none 0 0)) p.y ∧ P.underlying p.t = some (.slice p.el) := by
  unfold clonePartsOf at h
  rw [Option.bind_eq_some_iff] at h
  obtain ⟨fn, h1, h⟩ := h
  split at h
  · rename_i r0 i1 ops A B hb
    split at h
    · rename_i o3 o4 ho
      split at h
      · rename_i t y hop
        split at h
        · rename_i el hu
          cases h
          exact ⟨h1, ⟨ops, hb, ho⟩, hop, hu⟩
        · cases h
      · cases h
    · cases h
  · cases h
theorem clone_ok {k sz bytes : Nat} (hm : P.follows .mixedOrders = true) (h : cloneOf P k = some (sz, bytes)) : ExtOk P k (cloneF sz bytes) := by
  intro args r τ hlo hF Γ w vs s hv
  unfold cloneOf at h
  rw [Option.bind_eq_some_iff] at h
  obtain ⟨p, hp, h⟩ := h
  obtain ⟨h1, ⟨ops, h2, hops⟩, hop, hu⟩ := clonePartsOf_spec hp
  split at h
  · rename_i hcond
    obtain ⟨hname, hnp, hnt, hres, hd4, hg4⟩ := hcond
    split at h
    · rename_i j0 jA z sz' bytes' jB hr0 ho3 hA hB
      split at h
      · rename_i hz
        cases h
        unfold cloneF at hF
        split at hF
        · rename_i es c
          split at hF
          · rename_i hes
            cases hF
            simp only [VRs] at hv
            obtain ⟨v, us, rfl, hv, rfl⟩ := hv
            rw [run_enter h1 hname h2]
            have hE : ∀ {c : Code} {hh : Hints} {i j : Nat} {cc : CCode}, cCode P hh 8 c i = some (cc, j) → ExecOk P noneOrc itL 8 c cc := fun hc => exec_ok noneOrc_call noneOrc_round noneOrc_ent itL_ok hm _ hc
            have hopsz : ops.size = 2 := by rw [← Array.length_toList, hops]; rfl
            have hg0 : ops[0]? = some p.o3 := by rw [← Array.getElem?_toList, hops]; rfl
            have hg1 : ops[1]? = some p.o4 := by rw [← Array.getElem?_toList, hops]; rfl
            have leave : ∀ {r : AV} {τ : Store} {e : Env} {Γ' : Ctx} {a' : Act} {w' : World}, e.marks = [] → AR P Γ' 8 e τ a' w' → (∀ v, VR Γ' w' ((e.get 2).getD (.v undef)) v → Got P Γ w r [.row sz es 0] v w') → (e.get 2).isSome = true →
                LeavesInM Fence.wide 0 P p.fn a'.tmps (Back (Got P Γ w r [.row sz es 0])) a'.defers .returning w' := by
              intro r τ e Γ' a' w' hmk ha hgot hsome
              have hmr := ha.mr
              rw [hmk] at hmr
              simp only [MR] at hmr
              rw [hmr]
              obtain ⟨av, hav⟩ := Option.isSome_iff_exists.1 hsome
              have hrl : p.fn.results.toList = [.tmp 2] := by
                revert hres; unfold isCell2; split
                · intro _; assumption
                · intro hh; cases hh
              obtain ⟨v, h8, h9⟩ := results_ok (N := 8) (cs := [.tmp 2]) (as := [av]) (by rw [hrl]; rfl) ha.sr ha.ve (by simp [resVals, resVal, hav])
              refine ⟨v, h8, hgot v ?_⟩
              rw [hav]
              exact h9
            refine callsIn_of_wp_marks (F := Fence.wide) (n := 0) h1 h2 trivial ?_
            have ha0 : AR P Γ 8 ⟨[(0, .fsl es c)], []⟩ [] { tmps := #[v] ++ Array.replicate (p.fn.ntmps - 1) undef, defers := [] } w := by
              refine ⟨fun t av ht => ?_, s, by simp [hnt], rfl⟩
              simp only [look] at ht
              split at ht
              · rename_i h0
                subst h0
                cases ht
                have h0e : (#[v] ++ Array.replicate (p.fn.ntmps - 1) undef).getD 0 undef = v := by
                  rw [Array.getD_eq_getD_getElem?, Array.getElem?_append_left (by simp)]; simp
                simp only [h0e]
                exact hv
              · cases ht
            refine wpIn_seq (wpIn_mono (hE hr0 (ro := none) (l := none) (e' := ⟨[(2, .fsl [] true), (0, .fsl es c)], []⟩) (σ' := []) (x := .normal) rfl ha0 trivial) ?_)
            rintro ex a1 w1 ⟨rfl, Γ1, x1, ha1⟩
            refine wpIn_seq (wpIn_seq (wpIn_region ?_))
            rw [hopsz, show List.range 2 = [0, 1] from rfl, wpOpsIn_cons]
            refine oper_wp (e := ⟨[(2, .fsl [] true), (0, .fsl es c)], []⟩) (σ := []) noneOrc_call noneOrc_round hg0 (cOper_ops ho3 rfl) (e1 := ⟨[(3, .fsl es c), (2, .fsl [] true), (0, .fsl es c)], []⟩) (σ1 := []) rfl ha1 fun Γ2 a2 w2 x2 ha2 => ?_
            rw [wpOpsIn_cons]
            unfold wpOpIn
            have hwant : Region.wanted p.o4 (yielded ops a2.tmps) = true := by simp [Region.wanted, hg4]
            simp only [hg1, hwant, if_true, Oper.wpIn]
            refine ⟨fun _ _ => trivial, ?_⟩
            rw [Oper.semAt_eq _ _ _ (by rw [hop]; intro c hc; cases hc)]
            have hv3 := ha2.ve 3 (.fsl es c) rfl
            have hv3' := hv3
            simp only [VR] at hv3'
            obtain ⟨A, cap, hAv, hle, hclip, hmem⟩ := hv3'
            have hrun : (execOp a2.eval p.o4).run P w2 = .ok (.value (.bool A.isNone)) w2 := by
              simp only [execOp, hop]
              have h3e : a2.eval (.tmp 3) = .slice A es.length cap := hAv
              rw [h3e]
              have h4e : a2.eval (.const (.slice none 0 0)) = .slice none 0 0 := rfl
              rw [h4e]
              have := run_isNil (P := P) (w := w2) (t := p.t) (A := A) (n := es.length) (c := cap) (x := .tmp 3) (y := .const (.slice none 0 0)) hu
              simp only [Sem.run_bind] at this ⊢
              rw [this]
              rfl
            rw [hrun]
            simp only [Oper.uponIn, wpOpsIn]
            have ha3 := ha2.put (d := p.o4.dst) (av := .v (.bool A.isNone)) (v := .bool A.isNone) (by rw [hd4]; rfl) (by simp only [VR]) ha2.sr (Ext.refl _ _)
            rw [hd4] at ha3 ⊢
            have hc4 : (a2.put (some 4) (.bool A.isNone)).eval (.tmp 4) = .bool A.isNone := by
              have := ha3.ve 4 (.v (.bool A.isNone)) rfl
              simp only [VR] at this
              exact this
            refine wpIn_cond hc4 ?_
            have x12 := x1.trans x2
            cases A with
            | none =>
              have hnil : es = [] := by
                rcases hmem with hmem | ⟨b, off, sz', hA', _⟩
                · exact hmem
                · cases hA'
              subst hnil
              refine wpIn_mono (hE hA (ro := none) (l := none) (e' := ⟨[(2, .fsl [] true), (4, .v (.bool true)), (3, .fsl [] c), (2, .fsl [] true), (0, .fsl [] c)], []⟩) (σ' := []) (x := .ret) rfl ha3 trivial) ?_
              rintro ex a4 w4 ⟨rfl, Γ4, x4, ha4⟩
              exact leave rfl ha4 (fun v hv => own_empty ha4.sr hes.1 hv (.inr rfl) (x12.trans x4)) rfl
            | some A =>
              refine wpIn_skip (wpIn_mono (hE hB (ro := none) (l := none) (e' := ⟨[(2, .sl 0 0 0 es.length false), (7, .sl 0 0 0 es.length false), (6, .fsl es c), (5, .fsl [] true), (4, .v (.bool false)), (3, .fsl es c), (2, .fsl [] true), (0, .fsl es c)], []⟩)
                (σ' := [.row sz es 0]) (x := .ret) ?_ ha3 trivial) ?_)
              · have hq : ∀ e σ, evOp e σ (.bslF z 0 []) = some (.fsl [] true, σ) := fun e σ => by simp [evOp, fillR, hz]
                simp only [exec, evOpers, evOper, evItem, hq, Option.bind_some, Env.set]
                simp [evOp, Opnd.ev, Env.get, look, content, hes.1, hes.2.1, hes.2.2, Env.set]
              · rintro ex a4 w4 ⟨rfl, Γ4, x4, ha4⟩
                exact leave rfl ha4 (fun v hv => ⟨Γ4, hv, ha4.sr, x12.trans x4⟩) rfl
          · cases hF
        · cases hF
      · cases h
    · cases h
  · cases h
end Go.Ev
