/- Part of the proofs about this seat's program (module EvJ). -/
import Derived.Test.YtbkabnhkclbepaaEvI
import Derived.Laws.StructEq
set_option linter.unusedSectionVars false
set_option linter.unusedSimpArgs false
set_option linter.unusedVariables false
namespace Go.Ev
open Go.RowKit (Below)
variable {P : Program} {Γ Γ' : Ctx} {w w' : World} {σ σ' : Store} {e : Env} {a : Act} {av : AV}

/-! ### Slicing -/
theorem add_none (b off n : Nat) : (⟨b, off, none⟩ : Addr).add n = ⟨b, off + n, none⟩ := Addr.add_lit b off n
theorem optInt_ok {e : Env} {d : Int} {x : Option Operand} {x' : Option Opnd} {n : Int} (hc : cOpt x = some x') (he : optInt e d x' = some n) (hv : VE Γ w e a) :
    (x = none ∧ n = d) ∨ ∃ k, x.map a.eval = some (.int k n) := by
  cases x with
  | none => simp only [cOpt] at hc; cases hc; simp only [optInt] at he; cases he; exact .inl ⟨rfl, rfl⟩
  | some x =>
    simp only [cOpt] at hc
    obtain ⟨y, hy, hc⟩ := Option.bind_eq_some_iff.1 hc
    cases hc
    simp only [optInt] at he
    obtain ⟨v, hve, he⟩ := Option.bind_eq_some_iff.1 he
    split at he
    · cases he
      have := opnd_ok hy hve hv
      simp only [VR] at this
      exact .inr ⟨_, by rw [Option.map_some, this]⟩
    · cases he
theorem bounds_ok {len cap : Nat} {lo hi mx : Option Value} {l h m : Int} (hl : (lo = none ∧ l = 0) ∨ ∃ k, lo = some (.int k l)) (hh : (hi = none ∧ h = len) ∨ ∃ k, hi = some (.int k h))
    (hm : (mx = none ∧ m = cap) ∨ ((∃ k, mx = some (.int k m)) ∧ hi ≠ none)) (h0 : 0 ≤ l) (h1 : l ≤ h) (h2 : h ≤ m) (h3 : m ≤ cap) :
    (Instr.sliceBounds true len cap lo hi mx).run P w = .ok (l.toNat, h.toNat, m.toNat) w := by
  have e1 : (h.toNat : Int) = h := Int.toNat_of_nonneg (by omega)
  have e2 : (m.toNat : Int) = m := Int.toNat_of_nonneg (by omega)
  have g1 : 0 ≤ h := by omega
  have g2 : 0 ≤ m := by omega
  have g3 : h ≤ cap := by omega
  rcases hl with ⟨rfl, rfl⟩ | ⟨kl, rfl⟩ <;> rcases hh with ⟨rfl, rfl⟩ | ⟨kh, rfl⟩ <;> rcases hm with ⟨rfl, rfl⟩ | ⟨⟨km, rfl⟩, hne⟩ <;>
    first
      | exact absurd rfl hne
      | simp [Instr.sliceBounds, run_sliceBound, *]

theorem slice_run {t el : TypeId} {sz : Nat} {A : Option Addr} {len cap : Nat} {lo hi mx : Option Value} {l h m : Int} (ht : P.underlying t = some (.slice el)) (hsz : szT P el = some sz)
    (hl : (lo = none ∧ l = 0) ∨ ∃ k, lo = some (.int k l)) (hh : (hi = none ∧ h = len) ∨ ∃ k, hi = some (.int k h))
    (hm : (mx = none ∧ m = cap) ∨ ((∃ k, mx = some (.int k m)) ∧ hi ≠ none)) (h0 : 0 ≤ l) (h1 : l ≤ h) (h2 : h ≤ m) (h3 : m ≤ cap) :
    (Instr.sliceAt t (.slice A len cap) lo hi mx).run P w = .ok (.slice (if m.toNat = l.toNat then A else A.map (·.add (l.toNat * sz))) (h.toNat - l.toNat) (m.toNat - l.toNat)) w := by
  obtain ⟨i, hi', rfl⟩ := szT_ok hsz
  simp [Instr.sliceAt, Instr.slice, run_underlying ht, bounds_ok hl hh hm h0 h1 h2 h3, run_sizeOf' hi']

theorem ok_slc_fsl {t el : TypeId} {sz : Nat} {es : List (List AV)} {clip : Bool} {p : Value} {lo hi mx : Option Value} {l h m : Int} (cl : Bool) (hx : VR Γ w (.fsl es clip) p)
    (ht : P.underlying t = some (.slice el)) (hsz : szT P el = some sz) (hes : es = [] ∨ ∃ x, x ∈ es ∧ x.length = sz)
    (hl : (lo = none ∧ l = 0) ∨ ∃ k, lo = some (.int k l)) (hh : (hi = none ∧ h = es.length) ∨ ∃ k, hi = some (.int k h))
    (hm : (mx = none ∧ m = h) ∨ ((∃ k, mx = some (.int k m)) ∧ hi ≠ none)) (h0 : 0 ≤ l) (h1 : l ≤ h) (h2 : h ≤ m) (h3 : m ≤ es.length) (h4 : h ≤ es.length)
    (hcl : cl = true → (mx = none ∧ clip = true ∧ h = es.length) ∨ (mx ≠ none ∧ m = h)) :
    ∃ v, (Instr.sliceAt t p lo hi mx).run P w = .ok v w ∧ VR Γ w (.fsl ((es.drop l.toNat).take (h.toNat - l.toNat)) cl) v := by
  have hx' := hx
  simp only [VR] at hx
  obtain ⟨A, cap, rfl, c1, c2, c3⟩ := hx
  -- the model's own third bound
  obtain ⟨m', hm', hmb, hmc⟩ : ∃ m' : Int, ((mx = none ∧ m' = cap) ∨ ((∃ k, mx = some (.int k m')) ∧ hi ≠ none)) ∧ (h ≤ m' ∧ m' ≤ cap) ∧ (cl = true → m' = h) := by
    rcases hm with ⟨rfl, rfl⟩ | ⟨⟨k, rfl⟩, hne⟩
    · refine ⟨cap, .inl ⟨rfl, rfl⟩, ⟨by omega, by omega⟩, fun hc => ?_⟩
      rcases hcl hc with ⟨_, h5, h6⟩ | ⟨h5, _⟩
      · have := c2 h5
        omega
      · exact absurd rfl h5
    · refine ⟨m, .inr ⟨⟨k, rfl⟩, hne⟩, ⟨by omega, by omega⟩, fun hc => ?_⟩
      rcases hcl hc with ⟨h5, _⟩ | ⟨_, h5⟩
      · cases h5
      · exact h5
  refine ⟨_, slice_run ht hsz hl hh hm' h0 h1 hmb.1 hmb.2, ?_⟩
  simp only [VR]
  have hlen : ((es.drop l.toNat).take (h.toNat - l.toNat)).length = h.toNat - l.toNat := by simp; omega
  refine ⟨_, _, by rw [hlen], by omega, fun hc => by rw [hlen, hmc hc], ?_⟩
  by_cases hlt : l = h
  · left
    apply List.length_eq_zero_iff.1
    omega
  · right
    have hne : es ≠ [] := fun hn => by subst hn; simp at h4; omega
    obtain ⟨b, off, sz', cap', e1, _, _, hok, hpos, hls, hcells⟩ := fsl_cells hx' hne
    simp only [Value.slice.injEq] at e1
    obtain ⟨rfl, _, rfl⟩ := e1
    have hszz : sz' = sz := by
      rcases hes with rfl | ⟨x, hx, hxl⟩
      · exact absurd rfl hne
      · rw [← hls x hx, hxl]
    subst hszz
    refine ⟨b, off + l.toNat * sz', sz', ?_, hok, hpos, fun x hx => hls x (List.mem_of_mem_drop (List.mem_of_mem_take hx)), ?_⟩
    · rw [if_neg (by omega)]
      simp [add_none]
    · rw [VRrows_iff fun x hx => hls x (List.mem_of_mem_drop (List.mem_of_mem_take hx)), flatten_take (sz := sz') _ fun x hx => hls x (List.mem_of_mem_drop hx), flatten_drop _ hls]
      refine ((hcells.drop (l.toNat * sz') (by rw [flatten_length hls]; exact Nat.mul_le_mul_right _ (by omega))).take _).congr fun j => ?_
      congr 2; omega

theorem ok_slc_sl {t el : TypeId} {sz o g off len : Nat} {clip : Bool} {p : Value} {lo hi mx : Option Value} {l h m : Int} (cl : Bool) (hx : VR Γ w (.sl o g off len clip) p)
    (ht : P.underlying t = some (.slice el)) (hsz : szT P el = some sz) (hloc : (Γ.loc o).g = g → (Γ.loc o).sz = sz)
    (hl : (lo = none ∧ l = 0) ∨ ∃ k, lo = some (.int k l)) (hh : (hi = none ∧ h = len) ∨ ∃ k, hi = some (.int k h))
    (hm : (mx = none ∧ m = h) ∨ ((∃ k, mx = some (.int k m)) ∧ hi ≠ none)) (h0 : 0 ≤ l) (h1 : l ≤ h) (h2 : h ≤ m) (h3 : m ≤ len) (h4 : h ≤ len)
    (hcl : cl = true → (mx = none ∧ clip = true ∧ h = len) ∨ (mx ≠ none ∧ m = h)) :
    ∃ v, (Instr.sliceAt t p lo hi mx).run P w = .ok v w ∧ VR Γ w (.sl o g (off + l.toNat) (h.toNat - l.toNat) cl) v := by
  simp only [VR] at hx
  obtain ⟨A, cap, rfl, c1, c2, c3, c4, c5⟩ := hx
  obtain ⟨m', hm', hmb, hmc⟩ : ∃ m' : Int, ((mx = none ∧ m' = cap) ∨ ((∃ k, mx = some (.int k m')) ∧ hi ≠ none)) ∧ (h ≤ m' ∧ m' ≤ cap) ∧ (cl = true → m' = h) := by
    rcases hm with ⟨rfl, rfl⟩ | ⟨⟨k, rfl⟩, hne⟩
    · refine ⟨cap, .inl ⟨rfl, rfl⟩, ⟨by omega, by omega⟩, fun hc => ?_⟩
      rcases hcl hc with ⟨_, h5, h6⟩ | ⟨h5, _⟩
      · have := c2 h5
        omega
      · exact absurd rfl h5
    · refine ⟨m, .inr ⟨⟨k, rfl⟩, hne⟩, ⟨by omega, by omega⟩, fun hc => ?_⟩
      rcases hcl hc with ⟨h5, _⟩ | ⟨_, h5⟩
      · cases h5
      · exact h5
  refine ⟨_, slice_run ht hsz hl hh hm' h0 h1 hmb.1 hmb.2, ?_⟩
  simp only [VR]
  refine ⟨_, _, rfl, by omega, fun hc => by rw [hmc hc], c3, c4, fun hg => ?_⟩
  obtain ⟨d1, d2⟩ := c5 hg
  refine ⟨by omega, ?_⟩
  by_cases he : m'.toNat = l.toNat
  · exact .inl (by omega)
  · right
    rw [if_neg he]
    rcases d2 with d2 | d2
    · omega
    · rw [d2, hloc hg, Nat.add_mul]; simp [add_none]

/-! ### Places -/
theorem ok_iaddr_fsl {t el : TypeId} {sz : Nat} {es : List (List AV)} {clip : Bool} {p : Value} {k : IntKind} {n : Int} {c : List AV} (hx : VR Γ w (.fsl es clip) p) (ht : P.underlying t = some (.slice el)) (hsz : szT P el = some sz)
    (h0 : 0 ≤ n) (hi : es[n.toNat]? = some c) (hc : c.length = sz) : ∃ v, (Instr.indexAt t p (.int k n)).run P w = .ok v w ∧ VR Γ w (.fptr c) v := by
  have hlt := (List.getElem?_eq_some_iff.1 hi).1
  have hne : es ≠ [] := fun h => by subst h; simp at hi
  obtain ⟨b, off, sz', cap, rfl, _, _, hok, hpos, hls, hcells⟩ := fsl_cells hx hne
  have hszz : sz' = sz := by rw [← hls c (mem_of_get? hi), hc]
  subst hszz
  obtain ⟨i, hinf, rfl⟩ := szT_ok hsz
  refine ⟨.pointer (some ⟨b, off + n.toNat * i.size, none⟩), ?_, ?_⟩
  · have hb : 0 ≤ n ∧ n < es.length := ⟨h0, by omega⟩
    simp [Instr.indexAt, asIntOf, run_underlying ht, hb, run_sizeOf' hinf, add_none]
  · simp only [VR]
    refine ⟨b, _, rfl, hok, ?_⟩
    refine (VRcells.elem hls hcells hi).congr fun j => ?_
    congr 2; omega
theorem ok_iaddr_sl {t el : TypeId} {sz o g off len : Nat} {es : List (List AV)} {clip : Bool} {p : Value} {k : IntKind} {n : Int} (s : SR P Γ σ w) (hx : VR Γ w (.sl o g off len clip) p) (ht : P.underlying t = some (.slice el)) (hsz : szT P el = some sz)
    (h0 : 0 ≤ n) (ho : σ[o]? = some (.row sz es g)) (hn : n.toNat < len) : ∃ v, (Instr.indexAt t p (.int k n)).run P w = .ok v w ∧ VR Γ w (.ptr o g (off + n.toNat) 0) v := by
  have hO := s.obj o _ ho
  simp only [OR] at hO
  obtain ⟨k1, k2, k3, k4, k5, -⟩ := hO
  simp only [VR] at hx
  obtain ⟨A, cap, rfl, c1, c2, c3, c4, c5⟩ := hx
  obtain ⟨d1, d2⟩ := c5 k1
  have hA := d2.resolve_left (by omega)
  obtain ⟨i, hinf, rfl⟩ := szT_ok hsz
  subst hA
  refine ⟨.pointer (some ⟨(Γ.loc o).b, off * (Γ.loc o).sz + n.toNat * i.size, none⟩), ?_, ?_⟩
  · have hb : 0 ≤ n ∧ n < len := ⟨h0, by omega⟩
    simp [Instr.indexAt, asIntOf, run_underlying ht, hb, run_sizeOf' hinf, add_none]
  · simp only [VR]
    exact ⟨_, rfl, c3, c4, fun _ => by rw [k2, Nat.add_mul]; simp⟩
theorem ok_faddr {t : TypeId} {fs : Array Field} {f : Nat} {fd : Field} {sz : Nat} {x r : AV} {p : Value} (hx : VR Γ w x p) (ht : P.underlying t = some (.struct fs)) (hf : fs[f]? = some fd) (hsz : szT P fd.type = some sz) (h0 : sz ≠ 0)
    (hr : (∃ cs, x = .fptr cs ∧ r = .fptr (cs.drop fd.offset)) ∨ (∃ o g i o', x = .ptr o g i o' ∧ r = .ptr o g i (o' + fd.offset))) :
    ∃ v, (Instr.fieldAt t p f).run P w = .ok v w ∧ VR Γ w r v := by
  obtain ⟨i, hinf, rfl⟩ := szT_ok hsz
  have hplace : ∀ a : Addr, (fieldPlace a fd).run P w = .ok (a.add fd.offset) w := fun a => by
    simp [fieldPlace, run_sizeOf' hinf, h0]
  have hrun : ∀ a : Addr, (Instr.fieldAt t (.pointer (some a)) f).run P w = .ok (.pointer (some (a.add fd.offset))) w := fun a => by
    simp [Instr.fieldAt, run_underlying ht, hf, Instr.sureAddr, hplace]
  rcases hr with ⟨cs, rfl, rfl⟩ | ⟨o, g, j, o', rfl, rfl⟩
  · simp only [VR] at hx
    obtain ⟨b, off, rfl, hok, hcs⟩ := hx
    refine ⟨_, hrun _, ?_⟩
    simp only [VR]
    refine ⟨b, off + fd.offset, by rw [add_none], hok, ?_⟩
    by_cases hle : fd.offset ≤ cs.length
    · refine (hcs.drop _ hle).congr fun k => ?_
      congr 2; omega
    · rw [List.drop_eq_nil_of_le (by omega)]; simp [VRcells]
  · simp only [VR] at hx
    obtain ⟨q, rfl, h1, h2, h3⟩ := hx
    refine ⟨_, hrun _, ?_⟩
    simp only [VR]
    refine ⟨_, rfl, h1, h2, fun hg => ?_⟩
    rw [h3 hg, add_none, Nat.add_assoc]
theorem ok_iaddrA {t el : TypeId} {n sz : Nat} {x r : AV} {p : Value} {k : IntKind} {i : Int} (hx : VR Γ w x p) (ht : P.underlying t = some (.array n el)) (hsz : szT P el = some sz) (h0 : 0 ≤ i) (hn : i.toNat < n)
    (hr : (∃ cs, x = .fptr cs ∧ r = .fptr (cs.drop (i.toNat * sz))) ∨ (∃ o g j o', x = .ptr o g j o' ∧ r = .ptr o g j (o' + i.toNat * sz))) :
    ∃ v, (Instr.indexAt t p (.int k i)).run P w = .ok v w ∧ VR Γ w r v := by
  obtain ⟨inf, hinf, rfl⟩ := szT_ok hsz
  have hb : 0 ≤ i ∧ i < n := ⟨h0, by omega⟩
  have hrun : ∀ a : Addr, (Instr.indexAt t (.pointer (some a)) (.int k i)).run P w = .ok (.pointer (some (a.add (i.toNat * inf.size)))) w := fun a => by
    simp [Instr.indexAt, asIntOf, run_underlying ht, Instr.sureAddr, hb, run_sizeOf' hinf]
  rcases hr with ⟨cs, rfl, rfl⟩ | ⟨o, g, j, o', rfl, rfl⟩
  · simp only [VR] at hx
    obtain ⟨b, off, rfl, hok, hcs⟩ := hx
    refine ⟨_, hrun _, ?_⟩
    simp only [VR]
    refine ⟨b, off + i.toNat * inf.size, by rw [add_none], hok, ?_⟩
    by_cases hle : i.toNat * inf.size ≤ cs.length
    · refine (hcs.drop _ hle).congr fun k => ?_
      congr 2; omega
    · rw [List.drop_eq_nil_of_le (by omega)]; simp [VRcells]
  · simp only [VR] at hx
    obtain ⟨q, rfl, h1, h2, h3⟩ := hx
    refine ⟨_, hrun _, ?_⟩
    simp only [VR]
    refine ⟨_, rfl, h1, h2, fun hg => ?_⟩
    rw [h3 hg, add_none, Nat.add_assoc]
/-- A part of a struct or an array that is a value. -/
theorem ok_part {t : TypeId} {sz off : Nat} {cs : List AV} {vs : List Value} {r : AV} (hcs : VRs Γ w cs vs) (hsz : szT P t = some sz) (hu : (P.underlying t).isSome = true) (h1 : aggT P t = true ∨ sz = 1)
    (hl : loadC sz (aggT P t) (cs.drop off) = some r) : ∃ v, (part t vs.toArray off).run P w = .ok v w ∧ VR Γ w r v := by
  obtain ⟨i, hi, rfl⟩ := szT_ok hsz
  unfold loadC at hl
  split at hl
  · rename_i hag
    split at hl
    · cases hl
      refine ⟨_, by simp [part, run_isAgg' hu, hag, run_sizeOf' hi]; rfl, ?_⟩
      simp only [VR]
      refine ⟨(vs.drop off).take i.size, ?_, (hcs.drop off).take _⟩
      congr 1
    · cases hl
  · rename_i hag
    have hag' : aggT P t = false := by simpa using hag
    rw [List.head?_drop] at hl
    obtain ⟨v, hv, hr⟩ := hcs.get hl
    exact ⟨v, by simp [part, run_isAgg' hu, hag', hv], hr⟩
end Go.Ev
