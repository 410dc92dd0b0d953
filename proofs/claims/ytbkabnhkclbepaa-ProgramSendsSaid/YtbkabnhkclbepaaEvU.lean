/- Part of the proofs about this seat's program (module EvU). -/
import Derived.Test.YtbkabnhkclbepaaEvT
set_option linter.unusedSectionVars false
set_option linter.unusedSimpArgs false
set_option linter.unusedVariables false
namespace Go.Ev
open Go.RowKit (Below)
variable {P : Program} {Γ Γ' : Ctx} {w w' : World} {σ σ' : Store} {e e' : Env} {a a' : Act} {av : AV} {N : Nat}

theorem run_enter {k : Nat} {fn : Func} {c : Code} (hf : P.funcs[k]? = some fn) (hname : (fn.name == "runtime.NumGoroutine") = false) (hb : fn.body = some c) (args : Array Value) (w : World) :
    (callFunc k args).run P w = .ok (.enter k args) w := by
  have h1 : fn.name ≠ "runtime.NumGoroutine" := by simpa using hname
  simp [callFunc, hf, h1, hb]

/-! ### The way in -/
theorem look_argVars : ∀ {as : List AV} {i t : Nat} {av : AV}, look (argVars i as) t = some av → ∃ j, t = i + j ∧ as[j]? = some av
  | [], i, t, av, h => by simp [argVars, look] at h
  | x :: as, i, t, av, h => by
    simp only [argVars, look] at h
    split at h
    · cases h; exact ⟨0, by omega, by simp⟩
    · obtain ⟨j, h1, h2⟩ := look_argVars h
      exact ⟨j + 1, by omega, by simpa using h2⟩

/-! ### The way out -/
theorem resVal_ok {r : ResultVar} {c : CRes} (hc : cRes P N r = some c) (s : SR P Γ σ w) (hv : VE Γ w e a) (h : resVal e σ c = some av) :
    ∃ v, ((match r with | .tmp t => pure (a.tmps.getD t undef) | .cell x t => do loadVar t (← asAddr (a.tmps.getD x undef)) : Sem Value)).run P w = .ok v w ∧ VR Γ w av v := by
  cases r with
  | tmp t =>
    simp only [cRes] at hc
    cases hc
    simp only [resVal] at h
    exact ⟨_, by simp, hv t av h⟩
  | cell x t =>
    simp only [cRes, Option.bind_eq_some_iff] at hc
    obtain ⟨sz, h1, hc⟩ := hc
    split at hc
    · rename_i hu
      cases hc
      simp only [resVal, Option.bind_eq_some_iff] at h
      obtain ⟨p, h2, cs, h3, h4⟩ := h
      obtain ⟨b, off, h5, h6⟩ := cellsAt_ok s (hv x p h2) h3
      obtain ⟨v, h7, h8⟩ := loadC_ok h1 hu.1 hu.2 h6 h4
      refine ⟨v, ?_, h8⟩
      simp only [Sem.run_bind]
      rw [h5]
      simp [asAddr, h7]
    · cases hc
theorem resVals_ok : ∀ {rs : List ResultVar} {cs : List CRes} {as : List AV}, omap (cRes P N) rs = some cs → SR P Γ σ w → VE Γ w e a → resVals e σ cs = some as →
    ∃ vs, (rs.mapM (fun r => (match r with | .tmp t => pure (a.tmps.getD t undef) | .cell x t => do loadVar t (← asAddr (a.tmps.getD x undef)) : Sem Value))).run P w = .ok vs w ∧ VRs Γ w as vs ∧ vs.length = rs.length
  | [], cs, as, hc, _, _, h => by
    simp only [omap] at hc
    cases hc
    simp only [resVals] at h
    cases h
    exact ⟨[], by simp, by simp [VRs], rfl⟩
  | r :: rs, cs, as, hc, s, hv, h => by
    simp only [omap, Option.bind_eq_some_iff] at hc
    obtain ⟨c, h1, cs', h2, hc⟩ := hc
    cases hc
    simp only [resVals, Option.bind_eq_some_iff] at h
    obtain ⟨x, h3, xs, h4, h⟩ := h
    cases h
    obtain ⟨v, h5, h6⟩ := resVal_ok h1 s hv h3
    obtain ⟨vs, h7, h8, h9⟩ := resVals_ok h2 s hv h4
    refine ⟨v :: vs, ?_, by simp only [VRs]; exact ⟨v, vs, rfl, h6, h8⟩, by simp [h9]⟩
    simp only [List.mapM_cons, Sem.run_bind]
    rw [h5]
    simp only [Result.andThen_ok]
    rw [h7]
    simp
theorem results_ok {fn : Func} {cs : List CRes} {as : List AV} (hc : omap (cRes P N) fn.results.toList = some cs) (s : SR P Γ σ w) (hv : VE Γ w e a) (h : resVals e σ cs = some as) :
    ∃ v, (results fn a.tmps).run P w = .ok v w ∧ VR Γ w (resOf as) v := by
  obtain ⟨vs, h1, h2, h3⟩ := resVals_ok hc s hv h
  have hlen := h2.length
  refine ⟨if h : vs.toArray.size = 1 then vs.toArray[0] else .tuple vs.toArray, ?_, ?_⟩
  · unfold results
    simp only [Sem.run_bind]
    rw [Array.mapM_eq_mapM_toList]
    simp only [Sem.run_map]
    erw [h1]
    simp
  · cases as with
    | nil =>
      have : vs = [] := List.eq_nil_of_length_eq_zero (by simpa using hlen)
      subst this
      simp [resOf, VR, VRs]
    | cons x xs =>
      cases xs with
      | nil =>
        simp only [VRs] at h2
        obtain ⟨u, us, rfl, h4, rfl⟩ := h2
        simpa [resOf] using h4
      | cons y ys =>
        simp only [VRs] at h2
        obtain ⟨u, us, rfl, h4, u', us', rfl, h5, h6⟩ := h2
        rw [dif_neg (by simp)]
        simp only [resOf, VR, VRs]
        exact ⟨_, rfl, u, _, rfl, h4, u', _, rfl, h5, h6⟩
theorem kill_ok {fn : Func} {tmps : Array Value} {R : Ending → World → Prop} {σ'' : Store} : ∀ {ms : List Nat} {ds : List Deferred} {σ : Store} {Γ : Ctx} {w : World}, kill σ ms = some σ'' → SR P Γ σ w → MR Γ ms ds →
    (∀ Γ' w', Ext Γ Γ' w w' → SR P Γ' σ'' w' → LeavesInM Fence.wide 0 P fn tmps R [] .returning w') → LeavesInM Fence.wide 0 P fn tmps R ds .returning w
  | [], ds, σ, Γ, w, h, s, hm, hR => by
    simp only [kill] at h
    cases h
    simp only [MR] at hm
    subst hm
    exact hR Γ w (Ext.refl _ _) s
  | m :: ms, ds, σ, Γ, w, h, s, hm, hR => by
    simp only [kill] at h
    split at h
    · rename_i hob
      simp only [MR] at hm
      obtain ⟨b, ds', rfl, h1, h2, h3⟩ := hm
      have hO := s.obj _ _ hob
      simp only [OR] at hO
      obtain ⟨k1, k2, k3⟩ := hO
      have hb := h2 k1
      subst hb
      obtain ⟨Γ', s', x'⟩ := put_ok s (ob := .dead) (x := .deferred none) h1 k2 fun Γ' _ _ => trivial
      exact ⟨by simp, .inl ⟨_, _, rfl, run_takeDeferred k3, kill_ok h s' (h3.mono x') fun Γ'' w'' x'' s'' => hR Γ'' w'' (x'.trans x'') s''⟩⟩
    · cases h

/-- **A FUNCTION.** -/
theorem func_ok {O : Orc} {I : Iter} (hO : CallOk P O) (hR : RoundOk P O) (hE : EntOk P O) (hI : IterOk I) (hm : P.follows .mixedOrders = true) {h : Hints} {k : Nat} {f : CFunc} (hc : comp P h k = some f) {args : List AV} {r : AV}
    (hr : runFunc O I f args σ = some (r, σ')) {vs : List Value} (s : SR P Γ σ w) (hv : VRs Γ w args vs) : NextOk P (Got P Γ w r σ') ((callFunc k vs.toArray).run P w) := by
  simp only [comp, Option.bind_eq_some_iff] at hc
  obtain ⟨fn, h1, c, h2, hc⟩ := hc
  split at hc
  · rename_i hname
    simp only [Option.bind_eq_some_iff] at hc
    obtain ⟨⟨c', i⟩, h3, rs, h4, hc⟩ := hc
    cases hc
    rw [run_enter h1 hname.1 h2]
    unfold runFunc at hr
    split at hr
    · rename_i hn
      simp only at hn
      rw [Option.bind_eq_some_iff] at hr
      obtain ⟨⟨x, e, σ1⟩, h5, hr⟩ := hr
      have hlen := hv.length
      have hsz : (vs.toArray ++ Array.replicate (fn.ntmps - vs.toArray.size) undef).size = fn.ntmps := by
        have := hname.2
        simp; omega
      refine callsIn_of_wp_marks (F := Fence.wide) (n := 0) h1 h2 trivial (wpIn_mono (exec_ok hO hR hE hI hm c h3 (l := none) h5 (Γ := Γ) ⟨?_, s, hsz, rfl⟩ trivial) ?_)
      · intro t av ht
        obtain ⟨j, rfl, hj⟩ := look_argVars ht
        obtain ⟨v, h6, h7⟩ := hv.get hj
        have hlt := (List.getElem?_eq_some_iff.1 h6).1
        have : (vs.toArray ++ Array.replicate (fn.ntmps - vs.toArray.size) undef).getD (0 + j) undef = v := by
          rw [Nat.zero_add, Array.getD_eq_getD_getElem?, Array.getElem?_append_left (by simpa using hlt)]
          simp [h6]
        simp only [this]
        exact h7
      · rintro ex a' w' ⟨rfl, Γ', x', ha⟩
        have fin : (kill σ1 e.marks).bind (fun σ'' => (resVals e σ'' rs).bind fun rs => some (leave σ.length (resOf rs) σ'')) = some (r, σ') → LeavesInM Fence.wide 0 P fn a'.tmps (Back (Got P Γ w r σ')) a'.defers .returning w' := by
          intro hr
          rw [Option.bind_eq_some_iff] at hr
          obtain ⟨σ2, h6, hr⟩ := hr
          rw [Option.bind_eq_some_iff] at hr
          obtain ⟨as, h7, hr⟩ := hr
          refine kill_ok h6 ha.sr ha.mr fun Γ2 w2 x2 s2 => ?_
          obtain ⟨v, h8, h9⟩ := results_ok h4 s2 (ha.ve.mono x2) h7
          refine ⟨v, h8, ?_⟩
          have := leave_ok (x'.trans x2) s2 h9
          rw [← s.len] at this
          injection hr with hr
          rw [hr] at this
          exact this
        cases x with
        | normal => exact fin hr
        | ret => exact fin hr
        | exit id => cases hr
    · cases hr
  · cases hc

/-! ### A round -/
theorem setParams_ok : ∀ {ps : List Nat} {args : List AV} {vs : List Value} {e e1 : Env} {tmps : Array Value}, setParams e ps args = some e1 → VRs Γ w args vs → VarsR Γ w e.vars tmps → (∀ p ∈ ps, p < tmps.size) →
    e1.marks = e.marks ∧ vs.length = ps.length ∧ ((ps.zip vs).foldl (fun t (p, v) => t.setIfInBounds p v) tmps).size = tmps.size ∧ VarsR Γ w e1.vars ((ps.zip vs).foldl (fun t (p, v) => t.setIfInBounds p v) tmps)
  | [], [], vs, e, e1, tmps, h, hv, he, _ => by
    simp only [setParams] at h
    cases h
    simp only [VRs] at hv
    subst hv
    exact ⟨rfl, rfl, rfl, he⟩
  | p :: ps, x :: args, vs, e, e1, tmps, h, hv, he, hp => by
    simp only [setParams] at h
    simp only [VRs] at hv
    obtain ⟨u, us, rfl, h1, h2⟩ := hv
    have hpl := hp p (by simp)
    obtain ⟨k1, k2, k3, k4⟩ := setParams_ok (tmps := tmps.setIfInBounds p u) h h2 (fun t av ht => by
      simp only [Env.set, look] at ht
      split at ht
      · rename_i hpt
        subst hpt
        cases ht
        simpa [hpl] using h1
      · rename_i hpt
        have := he t av ht
        rwa [Array.getD_eq_getD_getElem?, Array.getElem?_setIfInBounds_ne hpt, ← Array.getD_eq_getD_getElem?]) (fun q hq => by simpa using hp q (by simp [hq]))
    refine ⟨k1.trans (marks_set e _ _), by simp [k2], ?_, by simpa using k4⟩
    simpa using k3
  | [], _ :: _, _, _, _, _, h, _, _, _ => by simp [setParams] at h
  | _ :: _, [], _, _, _, _, h, _, _, _ => by simp [setParams] at h
theorem round_ok {O : Orc} {I : Iter} (hO : CallOk P O) (hR : RoundOk P O) (hE : EntOk P O) (hI : IterOk I) (hm : P.follows .mixedOrders = true) {l b : Nat} {args : List AV} {r : AV}
    (hr : runRound O I l args σ = some (r, σ')) {vs : List Value} (s : SR P Γ σ w) (hv : VRs Γ w args vs) (hl : l < Γ.n) (hb : (Γ.loc l).g = 0 → b = (Γ.loc l).b) : NextOk P (Got P Γ w r σ') ((Instr.yield b vs.toArray).run P w) := by
  unfold runRound at hr
  split at hr
  · rename_i e ps as body hob
    simp only [Option.bind_eq_some_iff] at hr
    obtain ⟨e1, h1, ⟨x, e2, σ2⟩, h2, hr⟩ := hr
    have hOb := s.obj _ _ hob
    simp only [OR] at hOb
    obtain ⟨k1, k2, rec, k3, k4, k5, k6, ⟨ha, ia, ja, k7⟩, ⟨hb', ib, jb, k8⟩, k9, k10⟩ := hOb
    obtain rfl := hb k1
    obtain ⟨m1, m2, m3, m4⟩ := setParams_ok h1 hv k9 k10
    have hzip : (rec.params.zip vs.toArray).foldl (fun t (p, v) => t.setIfInBounds p v) rec.tmps = (ps.zip vs).foldl (fun t (p, v) => t.setIfInBounds p v) rec.tmps := by
      rw [k6]; simp
    have hy := run_yield (P := P) (args := vs.toArray) k3 (by rw [k6]; simpa using m2)
    rw [hy]
    simp only at hr
    split at hr
    · rename_i hx
      subst hx
      split at hr
      · rename_i env' ps' as' body' hob2
        simp only [Option.bind_eq_some_iff] at hr
        obtain ⟨⟨x, e3, σ3⟩, h3, hr⟩ := hr
        refine roundIn_of_wpIn (F := Fence.wide) trivial (wpIn_mono (exec_ok hO hR hE hI hm rec.assign k7 (l := some (Γ.loc l).b) h2 (Γ := Γ) (w := w) ⟨?_, s, ?_, ?_⟩ ⟨hl, fun _ => rfl⟩) ?_)
        · intro t av ht
          have := m4 t av ht
          rw [← hzip] at this
          exact this
        · show ((rec.params.zip vs.toArray).foldl _ rec.tmps).size = _
          rw [hzip]; exact m3
        · rw [m1]; rfl
        · rintro ex a1 w1 ⟨rfl, Γ1, x1, ha1⟩
          have hO1 := ha1.sr.obj _ _ hob2
          simp only [OR] at hO1
          obtain ⟨q1, q2, rec2, q3, q4, q5, q6, q7, q8, q9, q10⟩ := hO1
          have hloc1 := same_loc x1 hl q1
          obtain ⟨Γ2, s2, x2⟩ := put_ok ha1.sr (o := l) (ob := .loop env' ps' as' body' .busy none) (x := .loop { rec2 with state := .busy }) (Nat.lt_of_lt_of_le hl x1.n) q2 (by
            intro Γ2 hl2 x2
            simp only [OR]
            rw [hl2]
            exact ⟨q1, q2, _, World.putObj_heap_same (Array.getElem?_eq_some_iff.1 q3).1, rfl, q5, q6, q7, q8, fun t av ht => VR.mono x2 _ _ (q9 t av ht), q10⟩)
          rw [hloc1] at q3 s2 x2
          refine ⟨_, run_beginRound q3 q4, ?_⟩
          have x12 := x1.trans x2
          refine wpIn_mono (exec_ok hO hR hE hI hm rec.body k8 (l := some (Γ.loc l).b) h3 (Γ := Γ2) ⟨ha1.ve.mono x2, s2, ha1.sz, ha1.mr.mono x2⟩ (RoOk.mono (ro := some l) (l := some (Γ.loc l).b) x12 ⟨hl, fun _ => rfl⟩)) ?_
          rintro ex a3 w3 ⟨rfl, Γ3, x3, ha3⟩
          have x13 := x12.trans x3
          simp only at hr
          split at hr
          · rename_i env3 ps3 as3 body3 hob3
            have hO3 := ha3.sr.obj _ _ hob3
            simp only [OR] at hO3
            obtain ⟨u1, u2, rec3, u3, u4, u5, u6, u7, u8, u9, u10⟩ := hO3
            have hloc3 := same_loc x13 hl u1
            have fin : ∀ (st : LoopState) (pe : Option (Option Nat)) (t : Bool), (r, σ') = leave σ.length (.v (.bool t)) (σ3.set l (.loop env3 ps3 as3 body3 st pe)) →
                (Instr.endRound (Γ.loc l).b (pendCode pe)).run P w3 = .ok (.bool t) (w3.putObj (Γ.loc l).b (.loop { rec3 with state := st, pending := pendCode pe })) →
                ∃ v w', (Instr.endRound (Γ.loc l).b (pendCode pe)).run P w3 = .ok v w' ∧ Back (Got P Γ w r σ') (.returned v) w' := by
              intro st pe t hr hrun
              obtain ⟨Γ4, s4, x4⟩ := put_ok ha3.sr (o := l) (ob := .loop env3 ps3 as3 body3 st pe) (x := .loop { rec3 with state := st, pending := pendCode pe }) (Nat.lt_of_lt_of_le hl x13.n) u2 (by
                intro Γ4 hl4 x4
                simp only [OR]
                rw [hl4]
                exact ⟨u1, u2, _, World.putObj_heap_same (Array.getElem?_eq_some_iff.1 u3).1, rfl, rfl, u6, u7, u8, fun t av ht => VR.mono x4 _ _ (u9 t av ht), u10⟩)
              rw [hloc3] at s4 x4
              refine ⟨_, _, hrun, ?_⟩
              have := leave_ok (av := .v (.bool t)) (v := .bool t) (x13.trans x4) s4 (by simp only [VR])
              rw [← s.len, ← hr] at this
              exact this
            rw [hloc3] at u3
            cases x with
            | normal =>
              refine fin .ready none true ?_ (run_endRound none u3)
              injection hr with hr; exact hr.symm
            | ret =>
              refine fin .done (some none) false ?_ (run_endRound (some .ret) u3)
              injection hr with hr; exact hr.symm
            | exit id =>
              refine fin .done (some (some id)) false ?_ (run_endRound (some (.exit id)) u3)
              injection hr with hr; exact hr.symm
          · cases hr
      · cases hr
    · cases hr
  · cases hr

/-! ### The program -/
def ExtOk (P : Program) (k : Nat) (F : List AV → Option (AV × Store)) : Prop := ∀ args r τ, los 0 args = true → F args = some (r, τ) → ∀ Γ w vs, SR P Γ [] w → VRs Γ w args vs → NextOk P (Got P Γ w r τ) ((callFunc k vs.toArray).run P w)
structure TabOk (P : Program) (T : Tab) : Prop where
  code : ∀ k f, T.code k = some f → ∃ h, comp P h k = some f
  ext : ∀ k F, T.ext k = some F → ExtOk P k F
  mixed : P.follows .mixedOrders = true
theorem TabOk.enter {T : Tab} (hT : TabOk P T) {k : Nat} {f : CFunc} (h : T.code k = some f) (vs : Array Value) (w : World) : (callFunc k vs).run P w = .ok (.enter k vs) w := by
  obtain ⟨h, hc⟩ := hT.code k f h
  simp only [comp, Option.bind_eq_some_iff] at hc
  obtain ⟨fn, h1, c, h2, hc⟩ := hc
  split at hc
  · rename_i hname; exact run_enter h1 hname.1 h2 vs w
  · cases hc
theorem evF_ok {T : Tab} (hT : TabOk P T) : ∀ n, CallOk P (evF T n) ∧ RoundOk P (evF T n) ∧ EntOk P (evF T n)
  | 0 => ⟨fun k args σ r σ' h => by simp [evF] at h, fun l args σ r σ' h => by simp [evF] at h, fun k _ args σ r h => by simp [evF] at h⟩
  | n + 1 => by
    obtain ⟨hO, hR, hE⟩ := evF_ok hT n
    refine ⟨fun k args σ r σ' h Γ w vs s hv => ?_, fun l args σ r σ' h Γ w b vs s hv hl hb => ?_, fun k hk args σ r h vs w => ?_⟩
    · simp only [evF] at h
      split at h
      · rename_i F hF
        split at h
        · rename_i hlo
          obtain ⟨hlo, rfl⟩ := hlo
          exact hT.ext k F hF args _ _ hlo h Γ w vs s hv
        · cases h
      · rw [Option.bind_eq_some_iff] at h
        obtain ⟨f, h1, h⟩ := h
        obtain ⟨hh, hc⟩ := hT.code k f h1
        exact func_ok hO hR hE (iterN_ok n) hT.mixed hc h s hv
    · simp only [evF] at h
      exact round_ok hO hR hE (iterN_ok n) hT.mixed h s hv hl hb
    · simp only [evF] at hk h
      split at h
      · rename_i F hF
        rw [hF] at hk; simp at hk
      · rw [Option.bind_eq_some_iff] at h
        obtain ⟨f, h1, _⟩ := h
        exact hT.enter h1 vs w
end Go.Ev
