/- For every input the statement of this claim returns true: texts of its proof, joined (part 4). -/
import Derived.RangeFuncNested
import Derived.Test.YtbhhifdhlafklaaEWT2
set_option linter.unusedSectionVars false
set_option linter.unusedSimpArgs false
set_option linter.unusedVariables false
namespace Go.Ev
open Go.RowKit (Below)
variable {P : Program} {Γ Γ' : Ctx} {w w' : World} {σ σ' : qr} {e e' : Env} {a a' : Act} {av : AV} {N : Nat}
theorem q4j (s : SR P Γ σ w) {o : Nat} {ob : SObj} {x : Obj} (ho : o < Γ.n) (hc : (Γ.loc o).ct ≠ 0)
    (hob : ∀ Γ', Γ'.loc o = Γ.loc o → Ext Γ Γ' w (w.putObj (Γ.loc o).b x) → OR P Γ' (w.putObj (Γ.loc o).b x) o ob) :
    ∃ Γ', SR P Γ' (σ.set o ob) (w.putObj (Γ.loc o).b x) ∧ Ext Γ Γ' w (w.putObj (Γ.loc o).b x) := by
  have hlt := s.ownlt _ (s.blk o ho hc)
  have hsize : w.heap.size ≤ (w.putObj (Γ.loc o).b x).heap.size := by simp [World.putObj]
  have hsame : ∀ b, b < w.heap.size → (b = (Γ.loc o).b ∧ (Γ.loc o).ct ≠ 0) ∨ (w.putObj (Γ.loc o).b x).heap[b]? = w.heap[b]? := fun b _ => by
    by_cases hb : b = (Γ.loc o).b
    · exact .inl ⟨hb, hc⟩
    · exact .inr (World.putObj_heap_other hb)
  have hl : (Γ.loc o).ct ≠ 0 → ((Γ.loc o).b = (Γ.loc o).b ∧ (Γ.loc o).ct ≠ 0 ∨ w.heap.size ≤ (Γ.loc o).b) ∧ (Γ.loc o).b < (w.putObj (Γ.loc o).b x).heap.size := fun _ => ⟨.inl ⟨rfl, hc⟩, Nat.lt_of_lt_of_le hlt hsize⟩
  have hx := Ext.upd s ho (l := Γ.loc o) (.inl rfl) hsize hsame hl rfl rfl rfl
  exact ⟨_, SR.upd s ho (l := Γ.loc o) (.inl rfl) hsize hsame hl rfl rfl rfl (hob _ (Γ.upd_same o _) hx), hx⟩
theorem qz7 (x : Ext Γ Γ' w w') {o : Nat} (ho : o < Γ.n) (hg : (Γ'.loc o).g = 0) : Γ'.loc o = Γ.loc o := by
  rcases x.loc o ho with h | h
  · exact h
  · omega
theorem range_ok {O : Orc} (hO : qph P O) (hE : q48 P O) {l : Option Nat} {k : Nat} {first cap : List AV} {e1 e' : Env} {σ0 σ' : qr} {lp : SObj} {x : CExit} {Γ1 : Ctx} {w1 : World} {a1 : Act}
    (h : qoy O k first cap e1 σ0 lp = some (x, e', σ')) (ha : AR P Γ1 N e1 (σ0 ++ [lp]) a1 w1) {fs cs : List Value} (hf : VRs Γ1 w1 first fs) (hc : VRs Γ1 w1 cap cs) :
    (callFunc k (fs ++ (.func (.yield (Γ1.loc σ0.length).b) #[] #[] :: cs)).toArray).run P w1 = .ok (.enter k (fs ++ (.func (.yield (Γ1.loc σ0.length).b) #[] #[] :: cs)).toArray) w1 ∧
    CallsIn (FR l) 0 P k (fs ++ (.func (.yield (Γ1.loc σ0.length).b) #[] #[] :: cs)).toArray w1 (rangePost (FR l) 0 P (Γ1.loc σ0.length).b (qve P Γ1 w1 N x e' σ') a1) := by
  unfold qoy at h
  split at h
  · rename_i hent
    rw [Option.bind_eq_some_iff] at h
    obtain ⟨⟨r, σ2⟩, hcall, h⟩ := h
    have hlo : σ0.length < Γ1.n := by rw [← ha.sr.len]; simp
    have hvs : VRs Γ1 w1 (first ++ (.yld σ0.length :: cap)) (fs ++ (.func (.yield (Γ1.loc σ0.length).b) #[] #[] :: cs)) := hf.append (by
      simp only [VRs]
      exact ⟨_, cs, rfl, by simp only [VR]; exact ⟨_, rfl, hlo, fun _ => rfl⟩, hc⟩)
    have hrun := hE k hent _ _ _ hcall (fs ++ (.func (.yield (Γ1.loc σ0.length).b) #[] #[] :: cs)).toArray w1
    have hn := hO k _ _ _ _ hcall Γ1 w1 _ ha.sr hvs
    rw [hrun] at hn
    refine ⟨hrun, CallsIn.mono (F := FR l) hn ?_⟩
    intro en w3 hb
    cases en with
    | panicked _ => exact hb.elim
    | outgrown => exact hb.elim
    | returned v =>
      obtain ⟨Γ2, _, s2, x2⟩ := hb
      simp only at h
      split at h
      · rename_i e2 ps as' body' st pend hob
        split at h
        · rename_i hst
          have hO2 := s2.obj _ _ hob
          have hO2' := hO2
          simp only [OR] at hO2
          obtain ⟨k1, k2, rec, k3, k4, k5, k6, k7, k8, k9, k10⟩ := hO2
          have hloc := qz7 x2 hlo k1
          obtain ⟨Γ3, s3, x3⟩ := q4j s2 (o := σ0.length) (ob := .loop e2 ps as' body' .exhausted pend) (x := .loop { rec with state := .exhausted }) (Nat.lt_of_lt_of_le hlo x2.n) k2 (by
            intro Γ3 hl3 x3
            simp only [OR]
            rw [hl3]
            exact ⟨k1, k2, _, World.putObj_heap_same (Array.getElem?_eq_some_iff.1 k3).1, rfl, k5, k6, k7, k8, fun t av ht => VR.mono x3 _ _ (k9 t av ht), k10⟩)
          rw [hloc] at k3 s3 x3
          have hend := run_endLoop (P := P) k3 (by rw [k4]; exact hst)
          have ha3 : AR P Γ3 N e1 (σ2.set σ0.length (.loop e2 ps as' body' .exhausted pend)) a1 (w3.putObj (Γ1.loc σ0.length).b (.loop { rec with state := .exhausted })) :=
            ⟨ha.ve.mono (x2.trans x3), s3, ha.sz, ha.mr.mono (x2.trans x3)⟩
          generalize w3.putObj (Γ1.loc σ0.length).b (.loop { rec with state := .exhausted }) = w4 at hend ha3 x3 s3
          rw [k5] at hend
          refine ⟨_, _, hend, ?_⟩
          cases pend with
          | none => cases h; exact ⟨rfl, Γ3, x2.trans x3, ha3⟩
          | some p =>
            cases p with
            | none => cases h; exact wpIn_ret ⟨rfl, Γ3, x2.trans x3, ha3⟩
            | some id => cases h; exact wpIn_exit ⟨rfl, Γ3, x2.trans x3, ha3⟩
        · cases h
      · cases h
  · cases h
theorem qz9 {g : Operand} {k l : Nat} {fs cs : List Value} (hg : a.eval g = .func (.func k) fs.toArray cs.toArray) :
    (resolve a.eval (rangeCall g l) 0).run P w = .ok { target := .fn (.func k) cs.toArray, args := fs.toArray ++ #[.func (.yield l) #[] #[]] } w := by
  have h1 : Array.map a.eval #[Operand.const (.func (.yield l) #[] #[])] = #[.func (.yield l) #[] #[]] := by simp [Act.eval]
  simp only [resolve, hg, Deferred.ofValue, Sem.run_pure, h1]
theorem q1l (s : SR P Γ σ w) {r : Loop} {e : Env} {ps : List Nat} {as body : CCode} (h1 : r.state = .ready) (h2 : r.pending = none) (h3 : r.params = ps.toArray) (h4 : CR P r.tmps.size r.assign as) (h5 : CR P r.tmps.size r.body body)
    (h6 : q6q Γ w e.vars r.tmps) (h7 : ∀ p ∈ ps, p < r.tmps.size) :
    SR P (Γ.push ⟨0, w.heap.size, 1, 1⟩) (σ ++ [.loop e ps as body .ready none]) (w.alloc (.loop r)) ∧ Ext Γ (Γ.push ⟨0, w.heap.size, 1, 1⟩) w (w.alloc (.loop r)) := by
  have x := Ext.push (Γ := Γ) (qdc w (.loop r)) ⟨0, w.heap.size, 1, 1⟩ fun _ => Nat.le_refl _
  refine ⟨s.push (qdc w (.loop r)) _ (fun _ => ⟨Nat.le_refl _, by simp⟩) ?_, x⟩
  simp only [OR, Ctx.push_new]
  exact ⟨trivial, by simp, r, qib w _, h1, by rw [h2]; rfl, h3, h4, h5, fun t av ht => VR.mono x _ _ (h6 t av ht), h7⟩
theorem q6l (s : SR P Γ σ w) :
    SR P (Γ.push ⟨0, w.heap.size, 1, 1⟩) (σ ++ [.defr]) (w.alloc (.deferred (some []))) ∧ Ext Γ (Γ.push ⟨0, w.heap.size, 1, 1⟩) w (w.alloc (.deferred (some []))) := by
  have x := Ext.push (Γ := Γ) (qdc w (.deferred (some []))) ⟨0, w.heap.size, 1, 1⟩ fun _ => Nat.le_refl _
  refine ⟨s.push (qdc w (.deferred (some []))) _ (fun _ => ⟨Nat.le_refl _, by simp⟩) ?_, x⟩
  simp only [OR, Ctx.push_new]
  exact ⟨trivial, by simp, qib w _⟩
theorem qkv {b : Frame} {a : Act} {k : List Item} {cs : List Frame} {c : Code} : step P (lone (b.atR a (.code (.scope c) :: k)) cs w) = .next (lone (b.atR a (.code c :: .inScope c :: k)) cs w) :=
  step_lone_go (by simp [stepG, stepG.exec, Frame.atR])
theorem q0s {b : Frame} {a : Act} {k : List Item} {cs : List Frame} {c : Code} : step P (lone (b.atR a (.inScope c :: k)) cs w) = .next (lone (b.atR a k) cs w) :=
  step_lone_go (by simp [stepG, stepG.exec, Frame.atR])
theorem q5f {F : Fence} {n : Nat} {Q : Exit → Act → World → Prop} {a : Act} {c : Code} (h : c.wpIn F n P Q a w) (hg : ∀ l a w, ¬ Q (.goto l) a w) : (Code.scope c).wpIn F n P Q a w := by
  intro b k cs hro hb hr
  have h0 : (lone (b.atR a (.code (.scope c) :: k)) cs w).fenced P F := fenced_calm hb hr rfl
  obtain ⟨e, a₁, w₁, hq, harr⟩ := h b (.inScope c :: k) cs hro hb hr
  cases e with
  | normal => exact ⟨.normal, a₁, w₁, hq, .head h0 qkv (StepsIn.trans harr (.one (fenced_calm hb hr rfl) q0s))⟩
  | exit id =>
    have hx : exitTo id (.inScope c :: k) = exitTo id k := by simp [exitTo]
    exact ⟨.exit id, a₁, w₁, hq, fun k' hk => .head h0 qkv (harr.1 k' (by rw [hx]; exact hk)),
      fun hr' hk => let ⟨k₁, h1, h2⟩ := harr.2 hr' (by rw [hx]; exact hk); ⟨k₁, h1, .head h0 qkv h2⟩⟩
  | goto l => exact (hg _ _ _ hq).elim
  | ret => exact ⟨_, a₁, w₁, hq, .of_steps (.one h0 qkv) harr⟩
  | panic ch => exact ⟨_, a₁, w₁, hq, .of_steps (.one h0 qkv) harr⟩
  | outgrown => exact ⟨_, a₁, w₁, hq, .of_steps (.one h0 qkv) harr⟩
theorem iceE_ok {t : Nat} {e1 : Env} {σ1 : qr} (h : iceE t e σ = some (e1, σ1)) (ha : AR P Γ N e σ a w) : ∃ Γ1, Ext Γ Γ1 w w ∧ AR P Γ1 N e1 σ1 a w := by
  unfold iceE at h
  rw [Option.bind_eq_some_iff] at h
  obtain ⟨av, h1, h⟩ := h
  split at h
  · split at h
    · rename_i ho
      split at h
      · rename_i hc
        obtain ⟨rfl, h2⟩ := hc
        cases h
        obtain ⟨s1, v1⟩ := qoo ha.sr (ha.ve t _ h1) ho h2
        refine ⟨_, Ext.drop Γ w _, fun k av hk => ?_, s1, ha.sz, ha.mr.mono (Ext.drop Γ w _)⟩
        simp only [Env.set, look] at hk
        split at hk
        · rename_i ht; subst ht; cases hk; exact v1
        · exact VR.mono (Ext.drop Γ w _) _ _ (ha.ve k av hk)
      · cases h
    · cases h
  · cases h
theorem qwp {O : Orc} {I : q07} (hO : qph P O) (hR : qnk P O) (hE : q48 P O) (hI : q2h I) (hm : P.follows .mixedOrders = true) {h : Hints} : ∀ (c : Code) {i j : Nat} {cc : CCode}, qhs P h N c i = some (cc, j) → qth P O I N c cc := by
  intro c
  induction c with
  | skip =>
    intro i j cc hc ro l e σ Γ a w x e' σ' he ha hro
    simp only [qhs] at hc
    cases hc
    simp only [exec] at he
    cases he
    exact wpIn_skip ⟨rfl, Γ, Ext.refl _ _, ha⟩
  | region id ops draw =>
    intro i j cc hc ro l e σ Γ a w x e' σ' he ha hro
    obtain ⟨cs, rfl, hw⟩ := q8e (N := N) hO hR hm (h := h) hc
    simp only [exec, Option.bind_eq_some_iff] at he
    obtain ⟨⟨e1, σ1⟩, h1, he⟩ := he
    cases he
    exact hw h1 ha fun Γ' a' w' x1 ha' => ⟨rfl, Γ', x1, ha'⟩
  | seq p q ihp ihq =>
    intro i j cc hc ro l e σ Γ a w x e' σ' he ha hro
    simp only [qhs, Option.bind_eq_some_iff] at hc
    obtain ⟨⟨p', i1⟩, h1, ⟨q', i2⟩, h2, hc⟩ := hc
    have main : ∀ {Γ : Ctx} {e : Env} {σ : qr}, exec O I ro (.seq p' q') e σ = some (x, e', σ') → AR P Γ N e σ a w → RoOk Γ ro l → (Code.seq p q).wpIn (FR l) 0 P (qve P Γ w N x e' σ') a w := by
      intro Γ e σ he ha hro
      simp only [exec, Option.bind_eq_some_iff] at he
      obtain ⟨⟨y, e1, σ1⟩, h3, he⟩ := he
      refine wpIn_seq (wpIn_mono (ihp h1 h3 ha hro) ?_)
      rintro ex a1 w1 ⟨rfl, Γ1, x1, ha1⟩
      cases y with
      | normal => exact wpIn_mono (ihq h2 he ha1 (hro.mono x1)) fun ex a2 w2 hp => hp.of_ext x1
      | exit id => cases he; exact ⟨rfl, Γ1, x1, ha1⟩
      | ret => cases he; exact ⟨rfl, Γ1, x1, ha1⟩
    cases hi : iceOf h p with
    | none =>
      rw [hi] at hc
      cases hc
      exact main he ha hro
    | some t =>
      rw [hi] at hc
      cases hc
      replace he : (iceE t e σ).bind (fun y => exec O I ro (.seq p' q') y.1 y.2) = some (x, e', σ') := he
      rw [Option.bind_eq_some_iff] at he
      obtain ⟨⟨e1, σ1⟩, h3, he⟩ := he
      obtain ⟨Γ1, x1, ha1⟩ := iceE_ok h3 ha
      exact wpIn_mono (main he ha1 (hro.mono x1)) fun ex a2 w2 hp => hp.of_ext x1
  | cond t p q ihp ihq =>
    intro i j cc hc ro l e σ Γ a w x e' σ' he ha hro
    simp only [qhs, Option.bind_eq_some_iff] at hc
    obtain ⟨t', h0, ⟨p', i1⟩, h1, ⟨q', i2⟩, h2, hc⟩ := hc
    cases hc
    simp only [exec, Option.bind_eq_some_iff] at he
    obtain ⟨b, h3, he⟩ := he
    split at he
    · rename_i b
      have hb := qa7 h0 h3 ha.ve
      simp only [VR] at hb
      refine wpIn_cond hb ?_
      split at he
      · rename_i hbt; rw [if_pos hbt]; exact ihp h1 he ha hro
      · rename_i hbt; rw [if_neg hbt]; exact ihq h2 he ha hro
    · cases he
  | block id p ihp =>
    intro i j cc hc ro l e σ Γ a w x e' σ' he ha hro
    simp only [qhs, Option.bind_eq_some_iff] at hc
    obtain ⟨⟨p', i1⟩, h1, hc⟩ := hc
    cases hc
    simp only [exec, Option.bind_eq_some_iff] at he
    obtain ⟨⟨y, e1, σ1⟩, h3, he⟩ := he
    refine wpIn_block (wpIn_mono (ihp h1 h3 ha hro) ?_)
    rintro ex a1 w1 ⟨rfl, Γ1, x1, ha1⟩
    cases y with
    | normal => cases he; exact ⟨rfl, Γ1, x1, ha1⟩
    | exit id' =>
      simp only [CExit.ex, Exit.inBlock]
      simp only at he
      split at he
      · rename_i hid; rw [if_pos hid]; cases he; exact ⟨rfl, Γ1, x1, ha1⟩
      · rename_i hid; rw [if_neg hid]; cases he; exact ⟨rfl, Γ1, x1, ha1⟩
    | ret => cases he; exact ⟨rfl, Γ1, x1, ha1⟩
  | loop p ihp =>
    intro i j cc hc ro l e σ Γ a w x e' σ' he ha hro
    simp only [qhs, Option.bind_eq_some_iff] at hc
    obtain ⟨⟨live, trim⟩, h0, ⟨p', i1⟩, h1, hc⟩ := hc
    cases hc
    simp only [exec] at he
    have hu := hI _ _ _ _ _ he
    rw [ha.sr.len] at hu
    intro b k cs hb hF hroom
    obtain ⟨ex, a', w', hq, harr⟩ := loop_ok (ihp h1) hro hu (Ext.refl _ _) ha b k cs hb
    exact ⟨ex, a', w', hq, .of_steps (.one (fenced_calm hF hroom rfl) stepR_loop) harr⟩
  | scope p ihp =>
    intro i j cc hc ro l e σ Γ a w x e' σ' he ha hro
    simp only [qhs] at hc
    exact q5f (ihp hc he ha hro) fun l a w hq => by
      obtain ⟨hx, _⟩ := hq
      cases x <;> cases hx
  | label l0 =>
    intro i j cc hc ro l e σ Γ a w x e' σ' he ha hro
    simp only [qhs] at hc
    cases hc
    simp only [exec] at he
    cases he
    exact wpIn_label ⟨rfl, Γ, Ext.refl _ _, ha⟩
  | exit id =>
    intro i j cc hc ro l e σ Γ a w x e' σ' he ha hro
    simp only [qhs] at hc
    cases hc
    simp only [exec] at he
    cases he
    exact wpIn_exit ⟨rfl, Γ, Ext.refl _ _, ha⟩
  | ret =>
    intro i j cc hc ro l e σ Γ a w x e' σ' he ha hro
    simp only [qhs] at hc
    cases hc
    simp only [exec] at he
    cases he
    exact wpIn_ret ⟨rfl, Γ, Ext.refl _ _, ha⟩
  | rangeFunc g ps as body _ _ =>
    intro i j cc hc ro l e σ Γ a w x e' σ' he ha hro
    simp only [qhs] at hc
    split at hc
    · rename_i hps
      simp only [Option.bind_eq_some_iff] at hc
      obtain ⟨⟨live, tr⟩, h0, g', h1, ⟨as', i1⟩, h2, ⟨body', i2⟩, h3, hc⟩ := hc
      cases hc
      simp only [exec, Option.bind_eq_some_iff] at he
      obtain ⟨f, h4, he⟩ := he
      split at he
      · rename_i k first cap
        have hf := qa7 h1 h4 ha.ve
        simp only [VR] at hf
        obtain ⟨fs, cs, h5, h6, h7⟩ := hf
        have hpsz : ∀ p ∈ ps.toList, p < a.tmps.size := by
          rw [ha.sz]
          exact fun p hp => of_decide_eq_true (List.all_eq_true.1 hps p hp)
        have hCa : CR P a.tmps.size as as' := ⟨h, _, _, by rw [ha.sz]; exact h2⟩
        have hCb : CR P a.tmps.size body body' := ⟨h, _, _, by rw [ha.sz]; exact h3⟩
        have fin : ∀ {Γ1 : Ctx} {w1 : World} {a1 : Act} {σ0 : qr} {lp : SObj} {e1 : Env}, qoy O k first cap e1 σ0 lp = some (x, e', σ') → AR P Γ1 N e1 (σ0 ++ [lp]) a1 w1 → Ext Γ Γ1 w w1 → a1.tmps = a.tmps →
            ∃ d f args, (resolve a.eval (rangeCall g (Γ1.loc σ0.length).b) 0).run P w1 = .ok d w1 ∧ (∀ f', Target.leads P w1 d.target d.args = some f' → (FR l).fn f') ∧ (invoke d.target d.args).run P w1 = .ok (.enter f args) w1 ∧
              CallsIn (FR l) 0 P f args w1 (rangePost (FR l) 0 P (Γ1.loc σ0.length).b (qve P Γ w N x e' σ') a1) := by
          intro Γ1 w1 a1 σ0 lp e1 hr ha1 x1 htm
          obtain ⟨k1, k2⟩ := range_ok (l := l) hO hE hr ha1 (VRs.mono x1 _ _ h6) (VRs.mono x1 _ _ h7)
          refine ⟨_, k, _, qz9 h5, fun _ _ => trivial, ?_, CallsIn.mono k2 ?_⟩
          · have harr : fs.toArray ++ #[.func (.yield (Γ1.loc σ0.length).b) #[] #[]] ++ cs.toArray = (fs ++ (.func (.yield (Γ1.loc σ0.length).b) #[] #[] :: cs)).toArray := by
              apply Array.toList_inj.1; simp
            simp only [invoke, harr]
            exact k1
          · intro en w3 hp
            cases en with
            | panicked _ => exact absurd hp.1 (by cases x <;> simp [CExit.ex])
            | outgrown => obtain ⟨_, _, hp⟩ := hp; exact absurd hp.1 (by cases x <;> simp [CExit.ex])
            | returned v =>
              obtain ⟨jump, w4, k3, k4⟩ := hp
              refine ⟨jump, w4, k3, ?_⟩
              cases jump with
              | none => exact k4.of_ext x1
              | some c => exact wpIn_mono k4 fun ex a2 w2 hp => hp.of_ext x1
        refine wpIn_rangeFunc fun fn hfn => ?_
        cases ro with
        | none =>
          cases l with
          | some _ => exact hro.elim
          | none =>
            obtain ⟨sA, xA⟩ := q6l ha.sr
            obtain ⟨sB, xB⟩ := q1l sA (r := { state := .ready, pending := none, fn, tmps := a.tmps, params := ps, assign := as, body, defers := w.heap.size }) (e := ⟨keep e live, []⟩) (ps := ps.toList) (as := as') (body := body')
              rfl rfl (by simp) hCa hCb (fun t av ht => VR.mono xA _ _ (ha.ve t av (qml e ht))) hpsz
            have hlen : (σ ++ [SObj.defr]).length = (Γ.push ⟨0, w.heap.size, 1, 1⟩).n := sA.len
            have hb : (((Γ.push ⟨0, w.heap.size, 1, 1⟩).push ⟨0, (w.alloc (.deferred (some []))).heap.size, 1, 1⟩).loc (σ ++ [SObj.defr]).length).b = w.heap.size + 1 := by
              rw [hlen, Ctx.push_new]; simp
            obtain ⟨d, f, args, k1, k2, k3, k4⟩ := fin he (a1 := { a with defers := [{ target := .collected w.heap.size, args := #[] }] ++ a.defers })
              ⟨fun t av ht => VR.mono (xA.trans xB) _ _ (ha.ve t av ht), sB, ha.sz, by
                simp only [List.singleton_append, MR]
                refine ⟨_, _, rfl, by rw [ha.sr.len]; simp [Ctx.push]; omega, fun _ => ?_, ha.mr.mono (xA.trans xB)⟩
                rw [ha.sr.len, Ctx.push_old _ _ (by simp [Ctx.push]), Ctx.push_new]⟩ (xA.trans xB) rfl
            rw [hb] at k1 k4
            exact ⟨_, _, _, d, _, f, args, _, run_enterLoop_outer fn a.tmps ps as body, k1, k2, k3, fun hd => by simp [Fence.wide] at hd, k4⟩
        | some o =>
          cases l with
          | none => exact hro.elim
          | some l =>
            simp only at he
            split at he
            · rename_i ob0 env0 ps0 as0 body0 st0 pend0 hob
              have hO0 := ha.sr.obj _ _ hob
              simp only [OR] at hO0
              obtain ⟨k1, k2, rec, k3, _⟩ := hO0
              have hl : l = (Γ.loc o).b := hro.2 k1
              obtain ⟨sB, xB⟩ := q1l ha.sr (r := { state := .ready, pending := none, fn, tmps := a.tmps, params := ps, assign := as, body, defers := rec.defers }) (e := ⟨keep e live, []⟩) (ps := ps.toList) (as := as') (body := body')
                rfl rfl (by simp) hCa hCb (fun t av ht => ha.ve t av (qml e ht)) hpsz
              have hb : ((Γ.push ⟨0, w.heap.size, 1, 1⟩).loc σ.length).b = w.heap.size := by
                rw [ha.sr.len, Ctx.push_new]
              obtain ⟨d, f, args, m1, m2, m3, m4⟩ := fin he (a1 := a) ⟨fun t av ht => VR.mono xB _ _ (ha.ve t av ht), sB, ha.sz, ha.mr.mono xB⟩ xB rfl
              rw [hb] at m1 m4
              exact ⟨_, [], _, d, _, f, args, _, run_enterLoop_inner (by rw [hl]; exact k3) fn a.tmps ps as body, m1, m2, m3, fun hd => by simp [Fence.wide] at hd, m4⟩
            · cases he
      · cases he
    · cases hc
  | _ => intro i j cc hc; simp [qhs] at hc
end Go.Ev
namespace Go.Ev
open Go.RowKit (Below)
variable {P : Program} {Γ Γ' : Ctx} {w w' : World} {σ σ' : qr} {e e' : Env} {a a' : Act} {av : AV} {N : Nat}
theorem qsv {k : Nat} {fn : Func} {c : Code} (hf : P.funcs[k]? = some fn) (hname : (fn.name == "runtime.NumGoroutine") = false) (hb : fn.body = some c) (args : Array Value) (w : World) :
    (callFunc k args).run P w = .ok (.enter k args) w := by
  have h1 : fn.name ≠ "runtime.NumGoroutine" := by simpa using hname
  simp [callFunc, hf, h1, hb]
theorem qvb : ∀ {as : List AV} {i t : Nat} {av : AV}, look (qk i as) t = some av → ∃ j, t = i + j ∧ as[j]? = some av
  | [], i, t, av, h => by simp [qk, look] at h
  | x :: as, i, t, av, h => by
    simp only [qk, look] at h
    split at h
    · cases h; exact ⟨0, by omega, by simp⟩
    · obtain ⟨j, h1, h2⟩ := qvb h
      exact ⟨j + 1, by omega, by simpa using h2⟩
theorem q8n {r : ResultVar} {c : CRes} (hc : cRes P N r = some c) (s : SR P Γ σ w) (hv : VE Γ w e a) (h : qq e σ c = some av) :
    ∃ v, ((match r with | .tmp t => pure (a.tmps.getD t undef) | .cell x t => do loadVar t (← asAddr (a.tmps.getD x undef)) : Sem Value)).run P w = .ok v w ∧ VR Γ w av v := by
  cases r with
  | tmp t =>
    simp only [cRes] at hc
    cases hc
    simp only [qq] at h
    exact ⟨_, by simp, hv t av h⟩
  | cell x t =>
    simp only [cRes, Option.bind_eq_some_iff] at hc
    obtain ⟨sz, h1, hc⟩ := hc
    split at hc
    · rename_i hu
      cases hc
      simp only [qq, Option.bind_eq_some_iff] at h
      obtain ⟨p, h2, cs, h3, h4⟩ := h
      obtain ⟨b, off, h5, h6⟩ := quh s (hv x p h2) h3
      obtain ⟨v, h7, h8⟩ := q4r h1 hu.1 hu.2 h6 h4
      refine ⟨v, ?_, h8⟩
      simp only [Sem.run_bind]
      rw [h5]
      simp [asAddr, h7]
    · cases hc
theorem qzu : ∀ {rs : List ResultVar} {cs : List CRes} {as : List AV}, qgn (cRes P N) rs = some cs → SR P Γ σ w → VE Γ w e a → qi e σ cs = some as →
    ∃ vs, (rs.mapM (fun r => (match r with | .tmp t => pure (a.tmps.getD t undef) | .cell x t => do loadVar t (← asAddr (a.tmps.getD x undef)) : Sem Value))).run P w = .ok vs w ∧ VRs Γ w as vs ∧ vs.length = rs.length
  | [], cs, as, hc, _, _, h => by
    simp only [qgn] at hc
    cases hc
    simp only [qi] at h
    cases h
    exact ⟨[], by simp, by simp [VRs], rfl⟩
  | r :: rs, cs, as, hc, s, hv, h => by
    simp only [qgn, Option.bind_eq_some_iff] at hc
    obtain ⟨c, h1, cs', h2, hc⟩ := hc
    cases hc
    simp only [qi, Option.bind_eq_some_iff] at h
    obtain ⟨x, h3, xs, h4, h⟩ := h
    cases h
    obtain ⟨v, h5, h6⟩ := q8n h1 s hv h3
    obtain ⟨vs, h7, h8, h9⟩ := qzu h2 s hv h4
    refine ⟨v :: vs, ?_, by simp only [VRs]; exact ⟨v, vs, rfl, h6, h8⟩, by simp [h9]⟩
    simp only [List.mapM_cons, Sem.run_bind]
    rw [h5]
    simp only [Result.andThen_ok]
    rw [h7]
    simp
theorem qt2 {fn : Func} {cs : List CRes} {as : List AV} (hc : qgn (cRes P N) fn.results.toList = some cs) (s : SR P Γ σ w) (hv : VE Γ w e a) (h : qi e σ cs = some as) :
    ∃ v, (results fn a.tmps).run P w = .ok v w ∧ VR Γ w (qaj as) v := by
  obtain ⟨vs, h1, h2, h3⟩ := qzu hc s hv h
  have hlen := h2.length
  refine ⟨if h : vs.toArray.size = 1 then vs.toArray[0] else .tuple vs.toArray, ?_, ?_⟩
  · unfold results
    simp only [Sem.run_bind]
    rw [Array.mapM_eq_mapM_toList]
    simp only [Sem.run_map]
    erw [h1]
    simp
  · cases as with
    | nil =>
      have : vs = [] := List.eq_nil_of_length_eq_zero (by simpa using hlen)
      subst this
      simp [qaj, VR, VRs]
    | cons x xs =>
      cases xs with
      | nil =>
        simp only [VRs] at h2
        obtain ⟨u, us, rfl, h4, rfl⟩ := h2
        simpa [qaj] using h4
      | cons y ys =>
        simp only [VRs] at h2
        obtain ⟨u, us, rfl, h4, u', us', rfl, h5, h6⟩ := h2
        rw [dif_neg (by simp)]
        simp only [qaj, VR, VRs]
        exact ⟨_, rfl, u, _, rfl, h4, u', _, rfl, h5, h6⟩
theorem q7z {fn : Func} {tmps : Array Value} {R : Ending → World → Prop} {σ'' : qr} : ∀ {ms : List Nat} {ds : List Deferred} {σ : qr} {Γ : Ctx} {w : World}, kill σ ms = some σ'' → SR P Γ σ w → MR Γ ms ds →
    (∀ Γ' w', Ext Γ Γ' w w' → SR P Γ' σ'' w' → LeavesInM Fence.wide 0 P fn tmps R [] .returning w') → LeavesInM Fence.wide 0 P fn tmps R ds .returning w
  | [], ds, σ, Γ, w, h, s, hm, hR => by
    simp only [kill] at h
    cases h
    simp only [MR] at hm
    subst hm
    exact hR Γ w (Ext.refl _ _) s
  | m :: ms, ds, σ, Γ, w, h, s, hm, hR => by
    simp only [kill] at h
    split at h
    · rename_i hob
      simp only [MR] at hm
      obtain ⟨b, ds', rfl, h1, h2, h3⟩ := hm
      have hO := s.obj _ _ hob
      simp only [OR] at hO
      obtain ⟨k1, k2, k3⟩ := hO
      have hb := h2 k1
      subst hb
      obtain ⟨Γ', s', x'⟩ := q4j s (ob := .dead) (x := .deferred none) h1 k2 fun Γ' _ _ => trivial
      exact ⟨by simp, .inl ⟨_, _, rfl, run_takeDeferred k3, q7z h s' (h3.mono x') fun Γ'' w'' x'' s'' => hR Γ'' w'' (x'.trans x'') s''⟩⟩
    · cases h
theorem func_ok {O : Orc} {I : q07} (hO : qph P O) (hR : qnk P O) (hE : q48 P O) (hI : q2h I) (hm : P.follows .mixedOrders = true) {h : Hints} {k : Nat} {f : CFunc} (hc : qf6 P h k = some f) {args : List AV} {r : AV}
    (hr : qj O I f args σ = some (r, σ')) {vs : List Value} (s : SR P Γ σ w) (hv : VRs Γ w args vs) : qmd P (Got P Γ w r σ') ((callFunc k vs.toArray).run P w) := by
  simp only [qf6, Option.bind_eq_some_iff] at hc
  obtain ⟨fn, h1, c, h2, hc⟩ := hc
  split at hc
  · rename_i hname
    simp only [Option.bind_eq_some_iff] at hc
    obtain ⟨⟨c', i⟩, h3, rs, h4, hc⟩ := hc
    cases hc
    rw [qsv h1 hname.1 h2]
    unfold qj at hr
    split at hr
    · rename_i hn
      simp only at hn
      rw [Option.bind_eq_some_iff] at hr
      obtain ⟨⟨x, e, σ1⟩, h5, hr⟩ := hr
      have hlen := hv.length
      have hsz : (vs.toArray ++ Array.replicate (fn.ntmps - vs.toArray.size) undef).size = fn.ntmps := by
        have := hname.2
        simp; omega
      refine callsIn_of_wp_marks (F := Fence.wide) (n := 0) h1 h2 trivial (wpIn_mono (qwp hO hR hE hI hm c h3 (l := none) h5 (Γ := Γ) ⟨?_, s, hsz, rfl⟩ trivial) ?_)
      · intro t av ht
        obtain ⟨j, rfl, hj⟩ := qvb ht
        obtain ⟨v, h6, h7⟩ := hv.get hj
        have hlt := (List.getElem?_eq_some_iff.1 h6).1
        have : (vs.toArray ++ Array.replicate (fn.ntmps - vs.toArray.size) undef).getD (0 + j) undef = v := by
          rw [Nat.zero_add, Array.getD_eq_getD_getElem?, Array.getElem?_append_left (by simpa using hlt)]
          simp [h6]
        simp only [this]
        exact h7
      · rintro ex a' w' ⟨rfl, Γ', x', ha⟩
        have fin : (kill σ1 e.marks).bind (fun σ'' => (qi e σ'' rs).bind fun rs => some (qag σ.length (qaj rs) σ'')) = some (r, σ') → LeavesInM Fence.wide 0 P fn a'.tmps (q6d (Got P Γ w r σ')) a'.defers .returning w' := by
          intro hr
          rw [Option.bind_eq_some_iff] at hr
          obtain ⟨σ2, h6, hr⟩ := hr
          rw [Option.bind_eq_some_iff] at hr
          obtain ⟨as, h7, hr⟩ := hr
          refine q7z h6 ha.sr ha.mr fun Γ2 w2 x2 s2 => ?_
          obtain ⟨v, h8, h9⟩ := qt2 h4 s2 (ha.ve.mono x2) h7
          refine ⟨v, h8, ?_⟩
          have := q4e (x'.trans x2) s2 h9
          rw [← s.len] at this
          injection hr with hr
          rw [hr] at this
          exact this
        cases x with
        | normal => exact fin hr
        | ret => exact fin hr
        | exit id => cases hr
    · cases hr
  · cases hc
theorem qu5 : ∀ {ps : List Nat} {args : List AV} {vs : List Value} {e e1 : Env} {tmps : Array Value}, qk9 e ps args = some e1 → VRs Γ w args vs → q6q Γ w e.vars tmps → (∀ p ∈ ps, p < tmps.size) →
    e1.marks = e.marks ∧ vs.length = ps.length ∧ ((ps.zip vs).foldl (fun t (p, v) => t.setIfInBounds p v) tmps).size = tmps.size ∧ q6q Γ w e1.vars ((ps.zip vs).foldl (fun t (p, v) => t.setIfInBounds p v) tmps)
  | [], [], vs, e, e1, tmps, h, hv, he, _ => by
    simp only [qk9] at h
    cases h
    simp only [VRs] at hv
    subst hv
    exact ⟨rfl, rfl, rfl, he⟩
  | p :: ps, x :: args, vs, e, e1, tmps, h, hv, he, hp => by
    simp only [qk9] at h
    simp only [VRs] at hv
    obtain ⟨u, us, rfl, h1, h2⟩ := hv
    have hpl := hp p (by simp)
    obtain ⟨k1, k2, k3, k4⟩ := qu5 (tmps := tmps.setIfInBounds p u) h h2 (fun t av ht => by
      simp only [Env.set, look] at ht
      split at ht
      · rename_i hpt
        subst hpt
        cases ht
        simpa [hpl] using h1
      · rename_i hpt
        have := he t av ht
        rwa [Array.getD_eq_getD_getElem?, Array.getElem?_setIfInBounds_ne hpt, ← Array.getD_eq_getD_getElem?]) (fun q hq => by simpa using hp q (by simp [hq]))
    refine ⟨k1.trans (marks_set e _ _), by simp [k2], ?_, by simpa using k4⟩
    simpa using k3
  | [], _ :: _, _, _, _, _, h, _, _, _ => by simp [qk9] at h
  | _ :: _, [], _, _, _, _, h, _, _, _ => by simp [qk9] at h
theorem round_ok {O : Orc} {I : q07} (hO : qph P O) (hR : qnk P O) (hE : q48 P O) (hI : q2h I) (hm : P.follows .mixedOrders = true) {l b : Nat} {args : List AV} {r : AV}
    (hr : qm9 O I l args σ = some (r, σ')) {vs : List Value} (s : SR P Γ σ w) (hv : VRs Γ w args vs) (hl : l < Γ.n) (hb : (Γ.loc l).g = 0 → b = (Γ.loc l).b) : qmd P (Got P Γ w r σ') ((Instr.yield b vs.toArray).run P w) := by
  unfold qm9 at hr
  split at hr
  · rename_i e ps as body hob
    simp only [Option.bind_eq_some_iff] at hr
    obtain ⟨e1, h1, ⟨x, e2, σ2⟩, h2, hr⟩ := hr
    have hOb := s.obj _ _ hob
    simp only [OR] at hOb
    obtain ⟨k1, k2, rec, k3, k4, k5, k6, ⟨ha, ia, ja, k7⟩, ⟨hb', ib, jb, k8⟩, k9, k10⟩ := hOb
    obtain rfl := hb k1
    obtain ⟨m1, m2, m3, m4⟩ := qu5 h1 hv k9 k10
    have hzip : (rec.params.zip vs.toArray).foldl (fun t (p, v) => t.setIfInBounds p v) rec.tmps = (ps.zip vs).foldl (fun t (p, v) => t.setIfInBounds p v) rec.tmps := by
      rw [k6]; simp
    have hy := run_yield (P := P) (args := vs.toArray) k3 (by rw [k6]; simpa using m2)
    rw [hy]
    simp only at hr
    split at hr
    · rename_i hx
      subst hx
      split at hr
      · rename_i env' ps' as' body' hob2
        simp only [Option.bind_eq_some_iff] at hr
        obtain ⟨⟨x, e3, σ3⟩, h3, hr⟩ := hr
        refine roundIn_of_wpIn (F := Fence.wide) trivial (wpIn_mono (qwp hO hR hE hI hm rec.assign k7 (l := some (Γ.loc l).b) h2 (Γ := Γ) (w := w) ⟨?_, s, ?_, ?_⟩ ⟨hl, fun _ => rfl⟩) ?_)
        · intro t av ht
          have := m4 t av ht
          rw [← hzip] at this
          exact this
        · show ((rec.params.zip vs.toArray).foldl _ rec.tmps).size = _
          rw [hzip]; exact m3
        · rw [m1]; rfl
        · rintro ex a1 w1 ⟨rfl, Γ1, x1, ha1⟩
          have hO1 := ha1.sr.obj _ _ hob2
          simp only [OR] at hO1
          obtain ⟨q1, q2, rec2, q3, q4, q5, q6, q7, q8, q9, q10⟩ := hO1
          have hloc1 := qz7 x1 hl q1
          obtain ⟨Γ2, s2, x2⟩ := q4j ha1.sr (o := l) (ob := .loop env' ps' as' body' .busy none) (x := .loop { rec2 with state := .busy }) (Nat.lt_of_lt_of_le hl x1.n) q2 (by
            intro Γ2 hl2 x2
            simp only [OR]
            rw [hl2]
            exact ⟨q1, q2, _, World.putObj_heap_same (Array.getElem?_eq_some_iff.1 q3).1, rfl, q5, q6, q7, q8, fun t av ht => VR.mono x2 _ _ (q9 t av ht), q10⟩)
          rw [hloc1] at q3 s2 x2
          refine ⟨_, run_beginRound q3 q4, ?_⟩
          have x12 := x1.trans x2
          refine wpIn_mono (qwp hO hR hE hI hm rec.body k8 (l := some (Γ.loc l).b) h3 (Γ := Γ2) ⟨ha1.ve.mono x2, s2, ha1.sz, ha1.mr.mono x2⟩ (RoOk.mono (ro := some l) (l := some (Γ.loc l).b) x12 ⟨hl, fun _ => rfl⟩)) ?_
          rintro ex a3 w3 ⟨rfl, Γ3, x3, ha3⟩
          have x13 := x12.trans x3
          simp only at hr
          split at hr
          · rename_i env3 ps3 as3 body3 hob3
            have hO3 := ha3.sr.obj _ _ hob3
            simp only [OR] at hO3
            obtain ⟨u1, u2, rec3, u3, u4, u5, u6, u7, u8, u9, u10⟩ := hO3
            have hloc3 := qz7 x13 hl u1
            have fin : ∀ (st : LoopState) (pe : Option (Option Nat)) (t : Bool), (r, σ') = qag σ.length (.v (.bool t)) (σ3.set l (.loop env3 ps3 as3 body3 st pe)) →
                (Instr.endRound (Γ.loc l).b (qsp pe)).run P w3 = .ok (.bool t) (w3.putObj (Γ.loc l).b (.loop { rec3 with state := st, pending := qsp pe })) →
                ∃ v w', (Instr.endRound (Γ.loc l).b (qsp pe)).run P w3 = .ok v w' ∧ q6d (Got P Γ w r σ') (.returned v) w' := by
              intro st pe t hr hrun
              obtain ⟨Γ4, s4, x4⟩ := q4j ha3.sr (o := l) (ob := .loop env3 ps3 as3 body3 st pe) (x := .loop { rec3 with state := st, pending := qsp pe }) (Nat.lt_of_lt_of_le hl x13.n) u2 (by
                intro Γ4 hl4 x4
                simp only [OR]
                rw [hl4]
                exact ⟨u1, u2, _, World.putObj_heap_same (Array.getElem?_eq_some_iff.1 u3).1, rfl, rfl, u6, u7, u8, fun t av ht => VR.mono x4 _ _ (u9 t av ht), u10⟩)
              rw [hloc3] at s4 x4
              refine ⟨_, _, hrun, ?_⟩
              have := q4e (av := .v (.bool t)) (v := .bool t) (x13.trans x4) s4 (by simp only [VR])
              rw [← s.len, ← hr] at this
              exact this
            rw [hloc3] at u3
            cases x with
            | normal =>
              refine fin .ready none true ?_ (run_endRound none u3)
              injection hr with hr; exact hr.symm
            | ret =>
              refine fin .done (some none) false ?_ (run_endRound (some .ret) u3)
              injection hr with hr; exact hr.symm
            | exit id =>
              refine fin .done (some (some id)) false ?_ (run_endRound (some (.exit id)) u3)
              injection hr with hr; exact hr.symm
          · cases hr
      · cases hr
    · cases hr
  · cases hr
def ExtOk (P : Program) (k : Nat) (F : List AV → Option (AV × qr)) : Prop := ∀ args r τ, los 0 args = true → F args = some (r, τ) → ∀ Γ w vs, SR P Γ [] w → VRs Γ w args vs → qmd P (Got P Γ w r τ) ((callFunc k vs.toArray).run P w)
def InsOk (P : Program) (k : Nat) (F : List AV → qr → Option (AV × qr)) : Prop := ∀ args σ r σ', F args σ = some (r, σ') → ∀ Γ w vs, SR P Γ σ w → VRs Γ w args vs → qmd P (Got P Γ w r σ') ((callFunc k vs.toArray).run P w)
structure TabOk (P : Program) (T : Tab) : Prop where
  code : ∀ k f, T.code k = some f → ∃ h, qf6 P h k = some f
  ext : ∀ k F, T.ext k = some F → ExtOk P k F
  ins : ∀ k p, T.ins k = some p → InsOk P k (insF p.1 p.2)
  mixed : P.follows .mixedOrders = true
theorem TabOk.enter {T : Tab} (hT : TabOk P T) {k : Nat} {f : CFunc} (h : T.code k = some f) (vs : Array Value) (w : World) : (callFunc k vs).run P w = .ok (.enter k vs) w := by
  obtain ⟨h, hc⟩ := hT.code k f h
  simp only [qf6, Option.bind_eq_some_iff] at hc
  obtain ⟨fn, h1, c, h2, hc⟩ := hc
  split at hc
  · rename_i hname; exact qsv h1 hname.1 h2 vs w
  · cases hc
theorem evF_ok {T : Tab} (hT : TabOk P T) : ∀ n, qph P (evF T n) ∧ qnk P (evF T n) ∧ q48 P (evF T n)
  | 0 => ⟨fun k args σ r σ' h => by simp [evF] at h, fun l args σ r σ' h => by simp [evF] at h, fun k _ args σ r h => by simp [evF] at h⟩
  | n + 1 => by
    obtain ⟨hO, hR, hE⟩ := evF_ok hT n
    refine ⟨fun k args σ r σ' h Γ w vs s hv => ?_, fun l args σ r σ' h Γ w b vs s hv hl hb => ?_, fun k hk args σ r h vs w => ?_⟩
    · simp only [evF] at h
      split at h
      · rename_i F hF
        split at h
        · rename_i hlo
          obtain ⟨hlo, rfl⟩ := hlo
          exact hT.ext k F hF args _ _ hlo h Γ w vs s hv
        · cases h
      · split at h
        · rename_i p hp
          exact hT.ins k p hp args σ _ _ h Γ w vs s hv
        · rw [Option.bind_eq_some_iff] at h
          obtain ⟨f, h1, h⟩ := h
          obtain ⟨hh, hc⟩ := hT.code k f h1
          exact func_ok hO hR hE (qwe n) hT.mixed hc h s hv
    · simp only [evF] at h
      exact round_ok hO hR hE (qwe n) hT.mixed h s hv hl hb
    · simp only [evF] at hk h
      split at h
      · rename_i F hF
        rw [hF] at hk; simp at hk
      · split at h
        · rename_i p hp
          rw [hp] at hk; simp at hk
        · rw [Option.bind_eq_some_iff] at h
          obtain ⟨f, h1, _⟩ := h
          exact hT.enter h1 vs w
end Go.Ev
namespace Go.Ev
structure Cont {α : Type} (F : Nat → Option α) (L : Option α) : Prop where
  up : ∀ n r, F n = some r → F (n + 1) = some r
  lim : ∀ r, L = some r ↔ ∃ n, F n = some r
theorem Cont.le {α : Type} {F : Nat → Option α} {L : Option α} (h : Cont F L) {r : α} : ∀ {m n : Nat}, m ≤ n → F m = some r → F n = some r := fun {m n} hmn hr => by
  induction hmn with
  | refl => exact hr
  | step _ ih => exact h.up _ _ ih
theorem Cont.const {α : Type} (x : Option α) : Cont (fun _ => x) x := ⟨fun _ _ h => h, fun _ => ⟨fun h => ⟨0, h⟩, fun ⟨_, h⟩ => h⟩⟩
theorem Cont.bind {α β : Type} {F : Nat → Option α} {L : Option α} {G : Nat → α → Option β} {K : α → Option β} (h : Cont F L) (k : ∀ a, Cont (fun n => G n a) (K a)) : Cont (fun n => (F n).bind (G n)) (L.bind K) where
  up n r hr := by
    rw [Option.bind_eq_some_iff] at hr ⊢
    obtain ⟨a, h1, h2⟩ := hr
    exact ⟨a, h.up n a h1, (k a).up n r h2⟩
  lim r := by
    rw [Option.bind_eq_some_iff]
    constructor
    · rintro ⟨a, h1, h2⟩
      obtain ⟨n, h3⟩ := (h.lim a).1 h1
      obtain ⟨m, h4⟩ := ((k a).lim r).1 h2
      exact ⟨max n m, by rw [Option.bind_eq_some_iff]; exact ⟨a, h.le (Nat.le_max_left _ _) h3, (k a).le (Nat.le_max_right _ _) h4⟩⟩
    · rintro ⟨n, hn⟩
      rw [Option.bind_eq_some_iff] at hn
      obtain ⟨a, h1, h2⟩ := hn
      exact ⟨a, (h.lim a).2 ⟨n, h1⟩, ((k a).lim r).2 ⟨n, h2⟩⟩
theorem Cont.unique {α : Type} {F : Nat → Option α} {L L' : Option α} (h : Cont F L) (k : Cont F L') : L = L' := by
  cases hL : L with
  | some r => exact ((k.lim r).2 ((h.lim r).1 hL)).symm
  | none =>
    cases hL' : L' with
    | none => rfl
    | some r =>
      have := (h.lim r).2 ((k.lim r).1 hL')
      rw [hL] at this; cases this
theorem Cont.shift {α : Type} {F : Nat → Option α} {L : Option α} (h : Cont F L) : Cont (fun n => F (n + 1)) L where
  up n := h.up (n + 1)
  lim r := by
    rw [h.lim r]
    exact ⟨fun ⟨n, hn⟩ => ⟨n, h.up n r hn⟩, fun ⟨n, hn⟩ => ⟨n + 1, hn⟩⟩
theorem Cont.two {α : Type} {x y : Option α} (h : ∀ r, x = some r → y = some r) : Cont (fun n => if n = 0 then x else y) y where
  up n r hr := by
    by_cases hn : n = 0
    · subst hn; simp at hr ⊢; exact h r hr
    · simp [hn] at hr ⊢; exact hr
  lim r := ⟨fun hr => ⟨1, by simpa using hr⟩, fun ⟨n, hn⟩ => by
    by_cases h0 : n = 0
    · subst h0; simp at hn; exact h r hn
    · simpa [h0] using hn⟩
structure OrcC (On : Nat → Orc) (O : Orc) : Prop where
  call : ∀ k as σ, Cont (fun n => (On n).call k as σ) (O.call k as σ)
  round : ∀ l as σ, Cont (fun n => (On n).round l as σ) (O.round l as σ)
  ent : ∀ n k, (On n).ent k = O.ent k
def q41 (In : Nat → q07) (I : q07) : Prop := ∀ (fn : Nat → Env → qr → R3) f s e σ, (∀ e σ, Cont (fun n => fn n e σ) (f e σ)) → Cont (fun n => In n (fn n) s e σ) (I f s e σ)
variable {On : Nat → Orc} {O : Orc} {In : Nat → q07} {I : q07}
theorem OrcC.item (h : OrcC On O) (e : Env) (σ : qr) (it : Item') : Cont (fun n => qba (On n) e σ it) (qba O e σ it) := by
  cases it with
  | op o => exact .const _
  | callP k args =>
    simp only [qba]
    refine .bind (.const _) fun as => ?_
    split
    · exact .bind (h.call _ _ _) fun _ => .const _
    · exact .const _
  | callA k args =>
    simp only [qba]
    refine .bind (.const _) fun as => ?_
    split
    · exact .bind (h.call _ _ _) fun _ => .const _
    · exact .const _
  | callI k args =>
    simp only [qba]
    exact .bind (.const _) fun as => h.call _ _ _
  | callF k args =>
    simp only [qba]
    refine .bind (.const _) fun as => .bind (.const _) fun x => ?_
    split
    · exact .bind (h.call _ _ _) fun _ => .const _
    · exact .const _
  | callR k args =>
    simp only [qba]
    exact .bind (.const _) fun as => .bind (h.call _ _ _) fun _ => .const _
  | callH k args pos =>
    simp only [qba]
    refine .bind (.const _) fun as => ?_
    split
    · exact .bind (h.call _ _ _) fun _ => .const _
    · exact .const _
  | callv f args =>
    simp only [qba]
    refine .bind (.const _) fun g => .bind (.const _) fun as => ?_
    split
    · exact h.call _ _ _
    · exact h.round _ _ _
    · exact .const _
theorem OrcC.oper (h : OrcC On O) (e : Env) (σ : qr) (o : COper) : Cont (fun n => qe (On n) e σ o) (qe O e σ o) := by
  simp only [qe]
  split
  · exact .bind (h.item _ _ _) fun _ => .const _
  · refine .bind (.const _) fun b => ?_
    split
    · split
      · exact .bind (h.item _ _ _) fun _ => .const _
      · exact .const _
    · exact .const _
    · exact .const _
theorem OrcC.opers (h : OrcC On O) : ∀ (l : List COper) (e : Env) (σ : qr), Cont (fun n => qb (On n) l e σ) (qb O l e σ)
  | [], _, _ => .const _
  | o :: l, e, σ => by
    simp only [qb]
    exact .bind (h.oper _ _ _) fun x => OrcC.opers h l _ _
theorem OrcC.range (h : OrcC On O) (k : Nat) (first cap : List AV) (e1 : Env) (σ : qr) (lp : SObj) : Cont (fun n => qoy (On n) k first cap e1 σ lp) (qoy O k first cap e1 σ lp) := by
  simp only [qoy, h.ent]
  split
  · exact .bind (h.call _ _ _) fun _ => .const _
  · exact .const _
theorem OrcC.exec (h : OrcC On O) (hI : q41 In I) : ∀ (c : CCode) (ro : Option Nat) (e : Env) (σ : qr), Cont (fun n => Ev.exec (On n) (In n) ro c e σ) (Ev.exec O I ro c e σ) := by
  intro c
  induction c with
  | skip => intro ro e σ; exact .const _
  | region ops => intro ro e σ; simp only [Ev.exec]; exact .bind (h.opers _ _ _) fun _ => .const _
  | seq a b iha ihb =>
    intro ro e σ
    simp only [Ev.exec]
    refine .bind (iha _ _ _) fun x => ?_
    obtain ⟨x, e', σ'⟩ := x
    cases x
    · exact ihb _ _ _
    · exact .const _
    · exact .const _
  | cond c a b iha ihb =>
    intro ro e σ
    simp only [Ev.exec]
    refine .bind (.const _) fun t => ?_
    split
    · split
      · exact iha _ _ _
      · exact ihb _ _ _
    · exact .const _
  | block id c ih => intro ro e σ; simp only [Ev.exec]; exact .bind (ih _ _ _) fun _ => .const _
  | loop live trim c ih => intro ro e σ; simp only [Ev.exec]; exact hI _ _ _ _ _ fun e σ => ih _ _ _
  | rangeFunc f live params as body _ _ =>
    intro ro e σ
    simp only [Ev.exec]
    refine .bind (.const _) fun g => ?_
    split
    · split
      · exact h.range _ _ _ _ _ _
      · split
        · exact h.range _ _ _ _ _ _
        · exact .const _
    · exact .const _
  | exit id => intro ro e σ; exact .const _
  | ret => intro ro e σ; exact .const _
  | ice t c ih => intro ro e σ; simp only [Ev.exec]; exact .bind (.const _) fun x => ih _ _ _
theorem OrcC.func (h : OrcC On O) (hI : q41 In I) (f : CFunc) (args : List AV) (σ : qr) : Cont (fun n => qj (On n) (In n) f args σ) (qj O I f args σ) := by
  simp only [qj]
  split
  · exact .bind (h.exec hI _ _ _ _) fun _ => .const _
  · exact .const _
theorem OrcC.rnd (h : OrcC On O) (hI : q41 In I) (l : Nat) (args : List AV) (σ : qr) : Cont (fun n => qm9 (On n) (In n) l args σ) (qm9 O I l args σ) := by
  simp only [qm9]
  split
  · refine .bind (.const _) fun e1 => .bind (h.exec hI _ _ _ _) fun x => ?_
    split
    · split
      · exact .bind (h.exec hI _ _ _ _) fun _ => .const _
      · exact .const _
    · exact .const _
  · exact .const _
theorem qog {fn : Nat → Env → qr → R3} {f : Env → qr → R3} {s : Env → qr → Option (Env × qr)} (h : ∀ e σ, Cont (fun n => fn n e σ) (f e σ)) : ∀ (m : Nat) (e : Env) (σ : qr), Cont (fun n => qmk m (fn n) s e σ) (qmk m f s e σ)
  | 0, _, _ => .const _
  | m + 1, e, σ => by
    simp only [qmk]
    refine .bind (.const _) fun x => .bind (h _ _) fun y => ?_
    obtain ⟨y, e2, σ2⟩ := y
    cases y
    · exact qog h m _ _
    · exact .const _
    · exact .const _
theorem qwi {f : Env → qr → R3} {s : Env → qr → Option (Env × qr)} : ∀ {m : Nat} {e : Env} {σ : qr} {r : CExit × Env × qr}, qmk m f s e σ = some r → qmk (m + 1) f s e σ = some r
  | 0, e, σ, r, h => by simp [qmk] at h
  | m + 1, e, σ, r, h => by
    rw [qmk] at h ⊢
    simp only [Option.bind_eq_some_iff] at h ⊢
    obtain ⟨x, h1, y, h2, h⟩ := h
    refine ⟨x, h1, y, h2, ?_⟩
    obtain ⟨y, e2, σ2⟩ := y
    cases y
    · exact qwi h
    · exact h
    · exact h
theorem q3z {f : Env → qr → R3} {s : Env → qr → Option (Env × qr)} {m m' : Nat} (hm : m ≤ m') {e : Env} {σ : qr} {r : CExit × Env × qr} (h : qmk m f s e σ = some r) : qmk m' f s e σ = some r := by
  induction hm with
  | refl => exact h
  | step _ ih => exact qwi ih
noncomputable def lim {α : Type} (f : Nat → Option α) : Option α := open Classical in if h : ∃ n r, f n = some r then f (Classical.choose h) else none
theorem q00 {α : Type} {f : Nat → Option α} (up : ∀ n r, f n = some r → f (n + 1) = some r) : Cont f (lim f) where
  up := up
  lim r := by
    have le : ∀ {m n : Nat} {r : α}, m ≤ n → f m = some r → f n = some r := fun {m n r} hmn hr => by
      induction hmn with
      | refl => exact hr
      | step _ ih => exact up _ _ ih
    unfold lim
    constructor
    · intro h
      split at h
      · exact ⟨_, h⟩
      · cases h
    · rintro ⟨n, hn⟩
      have hex : ∃ n r, f n = some r := ⟨n, r, hn⟩
      rw [dif_pos hex]
      obtain ⟨r', hr'⟩ := Classical.choose_spec hex
      rcases Nat.le_total n (Classical.choose hex) with h | h
      · exact le h hn
      · rw [hr']
        have := le h hr'
        rw [hn] at this
        exact this.symm
noncomputable def itL : q07 := fun f s e σ => lim fun m => qmk m f s e σ
theorem qwf (f : Env → qr → R3) (s : Env → qr → Option (Env × qr)) (e : Env) (σ : qr) : Cont (fun m => qmk m f s e σ) (itL f s e σ) := q00 fun _ _ h => qwi h
theorem qyd {c : Nat → Nat} (hc : ∀ n, c n ≤ c (n + 1)) (hI : ∀ f s e σ r, I f s e σ = some r ↔ ∃ n, qmk (c n) f s e σ = some r) : q41 (fun n => qmk (c n)) I := by
  intro fn f s e σ h
  have mono : ∀ {n n' : Nat}, n ≤ n' → c n ≤ c n' := fun {n n'} hn => by
    induction hn with
    | refl => exact Nat.le_refl _
    | step _ ih => exact Nat.le_trans ih (hc _)
  refine ⟨fun n r hr => q3z (hc n) ((qog h (c n) e σ).up n r hr), fun r => ?_⟩
  rw [hI]
  constructor
  · rintro ⟨m, hm⟩
    obtain ⟨n, hn⟩ := ((qog h (c m) e σ).lim r).1 hm
    exact ⟨max m n, q3z (mono (Nat.le_max_left _ _)) ((qog h (c m) e σ).le (Nat.le_max_right _ _) hn)⟩
  · rintro ⟨n, hn⟩
    exact ⟨n, ((qog h (c n) e σ).lim r).2 ⟨n, hn⟩⟩
theorem q2n : q41 qmk itL := qyd (c := id) (fun _ => Nat.le_succ _) fun f s e σ r => (qwf f s e σ).lim r
theorem itL_ok : q2h itL := fun f s e σ r h => by
  obtain ⟨n, hn⟩ := ((qwf f s e σ).lim r).1 h
  exact qwe n f s e σ r hn
theorem itL_eq (f : Env → qr → R3) (s : Env → qr → Option (Env × qr)) (e : Env) (σ : qr) :
    itL f s e σ = (s e σ).bind fun x => (f x.1 x.2).bind fun y => match y.1 with | .normal => itL f s y.2.1 y.2.2 | .exit id => some (.exit id, y.2) | .ret => some (.ret, y.2) := by
  refine Cont.unique (qwf f s e σ).shift ?_
  simp only [qmk]
  refine .bind (.const _) fun x => .bind (.const _) fun y => ?_
  obtain ⟨y, e2, σ2⟩ := y
  cases y
  · exact qwf f s _ _
  · exact .const _
  · exact .const _
variable {T : Tab}
theorem q6g : ∀ n, (∀ k as σ r, (evF T n).call k as σ = some r → (evF T (n + 1)).call k as σ = some r) ∧ (∀ l as σ r, (evF T n).round l as σ = some r → (evF T (n + 1)).round l as σ = some r)
  | 0 => ⟨fun k as σ r h => by simp [evF] at h, fun l as σ r h => by simp [evF] at h⟩
  | n + 1 => by
    obtain ⟨h1, h2⟩ := q6g n
    have hO : OrcC (fun i => if i = 0 then evF T n else evF T (n + 1)) (evF T (n + 1)) := by
      refine ⟨fun k as σ => ?_, fun l as σ => ?_, fun i k => ?_⟩
      · have := Cont.two (h1 k as σ)
        refine ⟨fun i r hr => ?_, fun r => ?_⟩
        · by_cases hi : i = 0
          · subst hi; simp at hr ⊢; exact h1 _ _ _ _ hr
          · simp [hi] at hr ⊢; exact hr
        · rw [this.lim r]
          constructor
          · rintro ⟨i, hi⟩; exact ⟨i, by by_cases h0 : i = 0 <;> simpa [h0] using hi⟩
          · rintro ⟨i, hi⟩; exact ⟨i, by by_cases h0 : i = 0 <;> simpa [h0] using hi⟩
      · have := Cont.two (h2 l as σ)
        refine ⟨fun i r hr => ?_, fun r => ?_⟩
        · by_cases hi : i = 0
          · subst hi; simp at hr ⊢; exact h2 _ _ _ _ hr
          · simp [hi] at hr ⊢; exact hr
        · rw [this.lim r]
          constructor
          · rintro ⟨i, hi⟩; exact ⟨i, by by_cases h0 : i = 0 <;> simpa [h0] using hi⟩
          · rintro ⟨i, hi⟩; exact ⟨i, by by_cases h0 : i = 0 <;> simpa [h0] using hi⟩
      · have : ∀ n, (evF T n).ent = fun k => (T.ext k).isNone && (T.ins k).isNone := fun n => by cases n <;> rfl
        by_cases hi : i = 0 <;> simp [hi, this]
    have hI : q41 (fun i => qmk (if i = 0 then n else n + 1)) (qmk (n + 1)) := qyd (fun i => by by_cases hi : i = 0 <;> simp [hi]) fun f s e σ r =>
      ⟨fun h => ⟨1, by simpa using h⟩, fun ⟨i, hi⟩ => by
        by_cases h0 : i = 0
        · subst h0; simp at hi; exact qwi hi
        · simpa [h0] using hi⟩
    refine ⟨fun k as σ r h => ?_, fun l as σ r h => ?_⟩
    · rw [evF] at h ⊢
      simp only at h ⊢
      split at h
      · exact h
      · split at h
        · exact h
        · rw [Option.bind_eq_some_iff] at h ⊢
          obtain ⟨f, h3, h4⟩ := h
          exact ⟨f, h3, (hO.func hI f as σ).up 0 r h4⟩
    · rw [evF] at h ⊢
      exact (hO.rnd hI l as σ).up 0 r h
noncomputable def evL (T : Tab) : Orc := ⟨fun k as σ => lim fun n => (evF T n).call k as σ, fun l as σ => lim fun n => (evF T n).round l as σ, fun k => (T.ext k).isNone && (T.ins k).isNone⟩
theorem qna : OrcC (evF T) (evL T) := ⟨fun k as σ => q00 fun n r h => (q6g n).1 k as σ r h, fun l as σ => q00 fun n r h => (q6g n).2 l as σ r h, fun n k => by cases n <;> rfl⟩
theorem qad {k : Nat} {f : CFunc} (hx : T.ext k = none ∧ T.ins k = none) (hc : T.code k = some f) (args : List AV) (σ : qr) : (evL T).call k args σ = qj (evL T) itL f args σ := by
  refine Cont.unique (qna.call k args σ).shift ?_
  simp only [evF, hx.1, hx.2, hc, Option.bind_some]
  exact qna.func q2n f args σ
theorem q3r {k : Nat} {F : List AV → Option (AV × qr)} (hx : T.ext k = some F) (args : List AV) (σ : qr) : (evL T).call k args σ = if los 0 args = true ∧ σ = [] then F args else none := by
  refine Cont.unique (qna.call k args σ).shift ?_
  simp only [evF, hx]
  exact .const _
theorem evL_ins {k : Nat} {p : Nat × Nat} (hx : T.ext k = none) (hi : T.ins k = some p) (args : List AV) (σ : qr) : (evL T).call k args σ = insF p.1 p.2 args σ := by
  refine Cont.unique (qna.call k args σ).shift ?_
  simp only [evF, hx, hi]
  exact .const _
theorem q8t (l : Nat) (args : List AV) (σ : qr) : (evL T).round l args σ = qm9 (evL T) itL l args σ := by
  refine Cont.unique (qna.round l args σ).shift ?_
  simp only [evF]
  exact qna.rnd q2n l args σ
theorem evL_ok {P : Program} (hT : TabOk P T) : qph P (evL T) := fun k args σ r σ' h Γ w vs s hv => by
  obtain ⟨n, hn⟩ := ((qna.call k args σ).lim (r, σ')).1 h
  exact (evF_ok hT n).1 k args σ r σ' hn Γ w vs s hv
end Go.Ev
namespace Go.Ev
open Go.RowKit (Below)
variable {P : Program} {Γ Γ' : Ctx} {w w' : World} {σ σ' : qr} {e e' : Env} {a a' : Act} {av : AV} {N : Nat}
def qro (sz bytes : Nat) : List AV → Option (AV × qr)
  | [.fsl es _] => if 0 < sz ∧ qcd sz es = true ∧ es.length * bytes ≤ 2 ^ 47 then some (.sl 0 0 0 es.length false, [.row sz es 0]) else none
  | _ => none
structure CloneParts where
  fn : Func
  t : TypeId
  el : TypeId
  r0 : Code
  i1 : Nat
  o3 : Oper
  o4 : Oper
  y : TypeId
  A : Code
  B : Code
def qpy (P : Program) (k : Nat) : Option CloneParts :=
  (P.funcs[k]?).bind fun fn =>
  match fn.body with
  | some (.seq r0 (.seq (.seq (.region i1 ops false) (.cond (.tmp 4) A .skip)) B)) =>
    match ops.toList with
    | [o3, o4] =>
      match o4.op with
      | .binOp .eql t (.tmp 3) (.const (.slice none 0 0)) y =>
        match P.underlying t with
        | some (.slice el) => some ⟨fn, t, el, r0, i1, o3, o4, y, A, B⟩
        | _ => none
      | _ => none
    | _ => none
  | _ => none
def q8x : List ResultVar → Bool
  | [.tmp 2] => true
  | _ => false
def qr0 (P : Program) (k : Nat) : Option (Nat × Nat) :=
  (qpy P k).bind fun p =>
  if (p.fn.name == "runtime.NumGoroutine") = false ∧ p.fn.params.size + p.fn.nfree = 1 ∧ p.fn.ntmps = 8 ∧ q8x p.fn.results.toList = true ∧ p.o4.dst = some 4 ∧ p.o4.guard = none then
    match qhs P {} 8 p.r0 0, qyb P {} 8 #[] p.o3, qhs P {} 8 p.A 0, qhs P { appN := [7] } 8 p.B 0 with
    | some (.region [⟨some 2, none, .op (.mv (.c (.fsl [] true)))⟩], _), some ⟨some 3, none, .op (.mv (.t 0))⟩, some (.seq (.region [⟨some 2, none, .op (.mv (.c (.fsl [] true)))⟩]) .ret, _),
      some (.seq (.region [⟨some 5, none, .op (.bslF z 0 [])⟩, ⟨some 6, none, .op (.mv (.t 0))⟩, ⟨some 7, none, .op (.appN sz bytes (.t 5) (.t 6))⟩, ⟨some 2, none, .op (.mv (.t 7))⟩]) .ret, _) =>
      if z ≠ [] then some (sz, bytes) else none
    | _, _, _, _ => none
  else none
def qps : Orc := ⟨fun _ _ _ => none, fun _ _ _ => none, fun _ => false⟩
theorem qnb : qph P qps := fun k args σ r σ' h => by cases h
theorem ql1 : qnk P qps := fun k args σ r σ' h => by cases h
theorem qxv : q48 P qps := fun k h => by cases h
theorem q7o {t el : TypeId} {A : Option Addr} {n c : Nat} {x y : Operand} (ht : P.underlying t = some (.slice el)) :
    (do eqGuard .eql t x y (.slice A n c) (.slice none 0 0); binOp .eql t (.slice A n c) (.slice none 0 0) : Sem Value).run P w = .ok (.bool A.isNone) w := by
  have hg : (eqGuard .eql t x y (.slice A n c) (.slice none 0 0)).run P w = .ok () w := by unfold eqGuard; simp
  have he : (Op.equal t (.slice A n c) (.slice none 0 0)).run P w = .ok A.isNone w := by
    unfold Op.equal
    rw [show Op.maxDepth = 9999 + 1 from rfl]
    unfold Op.equalIn
    simp only [Sem.run_bind, run_underlying ht, Result.andThen_ok]
    cases A <;> simp
  simp only [Sem.run_bind, hg, Result.andThen_ok]
  unfold binOp
  simp [he]
theorem own_empty {v : Value} {c : Bool} {sz : Nat} (s : SR P Γ [] w) (h0 : 0 < sz) (hv : VR Γ w (.fsl [] c) v) (hc : v = .slice none 0 0 ∨ c = true) {Γ0 : Ctx} {w0 : World} (x : Ext Γ0 Γ w0 w) : Got P Γ0 w0 (.sl 0 0 0 0 false) [.row sz [] 0] v w := by
  have hx := Ext.push (Γ := Γ) (Below.refl w.heap.size w) ⟨0, 0, sz, 0⟩ fun h => absurd rfl h
  have hn : Γ.n = 0 := by rw [← s.len]; rfl
  have hs := s.push (Below.refl w.heap.size w) ⟨0, 0, sz, 0⟩ (ob := .row sz [] 0) (fun h => absurd rfl h) (by
    simp only [OR, Ctx.push_new]
    exact ⟨trivial, trivial, h0, Nat.le_refl _, by simp, .inl trivial⟩)
  refine ⟨_, ?_, by simpa using hs, x.trans hx⟩
  simp only [VR] at hv ⊢
  have hl : (Γ.push ⟨0, 0, sz, 0⟩).loc 0 = ⟨0, 0, sz, 0⟩ := by have := Γ.push_new ⟨0, 0, sz, 0⟩; rwa [hn] at this
  rw [hl]
  obtain ⟨A, cap, rfl, h1, h2, _⟩ := hv
  rcases hc with hc | hc
  · cases hc
    exact ⟨none, 0, rfl, Nat.le_refl _, fun _ => rfl, by simp [Ctx.push], Nat.le_refl _, fun _ => ⟨Nat.le_refl _, .inl rfl⟩⟩
  · have := h2 hc
    simp at this
    subst this
    exact ⟨A, 0, rfl, Nat.le_refl _, fun _ => rfl, by simp [Ctx.push], Nat.le_refl _, fun _ => ⟨Nat.le_refl _, .inl rfl⟩⟩
theorem q6z {h : Hints} {n : Nat} {ops ops' : Array Oper} {o : Oper} {c : COper} (hc : qyb P h n ops o = some c) (hg : c.guard = none) : qyb P h n ops' o = some c := by
  obtain ⟨h1, h2, h3, h4⟩ := qsc hc
  rcases h4 with ⟨h4, _⟩ | ⟨j, want, t, _, h5, _⟩
  · unfold qyb
    rw [if_pos h1, h3, h4]
    obtain ⟨d, g, it⟩ := c
    simp only at h2 hg
    simp [h2, hg]
  · rw [hg] at h5; cases h5
theorem qt3 {k : Nat} {p : CloneParts} (h : qpy P k = some p) : P.funcs[k]? = some p.fn ∧ (∃ ops, p.fn.body = some (.seq p.r0 (.seq (.seq (.region p.i1 ops false) (.cond (.tmp 4) p.A .skip)) p.B)) ∧ ops.toList = [p.o3, p.o4]) ∧
    p.o4.op = .binOp .eql p.t (.tmp 3) (.const (.slice none 0 0)) p.y ∧ P.underlying p.t = some (.slice p.el) := by
  unfold qpy at h
  rw [Option.bind_eq_some_iff] at h
  obtain ⟨fn, h1, h⟩ := h
  split at h
  · rename_i r0 i1 ops A B hb
    split at h
    · rename_i o3 o4 ho
      split at h
      · rename_i t y hop
        split at h
        · rename_i el hu
          cases h
          exact ⟨h1, ⟨ops, hb, ho⟩, hop, hu⟩
        · cases h
      · cases h
    · cases h
  · cases h
theorem clone_ok {k sz bytes : Nat} (hm : P.follows .mixedOrders = true) (h : qr0 P k = some (sz, bytes)) : ExtOk P k (qro sz bytes) := by
  intro args r τ hlo hF Γ w vs s hv
  unfold qr0 at h
  rw [Option.bind_eq_some_iff] at h
  obtain ⟨p, hp, h⟩ := h
  obtain ⟨h1, ⟨ops, h2, hops⟩, hop, hu⟩ := qt3 hp
  split at h
  · rename_i hcond
    obtain ⟨hname, hnp, hnt, hres, hd4, hg4⟩ := hcond
    split at h
    · rename_i j0 jA z sz' bytes' jB hr0 ho3 hA hB
      split at h
      · rename_i hz
        cases h
        unfold qro at hF
        split at hF
        · rename_i es c
          split at hF
          · rename_i hes
            cases hF
            simp only [VRs] at hv
            obtain ⟨v, us, rfl, hv, rfl⟩ := hv
            rw [qsv h1 hname h2]
            have hE : ∀ {c : Code} {hh : Hints} {i j : Nat} {cc : CCode}, qhs P hh 8 c i = some (cc, j) → qth P qps itL 8 c cc := fun hc => qwp qnb ql1 qxv itL_ok hm _ hc
            have hopsz : ops.size = 2 := by rw [← Array.length_toList, hops]; rfl
            have hg0 : ops[0]? = some p.o3 := by rw [← Array.getElem?_toList, hops]; rfl
            have hg1 : ops[1]? = some p.o4 := by rw [← Array.getElem?_toList, hops]; rfl
            have qag : ∀ {r : AV} {τ : qr} {e : Env} {Γ' : Ctx} {a' : Act} {w' : World}, e.marks = [] → AR P Γ' 8 e τ a' w' → (∀ v, VR Γ' w' ((e.get 2).getD (.v undef)) v → Got P Γ w r [.row sz es 0] v w') → (e.get 2).isSome = true →
                LeavesInM Fence.wide 0 P p.fn a'.tmps (q6d (Got P Γ w r [.row sz es 0])) a'.defers .returning w' := by
              intro r τ e Γ' a' w' hmk ha hgot hsome
              have hmr := ha.mr
              rw [hmk] at hmr
              simp only [MR] at hmr
              rw [hmr]
              obtain ⟨av, hav⟩ := Option.isSome_iff_exists.1 hsome
              have hrl : p.fn.results.toList = [.tmp 2] := by
                revert hres; unfold q8x; split
                · intro _; assumption
                · intro hh; cases hh
              obtain ⟨v, h8, h9⟩ := qt2 (N := 8) (cs := [.tmp 2]) (as := [av]) (by rw [hrl]; rfl) ha.sr ha.ve (by simp [qi, qq, hav])
              refine ⟨v, h8, hgot v ?_⟩
              rw [hav]
              exact h9
            refine callsIn_of_wp_marks (F := Fence.wide) (n := 0) h1 h2 trivial ?_
            have ha0 : AR P Γ 8 ⟨[(0, .fsl es c)], []⟩ [] { tmps := #[v] ++ Array.replicate (p.fn.ntmps - 1) undef, defers := [] } w := by
              refine ⟨fun t av ht => ?_, s, by simp [hnt], rfl⟩
              simp only [look] at ht
              split at ht
              · rename_i h0
                subst h0
                cases ht
                have h0e : (#[v] ++ Array.replicate (p.fn.ntmps - 1) undef).getD 0 undef = v := by
                  rw [Array.getD_eq_getD_getElem?, Array.getElem?_append_left (by simp)]; simp
                simp only [h0e]
                exact hv
              · cases ht
            refine wpIn_seq (wpIn_mono (hE hr0 (ro := none) (l := none) (e' := ⟨[(2, .fsl [] true), (0, .fsl es c)], []⟩) (σ' := []) (x := .normal) rfl ha0 trivial) ?_)
            rintro ex a1 w1 ⟨rfl, Γ1, x1, ha1⟩
            refine wpIn_seq (wpIn_seq (wpIn_region ?_))
            rw [hopsz, show List.range 2 = [0, 1] from rfl, wpOpsIn_cons]
            refine q0v (e := ⟨[(2, .fsl [] true), (0, .fsl es c)], []⟩) (σ := []) qnb ql1 hg0 (q6z ho3 rfl) (e1 := ⟨[(3, .fsl es c), (2, .fsl [] true), (0, .fsl es c)], []⟩) (σ1 := []) rfl ha1 fun Γ2 a2 w2 x2 ha2 => ?_
            rw [wpOpsIn_cons]
            unfold wpOpIn
            have hwant : Region.wanted p.o4 (yielded ops a2.tmps) = true := by simp [Region.wanted, hg4]
            simp only [hg1, hwant, if_true, Oper.wpIn]
            refine ⟨fun _ _ => trivial, ?_⟩
            rw [Oper.semAt_eq _ _ _ (by rw [hop]; intro c hc; cases hc)]
            have hv3 := ha2.ve 3 (.fsl es c) rfl
            have hv3' := hv3
            simp only [VR] at hv3'
            obtain ⟨A, cap, hAv, hle, hclip, hmem⟩ := hv3'
            have hrun : (execOp a2.eval p.o4).run P w2 = .ok (.value (.bool A.isNone)) w2 := by
              simp only [execOp, hop]
              have h3e : a2.eval (.tmp 3) = .slice A es.length cap := hAv
              rw [h3e]
              have h4e : a2.eval (.const (.slice none 0 0)) = .slice none 0 0 := rfl
              rw [h4e]
              have := q7o (P := P) (w := w2) (t := p.t) (A := A) (n := es.length) (c := cap) (x := .tmp 3) (y := .const (.slice none 0 0)) hu
              simp only [Sem.run_bind] at this ⊢
              rw [this]
              rfl
            rw [hrun]
            simp only [Oper.uponIn, wpOpsIn]
            have ha3 := ha2.put (d := p.o4.dst) (av := .v (.bool A.isNone)) (v := .bool A.isNone) (by rw [hd4]; rfl) (by simp only [VR]) ha2.sr (Ext.refl _ _)
            rw [hd4] at ha3 ⊢
            have hc4 : (a2.put (some 4) (.bool A.isNone)).eval (.tmp 4) = .bool A.isNone := by
              have := ha3.ve 4 (.v (.bool A.isNone)) rfl
              simp only [VR] at this
              exact this
            refine wpIn_cond hc4 ?_
            have x12 := x1.trans x2
            cases A with
            | none =>
              have hnil : es = [] := by
                rcases hmem with hmem | ⟨b, off, sz', hA', _⟩
                · exact hmem
                · cases hA'
              subst hnil
              refine wpIn_mono (hE hA (ro := none) (l := none) (e' := ⟨[(2, .fsl [] true), (4, .v (.bool true)), (3, .fsl [] c), (2, .fsl [] true), (0, .fsl [] c)], []⟩) (σ' := []) (x := .ret) rfl ha3 trivial) ?_
              rintro ex a4 w4 ⟨rfl, Γ4, x4, ha4⟩
              exact qag rfl ha4 (fun v hv => own_empty ha4.sr hes.1 hv (.inr rfl) (x12.trans x4)) rfl
            | some A =>
              refine wpIn_skip (wpIn_mono (hE hB (ro := none) (l := none) (e' := ⟨[(2, .sl 0 0 0 es.length false), (7, .sl 0 0 0 es.length false), (6, .fsl es c), (5, .fsl [] true), (4, .v (.bool false)), (3, .fsl es c), (2, .fsl [] true), (0, .fsl es c)], []⟩)
                (σ' := [.row sz es 0]) (x := .ret) ?_ ha3 trivial) ?_)
              · have hq : ∀ e σ, qai e σ (.bslF z 0 []) = some (.fsl [] true, σ) := fun e σ => by simp [qai, qfm, hz]
                simp only [exec, qb, qe, qba, hq, Option.bind_some, Env.set]
                simp [qai, Opnd.ev, Env.get, look, qbq, hes.1, hes.2.1, hes.2.2, Env.set]
              · rintro ex a4 w4 ⟨rfl, Γ4, x4, ha4⟩
                exact qag rfl ha4 (fun v hv => ⟨Γ4, hv, ha4.sr, x12.trans x4⟩) rfl
          · cases hF
        · cases hF
      · cases h
    · cases h
  · cases h
end Go.Ev
namespace Go.Ev
abbrev w64 (n : Int) : Int := IntKind.i64.wrap n
theorem qn {α β : Type} (x : Option α) (f : α → Option β) : x.bind f = match x with | none => none | some a => f a := by cases x <;> rfl
theorem qbb (n : Nat) (x : Value) : (AV.v x).lo n = true := by simp only [AV.lo, los, qiu]
theorem qa2 (n : Nat) (cs : List AV) : (AV.agg cs).lo n = los n cs := by simp only [AV.lo, los, qiu]
theorem qb1 (n : Nat) (cs : List AV) : (AV.tup cs).lo n = los n cs := by simp only [AV.lo, los, qiu]
theorem qm (n : Nat) (es : List (List AV)) (c : Bool) : (AV.fsl es c).lo n = qiu n es := by simp only [AV.lo, los, qiu]
theorem qbm (n : Nat) (cs : List AV) : (AV.fptr cs).lo n = los n cs := by simp only [AV.lo, los, qiu]
theorem qds (n o g off len : Nat) (c : Bool) : (AV.sl o g off len c).lo n = decide (o < n) := by simp only [AV.lo, los, qiu]
theorem qg6 (n o g i off : Nat) : (AV.ptr o g i off).lo n = decide (o < n) := by simp only [AV.lo, los, qiu]
theorem qy1 (n : Nat) (f : Go.Fn) (a b : List AV) : (AV.fn f a b).lo n = (los n a && los n b) := by simp only [AV.lo, los, qiu]
theorem q7s (n o : Nat) : (AV.yld o).lo n = decide (o < n) := by simp only [AV.lo, los, qiu]
theorem lo_mp (n o : Nat) : (AV.mp o).lo n = decide (o < n) := by simp only [AV.lo, los, qiu]
theorem qh (n : Nat) : los n [] = true := by simp only [AV.lo, los, qiu]
theorem qd (n : Nat) (a : AV) (as : List AV) : los n (a :: as) = (a.lo n && los n as) := by simp only [AV.lo, los, qiu]
theorem qu (n : Nat) : qiu n [] = true := by simp only [AV.lo, los, qiu]
theorem qak (n : Nat) (a : List AV) (as : List (List AV)) : qiu n (a :: as) = (los n a && qiu n as) := by simp only [AV.lo, los, qiu]
section bin
variable (k : IntKind) (a b : Int)
theorem qao : qli .add (.v (.int k a)) (.v (.int k b)) = some (.v (.int k (k.wrap (a + b)))) := by simp [qli]
theorem qrs : qli .sub (.v (.int k a)) (.v (.int k b)) = some (.v (.int k (k.wrap (a - b)))) := by simp [qli]
theorem qux : qli .rem (.v (.int k a)) (.v (.int k b)) = if b = 0 then none else some (.v (.int k (a.tmod b))) := by simp [qli]
theorem qar : qli .eql (.v (.int k a)) (.v (.int k b)) = some (.v (.bool (decide (a = b)))) := by
  by_cases h : a = b <;> simp [qli, h]
theorem qbe : qli .neq (.v (.int k a)) (.v (.int k b)) = some (.v (.bool (decide (a ≠ b)))) := by
  by_cases h : a = b <;> simp [qli, h]
theorem ql : qli .lss (.v (.int k a)) (.v (.int k b)) = some (.v (.bool (decide (a < b)))) := by simp [qli]
theorem qqm : qli .leq (.v (.int k a)) (.v (.int k b)) = some (.v (.bool (decide (a ≤ b)))) := by simp [qli]
theorem qbh : qli .gtr (.v (.int k a)) (.v (.int k b)) = some (.v (.bool (decide (a > b)))) := by simp [qli]
theorem qbu : qli .geq (.v (.int k a)) (.v (.int k b)) = some (.v (.bool (decide (a ≥ b)))) := by simp [qli]
end bin
theorem qx {σ : qr} {d : Nat} {a : AV} (h : a.lo 0 = true) : frz σ d a = some a := by
  cases d <;> simp [frz, h]
theorem q0a {σ : qr} {d : Nat} : ∀ {as : List AV}, los 0 as = true → qgn (frz σ d) as = some as
  | [], _ => rfl
  | a :: as, h => by
    simp only [los, Bool.and_eq_true] at h
    simp only [qgn, qx h.1, q0a h.2, Option.bind_some]
theorem qe3 {σ : qr} {d : Nat} : ∀ {es : List (List AV)}, qiu 0 es = true → qgn (qgn (frz σ d)) es = some es
  | [], _ => rfl
  | a :: as, h => by
    simp only [qiu, Bool.and_eq_true] at h
    simp only [qgn, q0a h.1, qe3 h.2, Option.bind_some]
theorem frz_sl {σ : qr} {d o g off len : Nat} {c : Bool} {sz : Nat} {es : List (List AV)} (h : σ[o]? = some (.row sz es g)) (hl : off + len ≤ es.length) (hlo : qiu 0 ((es.drop off).take len) = true) :
    frz σ (d + 1) (.sl o g off len c) = some (.fsl ((es.drop off).take len) false) := by
  simp only [frz, AV.lo, h, Nat.not_lt_zero, decide_false, Bool.false_eq_true, if_false, true_and, hl, if_true, qe3 hlo, Option.bind_some]
theorem qkh {α : Type} {n : Nat} {c : α → List AV} (h : ∀ x, los n (c x) = true) : ∀ (xs : List α), qiu n (xs.map c) = true
  | [] => rfl
  | x :: xs => by simp only [List.map_cons, qiu, h, qkh h xs, Bool.and_self]
theorem qkt {α : Type} {sz : Nat} {c : α → List AV} (h : ∀ x, (c x).length = sz ∧ qo (c x) = true) : ∀ (xs : List α), qcd sz (xs.map c) = true
  | [] => rfl
  | x :: xs => by simp only [List.map_cons, qcd, (h x).1, (h x).2, qkt h xs, decide_true, Bool.and_self]
theorem qbc (sz : Nat) : qcd sz [] = true := by simp only [qcd]
theorem qbg (sz : Nat) (e : List AV) (es : List (List AV)) : qcd sz (e :: es) = (decide (e.length = sz) && (qo e && qcd sz es)) := by simp only [qcd]
theorem q04 {σ : qr} {d : Nat} {cs : List AV} : frz σ (d + 1) (.agg cs) = (qgn (frz σ d) cs).bind fun cs => some (.agg cs) := by
  by_cases h : los 0 cs = true
  · rw [qx (by simpa only [AV.lo] using h), q0a h]; rfl
  · simp only [frz, AV.lo, h]; rfl
theorem quc {σ : qr} {d : Nat} {cs : List AV} : frz σ (d + 1) (.tup cs) = (qgn (frz σ d) cs).bind fun cs => some (.tup cs) := by
  by_cases h : los 0 cs = true
  · rw [qx (by simpa only [AV.lo] using h), q0a h]; rfl
  · simp only [frz, AV.lo, h]; rfl
theorem qhg {σ : qr} {d o g off len : Nat} {c : Bool} : frz σ (d + 1) (.sl o g off len c) = match σ[o]? with
    | some (.row _ es g') => if g = g' ∧ off + len ≤ es.length then (qgn (qgn (frz σ d)) ((es.drop off).take len)).bind fun es => some (.fsl es false) else none
    | _ => none := by
  simp only [frz, AV.lo, Nat.not_lt_zero, decide_false, Bool.false_eq_true, if_false]
  rfl
theorem qgx {α β : Type} (f : α → Option β) : qgn f [] = some [] := by simp only [qgn]
theorem qel {α β : Type} (f : α → Option β) (a : α) (as : List α) : qgn f (a :: as) = (f a).bind fun b => (qgn f as).bind fun bs => some (b :: bs) := by simp only [qgn]
theorem qys (n k : Nat) (e : List AV) (h : los n e = true) : qiu n (List.replicate k e) = true := by
  induction k with
  | zero => simp only [List.replicate, qiu]
  | succ k ih => simp only [List.replicate, qiu, h, ih, Bool.and_self]
def qa4 (O : Orc) (k : Nat) (as : List AV) : Option AV := (O.call k as []).bind fun x => frz x.2 6 x.1
section items
variable (O : Orc) (e : Env) (σ : qr)
theorem qc (o : COp) : qba O e σ (.op o) = qai e σ o := by simp only [qba]
theorem qaw (k : Nat) (args : List Opnd) : qba O e σ (.callP k args) = (evs e args).bind fun as => if los 0 as = true then (qa4 O k as).bind fun r => some (r, σ) else none := by
  simp only [qba, qa4, Option.bind_assoc]
theorem qrm (k : Nat) (args : List Opnd) : qba O e σ (.callA k args) = (evs e args).bind fun as => if los 0 as = true then (O.call k as []).bind fun (r, σ') =>
      (qgn (q1h σ.length) σ').bind fun τ => some (r.shift σ.length, σ ++ τ) else none := by simp only [qba]
theorem qjw (k : Nat) (args : List Opnd) : qba O e σ (.callI k args) = (evs e args).bind fun as => O.call k as σ := by simp only [qba]
theorem item_R (k : Nat) (args : List Opnd) : qba O e σ (.callR k args) = (evs e args).bind fun as => (O.call k as σ).bind fun (r, σ') => if qpx σ σ' = true then some (r, σ) else none := by simp only [qba]
theorem qs8 (f : Opnd) (args : List Opnd) : qba O e σ (.callv f args) = (f.ev e).bind fun g => (evs e args).bind fun as => match g with
    | .fn (.func k) first cap => O.call k (first ++ (as ++ cap)) σ
    | .yld o => O.round o as σ
    | _ => none := by simp only [qba]; rfl
end items
mutual
theorem shift_lo (d : Nat) : ∀ (a : AV), a.lo 0 = true → a.shift d = a
  | .v _, _ => by simp only [AV.shift]
  | .agg cs, h => by simp only [AV.lo] at h; simp only [AV.shift, qmb d cs h]
  | .tup cs, h => by simp only [AV.lo] at h; simp only [AV.shift, qmb d cs h]
  | .fsl es c, h => by simp only [AV.lo] at h; simp only [AV.shift, qhb d es h]
  | .fptr cs, h => by simp only [AV.lo] at h; simp only [AV.shift, qmb d cs h]
  | .sl o _ _ _ _, h => by simp only [AV.lo, Nat.not_lt_zero, decide_false, Bool.false_eq_true] at h
  | .ptr o _ _ _, h => by simp only [AV.lo, Nat.not_lt_zero, decide_false, Bool.false_eq_true] at h
  | .fn f a b, h => by simp only [AV.lo, Bool.and_eq_true] at h; simp only [AV.shift, qmb d a h.1, qmb d b h.2]
  | .yld o, h => by simp only [AV.lo, Nat.not_lt_zero, decide_false, Bool.false_eq_true] at h
  | .mp o, h => by simp only [AV.lo, Nat.not_lt_zero, decide_false, Bool.false_eq_true] at h
theorem qmb (d : Nat) : ∀ (as : List AV), los 0 as = true → qjn d as = as
  | [], _ => rfl
  | a :: as, h => by simp only [los, Bool.and_eq_true] at h; simp only [qjn, shift_lo d a h.1, qmb d as h.2]
theorem qhb (d : Nat) : ∀ (es : List (List AV)), qiu 0 es = true → qj8 d es = es
  | [], _ => rfl
  | a :: as, h => by simp only [qiu, Bool.and_eq_true] at h; simp only [qj8, qmb d a h.1, qhb d as h.2]
end
noncomputable def itB (f : Env → qr → R3) (s : Env → qr → Option (Env × qr)) (e : Env) (σ : qr) : R3 :=
  (f e σ).bind fun y => match y.1 with | .normal => itL f s y.2.1 y.2.2 | .exit id => some (.exit id, y.2) | .ret => some (.ret, y.2)
theorem qa3 {f : Env → qr → R3} {s : Env → qr → Option (Env × qr)} {e : Env} {σ : qr} : itL f s e σ = (s e σ).bind fun x => itB f s x.1 x.2 := itL_eq f s e σ
def it1 (f : Env → qr → R3) (s : Env → qr → Option (Env × qr)) (e : Env) (σ : qr) : Option ((Env × qr) ⊕ (CExit × Env × qr)) :=
  (f e σ).bind fun y => match y with
    | (.normal, e', σ') => (s e' σ').bind fun x => some (.inl x)
    | (.exit id, e', σ') => some (.inr (.exit id, e', σ'))
    | (.ret, e', σ') => some (.inr (.ret, e', σ'))
theorem qx4 {f : Env → qr → R3} {s : Env → qr → Option (Env × qr)} {e : Env} {σ : qr} : itB f s e σ = (it1 f s e σ).bind fun x => match x with | .inl x => itB f s x.1 x.2 | .inr y => some y := by
  unfold it1
  rw [itB]
  cases f e σ with
  | none => rfl
  | some y =>
    obtain ⟨y, e', σ'⟩ := y
    cases y
    · simp only [Option.bind_some, qa3]
      cases s e' σ' <;> rfl
    · rfl
    · rfl
theorem qf2 {f : Env → qr → R3} {s : Env → qr → Option (Env × qr)} {α : Type} (E : Nat → α → Env) (S : Nat → α → qr) (Inv : Nat → α → Prop) (n : Nat) (Q : CExit × Env × qr → Prop)
    (step : ∀ i a, i < n → Inv i a → (∃ a', it1 f s (E i a) (S i a) = some (.inl (E (i + 1) a', S (i + 1) a')) ∧ Inv (i + 1) a') ∨ ∃ y, it1 f s (E i a) (S i a) = some (.inr y) ∧ Q y)
    (last : ∀ a, Inv n a → ∃ y, it1 f s (E n a) (S n a) = some (.inr y) ∧ Q y) :
    ∀ i a, i ≤ n → Inv i a → ∃ y, itB f s (E i a) (S i a) = some y ∧ Q y := by
  have : ∀ k i a, n - i = k → i ≤ n → Inv i a → ∃ y, itB f s (E i a) (S i a) = some y ∧ Q y := by
    intro k
    induction k with
    | zero =>
      intro i a hk hi ha
      obtain rfl : i = n := by omega
      obtain ⟨y, h1, h2⟩ := last a ha
      exact ⟨y, by rw [qx4, h1]; rfl, h2⟩
    | succ k ih =>
      intro i a hk hi ha
      rcases step i a (by omega) ha with ⟨a', h1, h2⟩ | ⟨y, h1, h2⟩
      · obtain ⟨y, h3, h4⟩ := ih (i + 1) a' (by omega) (by omega) h2
        exact ⟨y, by rw [qx4, h1]; exact h3, h4⟩
      · exact ⟨y, by rw [qx4, h1]; rfl, h2⟩
  exact fun i a => this (n - i) i a rfl
theorem qas {n : Int} (h1 : -9223372036854775808 ≤ n) (h2 : n < 9223372036854775808) : IntKind.i64.wrap n = n := by
  have h3 : IntKind.i64.bits = 64 := rfl
  have h4 : IntKind.i64.signed = true := rfl
  simp only [IntKind.wrap, h3, h4, Bool.true_and]
  rw [show (2 : Int) ^ 64 = 18446744073709551616 from rfl, show (2 : Int) ^ (64 - 1) = 9223372036854775808 from rfl]
  simp only [decide_eq_true_eq]
  split <;> omega
theorem qi4 {α : Type} {l : List α} {i : Nat} {x : α} (h : l[i]? = some x) : l.take (i + 1) = l.take i ++ [x] := by
  rw [List.take_add_one, h]; rfl
theorem evL_ent {T : Tab} {k : Nat} (h : T.ext k = none ∧ T.ins k = none) : (evL T).ent k = true := by
  show ((T.ext k).isNone && (T.ins k).isNone) = true
  rw [h.1, h.2]; rfl
theorem evL_of_F {T : Tab} {k : Nat} {as : List AV} {σ : qr} {r : AV × qr} (n : Nat) (h : (evF T n).call k as σ = some r) : (evL T).call k as σ = some r := ((qna.call k as σ).lim r).2 ⟨n, h⟩
theorem q47 {T : Tab} {k : Nat} {as : List AV} {r : AV} (n : Nat) (h : ((evF T n).call k as []).bind (fun x => frz x.2 6 x.1) = some r) : qa4 (evL T) k as = some r := by
  rw [Option.bind_eq_some_iff] at h
  obtain ⟨x, h1, h2⟩ := h
  unfold qa4
  rw [evL_of_F n h1]
  exact h2
end Go.Ev
namespace Go.Ev
theorem qg9 {f : Env → qr → R3} {s : Env → qr → Option (Env × qr)} {τ : Type} (l : List τ) (E : Nat → Env) (σ : qr) (p : τ → Bool) (Qg : CExit × Env × qr → Prop) (Qb : τ → CExit × Env × qr → Prop)
    (good : ∀ (i : Nat) (x : τ), i < l.length → l[i]? = some x → p x = true → it1 f s (E i) σ = some (.inl (E (i + 1), σ)))
    (bad : ∀ (i : Nat) (x : τ), i < l.length → l[i]? = some x → p x = false → ∃ y, it1 f s (E i) σ = some (.inr y) ∧ Qb x y)
    (last : ∃ y, it1 f s (E l.length) σ = some (.inr y) ∧ Qg y) : ∃ y, itB f s (E 0) σ = some y ∧ (l.all p = true ∧ Qg y ∨ l.all p = false ∧ ∃ x, l.find? (fun x => !p x) = some x ∧ Qb x y) := by
  have := qf2 (f := f) (s := s) (α := Unit) (fun i _ => E i) (fun _ _ => σ) (fun i _ => (l.take i).all p = true) l.length
    (fun y => l.all p = true ∧ Qg y ∨ l.all p = false ∧ ∃ x, l.find? (fun x => !p x) = some x ∧ Qb x y) ?_ ?_ 0 () (Nat.zero_le _) (by simp)
  · exact this
  · intro i _ hi hp
    obtain ⟨x, hx⟩ : ∃ x, l[i]? = some x := ⟨_, List.getElem?_eq_getElem hi⟩
    cases hpx : p x with
    | true => exact .inl ⟨(), good i _ hi hx hpx, by rw [qi4 hx, List.all_append, hp]; simp [hpx]⟩
    | false =>
      obtain ⟨y, h1, h2⟩ := bad i _ hi hx hpx
      refine .inr ⟨y, h1, .inr ⟨?_, x, ?_, h2⟩⟩
      · rw [Bool.eq_false_iff]; intro h; rw [List.all_eq_true] at h
        rw [h _ (List.mem_of_getElem? hx)] at hpx; cases hpx
      · have hd : l = l.take i ++ (x :: l.drop (i + 1)) := by
          obtain ⟨_, rfl⟩ := List.getElem?_eq_some_iff.1 hx
          rw [List.getElem_cons_drop, List.take_append_drop]
        have hn : (l.take i).find? (fun x => !p x) = none := by
          rw [List.find?_eq_none]
          intro x hx'
          rw [List.all_eq_true.1 hp x hx']; simp
        generalize l.take i = l1 at hd hn
        generalize l.drop (i + 1) = l2 at hd
        subst hd
        rw [List.find?_append, hn, List.find?_cons, hpx]; rfl
  · intro _ hp
    rw [List.take_length] at hp
    obtain ⟨y, h1, h2⟩ := last
    exact ⟨y, h1, .inl ⟨hp, h2⟩⟩
end Go.Ev
namespace Go.Ev
theorem q0h {f : Env → qr → R3} {s : Env → qr → Option (Env × qr)} {e e' : Env} {σ σ' : qr} {y : CExit × Env × qr} (h : it1 f s e σ = some (.inl (e', σ'))) (k : itB f s e' σ' = some y) : itB f s e σ = some y := by
  rw [qx4, h]; exact k
theorem qow {f : Env → qr → R3} {s : Env → qr → Option (Env × qr)} {e : Env} {σ : qr} {y : CExit × Env × qr} (h : it1 f s e σ = some (.inr y)) : itB f s e σ = some y := by
  rw [qx4, h]; rfl
end Go.Ev
namespace Go.Ev
theorem q2o : qpk [] [] = true := by simp only [qpk]
theorem qzx (a b : List AV) (as bs : List (List AV)) : qpk (a :: as) (b :: bs) = (q08 a b && qpk as bs) := by simp only [qpk]
theorem qsu : q08 [] [] = true := by simp only [q08]
theorem qqf (a b : AV) (as bs : List AV) : q08 (a :: as) (b :: bs) = (a.eqB b && q08 as bs) := by simp only [q08]
theorem q06 (k k' : IntKind) (n n' : Int) : (AV.v (.int k n)).eqB (.v (.int k' n')) = (decide (k = k') && decide (n = n')) := by simp only [AV.eqB, q6p]
theorem q4l (a b : Bool) : (AV.v (.bool a)).eqB (.v (.bool b)) = (a == b) := by simp only [AV.eqB, q6p]
theorem q0u (a b : List (List AV)) (c d : Bool) : (AV.fsl a c).eqB (.fsl b d) = (qpk a b && c == d) := by simp only [AV.eqB]
theorem eqB_sl (o g off len o' g' off' len' : Nat) (c c' : Bool) : (AV.sl o g off len c).eqB (.sl o' g' off' len' c') = (o == o' && (g == g' && (off == off' && (len == len' && c == c')))) := by simp only [AV.eqB]
theorem qqd {α : Type} {c : α → List AV} (h : ∀ x, q08 (c x) (c x) = true) : ∀ l : List α, qpk (l.map c) (l.map c) = true
  | [] => q2o
  | x :: l => by rw [List.map_cons, qzx, h x, qqd h l]; rfl
end Go.Ev
