/- Part of the proofs about this seat's program (module EvT). -/
import Derived.Test.YtbkabnhkclbepaaEvS
import Derived.RangeFuncNested
set_option linter.unusedSectionVars false
set_option linter.unusedSimpArgs false
set_option linter.unusedVariables false
namespace Go.Ev
open Go.RowKit (Below)
variable {P : Program} {Γ Γ' : Ctx} {w w' : World} {σ σ' : Store} {e e' : Env} {a a' : Act} {av : AV} {N : Nat}

theorem put_ok (s : SR P Γ σ w) {o : Nat} {ob : SObj} {x : Obj} (ho : o < Γ.n) (hc : (Γ.loc o).ct ≠ 0)
    (hob : ∀ Γ', Γ'.loc o = Γ.loc o → Ext Γ Γ' w (w.putObj (Γ.loc o).b x) → OR P Γ' (w.putObj (Γ.loc o).b x) o ob) :
    ∃ Γ', SR P Γ' (σ.set o ob) (w.putObj (Γ.loc o).b x) ∧ Ext Γ Γ' w (w.putObj (Γ.loc o).b x) := by
  have hlt := s.ownlt _ (s.blk o ho hc)
  have hsize : w.heap.size ≤ (w.putObj (Γ.loc o).b x).heap.size := by simp [World.putObj]
  have hsame : ∀ b, b < w.heap.size → (b = (Γ.loc o).b ∧ (Γ.loc o).ct ≠ 0) ∨ (w.putObj (Γ.loc o).b x).heap[b]? = w.heap[b]? := fun b _ => by
    by_cases hb : b = (Γ.loc o).b
    · exact .inl ⟨hb, hc⟩
    · exact .inr (World.putObj_heap_other hb)
  have hl : (Γ.loc o).ct ≠ 0 → ((Γ.loc o).b = (Γ.loc o).b ∧ (Γ.loc o).ct ≠ 0 ∨ w.heap.size ≤ (Γ.loc o).b) ∧ (Γ.loc o).b < (w.putObj (Γ.loc o).b x).heap.size := fun _ => ⟨.inl ⟨rfl, hc⟩, Nat.lt_of_lt_of_le hlt hsize⟩
  have hx := Ext.upd s ho (l := Γ.loc o) (.inl rfl) hsize hsame hl rfl rfl rfl
  exact ⟨_, SR.upd s ho (l := Γ.loc o) (.inl rfl) hsize hsame hl rfl rfl rfl (hob _ (Γ.upd_same o _) hx), hx⟩

theorem same_loc (x : Ext Γ Γ' w w') {o : Nat} (ho : o < Γ.n) (hg : (Γ'.loc o).g = 0) : Γ'.loc o = Γ.loc o := by
  rcases x.loc o ho with h | h
  · exact h
  · omega

theorem range_ok {O : Orc} (hO : CallOk P O) (hE : EntOk P O) {l : Option Nat} {k : Nat} {first cap : List AV} {e1 e' : Env} {σ0 σ' : Store} {lp : SObj} {x : CExit} {Γ1 : Ctx} {w1 : World} {a1 : Act}
    (h : rangeIn O k first cap e1 σ0 lp = some (x, e', σ')) (ha : AR P Γ1 N e1 (σ0 ++ [lp]) a1 w1) {fs cs : List Value} (hf : VRs Γ1 w1 first fs) (hc : VRs Γ1 w1 cap cs) :
    (callFunc k (fs ++ (.func (.yield (Γ1.loc σ0.length).b) #[] #[] :: cs)).toArray).run P w1 = .ok (.enter k (fs ++ (.func (.yield (Γ1.loc σ0.length).b) #[] #[] :: cs)).toArray) w1 ∧
    CallsIn (FR l) 0 P k (fs ++ (.func (.yield (Γ1.loc σ0.length).b) #[] #[] :: cs)).toArray w1 (rangePost (FR l) 0 P (Γ1.loc σ0.length).b (PostOk P Γ1 w1 N x e' σ') a1) := by
  unfold rangeIn at h
  split at h
  · rename_i hent
    rw [Option.bind_eq_some_iff] at h
    obtain ⟨⟨r, σ2⟩, hcall, h⟩ := h
    have hlo : σ0.length < Γ1.n := by rw [← ha.sr.len]; simp
    have hvs : VRs Γ1 w1 (first ++ (.yld σ0.length :: cap)) (fs ++ (.func (.yield (Γ1.loc σ0.length).b) #[] #[] :: cs)) := hf.append (by
      simp only [VRs]
      exact ⟨_, cs, rfl, by simp only [VR]; exact ⟨_, rfl, hlo, fun _ => rfl⟩, hc⟩)
    have hrun := hE k hent _ _ _ hcall (fs ++ (.func (.yield (Γ1.loc σ0.length).b) #[] #[] :: cs)).toArray w1
    have hn := hO k _ _ _ _ hcall Γ1 w1 _ ha.sr hvs
    rw [hrun] at hn
    refine ⟨hrun, CallsIn.mono (F := FR l) hn ?_⟩
    intro en w3 hb
    cases en with
    | panicked _ => exact hb.elim
    | outgrown => exact hb.elim
    | returned v =>
      obtain ⟨Γ2, _, s2, x2⟩ := hb
      simp only at h
      split at h
      · rename_i e2 ps as' body' st pend hob
        split at h
        · rename_i hst
          have hO2 := s2.obj _ _ hob
          have hO2' := hO2
          simp only [OR] at hO2
          obtain ⟨k1, k2, rec, k3, k4, k5, k6, k7, k8, k9, k10⟩ := hO2
          have hloc := same_loc x2 hlo k1
          obtain ⟨Γ3, s3, x3⟩ := put_ok s2 (o := σ0.length) (ob := .loop e2 ps as' body' .exhausted pend) (x := .loop { rec with state := .exhausted }) (Nat.lt_of_lt_of_le hlo x2.n) k2 (by
            intro Γ3 hl3 x3
            simp only [OR]
            rw [hl3]
            exact ⟨k1, k2, _, World.putObj_heap_same (Array.getElem?_eq_some_iff.1 k3).1, rfl, k5, k6, k7, k8, fun t av ht => VR.mono x3 _ _ (k9 t av ht), k10⟩)
          rw [hloc] at k3 s3 x3
          have hend := run_endLoop (P := P) k3 (by rw [k4]; exact hst)
          have ha3 : AR P Γ3 N e1 (σ2.set σ0.length (.loop e2 ps as' body' .exhausted pend)) a1 (w3.putObj (Γ1.loc σ0.length).b (.loop { rec with state := .exhausted })) :=
            ⟨ha.ve.mono (x2.trans x3), s3, ha.sz, ha.mr.mono (x2.trans x3)⟩
          generalize w3.putObj (Γ1.loc σ0.length).b (.loop { rec with state := .exhausted }) = w4 at hend ha3 x3 s3
          rw [k5] at hend
          refine ⟨_, _, hend, ?_⟩
          cases pend with
          | none => cases h; exact ⟨rfl, Γ3, x2.trans x3, ha3⟩
          | some p =>
            cases p with
            | none => cases h; exact wpIn_ret ⟨rfl, Γ3, x2.trans x3, ha3⟩
            | some id => cases h; exact wpIn_exit ⟨rfl, Γ3, x2.trans x3, ha3⟩
        · cases h
      · cases h
  · cases h

theorem resolve_range {g : Operand} {k l : Nat} {fs cs : List Value} (hg : a.eval g = .func (.func k) fs.toArray cs.toArray) :
    (resolve a.eval (rangeCall g l) 0).run P w = .ok { target := .fn (.func k) cs.toArray, args := fs.toArray ++ #[.func (.yield l) #[] #[]] } w := by
  have h1 : Array.map a.eval #[Operand.const (.func (.yield l) #[] #[])] = #[.func (.yield l) #[] #[]] := by simp [Act.eval]
  simp only [resolve, hg, Deferred.ofValue, Sem.run_pure, h1]
theorem loop_push (s : SR P Γ σ w) {r : Loop} {e : Env} {ps : List Nat} {as body : CCode} (h1 : r.state = .ready) (h2 : r.pending = none) (h3 : r.params = ps.toArray) (h4 : CR P r.tmps.size r.assign as) (h5 : CR P r.tmps.size r.body body)
    (h6 : VarsR Γ w e.vars r.tmps) (h7 : ∀ p ∈ ps, p < r.tmps.size) :
    SR P (Γ.push ⟨0, w.heap.size, 1, 1⟩) (σ ++ [.loop e ps as body .ready none]) (w.alloc (.loop r)) ∧ Ext Γ (Γ.push ⟨0, w.heap.size, 1, 1⟩) w (w.alloc (.loop r)) := by
  have x := Ext.push (Γ := Γ) (below_alloc w (.loop r)) ⟨0, w.heap.size, 1, 1⟩ fun _ => Nat.le_refl _
  refine ⟨s.push (below_alloc w (.loop r)) _ (fun _ => ⟨Nat.le_refl _, by simp⟩) ?_, x⟩
  simp only [OR, Ctx.push_new]
  exact ⟨trivial, by simp, r, alloc_new w _, h1, by rw [h2]; rfl, h3, h4, h5, fun t av ht => VR.mono x _ _ (h6 t av ht), h7⟩
theorem defr_push (s : SR P Γ σ w) :
    SR P (Γ.push ⟨0, w.heap.size, 1, 1⟩) (σ ++ [.defr]) (w.alloc (.deferred (some []))) ∧ Ext Γ (Γ.push ⟨0, w.heap.size, 1, 1⟩) w (w.alloc (.deferred (some []))) := by
  have x := Ext.push (Γ := Γ) (below_alloc w (.deferred (some []))) ⟨0, w.heap.size, 1, 1⟩ fun _ => Nat.le_refl _
  refine ⟨s.push (below_alloc w (.deferred (some []))) _ (fun _ => ⟨Nat.le_refl _, by simp⟩) ?_, x⟩
  simp only [OR, Ctx.push_new]
  exact ⟨trivial, by simp, alloc_new w _⟩

theorem stepR_scope {b : Frame} {a : Act} {k : List Item} {cs : List Frame} {c : Code} : step P (lone (b.atR a (.code (.scope c) :: k)) cs w) = .next (lone (b.atR a (.code c :: .inScope c :: k)) cs w) :=
  step_lone_go (by simp [stepG, stepG.exec, Frame.atR])
theorem stepR_inScope {b : Frame} {a : Act} {k : List Item} {cs : List Frame} {c : Code} : step P (lone (b.atR a (.inScope c :: k)) cs w) = .next (lone (b.atR a k) cs w) :=
  step_lone_go (by simp [stepG, stepG.exec, Frame.atR])
theorem wpIn_scope {F : Fence} {n : Nat} {Q : Exit → Act → World → Prop} {a : Act} {c : Code} (h : c.wpIn F n P Q a w) (hg : ∀ l a w, ¬ Q (.goto l) a w) : (Code.scope c).wpIn F n P Q a w := by
  intro b k cs hro hb hr
  have h0 : (lone (b.atR a (.code (.scope c) :: k)) cs w).fenced P F := fenced_calm hb hr rfl
  obtain ⟨e, a₁, w₁, hq, harr⟩ := h b (.inScope c :: k) cs hro hb hr
  cases e with
  | normal => exact ⟨.normal, a₁, w₁, hq, .head h0 stepR_scope (StepsIn.trans harr (.one (fenced_calm hb hr rfl) stepR_inScope))⟩
  | exit id =>
    have hx : exitTo id (.inScope c :: k) = exitTo id k := by simp [exitTo]
    exact ⟨.exit id, a₁, w₁, hq, fun k' hk => .head h0 stepR_scope (harr.1 k' (by rw [hx]; exact hk)),
      fun hr' hk => let ⟨k₁, h1, h2⟩ := harr.2 hr' (by rw [hx]; exact hk); ⟨k₁, h1, .head h0 stepR_scope h2⟩⟩
  | goto l => exact (hg _ _ _ hq).elim
  | ret => exact ⟨_, a₁, w₁, hq, .of_steps (.one h0 stepR_scope) harr⟩
  | panic ch => exact ⟨_, a₁, w₁, hq, .of_steps (.one h0 stepR_scope) harr⟩
  | outgrown => exact ⟨_, a₁, w₁, hq, .of_steps (.one h0 stepR_scope) harr⟩

/-- **CODE.** -/
theorem exec_ok {O : Orc} {I : Iter} (hO : CallOk P O) (hR : RoundOk P O) (hE : EntOk P O) (hI : IterOk I) (hm : P.follows .mixedOrders = true) {h : Hints} : ∀ (c : Code) {i j : Nat} {cc : CCode}, cCode P h N c i = some (cc, j) → ExecOk P O I N c cc := by
  intro c
  induction c with
  | skip =>
    intro i j cc hc ro l e σ Γ a w x e' σ' he ha hro
    simp only [cCode] at hc
    cases hc
    simp only [exec] at he
    cases he
    exact wpIn_skip ⟨rfl, Γ, Ext.refl _ _, ha⟩
  | region id ops draw =>
    intro i j cc hc ro l e σ Γ a w x e' σ' he ha hro
    obtain ⟨cs, rfl, hw⟩ := region_wp (N := N) hO hR hm (h := h) hc
    simp only [exec, Option.bind_eq_some_iff] at he
    obtain ⟨⟨e1, σ1⟩, h1, he⟩ := he
    cases he
    exact hw h1 ha fun Γ' a' w' x1 ha' => ⟨rfl, Γ', x1, ha'⟩
  | seq p q ihp ihq =>
    intro i j cc hc ro l e σ Γ a w x e' σ' he ha hro
    simp only [cCode, Option.bind_eq_some_iff] at hc
    obtain ⟨⟨p', i1⟩, h1, ⟨q', i2⟩, h2, hc⟩ := hc
    cases hc
    simp only [exec, Option.bind_eq_some_iff] at he
    obtain ⟨⟨y, e1, σ1⟩, h3, he⟩ := he
    refine wpIn_seq (wpIn_mono (ihp h1 h3 ha hro) ?_)
    rintro ex a1 w1 ⟨rfl, Γ1, x1, ha1⟩
    cases y with
    | normal => exact wpIn_mono (ihq h2 he ha1 (hro.mono x1)) fun ex a2 w2 hp => hp.of_ext x1
    | exit id => cases he; exact ⟨rfl, Γ1, x1, ha1⟩
    | ret => cases he; exact ⟨rfl, Γ1, x1, ha1⟩
  | cond t p q ihp ihq =>
    intro i j cc hc ro l e σ Γ a w x e' σ' he ha hro
    simp only [cCode, Option.bind_eq_some_iff] at hc
    obtain ⟨t', h0, ⟨p', i1⟩, h1, ⟨q', i2⟩, h2, hc⟩ := hc
    cases hc
    simp only [exec, Option.bind_eq_some_iff] at he
    obtain ⟨b, h3, he⟩ := he
    split at he
    · rename_i b
      have hb := opnd_ok h0 h3 ha.ve
      simp only [VR] at hb
      refine wpIn_cond hb ?_
      split at he
      · rename_i hbt; rw [if_pos hbt]; exact ihp h1 he ha hro
      · rename_i hbt; rw [if_neg hbt]; exact ihq h2 he ha hro
    · cases he
  | block id p ihp =>
    intro i j cc hc ro l e σ Γ a w x e' σ' he ha hro
    simp only [cCode, Option.bind_eq_some_iff] at hc
    obtain ⟨⟨p', i1⟩, h1, hc⟩ := hc
    cases hc
    simp only [exec, Option.bind_eq_some_iff] at he
    obtain ⟨⟨y, e1, σ1⟩, h3, he⟩ := he
    refine wpIn_block (wpIn_mono (ihp h1 h3 ha hro) ?_)
    rintro ex a1 w1 ⟨rfl, Γ1, x1, ha1⟩
    cases y with
    | normal => cases he; exact ⟨rfl, Γ1, x1, ha1⟩
    | exit id' =>
      simp only [CExit.ex, Exit.inBlock]
      simp only at he
      split at he
      · rename_i hid; rw [if_pos hid]; cases he; exact ⟨rfl, Γ1, x1, ha1⟩
      · rename_i hid; rw [if_neg hid]; cases he; exact ⟨rfl, Γ1, x1, ha1⟩
    | ret => cases he; exact ⟨rfl, Γ1, x1, ha1⟩
  | loop p ihp =>
    intro i j cc hc ro l e σ Γ a w x e' σ' he ha hro
    simp only [cCode, Option.bind_eq_some_iff] at hc
    obtain ⟨⟨live, trim⟩, h0, ⟨p', i1⟩, h1, hc⟩ := hc
    cases hc
    simp only [exec] at he
    have hu := hI _ _ _ _ _ he
    rw [ha.sr.len] at hu
    intro b k cs hb hF hroom
    obtain ⟨ex, a', w', hq, harr⟩ := loop_ok (ihp h1) hro hu (Ext.refl _ _) ha b k cs hb
    exact ⟨ex, a', w', hq, .of_steps (.one (fenced_calm hF hroom rfl) stepR_loop) harr⟩
  | scope p ihp =>
    intro i j cc hc ro l e σ Γ a w x e' σ' he ha hro
    simp only [cCode] at hc
    exact wpIn_scope (ihp hc he ha hro) fun l a w hq => by
      obtain ⟨hx, _⟩ := hq
      cases x <;> cases hx
  | label l0 =>
    intro i j cc hc ro l e σ Γ a w x e' σ' he ha hro
    simp only [cCode] at hc
    cases hc
    simp only [exec] at he
    cases he
    exact wpIn_label ⟨rfl, Γ, Ext.refl _ _, ha⟩
  | exit id =>
    intro i j cc hc ro l e σ Γ a w x e' σ' he ha hro
    simp only [cCode] at hc
    cases hc
    simp only [exec] at he
    cases he
    exact wpIn_exit ⟨rfl, Γ, Ext.refl _ _, ha⟩
  | ret =>
    intro i j cc hc ro l e σ Γ a w x e' σ' he ha hro
    simp only [cCode] at hc
    cases hc
    simp only [exec] at he
    cases he
    exact wpIn_ret ⟨rfl, Γ, Ext.refl _ _, ha⟩
  | rangeFunc g ps as body _ _ =>
    intro i j cc hc ro l e σ Γ a w x e' σ' he ha hro
    simp only [cCode] at hc
    split at hc
    · rename_i hps
      simp only [Option.bind_eq_some_iff] at hc
      obtain ⟨⟨live, tr⟩, h0, g', h1, ⟨as', i1⟩, h2, ⟨body', i2⟩, h3, hc⟩ := hc
      cases hc
      simp only [exec, Option.bind_eq_some_iff] at he
      obtain ⟨f, h4, he⟩ := he
      split at he
      · rename_i k first cap
        have hf := opnd_ok h1 h4 ha.ve
        simp only [VR] at hf
        obtain ⟨fs, cs, h5, h6, h7⟩ := hf
        have hpsz : ∀ p ∈ ps.toList, p < a.tmps.size := by
          rw [ha.sz]
          exact fun p hp => of_decide_eq_true (List.all_eq_true.1 hps p hp)
        have hCa : CR P a.tmps.size as as' := ⟨h, _, _, by rw [ha.sz]; exact h2⟩
        have hCb : CR P a.tmps.size body body' := ⟨h, _, _, by rw [ha.sz]; exact h3⟩
        have fin : ∀ {Γ1 : Ctx} {w1 : World} {a1 : Act} {σ0 : Store} {lp : SObj} {e1 : Env}, rangeIn O k first cap e1 σ0 lp = some (x, e', σ') → AR P Γ1 N e1 (σ0 ++ [lp]) a1 w1 → Ext Γ Γ1 w w1 → a1.tmps = a.tmps →
            ∃ d f args, (resolve a.eval (rangeCall g (Γ1.loc σ0.length).b) 0).run P w1 = .ok d w1 ∧ (∀ f', Target.leads P w1 d.target d.args = some f' → (FR l).fn f') ∧ (invoke d.target d.args).run P w1 = .ok (.enter f args) w1 ∧
              CallsIn (FR l) 0 P f args w1 (rangePost (FR l) 0 P (Γ1.loc σ0.length).b (PostOk P Γ w N x e' σ') a1) := by
          intro Γ1 w1 a1 σ0 lp e1 hr ha1 x1 htm
          obtain ⟨k1, k2⟩ := range_ok (l := l) hO hE hr ha1 (VRs.mono x1 _ _ h6) (VRs.mono x1 _ _ h7)
          refine ⟨_, k, _, resolve_range h5, fun _ _ => trivial, ?_, CallsIn.mono k2 ?_⟩
          · have harr : fs.toArray ++ #[.func (.yield (Γ1.loc σ0.length).b) #[] #[]] ++ cs.toArray = (fs ++ (.func (.yield (Γ1.loc σ0.length).b) #[] #[] :: cs)).toArray := by
              apply Array.toList_inj.1; simp
            simp only [invoke, harr]
            exact k1
          · intro en w3 hp
            cases en with
            | panicked _ => exact absurd hp.1 (by cases x <;> simp [CExit.ex])
            | outgrown => obtain ⟨_, _, hp⟩ := hp; exact absurd hp.1 (by cases x <;> simp [CExit.ex])
            | returned v =>
              obtain ⟨jump, w4, k3, k4⟩ := hp
              refine ⟨jump, w4, k3, ?_⟩
              cases jump with
              | none => exact k4.of_ext x1
              | some c => exact wpIn_mono k4 fun ex a2 w2 hp => hp.of_ext x1
        refine wpIn_rangeFunc fun fn hfn => ?_
        cases ro with
        | none =>
          cases l with
          | some _ => exact hro.elim
          | none =>
            obtain ⟨sA, xA⟩ := defr_push ha.sr
            obtain ⟨sB, xB⟩ := loop_push sA (r := { state := .ready, pending := none, fn, tmps := a.tmps, params := ps, assign := as, body, defers := w.heap.size }) (e := ⟨keep e live, []⟩) (ps := ps.toList) (as := as') (body := body')
              rfl rfl (by simp) hCa hCb (fun t av ht => VR.mono xA _ _ (ha.ve t av (look_keep e ht))) hpsz
            have hlen : (σ ++ [SObj.defr]).length = (Γ.push ⟨0, w.heap.size, 1, 1⟩).n := sA.len
            have hb : (((Γ.push ⟨0, w.heap.size, 1, 1⟩).push ⟨0, (w.alloc (.deferred (some []))).heap.size, 1, 1⟩).loc (σ ++ [SObj.defr]).length).b = w.heap.size + 1 := by
              rw [hlen, Ctx.push_new]; simp
            obtain ⟨d, f, args, k1, k2, k3, k4⟩ := fin he (a1 := { a with defers := [{ target := .collected w.heap.size, args := #[] }] ++ a.defers })
              ⟨fun t av ht => VR.mono (xA.trans xB) _ _ (ha.ve t av ht), sB, ha.sz, by
                simp only [List.singleton_append, MR]
                refine ⟨_, _, rfl, by rw [ha.sr.len]; simp [Ctx.push]; omega, fun _ => ?_, ha.mr.mono (xA.trans xB)⟩
                rw [ha.sr.len, Ctx.push_old _ _ (by simp [Ctx.push]), Ctx.push_new]⟩ (xA.trans xB) rfl
            rw [hb] at k1 k4
            exact ⟨_, _, _, d, _, f, args, _, run_enterLoop_outer fn a.tmps ps as body, k1, k2, k3, fun hd => by simp [Fence.wide] at hd, k4⟩
        | some o =>
          cases l with
          | none => exact hro.elim
          | some l =>
            simp only at he
            split at he
            · rename_i ob0 env0 ps0 as0 body0 st0 pend0 hob
              have hO0 := ha.sr.obj _ _ hob
              simp only [OR] at hO0
              obtain ⟨k1, k2, rec, k3, _⟩ := hO0
              have hl : l = (Γ.loc o).b := hro.2 k1
              obtain ⟨sB, xB⟩ := loop_push ha.sr (r := { state := .ready, pending := none, fn, tmps := a.tmps, params := ps, assign := as, body, defers := rec.defers }) (e := ⟨keep e live, []⟩) (ps := ps.toList) (as := as') (body := body')
                rfl rfl (by simp) hCa hCb (fun t av ht => ha.ve t av (look_keep e ht)) hpsz
              have hb : ((Γ.push ⟨0, w.heap.size, 1, 1⟩).loc σ.length).b = w.heap.size := by
                rw [ha.sr.len, Ctx.push_new]
              obtain ⟨d, f, args, m1, m2, m3, m4⟩ := fin he (a1 := a) ⟨fun t av ht => VR.mono xB _ _ (ha.ve t av ht), sB, ha.sz, ha.mr.mono xB⟩ xB rfl
              rw [hb] at m1 m4
              exact ⟨_, [], _, d, _, f, args, _, run_enterLoop_inner (by rw [hl]; exact k3) fn a.tmps ps as body, m1, m2, m3, fun hd => by simp [Fence.wide] at hd, m4⟩
            · cases he
      · cases he
    · cases hc
  | _ => intro i j cc hc; simp [cCode] at hc
end Go.Ev
