/- Part of the proofs about this seat's program (module EvO). -/
import Derived.Test.YtbkabnhkclbepaaEvN
import Derived.RangeFuncLeaves
set_option linter.unusedSectionVars false
set_option linter.unusedSimpArgs false
set_option linter.unusedVariables false
namespace Go.Ev
open Go.RowKit (Below)
variable {P : Program} {Γ Γ' : Ctx} {w w' : World} {σ σ' : Store} {e : Env} {a : Act} {av : AV}

/-! ### What is handed back -/
abbrev FR (ro : Option Nat) : Fence := { Fence.wide with round := ro }
def Got (P : Program) (Γ : Ctx) (w : World) (r : AV) (σ' : Store) (v : Value) (w' : World) : Prop := ∃ Γ', VR Γ' w' r v ∧ SR P Γ' σ' w' ∧ Ext Γ Γ' w w'
def Back (G : Value → World → Prop) : Ending → World → Prop
  | .returned v, w' => G v w'
  | _, _ => False
def NextOk (P : Program) (G : Value → World → Prop) : Result Next → Prop
  | .ok (.value v) w' => G v w'
  | .ok .skip w' => G undef w'
  | .ok (.enter f args) w' => CallsIn Fence.wide 0 P f args w' (Back G)
  | .ok (.round l f tmps as body) w' => RoundIn Fence.wide 0 P l f tmps as body w' (Back G)
  | _ => False
theorem Back.mono {G G' : Value → World → Prop} (h : ∀ v w, G v w → G' v w) : ∀ e w, Back G e w → Back G' e w
  | .returned v, w, k => h v w k
  | .panicked _, _, k => k
  | .outgrown, _, k => k
theorem NextOk.mono {G G' : Value → World → Prop} (h : ∀ v w, G v w → G' v w) {r : Result Next} (k : NextOk P G r) : NextOk P G' r := by
  cases r with
  | ok nx w =>
    cases nx <;> simp only [NextOk] at k ⊢
    · exact h _ _ k
    · exact h _ _ k
    · exact CallsIn.mono k (Back.mono h)
    · exact RoundIn.mono k (Back.mono h)
  | halt _ _ => exact k
theorem OpOk.next {res : Result Next} (h : OpOk P Γ w res av σ') : NextOk P (Got P Γ w av σ') res := by
  obtain ⟨nx, v, w', Γ', rfl, h2 | h2, h3, h4, h5⟩ := h
  · subst h2; exact ⟨Γ', h3, h4, h5⟩
  · obtain ⟨rfl, rfl⟩ := h2; exact ⟨Γ', h3, h4, h5⟩

def CallOk (P : Program) (O : Orc) : Prop := ∀ k args σ r σ', O.call k args σ = some (r, σ') → ∀ Γ w vs, SR P Γ σ w → VRs Γ w args vs → NextOk P (Got P Γ w r σ') ((callFunc k vs.toArray).run P w)
def RoundOk (P : Program) (O : Orc) : Prop := ∀ l args σ r σ', O.round l args σ = some (r, σ') → ∀ Γ w b vs, SR P Γ σ w → VRs Γ w args vs → l < Γ.n → ((Γ.loc l).g = 0 → b = (Γ.loc l).b) → NextOk P (Got P Γ w r σ') ((Instr.yield b vs.toArray).run P w)

/-! ### Rows mapped -/
theorem omap_length {α β : Type} {f : α → Option β} : ∀ {as : List α} {bs : List β}, omap f as = some bs → bs.length = as.length
  | [], bs, h => by simp only [omap] at h; cases h; rfl
  | a :: as, bs, h => by
    simp only [omap, Option.bind_eq_some_iff] at h
    obtain ⟨b, _, bs', h2, h⟩ := h
    cases h
    simp [omap_length h2]
theorem omap_append {α β : Type} {f : α → Option β} : ∀ {as as' : List α} {bs bs' : List β}, omap f as = some bs → omap f as' = some bs' → omap f (as ++ as') = some (bs ++ bs')
  | [], as', bs, bs', h, k => by simp only [omap] at h; cases h; exact k
  | a :: as, as', bs, bs', h, k => by
    simp only [omap, Option.bind_eq_some_iff] at h
    obtain ⟨b, h1, bs1, h2, h⟩ := h
    cases h
    simp only [List.cons_append, omap, h1, omap_append h2 k, Option.bind_some]
theorem omap_get {α β : Type} {f : α → Option β} : ∀ {as : List α} {bs : List β}, omap f as = some bs → ∀ {i : Nat} {a : α}, as[i]? = some a → ∃ b, bs[i]? = some b ∧ f a = some b
  | [], bs, h, i, a, hi => by simp at hi
  | x :: as, bs, h, i, a, hi => by
    simp only [omap, Option.bind_eq_some_iff] at h
    obtain ⟨b, h1, bs1, h2, h⟩ := h
    cases h
    cases i with
    | zero => simp at hi; subst hi; exact ⟨b, by simp, h1⟩
    | succ i => simpa using omap_get h2 (i := i) (a := a) (by simpa using hi)
theorem omap_flat {f : AV → Option AV} : ∀ {es fs : List (List AV)}, omap (omap f) es = some fs → omap f es.flatten = some fs.flatten
  | [], fs, h => by simp only [omap] at h; cases h; rfl
  | x :: es, fs, h => by
    simp only [omap, Option.bind_eq_some_iff] at h
    obtain ⟨b, h1, bs1, h2, h⟩ := h
    cases h
    simp only [List.flatten_cons]
    exact omap_append h1 (omap_flat h2)
theorem omap_lens {f : AV → Option AV} {sz : Nat} : ∀ {es fs : List (List AV)}, omap (omap f) es = some fs → (∀ e ∈ es, e.length = sz) → ∀ e ∈ fs, e.length = sz
  | [], fs, h, _ => by simp only [omap] at h; cases h; simp
  | x :: es, fs, h, k => by
    simp only [omap, Option.bind_eq_some_iff] at h
    obtain ⟨b, h1, bs1, h2, h⟩ := h
    cases h
    intro y hy
    rcases List.mem_cons.1 hy with rfl | hy
    · rw [omap_length h1]; exact k x (by simp)
    · exact omap_lens h2 (tl k) y hy
theorem omap_VRs {f : AV → Option AV} (hf : ∀ a v r, f a = some r → VR Γ w a v → VR Γ' w r v) : ∀ {as bs : List AV} {vs : List Value}, omap f as = some bs → VRs Γ w as vs → VRs Γ' w bs vs
  | [], bs, vs, h, k => by simp only [omap] at h; cases h; simpa only [VRs] using k
  | x :: as, bs, vs, h, k => by
    simp only [omap, Option.bind_eq_some_iff] at h
    obtain ⟨b, h1, bs1, h2, h⟩ := h
    cases h
    simp only [VRs] at k ⊢
    obtain ⟨u, us, rfl, h3, h4⟩ := k
    exact ⟨u, us, rfl, hf _ _ _ h1 h3, omap_VRs hf h2 h4⟩
theorem omap_VRcells {f : AV → Option AV} (hf : ∀ a v r, f a = some r → VR Γ w a v → VR Γ' w r v) {as bs : List AV} {get : Nat → Option Value} (h : omap f as = some bs) (k : VRcells Γ w as get) : VRcells Γ' w bs get := by
  obtain ⟨vs, h1, h2⟩ := k.list
  exact VRcells.of_list (omap_VRs hf h h1) h2

/-- **WHAT IS FROZEN IS READ THE SAME, WHEREVER THE MAKER'S BLOCKS ARE NOBODY'S.** -/
theorem frz_ok (s : SR P Γ σ w) (hc : ∀ b, Γ'.own b ∨ Γ'.far b → Γ.far b ∧ ¬ Γ.own b) : ∀ d a v r, frz σ d a = some r → VR Γ w a v → VR Γ' w r v := by
  have low : ∀ a v, a.lo 0 = true → VR Γ w a v → VR Γ' w a v := fun a v hl hv => VR.weaken (fun b hb => .inr (hc b hb).1) 0 (Nat.zero_le _) (fun o ho => absurd ho (Nat.not_lt_zero _)) a v hl hv
  have okb : ∀ b, Γ.okB w b → Γ'.okB w b := fun b hb => ⟨hb.1, fun h => hb.2.2 (hc b (.inl h)).1, fun h => hb.2.2 (hc b (.inr h)).1⟩
  have own : ∀ b, Γ.own b → Γ'.okB w b := fun b hb => ⟨s.ownlt b hb, fun h => (hc b (.inl h)).2 hb, fun h => (hc b (.inr h)).2 hb⟩
  intro d
  induction d with
  | zero =>
    intro a v r h hv
    simp only [frz] at h
    split at h
    · cases h; exact low _ _ ‹_› hv
    · cases h
  | succ d ih =>
    intro a v r h hv
    simp only [frz] at h
    split at h
    · cases h; exact low _ _ ‹_› hv
    · cases a with
      | v x => cases h; simpa only [VR] using hv
      | agg cs =>
        simp only [Option.bind_eq_some_iff] at h
        obtain ⟨cs', h1, h⟩ := h
        cases h
        simp only [VR] at hv ⊢
        obtain ⟨vs, rfl, h2⟩ := hv
        exact ⟨vs, rfl, omap_VRs ih h1 h2⟩
      | tup cs =>
        simp only [Option.bind_eq_some_iff] at h
        obtain ⟨cs', h1, h⟩ := h
        cases h
        simp only [VR] at hv ⊢
        obtain ⟨vs, rfl, h2⟩ := hv
        exact ⟨vs, rfl, omap_VRs ih h1 h2⟩
      | fsl es c =>
        simp only [Option.bind_eq_some_iff] at h
        obtain ⟨es', h1, h⟩ := h
        cases h
        simp only [VR] at hv ⊢
        obtain ⟨A, c', rfl, h2, h3, h4⟩ := hv
        have hl := omap_length h1
        refine ⟨A, c', by rw [hl], by omega, fun hx => by rw [h3 hx, hl], ?_⟩
        rcases h4 with h4 | ⟨b, off, sz, rfl, h5, h6, h7, h8⟩
        · subst h4; exact .inl (List.eq_nil_of_length_eq_zero (by simpa using hl))
        · exact .inr ⟨b, off, sz, rfl, okb b h5, h6, omap_lens h1 h7, (VRrows_iff (omap_lens h1 h7)).2 (omap_VRcells ih (omap_flat h1) ((VRrows_iff h7).1 h8))⟩
      | fptr cs =>
        simp only [Option.bind_eq_some_iff] at h
        obtain ⟨cs', h1, h⟩ := h
        cases h
        simp only [VR] at hv ⊢
        obtain ⟨b, off, rfl, h5, h6⟩ := hv
        exact ⟨b, off, rfl, okb b h5, omap_VRcells ih h1 h6⟩
      | sl o g off len c =>
        simp only at h
        split at h
        · rename_i sz es g' ho
          split at h
          · rename_i hg
            obtain ⟨rfl, hle⟩ := hg
            rw [Option.bind_eq_some_iff] at h
            obtain ⟨es', h1, h⟩ := h
            cases h
            have hO := s.obj o _ ho
            simp only [OR] at hO
            have hn : ((es.drop off).take len).length = len := by simp; omega
            have hl := (omap_length h1).trans hn
            by_cases hpos : 0 < len
            · obtain ⟨cap, h2, h3, _, h4, h5⟩ := sl_cells s hv ho hle hpos
              have hlens : ∀ x ∈ (es.drop off).take len, x.length = sz := fun x hx => hO.2.2.2.2.1 x (List.mem_of_mem_drop (List.mem_of_mem_take hx))
              simp only [VR]
              refine ⟨_, cap, by rw [h2, hl], by omega, fun hx => (by cases hx), .inr ⟨_, _, sz, rfl, own _ (s.blk o (by rw [← s.len]; exact (List.getElem?_eq_some_iff.1 ho).1) (by omega)), hO.2.2.1, omap_lens h1 hlens,
                (VRrows_iff (omap_lens h1 hlens)).2 (omap_VRcells ih (omap_flat h1) h5)⟩⟩
            · obtain rfl : len = 0 := by omega
              have : es' = [] := List.eq_nil_of_length_eq_zero hl
              subst this
              simp only [VR] at hv ⊢
              obtain ⟨A, cap, rfl, _⟩ := hv
              exact ⟨A, cap, rfl, by simp, fun hx => (by cases hx), .inl trivial⟩
          · cases h
        · cases h
      | ptr o g i off =>
        simp only at h
        split at h
        · rename_i sz es g' ho
          split at h
          · rename_i hg
            subst hg
            rw [Option.bind_eq_some_iff] at h
            obtain ⟨c, hi, h⟩ := h
            rw [Option.bind_eq_some_iff] at h
            obtain ⟨cs', h1, h⟩ := h
            cases h
            have hcs : cellsAt σ (.ptr o g i off) = some (c.drop off) := by simp [cellsAt, ho, hi]
            have hO := s.obj o _ ho
            simp only [OR] at hO
            have hlt := (List.getElem?_eq_some_iff.1 hi).1
            have hct : (Γ.loc o).ct ≠ 0 := by omega
            obtain ⟨b, off', h2, h3⟩ := cellsAt_ok s hv hcs
            have hb : b = (Γ.loc o).b := by
              simp only [VR] at hv
              obtain ⟨p, rfl, _, _, h4⟩ := hv
              have := h4 hO.1
              rw [this] at h2
              cases h2; rfl
            subst hb
            simp only [VR]
            exact ⟨_, off', h2, own _ (s.blk o (by rw [← s.len]; exact (List.getElem?_eq_some_iff.1 ho).1) hct), omap_VRcells ih h1 h3⟩
          · cases h
        · cases h
      | fn f first cap =>
        simp only [Option.bind_eq_some_iff] at h
        obtain ⟨as, h1, bs, h2, h⟩ := h
        cases h
        simp only [VR] at hv ⊢
        obtain ⟨fs, cs, rfl, h3, h4⟩ := hv
        exact ⟨fs, cs, rfl, omap_VRs ih h1 h3, omap_VRs ih h2 h4⟩
      | yld o => cases h
      | mp o => cases h

/-! ### A call that sees nothing of its caller's -/
def Ctx.far0 (Γ : Ctx) : Ctx := { n := 0, loc := Γ.loc, own := fun _ => False, far := fun b => Γ.own b ∨ Γ.far b }
theorem SR.far0 (s : SR P Γ σ w) : SR P Γ.far0 [] w where
  len := rfl
  obj o ob h := by simp at h
  blk o h := absurd h (Nat.not_lt_zero _)
  inj o o' h := absurd h (Nat.not_lt_zero _)
  ownlt b h := h.elim
  farlt b h := h.elim (s.ownlt b) (s.farlt b)
  sep b h := h.elim
theorem VRs.far0 {as : List AV} {vs : List Value} (hl : los 0 as = true) (h : VRs Γ w as vs) : VRs Γ.far0 w as vs :=
  VRs.weaken (Γ := Γ) (Γ' := Γ.far0) (fun b hb => hb.elim (fun h => False.elim h) id) 0 (Nat.zero_le _) (fun o ho => absurd ho (Nat.not_lt_zero _)) as vs hl h

theorem Got.frozen {r r' : AV} {τ : Store} {v : Value} (s : SR P Γ σ w) (h : Got P Γ.far0 w r τ v w') (hf : frz τ 6 r = some r') : Got P Γ w r' σ v w' := by
  obtain ⟨Γ1, h1, h2, h3⟩ := h
  have hsame : ∀ b, b < w.heap.size → w'.heap[b]? = w.heap[b]? := fun b hb => h3.same b hb id
  have hown : ∀ b, Γ1.own b → w.heap.size ≤ b := fun b hb => (h3.own b hb).resolve_left id
  have hext : Ext Γ Γ w w' := ⟨Nat.le_refl _, h3.size, fun b hb _ => hsame b hb, fun _ h => .inl h, rfl, fun _ _ => .inl rfl, h3.os, h3.tape, h3.output⟩
  refine ⟨Γ, frz_ok h2 (fun b hb => ⟨by rw [h3.far]; exact hb, fun ho => ?_⟩) _ _ _ _ hf h1, ?_, hext⟩
  · have := hown b ho
    have := hb.elim (s.ownlt b) (s.farlt b)
    omega
  · exact ⟨s.len, fun o ob ho => (s.obj o ob ho).mono hext rfl fun hc => hsame _ (s.ownlt _ (s.blk o (by rw [← s.len]; exact (List.getElem?_eq_some_iff.1 ho).1) hc)), s.blk, s.inj,
      fun b hb => Nat.lt_of_lt_of_le (s.ownlt b hb) h3.size, fun b hb => Nat.lt_of_lt_of_le (s.farlt b hb) h3.size, s.sep⟩

/-! ### What a call has made is taken over -/
theorem shifts_len {d : Nat} : ∀ (as : List AV), (shifts d as).length = as.length
  | [] => rfl
  | a :: as => by simp only [shifts, List.length_cons, shifts_len as]
theorem shiftss_len {d : Nat} : ∀ (es : List (List AV)), (shiftss d es).length = es.length
  | [] => rfl
  | a :: as => by simp only [shiftss, List.length_cons, shiftss_len as]
theorem shiftss_lens {d sz : Nat} : ∀ (es : List (List AV)), (∀ e ∈ es, e.length = sz) → ∀ e ∈ shiftss d es, e.length = sz
  | [], _ => by simp [shiftss]
  | a :: as, h => by
    intro y hy
    rcases List.mem_cons.1 hy with rfl | hy
    · rw [shifts_len]; exact h a (by simp)
    · exact shiftss_lens as (tl h) y hy
theorem shifts_append {d : Nat} : ∀ (as bs : List AV), shifts d (as ++ bs) = shifts d as ++ shifts d bs
  | [], _ => rfl
  | a :: as, bs => by simp only [List.cons_append, shifts, shifts_append as bs]
theorem shiftss_flat {d : Nat} : ∀ (es : List (List AV)), (shiftss d es).flatten = shifts d es.flatten
  | [] => rfl
  | a :: as => by simp only [shiftss, List.flatten_cons, shifts_append, shiftss_flat as]
section shift
variable {d : Nat} (hb : ∀ b, Γ.okB w b → Γ'.okB w b) (hn : Γ.n + d ≤ Γ'.n) (hloc : ∀ o, o < Γ.n → Γ'.loc (o + d) = Γ.loc o)
include hb hn hloc
mutual
theorem VR.shifted : ∀ (a : AV) (y : Value), VR Γ w a y → VR Γ' w (a.shift d) y
  | .v x, y, hy => by simpa only [VR, AV.shift] using hy
  | .agg cs, y, hy => by
    simp only [VR, AV.shift] at hy ⊢
    obtain ⟨vs, rfl, h2⟩ := hy
    exact ⟨vs, rfl, VRs.shifted cs vs h2⟩
  | .tup cs, y, hy => by
    simp only [VR, AV.shift] at hy ⊢
    obtain ⟨vs, rfl, h2⟩ := hy
    exact ⟨vs, rfl, VRs.shifted cs vs h2⟩
  | .fsl es clip, y, hy => by
    simp only [VR, AV.shift] at hy ⊢
    obtain ⟨A, c, rfl, h1, h2, h3⟩ := hy
    have hl := shiftss_len (d := d) es
    refine ⟨A, c, by rw [hl], by omega, fun h => by rw [h2 h, hl], ?_⟩
    rcases h3 with h3 | ⟨b, off, sz, h4, h5, h6, h7, h8⟩
    · subst h3; exact .inl rfl
    · exact .inr ⟨b, off, sz, h4, hb b h5, h6, shiftss_lens es h7, VRrows.shifted sz es _ h8⟩
  | .fptr cs, y, hy => by
    simp only [VR, AV.shift] at hy ⊢
    obtain ⟨b, off, rfl, h5, h6⟩ := hy
    exact ⟨b, off, rfl, hb b h5, VRcells.shifted cs _ h6⟩
  | .sl o g off len clip, y, hy => by
    simp only [VR, AV.shift] at hy ⊢
    obtain ⟨A, c, rfl, h5, h6, h1, h2, h3⟩ := hy
    rw [hloc o h1]
    exact ⟨A, c, rfl, h5, h6, by omega, h2, h3⟩
  | .ptr o g i off, y, hy => by
    simp only [VR, AV.shift] at hy ⊢
    obtain ⟨p, rfl, h1, h2, h3⟩ := hy
    rw [hloc o h1]
    exact ⟨p, rfl, by omega, h2, h3⟩
  | .fn f first cap, y, hy => by
    simp only [VR, AV.shift] at hy ⊢
    obtain ⟨fs, cs, rfl, h1, h2⟩ := hy
    exact ⟨fs, cs, rfl, VRs.shifted first fs h1, VRs.shifted cap cs h2⟩
  | .yld o, y, hy => by
    simp only [VR, AV.shift] at hy ⊢
    obtain ⟨l, rfl, h1, h3⟩ := hy
    rw [hloc o h1]
    exact ⟨l, rfl, by omega, h3⟩
  | .mp o, y, hy => by
    simp only [VR, AV.shift] at hy ⊢
    obtain ⟨l, rfl, h1, h3⟩ := hy
    rw [hloc o h1]
    exact ⟨l, rfl, by omega, h3⟩
theorem VRs.shifted : ∀ (as : List AV) (ys : List Value), VRs Γ w as ys → VRs Γ' w (shifts d as) ys
  | [], ys, hy => by simpa only [VRs, shifts] using hy
  | a :: as, ys, hy => by
    simp only [VRs, shifts] at hy ⊢
    obtain ⟨u, us, rfl, h1, h2⟩ := hy
    exact ⟨u, us, rfl, VR.shifted a u h1, VRs.shifted as us h2⟩
theorem VRcells.shifted : ∀ (as : List AV) (get : Nat → Option Value), VRcells Γ w as get → VRcells Γ' w (shifts d as) get
  | [], _, _ => by simp only [VRcells, shifts]
  | a :: as, get, hy => by
    simp only [VRcells, shifts] at hy ⊢
    obtain ⟨⟨u, h1, h2⟩, h3⟩ := hy
    exact ⟨⟨u, h1, VR.shifted a u h2⟩, VRcells.shifted as _ h3⟩
theorem VRrows.shifted (sz : Nat) : ∀ (es : List (List AV)) (get : Nat → Option Value), VRrows Γ w sz es get → VRrows Γ' w sz (shiftss d es) get
  | [], _, _ => by simp only [VRrows, shiftss]
  | e :: es, get, hy => by
    simp only [VRrows, shiftss] at hy ⊢
    exact ⟨VRcells.shifted e _ hy.1, VRrows.shifted sz es _ hy.2⟩
end
end shift

def Ctx.join (Γ Γ1 : Ctx) : Ctx := { n := Γ.n + Γ1.n, loc := fun o => if o < Γ.n then Γ.loc o else Γ1.loc (o - Γ.n), own := fun b => Γ.own b ∨ Γ1.own b, far := Γ.far }
theorem Ctx.join_old (Γ Γ1 : Ctx) {o : Nat} (h : o < Γ.n) : (Γ.join Γ1).loc o = Γ.loc o := by simp [Ctx.join, h]
theorem Ctx.join_new (Γ Γ1 : Ctx) (o : Nat) : (Γ.join Γ1).loc (o + Γ.n) = Γ1.loc o := by
  simp only [Ctx.join]
  rw [if_neg (by omega), Nat.add_sub_cancel]
theorem Got.taken {r : AV} {τ τ' : Store} {v : Value} (s : SR P Γ σ w) (h : Got P Γ.far0 w r τ v w') {f : SObj → Option SObj}
    (hf : ∀ o o', f o = some o' → (∃ sz es g, o = .row sz es g ∧ o' = .row sz (shiftss σ.length es) g) ∨ ∃ k es, o = .mp k es ∧ o' = .mp k es) (ht : omap f τ = some τ') : Got P Γ w (r.shift σ.length) (σ ++ τ') v w' := by
  obtain ⟨Γ1, h1, h2, h3⟩ := h
  have hsame : ∀ b, b < w.heap.size → w'.heap[b]? = w.heap[b]? := fun b hb => h3.same b hb id
  have hown : ∀ b, Γ1.own b → w.heap.size ≤ b := fun b hb => (h3.own b hb).resolve_left id
  have hfar : Γ1.far = fun b => Γ.own b ∨ Γ.far b := h3.far
  have hlen : τ'.length = Γ1.n := (omap_length ht).trans h2.len
  have hext : Ext Γ (Γ.join Γ1) w w' := ⟨Nat.le_add_right _ _, h3.size, fun b hb _ => hsame b hb, fun b hb => hb.imp id (hown b), rfl, fun o ho => .inl (Γ.join_old Γ1 ho), h3.os, h3.tape, h3.output⟩
  have okb : ∀ b, Γ1.okB w' b → (Γ.join Γ1).okB w' b := fun b hb => by
    obtain ⟨k1, k2, k3⟩ := hb
    rw [hfar] at k3
    exact ⟨k1, fun h => h.elim (fun h => k3 (.inl h)) k2, fun h => k3 (.inr h)⟩
  have hn : Γ1.n + Γ.n ≤ (Γ.join Γ1).n := by simp [Ctx.join]; omega
  have hloc : ∀ o, o < Γ1.n → (Γ.join Γ1).loc (o + Γ.n) = Γ1.loc o := fun o _ => Γ.join_new Γ1 o
  refine ⟨Γ.join Γ1, ?_, ?_, hext⟩
  · rw [s.len]; exact VR.shifted okb hn hloc _ _ h1
  · refine ⟨by simp [Ctx.join, s.len, hlen], fun o ob ho => ?_, fun o ho hc => ?_, fun o o' ho ho' hc hc' hb => ?_, fun b hb => hb.elim (fun h => Nat.lt_of_lt_of_le (s.ownlt b h) h3.size) (h2.ownlt b), fun b hb => Nat.lt_of_lt_of_le (s.farlt b hb) h3.size, fun b hb hf => hb.elim (fun h => s.sep b h hf) fun h => h2.sep b h (by rw [hfar]; exact .inr hf)⟩
    · rcases Nat.lt_or_ge o σ.length with hlt | hge
      · rw [List.getElem?_append_left hlt] at ho
        have hn' : o < Γ.n := by rw [← s.len]; exact hlt
        exact (s.obj o ob ho).mono hext (Γ.join_old Γ1 hn') fun hc => hsame _ (s.ownlt _ (s.blk o hn' hc))
      · rw [List.getElem?_append_right hge] at ho
        have hlt := (List.getElem?_eq_some_iff.1 ho).1
        obtain ⟨ob1, hob1⟩ : ∃ ob1, τ[o - σ.length]? = some ob1 := ⟨_, List.getElem?_eq_getElem (by rw [← omap_length ht]; exact hlt)⟩
        obtain ⟨ob2, h4, h5⟩ := omap_get ht hob1
        rw [ho] at h4; cases h4
        have hO := h2.obj _ _ hob1
        have hL : (Γ.join Γ1).loc o = Γ1.loc (o - σ.length) := by
          have := Γ.join_new Γ1 (o - σ.length)
          rw [← s.len, Nat.sub_add_cancel hge] at this
          exact this
        rcases hf _ _ h5 with ⟨sz, es, g, rfl, rfl⟩ | ⟨k, es, rfl, rfl⟩
        case inr =>
          simp only [OR] at hO ⊢
          rw [hL]
          obtain ⟨k1, k2, arr, clock, k3, k4⟩ := hO
          exact ⟨k1, k2, arr, clock, k3, k4.imp fun a y hl hy => VR.weaken (Γ := Γ1) (Γ' := Γ.join Γ1) (fun b hb => by rw [hfar]; rcases hb with (h | h) | h; exact .inr (.inl h); exact .inl h; exact .inr (.inr h)) 0 (Nat.zero_le _) (fun o ho => absurd ho (Nat.not_lt_zero _)) a y hl hy⟩
        simp only [OR] at hO ⊢
        rw [hL]
        obtain ⟨k1, k2, k3, k4, k5, k6⟩ := hO
        refine ⟨k1, k2, k3, by rw [shiftss_len]; exact k4, shiftss_lens es k5, k6.imp id ?_⟩
        rintro ⟨arr, et, k7, k8, k9⟩
        refine ⟨arr, et, k7, k8, ?_⟩
        rw [shiftss_flat, s.len]
        exact VRcells.shifted okb hn hloc _ _ k9
    · by_cases hlt : o < Γ.n
      · rw [Γ.join_old Γ1 hlt] at hc ⊢; exact .inl (s.blk o hlt hc)
      · have hL : (Γ.join Γ1).loc o = Γ1.loc (o - Γ.n) := by simp [Ctx.join, hlt]
        rw [hL] at hc ⊢
        refine .inr (h2.blk _ ?_ hc)
        simp only [Ctx.join] at ho; omega
    · have hL : ∀ o, ¬ o < Γ.n → (Γ.join Γ1).loc o = Γ1.loc (o - Γ.n) := fun o h => by simp [Ctx.join, h]
      simp only [show (Γ.join Γ1).n = Γ.n + Γ1.n from rfl] at ho ho'
      by_cases e1 : o < Γ.n <;> by_cases e2 : o' < Γ.n
      · rw [Γ.join_old Γ1 e1] at hc hb; rw [Γ.join_old Γ1 e2] at hc' hb
        exact s.inj o o' e1 e2 hc hc' hb
      · rw [Γ.join_old Γ1 e1] at hc hb; rw [hL _ e2] at hc' hb
        have := s.ownlt _ (s.blk o e1 hc)
        have := hown _ (h2.blk (o' - Γ.n) (by omega) hc')
        omega
      · rw [hL _ e1] at hc hb; rw [Γ.join_old Γ1 e2] at hc' hb
        have := s.ownlt _ (s.blk o' e2 hc')
        have := hown _ (h2.blk (o - Γ.n) (by omega) hc)
        omega
      · rw [hL _ e1] at hc hb; rw [hL _ e2] at hc' hb
        have := h2.inj (o - Γ.n) (o' - Γ.n) (by omega) (by omega) hc hc' hb
        omega

/-! ### One operation, calls and all -/
theorem valEq_ok {x y : Value} (h : valEq x y = true) : x = y := by
  unfold valEq at h
  split at h <;> simp_all
mutual
theorem AV.eqB_ok : ∀ (a b : AV), a.eqB b = true → a = b
  | .v x, b, h => by
    cases b <;> simp only [AV.eqB, Bool.false_eq_true] at h
    rw [valEq_ok h]
  | .agg a, b, h => by
    cases b <;> simp only [AV.eqB, Bool.false_eq_true] at h
    rw [eqBs_ok _ _ h]
  | .tup a, b, h => by
    cases b <;> simp only [AV.eqB, Bool.false_eq_true] at h
    rw [eqBs_ok _ _ h]
  | .fsl a c, b, h => by
    cases b <;> simp only [AV.eqB, Bool.false_eq_true] at h
    rw [Bool.and_eq_true] at h
    rw [eqBss_ok _ _ h.1, eq_of_beq h.2]
  | .fptr a, b, h => by
    cases b <;> simp only [AV.eqB, Bool.false_eq_true] at h
    rw [eqBs_ok _ _ h]
  | .sl o g off len c, b, h => by
    cases b <;> simp only [AV.eqB, Bool.false_eq_true] at h
    simp only [Bool.and_eq_true, beq_iff_eq] at h
    obtain ⟨h1, h2, h3, h4, h5⟩ := h
    rw [h1, h2, h3, h4, h5]
  | .ptr o g i off, b, h => by
    cases b <;> simp only [AV.eqB, Bool.false_eq_true] at h
    simp only [Bool.and_eq_true, beq_iff_eq] at h
    obtain ⟨h1, h2, h3, h4⟩ := h
    rw [h1, h2, h3, h4]
  | .fn f x y, b, h => by
    cases b <;> simp only [AV.eqB, Bool.false_eq_true] at h
    simp only [Bool.and_eq_true, decide_eq_true_eq] at h
    rw [h.1, eqBs_ok _ _ h.2.1, eqBs_ok _ _ h.2.2]
  | .yld o, b, h => by cases b <;> simp only [AV.eqB, Bool.false_eq_true] at h
  | .mp o, b, h => by
    cases b <;> simp only [AV.eqB, Bool.false_eq_true] at h
    rw [eq_of_beq h]
theorem eqBs_ok : ∀ (a b : List AV), eqBs a b = true → a = b
  | [], [], _ => rfl
  | a :: as, b :: bs, h => by
    simp only [eqBs, Bool.and_eq_true] at h
    rw [AV.eqB_ok a b h.1, eqBs_ok as bs h.2]
  | [], _ :: _, h => by simp [eqBs] at h
  | _ :: _, [], h => by simp [eqBs] at h
theorem eqBss_ok : ∀ (a b : List (List AV)), eqBss a b = true → a = b
  | [], [], _ => rfl
  | a :: as, b :: bs, h => by
    simp only [eqBss, Bool.and_eq_true] at h
    rw [eqBs_ok a b h.1, eqBss_ok as bs h.2]
  | [], _ :: _, h => by simp [eqBss] at h
  | _ :: _, [], h => by simp [eqBss] at h
end
theorem eqBm_ok : ∀ (a b : List (Int × AV)), eqBm a b = true → a = b
  | [], [], _ => rfl
  | a :: as, b :: bs, h => by
    simp only [eqBm, Bool.and_eq_true, beq_iff_eq] at h
    obtain ⟨h1, h2, h3⟩ := h
    rw [eqBm_ok as bs h3, Prod.ext h1 (AV.eqB_ok _ _ h2)]
  | [], _ :: _, h => by simp [eqBm] at h
  | _ :: _, [], h => by simp [eqBm] at h
theorem SObj.eqB_ok (a b : SObj) (h : a.eqB b = true) : a = b := by
  cases a <;> cases b <;> simp only [SObj.eqB, Bool.false_eq_true, Bool.and_eq_true, beq_iff_eq, decide_eq_true_eq] at h
  · rw [h.1, h.2.1, eqBss_ok _ _ h.2.2]
  · rfl
  · rfl
  · rw [h.1, eqBm_ok _ _ h.2]
theorem storeEq_ok : ∀ {a b : Store}, storeEq a b = true → a = b
  | [], [], _ => rfl
  | a :: as, b :: bs, h => by
    simp only [storeEq, Bool.and_eq_true] at h
    rw [SObj.eqB_ok a b h.1, storeEq_ok h.2]
  | [], _ :: _, h => by simp [storeEq] at h
  | _ :: _, [], h => by simp [storeEq] at h

/-- Values whose slices are given up. -/
theorem giveE_ok {a a' : AV} {v : Value} {σ1 : Store} (hg : giveE a σ = some (a', σ1)) (s : SR P Γ σ w) (h : VR Γ w a v) : ∃ Γ', Ext Γ Γ' w w ∧ SR P Γ' σ1 w ∧ VR Γ' w a' v := by
  unfold giveE at hg
  split at hg
  · split at hg
    · rename_i ho
      split at hg
      · rename_i hc
        obtain ⟨rfl, hle⟩ := hc
        cases hg
        obtain ⟨q1, q2⟩ := freeze_ok s h ho hle
        exact ⟨_, Ext.drop Γ w _, q1, q2⟩
      · cases hg
    · cases hg
  · cases hg
    exact ⟨Γ, Ext.refl Γ w, s, h⟩
theorem giveA_ok : ∀ {as as' : List AV} {vs : List Value} {Γ : Ctx} {σ σ1 : Store}, giveA as σ = some (as', σ1) → SR P Γ σ w → VRs Γ w as vs → ∃ Γ', Ext Γ Γ' w w ∧ SR P Γ' σ1 w ∧ VRs Γ' w as' vs
  | [], as', vs, Γ, σ, σ1, hg, s, h => by
    simp only [giveA] at hg; cases hg
    exact ⟨Γ, Ext.refl Γ w, s, h⟩
  | a :: as, as', vs, Γ, σ, σ1, hg, s, h => by
    simp only [giveA, Option.bind_eq_some_iff] at hg
    obtain ⟨⟨x, σ2⟩, h1, ⟨y, σ3⟩, h2, hg⟩ := hg
    cases hg
    simp only [VRs] at h
    obtain ⟨u, us, rfl, k1, k2⟩ := h
    obtain ⟨Γ1, e1, s1, r1⟩ := giveE_ok h1 s k1
    obtain ⟨Γ2, e2, s2, r2⟩ := giveA_ok h2 s1 (VRs.mono e1 _ _ k2)
    refine ⟨Γ2, e1.trans e2, s2, ?_⟩
    simp only [VRs]
    exact ⟨u, us, rfl, VR.mono e2 _ _ r1, r2⟩
theorem giveG_ok {a a' : AV} {v : Value} {σ1 : Store} (hg : giveG a σ = some (a', σ1)) (s : SR P Γ σ w) (h : VR Γ w a v) : ∃ Γ', Ext Γ Γ' w w ∧ SR P Γ' σ1 w ∧ VR Γ' w a' v := by
  unfold giveG at hg
  split at hg
  · rename_i cs
    rw [Option.bind_eq_some_iff] at hg
    obtain ⟨⟨cs', σ2⟩, h1, hg⟩ := hg
    cases hg
    simp only [VR] at h
    obtain ⟨vs, rfl, k⟩ := h
    obtain ⟨Γ', e, s', r⟩ := giveA_ok h1 s k
    refine ⟨Γ', e, s', ?_⟩
    simp only [VR]
    exact ⟨vs, rfl, r⟩
  · exact giveE_ok hg s h
theorem giveAs_ok : ∀ {as as' : List AV} {vs : List Value} {Γ : Ctx} {σ σ1 : Store}, giveAs as σ = some (as', σ1) → SR P Γ σ w → VRs Γ w as vs → ∃ Γ', Ext Γ Γ' w w ∧ SR P Γ' σ1 w ∧ VRs Γ' w as' vs
  | [], as', vs, Γ, σ, σ1, hg, s, h => by
    simp only [giveAs] at hg; cases hg
    exact ⟨Γ, Ext.refl Γ w, s, h⟩
  | a :: as, as', vs, Γ, σ, σ1, hg, s, h => by
    simp only [giveAs, Option.bind_eq_some_iff] at hg
    obtain ⟨⟨x, σ2⟩, h1, ⟨y, σ3⟩, h2, hg⟩ := hg
    cases hg
    simp only [VRs] at h
    obtain ⟨u, us, rfl, k1, k2⟩ := h
    obtain ⟨Γ1, e1, s1, r1⟩ := giveG_ok h1 s k1
    obtain ⟨Γ2, e2, s2, r2⟩ := giveAs_ok h2 s1 (VRs.mono e1 _ _ k2)
    refine ⟨Γ2, e1.trans e2, s2, ?_⟩
    simp only [VRs]
    exact ⟨u, us, rfl, VR.mono e2 _ _ r1, r2⟩
theorem Got.pre {Γ' : Ctx} {r : AV} {v : Value} {w' : World} (hx : Ext Γ Γ' w w) (h : Got P Γ' w r σ' v w') : Got P Γ w r σ' v w' := by
  obtain ⟨Γ2, h1, h2, h3⟩ := h
  exact ⟨Γ2, h1, h2, hx.trans h3⟩
theorem item_ok {O : Orc} (hO : CallOk P O) (hR : RoundOk P O) {h : Hints} {o : Oper} {it : Item'} {r : AV} (hc : cItem P h o = some it) (he : evItem O e σ it = some (r, σ')) (hv : VE Γ w e a) (s : SR P Γ σ w) :
    NextOk P (Got P Γ w r σ') ((execOp a.eval o).run P w) := by
  have hop : (∃ c, cOp P h o = some c ∧ it = .op c) ∨ ∃ cl f, o.op = .call cl ∧ cl.callee = .value f ∧ ∃ as, cOpnds cl.args.toList = some as ∧
      ((∃ k, f = .func k ∧ (it = .callA k as ∨ it = .callI k as ∨ it = .callR k as ∨ it = .callP k as ∨ it = .callF k as)) ∨ ∃ f', cOpnd f = some f' ∧ it = .callv f' as) := by
    unfold cItem at hc
    split at hc
    · rename_i f args at' heq
      rw [Option.bind_eq_some_iff] at hc
      obtain ⟨as, h1, hc⟩ := hc
      refine .inr ⟨_, f, heq, rfl, as, h1, ?_⟩
      split at hc
      · rename_i k
        split at hc
        · cases hc; exact .inl ⟨k, rfl, .inl rfl⟩
        · split at hc
          · cases hc; exact .inl ⟨k, rfl, .inr (.inl rfl)⟩
          · split at hc
            · cases hc; exact .inl ⟨k, rfl, .inr (.inr (.inl rfl))⟩
            · split at hc
              · cases hc; exact .inl ⟨k, rfl, .inr (.inr (.inr (.inr rfl)))⟩
              · cases hc; exact .inl ⟨k, rfl, .inr (.inr (.inr (.inl rfl)))⟩
      · rw [Option.bind_eq_some_iff] at hc
        obtain ⟨f', h2, hc⟩ := hc
        cases hc
        exact .inr ⟨f', h2, rfl⟩
    · rw [Option.bind_eq_some_iff] at hc
      obtain ⟨c, h1, hc⟩ := hc
      cases hc
      exact .inl ⟨c, h1, rfl⟩
  rcases hop with ⟨c, h1, rfl⟩ | ⟨cl, f, ho, hcal, as, has, hf⟩
  · exact (op_ok h1 he hv s).next
  · have hex : ∀ v, a.eval f = v → (execOp a.eval o).run P w = ((Deferred.ofValue v (cl.args.map a.eval)).run P w).andThen (fun d w => (invoke d.target d.args).run P w) := by
      rintro v rfl
      simp only [execOp, ho, resolve, hcal, Sem.run_bind]
    have hfn : ∀ k (fs cs : List Value), a.eval f = .func (.func k) fs.toArray cs.toArray → (execOp a.eval o).run P w = (callFunc k (fs ++ (cl.args.toList.map a.eval ++ cs)).toArray).run P w := by
      intro k fs cs hk
      have harr : fs.toArray ++ cl.args.map a.eval ++ cs.toArray = (fs ++ (cl.args.toList.map a.eval ++ cs)).toArray := by
        apply Array.toList_inj.1; simp
      rw [hex _ hk]
      simp only [Deferred.ofValue, Sem.run_pure, Result.andThen_ok, invoke, harr]
    rcases hf with ⟨k, rfl, hit⟩ | ⟨f', hf', rfl⟩
    · have hk := hfn k [] [] (by simp [Act.eval])
      simp only [List.nil_append, List.append_nil] at hk
      rw [hk]
      rcases hit with rfl | rfl | rfl | rfl | rfl
      · simp only [evItem, Option.bind_eq_some_iff] at he
        obtain ⟨vs, h1, he⟩ := he
        split at he
        · rename_i hlo
          rw [Option.bind_eq_some_iff] at he
          obtain ⟨⟨u, τ⟩, h2, he⟩ := he
          rw [Option.bind_eq_some_iff] at he
          obtain ⟨τ', h3, he⟩ := he
          cases he
          exact (hO k vs [] u τ h2 Γ.far0 w _ s.far0 ((opnds_ok has h1 hv).far0 hlo)).mono fun v w' hg => hg.taken s (fun o o' ho => by
            unfold impO at ho
            split at ho
            · cases ho; exact .inl ⟨_, _, _, rfl, rfl⟩
            · cases ho; exact .inr ⟨_, _, rfl, rfl⟩
            · cases ho) h3
        · cases he
      · simp only [evItem, Option.bind_eq_some_iff] at he
        obtain ⟨vs, h1, he⟩ := he
        exact hO k vs σ r σ' he Γ w _ s (opnds_ok has h1 hv)
      · simp only [evItem, Option.bind_eq_some_iff] at he
        obtain ⟨vs, h1, ⟨u, τ⟩, h2, he⟩ := he
        split at he
        · rename_i hst
          cases he
          obtain rfl := storeEq_ok hst
          exact hO k vs σ _ _ h2 Γ w _ s (opnds_ok has h1 hv)
        · cases he
      · simp only [evItem, Option.bind_eq_some_iff] at he
        obtain ⟨vs, h1, he⟩ := he
        split at he
        · rename_i hlo
          rw [Option.bind_eq_some_iff] at he
          obtain ⟨⟨u, τ⟩, h2, he⟩ := he
          rw [Option.bind_eq_some_iff] at he
          obtain ⟨r', h3, he⟩ := he
          cases he
          exact (hO k vs [] u τ h2 Γ.far0 w _ s.far0 ((opnds_ok has h1 hv).far0 hlo)).mono fun v w' hg => hg.frozen s h3
        · cases he
      · simp only [evItem, Option.bind_eq_some_iff] at he
        obtain ⟨vs, h1, ⟨vs', σ2⟩, hg, he⟩ := he
        obtain ⟨Γ', hx, s', hv'⟩ := giveAs_ok hg s (opnds_ok has h1 hv)
        split at he
        · rename_i hlo
          rw [Option.bind_eq_some_iff] at he
          obtain ⟨⟨u, τ⟩, h2, he⟩ := he
          rw [Option.bind_eq_some_iff] at he
          obtain ⟨r', h3, he⟩ := he
          cases he
          exact (hO k vs' [] u τ h2 Γ'.far0 w _ s'.far0 (hv'.far0 hlo)).mono fun v w' hg => Got.pre hx (hg.frozen s' h3)
        · cases he
    · simp only [evItem, Option.bind_eq_some_iff] at he
      obtain ⟨g, h1, vs, h2, he⟩ := he
      have hg := opnd_ok hf' h1 hv
      split at he
      · rename_i k first cap
        simp only [VR] at hg
        obtain ⟨fs, cs, h3, h4, h5⟩ := hg
        rw [hfn k fs cs h3]
        exact hO k _ σ r σ' he Γ w _ s (h4.append ((opnds_ok has h2 hv).append h5))
      · rename_i l
        simp only [VR] at hg
        obtain ⟨b, h3, h4, h5⟩ := hg
        have harr : #[] ++ cl.args.map a.eval = (cl.args.toList.map a.eval).toArray := by
          apply Array.toList_inj.1; simp
        rw [hex _ h3]
        simp only [Deferred.ofValue, Sem.run_pure, Result.andThen_ok, invoke, harr]
        exact hR l vs σ r σ' he Γ w b _ s (opnds_ok has h2 hv) h4 h5
      · cases he
end Go.Ev
