/- Part of the proofs about this seat's program (module EvR). -/
import Derived.Test.YtbkabnhkclbepaaEvQ
set_option linter.unusedSectionVars false
set_option linter.unusedSimpArgs false
set_option linter.unusedVariables false
namespace Go.Ev
open Go.RowKit (Below)
variable {P : Program} {Γ Γ' : Ctx} {w w' : World} {σ σ' : Store} {e e' : Env} {a a' : Act} {av : AV} {N : Nat}

def rest (n : Nat) (listed : Array Bool) : List Nat := (List.range n).filter (fun i => !listed.getD i false)
theorem mem_rest {n i : Nat} {listed : Array Bool} : i ∈ rest n listed ↔ i < n ∧ listed.getD i false = false := by
  simp [rest, List.mem_filter]
theorem getD_any {listed : Array Bool} {i : Nat} (h : i < listed.size) : listed.getD i true = listed.getD i false := by
  simp [Array.getD, h]
theorem rest_split {n i : Nat} {listed : Array Bool} (h : i ∈ rest n listed) (hs : listed.size = n) : ∃ l1 l2, rest n listed = l1 ++ i :: l2 ∧ (∀ j ∈ l1, j < i) ∧ rest n (listed.setIfInBounds i true) = l1 ++ l2 := by
  have hp : (rest n listed).Pairwise (· < ·) := List.Pairwise.filter _ List.pairwise_lt_range
  have hi := (mem_rest.1 h).1
  have hr : rest n (listed.setIfInBounds i true) = (rest n listed).filter (fun j => decide (j ≠ i)) := by
    unfold rest
    rw [List.filter_filter]
    apply List.filter_congr
    intro j _
    by_cases hj : i = j
    · subst hj; simp [Array.getD, hs, hi]
    · rw [getD_set_ne false hj]; simp [Ne.symm hj]
  obtain ⟨l1, l2, h1⟩ := List.append_of_mem h
  rw [h1] at hp
  have h2 := List.pairwise_append.1 hp
  have h3 : ∀ j ∈ l1, j < i := fun j hj => h2.2.2 j hj i (by simp)
  have h4 : ∀ j ∈ l2, i < j := fun j hj => (List.pairwise_cons.1 h2.2.1).1 j hj
  refine ⟨l1, l2, h1, h3, ?_⟩
  rw [hr, h1, List.filter_append, List.filter_cons]
  rw [List.filter_eq_self.2 fun j hj => by have := h3 j hj; simp; omega, List.filter_eq_self.2 fun j hj => by have := h4 j hj; simp; omega]
  simp
theorem evOpers_append {O : Orc} : ∀ (l m : List COper) (e : Env) (σ : Store), evOpers O (l ++ m) e σ = (evOpers O l e σ).bind fun x => evOpers O m x.1 x.2
  | [], m, e, σ => rfl
  | o :: l, m, e, σ => by
    simp only [List.cons_append, evOpers]
    cases evOper O e σ o with
    | none => rfl
    | some x => simp only [Option.bind_some]; exact evOpers_append l m _ _

theorem any_wp {O : Orc} (hO : CallOk P O) (hR : RoundOk P O) {ro : Option Nat} {h : Hints} {ops : Array Oper} {cs : List COper} {Q : Exit → Act → World → Prop} (hcs : omap (cOper P h N ops) ops.toList = some cs) (hdr : drawOk ops cs = true) {e' : Env} {σ' : Store} :
    ∀ (fuel : Nat) (listed : Array Bool) {e : Env} {σ : Store} {Γ : Ctx} {a : Act} {w : World}, listed.size = ops.size → (rest ops.size listed).length ≤ fuel → Closed ops listed →
      (∃ e2, evOpers O (pickOps cs (rest ops.size listed)) e σ = some (e2, σ') ∧ Eqv e2 e') → AR P Γ N e σ a w →
      (∀ Γ' a' w', Ext Γ Γ' w w' → AR P Γ' N e' σ' a' w' → Q .normal a' w') → wpAnyIn (FR ro) 0 P .any ops Q fuel listed a w := by
  unfold drawOk at hdr
  simp only [Bool.and_eq_true] at hdr
  obtain ⟨hlt, hrows⟩ := hdr
  have inRest : ∀ {i : Nat} {listed : Array Bool}, listed.size = ops.size → i ∈ Region.ready .any ops listed → i ∈ rest ops.size listed := fun {i listed} hs hi => by
    obtain ⟨h1, o, h2, _⟩ := mem_ready.1 hi
    have := (Array.getElem?_eq_some_iff.1 h2).1
    exact mem_rest.2 ⟨this, by rw [← getD_any (by omega)]; exact h1⟩
  have done : ∀ (listed : Array Bool) {e : Env} {σ : Store} {Γ : Ctx} {a : Act} {w : World}, rest ops.size listed = [] →
      (∃ e2, evOpers O (pickOps cs (rest ops.size listed)) e σ = some (e2, σ') ∧ Eqv e2 e') → AR P Γ N e σ a w →
      (∀ Γ' a' w', Ext Γ Γ' w w' → AR P Γ' N e' σ' a' w' → Q .normal a' w') → Q .normal a w := by
    rintro listed e σ Γ a w hr ⟨e2, h1, h2⟩ ha hq
    rw [hr] at h1
    simp only [pickOps, List.filterMap_nil, evOpers] at h1
    cases h1
    exact hq Γ a w (Ext.refl _ _) (ha.eqv h2)
  have some_ready : ∀ {listed : Array Bool}, listed.size = ops.size → rest ops.size listed ≠ [] → Region.ready .any ops listed ≠ [] := by
    intro listed hs hne hnil
    obtain ⟨i, tl, hi⟩ := List.exists_cons_of_ne_nil hne
    have hmem : i ∈ rest ops.size listed := by rw [hi]; simp
    obtain ⟨hi1, hi2⟩ := mem_rest.1 hmem
    have hp : (rest ops.size listed).Pairwise (· < ·) := List.Pairwise.filter _ List.pairwise_lt_range
    rw [hi] at hp
    have hmin := (List.pairwise_cons.1 hp).1
    have : i ∈ Region.ready .any ops listed := by
      refine mem_ready.2 ⟨by rw [getD_any (by omega)]; exact hi2, ops[i], by simp [hi1], fun ed hed hb => ?_⟩
      have hlt' : ed.on < i := by simpa using edgesLt_spec hlt (k := i) (o := ops[i]) (by simp [hi1]) ed hed hb
      cases hbb : listed.getD ed.on false with
      | true => rfl
      | false =>
        have : ed.on ∈ rest ops.size listed := mem_rest.2 ⟨by omega, hbb⟩
        rw [hi] at this
        rcases List.mem_cons.1 this with h1 | h1
        · omega
        · have := hmin _ h1; omega
    rw [hnil] at this
    cases this
  intro fuel
  induction fuel with
  | zero =>
    intro listed e σ Γ a w hs hf hcl hex ha hq
    have hr : rest ops.size listed = [] := List.eq_nil_of_length_eq_zero (by omega)
    refine ⟨?_, done listed hr hex ha hq⟩
    cases hrd : Region.ready .any ops listed with
    | nil => rfl
    | cons i tl =>
      have := inRest hs (i := i) (by rw [hrd]; simp)
      rw [hr] at this; cases this
  | succ fuel ih =>
    intro listed e σ Γ a w hs hf hcl hex ha hq
    refine ⟨fun hnil => ?_, fun i hi => ?_⟩
    · by_cases hr : rest ops.size listed = []
      · exact done listed hr hex ha hq
      · exact absurd hnil (some_ready hs hr)
    · have hir := inRest hs hi
      obtain ⟨l1, l2, h1, h2, h3⟩ := rest_split hir hs
      obtain ⟨hun, o, ho, hall⟩ := mem_ready.1 hi
      obtain ⟨c, hc, hco⟩ := omap_get hcs (i := i) (a := o) (by simpa using ho)
      obtain ⟨e2, h4, h5⟩ := hex
      have hpk : pickOps cs (rest ops.size listed) = pickOps cs l1 ++ c :: pickOps cs l2 := by
        rw [h1]
        have := pickOps_cons hc l2
        unfold pickOps at this ⊢
        rw [List.filterMap_append, this]
      rw [hpk, evOpers_append, Option.bind_eq_some_iff] at h4
      obtain ⟨⟨e3, σ3⟩, h6, h4⟩ := h4
      simp only [evOpers, Option.bind_eq_some_iff] at h4
      obtain ⟨⟨e4, σ4⟩, h7, h8⟩ := h4
      have hap : ∀ b ∈ pickOps cs l1, Ap b c := by
        intro b hb
        obtain ⟨j, hj, hjb⟩ := List.mem_filterMap.1 hb
        have hji := h2 j hj
        obtain ⟨bj, hbj, hrow⟩ := rowsOk_spec hrows hc
        have := rowOk_spec hrow (m := j) (a := b) (by rw [List.nil_append, List.getElem?_take, if_pos hji]; exact hjb)
        rw [Nat.zero_add] at this
        rcases this with hbit | hap
        · have hls := bits_listed hlt hcl i o ho hall bj hbj j hbit
          have hjr : j ∈ rest ops.size listed := by rw [h1]; simp [hj]
          have := (mem_rest.1 hjr).2
          rw [hls] at this; cases this
        · exact ap_of hap
      obtain ⟨e1', τ, h9, e2', h10, h11⟩ := move_front hap ha.known (load_okC (cOper_parts hco).2.2.1) h6 h7
      obtain ⟨e5, h12, h13⟩ := evOpers_eqv h11.symm h8
      refine oper_wp hO hR ho hco h9 ha fun Γ1 a1 w1 x1 ha1 => ?_
      refine ih (listed.setIfInBounds i true) (by simp [hs]) ?_ ?_ ⟨e5, ?_, h13.symm.trans h5⟩ ha1 fun Γ2 a2 w2 x2 ha2 => hq Γ2 a2 w2 (x1.trans x2) ha2
      · have hlen := congrArg List.length h1
        have hlen3 := congrArg List.length h3
        simp only [List.length_append, List.length_cons] at hlen hlen3
        omega
      · intro j oj hoj hl ed hed hb
        by_cases hji : i = j
        · subst hji
          rw [ho] at hoj; cases hoj
          exact getD_set_true (hall ed hed hb)
        · rw [getD_set_ne false hji] at hl
          exact getD_set_true (hcl j oj hoj hl ed hed hb)
      · rw [h3]
        have : pickOps cs (l1 ++ l2) = pickOps cs l1 ++ pickOps cs l2 := by simp [pickOps]
        rw [this, evOpers_append, h10]
        exact h12

/-- **A REGION.** -/
theorem region_wp {O : Orc} (hO : CallOk P O) (hR : RoundOk P O) (hm : P.follows .mixedOrders = true) {ro : Option Nat} {h : Hints} {id : Nat} {ops : Array Oper} {draw : Bool} {cc : CCode} {i j : Nat} (hc : cCode P h N (.region id ops draw) i = some (cc, j)) :
    ∃ cs, cc = .region cs ∧ ∀ {Q : Exit → Act → World → Prop} {e' : Env} {σ' : Store}, evOpers O cs e σ = some (e', σ') → AR P Γ N e σ a w →
      (∀ Γ' a' w', Ext Γ Γ' w w' → AR P Γ' N e' σ' a' w' → Q .normal a' w') → (Code.region id ops draw).wpIn (FR ro) 0 P Q a w := by
  simp only [cCode, Option.bind_eq_some_iff] at hc
  obtain ⟨cs, hcs, hc⟩ := hc
  have hlen : cs.length = ops.size := by simpa using omap_length hcs
  have lex : ∀ {Q : Exit → Act → World → Prop} {e' : Env} {σ' : Store}, evOpers O cs e σ = some (e', σ') → AR P Γ N e σ a w →
      (∀ Γ' a' w', Ext Γ Γ' w w' → AR P Γ' N e' σ' a' w' → Q .normal a' w') → (Code.region id ops false).wpIn (FR ro) 0 P Q a w := fun he ha hq => by
    refine wpIn_region (ops_wp hO hR hcs (List.range ops.size) (fun i hi => by simpa using hi) ?_ ha hq)
    rw [← hlen, pickOps_range]; exact he
  split at hc
  · rename_i hd
    split at hc
    · rename_i hok
      cases hc
      subst hd
      refine ⟨cs, rfl, fun he ha hq => ?_⟩
      have hb := below_drew w
      have hrest : rest ops.size (Array.replicate ops.size false) = List.range ops.size := by
        unfold rest
        rw [List.filter_eq_self]
        intro i hi
        simp [Array.getD]
      refine wpIn_region_any hm (any_wp hO hR hcs hok ops.size _ (by simp) (by rw [hrest]; simp) ?_ ⟨_, by rw [hrest, ← hlen, pickOps_range]; exact he, Eqv.refl _⟩ (ha.below hb) ?_)
      · intro j o _ hl
        simp [Array.getD] at hl
      · exact fun Γ' a' w' x => hq Γ' a' w' ((Ext.of_below Γ hb).trans x)
    · cases hc
  · rename_i hd
    cases hc
    have : draw = false := by simpa using hd
    subst this
    exact ⟨cs, rfl, lex⟩
end Go.Ev
