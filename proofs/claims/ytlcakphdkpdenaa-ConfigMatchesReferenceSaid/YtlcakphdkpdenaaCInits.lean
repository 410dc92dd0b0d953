/- Part of the proofs about this seat's program (module CInits). -/
import Derived.Test.YtlcakphdkpdenaaCStab
import Derived.Test.YtlcakphdkpdenaaCBase
import Derived.Test.YtlcakphdkpdenaaCSorts
set_option linter.unusedSectionVars false
set_option linter.unusedSimpArgs false
set_option linter.unusedVariables false
namespace Go.Proofs.Ytlcakphdkpdenaa.K
open Go.Ev
set_option linter.unusedSimpArgs false
set_option linter.unusedVariables false
set_option maxRecDepth 10000
/-! ### The first events -/
def initEv (k i : Nat) (s : Start) : Evt := ⟨s.time, [(k : Int), (i : Int)], k, 1, i, 0⟩
def initLp (k : Nat) (l : List Start) : List Evt := l.mapIdx (fun i s => initEv k i s)
def initL (lps : List (List Start)) : List Evt := (lps.mapIdx (fun k l => initLp k l)).flatten
theorem initLp_snoc (k : Nat) (l : List Start) (s : Start) : initLp k (l ++ [s]) = initLp k l ++ [initEv k l.length s] := by simp [initLp, List.mapIdx_append]
theorem initL_snoc (lps : List (List Start)) (l : List Start) : initL (lps ++ [l]) = initL lps ++ initLp lps.length l := by simp [initL, List.mapIdx_append]
theorem initLp_len (k : Nat) (l : List Start) : (initLp k l).length = l.length := by simp [initLp]
theorem initLp_mem {k : Nat} {l : List Start} {x : Evt} (h : x ∈ initLp k l) : ∃ i s, l[i]? = some s ∧ x = initEv k i s := by
  simp only [initLp] at h
  obtain ⟨i, hi⟩ := List.mem_iff_getElem?.1 h
  rw [List.getElem?_mapIdx] at hi
  cases hl : l[i]? with
  | none => rw [hl] at hi; cases hi
  | some s => rw [hl] at hi; cases hi; exact ⟨i, s, hl, rfl⟩
theorem initL_mem {lps : List (List Start)} {x : Evt} (h : x ∈ initL lps) : ∃ k l i s, lps[k]? = some l ∧ l[i]? = some s ∧ x = initEv k i s := by
  simp only [initL, List.mem_flatten] at h
  obtain ⟨r, hr, hx⟩ := h
  obtain ⟨k, hk⟩ := List.mem_iff_getElem?.1 hr
  rw [List.getElem?_mapIdx] at hk
  cases hl : lps[k]? with
  | none => rw [hl] at hk; cases hk
  | some l =>
    rw [hl] at hk; cases hk
    obtain ⟨i, s, h1, h2⟩ := initLp_mem hx
    exact ⟨k, l, i, s, hl, h1, h2⟩
theorem initL_keys (lps : List (List Start)) : KeysOk (initL lps) := by
  intro x hx
  obtain ⟨k, l, i, s, _, _, rfl⟩ := initL_mem hx
  simp [initEv]
theorem initEv_ne {k k' i i' : Nat} {s s' : Start} (h : cmpE (initEv k i s) (initEv k' i' s') = 0) : k = k' ∧ i = i' := by
  have := ((cmpE_zero _ _).1 h).2
  simp only [initEv, List.cons.injEq, and_true] at this
  omega
theorem initL_dist (lps : List (List Start)) : Dist (initL lps) := by
  unfold Dist initL
  rw [List.pairwise_flatten]
  constructor
  · intro r hr
    obtain ⟨k, hk⟩ := List.mem_iff_getElem?.1 hr
    rw [List.getElem?_mapIdx] at hk
    cases hl : lps[k]? with
    | none => rw [hl] at hk; cases hk
    | some l =>
      rw [hl] at hk; cases hk
      rw [List.pairwise_iff_getElem]
      intro i j hi hj hij h
      simp only [initLp, List.getElem_mapIdx] at h
      have := (initEv_ne h).2; omega
  · rw [List.pairwise_iff_getElem]
    intro k k' hk hk' hkk x hx y hy h
    simp only [List.getElem_mapIdx] at hx hy
    obtain ⟨i, s, _, rfl⟩ := initLp_mem hx
    obtain ⟨i', s', _, rfl⟩ := initLp_mem hy
    have := (initEv_ne h).1; omega
theorem initLp_take {k i : Nat} {l : List Start} {s : Start} (h : l[i]? = some s) : initLp k (l.take (i + 1)) = initLp k (l.take i) ++ [initEv k i s] := by
  have hi : i < l.length := (List.getElem?_eq_some_iff.1 h).1
  rw [take_next h, initLp_snoc, List.length_take, Nat.min_eq_left (by omega)]
theorem initL_take {k : Nat} {lps : List (List Start)} {l : List Start} (h : lps[k]? = some l) : initL (lps.take (k + 1)) = initL (lps.take k) ++ initLp k l := by
  have hi : k < lps.length := (List.getElem?_eq_some_iff.1 h).1
  rw [take_next h, initL_snoc, List.length_take, Nat.min_eq_left (by omega)]
theorem initL_len : ∀ {lps : List (List Start)} {m : Nat}, (∀ l ∈ lps, l.length ≤ m) → (initL lps).length ≤ lps.length * m := by
  intro lps m h
  have : ∀ n, n ≤ lps.length → (initL (lps.take n)).length ≤ n * m := by
    intro n
    induction n with
    | zero => intro _; simp [initL]
    | succ n ih =>
      intro hn
      obtain ⟨l, hl⟩ : ∃ l, lps[n]? = some l := ⟨_, List.getElem?_eq_getElem (by omega)⟩
      rw [initL_take hl, List.length_append, initLp_len, Nat.succ_mul]
      have := ih (by omega)
      have := h l (List.mem_of_getElem? hl)
      omega
  have := this lps.length (Nat.le_refl _)
  rwa [List.take_length] at this
section
variable (c : Cfg)
theorem app_evts_len (out : List Evt) (e : List AV) : List.take out.length (out.map Evt.r) = out.map Evt.r ∧ List.take (out.length + 1) (out.map Evt.r ++ [e]) = out.map Evt.r ++ [e] := ⟨List.take_of_length_le (by simp), List.take_of_length_le (by simp)⟩
theorem init_inner (k : Nat) (l : List Start) (o0 : List Evt) (g0 : Nat) (hl : l.length ≤ 12) (hk : k ≤ 12) (ho : o0.length ≤ 1000) (n : Int) :
    ∃ y, itB (exec (evL T) itL none c_config_Initial_L2) (Ev.settle [3, 4, 9, 10, 11, 16, 17, 18] true 1) ⟨[(3, .sl 0 g0 0 o0.length false), (4, (.v (.int .i64 (k)))), (9, (.fsl ((c.lps).map lpC) false)), (10, (.v (.int .i64 (n)))), (11, (.v (.int .i64 (k)))), (16, (.fsl ((l).map Start.r) false)), (17, (.v (.int .i64 (l.length)))), (18, (.v (.int .i64 (0))))], []⟩ [.row 6 (o0.map Evt.r) g0] = some y ∧
      ∃ g : Nat, y.1 = .exit 2 ∧ y.2.1.marks = [] ∧ y.2.2 = [.row 6 ((o0 ++ initLp k l).map Evt.r) g] ∧ Ev.look y.2.1.vars 3 = some (.sl 0 g 0 (o0 ++ initLp k l).length false) ∧ Ev.look y.2.1.vars 9 = some (.fsl ((c.lps).map lpC) false) ∧ Ev.look y.2.1.vars 10 = some (.v (.int .i64 (n))) ∧ Ev.look y.2.1.vars 11 = some (.v (.int .i64 (k))) := by
  have key := itB_for (f := exec (evL T) itL none c_config_Initial_L2) (s := Ev.settle [3, 4, 9, 10, 11, 16, 17, 18] true 1) (α := List Evt × Nat)
    (fun i a => ⟨[(3, .sl 0 a.2 0 a.1.length false), (4, (.v (.int .i64 (k)))), (9, (.fsl ((c.lps).map lpC) false)), (10, (.v (.int .i64 (n)))), (11, (.v (.int .i64 (k)))), (16, (.fsl ((l).map Start.r) false)), (17, (.v (.int .i64 (l.length)))), (18, (.v (.int .i64 (i))))], []⟩) (fun i a => [.row 6 (a.1.map Evt.r) a.2])
    (fun i a => a.1 = o0 ++ initLp k (l.take i)) l.length
    (fun y => ∃ g : Nat, y.1 = .exit 2 ∧ y.2.1.marks = [] ∧ y.2.2 = [.row 6 ((o0 ++ initLp k l).map Evt.r) g] ∧ Ev.look y.2.1.vars 3 = some (.sl 0 g 0 (o0 ++ initLp k l).length false) ∧ Ev.look y.2.1.vars 9 = some (.fsl ((c.lps).map lpC) false) ∧ Ev.look y.2.1.vars 10 = some (.v (.int .i64 (n))) ∧ Ev.look y.2.1.vars 11 = some (.v (.int .i64 (k)))) ?_ ?_ 0 (o0, g0) (Nat.zero_le _) (by simp [initLp])
  · exact key
  · rintro i ⟨out, g⟩ hi hout
    simp only at hout ⊢
    obtain ⟨x, hx⟩ : ∃ x, l[i]? = some x := ⟨_, List.getElem?_eq_getElem hi⟩
    have hi' : (i : Int) < (l.length : Int) := by omega
    have hw : IntKind.i64.wrap ((i : Int) + 1) = ((i + 1 : Nat) : Int) := by rw [w64_small (by omega) (by omega)]; simp
    have ho2 : out.length ≤ 1012 := by rw [hout, List.length_append, initLp_len]; have := List.length_take_le i l; omega
    have hb : (out.length + 1) * 64 ≤ 140737488355328 := by omega
    have hcd := evkey_Child_ev [(k : Int)] true i (by simp)
    simp only [List.map_cons, List.map_nil, intC] at hcd
    obtain ⟨t1, t2⟩ := app_evts_len out (initEv k i x).r
    have hr : (out ++ [initEv k i x]).map Evt.r = out.map Evt.r ++ [(initEv k i x).r] := by rw [List.map_append]; rfl
    refine .inl ⟨(out ++ [initEv k i x], g + 1), ?_, by simp only; rw [initLp_take hx, hout, List.append_assoc]⟩
    have hlo := evts_lo 1 (out ++ [initEv k i x])
    simp only
    rw [hr, List.length_append]
    rw [hr] at hlo
    have hil : ∀ n, loss n ([(k : Int), (i : Int)].map intC) = true := fun n => ints_lo n _
    simp only [initEv, Evt.r] at t2 hlo ⊢
    have hcd2 : ([(k : Int)] ++ [(i : Int)]).map intC = [(k : Int), (i : Int)].map intC := rfl
    rw [hcd2] at hcd
    generalize [(k : Int), (i : Int)].map intC = kl at hcd hlo t2 hil ⊢
    simp only [c_config_Initial_L2, Int.natCast_nonneg, Int.toNat_natCast, List.getElem?_map, Option.map_some, hx, hi', hw, hcd, hb, t1, hlo, Start.r, lps_lo, starts_lo, Go.Ev.exec, Go.Ev.evOpers, Go.Ev.evOper, Go.Ev.item_op, Go.Ev.item_P, Go.Ev.evOp, Go.Ev.appE, Go.Ev.evs, Go.Ev.Opnd.ev, Go.Ev.Env.get, Go.Ev.Env.set, Go.Ev.look, Go.Ev.cellsAt, Go.Ev.content, Go.Ev.loadC, Go.Ev.fillP, Go.Ev.fillR, Go.Ev.AV.cells, Go.Ev.AV.uc, Go.Ev.plains, Go.Ev.AV.plain, Go.Ev.bin_add, Go.Ev.bin_lss, Go.Ev.settle, Go.Ev.keep, Go.Ev.varsLo, Go.Ev.marksLo, Go.Ev.storeLo, Go.Ev.SObj.lo, Go.Ev.lo_v, Go.Ev.lo_fsl, Go.Ev.lo_sl, Go.Ev.los_nil, Go.Ev.los_cons, Go.Ev.loss_nil, Go.Ev.loss_cons, Go.Ev.okRows_nil, Go.Ev.okRows_cons, List.replicate_one, List.length_map, ↓Go.Ev.obind, Go.Ev.it1, ↓reduceIte, List.length_cons, List.length_nil, List.getElem?_cons_zero, List.getElem?_cons_succ, List.take_succ_cons, List.take_zero, List.take_nil, List.drop_succ_cons, List.drop_zero, List.drop_nil, List.cons_append, List.nil_append, List.append_nil, List.set_cons_zero, List.set_cons_succ, List.head?_cons, Nat.reduceAdd, Nat.reduceEqDiff, Nat.reduceMul, Nat.reduceLeDiff, Nat.reducePow, decide_true, Bool.and_self, Bool.false_eq_true, and_self, ne_eq, not_false_eq_true, List.cons_ne_nil, Nat.zero_add, Nat.lt_add_one, Nat.le_refl, eq_self]
  · rintro ⟨out, g⟩ hout
    rw [List.take_length] at hout
    simp only at hout ⊢
    simp only [c_config_Initial_L2, Int.lt_irrefl, Go.Ev.exec, Go.Ev.evOpers, Go.Ev.evOper, Go.Ev.item_op, Go.Ev.evOp, Go.Ev.Opnd.ev, Go.Ev.Env.get, Go.Ev.Env.set, Go.Ev.look, Go.Ev.bin_lss, ↓Go.Ev.obind, Go.Ev.it1, ↓reduceIte, List.length_append, Nat.reduceEqDiff, decide_false, Bool.false_eq_true, eq_self]
    exact ⟨_, rfl, g, rfl, rfl, by rw [hout], by rw [hout, List.length_append]; rfl, rfl, rfl, rfl⟩
end
end Go.Proofs.Ytlcakphdkpdenaa.K

namespace Go.Proofs.Ytlcakphdkpdenaa.K
open Go.Ev
set_option linter.unusedSimpArgs false
set_option linter.unusedVariables false
set_option maxRecDepth 10000
section
variable (c : Cfg)
structure Small12 (c : Cfg) : Prop where
  lps : c.lps.length ≤ 12
  lp : ∀ l ∈ c.lps, l.length ≤ 12
theorem Small12.len {c : Cfg} (h : Small12 c) (k : Nat) : (initL (c.lps.take k)).length ≤ 144 := by
  have := initL_len (lps := c.lps.take k) (m := 12) (fun l hl => h.lp l (List.mem_of_mem_take hl))
  have := List.length_take_le k c.lps
  have := List.length_take_le' k c.lps
  have := h.lps
  omega
theorem init_outer (h : Small12 c) :
    ∃ y, itB (exec (evL T) itL none c_config_Initial_L1) (Ev.settle [3, 9, 10, 11] true 1) ⟨[(3, .sl 0 0 0 0 false), (9, (.fsl ((c.lps).map lpC) false)), (10, (.v (.int .i64 (c.lps.length)))), (11, (.v (.int .i64 (0))))], []⟩ [.row 6 [] 0] = some y ∧
      ∃ g : Nat, y.1 = .exit 0 ∧ y.2.1.marks = [] ∧ y.2.2 = [.row 6 ((initL c.lps).map Evt.r) g] ∧ Ev.look y.2.1.vars 3 = some (.sl 0 g 0 (initL c.lps).length false) := by
  have key := itB_for (f := exec (evL T) itL none c_config_Initial_L1) (s := Ev.settle [3, 9, 10, 11] true 1) (α := List Evt × Nat)
    (fun i a => ⟨[(3, .sl 0 a.2 0 a.1.length false), (9, (.fsl ((c.lps).map lpC) false)), (10, (.v (.int .i64 (c.lps.length)))), (11, (.v (.int .i64 (i))))], []⟩) (fun i a => [.row 6 (a.1.map Evt.r) a.2])
    (fun i a => a.1 = initL (c.lps.take i)) c.lps.length
    (fun y => ∃ g : Nat, y.1 = .exit 0 ∧ y.2.1.marks = [] ∧ y.2.2 = [.row 6 ((initL c.lps).map Evt.r) g] ∧ Ev.look y.2.1.vars 3 = some (.sl 0 g 0 (initL c.lps).length false)) ?_ ?_ 0 ([], 0) (Nat.zero_le _) (by simp [initL])
  · exact key
  · rintro i ⟨out, g⟩ hi hout
    simp only at hout ⊢
    obtain ⟨x, hx⟩ : ∃ x, c.lps[i]? = some x := ⟨_, List.getElem?_eq_getElem hi⟩
    have hlps := h.lps
    have hi' : (i : Int) < (c.lps.length : Int) := by omega
    have hw : IntKind.i64.wrap ((i : Int) + 1) = ((i + 1 : Nat) : Int) := by rw [w64_small (by omega) (by omega)]; simp
    have hl := h.len i
    obtain ⟨⟨y, e, σ⟩, k1, g', k2, k3, k4, k5, k6, k7, k8⟩ := init_inner c i x out g (h.lp _ (List.mem_of_getElem? hx)) (by omega) (by rw [hout]; omega) c.lps.length
    simp only at k1 k2 k3 k4 k5 k6 k7 k8
    subst k2; subst k4
    refine .inl ⟨(out ++ initLp i x, g'), ?_, by simp only; rw [initL_take hx, hout]⟩
    simp only [List.length_append] at k5 ⊢
    simp only [c_config_Initial_L1, Int.natCast_nonneg, Int.toNat_natCast, List.getElem?_map, Option.map_some, hx, hi', hw, k1, k3, k5, k6, k7, k8, lpC, evts_lo, lps_lo, starts_lo, Go.Ev.exec, Go.Ev.evOpers, Go.Ev.evOper, Go.Ev.item_op, Go.Ev.evOp, Go.Ev.Opnd.ev, Go.Ev.Env.get, Go.Ev.Env.set, Go.Ev.look, Go.Ev.cellsAt, Go.Ev.loadC, Go.Ev.bin_add, Go.Ev.bin_lss, Go.Ev.settle, Go.Ev.keep, Go.Ev.varsLo, Go.Ev.marksLo, Go.Ev.storeLo, Go.Ev.SObj.lo, Go.Ev.lo_v, Go.Ev.lo_fsl, Go.Ev.lo_sl, List.length_map, ↓Go.Ev.obind, ↓Go.Ev.itL_itB, Go.Ev.it1, ↓reduceIte, List.length_cons, List.length_nil, List.take_succ_cons, List.take_nil, List.head?_cons, Nat.reduceEqDiff, decide_true, Bool.and_self, Bool.false_eq_true, and_self, Nat.zero_add, Nat.lt_add_one, eq_self]
  · rintro ⟨out, g⟩ hout
    rw [List.take_length] at hout
    simp only at hout ⊢
    simp only [c_config_Initial_L1, Int.lt_irrefl, Go.Ev.exec, Go.Ev.evOpers, Go.Ev.evOper, Go.Ev.item_op, Go.Ev.evOp, Go.Ev.Opnd.ev, Go.Ev.Env.get, Go.Ev.Env.set, Go.Ev.look, Go.Ev.bin_lss, ↓Go.Ev.obind, Go.Ev.it1, ↓reduceIte, Nat.reduceEqDiff, decide_false, Bool.false_eq_true, eq_self]
    exact ⟨_, rfl, g, rfl, rfl, by rw [hout], by rw [hout]; rfl⟩
theorem config_Initial_ev (h : Small12 c) : callZ (evL T) n_config_Initial [(.agg [(.fsl ((c.lps).map lpC) false), (.fsl ((c.progs).map progC) false), (.v (.int .i64 (c.look))), (.v (.int .i64 (c.fin))), (.v (.int .i64 (c.cap)))])] = some (.fsl ((sortL (initL c.lps)).map Evt.r) false) := by
  obtain ⟨⟨y, e, σ⟩, k1, g, k2, k3, k4, k5⟩ := init_outer c h
  simp only at k1 k2 k3 k4 k5
  subst k2; subst k4
  have hl := h.len c.lps.length
  rw [List.take_length] at hl
  have hs := evkey_SortEvents_evD (initL c.lps) false (by omega) (initL_keys _) (initL_dist _)
  have t1 := (app_evts_len (initL c.lps) []).1
  have h0 : (0 : Int) = ((0 : Nat) : Int) := rfl
  rw [callZ, evL_code ext_config_Initial code_config_Initial]
  simp only [c_config_Initial, k1, k3, k5, hs, t1, evts_lo, lps_lo, Go.Ev.runFunc, Go.Ev.exec, Go.Ev.evOpers, Go.Ev.evOper, Go.Ev.item_op, Go.Ev.item_P, Go.Ev.evOp, Go.Ev.evs, Go.Ev.Opnd.ev, Go.Ev.Env.get, Go.Ev.Env.set, Go.Ev.look, Go.Ev.argVars, Go.Ev.cellsAt, Go.Ev.loadC, Go.Ev.AV.cells, Go.Ev.plains, Go.Ev.AV.plain, Go.Ev.resVals, Go.Ev.resVal, Go.Ev.resOf, Go.Ev.kill, Go.Ev.leave, Go.Ev.settle, Go.Ev.keep, Go.Ev.varsLo, Go.Ev.marksLo, Go.Ev.storeLo, Go.Ev.SObj.lo, Go.Ev.lo_v, Go.Ev.lo_fsl, Go.Ev.lo_sl, Go.Ev.los_nil, Go.Ev.los_cons, Go.Ev.loss_nil, Go.Ev.frz_lo, List.length_map, ↓Go.Ev.obind, ↓Go.Ev.itL_itB, ↓reduceIte, List.length_cons, List.length_nil, List.getElem?_cons_zero, List.take_succ_cons, List.take_zero, List.take_nil, List.drop_zero, List.nil_append, List.set_cons_zero, List.head?_cons, Nat.reduceEqDiff, Nat.reduceLT, decide_true, Bool.and_self, Bool.false_eq_true, and_self, ne_eq, not_false_eq_true, List.cons_ne_nil, Nat.zero_add, Nat.lt_add_one, Nat.le_refl, eq_self]
theorem rinit_inner (k : Nat) (l : List Start) (hkl : c.lps[k]? = some l) (o0 : List Evt) (g0 : Nat) (hl : l.length ≤ 12) (hk : k ≤ 12) (ho : o0.length ≤ 1000) :
    ∃ y, itB (exec (evL T) itL none c_ref19_Initial_L2) (Ev.settle [1, 3, 4, 5] true 1) ⟨[(1, (.fptr [(.fsl ((c.lps).map lpC) false), (.fsl ((c.progs).map progC) false), (.v (.int .i64 (c.look))), (.v (.int .i64 (c.fin))), (.v (.int .i64 (c.cap)))])), (3, .sl 0 g0 0 o0.length false), (4, (.v (.int .i64 (k)))), (5, (.v (.int .i64 (0))))], []⟩ [.row 6 (o0.map Evt.r) g0] = some y ∧
      ∃ g : Nat, y.1 = .exit 2 ∧ y.2.1.marks = [] ∧ y.2.2 = [.row 6 ((o0 ++ initLp k l).map Evt.r) g] ∧ Ev.look y.2.1.vars 3 = some (.sl 0 g 0 (o0 ++ initLp k l).length false) ∧ Ev.look y.2.1.vars 1 = some (.fptr [(.fsl ((c.lps).map lpC) false), (.fsl ((c.progs).map progC) false), (.v (.int .i64 (c.look))), (.v (.int .i64 (c.fin))), (.v (.int .i64 (c.cap)))]) ∧ Ev.look y.2.1.vars 4 = some (.v (.int .i64 (k))) := by
  have key := itB_for (f := exec (evL T) itL none c_ref19_Initial_L2) (s := Ev.settle [1, 3, 4, 5] true 1) (α := List Evt × Nat)
    (fun i a => ⟨[(1, (.fptr [(.fsl ((c.lps).map lpC) false), (.fsl ((c.progs).map progC) false), (.v (.int .i64 (c.look))), (.v (.int .i64 (c.fin))), (.v (.int .i64 (c.cap)))])), (3, .sl 0 a.2 0 a.1.length false), (4, (.v (.int .i64 (k)))), (5, (.v (.int .i64 (i))))], []⟩) (fun i a => [.row 6 (a.1.map Evt.r) a.2])
    (fun i a => a.1 = o0 ++ initLp k (l.take i)) l.length
    (fun y => ∃ g : Nat, y.1 = .exit 2 ∧ y.2.1.marks = [] ∧ y.2.2 = [.row 6 ((o0 ++ initLp k l).map Evt.r) g] ∧ Ev.look y.2.1.vars 3 = some (.sl 0 g 0 (o0 ++ initLp k l).length false) ∧ Ev.look y.2.1.vars 1 = some (.fptr [(.fsl ((c.lps).map lpC) false), (.fsl ((c.progs).map progC) false), (.v (.int .i64 (c.look))), (.v (.int .i64 (c.fin))), (.v (.int .i64 (c.cap)))]) ∧ Ev.look y.2.1.vars 4 = some (.v (.int .i64 (k)))) ?_ ?_ 0 (o0, g0) (Nat.zero_le _) (by simp [initLp])
  · exact key
  · rintro i ⟨out, g⟩ hi hout
    simp only at hout ⊢
    obtain ⟨x, hx⟩ : ∃ x, l[i]? = some x := ⟨_, List.getElem?_eq_getElem hi⟩
    have hi' : (i : Int) < (l.length : Int) := by omega
    have hw : IntKind.i64.wrap ((i : Int) + 1) = ((i + 1 : Nat) : Int) := by rw [w64_small (by omega) (by omega)]; simp
    have ho2 : out.length ≤ 1012 := by rw [hout, List.length_append, initLp_len]; have := List.length_take_le i l; omega
    have hb : (out.length + 1) * 64 ≤ 140737488355328 := by omega
    obtain ⟨t1, t2⟩ := app_evts_len out (initEv k i x).r
    have hr : (out ++ [initEv k i x]).map Evt.r = out.map Evt.r ++ [(initEv k i x).r] := by rw [List.map_append]; rfl
    refine .inl ⟨(out ++ [initEv k i x], g + 1), ?_, by simp only; rw [initLp_take hx, hout, List.append_assoc]⟩
    have hlo := evts_lo 1 (out ++ [initEv k i x])
    simp only
    rw [hr, List.length_append]
    rw [hr] at hlo
    have hrep : ∀ v : List AV, List.replicate 2 v = [v, v] := fun _ => rfl
    simp only [initEv, Evt.r, List.map_cons, List.map_nil, intC] at t2 hlo ⊢
    simp only [c_ref19_Initial_L2, Int.natCast_nonneg, Int.toNat_natCast, List.getElem?_map, Option.map_some, hx, hkl, hi', hw, hb, t1, hlo, hrep, lpC, Start.r, lps_lo, progs_lo, Go.Ev.exec, Go.Ev.evOpers, Go.Ev.evOper, Go.Ev.item_op, Go.Ev.evOp, Go.Ev.appE, Go.Ev.Opnd.ev, Go.Ev.Env.get, Go.Ev.Env.set, Go.Ev.look, Go.Ev.cellsAt, Go.Ev.content, Go.Ev.loadC, Go.Ev.fillP, Go.Ev.fillR, Go.Ev.AV.cells, Go.Ev.AV.uc, Go.Ev.plains, Go.Ev.AV.plain, Go.Ev.bin_add, Go.Ev.bin_lss, Go.Ev.settle, Go.Ev.keep, Go.Ev.varsLo, Go.Ev.marksLo, Go.Ev.storeLo, Go.Ev.SObj.lo, Go.Ev.lo_v, Go.Ev.lo_fsl, Go.Ev.lo_fptr, Go.Ev.lo_sl, Go.Ev.los_nil, Go.Ev.los_cons, Go.Ev.okRows_nil, Go.Ev.okRows_cons, List.replicate_one, List.length_map, ↓Go.Ev.obind, Go.Ev.it1, ↓reduceIte, List.length_cons, List.length_nil, List.getElem?_cons_zero, List.take_succ_cons, List.take_zero, List.take_nil, List.drop_succ_cons, List.drop_zero, List.cons_append, List.nil_append, List.set_cons_zero, List.set_cons_succ, List.head?_cons, Nat.reduceAdd, Nat.reduceEqDiff, Nat.reduceMul, Nat.reduceLT, Nat.reduceLeDiff, Nat.reducePow, decide_true, Bool.and_self, Bool.false_eq_true, and_self, ne_eq, not_false_eq_true, List.cons_ne_nil, Nat.zero_add, Nat.lt_add_one, Nat.le_refl, eq_self]
  · rintro ⟨out, g⟩ hout
    rw [List.take_length] at hout
    simp only at hout ⊢
    simp only [c_ref19_Initial_L2, Int.natCast_nonneg, Int.toNat_natCast, List.getElem?_map, Option.map_some, hkl, lpC, Int.lt_irrefl, Go.Ev.exec, Go.Ev.evOpers, Go.Ev.evOper, Go.Ev.item_op, Go.Ev.evOp, Go.Ev.Opnd.ev, Go.Ev.Env.get, Go.Ev.Env.set, Go.Ev.look, Go.Ev.cellsAt, Go.Ev.loadC, Go.Ev.bin_lss, List.length_map, ↓Go.Ev.obind, Go.Ev.it1, ↓reduceIte, List.length_cons, List.length_nil, List.length_append, List.drop_zero, List.head?_cons, Nat.reduceEqDiff, decide_false, Bool.false_eq_true, Nat.zero_add, eq_self]
    exact ⟨_, rfl, g, rfl, rfl, by rw [hout], by rw [hout, List.length_append]; rfl, rfl, rfl⟩
theorem rinit_outer (h : Small12 c) :
    ∃ y, itB (exec (evL T) itL none c_ref19_Initial_L1) (Ev.settle [1, 3, 4] true 1) ⟨[(1, (.fptr [(.fsl ((c.lps).map lpC) false), (.fsl ((c.progs).map progC) false), (.v (.int .i64 (c.look))), (.v (.int .i64 (c.fin))), (.v (.int .i64 (c.cap)))])), (3, .sl 0 0 0 0 false), (4, (.v (.int .i64 (0))))], []⟩ [.row 6 [] 0] = some y ∧
      ∃ g : Nat, y.1 = .exit 0 ∧ y.2.1.marks = [] ∧ y.2.2 = [.row 6 ((initL c.lps).map Evt.r) g] ∧ Ev.look y.2.1.vars 3 = some (.sl 0 g 0 (initL c.lps).length false) := by
  have key := itB_for (f := exec (evL T) itL none c_ref19_Initial_L1) (s := Ev.settle [1, 3, 4] true 1) (α := List Evt × Nat)
    (fun i a => ⟨[(1, (.fptr [(.fsl ((c.lps).map lpC) false), (.fsl ((c.progs).map progC) false), (.v (.int .i64 (c.look))), (.v (.int .i64 (c.fin))), (.v (.int .i64 (c.cap)))])), (3, .sl 0 a.2 0 a.1.length false), (4, (.v (.int .i64 (i))))], []⟩) (fun i a => [.row 6 (a.1.map Evt.r) a.2])
    (fun i a => a.1 = initL (c.lps.take i)) c.lps.length
    (fun y => ∃ g : Nat, y.1 = .exit 0 ∧ y.2.1.marks = [] ∧ y.2.2 = [.row 6 ((initL c.lps).map Evt.r) g] ∧ Ev.look y.2.1.vars 3 = some (.sl 0 g 0 (initL c.lps).length false)) ?_ ?_ 0 ([], 0) (Nat.zero_le _) (by simp [initL])
  · exact key
  · rintro i ⟨out, g⟩ hi hout
    simp only at hout ⊢
    obtain ⟨x, hx⟩ : ∃ x, c.lps[i]? = some x := ⟨_, List.getElem?_eq_getElem hi⟩
    have hlps := h.lps
    have hi' : (i : Int) < (c.lps.length : Int) := by omega
    have hw : IntKind.i64.wrap ((i : Int) + 1) = ((i + 1 : Nat) : Int) := by rw [w64_small (by omega) (by omega)]; simp
    have hl := h.len i
    obtain ⟨⟨y, e, σ⟩, k1, g', k2, k3, k4, k5, k6, k7⟩ := rinit_inner c i x hx out g (h.lp _ (List.mem_of_getElem? hx)) (by omega) (by rw [hout]; omega)
    simp only at k1 k2 k3 k4 k5 k6 k7
    subst k2; subst k4
    refine .inl ⟨(out ++ initLp i x, g'), ?_, by simp only; rw [initL_take hx, hout]⟩
    simp only [List.length_append] at k5 ⊢
    simp only [c_ref19_Initial_L1, hi', hw, k1, k3, k5, k6, k7, evts_lo, lps_lo, progs_lo, Go.Ev.exec, Go.Ev.evOpers, Go.Ev.evOper, Go.Ev.item_op, Go.Ev.evOp, Go.Ev.Opnd.ev, Go.Ev.Env.get, Go.Ev.Env.set, Go.Ev.look, Go.Ev.cellsAt, Go.Ev.loadC, Go.Ev.bin_add, Go.Ev.bin_lss, Go.Ev.settle, Go.Ev.keep, Go.Ev.varsLo, Go.Ev.marksLo, Go.Ev.storeLo, Go.Ev.SObj.lo, Go.Ev.lo_v, Go.Ev.lo_fsl, Go.Ev.lo_fptr, Go.Ev.lo_sl, Go.Ev.los_nil, Go.Ev.los_cons, List.length_map, ↓Go.Ev.obind, ↓Go.Ev.itL_itB, Go.Ev.it1, ↓reduceIte, List.length_cons, List.length_nil, List.take_succ_cons, List.take_nil, List.drop_zero, List.head?_cons, Nat.reduceEqDiff, decide_true, Bool.and_self, Bool.false_eq_true, and_self, Nat.zero_add, Nat.lt_add_one, eq_self]
  · rintro ⟨out, g⟩ hout
    rw [List.take_length] at hout
    simp only at hout ⊢
    simp only [c_ref19_Initial_L1, Int.lt_irrefl, Go.Ev.exec, Go.Ev.evOpers, Go.Ev.evOper, Go.Ev.item_op, Go.Ev.evOp, Go.Ev.Opnd.ev, Go.Ev.Env.get, Go.Ev.Env.set, Go.Ev.look, Go.Ev.cellsAt, Go.Ev.loadC, Go.Ev.bin_lss, List.length_map, ↓Go.Ev.obind, Go.Ev.it1, ↓reduceIte, List.drop_zero, List.head?_cons, Nat.reduceEqDiff, decide_false, Bool.false_eq_true, eq_self]
    exact ⟨_, rfl, g, rfl, rfl, by rw [hout], by rw [hout]; rfl⟩
theorem ref19_Initial_ev (h : Small12 c) : ∃ cf : Bool, callZ (evL T) n_ref19_Initial [(.agg [(.fsl ((c.lps).map lpC) false), (.fsl ((c.progs).map progC) false), (.v (.int .i64 (c.look))), (.v (.int .i64 (c.fin))), (.v (.int .i64 (c.cap)))])] = some (.fsl ((sortL (initL c.lps)).map Evt.r) cf) := by
  obtain ⟨⟨y, e, σ⟩, k1, g, k2, k3, k4, k5⟩ := rinit_outer c h
  simp only at k1 k2 k3 k4 k5
  subst k2; subst k4
  have hl := h.len c.lps.length
  rw [List.take_length] at hl
  obtain ⟨cf, _, hs⟩ := ref03_SortEvents_evD (initL c.lps) false (by omega) (initL_keys _) (initL_dist _)
  refine ⟨cf, ?_⟩
  have t1 := (app_evts_len (initL c.lps) []).1
  rw [callZ, evL_code ext_ref19_Initial code_ref19_Initial]
  simp only [c_ref19_Initial, k1, k3, k5, hs, t1, evts_lo, lps_lo, progs_lo, Go.Ev.runFunc, Go.Ev.exec, Go.Ev.evOpers, Go.Ev.evOper, Go.Ev.item_op, Go.Ev.item_P, Go.Ev.evOp, Go.Ev.evs, Go.Ev.Opnd.ev, Go.Ev.Env.get, Go.Ev.Env.set, Go.Ev.look, Go.Ev.argVars, Go.Ev.AV.cells, Go.Ev.plains, Go.Ev.AV.plain, Go.Ev.resVals, Go.Ev.resVal, Go.Ev.resOf, Go.Ev.kill, Go.Ev.leave, Go.Ev.settle, Go.Ev.keep, Go.Ev.varsLo, Go.Ev.marksLo, Go.Ev.storeLo, Go.Ev.SObj.lo, Go.Ev.lo_v, Go.Ev.lo_fsl, Go.Ev.lo_fptr, Go.Ev.lo_sl, Go.Ev.los_nil, Go.Ev.los_cons, Go.Ev.loss_nil, Go.Ev.frz_lo, List.length_map, ↓Go.Ev.obind, ↓Go.Ev.itL_itB, ↓reduceIte, List.length_cons, List.length_nil, List.getElem?_cons_zero, List.take_succ_cons, List.take_zero, List.take_nil, List.drop_zero, List.nil_append, List.set_cons_zero, Nat.reduceEqDiff, Nat.reduceLT, decide_true, Bool.and_self, and_self, ne_eq, not_false_eq_true, List.cons_ne_nil, Nat.zero_add, Nat.lt_add_one, Nat.le_refl, eq_self]
end
end Go.Proofs.Ytlcakphdkpdenaa.K

namespace Go.Proofs.Ytlcakphdkpdenaa.K
open Go.Ev
set_option linter.unusedSimpArgs false
set_option linter.unusedVariables false
set_option maxRecDepth 10000
/-! ### Logical processes that are the same, whatever room their slices have -/
structure Lp.Short (x : Lp) : Prop where
  len : x.procs.length ≤ 9223372036854775807
  timer : ∀ q ∈ x.procs, q.timer.length ≤ 9223372036854775807
section
variable (a b : Lp) (cf df : Bool)
theorem SameLP_evF (h1 : a.Short) (h2 : b.Short) : callZ (evL T) n_ref19_SameLP [(.agg [(.v (.int .i64 (a.r0))), (.v (.int .i64 (a.r1))), (.fsl ((a.procs).map Pr.r) cf), (.v (.int .i64 (a.sum)))]), (.agg [(.v (.int .i64 (b.r0))), (.v (.int .i64 (b.r1))), (.fsl ((b.procs).map Pr.r) df), (.v (.int .i64 (b.sum)))])] = some (.v (.bool (decide (a = b)))) := by
  obtain ⟨ar0, ar1, ap, as'⟩ := a
  obtain ⟨br0, br1, bp, bs'⟩ := b
  obtain ⟨l1, t1⟩ := h1
  obtain ⟨l2, t2⟩ := h2
  dsimp only at *
  simp only [Lp.mk.injEq]
  rw [callZ, evL_code ext_ref19_SameLP code_ref19_SameLP]
  by_cases e1 : ar0 = br0
  case neg =>
    have e1' : (ar0 == br0) = false := beq_false_of_ne e1
    simp only [c_ref19_SameLP, e1, e1', false_and, decide_false, Bool.false_and, Go.Ev.runFunc, Go.Ev.exec, Go.Ev.evOpers, Go.Ev.evOper, Go.Ev.item_op, Go.Ev.evOp, Go.Ev.Opnd.ev, Go.Ev.Env.get, Go.Ev.Env.set, Go.Ev.Env.unset, Go.Ev.look, Go.Ev.argVars, Go.Ev.cellsAt, Go.Ev.loadC, Go.Ev.AV.cells, Go.Ev.plains, Go.Ev.AV.plain, Go.Ev.eqCells, Go.Ev.resVals, Go.Ev.resVal, Go.Ev.resOf, Go.Ev.kill, Go.Ev.leave, Go.Ev.storeLo, Go.Ev.lo_v, Go.Ev.frz_lo, ↓Go.Ev.obind, ↓reduceIte, List.length_cons, List.length_nil, List.take_succ_cons, List.take_zero, List.take_nil, List.drop_zero, Nat.reduceAdd, Nat.reduceEqDiff, Nat.reduceLeDiff, reduceCtorEq, decide_false, Bool.and_self, Bool.and_true, Bool.not_false, Bool.true_eq_false, and_self, ne_eq, not_false_eq_true, List.cons_ne_nil, Nat.zero_add, eq_self, Bool.false_and, false_and]
  by_cases e2 : ar1 = br1
  case neg =>
    have e2' : (ar1 == br1) = false := beq_false_of_ne e2
    simp only [c_ref19_SameLP, e1, e2, e2', false_and, and_false, decide_false, Bool.and_false, beq_self_eq_true, Bool.and_true, Go.Ev.runFunc, Go.Ev.exec, Go.Ev.evOpers, Go.Ev.evOper, Go.Ev.item_op, Go.Ev.evOp, Go.Ev.Opnd.ev, Go.Ev.Env.get, Go.Ev.Env.set, Go.Ev.Env.unset, Go.Ev.look, Go.Ev.argVars, Go.Ev.cellsAt, Go.Ev.loadC, Go.Ev.AV.cells, Go.Ev.plains, Go.Ev.AV.plain, Go.Ev.eqCells, Go.Ev.resVals, Go.Ev.resVal, Go.Ev.resOf, Go.Ev.kill, Go.Ev.leave, Go.Ev.storeLo, Go.Ev.lo_v, Go.Ev.frz_lo, ↓Go.Ev.obind, ↓reduceIte, List.length_cons, List.length_nil, List.take_succ_cons, List.take_zero, List.take_nil, List.drop_zero, Nat.reduceAdd, Nat.reduceEqDiff, Nat.reduceLeDiff, reduceCtorEq, decide_false, Bool.and_self, Bool.and_true, Bool.not_false, Bool.true_eq_false, and_self, ne_eq, not_false_eq_true, List.cons_ne_nil, Nat.zero_add, eq_self, beq_self_eq_true, Bool.and_false, false_and, and_false]
  subst e1
  subst e2
  by_cases e3 : as' = bs'
  case neg => simp only [c_ref19_SameLP, e3, and_false, decide_false, beq_self_eq_true, Go.Ev.runFunc, Go.Ev.exec, Go.Ev.evOpers, Go.Ev.evOper, Go.Ev.item_op, Go.Ev.evOp, Go.Ev.Opnd.ev, Go.Ev.Env.get, Go.Ev.Env.set, Go.Ev.Env.unset, Go.Ev.look, Go.Ev.argVars, Go.Ev.cellsAt, Go.Ev.loadC, Go.Ev.AV.cells, Go.Ev.plains, Go.Ev.AV.plain, Go.Ev.bin_neq, Go.Ev.eqCells, Go.Ev.resVals, Go.Ev.resVal, Go.Ev.resOf, Go.Ev.kill, Go.Ev.leave, Go.Ev.storeLo, Go.Ev.lo_v, Go.Ev.frz_lo, ↓Go.Ev.obind, ↓reduceIte, List.length_cons, List.length_nil, List.take_succ_cons, List.take_zero, List.take_nil, List.drop_succ_cons, List.drop_zero, List.head?_cons, Nat.reduceAdd, Nat.reduceEqDiff, Nat.reduceLeDiff, reduceCtorEq, decide_true, decide_false, Bool.and_self, Bool.not_true, Bool.false_eq_true, Bool.true_eq_false, and_self, ne_eq, not_false_eq_true, List.cons_ne_nil, Nat.zero_add, eq_self, beq_self_eq_true, and_false]
  subst e3
  by_cases hab : ap.length = bp.length
  case neg =>
    have hab' : ¬ (ap.length : Int) = (bp.length : Int) := by omega
    have : ¬ ap = bp := fun h => hab (by rw [h])
    simp only [c_ref19_SameLP, hab', this, and_false, decide_false, beq_self_eq_true, Go.Ev.runFunc, Go.Ev.exec, Go.Ev.evOpers, Go.Ev.evOper, Go.Ev.item_op, Go.Ev.evOp, Go.Ev.Opnd.ev, Go.Ev.Env.get, Go.Ev.Env.set, Go.Ev.look, Go.Ev.argVars, Go.Ev.cellsAt, Go.Ev.loadC, Go.Ev.AV.cells, Go.Ev.plains, Go.Ev.AV.plain, Go.Ev.bin_neq, Go.Ev.eqCells, Go.Ev.resVals, Go.Ev.resVal, Go.Ev.resOf, Go.Ev.kill, Go.Ev.leave, Go.Ev.storeLo, Go.Ev.lo_v, Go.Ev.frz_lo, List.length_map, ↓Go.Ev.obind, ↓reduceIte, List.length_cons, List.length_nil, List.take_succ_cons, List.take_zero, List.take_nil, List.drop_succ_cons, List.drop_zero, List.head?_cons, Nat.reduceAdd, Nat.reduceEqDiff, Nat.reduceLeDiff, reduceCtorEq, decide_true, decide_false, Bool.and_self, Bool.not_true, Bool.false_eq_true, and_self, and_true, ne_eq, not_false_eq_true, not_true_eq_false, List.cons_ne_nil, Nat.zero_add, eq_self, beq_self_eq_true, and_false]
  have hab' : (ap.length : Int) = (bp.length : Int) := by omega
  have hzl : (ap.zip bp).length = ap.length := by rw [List.length_zip, ← hab, Nat.min_self]
  have hL : ∃ y, itB (exec (evL T) itL none c_ref19_SameLP_L1) (Ev.settle [2, 3, 5] true 0) ⟨[(2, .fptr [(.v (.int .i64 (ar0))), (.v (.int .i64 (ar1))), (.fsl ((ap).map Pr.r) cf), (.v (.int .i64 (as')))]), (3, .fptr [(.v (.int .i64 (ar0))), (.v (.int .i64 (ar1))), (.fsl ((bp).map Pr.r) df), (.v (.int .i64 (as')))]), (5, (.v (.int .i64 (0))))], []⟩ [] = some y ∧ ((ap.zip bp).all (fun z => decide (z.1 = z.2)) = true ∧ (y.1 = .exit 0 ∧ y.2.1.marks = [] ∧ y.2.2 = []) ∨
      (ap.zip bp).all (fun z => decide (z.1 = z.2)) = false ∧ ∃ x, (ap.zip bp).find? (fun z => !decide (z.1 = z.2)) = some x ∧ (y.1 = .ret ∧ y.2.1.marks = [] ∧ y.2.2 = [.row 4 [x.1.r] 0, .row 4 [x.2.r] 0] ∧ Ev.look y.2.1.vars 4 = some (.v (.bool (false))))) := by
    refine itB_find (ap.zip bp) (fun i => ⟨[(2, .fptr [(.v (.int .i64 (ar0))), (.v (.int .i64 (ar1))), (.fsl ((ap).map Pr.r) cf), (.v (.int .i64 (as')))]), (3, .fptr [(.v (.int .i64 (ar0))), (.v (.int .i64 (ar1))), (.fsl ((bp).map Pr.r) df), (.v (.int .i64 (as')))]), (5, (.v (.int .i64 (i))))], []⟩) [] (fun z => decide (z.1 = z.2)) _ (fun x y => _) ?_ ?_ ?_
    · intro i x hi hx hp
      rw [hzl] at hi
      have hi' : (i : Int) < (ap.length : Int) := by omega
      have hw : IntKind.i64.wrap ((i : Int) + 1) = ((i + 1 : Nat) : Int) := by rw [w64_small (by omega) (by omega)]; simp
      obtain ⟨hxa, hxb⟩ := List.getElem?_zip_eq_some.1 hx
      obtain ⟨⟨p1, p2, p3, p4⟩, q⟩ := x
      have hv := SameKey_ev p4 p4 false false (t1 _ (List.mem_of_getElem? hxa)) (t1 _ (List.mem_of_getElem? hxa))
      simp only [decide_true] at hv
      simp only [decide_eq_true_eq] at hp
      subst hp
      cases p3 <;> simp only [c_ref19_SameLP_L1, Int.natCast_nonneg, Int.toNat_natCast, List.getElem?_map, Option.map_some, hxa, hxb, hi', hw, hv, procs_lo, ints_lo, Pr.r, Go.Ev.exec, Go.Ev.evOpers, Go.Ev.evOper, Go.Ev.item_op, Go.Ev.item_P, Go.Ev.evOp, Go.Ev.evs, Go.Ev.Opnd.ev, Go.Ev.Env.get, Go.Ev.Env.set, Go.Ev.look, Go.Ev.cellsAt, Go.Ev.loadC, Go.Ev.AV.cells, Go.Ev.plains, Go.Ev.AV.plain, Go.Ev.bin_add, Go.Ev.bin_neq, Go.Ev.bin_lss, Go.Ev.settle, Go.Ev.keep, Go.Ev.varsLo, Go.Ev.marksLo, Go.Ev.storeLo, Go.Ev.lo_v, Go.Ev.lo_fsl, Go.Ev.lo_fptr, Go.Ev.los_nil, Go.Ev.los_cons, List.length_map, ↓Go.Ev.obind, Go.Ev.it1, ↓reduceIte, List.length_cons, List.length_nil, List.getElem?_cons_zero, List.getElem?_cons_succ, List.take_succ_cons, List.take_zero, List.take_nil, List.drop_succ_cons, List.drop_zero, List.drop_nil, List.cons_append, List.nil_append, List.append_nil, List.set_cons_zero, List.set_cons_succ, List.head?_cons, Nat.reduceAdd, Nat.reduceEqDiff, decide_true, decide_false, Bool.and_self, Bool.not_true, Bool.false_eq_true, and_self, ne_eq, not_false_eq_true, not_true_eq_false, List.cons_ne_nil, Nat.zero_add, Nat.add_zero, Nat.le_refl, eq_self, beq_self_eq_true]
    · intro i x hi hx hp
      rw [hzl] at hi
      have hi' : (i : Int) < (ap.length : Int) := by omega
      obtain ⟨hxa, hxb⟩ := List.getElem?_zip_eq_some.1 hx
      obtain ⟨⟨p1, p2, p3, p4⟩, ⟨q1, q2, q3, q4⟩⟩ := x
      have hv := SameKey_ev p4 q4 false false (t1 _ (List.mem_of_getElem? hxa)) (t2 _ (List.mem_of_getElem? hxb))
      simp only [decide_eq_false_iff_not, Pr.mk.injEq] at hp
      by_cases f1 : p1 = q1
      case neg =>
        simp only [c_ref19_SameLP_L1, Int.natCast_nonneg, Int.toNat_natCast, List.getElem?_map, Option.map_some, hxa, hxb, hi', f1, Pr.r, Go.Ev.exec, Go.Ev.evOpers, Go.Ev.evOper, Go.Ev.item_op, Go.Ev.evOp, Go.Ev.Opnd.ev, Go.Ev.Env.get, Go.Ev.Env.set, Go.Ev.Env.unset, Go.Ev.look, Go.Ev.cellsAt, Go.Ev.loadC, Go.Ev.AV.cells, Go.Ev.plains, Go.Ev.AV.plain, Go.Ev.bin_neq, Go.Ev.bin_lss, List.length_map, ↓Go.Ev.obind, Go.Ev.it1, ↓reduceIte, List.length_cons, List.length_nil, List.getElem?_cons_zero, List.getElem?_cons_succ, List.take_succ_cons, List.take_zero, List.take_nil, List.drop_succ_cons, List.drop_zero, List.drop_nil, List.cons_append, List.nil_append, List.append_nil, List.set_cons_zero, List.set_cons_succ, List.head?_cons, Nat.reduceAdd, Nat.reduceEqDiff, decide_true, Bool.and_self, Bool.false_eq_true, Bool.true_eq_false, and_self, ne_eq, not_false_eq_true, List.cons_ne_nil, Nat.zero_add, Nat.add_zero, Nat.le_refl, eq_self]
        exact ⟨_, rfl, rfl, rfl, rfl, rfl⟩
      by_cases f2 : p2 = q2
      case neg =>
        simp only [c_ref19_SameLP_L1, Int.natCast_nonneg, Int.toNat_natCast, List.getElem?_map, Option.map_some, hxa, hxb, hi', f1, f2, Pr.r, Go.Ev.exec, Go.Ev.evOpers, Go.Ev.evOper, Go.Ev.item_op, Go.Ev.evOp, Go.Ev.Opnd.ev, Go.Ev.Env.get, Go.Ev.Env.set, Go.Ev.Env.unset, Go.Ev.look, Go.Ev.cellsAt, Go.Ev.loadC, Go.Ev.AV.cells, Go.Ev.plains, Go.Ev.AV.plain, Go.Ev.bin_neq, Go.Ev.bin_lss, List.length_map, ↓Go.Ev.obind, Go.Ev.it1, ↓reduceIte, List.length_cons, List.length_nil, List.getElem?_cons_zero, List.getElem?_cons_succ, List.take_succ_cons, List.take_zero, List.take_nil, List.drop_succ_cons, List.drop_zero, List.drop_nil, List.cons_append, List.nil_append, List.append_nil, List.set_cons_zero, List.set_cons_succ, List.head?_cons, Nat.reduceAdd, Nat.reduceEqDiff, decide_true, decide_false, Bool.and_self, Bool.false_eq_true, Bool.true_eq_false, and_self, ne_eq, not_false_eq_true, not_true_eq_false, List.cons_ne_nil, Nat.zero_add, Nat.add_zero, Nat.le_refl, eq_self]
        exact ⟨_, rfl, rfl, rfl, rfl, rfl⟩
      by_cases f3 : p3 = q3
      case neg =>
        cases p3 <;> cases q3 <;> first | exact absurd rfl f3 | (simp only [c_ref19_SameLP_L1, Int.natCast_nonneg, Int.toNat_natCast, List.getElem?_map, Option.map_some, hxa, hxb, hi', f1, f2, Pr.r, Go.Ev.exec, Go.Ev.evOpers, Go.Ev.evOper, Go.Ev.item_op, Go.Ev.item_P, Go.Ev.evOp, Go.Ev.evs, Go.Ev.Opnd.ev, Go.Ev.Env.get, Go.Ev.Env.set, Go.Ev.Env.unset, Go.Ev.look, Go.Ev.cellsAt, Go.Ev.loadC, Go.Ev.AV.cells, Go.Ev.plains, Go.Ev.AV.plain, Go.Ev.bin_neq, Go.Ev.bin_lss, Go.Ev.settle, Go.Ev.keep, Go.Ev.storeLo, List.length_map, ↓Go.Ev.obind, Go.Ev.it1, ↓reduceIte, List.length_cons, List.length_nil, List.getElem?_cons_zero, List.getElem?_cons_succ, List.take_succ_cons, List.take_zero, List.take_nil, List.drop_succ_cons, List.drop_zero, List.drop_nil, List.cons_append, List.nil_append, List.append_nil, List.set_cons_zero, List.set_cons_succ, List.head?_cons, Nat.reduceAdd, Nat.reduceEqDiff, decide_true, decide_false, Bool.and_self, Bool.false_eq_true, and_self, and_true, ne_eq, not_false_eq_true, not_true_eq_false, List.cons_ne_nil, Nat.zero_add, Nat.add_zero, Nat.le_refl, eq_self]; exact ⟨_, rfl, rfl, rfl, rfl, rfl⟩)
      have f4 : ¬ p4 = q4 := fun h => hp ⟨f1, f2, f3, h⟩
      simp only [f4, decide_false] at hv
      subst f3
      cases p3 <;> (simp only [c_ref19_SameLP_L1, Int.natCast_nonneg, Int.toNat_natCast, List.getElem?_map, Option.map_some, hxa, hxb, hi', f1, f2, hv, ints_lo, Pr.r, Go.Ev.exec, Go.Ev.evOpers, Go.Ev.evOper, Go.Ev.item_op, Go.Ev.item_P, Go.Ev.evOp, Go.Ev.evs, Go.Ev.Opnd.ev, Go.Ev.Env.get, Go.Ev.Env.set, Go.Ev.look, Go.Ev.cellsAt, Go.Ev.loadC, Go.Ev.AV.cells, Go.Ev.plains, Go.Ev.AV.plain, Go.Ev.bin_neq, Go.Ev.bin_lss, Go.Ev.lo_fsl, Go.Ev.los_nil, Go.Ev.los_cons, List.length_map, ↓Go.Ev.obind, Go.Ev.it1, ↓reduceIte, List.length_cons, List.length_nil, List.getElem?_cons_zero, List.getElem?_cons_succ, List.take_succ_cons, List.take_zero, List.take_nil, List.drop_succ_cons, List.drop_zero, List.drop_nil, List.cons_append, List.nil_append, List.append_nil, List.set_cons_zero, List.set_cons_succ, List.head?_cons, Nat.reduceAdd, Nat.reduceEqDiff, decide_true, decide_false, Bool.and_self, Bool.not_true, Bool.not_false, Bool.false_eq_true, and_self, ne_eq, not_false_eq_true, not_true_eq_false, List.cons_ne_nil, Nat.zero_add, Nat.add_zero, Nat.le_refl, eq_self, beq_self_eq_true]; exact ⟨_, rfl, rfl, rfl, rfl, rfl⟩)
    · rw [hzl]
      simp only [c_ref19_SameLP_L1, Int.lt_irrefl, Go.Ev.exec, Go.Ev.evOpers, Go.Ev.evOper, Go.Ev.item_op, Go.Ev.evOp, Go.Ev.Opnd.ev, Go.Ev.Env.get, Go.Ev.Env.set, Go.Ev.look, Go.Ev.cellsAt, Go.Ev.loadC, Go.Ev.bin_lss, List.length_map, ↓Go.Ev.obind, Go.Ev.it1, ↓reduceIte, List.drop_succ_cons, List.drop_zero, List.head?_cons, Nat.reduceEqDiff, decide_false, Bool.false_eq_true, eq_self]
      exact ⟨_, rfl, rfl, rfl, rfl⟩
  obtain ⟨⟨y, e, σ⟩, k1, k2⟩ := hL
  simp only at k2
  rcases k2 with ⟨k3, rfl, k4, rfl⟩ | ⟨k3, x, _, rfl, k4, rfl, k5⟩
  · have : ap = bp := (zip_all_eq' hab).1 k3
    subst this
    simp only [c_ref19_SameLP, k1, k4, procs_lo, beq_self_eq_true, and_self, decide_true, Go.Ev.runFunc, Go.Ev.exec, Go.Ev.evOpers, Go.Ev.evOper, Go.Ev.item_op, Go.Ev.evOp, Go.Ev.Opnd.ev, Go.Ev.Env.get, Go.Ev.Env.set, Go.Ev.look, Go.Ev.argVars, Go.Ev.cellsAt, Go.Ev.loadC, Go.Ev.AV.cells, Go.Ev.plains, Go.Ev.AV.plain, Go.Ev.bin_neq, Go.Ev.eqCells, Go.Ev.resVals, Go.Ev.resVal, Go.Ev.resOf, Go.Ev.kill, Go.Ev.leave, Go.Ev.settle, Go.Ev.keep, Go.Ev.varsLo, Go.Ev.marksLo, Go.Ev.storeLo, Go.Ev.lo_v, Go.Ev.lo_fsl, Go.Ev.lo_fptr, Go.Ev.los_nil, Go.Ev.los_cons, Go.Ev.frz_lo, List.length_map, ↓Go.Ev.obind, ↓Go.Ev.itL_itB, ↓reduceIte, List.length_cons, List.length_nil, List.take_succ_cons, List.take_zero, List.take_nil, List.drop_succ_cons, List.drop_zero, List.head?_cons, Nat.reduceAdd, Nat.reduceEqDiff, Nat.reduceLeDiff, reduceCtorEq, decide_true, decide_false, Bool.and_self, Bool.not_true, Bool.false_eq_true, and_self, ne_eq, not_false_eq_true, not_true_eq_false, List.cons_ne_nil, Nat.zero_add, eq_self, beq_self_eq_true]
  · have : ¬ ap = bp := fun h => by rw [(zip_all_eq' hab).2 h] at k3; cases k3
    simp only [this]
    simp only [c_ref19_SameLP, hab', k1, k4, k5, procs_lo, beq_self_eq_true, and_false, decide_false, Go.Ev.runFunc, Go.Ev.exec, Go.Ev.evOpers, Go.Ev.evOper, Go.Ev.item_op, Go.Ev.evOp, Go.Ev.Opnd.ev, Go.Ev.Env.get, Go.Ev.Env.set, Go.Ev.look, Go.Ev.argVars, Go.Ev.cellsAt, Go.Ev.loadC, Go.Ev.AV.cells, Go.Ev.plains, Go.Ev.AV.plain, Go.Ev.bin_neq, Go.Ev.eqCells, Go.Ev.resVals, Go.Ev.resVal, Go.Ev.resOf, Go.Ev.kill, Go.Ev.leave, Go.Ev.settle, Go.Ev.keep, Go.Ev.varsLo, Go.Ev.marksLo, Go.Ev.storeLo, Go.Ev.lo_v, Go.Ev.lo_fsl, Go.Ev.lo_fptr, Go.Ev.los_nil, Go.Ev.los_cons, Go.Ev.frz_lo, List.length_map, ↓Go.Ev.obind, ↓Go.Ev.itL_itB, ↓reduceIte, List.length_cons, List.length_nil, List.take_succ_cons, List.take_zero, List.take_nil, List.drop_succ_cons, List.drop_zero, List.head?_cons, Nat.reduceAdd, Nat.reduceEqDiff, Nat.reduceLeDiff, reduceCtorEq, decide_false, Bool.and_self, Bool.not_true, Bool.false_eq_true, and_self, and_true, ne_eq, not_false_eq_true, not_true_eq_false, List.cons_ne_nil, Nat.zero_add, eq_self, beq_self_eq_true, and_false]
end
/-- A logical process with its slice's room. -/
def lpF (x : Lp × Bool) : List AV := [(.v (.int .i64 (x.1.r0))), (.v (.int .i64 (x.1.r1))), (.fsl ((x.1.procs).map Pr.r) x.2), (.v (.int .i64 (x.1.sum)))]
theorem lpF_lo (n : Nat) (x : Lp × Bool) : los n (lpF x) = true := by simp only [lpF, procs_lo, Go.Ev.lo_v, Go.Ev.lo_fsl, Go.Ev.los_nil, Go.Ev.los_cons, Bool.and_self, eq_self]
theorem lpF_pl (x : Lp × Bool) : (lpF x).length = 4 ∧ plains (lpF x) = true := ⟨rfl, rfl⟩
theorem lpFs_lo (n : Nat) (l : List (Lp × Bool)) : loss n (l.map lpF) = true := loss_map (lpF_lo n) l
theorem lpFs_ok (l : List (Lp × Bool)) : okRows 4 (l.map lpF) = true := okRows_map lpF_pl l
section
variable (a b : List (Lp × Bool)) (c d : Bool)
theorem zip_all_fst : ∀ {a b : List (Lp × Bool)}, a.length = b.length → ((a.zip b).all (fun z => decide (z.1.1 = z.2.1)) = true ↔ a.map Prod.fst = b.map Prod.fst)
  | [], [], _ => by simp
  | x :: a, y :: b, h => by
    rw [List.zip_cons_cons, List.all_cons, Bool.and_eq_true, decide_eq_true_eq, zip_all_fst (a := a) (b := b) (by simpa using h), List.map_cons, List.map_cons, List.cons.injEq]
  | [], _ :: _, h => by simp at h
  | _ :: _, [], h => by simp at h
theorem SameLPs_ev (h1 : a.length ≤ 9223372036854775807) (h2 : b.length ≤ 9223372036854775807) (ha : ∀ x ∈ a, x.1.Short) (hb : ∀ x ∈ b, x.1.Short) :
    callZ (evL T) n_ref19_SameLPs [(.fsl ((a).map lpF) c), (.fsl ((b).map lpF) d)] = some (.v (.bool (decide (a.map Prod.fst = b.map Prod.fst)))) := by
  rw [callZ, evL_code ext_ref19_SameLPs code_ref19_SameLPs]
  by_cases hab : a.length = b.length
  case neg =>
    have hab' : ¬ (a.length : Int) = (b.length : Int) := by omega
    have : ¬ a.map Prod.fst = b.map Prod.fst := fun h => hab (by simpa using congrArg List.length h)
    simp only [c_ref19_SameLPs, hab', this, Go.Ev.runFunc, Go.Ev.exec, Go.Ev.evOpers, Go.Ev.evOper, Go.Ev.item_op, Go.Ev.evOp, Go.Ev.Opnd.ev, Go.Ev.Env.get, Go.Ev.Env.set, Go.Ev.look, Go.Ev.argVars, Go.Ev.bin_neq, Go.Ev.resVals, Go.Ev.resVal, Go.Ev.resOf, Go.Ev.kill, Go.Ev.leave, Go.Ev.storeLo, Go.Ev.lo_v, Go.Ev.frz_lo, List.length_map, ↓Go.Ev.obind, ↓reduceIte, List.length_cons, List.length_nil, List.take_nil, Nat.reduceAdd, Nat.reduceEqDiff, reduceCtorEq, decide_true, decide_false, and_self, ne_eq, not_false_eq_true, Nat.zero_add, eq_self]
  have hab' : (a.length : Int) = (b.length : Int) := by omega
  have hzl : (a.zip b).length = a.length := by rw [List.length_zip, ← hab, Nat.min_self]
  have hL : ∃ y, itB (exec (evL T) itL none c_ref19_SameLPs_L1) (Ev.settle [0, 1, 5] true 0) ⟨[(0, (.fsl ((a).map lpF) c)), (1, (.fsl ((b).map lpF) d)), (5, (.v (.int .i64 (0))))], []⟩ [] = some y ∧ ((a.zip b).all (fun z => decide (z.1.1 = z.2.1)) = true ∧ (y.1 = .exit 0 ∧ y.2.1.marks = [] ∧ y.2.2 = []) ∨
      (a.zip b).all (fun z => decide (z.1.1 = z.2.1)) = false ∧ ∃ x, (a.zip b).find? (fun z => !decide (z.1.1 = z.2.1)) = some x ∧ (y.1 = .ret ∧ y.2.1.marks = [] ∧ y.2.2 = [] ∧ Ev.look y.2.1.vars 4 = some (.v (.bool (false))))) := by
    refine itB_find (a.zip b) (fun i => ⟨[(0, (.fsl ((a).map lpF) c)), (1, (.fsl ((b).map lpF) d)), (5, (.v (.int .i64 (i))))], []⟩) [] (fun z => decide (z.1.1 = z.2.1)) _ (fun _ y => _) ?_ ?_ ?_
    · intro i x hi hx hp
      rw [hzl] at hi
      have hi' : (i : Int) < (a.length : Int) := by omega
      have hw : IntKind.i64.wrap ((i : Int) + 1) = ((i + 1 : Nat) : Int) := by rw [w64_small (by omega) (by omega)]; simp
      obtain ⟨hxa, hxb⟩ := List.getElem?_zip_eq_some.1 hx
      have hv := SameLP_evF x.1.1 x.2.1 x.1.2 x.2.2 (ha _ (List.mem_of_getElem? hxa)) (hb _ (List.mem_of_getElem? hxb))
      rw [hp] at hv
      simp only [c_ref19_SameLPs_L1, Int.natCast_nonneg, Int.toNat_natCast, List.getElem?_map, Option.map_some, hxa, hxb, hi', hw, hv, lpFs_lo, procs_lo, lpF, Go.Ev.exec, Go.Ev.evOpers, Go.Ev.evOper, Go.Ev.item_op, Go.Ev.item_P, Go.Ev.evOp, Go.Ev.evs, Go.Ev.Opnd.ev, Go.Ev.Env.get, Go.Ev.Env.set, Go.Ev.look, Go.Ev.cellsAt, Go.Ev.loadC, Go.Ev.bin_add, Go.Ev.bin_lss, Go.Ev.settle, Go.Ev.keep, Go.Ev.varsLo, Go.Ev.marksLo, Go.Ev.storeLo, Go.Ev.lo_v, Go.Ev.lo_agg, Go.Ev.lo_fsl, Go.Ev.los_nil, Go.Ev.los_cons, List.length_map, ↓Go.Ev.obind, Go.Ev.it1, ↓reduceIte, List.length_cons, List.length_nil, List.take_succ_cons, List.take_nil, Nat.reduceAdd, Nat.reduceEqDiff, reduceCtorEq, decide_true, Bool.and_self, Bool.not_true, Bool.false_eq_true, and_self, Nat.zero_add, Nat.le_refl, eq_self]
    · intro i x hi hx hp
      rw [hzl] at hi
      have hi' : (i : Int) < (a.length : Int) := by omega
      obtain ⟨hxa, hxb⟩ := List.getElem?_zip_eq_some.1 hx
      have hv := SameLP_evF x.1.1 x.2.1 x.1.2 x.2.2 (ha _ (List.mem_of_getElem? hxa)) (hb _ (List.mem_of_getElem? hxb))
      rw [hp] at hv
      simp only [c_ref19_SameLPs_L1, Int.natCast_nonneg, Int.toNat_natCast, List.getElem?_map, Option.map_some, hxa, hxb, hi', hv, procs_lo, lpF, Go.Ev.exec, Go.Ev.evOpers, Go.Ev.evOper, Go.Ev.item_op, Go.Ev.item_P, Go.Ev.evOp, Go.Ev.evs, Go.Ev.Opnd.ev, Go.Ev.Env.get, Go.Ev.Env.set, Go.Ev.look, Go.Ev.cellsAt, Go.Ev.loadC, Go.Ev.bin_lss, Go.Ev.lo_v, Go.Ev.lo_agg, Go.Ev.lo_fsl, Go.Ev.los_nil, Go.Ev.los_cons, List.length_map, ↓Go.Ev.obind, Go.Ev.it1, ↓reduceIte, List.length_cons, List.length_nil, List.take_succ_cons, List.take_nil, Nat.reduceAdd, Nat.reduceEqDiff, reduceCtorEq, decide_true, Bool.and_self, Bool.not_false, Nat.zero_add, Nat.le_refl, eq_self]
      exact ⟨_, rfl, rfl, rfl, rfl, rfl⟩
    · rw [hzl]
      simp only [c_ref19_SameLPs_L1, Int.lt_irrefl, Go.Ev.exec, Go.Ev.evOpers, Go.Ev.evOper, Go.Ev.item_op, Go.Ev.evOp, Go.Ev.Opnd.ev, Go.Ev.Env.get, Go.Ev.Env.set, Go.Ev.look, Go.Ev.bin_lss, List.length_map, ↓Go.Ev.obind, Go.Ev.it1, ↓reduceIte, Nat.reduceEqDiff, reduceCtorEq, decide_false, Bool.false_eq_true, eq_self]
      exact ⟨_, rfl, rfl, rfl, rfl⟩
  obtain ⟨⟨y, e, σ⟩, k1, k2⟩ := hL
  simp only at k2
  rcases k2 with ⟨k3, rfl, k4, rfl⟩ | ⟨k3, x, _, rfl, k4, rfl, k5⟩
  · have : a.map Prod.fst = b.map Prod.fst := (zip_all_fst hab).1 k3
    simp only [this, decide_true]
    simp only [c_ref19_SameLPs, hab', k1, k4, lpFs_lo, Go.Ev.runFunc, Go.Ev.exec, Go.Ev.evOpers, Go.Ev.evOper, Go.Ev.item_op, Go.Ev.evOp, Go.Ev.Opnd.ev, Go.Ev.Env.get, Go.Ev.Env.set, Go.Ev.look, Go.Ev.argVars, Go.Ev.bin_neq, Go.Ev.resVals, Go.Ev.resVal, Go.Ev.resOf, Go.Ev.kill, Go.Ev.leave, Go.Ev.settle, Go.Ev.keep, Go.Ev.varsLo, Go.Ev.marksLo, Go.Ev.storeLo, Go.Ev.lo_v, Go.Ev.lo_fsl, Go.Ev.frz_lo, List.length_map, ↓Go.Ev.obind, ↓Go.Ev.itL_itB, ↓reduceIte, List.length_cons, List.length_nil, List.take_nil, Nat.reduceAdd, Nat.reduceEqDiff, reduceCtorEq, decide_false, Bool.and_self, Bool.false_eq_true, and_self, ne_eq, not_true_eq_false, Nat.zero_add, eq_self]
  · have : ¬ a.map Prod.fst = b.map Prod.fst := fun h => by rw [(zip_all_fst hab).2 h] at k3; cases k3
    simp only [this]
    simp only [c_ref19_SameLPs, hab', k1, k4, k5, lpFs_lo, Go.Ev.runFunc, Go.Ev.exec, Go.Ev.evOpers, Go.Ev.evOper, Go.Ev.item_op, Go.Ev.evOp, Go.Ev.Opnd.ev, Go.Ev.Env.get, Go.Ev.Env.set, Go.Ev.look, Go.Ev.argVars, Go.Ev.bin_neq, Go.Ev.resVals, Go.Ev.resVal, Go.Ev.resOf, Go.Ev.kill, Go.Ev.leave, Go.Ev.settle, Go.Ev.keep, Go.Ev.varsLo, Go.Ev.marksLo, Go.Ev.storeLo, Go.Ev.lo_v, Go.Ev.lo_fsl, Go.Ev.frz_lo, List.length_map, ↓Go.Ev.obind, ↓Go.Ev.itL_itB, ↓reduceIte, List.length_cons, List.length_nil, List.take_nil, Nat.reduceAdd, Nat.reduceEqDiff, reduceCtorEq, decide_false, Bool.and_self, Bool.false_eq_true, and_self, ne_eq, not_true_eq_false, Nat.zero_add, eq_self]
end
end Go.Proofs.Ytlcakphdkpdenaa.K

namespace Go.Proofs.Ytlcakphdkpdenaa.K
open Go.Ev
set_option linter.unusedSimpArgs false
set_option linter.unusedVariables false
set_option maxRecDepth 10000
/-! ### The first states -/
def stP (s : Start) : Pr := ⟨s.prog, 0, true, []⟩
def stLp (ps : List Pr) : Lp × Bool := (⟨0, 0, ps, 0⟩, decide (ps = []))
def RowOk (σ : Store) (lim : Nat) (row : List AV) (ps : List Pr) : Prop :=
  ps = [] ∧ row = [(.v (.int .i64 (0))), (.v (.int .i64 (0))), .fsl [] true, (.v (.int .i64 (0)))] ∨ ps ≠ [] ∧ ∃ o g, 0 < o ∧ o < lim ∧ row = [(.v (.int .i64 (0))), (.v (.int .i64 (0))), .sl o g 0 ps.length false, (.v (.int .i64 (0)))] ∧ σ[o]? = some (.row 4 (ps.map Pr.r) g)
theorem RowOk.frz {σ : Store} {lim d : Nat} {row : List AV} {ps : List Pr} (h : RowOk σ lim row ps) : omap (Go.Ev.frz σ (d + 1)) row = some (lpF (stLp ps)) := by
  rcases h with ⟨rfl, rfl⟩ | ⟨h1, o, g, _, _, rfl, h2⟩
  · rfl
  · have t1 : List.take ps.length (ps.map Pr.r) = ps.map Pr.r := List.take_of_length_le (by simp)
    simp only [omap_cons, omap_nil, frz_own, h2, t1, omap_los, procs_lo, lpF, stLp, h1, Go.Ev.lo_v, Go.Ev.frz_lo, Go.Ev.frz_own, Go.Ev.omap_los, Go.Ev.omap_nil, Go.Ev.omap_cons, List.length_map, ↓Go.Ev.obind, ↓reduceIte, List.drop_zero, decide_false, and_self, Nat.zero_add, Nat.le_refl, eq_self]
def RowsOk (σ : Store) (lim : Nat) : List (List AV) → List (List Pr) → Prop
  | [], [] => True
  | r :: rs, p :: ps => RowOk σ lim r p ∧ RowsOk σ lim rs ps
  | _, _ => False
theorem RowOk.mono {σ σ' : Store} {lim lim' : Nat} {row : List AV} {ps : List Pr} (h : RowOk σ lim row ps) (hl : lim ≤ lim') (hσ : ∀ o, 0 < o → o < lim → σ'[o]? = σ[o]?) : RowOk σ' lim' row ps := by
  rcases h with h | ⟨h1, o, g, h2, h3, h4, h5⟩
  · exact .inl h
  · exact .inr ⟨h1, o, g, h2, by omega, h4, by rw [hσ o h2 h3]; exact h5⟩
theorem RowsOk.mono {σ σ' : Store} {lim lim' : Nat} (hl : lim ≤ lim') (hσ : ∀ o, 0 < o → o < lim → σ'[o]? = σ[o]?) : ∀ {rs : List (List AV)} {ps : List (List Pr)}, RowsOk σ lim rs ps → RowsOk σ' lim' rs ps
  | [], [], h => trivial
  | r :: rs, p :: ps, h => ⟨h.1.mono hl hσ, RowsOk.mono hl hσ h.2⟩
  | [], _ :: _, h => h.elim
  | _ :: _, [], h => h.elim
theorem RowsOk.snoc {σ : Store} {lim : Nat} {r : List AV} {p : List Pr} (hr : RowOk σ lim r p) : ∀ {rs : List (List AV)} {ps : List (List Pr)}, RowsOk σ lim rs ps → RowsOk σ lim (rs ++ [r]) (ps ++ [p])
  | [], [], h => ⟨hr, trivial⟩
  | r' :: rs, p' :: ps, h => ⟨h.1, RowsOk.snoc hr h.2⟩
  | [], _ :: _, h => h.elim
  | _ :: _, [], h => h.elim
theorem RowsOk.frz {σ : Store} {lim d : Nat} : ∀ {rs : List (List AV)} {ps : List (List Pr)}, RowsOk σ lim rs ps → omap (omap (Go.Ev.frz σ (d + 1))) rs = some ((ps.map stLp).map lpF)
  | [], [], h => rfl
  | r :: rs, p :: ps, h => by rw [omap_cons, h.1.frz, RowsOk.frz h.2]; rfl
  | [], _ :: _, h => h.elim
  | _ :: _, [], h => h.elim
theorem RowsOk.len {σ : Store} {lim : Nat} : ∀ {rs : List (List AV)} {ps : List (List Pr)}, RowsOk σ lim rs ps → rs.length = ps.length
  | [], [], h => rfl
  | r :: rs, p :: ps, h => by rw [List.length_cons, List.length_cons, RowsOk.len h.2]
  | [], _ :: _, h => h.elim
  | _ :: _, [], h => h.elim
section
variable (c : Cfg)
/-- How far the states of one logical process are built. -/
def Part (τ0 τ : Store) (i : Nat) (l : List Start) (rk : List AV) : Prop :=
  τ0.length ≤ τ.length ∧ (∀ j, j < τ0.length → τ[j]? = τ0[j]?) ∧
  (i = 0 ∧ rk = [(.v (.int .i64 (0))), (.v (.int .i64 (0))), .fsl [] true, (.v (.int .i64 (0)))] ∨ 0 < i ∧ ∃ o g, τ0.length ≤ o ∧ o < τ.length ∧ rk = [(.v (.int .i64 (0))), (.v (.int .i64 (0))), .sl (o + 1) g 0 i false, (.v (.int .i64 (0)))] ∧ τ[o]? = some (.row 4 (((l.take i).map stP).map Pr.r) g))
theorem Part.rowOk {τ0 τ : Store} {l : List Start} {rk : List AV} (h : Part τ0 τ l.length l rk) (x : SObj) : RowOk (x :: τ) (τ.length + 1) rk (l.map stP) := by
  obtain ⟨_, _, h⟩ := h
  rcases h with ⟨h1, h2⟩ | ⟨h1, o, g, h2, h3, h4, h5⟩
  · exact .inl ⟨by rw [List.eq_nil_of_length_eq_zero h1]; rfl, h2⟩
  · refine .inr ⟨fun e => by rw [List.map_eq_nil_iff] at e; subst e; simp at h1, o + 1, g, by omega, by omega, by rw [h4, List.length_map], ?_⟩
    rw [List.take_length] at h5
    rw [List.getElem?_cons_succ]; exact h5
theorem states_inner (k n : Nat) (l : List Start) (R1 R2 : List (List AV)) (hk : k = R1.length) (hn : n = R1.length + 1 + R2.length) (hl : l.length ≤ 12) (τ0 : Store) :
    ∃ y, itB (exec (evL T) itL none c_config_States_L2) (Ev.settle [3, 4, 13, 14, 15, 20, 21, 22] false (τ0.length + 1)) ⟨[(3, .sl 0 0 0 n true), (4, (.v (.int .i64 (k)))), (13, (.fsl ((c.lps).map lpC) false)), (14, (.v (.int .i64 (n)))), (15, (.v (.int .i64 (k)))), (20, (.fsl ((l).map Start.r) false)), (21, (.v (.int .i64 (l.length)))), (22, (.v (.int .i64 (0))))], []⟩ (.row 4 (R1 ++ [(.v (.int .i64 (0))), (.v (.int .i64 (0))), .fsl [] true, (.v (.int .i64 (0)))] :: R2) 0 :: τ0) = some y ∧
      ∃ (rk : List AV) (τ : Store), y.1 = .exit 2 ∧ y.2.1.marks = [] ∧ y.2.2 = .row 4 (R1 ++ rk :: R2) 0 :: τ ∧ Part τ0 τ l.length l rk ∧ Ev.look y.2.1.vars 3 = some (.sl 0 0 0 n true) ∧ Ev.look y.2.1.vars 13 = some (.fsl ((c.lps).map lpC) false) ∧ Ev.look y.2.1.vars 14 = some (.v (.int .i64 (n))) ∧ Ev.look y.2.1.vars 15 = some (.v (.int .i64 (k))) := by
  have key := itB_for (f := exec (evL T) itL none c_config_States_L2) (s := Ev.settle [3, 4, 13, 14, 15, 20, 21, 22] false (τ0.length + 1)) (α := List AV × Store)
    (fun i a => ⟨[(3, .sl 0 0 0 n true), (4, (.v (.int .i64 (k)))), (13, (.fsl ((c.lps).map lpC) false)), (14, (.v (.int .i64 (n)))), (15, (.v (.int .i64 (k)))), (20, (.fsl ((l).map Start.r) false)), (21, (.v (.int .i64 (l.length)))), (22, (.v (.int .i64 (i))))], []⟩) (fun i a => .row 4 (R1 ++ a.1 :: R2) 0 :: a.2)
    (fun i a => Part τ0 a.2 i l a.1) l.length
    (fun y => ∃ (rk : List AV) (τ : Store), y.1 = .exit 2 ∧ y.2.1.marks = [] ∧ y.2.2 = .row 4 (R1 ++ rk :: R2) 0 :: τ ∧ Part τ0 τ l.length l rk ∧ Ev.look y.2.1.vars 3 = some (.sl 0 0 0 n true) ∧ Ev.look y.2.1.vars 13 = some (.fsl ((c.lps).map lpC) false) ∧ Ev.look y.2.1.vars 14 = some (.v (.int .i64 (n))) ∧ Ev.look y.2.1.vars 15 = some (.v (.int .i64 (k)))) ?_ ?_ 0 ([(.v (.int .i64 (0))), (.v (.int .i64 (0))), .fsl [] true, (.v (.int .i64 (0)))], τ0) (Nat.zero_le _) ⟨Nat.le_refl _, fun _ _ => rfl, .inl ⟨rfl, rfl⟩⟩
  · exact key
  · rintro i ⟨rk, τ⟩ hi ⟨h1, h2, h3⟩
    simp only at h1 h2 h3 ⊢
    obtain ⟨x, hx⟩ : ∃ x, l[i]? = some x := ⟨_, List.getElem?_eq_getElem hi⟩
    have hi' : (i : Int) < (l.length : Int) := by omega
    have hw : IntKind.i64.wrap ((i : Int) + 1) = ((i + 1 : Nat) : Int) := by rw [w64_small (by omega) (by omega)]; simp
    have rg : ∀ r : List AV, (R1 ++ r :: R2)[k]? = some r := fun r => by rw [hk]; simp
    have rs : ∀ r v : List AV, (R1 ++ r :: R2).set k v = R1 ++ v :: R2 := fun r v => by rw [hk]; simp []
    have rk' : k < n := by omega
    have tg : ∀ v : SObj, (τ ++ [v])[τ.length]? = some v := fun v => by simp
    have ts : ∀ v w : SObj, (τ ++ [v]).set τ.length w = τ ++ [w] := fun v w => by simp []
    obtain ⟨xp, xt⟩ := x
    rcases h3 with ⟨hi0, rfl⟩ | ⟨h3, o, g, h4, h5, rfl, h6⟩
    · refine .inl ⟨([(.v (.int .i64 (0))), (.v (.int .i64 (0))), .sl (τ.length + 1 + 1) 0 0 1 false, (.v (.int .i64 (0)))], τ ++ [.row 2 [[(.v (.int .i64 (xp))), (.v (.int .i64 (xt)))]] 0, .row 4 [(stP ⟨xp, xt⟩).r] 0]), ?_, ?_⟩
      · simp only [c_config_States_L2, Int.natCast_nonneg, Int.toNat_natCast, List.getElem?_map, Option.map_some, hx, hi', hw, rg, rs, rk', tg, ts, List.append_assoc, List.map_nil, Start.r, stP, Pr.r, Go.Ev.exec, Go.Ev.evOpers, Go.Ev.evOper, Go.Ev.item_op, Go.Ev.evOp, Go.Ev.appE, Go.Ev.Opnd.ev, Go.Ev.Env.get, Go.Ev.Env.set, Go.Ev.look, Go.Ev.cellsAt, Go.Ev.content, Go.Ev.loadC, Go.Ev.fillP, Go.Ev.fillR, Go.Ev.AV.cells, Go.Ev.AV.uc, Go.Ev.plains, Go.Ev.AV.plain, Go.Ev.bin_add, Go.Ev.bin_lss, Go.Ev.settle, Go.Ev.keep, Go.Ev.okRows_nil, Go.Ev.okRows_cons, List.replicate_one, ↓Go.Ev.obind, Go.Ev.it1, ↓reduceIte, List.length_cons, List.length_nil, List.length_append, List.getElem?_cons_zero, List.getElem?_cons_succ, List.take_succ_cons, List.take_zero, List.take_nil, List.drop_succ_cons, List.drop_zero, List.drop_nil, List.cons_append, List.nil_append, List.append_nil, List.set_cons_zero, List.set_cons_succ, List.head?_cons, Nat.reduceAdd, Nat.reduceEqDiff, Nat.reduceMul, Nat.reduceLT, Nat.reduceLeDiff, Nat.reducePow, decide_true, Bool.and_self, Bool.false_eq_true, and_self, ne_eq, not_false_eq_true, not_true_eq_false, List.cons_ne_nil, Nat.zero_add, Nat.add_zero, Nat.lt_add_one, Nat.le_refl, eq_self]
      · refine ⟨by simp; omega, fun j hj => by rw [List.getElem?_append_left (by omega)]; exact h2 j hj, .inr ⟨by omega, τ.length + 1, 0, by omega, by simp, by rw [hi0], ?_⟩⟩
        rw [take_next hx, hi0]
        simp
    · have og : ∀ v : SObj, (τ ++ [v])[o]? = some (.row 4 (((l.take i).map stP).map Pr.r) g) := fun v => by rw [List.getElem?_append_left h5]; exact h6
      have ln : (((l.take i).map stP).map Pr.r).length = i := by simp; omega
      have tk : List.take i (((l.take i).map stP).map Pr.r) = ((l.take i).map stP).map Pr.r := List.take_of_length_le (by simp; omega)
      have bd : (i + 1) * 48 ≤ 140737488355328 := by omega
      have il : i ≤ i := Nat.le_refl _
      have nx : ((l.take (i + 1)).map stP).map Pr.r = ((l.take i).map stP).map Pr.r ++ [(stP ⟨xp, xt⟩).r] := by rw [take_next hx]; simp
      refine .inl ⟨([(.v (.int .i64 (0))), (.v (.int .i64 (0))), .sl (o + 1) (g + 1) 0 (i + 1) false, (.v (.int .i64 (0)))], (τ ++ [SObj.row 2 [[(.v (.int .i64 (xp))), (.v (.int .i64 (xt)))]] 0] : List SObj).set o (.row 4 (((l.take (i + 1)).map stP).map Pr.r) (g + 1))), ?_, ?_⟩
      · simp only
        rw [nx]
        generalize ((l.take i).map stP).map Pr.r = PR at og ln tk ⊢
        simp only [c_config_States_L2, Int.natCast_nonneg, Int.toNat_natCast, List.getElem?_map, Option.map_some, hx, hi', hw, rg, rs, rk', tg, ts, og, ln, tk, bd, il, List.map_nil, Start.r, stP, Pr.r, Go.Ev.exec, Go.Ev.evOpers, Go.Ev.evOper, Go.Ev.item_op, Go.Ev.evOp, Go.Ev.appE, Go.Ev.Opnd.ev, Go.Ev.Env.get, Go.Ev.Env.set, Go.Ev.look, Go.Ev.cellsAt, Go.Ev.content, Go.Ev.loadC, Go.Ev.fillP, Go.Ev.fillR, Go.Ev.AV.cells, Go.Ev.AV.uc, Go.Ev.plains, Go.Ev.AV.plain, Go.Ev.bin_add, Go.Ev.bin_lss, Go.Ev.settle, Go.Ev.keep, Go.Ev.okRows_nil, Go.Ev.okRows_cons, List.replicate_one, ↓Go.Ev.obind, Go.Ev.it1, ↓reduceIte, List.length_cons, List.length_nil, List.getElem?_cons_zero, List.getElem?_cons_succ, List.take_succ_cons, List.take_zero, List.take_nil, List.drop_succ_cons, List.drop_zero, List.drop_nil, List.cons_append, List.nil_append, List.append_nil, List.set_cons_zero, List.set_cons_succ, List.head?_cons, Nat.reduceAdd, Nat.reduceEqDiff, Nat.reduceMul, Nat.reduceLeDiff, Nat.reducePow, decide_true, Bool.and_self, Bool.false_eq_true, and_self, ne_eq, not_false_eq_true, List.cons_ne_nil, Nat.zero_add, Nat.add_zero, Nat.lt_add_one, Nat.le_refl, eq_self]
      · refine ⟨by simp; omega, fun j hj => ?_, .inr ⟨by omega, o, g + 1, h4, by simp; omega, rfl, ?_⟩⟩
        · rw [List.getElem?_set_ne (by omega), List.getElem?_append_left (by omega)]; exact h2 j hj
        · rw [List.getElem?_set_self (by simp; omega)]
  · rintro ⟨rk, τ⟩ hP
    simp only at hP ⊢
    simp only [c_config_States_L2, Int.lt_irrefl, Go.Ev.exec, Go.Ev.evOpers, Go.Ev.evOper, Go.Ev.item_op, Go.Ev.evOp, Go.Ev.Opnd.ev, Go.Ev.Env.get, Go.Ev.Env.set, Go.Ev.look, Go.Ev.bin_lss, ↓Go.Ev.obind, Go.Ev.it1, ↓reduceIte, Nat.reduceEqDiff, decide_false, Bool.false_eq_true, eq_self]
    exact ⟨_, rfl, rk, τ, rfl, rfl, rfl, hP, rfl, rfl, rfl, rfl⟩
end
end Go.Proofs.Ytlcakphdkpdenaa.K

namespace Go.Proofs.Ytlcakphdkpdenaa.K
open Go.Ev
set_option linter.unusedSimpArgs false
set_option linter.unusedVariables false
set_option maxRecDepth 10000
def stPs (lps : List (List Start)) : List (List Pr) := lps.map fun l => l.map stP
def statesL (lps : List (List Start)) : List (Lp × Bool) := (stPs lps).map stLp
section
variable (c : Cfg)
theorem states_outer (h : Small12 c) :
    ∃ y, itB (exec (evL T) itL none c_config_States_L1) (Ev.settle [3, 13, 14, 15] false 1) ⟨[(3, .sl 0 0 0 c.lps.length true), (13, (.fsl ((c.lps).map lpC) false)), (14, (.v (.int .i64 (c.lps.length)))), (15, (.v (.int .i64 (0))))], []⟩ [.row 4 (List.replicate c.lps.length [(.v (.int .i64 (0))), (.v (.int .i64 (0))), .fsl [] true, (.v (.int .i64 (0)))]) 0] = some y ∧
      ∃ (R : List (List AV)) (τ : Store), y.1 = .exit 0 ∧ y.2.1.marks = [] ∧ y.2.2 = .row 4 R 0 :: τ ∧ RowsOk y.2.2 (τ.length + 1) R (stPs c.lps) ∧ Ev.look y.2.1.vars 3 = some (.sl 0 0 0 c.lps.length true) := by
  have key := itB_for (f := exec (evL T) itL none c_config_States_L1) (s := Ev.settle [3, 13, 14, 15] false 1) (α := List (List AV) × Store)
    (fun i a => ⟨[(3, .sl 0 0 0 c.lps.length true), (13, (.fsl ((c.lps).map lpC) false)), (14, (.v (.int .i64 (c.lps.length)))), (15, (.v (.int .i64 (i))))], []⟩) (fun i a => .row 4 (a.1 ++ List.replicate (c.lps.length - i) [(.v (.int .i64 (0))), (.v (.int .i64 (0))), .fsl [] true, (.v (.int .i64 (0)))]) 0 :: a.2)
    (fun i a => ∀ x : SObj, RowsOk (x :: a.2) (a.2.length + 1) a.1 (stPs (c.lps.take i))) c.lps.length
    (fun y => ∃ (R : List (List AV)) (τ : Store), y.1 = .exit 0 ∧ y.2.1.marks = [] ∧ y.2.2 = .row 4 R 0 :: τ ∧ RowsOk y.2.2 (τ.length + 1) R (stPs c.lps) ∧ Ev.look y.2.1.vars 3 = some (.sl 0 0 0 c.lps.length true)) ?_ ?_ 0 ([], []) (Nat.zero_le _) (fun _ => trivial)
  · exact key
  · rintro i ⟨R, τ⟩ hi hR
    simp only at hR ⊢
    obtain ⟨x, hx⟩ : ∃ x, c.lps[i]? = some x := ⟨_, List.getElem?_eq_getElem hi⟩
    have hlps := h.lps
    have hi' : (i : Int) < (c.lps.length : Int) := by omega
    have hw : IntKind.i64.wrap ((i : Int) + 1) = ((i + 1 : Nat) : Int) := by rw [w64_small (by omega) (by omega)]; simp
    have hRl : i = R.length := by rw [(hR .dead).len]; simp [stPs]; omega
    have hrep : List.replicate (c.lps.length - i) ([(.v (.int .i64 (0))), (.v (.int .i64 (0))), .fsl [] true, (.v (.int .i64 (0)))] : List AV) = ([(.v (.int .i64 (0))), (.v (.int .i64 (0))), .fsl [] true, (.v (.int .i64 (0)))] : List AV) :: List.replicate (c.lps.length - (i + 1)) ([(.v (.int .i64 (0))), (.v (.int .i64 (0))), .fsl [] true, (.v (.int .i64 (0)))] : List AV) := by
      rw [show c.lps.length - i = (c.lps.length - (i + 1)) + 1 by omega]; rfl
    obtain ⟨⟨y, e, σ⟩, k1, rk, τ', k2, k3, k4, k5, k6, k7, k8, k9⟩ := states_inner c i c.lps.length x R (List.replicate (c.lps.length - (i + 1)) [(.v (.int .i64 (0))), (.v (.int .i64 (0))), .fsl [] true, (.v (.int .i64 (0)))]) hRl (by simp; omega) (h.lp _ (List.mem_of_getElem? hx)) τ
    simp only at k1 k2 k3 k4 k6 k7 k8 k9
    subst k2; subst k4
    refine .inl ⟨(R ++ [rk], τ'), ?_, fun z => ?_⟩
    · simp only [List.append_assoc, List.cons_append, List.nil_append]
      rw [hrep]
      generalize List.replicate (c.lps.length - (i + 1)) ([(.v (.int .i64 (0))), (.v (.int .i64 (0))), .fsl [] true, (.v (.int .i64 (0)))] : List AV) = RR at k1 ⊢
      simp only [c_config_States_L1, Int.natCast_nonneg, Int.toNat_natCast, List.getElem?_map, Option.map_some, hx, hi', hw, k1, k3, k6, k7, k8, k9, lpC, Go.Ev.exec, Go.Ev.evOpers, Go.Ev.evOper, Go.Ev.item_op, Go.Ev.evOp, Go.Ev.Opnd.ev, Go.Ev.Env.get, Go.Ev.Env.set, Go.Ev.look, Go.Ev.cellsAt, Go.Ev.loadC, Go.Ev.bin_add, Go.Ev.bin_lss, Go.Ev.settle, Go.Ev.keep, List.length_map, ↓Go.Ev.obind, ↓Go.Ev.itL_itB, Go.Ev.it1, ↓reduceIte, List.length_cons, List.length_nil, List.head?_cons, Nat.reduceEqDiff, decide_true, Bool.false_eq_true, Nat.zero_add, eq_self]
    · have : stPs (c.lps.take (i + 1)) = stPs (c.lps.take i) ++ [x.map stP] := by rw [take_next hx]; simp [stPs]
      simp only
      rw [this]
      refine RowsOk.snoc (k5.rowOk z) ((hR z).mono (by have := k5.1; omega) (fun o h1 h2 => ?_))
      obtain ⟨o, rfl⟩ : ∃ p, o = p + 1 := ⟨o - 1, by omega⟩
      rw [List.getElem?_cons_succ, List.getElem?_cons_succ]
      exact k5.2.1 o (by omega)
  · rintro ⟨R, τ⟩ hR
    rw [List.take_length] at hR
    simp only at hR ⊢
    rw [Nat.sub_self, List.replicate_zero, List.append_nil]
    simp only [c_config_States_L1, Int.lt_irrefl, Go.Ev.exec, Go.Ev.evOpers, Go.Ev.evOper, Go.Ev.item_op, Go.Ev.evOp, Go.Ev.Opnd.ev, Go.Ev.Env.get, Go.Ev.Env.set, Go.Ev.look, Go.Ev.bin_lss, ↓Go.Ev.obind, Go.Ev.it1, ↓reduceIte, Nat.reduceEqDiff, decide_false, Bool.false_eq_true, eq_self]
    exact ⟨_, rfl, R, τ, rfl, rfl, rfl, hR _, rfl⟩
theorem config_States_ev (h : Small12 c) : callZ (evL T) n_config_States [(.agg [(.fsl ((c.lps).map lpC) false), (.fsl ((c.progs).map progC) false), (.v (.int .i64 (c.look))), (.v (.int .i64 (c.fin))), (.v (.int .i64 (c.cap)))])] = some (.fsl ((statesL c.lps).map lpF) false) := by
  obtain ⟨⟨y, e, σ⟩, k1, R, τ, k2, k3, k4, k5, k6⟩ := states_outer c h
  simp only at k1 k2 k3 k4 k5 k6
  subst k2; subst k4
  have hlps := h.lps
  have b1 : (c.lps.length : Int) * 48 ≤ 140737488355328 := by omega
  have b1' : 48 * (c.lps.length : Int) ≤ 140737488355328 := by omega
  have b2 : (c.lps.length : Int) ≤ 4611686018427387904 := by omega
  have hR := k5.len
  have hRl : R.length = c.lps.length := by rw [hR]; simp [stPs]
  have tk : List.take c.lps.length R = R := List.take_of_length_le (by omega)
  have hf := fun d => k5.frz (d := d)
  have hle : c.lps.length ≤ c.lps.length := Nat.le_refl _
  rw [callZ, evL_code ext_config_States code_config_States]
  simp only [c_config_States, Int.natCast_nonneg, Int.toNat_natCast, b1', b2, k1, k3, k6, Int.le_refl, hRl, hle, tk, Go.Ev.runFunc, Go.Ev.exec, Go.Ev.evOpers, Go.Ev.evOper, Go.Ev.item_op, Go.Ev.evOp, Go.Ev.Opnd.ev, Go.Ev.Env.get, Go.Ev.Env.set, Go.Ev.look, Go.Ev.argVars, Go.Ev.cellsAt, Go.Ev.loadC, Go.Ev.AV.cells, Go.Ev.plains, Go.Ev.AV.plain, Go.Ev.resVals, Go.Ev.resVal, Go.Ev.resOf, Go.Ev.kill, Go.Ev.leave, Go.Ev.settle, Go.Ev.keep, Go.Ev.storeLo, Go.Ev.lo_sl, Go.Ev.frz_own, List.length_map, ↓Go.Ev.obind, ↓Go.Ev.itL_itB, ↓reduceIte, List.length_cons, List.length_nil, List.getElem?_cons_zero, List.take_zero, List.drop_zero, List.nil_append, List.head?_cons, Nat.reduceAdd, Nat.reduceEqDiff, Nat.reduceLT, Int.reducePow, Int.cast_ofNat_Int, decide_true, decide_false, Bool.and_self, Bool.false_eq_true, and_self, and_true, ne_eq, not_false_eq_true, List.cons_ne_nil, Nat.zero_add, eq_self]
  rw [show (5 : Nat) = 4 + 1 from rfl, hf 4]
  rfl
end
end Go.Proofs.Ytlcakphdkpdenaa.K

namespace Go.Proofs.Ytlcakphdkpdenaa.K
open Go.Ev
set_option linter.unusedSimpArgs false
set_option linter.unusedVariables false
set_option maxRecDepth 10000
section
variable (c : Cfg)
/-- What the reference's loop has set up for one logical process: the state, and its processes. -/
def RPart (b i : Nat) (l : List Start) (W : Store) : Prop :=
  i = 0 ∧ W = [.row 4 [[(.v (.int .i64 (0))), (.v (.int .i64 (0))), .fsl [] true, (.v (.int .i64 (0)))]] 0] ∨ 0 < i ∧ ∃ g, W = [.row 4 [[(.v (.int .i64 (0))), (.v (.int .i64 (0))), .sl (b + 1 + 1) g 0 i false, (.v (.int .i64 (0)))]] 0, .row 4 (((l.take i).map stP).map Pr.r) g]
theorem RPart.row {b : Nat} {l : List Start} {τ0 W : Store} (hb : b = τ0.length) (h : RPart b l.length l W) :
    ∃ rk, (∃ w : List SObj, W = .row 4 [rk] 0 :: w) ∧ rk.length = 4 ∧ plains rk = true ∧ ∀ x : SObj, RowOk (x :: (τ0 ++ W)) ((τ0 ++ W).length + 1) rk (l.map stP) := by
  rcases h with ⟨h1, rfl⟩ | ⟨h1, g, rfl⟩
  · refine ⟨[(.v (.int .i64 (0))), (.v (.int .i64 (0))), .fsl [] true, (.v (.int .i64 (0)))], ⟨[], rfl⟩, rfl, rfl, fun x => .inl ⟨?_, rfl⟩⟩
    rw [List.eq_nil_of_length_eq_zero h1]; rfl
  · refine ⟨_, ⟨_, rfl⟩, rfl, rfl, fun x => .inr ⟨fun e => by rw [List.map_eq_nil_iff] at e; subst e; simp at h1, b + 1 + 1, g, by omega, by simp; omega, by rw [List.length_map], ?_⟩⟩
    rw [List.take_length, List.getElem?_cons_succ, hb, List.getElem?_append_right (by omega)]
    simp
theorem rstates_inner (k g b : Nat) (l : List Start) (R : List (List AV)) (hkl : c.lps[k]? = some l) (hl : l.length ≤ 12) (τ0 : Store) (hb : b = τ0.length) :
    ∃ y, itB (exec (evL T) itL none c_ref19_States_L2) (Ev.settle [1, 3, 4, 5, 6] false (b + 1 + 1)) ⟨[(1, (.fptr [(.fsl ((c.lps).map lpC) false), (.fsl ((c.progs).map progC) false), (.v (.int .i64 (c.look))), (.v (.int .i64 (c.fin))), (.v (.int .i64 (c.cap)))])), (3, .sl 0 g 0 R.length false), (4, (.v (.int .i64 (k)))), (5, .ptr (b + 1) 0 0 0), (6, (.v (.int .i64 (0))))], []⟩ (.row 4 R g :: (τ0 ++ [.row 4 [[(.v (.int .i64 (0))), (.v (.int .i64 (0))), .fsl [] true, (.v (.int .i64 (0)))]] 0])) = some y ∧
      ∃ W : List SObj, y.1 = .exit 2 ∧ y.2.1.marks = [] ∧ y.2.2 = .row 4 R g :: (τ0 ++ W) ∧ RPart b l.length l W ∧ Ev.look y.2.1.vars 1 = some (.fptr [(.fsl ((c.lps).map lpC) false), (.fsl ((c.progs).map progC) false), (.v (.int .i64 (c.look))), (.v (.int .i64 (c.fin))), (.v (.int .i64 (c.cap)))]) ∧ Ev.look y.2.1.vars 3 = some (.sl 0 g 0 R.length false) ∧ Ev.look y.2.1.vars 4 = some (.v (.int .i64 (k))) ∧ Ev.look y.2.1.vars 5 = some (.ptr (b + 1) 0 0 0) := by
  have key := itB_for (f := exec (evL T) itL none c_ref19_States_L2) (s := Ev.settle [1, 3, 4, 5, 6] false (b + 1 + 1)) (α := List SObj)
    (fun i a => ⟨[(1, (.fptr [(.fsl ((c.lps).map lpC) false), (.fsl ((c.progs).map progC) false), (.v (.int .i64 (c.look))), (.v (.int .i64 (c.fin))), (.v (.int .i64 (c.cap)))])), (3, .sl 0 g 0 R.length false), (4, (.v (.int .i64 (k)))), (5, .ptr (b + 1) 0 0 0), (6, (.v (.int .i64 (i))))], []⟩) (fun i a => .row 4 R g :: (τ0 ++ a))
    (fun i a => RPart b i l a) l.length
    (fun y => ∃ W : List SObj, y.1 = .exit 2 ∧ y.2.1.marks = [] ∧ y.2.2 = .row 4 R g :: (τ0 ++ W) ∧ RPart b l.length l W ∧ Ev.look y.2.1.vars 1 = some (.fptr [(.fsl ((c.lps).map lpC) false), (.fsl ((c.progs).map progC) false), (.v (.int .i64 (c.look))), (.v (.int .i64 (c.fin))), (.v (.int .i64 (c.cap)))]) ∧ Ev.look y.2.1.vars 3 = some (.sl 0 g 0 R.length false) ∧ Ev.look y.2.1.vars 4 = some (.v (.int .i64 (k))) ∧ Ev.look y.2.1.vars 5 = some (.ptr (b + 1) 0 0 0)) ?_ ?_ 0 [.row 4 [[(.v (.int .i64 (0))), (.v (.int .i64 (0))), .fsl [] true, (.v (.int .i64 (0)))]] 0] (Nat.zero_le _) (.inl ⟨rfl, rfl⟩)
  · exact key
  · rintro i W hi h
    obtain ⟨x, hx⟩ : ∃ x, l[i]? = some x := ⟨_, List.getElem?_eq_getElem hi⟩
    have hi' : (i : Int) < (l.length : Int) := by omega
    have hw : IntKind.i64.wrap ((i : Int) + 1) = ((i + 1 : Nat) : Int) := by rw [w64_small (by omega) (by omega)]; simp
    have tg : ∀ (v : SObj) (w : List SObj), (τ0 ++ v :: w)[b]? = some v := fun v w => by rw [hb]; simp
    have tg2 : ∀ v w : SObj, (τ0 ++ [v, w])[b + 1]? = some w := fun v w => by rw [hb, List.getElem?_append_right (by omega)]; simp
    have ts : ∀ (v u : SObj) (w : List SObj), (τ0 ++ v :: w).set b u = τ0 ++ u :: w := fun v u w => by rw [hb]; simp []
    have ts2 : ∀ v w u : SObj, (τ0 ++ [v, w]).set (b + 1) u = τ0 ++ [v, u] := fun v w u => by rw [hb, List.set_append, if_neg (by omega)]; simp
    obtain ⟨xp, xt⟩ := x
    have hbl : List.length τ0 = b := hb.symm
    rcases h with ⟨hi0, rfl⟩ | ⟨h3, g', rfl⟩
    · refine .inl ⟨[.row 4 [[(.v (.int .i64 (0))), (.v (.int .i64 (0))), .sl (b + 1 + 1) 0 0 1 false, (.v (.int .i64 (0)))]] 0, .row 4 [(stP ⟨xp, xt⟩).r] 0], ?_, .inr ⟨by omega, 0, ?_⟩⟩
      · simp only [c_ref19_States_L2, Int.natCast_nonneg, Int.toNat_natCast, List.getElem?_map, Option.map_some, hkl, hx, hi', hw, tg, ts, hbl, List.append_assoc, List.map_nil, Start.r, stP, Pr.r, lpC, Go.Ev.exec, Go.Ev.evOpers, Go.Ev.evOper, Go.Ev.item_op, Go.Ev.evOp, Go.Ev.appE, Go.Ev.Opnd.ev, Go.Ev.Env.get, Go.Ev.Env.set, Go.Ev.look, Go.Ev.cellsAt, Go.Ev.content, Go.Ev.loadC, Go.Ev.fillP, Go.Ev.fillR, Go.Ev.AV.cells, Go.Ev.AV.uc, Go.Ev.plains, Go.Ev.AV.plain, Go.Ev.bin_add, Go.Ev.bin_lss, Go.Ev.settle, Go.Ev.keep, Go.Ev.okRows_nil, Go.Ev.okRows_cons, List.replicate_one, List.length_map, ↓Go.Ev.obind, Go.Ev.it1, ↓reduceIte, List.length_cons, List.length_nil, List.length_append, List.getElem?_cons_zero, List.getElem?_cons_succ, List.take_succ_cons, List.take_zero, List.drop_succ_cons, List.drop_zero, List.cons_append, List.nil_append, List.set_cons_zero, List.set_cons_succ, List.head?_cons, Nat.reduceAdd, Nat.reduceEqDiff, Nat.reduceMul, Nat.reduceLT, Nat.reduceLeDiff, Nat.reducePow, decide_true, Bool.and_self, Bool.false_eq_true, and_self, ne_eq, not_false_eq_true, not_true_eq_false, List.cons_ne_nil, Nat.zero_add, Nat.lt_add_one, eq_self]
      · rw [take_next hx, hi0]; simp
    · have ln : (((l.take i).map stP).map Pr.r).length = i := by simp; omega
      have tk : List.take i (((l.take i).map stP).map Pr.r) = ((l.take i).map stP).map Pr.r := List.take_of_length_le (by simp; omega)
      have bd : (i + 1) * 48 ≤ 140737488355328 := by omega
      have il : i ≤ i := Nat.le_refl _
      have nx : ((l.take (i + 1)).map stP).map Pr.r = ((l.take i).map stP).map Pr.r ++ [(stP ⟨xp, xt⟩).r] := by rw [take_next hx]; simp
      refine .inl ⟨[.row 4 [[(.v (.int .i64 (0))), (.v (.int .i64 (0))), .sl (b + 1 + 1) (g' + 1) 0 (i + 1) false, (.v (.int .i64 (0)))]] 0, .row 4 (((l.take (i + 1)).map stP).map Pr.r) (g' + 1)], ?_, .inr ⟨by omega, g' + 1, rfl⟩⟩
      rw [nx]
      generalize ((l.take i).map stP).map Pr.r = PR at ln tk ⊢
      simp only [c_ref19_States_L2, Int.natCast_nonneg, Int.toNat_natCast, List.getElem?_map, Option.map_some, hkl, hx, hi', hw, tg, tg2, ts, ts2, ln, tk, bd, il, List.map_nil, Start.r, stP, Pr.r, lpC, Go.Ev.exec, Go.Ev.evOpers, Go.Ev.evOper, Go.Ev.item_op, Go.Ev.evOp, Go.Ev.appE, Go.Ev.Opnd.ev, Go.Ev.Env.get, Go.Ev.Env.set, Go.Ev.look, Go.Ev.cellsAt, Go.Ev.content, Go.Ev.loadC, Go.Ev.fillP, Go.Ev.fillR, Go.Ev.AV.cells, Go.Ev.AV.uc, Go.Ev.plains, Go.Ev.AV.plain, Go.Ev.bin_add, Go.Ev.bin_lss, Go.Ev.settle, Go.Ev.keep, Go.Ev.okRows_nil, Go.Ev.okRows_cons, List.replicate_one, List.length_map, ↓Go.Ev.obind, Go.Ev.it1, ↓reduceIte, List.length_cons, List.length_nil, List.getElem?_cons_zero, List.getElem?_cons_succ, List.take_succ_cons, List.take_zero, List.drop_succ_cons, List.drop_zero, List.cons_append, List.nil_append, List.set_cons_zero, List.set_cons_succ, List.head?_cons, Nat.reduceAdd, Nat.reduceEqDiff, Nat.reduceMul, Nat.reduceLeDiff, Nat.reducePow, decide_true, Bool.and_self, Bool.false_eq_true, and_self, ne_eq, not_false_eq_true, List.cons_ne_nil, Nat.zero_add, Nat.lt_add_one, eq_self]
  · rintro W h
    simp only [c_ref19_States_L2, Int.natCast_nonneg, Int.toNat_natCast, List.getElem?_map, Option.map_some, hkl, lpC, Int.lt_irrefl, Go.Ev.exec, Go.Ev.evOpers, Go.Ev.evOper, Go.Ev.item_op, Go.Ev.evOp, Go.Ev.Opnd.ev, Go.Ev.Env.get, Go.Ev.Env.set, Go.Ev.look, Go.Ev.cellsAt, Go.Ev.loadC, Go.Ev.bin_lss, List.length_map, ↓Go.Ev.obind, Go.Ev.it1, ↓reduceIte, List.length_cons, List.length_nil, List.drop_zero, List.head?_cons, Nat.reduceEqDiff, decide_false, Bool.false_eq_true, Nat.zero_add, eq_self]
    exact ⟨_, rfl, W, rfl, rfl, rfl, h, rfl, rfl, rfl, rfl⟩
theorem rstates_outer (h : Small12 c) :
    ∃ y, itB (exec (evL T) itL none c_ref19_States_L1) (Ev.settle [1, 3, 4] false 1) ⟨[(1, (.fptr [(.fsl ((c.lps).map lpC) false), (.fsl ((c.progs).map progC) false), (.v (.int .i64 (c.look))), (.v (.int .i64 (c.fin))), (.v (.int .i64 (c.cap)))])), (3, .sl 0 0 0 0 false), (4, (.v (.int .i64 (0))))], []⟩ [.row 4 [] 0] = some y ∧
      ∃ (R : List (List AV)) (g : Nat) (τ : Store), y.1 = .exit 0 ∧ y.2.1.marks = [] ∧ y.2.2 = .row 4 R g :: τ ∧ RowsOk y.2.2 (τ.length + 1) R (stPs c.lps) ∧ Ev.look y.2.1.vars 3 = some (.sl 0 g 0 R.length false) := by
  have key := itB_for (f := exec (evL T) itL none c_ref19_States_L1) (s := Ev.settle [1, 3, 4] false 1) (α := List (List AV) × Nat × Store)
    (fun i a => ⟨[(1, (.fptr [(.fsl ((c.lps).map lpC) false), (.fsl ((c.progs).map progC) false), (.v (.int .i64 (c.look))), (.v (.int .i64 (c.fin))), (.v (.int .i64 (c.cap)))])), (3, .sl 0 a.2.1 0 a.1.length false), (4, (.v (.int .i64 (i))))], []⟩) (fun i a => .row 4 a.1 a.2.1 :: a.2.2)
    (fun i a => ∀ x : SObj, RowsOk (x :: a.2.2) (a.2.2.length + 1) a.1 (stPs (c.lps.take i))) c.lps.length
    (fun y => ∃ (R : List (List AV)) (g : Nat) (τ : Store), y.1 = .exit 0 ∧ y.2.1.marks = [] ∧ y.2.2 = .row 4 R g :: τ ∧ RowsOk y.2.2 (τ.length + 1) R (stPs c.lps) ∧ Ev.look y.2.1.vars 3 = some (.sl 0 g 0 R.length false)) ?_ ?_ 0 ([], 0, []) (Nat.zero_le _) (fun _ => trivial)
  · exact key
  · rintro i ⟨R, g, τ⟩ hi hR
    simp only at hR ⊢
    obtain ⟨x, hx⟩ : ∃ x, c.lps[i]? = some x := ⟨_, List.getElem?_eq_getElem hi⟩
    have hlps := h.lps
    have hi' : (i : Int) < (c.lps.length : Int) := by omega
    have hw : IntKind.i64.wrap ((i : Int) + 1) = ((i + 1 : Nat) : Int) := by rw [w64_small (by omega) (by omega)]; simp
    have hRl : R.length = i := by rw [(hR .dead).len]; simp [stPs]; omega
    obtain ⟨b, hb⟩ : ∃ b, b = τ.length := ⟨_, rfl⟩
    have hbl : List.length τ = b := hb.symm
    obtain ⟨⟨y, e, σ⟩, k1, W, k2, k3, k4, k5, k6, k7, k8, k9⟩ := rstates_inner c i g b x R hx (h.lp _ (List.mem_of_getElem? hx)) τ hb
    simp only at k1 k2 k3 k4 k6 k7 k8 k9
    subst k2; subst k4
    obtain ⟨rk, ⟨w, hW⟩, _, _, hrow⟩ := k5.row hb
    have tg : ∀ (v : SObj) (w : List SObj), (τ ++ v :: w)[b]? = some v := fun v w => by rw [hb]; simp
    have bd : (i + 1) * 48 ≤ 140737488355328 := by omega
    have il : i ≤ i := Nat.le_refl _
    have tk : List.take i R = R := List.take_of_length_le (by omega)
    refine .inl ⟨(R ++ [rk], g + 1, τ ++ W), ?_, fun z => ?_⟩
    · simp only [List.length_append, List.length_cons, List.length_nil, hRl] at k1 k7 ⊢
      rcases k5 with ⟨_, rfl⟩ | ⟨_, g', rfl⟩
      · simp only [List.cons.injEq, SObj.row.injEq, true_and, and_true] at hW
        obtain ⟨rfl, rfl⟩ := hW
        simp only [c_ref19_States_L1, hi', hw, hbl, hRl, k1, k3, k6, k7, k8, k9, tg, bd, il, tk, Go.Ev.exec, Go.Ev.evOpers, Go.Ev.evOper, Go.Ev.item_op, Go.Ev.evOp, Go.Ev.appE, Go.Ev.Opnd.ev, Go.Ev.Env.get, Go.Ev.Env.set, Go.Ev.look, Go.Ev.cellsAt, Go.Ev.content, Go.Ev.loadC, Go.Ev.fillR, Go.Ev.AV.cells, Go.Ev.plains, Go.Ev.AV.plain, Go.Ev.bin_add, Go.Ev.bin_lss, Go.Ev.settle, Go.Ev.keep, Go.Ev.okRows_nil, Go.Ev.okRows_cons, List.replicate_one, List.length_map, ↓Go.Ev.obind, ↓Go.Ev.itL_itB, Go.Ev.it1, ↓reduceIte, List.length_cons, List.length_nil, List.length_append, List.getElem?_cons_zero, List.getElem?_cons_succ, List.take_succ_cons, List.take_nil, List.drop_zero, List.cons_append, List.set_cons_zero, List.head?_cons, Nat.reduceAdd, Nat.reduceEqDiff, Nat.reduceMul, Nat.reduceLeDiff, Nat.reducePow, decide_true, Bool.and_self, Bool.false_eq_true, and_self, ne_eq, not_false_eq_true, List.cons_ne_nil, Nat.zero_add, Nat.lt_add_one, Nat.le_refl, eq_self]
      · simp only [List.cons.injEq, SObj.row.injEq, true_and, and_true] at hW
        obtain ⟨rfl, rfl⟩ := hW
        simp only [c_ref19_States_L1, hi', hw, hbl, hRl, k1, k3, k6, k7, k8, k9, tg, bd, il, tk, Go.Ev.exec, Go.Ev.evOpers, Go.Ev.evOper, Go.Ev.item_op, Go.Ev.evOp, Go.Ev.appE, Go.Ev.Opnd.ev, Go.Ev.Env.get, Go.Ev.Env.set, Go.Ev.look, Go.Ev.cellsAt, Go.Ev.content, Go.Ev.loadC, Go.Ev.fillR, Go.Ev.AV.cells, Go.Ev.plains, Go.Ev.AV.plain, Go.Ev.bin_add, Go.Ev.bin_lss, Go.Ev.settle, Go.Ev.keep, Go.Ev.okRows_nil, Go.Ev.okRows_cons, List.replicate_one, List.take_length, List.length_map, ↓Go.Ev.obind, ↓Go.Ev.itL_itB, Go.Ev.it1, ↓reduceIte, List.length_cons, List.length_nil, List.length_append, List.getElem?_cons_zero, List.getElem?_cons_succ, List.take_succ_cons, List.take_nil, List.drop_zero, List.cons_append, List.set_cons_zero, List.head?_cons, Nat.reduceAdd, Nat.reduceEqDiff, Nat.reduceMul, Nat.reduceLeDiff, Nat.reducePow, decide_true, Bool.and_self, Bool.false_eq_true, and_self, ne_eq, not_false_eq_true, List.cons_ne_nil, Nat.zero_add, Nat.lt_add_one, Nat.le_refl, eq_self]
    · have : stPs (c.lps.take (i + 1)) = stPs (c.lps.take i) ++ [x.map stP] := by rw [take_next hx]; simp [stPs]
      simp only
      rw [this]
      refine RowsOk.snoc (hrow z) ((hR z).mono (by simp) (fun o h1 h2 => ?_))
      obtain ⟨o, rfl⟩ : ∃ p, o = p + 1 := ⟨o - 1, by omega⟩
      rw [List.getElem?_cons_succ, List.getElem?_cons_succ]
      exact List.getElem?_append_left (by omega)
  · rintro ⟨R, g, τ⟩ hR
    rw [List.take_length] at hR
    simp only at hR ⊢
    simp only [c_ref19_States_L1, Int.lt_irrefl, Go.Ev.exec, Go.Ev.evOpers, Go.Ev.evOper, Go.Ev.item_op, Go.Ev.evOp, Go.Ev.Opnd.ev, Go.Ev.Env.get, Go.Ev.Env.set, Go.Ev.look, Go.Ev.cellsAt, Go.Ev.loadC, Go.Ev.bin_lss, List.length_map, ↓Go.Ev.obind, Go.Ev.it1, ↓reduceIte, List.drop_zero, List.head?_cons, Nat.reduceEqDiff, decide_false, Bool.false_eq_true, eq_self]
    exact ⟨_, rfl, R, g, τ, rfl, rfl, rfl, hR _, rfl⟩
theorem ref19_States_ev (h : Small12 c) : callZ (evL T) n_ref19_States [(.agg [(.fsl ((c.lps).map lpC) false), (.fsl ((c.progs).map progC) false), (.v (.int .i64 (c.look))), (.v (.int .i64 (c.fin))), (.v (.int .i64 (c.cap)))])] = some (.fsl ((statesL c.lps).map lpF) false) := by
  obtain ⟨⟨y, e, σ⟩, k1, R, g, τ, k2, k3, k4, k5, k6⟩ := rstates_outer c h
  simp only at k1 k2 k3 k4 k5 k6
  subst k2; subst k4
  have tk : List.take R.length R = R := List.take_length
  have hf := fun d => k5.frz (d := d)
  have hle : R.length ≤ R.length := Nat.le_refl _
  rw [callZ, evL_code ext_ref19_States code_ref19_States]
  simp only [c_ref19_States, k1, k3, k6, hle, tk, Go.Ev.runFunc, Go.Ev.exec, Go.Ev.evOpers, Go.Ev.evOper, Go.Ev.item_op, Go.Ev.evOp, Go.Ev.Opnd.ev, Go.Ev.Env.get, Go.Ev.Env.set, Go.Ev.look, Go.Ev.argVars, Go.Ev.AV.cells, Go.Ev.plains, Go.Ev.AV.plain, Go.Ev.resVals, Go.Ev.resVal, Go.Ev.resOf, Go.Ev.kill, Go.Ev.leave, Go.Ev.settle, Go.Ev.keep, Go.Ev.storeLo, Go.Ev.lo_sl, Go.Ev.frz_own, ↓Go.Ev.obind, ↓Go.Ev.itL_itB, ↓reduceIte, List.length_cons, List.length_nil, List.getElem?_cons_zero, List.take_zero, List.drop_zero, List.nil_append, Nat.reduceEqDiff, Nat.reduceLT, decide_false, Bool.and_self, Bool.false_eq_true, and_self, and_true, ne_eq, not_false_eq_true, List.cons_ne_nil, Nat.zero_add, eq_self]
  rw [show (5 : Nat) = 4 + 1 from rfl, hf 4]
  rfl
end
end Go.Proofs.Ytlcakphdkpdenaa.K
