/- For every input the statement of this claim returns true: texts of its proof, joined (part 10). -/
import Derived.Test.YthkjkdbjgpeigaaGB05
import Derived.Test.YthkjkdbjgpeigaaGB06
import Derived.Test.YthkjkdbjgpeigaaGB07
import Derived.Test.YthkjkdbjgpeigaaGB08
set_option linter.unusedSectionVars false
set_option linter.unusedSimpArgs false
set_option linter.unusedVariables false
namespace Go.Proofs.Ythkjkdbjgpeigaa.K
open Go.Ev
set_option maxRecDepth 10000
section
variable (c : Cfg)
def q86 (b i : Nat) (l : List Start) (W : qx) : Prop :=
  i = 0 ∧ W = [.row 4 [[(.v (.int .i64 (0))), (.v (.int .i64 (0))), .fsl [] true, (.v (.int .i64 (0)))]] 0] ∨ 0 < i ∧ ∃ g, W = [.row 4 [[(.v (.int .i64 (0))), (.v (.int .i64 (0))), .sl (b + 1 + 1) g 0 i false, (.v (.int .i64 (0)))]] 0, .row 4 (((l.take i).map stP).map Pr.r) g]
theorem q86.row {b : Nat} {l : List Start} {τ0 W : qx} (hb : b = τ0.length) (h : q86 b l.length l W) :
    ∃ rk, (∃ w : List SObj, W = .row 4 [rk] 0 :: w) ∧ rk.length = 4 ∧ qv rk = true ∧ ∀ x : SObj, q1i (x :: (τ0 ++ W)) ((τ0 ++ W).length + 1) rk (l.map stP) := by
  rcases h with ⟨h1, rfl⟩ | ⟨h1, g, rfl⟩
  · refine ⟨[(.v (.int .i64 (0))), (.v (.int .i64 (0))), .fsl [] true, (.v (.int .i64 (0)))], ⟨[], rfl⟩, rfl, rfl, fun x => .inl ⟨?_, rfl⟩⟩
    rw [List.eq_nil_of_length_eq_zero h1]; rfl
  · refine ⟨_, ⟨_, rfl⟩, rfl, rfl, fun x => .inr ⟨fun e => by rw [List.map_eq_nil_iff] at e; subst e; simp at h1, b + 1 + 1, g, by omega, by simp; omega, by rw [List.length_map], ?_⟩⟩
    rw [List.take_length, List.getElem?_cons_succ, hb, List.getElem?_append_right (by omega)]
    simp
theorem q00 (k g b : Nat) (l : List Start) (R : List (List AV)) (hkl : c.lps[k]? = some l) (hl : l.length ≤ 12) (τ0 : qx) (hb : b = τ0.length) :
    ∃ y, itB (exec (evL T) itL none qgi) (Ev.qs [1, 3, 4, 5, 6] false (b + 1 + 1)) ⟨[(1, (.fptr [(.fsl ((c.lps).map lpC) false), (.fsl ((c.progs).map qbu) false), (.v (.int .i64 (c.look))), (.v (.int .i64 (c.fin))), (.v (.int .i64 (c.cap)))])), (3, .sl 0 g 0 R.length false), (4, (.v (.int .i64 (k)))), (5, .ptr (b + 1) 0 0 0), (6, (.v (.int .i64 (0))))], []⟩ (.row 4 R g :: (τ0 ++ [.row 4 [[(.v (.int .i64 (0))), (.v (.int .i64 (0))), .fsl [] true, (.v (.int .i64 (0)))]] 0])) = some y ∧
      ∃ W : List SObj, y.1 = .exit 2 ∧ y.2.1.marks = [] ∧ y.2.2 = .row 4 R g :: (τ0 ++ W) ∧ q86 b l.length l W ∧ Ev.look y.2.1.vars 1 = some (.fptr [(.fsl ((c.lps).map lpC) false), (.fsl ((c.progs).map qbu) false), (.v (.int .i64 (c.look))), (.v (.int .i64 (c.fin))), (.v (.int .i64 (c.cap)))]) ∧ Ev.look y.2.1.vars 3 = some (.sl 0 g 0 R.length false) ∧ Ev.look y.2.1.vars 4 = some (.v (.int .i64 (k))) ∧ Ev.look y.2.1.vars 5 = some (.ptr (b + 1) 0 0 0) := by
  have key := qjm (f := exec (evL T) itL none qgi) (s := Ev.qs [1, 3, 4, 5, 6] false (b + 1 + 1)) (α := List SObj)
    (fun i a => ⟨[(1, (.fptr [(.fsl ((c.lps).map lpC) false), (.fsl ((c.progs).map qbu) false), (.v (.int .i64 (c.look))), (.v (.int .i64 (c.fin))), (.v (.int .i64 (c.cap)))])), (3, .sl 0 g 0 R.length false), (4, (.v (.int .i64 (k)))), (5, .ptr (b + 1) 0 0 0), (6, (.v (.int .i64 (i))))], []⟩) (fun i a => .row 4 R g :: (τ0 ++ a))
    (fun i a => q86 b i l a) l.length
    (fun y => ∃ W : List SObj, y.1 = .exit 2 ∧ y.2.1.marks = [] ∧ y.2.2 = .row 4 R g :: (τ0 ++ W) ∧ q86 b l.length l W ∧ Ev.look y.2.1.vars 1 = some (.fptr [(.fsl ((c.lps).map lpC) false), (.fsl ((c.progs).map qbu) false), (.v (.int .i64 (c.look))), (.v (.int .i64 (c.fin))), (.v (.int .i64 (c.cap)))]) ∧ Ev.look y.2.1.vars 3 = some (.sl 0 g 0 R.length false) ∧ Ev.look y.2.1.vars 4 = some (.v (.int .i64 (k))) ∧ Ev.look y.2.1.vars 5 = some (.ptr (b + 1) 0 0 0)) ?_ ?_ 0 [.row 4 [[(.v (.int .i64 (0))), (.v (.int .i64 (0))), .fsl [] true, (.v (.int .i64 (0)))]] 0] (Nat.zero_le _) (.inl ⟨rfl, rfl⟩)
  · exact key
  · rintro i W hi h
    obtain ⟨x, hx⟩ : ∃ x, l[i]? = some x := ⟨_, List.getElem?_eq_getElem hi⟩
    have hi' : (i : Int) < (l.length : Int) := by omega
    have hw : IntKind.i64.wrap ((i : Int) + 1) = ((i + 1 : Nat) : Int) := by rw [qat (by omega) (by omega)]; simp
    have tg : ∀ (v : SObj) (w : List SObj), (τ0 ++ v :: w)[b]? = some v := fun v w => by rw [hb]; simp
    have tg2 : ∀ v w : SObj, (τ0 ++ [v, w])[b + 1]? = some w := fun v w => by rw [hb, List.getElem?_append_right (by omega)]; simp
    have ts : ∀ (v u : SObj) (w : List SObj), (τ0 ++ v :: w).set b u = τ0 ++ u :: w := fun v u w => by rw [hb]; simp []
    have ts2 : ∀ v w u : SObj, (τ0 ++ [v, w]).set (b + 1) u = τ0 ++ [v, u] := fun v w u => by rw [hb, List.set_append, if_neg (by omega)]; simp
    obtain ⟨xp, xt⟩ := x
    have hbl : List.length τ0 = b := hb.symm
    rcases h with ⟨hi0, rfl⟩ | ⟨h3, g', rfl⟩
    · refine .inl ⟨[.row 4 [[(.v (.int .i64 (0))), (.v (.int .i64 (0))), .sl (b + 1 + 1) 0 0 1 false, (.v (.int .i64 (0)))]] 0, .row 4 [(stP ⟨xp, xt⟩).r] 0], ?_, .inr ⟨by omega, 0, ?_⟩⟩
      · simp only [qgi, Int.natCast_nonneg, Int.toNat_natCast, List.getElem?_map, Option.map_some, hkl, hx, hi', hw, tg, ts, hbl, List.append_assoc, List.map_nil, Start.r, stP, Pr.r, lpC, Ev.exec, Ev.qb, Ev.qe, Ev.qc, Ev.qaf, Ev.qvy, Ev.Opnd.ev, Ev.Env.get, Ev.Env.set, Ev.look, Ev.qi, Ev.qd5, Ev.qab, Ev.qff, Ev.qjo, Ev.AV.cells, Ev.AV.uc, Ev.qv, Ev.AV.plain, Ev.qaj, Ev.qo, Ev.qs, Ev.keep, Ev.qd8, Ev.qed, List.replicate_one, List.length_map, ↓Ev.qq, Ev.it1, ↓reduceIte, List.length_cons, List.length_nil, List.length_append, List.getElem?_cons_zero, List.getElem?_cons_succ, List.take_succ_cons, List.take_zero, List.drop_succ_cons, List.drop_zero, List.cons_append, List.nil_append, List.set_cons_zero, List.set_cons_succ, List.head?_cons, Nat.reduceAdd, Nat.reduceEqDiff, Nat.reduceMul, Nat.reduceLT, Nat.reduceLeDiff, Nat.reducePow, decide_true, Bool.and_self, Bool.false_eq_true, and_self, ne_eq, not_false_eq_true, not_true_eq_false, List.cons_ne_nil, Nat.zero_add, Nat.lt_add_one, eq_self]
      · rw [qer hx, hi0]; simp
    · have ln : (((l.take i).map stP).map Pr.r).length = i := by simp; omega
      have tk : List.take i (((l.take i).map stP).map Pr.r) = ((l.take i).map stP).map Pr.r := List.take_of_length_le (by simp; omega)
      have bd : (i + 1) * 48 ≤ 140737488355328 := by omega
      have il : i ≤ i := Nat.le_refl _
      have nx : ((l.take (i + 1)).map stP).map Pr.r = ((l.take i).map stP).map Pr.r ++ [(stP ⟨xp, xt⟩).r] := by rw [qer hx]; simp
      refine .inl ⟨[.row 4 [[(.v (.int .i64 (0))), (.v (.int .i64 (0))), .sl (b + 1 + 1) (g' + 1) 0 (i + 1) false, (.v (.int .i64 (0)))]] 0, .row 4 (((l.take (i + 1)).map stP).map Pr.r) (g' + 1)], ?_, .inr ⟨by omega, g' + 1, rfl⟩⟩
      rw [nx]
      generalize ((l.take i).map stP).map Pr.r = PR at ln tk ⊢
      simp only [qgi, Int.natCast_nonneg, Int.toNat_natCast, List.getElem?_map, Option.map_some, hkl, hx, hi', hw, tg, tg2, ts, ts2, ln, tk, bd, il, List.map_nil, Start.r, stP, Pr.r, lpC, Ev.exec, Ev.qb, Ev.qe, Ev.qc, Ev.qaf, Ev.qvy, Ev.Opnd.ev, Ev.Env.get, Ev.Env.set, Ev.look, Ev.qi, Ev.qd5, Ev.qab, Ev.qff, Ev.qjo, Ev.AV.cells, Ev.AV.uc, Ev.qv, Ev.AV.plain, Ev.qaj, Ev.qo, Ev.qs, Ev.keep, Ev.qd8, Ev.qed, List.replicate_one, List.length_map, ↓Ev.qq, Ev.it1, ↓reduceIte, List.length_cons, List.length_nil, List.getElem?_cons_zero, List.getElem?_cons_succ, List.take_succ_cons, List.take_zero, List.drop_succ_cons, List.drop_zero, List.cons_append, List.nil_append, List.set_cons_zero, List.set_cons_succ, List.head?_cons, Nat.reduceAdd, Nat.reduceEqDiff, Nat.reduceMul, Nat.reduceLeDiff, Nat.reducePow, decide_true, Bool.and_self, Bool.false_eq_true, and_self, ne_eq, not_false_eq_true, List.cons_ne_nil, Nat.zero_add, Nat.lt_add_one, eq_self]
  · rintro W h
    simp only [qgi, Int.natCast_nonneg, Int.toNat_natCast, List.getElem?_map, Option.map_some, hkl, lpC, Int.lt_irrefl, Ev.exec, Ev.qb, Ev.qe, Ev.qc, Ev.qaf, Ev.Opnd.ev, Ev.Env.get, Ev.Env.set, Ev.look, Ev.qi, Ev.qab, Ev.qo, List.length_map, ↓Ev.qq, Ev.it1, ↓reduceIte, List.length_cons, List.length_nil, List.drop_zero, List.head?_cons, Nat.reduceEqDiff, decide_false, Bool.false_eq_true, Nat.zero_add, eq_self]
    exact ⟨_, rfl, W, rfl, rfl, rfl, h, rfl, rfl, rfl, rfl⟩
theorem q13 (h : Small12 c) :
    ∃ y, itB (exec (evL T) itL none qgj) (Ev.qs [1, 3, 4] false 1) ⟨[(1, (.fptr [(.fsl ((c.lps).map lpC) false), (.fsl ((c.progs).map qbu) false), (.v (.int .i64 (c.look))), (.v (.int .i64 (c.fin))), (.v (.int .i64 (c.cap)))])), (3, .sl 0 0 0 0 false), (4, (.v (.int .i64 (0))))], []⟩ [.row 4 [] 0] = some y ∧
      ∃ (R : List (List AV)) (g : Nat) (τ : qx), y.1 = .exit 0 ∧ y.2.1.marks = [] ∧ y.2.2 = .row 4 R g :: τ ∧ qiw y.2.2 (τ.length + 1) R (qyg c.lps) ∧ Ev.look y.2.1.vars 3 = some (.sl 0 g 0 R.length false) := by
  have key := qjm (f := exec (evL T) itL none qgj) (s := Ev.qs [1, 3, 4] false 1) (α := List (List AV) × Nat × qx)
    (fun i a => ⟨[(1, (.fptr [(.fsl ((c.lps).map lpC) false), (.fsl ((c.progs).map qbu) false), (.v (.int .i64 (c.look))), (.v (.int .i64 (c.fin))), (.v (.int .i64 (c.cap)))])), (3, .sl 0 a.2.1 0 a.1.length false), (4, (.v (.int .i64 (i))))], []⟩) (fun i a => .row 4 a.1 a.2.1 :: a.2.2)
    (fun i a => ∀ x : SObj, qiw (x :: a.2.2) (a.2.2.length + 1) a.1 (qyg (c.lps.take i))) c.lps.length
    (fun y => ∃ (R : List (List AV)) (g : Nat) (τ : qx), y.1 = .exit 0 ∧ y.2.1.marks = [] ∧ y.2.2 = .row 4 R g :: τ ∧ qiw y.2.2 (τ.length + 1) R (qyg c.lps) ∧ Ev.look y.2.1.vars 3 = some (.sl 0 g 0 R.length false)) ?_ ?_ 0 ([], 0, []) (Nat.zero_le _) (fun _ => trivial)
  · exact key
  · rintro i ⟨R, g, τ⟩ hi hR
    simp only at hR ⊢
    obtain ⟨x, hx⟩ : ∃ x, c.lps[i]? = some x := ⟨_, List.getElem?_eq_getElem hi⟩
    have hlps := h.lps
    have hi' : (i : Int) < (c.lps.length : Int) := by omega
    have hw : IntKind.i64.wrap ((i : Int) + 1) = ((i + 1 : Nat) : Int) := by rw [qat (by omega) (by omega)]; simp
    have hRl : R.length = i := by rw [(hR .dead).len]; simp [qyg]; omega
    obtain ⟨b, hb⟩ : ∃ b, b = τ.length := ⟨_, rfl⟩
    have hbl : List.length τ = b := hb.symm
    obtain ⟨⟨y, e, σ⟩, k1, W, k2, k3, k4, k5, k6, k7, k8, k9⟩ := q00 c i g b x R hx (h.lp _ (List.mem_of_getElem? hx)) τ hb
    simp only at k1 k2 k3 k4 k6 k7 k8 k9
    subst k2; subst k4
    obtain ⟨rk, ⟨w, hW⟩, _, _, hrow⟩ := k5.row hb
    have tg : ∀ (v : SObj) (w : List SObj), (τ ++ v :: w)[b]? = some v := fun v w => by rw [hb]; simp
    have bd : (i + 1) * 48 ≤ 140737488355328 := by omega
    have il : i ≤ i := Nat.le_refl _
    have tk : List.take i R = R := List.take_of_length_le (by omega)
    refine .inl ⟨(R ++ [rk], g + 1, τ ++ W), ?_, fun z => ?_⟩
    · simp only [List.length_append, List.length_cons, List.length_nil, hRl] at k1 k7 ⊢
      rcases k5 with ⟨_, rfl⟩ | ⟨_, g', rfl⟩
      · simp only [List.cons.injEq, SObj.row.injEq, true_and, and_true] at hW
        obtain ⟨rfl, rfl⟩ := hW
        simp only [qgj, hi', hw, hbl, hRl, k1, k3, k6, k7, k8, k9, tg, bd, il, tk, Ev.exec, Ev.qb, Ev.qe, Ev.qc, Ev.qaf, Ev.qvy, Ev.Opnd.ev, Ev.Env.get, Ev.Env.set, Ev.look, Ev.qi, Ev.qd5, Ev.qab, Ev.qjo, Ev.AV.cells, Ev.qv, Ev.AV.plain, Ev.qaj, Ev.qo, Ev.qs, Ev.keep, Ev.qd8, Ev.qed, List.replicate_one, List.length_map, ↓Ev.qq, ↓Ev.qan, Ev.it1, ↓reduceIte, List.length_cons, List.length_nil, List.length_append, List.getElem?_cons_zero, List.getElem?_cons_succ, List.take_succ_cons, List.take_nil, List.drop_zero, List.cons_append, List.set_cons_zero, List.head?_cons, Nat.reduceAdd, Nat.reduceEqDiff, Nat.reduceMul, Nat.reduceLeDiff, Nat.reducePow, decide_true, Bool.and_self, Bool.false_eq_true, and_self, ne_eq, not_false_eq_true, List.cons_ne_nil, Nat.zero_add, Nat.lt_add_one, Nat.le_refl, eq_self]
      · simp only [List.cons.injEq, SObj.row.injEq, true_and, and_true] at hW
        obtain ⟨rfl, rfl⟩ := hW
        simp only [qgj, hi', hw, hbl, hRl, k1, k3, k6, k7, k8, k9, tg, bd, il, tk, Ev.exec, Ev.qb, Ev.qe, Ev.qc, Ev.qaf, Ev.qvy, Ev.Opnd.ev, Ev.Env.get, Ev.Env.set, Ev.look, Ev.qi, Ev.qd5, Ev.qab, Ev.qjo, Ev.AV.cells, Ev.qv, Ev.AV.plain, Ev.qaj, Ev.qo, Ev.qs, Ev.keep, Ev.qd8, Ev.qed, List.replicate_one, List.take_length, List.length_map, ↓Ev.qq, ↓Ev.qan, Ev.it1, ↓reduceIte, List.length_cons, List.length_nil, List.length_append, List.getElem?_cons_zero, List.getElem?_cons_succ, List.take_succ_cons, List.take_nil, List.drop_zero, List.cons_append, List.set_cons_zero, List.head?_cons, Nat.reduceAdd, Nat.reduceEqDiff, Nat.reduceMul, Nat.reduceLeDiff, Nat.reducePow, decide_true, Bool.and_self, Bool.false_eq_true, and_self, ne_eq, not_false_eq_true, List.cons_ne_nil, Nat.zero_add, Nat.lt_add_one, Nat.le_refl, eq_self]
    · have : qyg (c.lps.take (i + 1)) = qyg (c.lps.take i) ++ [x.map stP] := by rw [qer hx]; simp [qyg]
      simp only
      rw [this]
      refine qiw.snoc (hrow z) ((hR z).mono (by simp) (fun o h1 h2 => ?_))
      obtain ⟨o, rfl⟩ : ∃ p, o = p + 1 := ⟨o - 1, by omega⟩
      rw [List.getElem?_cons_succ, List.getElem?_cons_succ]
      exact List.getElem?_append_left (by omega)
  · rintro ⟨R, g, τ⟩ hR
    rw [List.take_length] at hR
    simp only at hR ⊢
    simp only [qgj, Int.lt_irrefl, Ev.exec, Ev.qb, Ev.qe, Ev.qc, Ev.qaf, Ev.Opnd.ev, Ev.Env.get, Ev.Env.set, Ev.look, Ev.qi, Ev.qab, Ev.qo, List.length_map, ↓Ev.qq, Ev.it1, ↓reduceIte, List.drop_zero, List.head?_cons, Nat.reduceEqDiff, decide_false, Bool.false_eq_true, eq_self]
    exact ⟨_, rfl, R, g, τ, rfl, rfl, rfl, hR _, rfl⟩
theorem qxo (h : Small12 c) : qbk (evL T) qil [(.agg [(.fsl ((c.lps).map lpC) false), (.fsl ((c.progs).map qbu) false), (.v (.int .i64 (c.look))), (.v (.int .i64 (c.fin))), (.v (.int .i64 (c.cap)))])] = some (.fsl ((qgm c.lps).map lpF) false) := by
  obtain ⟨⟨y, e, σ⟩, k1, R, g, τ, k2, k3, k4, k5, k6⟩ := q13 c h
  simp only at k1 k2 k3 k4 k5 k6
  subst k2; subst k4
  have tk : List.take R.length R = R := List.take_length
  have hf := fun d => k5.frz (d := d)
  have hle : R.length ≤ R.length := Nat.le_refl _
  rw [qbk, qu qwh qu9]
  simp only [qk8, k1, k3, k6, hle, tk, Ev.qm, Ev.exec, Ev.qb, Ev.qe, Ev.qc, Ev.qaf, Ev.Opnd.ev, Ev.Env.get, Ev.Env.set, Ev.look, Ev.qn, Ev.AV.cells, Ev.qv, Ev.AV.plain, Ev.ql, Ev.qw, Ev.qae, Ev.kill, Ev.qad, Ev.qs, Ev.keep, Ev.qd, Ev.qb8, Ev.qk1, ↓Ev.qq, ↓Ev.qan, ↓reduceIte, List.length_cons, List.length_nil, List.getElem?_cons_zero, List.take_zero, List.drop_zero, List.nil_append, Nat.reduceEqDiff, Nat.reduceLT, decide_false, Bool.and_self, Bool.false_eq_true, and_self, and_true, ne_eq, not_false_eq_true, List.cons_ne_nil, Nat.zero_add, eq_self]
  rw [show (5 : Nat) = 4 + 1 from rfl, hf 4]
  rfl
end
set_option maxRecDepth 10000
structure Sim where
  trace : List (List Evt)
  lps : List Lp
  pend : List Evt
  n : Nat
  over : Bool
def lpAt (s : Sim) (i : Int) : Lp := (s.lps[i.toNat]?).getD ⟨0, 0, [], 0⟩
def qpu (s : Sim) (i : Int) : List Evt := (s.trace[i.toNat]?).getD []
def qe6 (gone : List (List Int)) (x : Evt) : Bool := !(gone.any fun g => decide (g = x.key))
def Sim.step (c : Cfg) (s : Sim) (e : Evt) (rest : List Evt) : Sim :=
  ⟨s.trace.set e.lp.toNat (qpu s e.lp ++ [e]), s.lps.set e.lp.toNat (qck c (lpAt s e.lp) e).lp, qst ((rest ++ (qck c (lpAt s e.lp) e).out).filter (qe6 (qck c (lpAt s e.lp) e).gone)), s.n + 1, s.over || (qck c (lpAt s e.lp) e).over⟩
def Sim.ready (c : Cfg) (s : Sim) : Bool := match s.pend with
  | [] => false
  | e :: _ => decide (e.time < c.fin)
def Sim.go (c : Cfg) (s : Sim) : Sim := match s.pend with
  | [] => s
  | e :: rest => s.step c e rest
def Sim.run (c : Cfg) : Nat → Sim → Sim
  | 0, s => s
  | k + 1, s => if s.ready c = true then Sim.run c k (s.go c) else s
def start (c : Cfg) : Sim := ⟨List.replicate c.lps.length [], (qgm c.lps).map Prod.fst, qst (qkj c.lps), 0, false⟩
structure EvG (c : Cfg) (n : Nat) (e : Evt) : Prop where
  lp : 0 ≤ e.lp ∧ e.lp < c.lps.length
  time : 0 ≤ e.time ∧ e.time ≤ 1152921504606846976
  key : 2 ≤ e.key.length ∧ e.key.length ≤ 2 + n
  proc : 0 ≤ e.proc ∧ e.proc < 8
  arg : e.kind = 2 → 0 ≤ e.arg ∧ e.arg < 16
theorem EvG.mono {c : Cfg} {n m : Nat} {e : Evt} (h : EvG c n e) (hm : n ≤ m) : EvG c m e := ⟨h.lp, h.time, ⟨h.key.1, by have := h.key.2; omega⟩, h.proc, h.arg⟩
def LpG (c : Cfg) (n : Nat) (x : Lp) : Prop := x.procs.length ≤ 8 ∧ ∀ q ∈ x.procs, 0 ≤ q.prog ∧ q.prog < c.progs.length ∧ 0 ≤ q.pc ∧ q.pc ≤ ((c.progs[q.prog.toNat]?).getD []).length ∧ q.timer.length ≤ 2 + n
def qr6 (l : List Evt) : Prop := l.Pairwise (fun a b => ¬ a.key = b.key)
def qo1 (c : Cfg) (x : Lp) (l : List Evt) : Lp := l.foldl (fun x e => (qck c x e).lp) x
def qmi (h : List Evt) (i : Nat) : List Evt := h.filter fun e => decide (e.lp = i)
structure SInv (c : Cfg) (s : Sim) (h : List Evt) : Prop where
  valid : Valid c
  n : s.n = h.length
  trl : s.trace.length = c.lps.length
  tr : ∀ i, i < c.lps.length → s.trace[i]? = some (qmi h i)
  lpl : s.lps.length = c.lps.length
  lp : ∀ x ∈ s.lps, LpG c h.length x
  sorted : s.pend.Pairwise leE
  keys : qr6 (h ++ s.pend)
  ev : ∀ e ∈ h ++ s.pend, EvG c h.length e
  tim : ∀ e ∈ s.pend, e.kind = 2 → ∃ x q p, s.lps[e.lp.toNat]? = some x ∧ x.procs[e.proc.toNat]? = some q ∧ c.progs[q.prog.toNat]? = some p ∧ 0 ≤ e.arg ∧ e.arg < p.length
  par : ∀ e ∈ h ++ s.pend, e.key.length = 2 ∨ ∃ p ∈ h, ∃ m, e.key = p.key ++ [m] ∧ p.time < e.time
  ord : h.Pairwise leE
  ord2 : ∀ a ∈ h, ∀ b ∈ s.pend, leE a b
  fin : ∀ e ∈ h, e.time < c.fin
  len : s.pend.length ≤ 64 + 16 * h.length
  rep : ∀ i, i < c.lps.length → s.lps[i]? = some (qo1 c ((((qgm c.lps).map Prod.fst)[i]?).getD ⟨0, 0, [], 0⟩) (qmi h i))
  rdy : ∀ i, i < c.lps.length → ∀ k e, (qmi h i)[k]? = some e → Ready c (qo1 c ((((qgm c.lps).map Prod.fst)[i]?).getD ⟨0, 0, [], 0⟩) ((qmi h i).take k)) e
theorem qr6.dist {l : List Evt} (h : qr6 l) : q67 l := h.imp fun hk hc => hk ((qx4 _ _).1 hc).2
theorem qr6.perm {l l' : List Evt} (h : qr6 l) (p : l'.Perm l) : qr6 l' := (p.pairwise_iff (fun {x y} hxy hyx => hxy hyx.symm)).2 h
theorem leE_time {a b : Evt} (h : a.time < b.time) : leE a b := by
  have := qkc a.time b.time
  unfold leE qwb
  rw [if_neg (by omega)]; omega
section
variable {c : Cfg} {s : Sim} {h : List Evt}
theorem SInv.head (H : SInv c s h) {e : Evt} {rest : List Evt} (hp : s.pend = e :: rest) (hn : h.length ≤ 60) : ∃ x, s.lps[e.lp.toNat]? = some x ∧ lpAt s e.lp = x ∧ Ready c x e := by
  have he : e ∈ h ++ s.pend := by rw [hp]; simp
  have g := H.ev e he
  obtain ⟨x, hx⟩ : ∃ x, s.lps[e.lp.toNat]? = some x := ⟨_, List.getElem?_eq_getElem (by rw [H.lpl]; have := g.lp; omega)⟩
  have hl := H.lp x (List.mem_of_getElem? hx)
  refine ⟨x, hx, by unfold lpAt; rw [hx]; rfl, H.valid, hl.1, fun q hq => ?_, g.time, by have := g.key; omega, fun q ha hk => ?_⟩
  · obtain ⟨a, b, d, f, k⟩ := hl.2 q hq; exact ⟨a, b, d, f, by omega⟩
  · obtain ⟨_, _, hq, _⟩ := q3a ha
    obtain ⟨x', q', p, h1, h2, h3, h4, h5⟩ := H.tim e (by rw [hp]; simp) hk
    rw [hx] at h1; cases h1
    rw [hq] at h2; cases h2
    rw [h3]; exact ⟨h4, by show e.arg ≤ (p.length : Int); omega⟩
theorem q41 {e : Evt} {out : List Evt} (h : ∀ k ev ev', out[k]? = some ev → out[k + 1]? = some ev' → ∃ m m' : Int, ev.key = e.key ++ [m] ∧ ev'.key = e.key ++ [m'] ∧ m < m') :
    ∀ (d i : Nat) (a b : Evt), out[i]? = some a → out[i + d + 1]? = some b → ∃ m m' : Int, a.key = e.key ++ [m] ∧ b.key = e.key ++ [m'] ∧ m < m'
  | 0, i, a, b, ha, hb => h i a b ha hb
  | d + 1, i, a, b, ha, hb => by
    have hlt := (List.getElem?_eq_some_iff.1 hb).1
    obtain ⟨x, hx⟩ : ∃ x, out[i + d + 1]? = some x := ⟨_, List.getElem?_eq_getElem (by omega)⟩
    obtain ⟨m, m1, h1, h2, h3⟩ := q41 h d i a x ha hx
    obtain ⟨m2, m3, h4, h5, h6⟩ := h (i + d + 1) x b hx hb
    rw [h2] at h4
    have := List.append_cancel_left h4
    simp only [List.cons.injEq, and_true] at this
    exact ⟨m, m3, h1, h5, by omega⟩
theorem q6g {e : Evt} {out : List Evt} (h : ∀ k ev ev', out[k]? = some ev → out[k + 1]? = some ev' → ∃ m m' : Int, ev.key = e.key ++ [m] ∧ ev'.key = e.key ++ [m'] ∧ m < m') : qr6 out := by
  unfold qr6
  rw [List.pairwise_iff_getElem]
  intro i j hi hj hij hk
  obtain ⟨m, m', h1, h2, h3⟩ := q41 h (j - i - 1) i out[i] out[j] (List.getElem?_eq_getElem hi) (by rw [show i + (j - i - 1) + 1 = j by omega]; exact List.getElem?_eq_getElem hj)
  rw [hk, h2] at h1
  have := List.append_cancel_left h1
  simp only [List.cons.injEq, and_true] at this
  omega
theorem SInv.keyNe (H : SInv c s h) {e : Evt} {rest : List Evt} (hp : s.pend = e :: rest) (hn : h.length ≤ 60) : qr6 ((h ++ [e]) ++ (rest ++ (qck c (lpAt s e.lp) e).out)) := by
  obtain ⟨x, hx, hlx, R⟩ := H.head hp hn
  rw [hlx]
  obtain ⟨X, _, o1, o2⟩ := R.outs
  have hk := H.keys
  rw [hp] at hk
  have e1 : (h ++ [e]) ++ (rest ++ (qck c x e).out) = (h ++ e :: rest) ++ (qck c x e).out := by simp
  rw [e1]
  unfold qr6 at hk ⊢
  rw [List.pairwise_append]
  refine ⟨hk, q6g o2, fun a ha b hb hab => ?_⟩
  obtain ⟨k, hkb⟩ := List.mem_iff_getElem?.1 hb
  obtain ⟨m, hm, _⟩ := (o1 k b hkb).key
  have ha' : a ∈ h ++ s.pend := by rw [hp]; exact ha
  have ge := H.ev e (by rw [hp]; simp)
  rw [hm] at hab
  rcases H.par a ha' with h2 | ⟨p, hp1, m', h2, _⟩
  · rw [hab] at h2; simp at h2; have := ge.key; omega
  · rw [hab] at h2
    have hlen := congrArg List.length h2
    simp at hlen
    have := (List.append_inj h2 hlen).1
    rw [List.pairwise_append] at hk
    exact hk.2.2 p hp1 e (by simp) this.symm
end
set_option maxRecDepth 10000
theorem q5k (k : List Int) (x : Evt) (hk : k.length ≤ 9223372036854775807) (hx : x.key.length ≤ 9223372036854775807) :
    (evL T).call qbj [(.fsl ((k).map qcp) false), .fptr x.r] [] = some ((.v (.bool (decide (k = x.key)))), []) := by
  have h := qq8 k x.key false false hk hx
  rw [qu qkz qku]
  simp only [qes, h, Evt.r, qax, Ev.qm, Ev.exec, Ev.qb, Ev.qe, Ev.qc, Ev.qa9, Ev.qaf, Ev.evs, Ev.Opnd.ev, Ev.Env.get, Ev.Env.set, Ev.look, Ev.qn, Ev.qi, Ev.qab, Ev.ql, Ev.qw, Ev.qae, Ev.kill, Ev.qad, Ev.qd, Ev.qa4, Ev.qy, Ev.qj, Ev.qk, ↓Ev.qq, ↓reduceIte, List.length_cons, List.length_nil, List.take_nil, List.drop_succ_cons, List.drop_zero, List.head?_cons, Nat.reduceAdd, Nat.reduceEqDiff, reduceCtorEq, Bool.and_self, Bool.false_eq_true, and_self, Nat.zero_add, eq_self]
section
variable (G : List (List Int)) (c : Bool) (x : Evt)
theorem q4o (hG : G.length ≤ 1000) (hk : ∀ k ∈ G, k.length ≤ 9223372036854775807) (hx : x.key.length ≤ 9223372036854775807) :
    ∃ y, itB (exec (evL T) itL none qdd) (Ev.qs [0, 1, 7, 8] true 0) ⟨[(0, (.fsl ((G).map qfe) c)), (1, .fn (.func qbj) [] [.fptr x.r]), (7, (.v (.int .i64 (G.length)))), (8, (.v (.int .i64 (0))))], []⟩ [] = some y ∧
      (G.all (fun k => !decide (k = x.key)) = true ∧ (y.1 = .exit 0 ∧ y.2.1.marks = [] ∧ y.2.2 = []) ∨
      G.all (fun k => !decide (k = x.key)) = false ∧ ∃ z, G.find? (fun k => !(!decide (k = x.key))) = some z ∧ (y.1 = .ret ∧ y.2.1.marks = [] ∧ y.2.2 = [] ∧ ∃ i : Nat, Ev.look y.2.1.vars 4 = some (.v (.int .i64 (i))))) := by
  have hr : los 0 x.r = true := q5d 0 x
  refine qfg G (fun i => ⟨[(0, (.fsl ((G).map qfe) c)), (1, .fn (.func qbj) [] [.fptr x.r]), (7, (.v (.int .i64 (G.length)))), (8, (.v (.int .i64 (i))))], []⟩) [] (fun k => !decide (k = x.key)) _ (fun _ y => _) ?_ ?_ ?_
  · intro i z hi hz hp
    have hi' : (i : Int) < (G.length : Int) := by omega
    have hw : IntKind.i64.wrap ((i : Int) + 1) = ((i + 1 : Nat) : Int) := by rw [qat (by omega) (by omega)]; simp
    have he := q5k z x (hk z (List.mem_of_getElem? hz)) hx
    simp only [Bool.not_eq_true', decide_eq_false_iff_not] at hp
    simp only [hp, decide_false] at he
    simp only [qdd, Int.natCast_nonneg, Int.toNat_natCast, List.getElem?_map, Option.map_some, hz, hi', hw, he, hr, qfe, qb0, Ev.exec, Ev.qb, Ev.qe, Ev.qc, Ev.qhl, Ev.qaf, Ev.evs, Ev.Opnd.ev, Ev.Env.get, Ev.Env.set, Ev.look, Ev.qi, Ev.qab, Ev.qaj, Ev.qo, Ev.qs, Ev.keep, Ev.qai, Ev.qaa, Ev.qd, Ev.qa4, Ev.qy, Ev.qdf, Ev.qde, Ev.qj, Ev.qk, ↓Ev.qq, Ev.it1, ↓reduceIte, List.length_cons, List.length_nil, List.take_nil, List.cons_append, List.nil_append, List.head?_cons, Nat.reduceEqDiff, reduceCtorEq, decide_true, Bool.and_self, Bool.false_eq_true, and_self, Nat.zero_add, eq_self]
  · intro i z hi hz hp
    have hi' : (i : Int) < (G.length : Int) := by omega
    have he := q5k z x (hk z (List.mem_of_getElem? hz)) hx
    simp only [Bool.not_eq_false', decide_eq_true_eq] at hp
    simp only [hp, decide_true] at he
    simp only [qdd, Int.natCast_nonneg, Int.toNat_natCast, List.getElem?_map, Option.map_some, hz, hi', hp, he, qfe, Ev.exec, Ev.qb, Ev.qe, Ev.qc, Ev.qhl, Ev.qaf, Ev.evs, Ev.Opnd.ev, Ev.Env.get, Ev.Env.set, Ev.look, Ev.qi, Ev.qab, Ev.qo, ↓Ev.qq, Ev.it1, ↓reduceIte, List.length_cons, List.length_nil, List.cons_append, List.nil_append, List.head?_cons, Nat.reduceEqDiff, reduceCtorEq, decide_true, Bool.false_eq_true, Nat.zero_add, eq_self]
    exact ⟨_, rfl, rfl, rfl, rfl, i, rfl⟩
  · simp only [qdd, Int.lt_irrefl, Ev.exec, Ev.qb, Ev.qe, Ev.qc, Ev.qaf, Ev.Opnd.ev, Ev.Env.get, Ev.Env.set, Ev.look, Ev.qo, ↓Ev.qq, Ev.it1, ↓reduceIte, Nat.reduceEqDiff, reduceCtorEq, decide_false, Bool.false_eq_true, eq_self]
    exact ⟨_, rfl, rfl, rfl, rfl⟩
theorem q8r : qe6 G x = G.all (fun k => !decide (k = x.key)) := by
  unfold qe6
  induction G with
  | nil => rfl
  | cons a G ih => rw [List.any_cons, List.all_cons, Bool.not_or, ih]
theorem gone_ev (hG : G.length ≤ 1000) (hk : ∀ k ∈ G, k.length ≤ 9223372036854775807) (hx : x.key.length ≤ 9223372036854775807) :
    qbk (evL T) qcf [(.fsl ((G).map qfe) c), .fn (.func qbj) [] [.fptr x.r]] = some (.v (.bool (!qe6 G x))) := by
  have hr : los 0 x.r = true := q5d 0 x
  have hI : ∃ i : Int, qbk (evL T) qcy [(.fsl ((G).map qfe) c), .fn (.func qbj) [] [.fptr x.r]] = some (.v (.int .i64 (i))) ∧ (decide (i ≥ 0) = !qe6 G x) := by
    rw [q8r]
    obtain ⟨⟨y, e, σ⟩, k1, k2⟩ := q4o G c x hG hk hx
    simp only at k2
    rw [qbk, qu qk5 qkt]
    rcases k2 with ⟨k3, rfl, k4, rfl⟩ | ⟨k3, z, _, rfl, k4, rfl, i, k5⟩
    · refine ⟨-1, ?_, by rw [k3]; rfl⟩
      simp only [qdo, k1, k4, hr, qb0, Ev.qm, Ev.exec, Ev.qb, Ev.qe, Ev.qc, Ev.qaf, Ev.Opnd.ev, Ev.Env.get, Ev.Env.set, Ev.look, Ev.qn, Ev.ql, Ev.qw, Ev.qae, Ev.kill, Ev.qad, Ev.qs, Ev.keep, Ev.qai, Ev.qaa, Ev.qd, Ev.qa4, Ev.qy, Ev.qdf, Ev.qde, Ev.qj, Ev.qk, Ev.qal, List.length_map, ↓Ev.qq, ↓Ev.qan, ↓reduceIte, List.length_cons, List.length_nil, List.take_nil, Nat.reduceAdd, Nat.reduceEqDiff, Int.reduceNeg, reduceCtorEq, Bool.and_self, and_self, Nat.zero_add, eq_self]
    · refine ⟨i, ?_, by rw [k3]; simp⟩
      simp only [qdo, k1, k4, k5, hr, qb0, Ev.qm, Ev.exec, Ev.qb, Ev.qe, Ev.qc, Ev.qaf, Ev.Opnd.ev, Ev.Env.get, Ev.Env.set, Ev.look, Ev.qn, Ev.ql, Ev.qw, Ev.qae, Ev.kill, Ev.qad, Ev.qs, Ev.keep, Ev.qai, Ev.qaa, Ev.qd, Ev.qa4, Ev.qy, Ev.qdf, Ev.qde, Ev.qj, Ev.qk, Ev.qal, List.length_map, ↓Ev.qq, ↓Ev.qan, ↓reduceIte, List.length_cons, List.length_nil, List.take_nil, Nat.reduceAdd, Nat.reduceEqDiff, Int.reduceNeg, reduceCtorEq, Bool.and_self, and_self, Nat.zero_add, eq_self]
  obtain ⟨i, h1, h2⟩ := hI
  rw [qbk, qu qkh qj4]
  simp only [qd4, h1, h2, hr, qb0, Ev.qm, Ev.exec, Ev.qb, Ev.qe, Ev.qc, Ev.qa9, Ev.qaf, Ev.evs, Ev.Opnd.ev, Ev.Env.get, Ev.Env.set, Ev.look, Ev.qn, Ev.qbz, Ev.ql, Ev.qw, Ev.qae, Ev.kill, Ev.qad, Ev.qd, Ev.qa4, Ev.qy, Ev.qdf, Ev.qde, Ev.qj, Ev.qk, Ev.qal, ↓Ev.qq, ↓reduceIte, List.length_cons, List.length_nil, List.take_nil, Nat.reduceAdd, Nat.reduceEqDiff, reduceCtorEq, Bool.and_self, and_self, Nat.zero_add, eq_self]
theorem q5s (σ : qx) (p : Nat) (hp : σ[p]? = some (.row 1 [[(.fsl ((G).map qfe) false)]] 1)) (hG : G.length ≤ 1000) (hk : ∀ k ∈ G, k.length ≤ 9223372036854775807) (hx : x.key.length ≤ 9223372036854775807) :
    (evL T).call qav [(.agg [(.v (.int .i64 (x.time))), (.fsl ((x.key).map qcp) false), (.v (.int .i64 (x.lp))), (.v (.int .i64 (x.kind))), (.v (.int .i64 (x.proc))), (.v (.int .i64 (x.arg)))]), .ptr p 1 0 0] σ = some ((.v (.bool (!qe6 G x))), σ) := by
  have h := gone_ev G false x hG hk hx
  simp only [Evt.r] at h
  rw [qu qlq qlm]
  simp only [qfb, h, hp, qb0, qax, ite_self, Ev.qm, Ev.exec, Ev.qb, Ev.qe, Ev.qc, Ev.qa9, Ev.qaf, Ev.evs, Ev.Opnd.ev, Ev.Env.get, Ev.Env.set, Ev.look, Ev.qn, Ev.qi, Ev.qab, Ev.AV.cells, Ev.qv, Ev.AV.plain, Ev.ql, Ev.qw, Ev.qae, Ev.kill, Ev.qad, Ev.qa4, Ev.qy, Ev.qdf, Ev.qde, Ev.qj, Ev.qk, List.take_length, ↓Ev.qq, ↓reduceIte, List.length_cons, List.length_nil, List.getElem?_cons_zero, List.drop_zero, List.head?_cons, Nat.reduceAdd, Nat.reduceEqDiff, reduceCtorEq, Bool.and_self, Bool.false_eq_true, and_self, true_and, ne_eq, not_false_eq_true, List.cons_ne_nil, Nat.zero_add, eq_self]
end
set_option maxRecDepth 10000
structure GoneAt (σ : qx) (p : Nat) (G : List (List Int)) : Prop where
  at_ : σ[p]? = some (.row 1 [[(.fsl ((G).map qfe) false)]] 1)
  len : G.length ≤ 1000
  key : ∀ k ∈ G, k.length ≤ 9223372036854775807
section
variable (σ : qx) (p o g : Nat) (G : List (List Int)) (D : List Evt)
theorem q5y (H : GoneAt σ p G) (hl : qd σ.length σ = true) (hp : p < σ.length) (ho : σ[o]? = some (.row 6 (D.map Evt.r) g)) (hol : o < σ.length) (hD : D.length ≤ 1000000) (hk : ∀ x ∈ D, x.key.length ≤ 9223372036854775807) :
    ∃ y, itB (exec (evL T) itL none qa5) (Ev.qs [0, 1, 7, 8] true σ.length) ⟨[(0, .sl o g 0 D.length false), (1, (.fn (.func qav) [] [.ptr p 1 0 0])), (7, (.v (.int .i64 (D.length)))), (8, (.v (.int .i64 (0))))], []⟩ σ = some y ∧
      ((D.all (qe6 G) = true ∧ (y.1 = .exit 0 ∧ y.2.1.marks = [] ∧ y.2.2 = σ)) ∨
      ∃ (i : Nat) (z : Evt), D[i]? = some z ∧ qe6 G z = false ∧ (D.take i).all (qe6 G) = true ∧ y.1 = .ret ∧ y.2.1.marks = [] ∧ y.2.2 = σ ∧ Ev.look y.2.1.vars 4 = some (.v (.int .i64 (i)))) := by
  have tl : List.take σ.length σ = σ := List.take_length
  have key := qjm (f := exec (evL T) itL none qa5) (s := Ev.qs [0, 1, 7, 8] true σ.length) (α := Unit)
    (fun i _ => ⟨[(0, .sl o g 0 D.length false), (1, (.fn (.func qav) [] [.ptr p 1 0 0])), (7, (.v (.int .i64 (D.length)))), (8, (.v (.int .i64 (i))))], []⟩) (fun i _ => σ)
    (fun i _ => (D.take i).all (qe6 G) = true) D.length
    (fun y => ((D.all (qe6 G) = true ∧ (y.1 = .exit 0 ∧ y.2.1.marks = [] ∧ y.2.2 = σ)) ∨
      ∃ (i : Nat) (z : Evt), D[i]? = some z ∧ qe6 G z = false ∧ (D.take i).all (qe6 G) = true ∧ y.1 = .ret ∧ y.2.1.marks = [] ∧ y.2.2 = σ ∧ Ev.look y.2.1.vars 4 = some (.v (.int .i64 (i))))) ?_ ?_ 0 () (Nat.zero_le _) (by simp)
  · exact key
  · rintro i _ hi hall
    obtain ⟨z, hz⟩ : ∃ x, D[i]? = some x := ⟨_, List.getElem?_eq_getElem hi⟩
    have hi' : (i : Int) < (D.length : Int) := by omega
    have hw : IntKind.i64.wrap ((i : Int) + 1) = ((i + 1 : Nat) : Int) := by rw [qat (by omega) (by omega)]; simp
    have he := q5s G z σ p H.at_ H.len H.key (hk z (List.mem_of_getElem? hz))
    cases hb : qe6 G z with
    | true =>
      rw [hb] at he
      refine .inl ⟨(), ?_, by rw [qer hz, List.all_append, hall]; simp [hb]⟩
      simp only [qa5, Int.natCast_nonneg, Int.toNat_natCast, List.getElem?_map, Option.map_some, ho, hz, hi, hi', hw, he, hl, tl, hp, hol, Evt.r, Ev.exec, Ev.qb, Ev.qe, Ev.qc, Ev.qhl, Ev.qaf, Ev.evs, Ev.Opnd.ev, Ev.Env.get, Ev.Env.set, Ev.look, Ev.qi, Ev.qab, Ev.qaj, Ev.qo, Ev.qs, Ev.keep, Ev.qai, Ev.qaa, Ev.qa4, Ev.qb8, Ev.qjv, Ev.qde, Ev.qj, Ev.qk, ↓Ev.qq, Ev.it1, ↓reduceIte, List.length_cons, List.length_nil, List.take_succ_cons, List.take_nil, List.drop_zero, List.cons_append, List.nil_append, Nat.reduceAdd, Nat.reduceEqDiff, reduceCtorEq, decide_true, Bool.and_self, Bool.not_true, Bool.false_eq_true, and_self, Nat.zero_add, Nat.le_refl, eq_self]
    | false =>
      rw [hb] at he
      right
      simp only [qa5, Int.natCast_nonneg, Int.toNat_natCast, List.getElem?_map, Option.map_some, ho, hz, hi, hi', he, Evt.r, Ev.exec, Ev.qb, Ev.qe, Ev.qc, Ev.qhl, Ev.qaf, Ev.evs, Ev.Opnd.ev, Ev.Env.get, Ev.Env.set, Ev.look, Ev.qi, Ev.qab, Ev.qo, ↓Ev.qq, Ev.it1, ↓reduceIte, List.length_cons, List.length_nil, List.take_succ_cons, List.take_nil, List.drop_zero, List.cons_append, List.nil_append, Nat.reduceAdd, Nat.reduceEqDiff, reduceCtorEq, decide_true, Bool.not_false, and_self, Nat.zero_add, Nat.le_refl, eq_self]
      exact ⟨_, rfl, .inr ⟨i, z, hz, hb, hall, rfl, rfl, rfl, rfl⟩⟩
  · rintro _ hall
    rw [List.take_length] at hall
    simp only [qa5, Int.lt_irrefl, Ev.exec, Ev.qb, Ev.qe, Ev.qc, Ev.qaf, Ev.Opnd.ev, Ev.Env.get, Ev.Env.set, Ev.look, Ev.qo, ↓Ev.qq, Ev.it1, ↓reduceIte, Nat.reduceEqDiff, reduceCtorEq, decide_false, Bool.false_eq_true, eq_self]
    exact ⟨_, rfl, .inl ⟨hall, rfl, rfl, rfl⟩⟩
theorem q3p (H : GoneAt σ p G) (hl : qd σ.length σ = true) (hp : p < σ.length) (ho : σ[o]? = some (.row 6 (D.map Evt.r) g)) (hol : o < σ.length) (hD : D.length ≤ 1000000) (hk : ∀ x ∈ D, x.key.length ≤ 9223372036854775807) :
    ∃ i : Int, (evL T).call qbg [.sl o g 0 D.length false, (.fn (.func qav) [] [.ptr p 1 0 0])] σ = some ((.v (.int .i64 (i))), σ) ∧
      (i = -1 ∧ D.all (qe6 G) = true ∨ ∃ (j : Nat) (z : Evt), i = j ∧ D[j]? = some z ∧ qe6 G z = false ∧ (D.take j).all (qe6 G) = true) := by
  have tl : List.take σ.length σ = σ := List.take_length
  obtain ⟨⟨y, e, τ⟩, k1, k2⟩ := q5y σ p o g G D H hl hp ho hol hD hk
  simp only at k2
  rw [qu qhg qha]
  rcases k2 with ⟨k3, rfl, k4, rfl⟩ | ⟨j, z, k3, k5, k6, rfl, k4, rfl, k7⟩
  · refine ⟨-1, ?_, .inl ⟨rfl, k3⟩⟩
    simp only [qbw, k1, k4, hl, tl, hp, hol, Ev.qm, Ev.exec, Ev.qb, Ev.qe, Ev.qc, Ev.qaf, Ev.Opnd.ev, Ev.Env.get, Ev.Env.set, Ev.look, Ev.qn, Ev.ql, Ev.qw, Ev.qae, Ev.kill, Ev.qad, Ev.qs, Ev.keep, Ev.qai, Ev.qaa, Ev.qa4, Ev.qb8, Ev.qjv, Ev.qde, Ev.qj, Ev.qk, ↓Ev.qq, ↓Ev.qan, ↓reduceIte, List.length_cons, List.length_nil, Nat.reduceAdd, Nat.reduceEqDiff, Int.reduceNeg, reduceCtorEq, decide_true, Bool.and_self, and_self, Nat.zero_add, eq_self]
  · refine ⟨j, ?_, .inr ⟨j, z, rfl, k3, k5, k6⟩⟩
    simp only [qbw, k1, k4, k7, hl, tl, hp, hol, Ev.qm, Ev.exec, Ev.qb, Ev.qe, Ev.qc, Ev.qaf, Ev.Opnd.ev, Ev.Env.get, Ev.Env.set, Ev.look, Ev.qn, Ev.ql, Ev.qw, Ev.qae, Ev.kill, Ev.qad, Ev.qs, Ev.keep, Ev.qai, Ev.qaa, Ev.qa4, Ev.qb8, Ev.qjv, Ev.qde, Ev.qj, Ev.qk, ↓Ev.qq, ↓Ev.qan, ↓reduceIte, List.length_cons, List.length_nil, Nat.reduceAdd, Nat.reduceEqDiff, Int.reduceNeg, reduceCtorEq, decide_true, Bool.and_self, and_self, Nat.zero_add, eq_self]
def zEvt : Evt := ⟨0, [], 0, 0, 0, 0⟩
theorem zEvt_r : zEvt.r = [(.v (.int .i64 (0))), .fsl [] false, (.v (.int .i64 (0))), (.v (.int .i64 (0))), (.v (.int .i64 (0))), (.v (.int .i64 (0)))] := rfl
structure DelInv (G : List (List Int)) (D : List Evt) (j : Nat) (E : List Evt) : Prop where
  len : E.length = D.length
  kept : E.take ((D.take j).filter (qe6 G)).length = (D.take j).filter (qe6 G)
  rest : E.drop j = D.drop j
  lt : ((D.take j).filter (qe6 G)).length < j
theorem DelInv.mem {G : List (List Int)} {D E : List Evt} {j : Nat} (h : DelInv G D j E) (hj : j < D.length) : E[j]? = D[j]? := by
  have := congrArg (fun l => l[0]?) h.rest
  simpa [List.getElem?_drop] using this
theorem DelInv.keep {G : List (List Int)} {D E : List Evt} {j : Nat} {z : Evt} (h : DelInv G D j E) (hz : D[j]? = some z) (hb : qe6 G z = true) : DelInv G D (j + 1) (E.set ((D.take j).filter (qe6 G)).length z) := by
  have hlt := (List.getElem?_eq_some_iff.1 hz).1
  have hl := h.lt
  have e1 : (D.take (j + 1)).filter (qe6 G) = (D.take j).filter (qe6 G) ++ [z] := by rw [qer hz, List.filter_append]; simp [hb]
  refine ⟨by rw [List.length_set]; exact h.len, ?_, ?_, ?_⟩
  · rw [e1, List.length_append, List.length_singleton, qer (x := z) (by rw [List.getElem?_set_self (by rw [h.len]; omega)]), List.take_set_of_le (Nat.le_refl _), h.kept]
  · rw [List.drop_set_of_lt (by omega)]
    have := congrArg (List.drop 1) h.rest
    rw [List.drop_drop, List.drop_drop] at this
    exact this
  · rw [e1, List.length_append, List.length_singleton]; omega
theorem DelInv.drop {G : List (List Int)} {D E : List Evt} {j : Nat} {z : Evt} (h : DelInv G D j E) (hz : D[j]? = some z) (hb : qe6 G z = false) : DelInv G D (j + 1) E := by
  have e1 : (D.take (j + 1)).filter (qe6 G) = (D.take j).filter (qe6 G) := by rw [qer hz, List.filter_append]; simp [hb]
  refine ⟨h.len, by rw [e1]; exact h.kept, ?_, by rw [e1]; have := h.lt; omega⟩
  have := congrArg (List.drop 1) h.rest
  rw [List.drop_drop, List.drop_drop] at this
  exact this
theorem DelInv.first {G : List (List Int)} {D : List Evt} {j : Nat} {z : Evt} (hz : D[j]? = some z) (hb : qe6 G z = false) (ha : (D.take j).all (qe6 G) = true) : DelInv G D (j + 1) D ∧ ((D.take (j + 1)).filter (qe6 G)).length = j := by
  have hlt := (List.getElem?_eq_some_iff.1 hz).1
  have e0 : (D.take j).filter (qe6 G) = D.take j := List.filter_eq_self.2 (fun x hx => List.all_eq_true.1 ha x hx)
  have e1 : (D.take (j + 1)).filter (qe6 G) = D.take j := by rw [qer hz, List.filter_append, e0]; simp [hb]
  have e2 : (D.take j).length = j := by rw [List.length_take]; omega
  exact ⟨⟨rfl, by rw [e1, e2], rfl, by rw [e1, e2]; omega⟩, by rw [e1, e2]⟩
end
set_option maxRecDepth 10000
section
variable (σ : qx) (p o g n : Nat) (G : List (List Int)) (D : List Evt)
structure Grown (τ : qx) (n o : Nat) (R : List (List AV)) (g : Nat) : Prop where
  len : τ.length = n
  lt : o < n
  at_ : τ[o]? = some (.row 6 R g)
  lo : qd n τ = true
theorem Grown.new {τ : qx} {R : List (List AV)} (h : Grown τ n o R g) (x : SObj) : (τ ++ [x])[n]? = some x := by rw [← h.len]; simp
theorem Grown.setNew {τ : qx} {R : List (List AV)} (h : Grown τ n o R g) (x y : SObj) : (τ ++ [x]).set n y = τ ++ [y] := by rw [← h.len]; simp
theorem Grown.old {τ : qx} {R : List (List AV)} (h : Grown τ n o R g) (x : SObj) : (τ ++ [x])[o]? = some (.row 6 R g) := by rw [List.getElem?_append_left (by rw [h.len]; exact h.lt)]; exact h.at_
theorem Grown.setOld {τ : qx} {R : List (List AV)} (h : Grown τ n o R g) (x y : SObj) : (τ ++ [x]).set o y = τ.set o y ++ [x] := by rw [List.set_append, if_pos (by rw [h.len]; exact h.lt)]
theorem Grown.cut {τ : qx} {R : List (List AV)} (h : Grown τ n o R g) (x : SObj) : (τ ++ [x]).take n = τ := by rw [← h.len]; simp
theorem Grown.cut2 {τ : qx} {R : List (List AV)} (h : Grown τ n o R g) (x y : SObj) : (τ.set o y ++ [x]).take n = τ.set o y := by
  have e : (τ.set o y).length = n := by rw [List.length_set]; exact h.len
  rw [← e, List.take_left]
theorem Grown.of {τ : qx} (hn : σ.length = n) (ho : o < n) (hl : qd n σ = true) (E : List Evt) : Grown (σ.set o (.row 6 ((E).map Evt.r) g)) n o (E.map Evt.r) g :=
  ⟨by rw [List.length_set]; exact hn, ho, by rw [List.getElem?_set_self (by omega)], qs3 hl o (by simp only [SObj.lo, qah])⟩
theorem delete_L (H : GoneAt σ p G) (hn : σ.length = n) (hl : qd n σ = true) (hp : p < n) (hol : o < n) (hpo : ¬ p = o) (hD : D.length ≤ 1000000) (hk : ∀ x ∈ D, x.key.length ≤ 9223372036854775807) :
    ∀ (j : Nat) (E : List Evt), j ≤ D.length → DelInv G D j E →
    ∃ y, itB (exec (evL T) itL none qa3) (Ev.qs [0, 1, 5, 6] true n) ⟨[(0, .sl o g 0 D.length false), (1, (.fn (.func qav) [] [.ptr p 1 0 0])), (5, (.v (.int .i64 (((D.take j).filter (qe6 G)).length)))), (6, (.v (.int .i64 (j))))], []⟩ (σ.set o (.row 6 ((E).map Evt.r) g)) = some y ∧
      ∃ E' : List Evt, E'.length = D.length ∧ E'.take (D.filter (qe6 G)).length = D.filter (qe6 G) ∧ (D.filter (qe6 G)).length ≤ D.length ∧ y.1 = .exit 0 ∧ y.2.1.marks = [] ∧ y.2.2 = (σ.set o (.row 6 ((E').map Evt.r) g)) ∧ Ev.look y.2.1.vars 0 = some (.sl o g 0 D.length false) ∧ Ev.look y.2.1.vars 5 = some (.v (.int .i64 ((D.filter (qe6 G)).length))) := by
  refine qjm (f := exec (evL T) itL none qa3) (s := Ev.qs [0, 1, 5, 6] true n) (α := List Evt)
    (fun j E => ⟨[(0, .sl o g 0 D.length false), (1, (.fn (.func qav) [] [.ptr p 1 0 0])), (5, (.v (.int .i64 (((D.take j).filter (qe6 G)).length)))), (6, (.v (.int .i64 (j))))], []⟩) (fun j E => (σ.set o (.row 6 ((E).map Evt.r) g)))
    (fun j E => DelInv G D j E) D.length _ ?_ ?_
  · intro j E hj hE
    obtain ⟨z, hz⟩ : ∃ x, D[j]? = some x := ⟨_, List.getElem?_eq_getElem hj⟩
    have hzE := hE.mem hj
    rw [hz] at hzE
    have hj' : (j : Int) < (D.length : Int) := by omega
    have hw : IntKind.i64.wrap ((j : Int) + 1) = ((j + 1 : Nat) : Int) := by rw [qat (by omega) (by omega)]; simp
    obtain ⟨m, hm⟩ : ∃ m, m = ((D.take j).filter (qe6 G)).length := ⟨_, rfl⟩
    have hml := hE.lt
    rw [← hm] at hml
    have hmD : m < D.length := by omega
    have hwm : IntKind.i64.wrap ((m : Int) + 1) = ((m + 1 : Nat) : Int) := by rw [qat (by omega) (by omega)]; simp
    have gr := Grown.of (τ := (σ.set o (.row 6 ((E).map Evt.r) g))) σ o g n hn hol hl E
    have hpE : (σ.set o (.row 6 ((E).map Evt.r) g))[p]? = some (.row 1 [[(.fsl ((G).map qfe) false)]] 1) := by rw [List.getElem?_set_ne (fun h => hpo h.symm)]; exact H.at_
    have hpEx : ∀ x, ((σ.set o (.row 6 ((E).map Evt.r) g)) ++ [x])[p]? = some (.row 1 [[(.fsl ((G).map qfe) false)]] 1) := fun x => by rw [List.getElem?_append_left (by rw [gr.len]; exact hp)]; exact hpE
    have he := fun x => q5s G z ((σ.set o (.row 6 ((E).map Evt.r) g)) ++ [x]) p (hpEx x) H.len H.key (hk z (List.mem_of_getElem? hz))
    have hEl : E.length = D.length := hE.len
    obtain ⟨w, hem⟩ : ∃ w, E[m]? = some w := ⟨_, List.getElem?_eq_getElem (by omega)⟩
    have gset : ∀ v : Evt, (σ.set o (.row 6 ((E).map Evt.r) g)).set o (.row 6 ((E.map Evt.r).set m v.r) g) = (σ.set o (.row 6 ((E.set m v).map Evt.r) g)) := fun v => by rw [List.set_set, List.map_set]
    have gs := Grown.of (τ := (σ.set o (.row 6 ((E.set m z).map Evt.r) g))) σ o g n hn hol hl (E.set m z)
    have n1 := gr.new; have n2 := gr.setNew; have n3 := gr.old; have n4 := gr.setOld; have n5 := gr.cut; have n6 := gr.cut2; have n7 := gr.lo; have n8 := gr.at_; have n9 := gr.len
    have lo1 := gs.lo
    have cases_ := hE.keep hz
    have cased := hE.drop hz
    rw [← hm] at cases_
    rw [← hm]
    generalize hτ : (σ.set o (.row 6 ((E).map Evt.r) g)) = τ at he n1 n2 n3 n4 n5 n6 n7 n8 n9 gset hpE
    cases hb : qe6 G z with
    | true =>
      have e1 : ((D.take (j + 1)).filter (qe6 G)).length = m + 1 := by rw [qer hz, List.filter_append, List.length_append, ← hm]; simp [hb]
      rw [hb] at he
      have gz := gset z
      refine .inl ⟨E.set m z, ?_, cases_ hb⟩
      rw [e1, ← gz]
      rw [← gz] at lo1
      obtain ⟨zt, zk, zl, zi, zp, za⟩ := z
      simp only [Evt.r] at lo1 he ⊢
      simp only [qa3, Int.natCast_nonneg, Int.toNat_natCast, List.getElem?_map, Option.map_some, hzE, hem, hj, hj', hw, hwm, hmD, he, n1, n2, n3, n4, n6, n8, n9, lo1, hp, hol, Evt.r, Ev.exec, Ev.qb, Ev.qe, Ev.qc, Ev.qhl, Ev.qaf, Ev.evs, Ev.Opnd.ev, Ev.Env.get, Ev.Env.set, Ev.look, Ev.qi, Ev.qab, Ev.AV.cells, Ev.qv, Ev.AV.plain, Ev.qaj, Ev.qo, Ev.qs, Ev.keep, Ev.qai, Ev.qaa, Ev.qa4, Ev.qb8, Ev.qjv, Ev.qde, Ev.qj, Ev.qk, ↓Ev.qq, Ev.it1, ↓reduceIte, List.length_cons, List.length_nil, List.getElem?_cons_zero, List.take_succ_cons, List.take_zero, List.take_nil, List.drop_succ_cons, List.drop_zero, List.drop_nil, List.cons_append, List.nil_append, List.append_nil, List.set_cons_zero, Nat.reduceAdd, Nat.reduceEqDiff, reduceCtorEq, decide_true, Bool.and_self, Bool.not_true, Bool.not_false, and_self, ne_eq, not_false_eq_true, List.cons_ne_nil, Nat.zero_add, Nat.le_refl, eq_self]
    | false =>
      have e1 : ((D.take (j + 1)).filter (qe6 G)).length = m := by rw [qer hz, List.filter_append, List.length_append, ← hm]; simp [hb]
      rw [hb] at he
      refine .inl ⟨E, ?_, cased hb⟩
      rw [e1, hτ]
      obtain ⟨zt, zk, zl, zi, zp, za⟩ := z
      simp only [] at he ⊢
      simp only [qa3, Int.natCast_nonneg, Int.toNat_natCast, List.getElem?_map, Option.map_some, hzE, hj, hj', hw, he, n1, n2, n5, n7, n8, n9, hp, hol, Evt.r, Ev.exec, Ev.qb, Ev.qe, Ev.qc, Ev.qhl, Ev.qaf, Ev.evs, Ev.Opnd.ev, Ev.Env.get, Ev.Env.set, Ev.look, Ev.qi, Ev.qab, Ev.AV.cells, Ev.qv, Ev.AV.plain, Ev.qaj, Ev.qo, Ev.qs, Ev.keep, Ev.qai, Ev.qaa, Ev.qa4, Ev.qb8, Ev.qjv, Ev.qde, Ev.qj, Ev.qk, ↓Ev.qq, Ev.it1, ↓reduceIte, List.length_cons, List.length_nil, List.getElem?_cons_zero, List.take_succ_cons, List.take_zero, List.take_nil, List.drop_succ_cons, List.drop_zero, List.drop_nil, List.cons_append, List.nil_append, List.append_nil, List.set_cons_zero, Nat.reduceAdd, Nat.reduceEqDiff, reduceCtorEq, decide_true, Bool.and_self, Bool.not_true, Bool.not_false, Bool.false_eq_true, and_self, ne_eq, not_false_eq_true, List.cons_ne_nil, Nat.zero_add, Nat.le_refl, eq_self]
  · intro E hE
    have hk := hE.kept
    have hle := List.length_filter_le (qe6 G) D
    rw [List.take_length] at hk
    rw [List.take_length]
    simp only [qa3, Int.lt_irrefl, Ev.exec, Ev.qb, Ev.qe, Ev.qc, Ev.qaf, Ev.Opnd.ev, Ev.Env.get, Ev.Env.set, Ev.look, Ev.qo, ↓Ev.qq, Ev.it1, ↓reduceIte, Nat.reduceEqDiff, reduceCtorEq, decide_false, Bool.false_eq_true, eq_self]
    exact ⟨_, rfl, E, hE.len, hk, hle, rfl, rfl, rfl, rfl, rfl⟩
theorem q7f (H : GoneAt σ p G) (hn : σ.length = n) (hl : qd n σ = true) (hp : p < n) (hol : o < n) (hpo : ¬ p = o) (ho : σ[o]? = some (.row 6 (D.map Evt.r) g)) (hD : D.length ≤ 1000000) (hk : ∀ x ∈ D, x.key.length ≤ 9223372036854775807) :
    ∃ E : List Evt, (D.filter (qe6 G)).length ≤ E.length ∧ E.take (D.filter (qe6 G)).length = D.filter (qe6 G) ∧
      (evL T).call qba [.sl o g 0 D.length false, (.fn (.func qav) [] [.ptr p 1 0 0])] σ = some (.sl o g 0 (D.filter (qe6 G)).length false, (σ.set o (.row 6 ((E).map Evt.r) g))) := by
  obtain ⟨i, h1, h2⟩ := q3p σ p o g G D H (by rw [hn]; exact hl) (by omega) ho (by omega) hD hk
  have tl : List.take n σ = σ := by rw [← hn]; exact List.take_length
  have hset : σ.set o (.row 6 (D.map Evt.r) g) = σ := by
    obtain ⟨_, hx⟩ := List.getElem?_eq_some_iff.1 ho
    rw [← hx, List.set_getElem_self]
  rw [qu qg9 qgx]
  rcases h2 with ⟨rfl, ha⟩ | ⟨j, z, rfl, hz, hb, ha⟩
  · have e0 : D.filter (qe6 G) = D := List.filter_eq_self.2 (fun x hx => List.all_eq_true.1 ha x hx)
    refine ⟨D, by rw [e0]; exact Nat.le_refl _, by rw [e0, List.take_length], ?_⟩
    rw [e0, hset]
    simp only [qbp, h1, hl, hn, tl, ite_self, Ev.qm, Ev.exec, Ev.qb, Ev.qe, Ev.qc, Ev.qd0, Ev.qaf, Ev.evs, Ev.Opnd.ev, Ev.Env.get, Ev.Env.set, Ev.look, Ev.qn, Ev.qak, Ev.ql, Ev.qw, Ev.qae, Ev.kill, Ev.qad, Ev.qb8, ↓Ev.qq, ↓reduceIte, List.length_cons, List.length_nil, Nat.reduceAdd, Nat.reduceEqDiff, Int.reduceNeg, reduceCtorEq, decide_true, and_true, Nat.zero_add, eq_self]
  · have hlt := (List.getElem?_eq_some_iff.1 hz).1
    obtain ⟨d1, d2⟩ := DelInv.first hz hb ha
    obtain ⟨⟨y, e, τ⟩, k1, E, k2, k3, k4, k5, k6, k7, k8, k9⟩ := delete_L σ p o g n G D H hn hl hp hol hpo hD hk (j + 1) D (by omega) d1
    simp only at k5 k6 k7 k8 k9
    rw [d2, hset] at k1
    subst k5; subst k7
    have gr := Grown.of (τ := (σ.set o (.row 6 ((E).map Evt.r) g))) σ o g n hn hol hl E
    have hw : IntKind.i64.wrap ((j : Int) + 1) = ((j + 1 : Nat) : Int) := by rw [qat (by omega) (by omega)]; simp
    have hne : ¬ (j : Int) = -1 := by omega
    obtain ⟨m, hm⟩ : ∃ m, m = (D.filter (qe6 G)).length := ⟨_, rfl⟩
    rw [← hm] at k3 k4 k9 ⊢
    have c1 : (0 : Int) ≤ (m : Int) := Int.natCast_nonneg _
    have c2 : (m : Int) ≤ (D.length : Int) := by omega
    have c3 : m + (D.length - m) ≤ D.length := by omega
    have hs := gr.at_
    have hlen : (E.map Evt.r).length = D.length := by rw [List.length_map]; exact k2
    have c4 : (0 : Int) ≤ (D.length : Int) := Int.natCast_nonneg _
    have dn : List.drop (m + (D.length - m)) (E.map Evt.r) = [] := List.drop_eq_nil_of_le (by omega)
    have hE2 : (E.map Evt.r).take m ++ List.replicate (D.length - m) zEvt.r = (E.take m ++ List.replicate (D.length - m) zEvt).map Evt.r := by rw [List.map_append, List.map_take, List.map_replicate]
    have n7 := gr.lo; have n9 := gr.len
    refine ⟨E.take m ++ List.replicate (D.length - m) zEvt, by rw [List.length_append, List.length_take, List.length_replicate]; omega, by rw [List.take_append_of_le_length (by rw [List.length_take]; omega), List.take_take, Nat.min_self]; exact k3, ?_⟩
    rw [← hE2]
    have gset : ∀ v : SObj, (σ.set o (.row 6 ((E).map Evt.r) g)).set o v = σ.set o v := fun v => by rw [List.set_set]
    have hss : ∀ v : SObj, (σ.set o v)[o]? = some v := fun v => List.getElem?_set_self (by omega)
    have hts : ∀ v : SObj, (σ.set o v).take n = σ.set o v := fun v => by rw [List.take_of_length_le (by rw [List.length_set]; omega)]
    generalize (σ.set o (.row 6 ((E).map Evt.r) g)) = τ at *
    simp only [zEvt_r]
    simp only [qbp, Int.toNat_natCast, h1, hl, hn, tl, hne, hw, k1, k6, k8, k9, c1, c2, c3, hs, hlen, dn, gset, hss, hts, hp, hol, Int.le_refl, imp_self, Nat.sub_zero, ite_self, Ev.qm, Ev.exec, Ev.qb, Ev.qe, Ev.qc, Ev.qd0, Ev.qaf, Ev.evs, Ev.Opnd.ev, Ev.Env.get, Ev.Env.set, Ev.look, Ev.qn, Ev.qkw, Ev.qv, Ev.AV.plain, Ev.qaj, Ev.qak, Ev.ql, Ev.qw, Ev.qae, Ev.kill, Ev.qad, Ev.qs, Ev.keep, Ev.qai, Ev.qaa, Ev.qa4, Ev.qb8, Ev.qjv, Ev.qde, Ev.qj, Ev.qk, ↓Ev.qq, ↓Ev.qan, ↓reduceIte, List.length_cons, List.length_nil, List.append_nil, Nat.reduceAdd, Nat.reduceEqDiff, Int.reduceToNat, Int.reduceNeg, reduceCtorEq, decide_true, decide_false, Bool.and_self, Bool.and_true, Bool.false_eq_true, and_self, true_and, Nat.zero_add, Nat.add_zero, Option.isSome_some, Option.isSome_none, eq_self, implies_true, Bool.false_and]
    done
end
set_option maxRecDepth 10000
def qkk (l : List Evt) : List AV := [(.fsl ((l).map Evt.r) false)]
theorem evtsC_lo (n : Nat) (l : List Evt) : los n (qkk l) = true := by simp only [qkk, los, AV.lo, qah, Bool.and_self]
theorem quj (n : Nat) (l : List (List Evt)) : qit n (l.map qkk) = true := qjz (evtsC_lo n) l
theorem grow_ev (n : Nat) (h : n ≤ 1000000) : (evL T).call qbe [.fsl [] true, (.v (.int .i64 (n)))] [] =
    if n = 0 then some (.fsl [] true, []) else some (.sl 0 0 0 0 false, [.row 6 ((List.replicate n zEvt).map Evt.r) 0]) := by
  have c1 : ¬ (n : Int) < 0 := by omega
  have w : IntKind.i64.wrap ((n : Int) - ((0 : Nat) : Int)) = n := by rw [qat (by omega) (by omega)]; omega
  have w0 : IntKind.i64.wrap 0 = 0 := rfl
  have w1 : IntKind.i64.wrap ((n : Int) - 0) = n := by rw [qat (by omega) (by omega)]; omega
  have ok := qw0 (List.replicate n zEvt)
  rw [List.map_replicate] at ok ⊢
  have b : n * 64 ≤ 140737488355328 := by omega
  rw [qu qid qh5]
  by_cases h0 : n = 0
  · subst h0
    rw [if_pos rfl]
    simp only [qb6, Int.lt_irrefl, w0, Int.sub_zero, gt_iff_lt, Ev.qm, Ev.exec, Ev.qb, Ev.qe, Ev.qc, Ev.qaf, Ev.Opnd.ev, Ev.Env.get, Ev.Env.set, Ev.look, Ev.qn, Ev.qce, Ev.qo, Ev.qau, Ev.ql, Ev.qw, Ev.qae, Ev.kill, Ev.qad, Ev.qd, Ev.qy, Ev.qac, ↓Ev.qq, ↓reduceIte, List.length_cons, List.length_nil, List.take_nil, Nat.reduceAdd, Nat.reduceEqDiff, Int.cast_ofNat_Int, reduceCtorEq, decide_false, Bool.false_eq_true, and_self, Nat.zero_add, eq_self]
  · have c2 : (n : Int) > 0 := by omega
    rw [if_neg h0]
    simp only [zEvt_r] at ok ⊢
    simp only [qb6, Int.toNat_natCast, c1, c2, w0, w1, ok, b, Int.natCast_nonneg, Nat.sub_zero, Int.le_refl, Ev.qm, Ev.exec, Ev.qb, Ev.qe, Ev.qc, Ev.qaf, Ev.Opnd.ev, Ev.Env.get, Ev.Env.set, Ev.look, Ev.qn, Ev.qkw, Ev.qce, Ev.qo, Ev.qau, Ev.ql, Ev.qw, Ev.qae, Ev.kill, Ev.qad, Ev.qd, Ev.qb8, Ev.qd8, ↓Ev.qq, ↓reduceIte, List.length_cons, List.length_nil, List.getElem?_cons_zero, List.take_zero, List.take_nil, List.drop_nil, List.nil_append, Nat.reduceAdd, Nat.reduceEqDiff, Nat.reduceLT, Nat.reducePow, Int.reduceSub, Int.reduceToNat, Int.cast_ofNat_Int, reduceCtorEq, decide_true, decide_false, Bool.and_self, Bool.false_eq_true, and_self, and_true, Nat.zero_add, Nat.add_zero, Option.isSome_some, Option.isSome_none, eq_self, implies_true, Bool.false_and]
set_option maxRecDepth 10000
section
variable (xs : List (List Evt)) (cl : Bool)
theorem qt1 {xs : List (List Evt)} {i : Nat} {x : List Evt} (h : xs[i]? = some x) : (xs.take (i + 1)).flatten = (xs.take i).flatten ++ x := by rw [qer h, List.flatten_append]; simp
theorem q35 (xs : List (List Evt)) (i : Nat) : (xs.take i).flatten.length ≤ xs.flatten.length := by
  have : xs.flatten = (xs.take i).flatten ++ (xs.drop i).flatten := by rw [← List.flatten_append, List.take_append_drop]
  rw [this, List.length_append]; omega
theorem q7o (hx : xs.length ≤ 1000000) (hT : xs.flatten.length ≤ 1000000) :
    ∃ y, itB (exec (evL T) itL none qbs) (Ev.qs [0, 3, 9, 10, 11] true 0) ⟨[(0, (.fsl ((xs).map qkk) cl)), (3, (.v (.int .i64 (0)))), (9, (.fsl ((xs).map qkk) cl)), (10, (.v (.int .i64 (xs.length)))), (11, (.v (.int .i64 (0))))], []⟩ [] = some y ∧
      y.1 = .exit 0 ∧ y.2.1.marks = [] ∧ y.2.2 = [] ∧ Ev.look y.2.1.vars 0 = some (.fsl ((xs).map qkk) cl) ∧ Ev.look y.2.1.vars 3 = some (.v (.int .i64 (xs.flatten.length))) := by
  have key := qjm (f := exec (evL T) itL none qbs) (s := Ev.qs [0, 3, 9, 10, 11] true 0) (α := Unit)
    (fun i _ => ⟨[(0, (.fsl ((xs).map qkk) cl)), (3, (.v (.int .i64 ((xs.take i).flatten.length)))), (9, (.fsl ((xs).map qkk) cl)), (10, (.v (.int .i64 (xs.length)))), (11, (.v (.int .i64 (i))))], []⟩) (fun _ _ => [])
    (fun _ _ => True) xs.length (fun y => y.1 = .exit 0 ∧ y.2.1.marks = [] ∧ y.2.2 = [] ∧ Ev.look y.2.1.vars 0 = some (.fsl ((xs).map qkk) cl) ∧ Ev.look y.2.1.vars 3 = some (.v (.int .i64 (xs.flatten.length)))) ?_ ?_ 0 () (Nat.zero_le _) trivial
  · exact key
  · rintro i _ hi _
    obtain ⟨x, hx'⟩ : ∃ x, xs[i]? = some x := ⟨_, List.getElem?_eq_getElem hi⟩
    have hi' : (i : Int) < (xs.length : Int) := by omega
    have hw : IntKind.i64.wrap ((i : Int) + 1) = ((i + 1 : Nat) : Int) := by rw [qat (by omega) (by omega)]; simp
    have h1 := q35 xs (i + 1)
    rw [qt1 hx', List.length_append] at h1
    have h2 : IntKind.i64.wrap (((xs.take i).flatten.length : Int) + (x.length : Int)) = (((xs.take i).flatten.length + x.length : Nat) : Int) := qlx (by omega)
    refine .inl ⟨(), ?_, trivial⟩
    rw [qt1 hx', List.length_append]
    generalize (xs.take i).flatten.length = m at h2 h1 ⊢
    have h3 : ¬ ((m + x.length : Nat) : Int) < 0 := by omega
    simp only [qbs, Int.natCast_nonneg, Int.toNat_natCast, List.getElem?_map, Option.map_some, hx', hi', hw, h2, h3, qkk, quj, Ev.exec, Ev.qb, Ev.qe, Ev.qc, Ev.qaf, Ev.Opnd.ev, Ev.Env.get, Ev.Env.set, Ev.look, Ev.qi, Ev.qab, Ev.qaj, Ev.qo, Ev.qs, Ev.keep, Ev.qai, Ev.qaa, Ev.qd, Ev.qa4, Ev.qy, List.length_map, ↓Ev.qq, Ev.it1, ↓reduceIte, List.length_cons, List.length_nil, List.take_nil, List.head?_cons, Nat.reduceEqDiff, reduceCtorEq, decide_true, decide_false, Bool.and_self, Bool.false_eq_true, and_self, Nat.zero_add, eq_self]
  · rintro _ _
    simp only [qbs, Int.lt_irrefl, List.take_length, Ev.exec, Ev.qb, Ev.qe, Ev.qc, Ev.qaf, Ev.Opnd.ev, Ev.Env.get, Ev.Env.set, Ev.look, Ev.qo, List.take_length, ↓Ev.qq, Ev.it1, ↓reduceIte, Nat.reduceEqDiff, reduceCtorEq, decide_false, Bool.false_eq_true, eq_self]
    exact ⟨_, rfl, rfl, rfl, rfl, rfl, rfl⟩
def CInv (xs : List (List Evt)) (i : Nat) (a : AV × qx) : Prop :=
  (i = 0 ∧ xs.flatten.length = 0 ∧ a = (.fsl [] true, [])) ∨
  ∃ (g : Nat) (W : List Evt), a = (.sl 0 g 0 (xs.take i).flatten.length false, [.row 6 (W.map Evt.r) g]) ∧ (W = (xs.take i).flatten ∨ (xs.take i).flatten = [] ∧ 0 < xs.flatten.length)
theorem q7w (hx : xs.length ≤ 1000000) (hT : xs.flatten.length ≤ 1000000) (a : AV × qx) (ha : CInv xs 0 a) (n : Nat) :
    ∃ y, itB (exec (evL T) itL none qaz) (Ev.qs [6, 25, 26, 27] false n) ⟨[(6, a.1), (25, (.fsl ((xs).map qkk) cl)), (26, (.v (.int .i64 (xs.length)))), (27, (.v (.int .i64 (0))))], []⟩ a.2 = some y ∧
      ∃ b, CInv xs xs.length b ∧ y.1 = .exit 2 ∧ y.2.1.marks = [] ∧ y.2.2 = b.2 ∧ Ev.look y.2.1.vars 6 = some b.1 := by
  have key := qjm (f := exec (evL T) itL none qaz) (s := Ev.qs [6, 25, 26, 27] false n) (α := AV × qx)
    (fun i a => ⟨[(6, a.1), (25, (.fsl ((xs).map qkk) cl)), (26, (.v (.int .i64 (xs.length)))), (27, (.v (.int .i64 (i))))], []⟩) (fun _ a => a.2)
    (fun i a => CInv xs i a) xs.length (fun y => ∃ b, CInv xs xs.length b ∧ y.1 = .exit 2 ∧ y.2.1.marks = [] ∧ y.2.2 = b.2 ∧ Ev.look y.2.1.vars 6 = some b.1) ?_ ?_ 0 a (Nat.zero_le _) ha
  · exact key
  · rintro i a hi ha
    obtain ⟨x, hx'⟩ : ∃ x, xs[i]? = some x := ⟨_, List.getElem?_eq_getElem hi⟩
    have hi' : (i : Int) < (xs.length : Int) := by omega
    have hw : IntKind.i64.wrap ((i : Int) + 1) = ((i + 1 : Nat) : Int) := by rw [qat (by omega) (by omega)]; simp
    have h1 := q35 xs (i + 1)
    have hfl := qt1 hx'
    rw [hfl, List.length_append] at h1
    have ok := qw0 x
    rcases ha with ⟨hi0, h0, rfl⟩ | ⟨g, W, rfl, hW⟩
    · have hfi : (xs.take i).flatten = [] := by rw [hi0]; rfl
      have hx0 : x = [] := List.eq_nil_of_length_eq_zero (by omega)
      subst hx0
      refine .inl ⟨(.sl 0 0 0 0 false, [.row 6 [] 0]), ?_, .inr ⟨0, [], ?_, .inl ?_⟩⟩
      · simp only [qaz, Int.natCast_nonneg, Int.toNat_natCast, List.getElem?_map, Option.map_some, hx', hi', hw, qkk, List.map_nil, Nat.zero_mul, Nat.zero_le, Ev.exec, Ev.qb, Ev.qe, Ev.qc, Ev.qaf, Ev.qvy, Ev.Opnd.ev, Ev.Env.get, Ev.Env.set, Ev.look, Ev.qi, Ev.qd5, Ev.qab, Ev.qaj, Ev.qo, Ev.qs, Ev.keep, Ev.qd8, ↓Ev.qq, Ev.it1, ↓reduceIte, List.length_cons, List.length_nil, List.nil_append, List.append_nil, List.head?_cons, Nat.reduceEqDiff, Nat.reduceLT, Nat.reducePow, decide_true, Bool.false_eq_true, and_self, ne_eq, not_true_eq_false, Nat.zero_add, Nat.add_zero, eq_self, and_false]
      · rw [hfl, hfi]; simp
      · rw [hfl, hfi]; simp
    · by_cases hx0 : x = []
      · subst hx0
        rw [List.append_nil] at hfl
        refine .inl ⟨(.sl 0 g 0 (xs.take i).flatten.length false, [.row 6 (W.map Evt.r) g]), ?_, .inr ⟨g, W, by rw [hfl], by rw [hfl]; exact hW⟩⟩
        have hWl : (xs.take i).flatten.length ≤ W.length := by
          rcases hW with rfl | ⟨h, _⟩
          · exact Nat.le_refl _
          · rw [h]; exact Nat.zero_le _
        have b : (xs.take i).flatten.length * 64 ≤ 140737488355328 := by have := h1; simp at this; omega
        simp only [qaz, Int.natCast_nonneg, Int.toNat_natCast, List.getElem?_map, Option.map_some, hx', hi', hw, qkk, List.map_nil, hWl, b, Ev.exec, Ev.qb, Ev.qe, Ev.qc, Ev.qaf, Ev.qvy, Ev.Opnd.ev, Ev.Env.get, Ev.Env.set, Ev.look, Ev.qi, Ev.qd5, Ev.qab, Ev.qaj, Ev.qo, Ev.qs, Ev.keep, Ev.qd8, List.length_map, ↓Ev.qq, Ev.it1, ↓reduceIte, List.length_cons, List.length_nil, List.getElem?_cons_zero, List.head?_cons, Nat.reduceEqDiff, Nat.reducePow, decide_true, Bool.false_eq_true, and_self, Nat.zero_add, Nat.add_zero, eq_self]
      · have hWl : (xs.take i).flatten.length ≤ W.length ∧ W.take (xs.take i).flatten.length = (xs.take i).flatten := by
          rcases hW with rfl | ⟨h, _⟩
          · exact ⟨Nat.le_refl _, List.take_length⟩
          · rw [h]; exact ⟨Nat.zero_le _, rfl⟩
        obtain ⟨w1, w2⟩ := hWl
        have hm : x.map Evt.r ≠ [] := by simpa using hx0
        have w3 : (W.map Evt.r).take (xs.take i).flatten.length = ((xs.take i).flatten).map Evt.r := by rw [← List.map_take, w2]
        have b : ((xs.take i).flatten.length + x.length) * 64 ≤ 140737488355328 := by omega
        refine .inl ⟨(.sl 0 (g + 1) 0 ((xs.take i).flatten.length + x.length) false, [.row 6 (((xs.take i).flatten ++ x).map Evt.r) (g + 1)]), ?_, .inr ⟨g + 1, _, by rw [hfl, List.length_append], .inl hfl.symm⟩⟩
        rw [List.map_append]
        generalize (xs.take i).flatten = F at *
        simp only [qaz, Int.natCast_nonneg, Int.toNat_natCast, List.getElem?_map, Option.map_some, hx', hi', hw, qkk, ok, hm, w1, w3, b, Ev.exec, Ev.qb, Ev.qe, Ev.qc, Ev.qaf, Ev.qvy, Ev.Opnd.ev, Ev.Env.get, Ev.Env.set, Ev.look, Ev.qi, Ev.qd5, Ev.qab, Ev.qaj, Ev.qo, Ev.qs, Ev.keep, List.length_map, ↓Ev.qq, Ev.it1, ↓reduceIte, List.length_cons, List.length_nil, List.getElem?_cons_zero, List.set_cons_zero, List.head?_cons, Nat.reduceEqDiff, Nat.reducePow, decide_true, Bool.false_eq_true, and_self, Nat.zero_add, eq_self]
  · rintro a ha
    simp only [qaz, Int.lt_irrefl, Ev.exec, Ev.qb, Ev.qe, Ev.qc, Ev.qaf, Ev.Opnd.ev, Ev.Env.get, Ev.Env.set, Ev.look, Ev.qo, ↓Ev.qq, Ev.it1, ↓reduceIte, Nat.reduceEqDiff, decide_false, Bool.false_eq_true, eq_self]
    exact ⟨_, rfl, a, ha, rfl, rfl, rfl, rfl⟩
theorem q8v (hx : xs.length ≤ 1000000) (hT : xs.flatten.length ≤ 1000000) (hne : xs ≠ []) :
    ∃ g : Nat, (evL T).call qa8 [(.fsl ((xs).map qkk) cl)] [] = some (.sl 0 g 0 xs.flatten.length false, [.row 6 (xs.flatten.map Evt.r) g]) := by
  obtain ⟨⟨y, e, σ⟩, k1, k2, k3, k4, k5, k6⟩ := q7o xs cl hx hT
  simp only at k1 k2 k3 k4 k5 k6
  subst k2; subst k4
  have hg := grow_ev xs.flatten.length hT
  obtain ⟨a, n, ha, hc, hn⟩ : ∃ (a : AV × qx) (n : Nat), CInv xs 0 a ∧ (evL T).call qbe [.fsl [] true, (.v (.int .i64 (xs.flatten.length)))] [] = some a ∧ a.2.length = n := by
    by_cases h0 : xs.flatten.length = 0
    · exact ⟨_, _, .inl ⟨rfl, h0, rfl⟩, by rw [hg, if_pos h0], rfl⟩
    · exact ⟨(.sl 0 0 0 0 false, [.row 6 ((List.replicate xs.flatten.length zEvt).map Evt.r) 0]), _, .inr ⟨0, _, rfl, .inr ⟨rfl, by omega⟩⟩, by rw [hg, if_neg h0], rfl⟩
  obtain ⟨⟨y', e', σ'⟩, l1, b, hb, l2, l3, l4, l5⟩ := q7w xs cl hx hT a ha n
  simp only at l1 l2 l3 l4 l5
  subst l2; subst l4
  have hb' : ∃ g : Nat, b = (.sl 0 g 0 xs.flatten.length false, [.row 6 (xs.flatten.map Evt.r) g]) := by
    rcases hb with ⟨h, _⟩ | ⟨g, W, rfl, hW⟩
    · exact absurd (List.eq_nil_of_length_eq_zero h) hne
    · rw [List.take_length] at hW ⊢
      rcases hW with rfl | ⟨h, h2⟩
      · exact ⟨g, rfl⟩
      · rw [h] at h2; simp at h2
  obtain ⟨g, rfl⟩ := hb'
  refine ⟨g, ?_⟩
  have himp : qgp (q07 0) a.2 = some a.2 ∧ a.1.shift 0 = a.1 := by
    rcases ha with ⟨_, _, rfl⟩ | ⟨g, W, rfl, _⟩
    · exact ⟨rfl, rfl⟩
    · refine ⟨?_, rfl⟩
      simp only [q07, qfi, qhn, qhs, qah, Ev.q07, Ev.qhn, Ev.qfi, Ev.qhs, ↓Ev.qq, eq_self]
  obtain ⟨i1, i2⟩ := himp
  rw [qu qhy qhw]
  simp only [qcm, k1, k3, k5, k6, hc, hn, i1, i2, l1, l3, l5, quj, Ev.qm, Ev.exec, Ev.qb, Ev.qe, Ev.qc, Ev.qqm, Ev.qaf, Ev.evs, Ev.Opnd.ev, Ev.Env.get, Ev.Env.set, Ev.look, Ev.qn, Ev.ql, Ev.qw, Ev.qae, Ev.kill, Ev.qad, Ev.qs, Ev.keep, Ev.qai, Ev.qaa, Ev.qd, Ev.qa4, Ev.qy, Ev.qb8, Ev.qj, Ev.qk, Ev.qac, List.length_map, ↓Ev.qq, ↓Ev.qan, ↓reduceIte, List.length_cons, List.length_nil, List.take_zero, List.take_nil, List.nil_append, Nat.reduceEqDiff, Nat.reduceLT, reduceCtorEq, decide_false, Bool.and_self, Bool.false_eq_true, and_self, and_true, Nat.zero_add, eq_self]
end
set_option maxRecDepth 10000
section
variable {c : Cfg} {x : Lp} {e : Evt}
theorem q14 (hp : x.procs = []) : qlw x e = none := by
  unfold qlw
  rw [hp]; simp
theorem q2o (hp : x.procs = []) : (qck c x e).lp.procs = [] := by
  unfold qck
  split
  · exact hp
  · rw [q14 hp]; exact hp
theorem Exec_evF (h : Ready c x e) (f : Bool) (hf : f = true → x.procs = []) : qbk (evL T) qep [(.agg [(.fsl ((c.lps).map lpC) false), (.fsl ((c.progs).map qbu) false), (.v (.int .i64 (c.look))), (.v (.int .i64 (c.fin))), (.v (.int .i64 (c.cap)))]), (.agg [(.v (.int .i64 (x.r0))), (.v (.int .i64 (x.r1))), (.fsl ((x.procs).map Pr.r) f), (.v (.int .i64 (x.sum)))]), (.agg [(.v (.int .i64 (e.time))), (.fsl ((e.key).map qcp) false), (.v (.int .i64 (e.lp))), (.v (.int .i64 (e.kind))), (.v (.int .i64 (e.proc))), (.v (.int .i64 (e.arg)))])] = some (.tup [(.agg [(.v (.int .i64 ((qck c x e).lp.r0))), (.v (.int .i64 ((qck c x e).lp.r1))), (.fsl (((qck c x e).lp.procs).map Pr.r) f), (.v (.int .i64 ((qck c x e).lp.sum)))]), (.fsl (((qck c x e).out).map Evt.r) (qck c x e).nil), (.fsl (((qck c x e).gone).map qfe) (qck c x e).nil), (.v (.bool ((qck c x e).over)))]) := by
  cases f with
  | false => exact Exec_ev h
  | true =>
    have hp := hf rfl
    unfold qck
    rw [qbk, qu qjw qjh]
    rw [q14 hp]
    by_cases hk : e.kind = 3
    · rw [if_pos hk]
      simp only [qby, hk, hp, List.map_nil, Ev.qm, Ev.exec, Ev.qb, Ev.qe, Ev.qc, Ev.qaf, Ev.Opnd.ev, Ev.Env.get, Ev.Env.set, Ev.look, Ev.qn, Ev.qi, Ev.qab, Ev.AV.cells, Ev.AV.uc, Ev.qv, Ev.AV.plain, Ev.qaj, Ev.qak, Ev.ql, Ev.qw, Ev.qae, Ev.kill, Ev.qad, Ev.qd, Ev.qa4, Ev.qbn, Ev.qbc, Ev.qy, Ev.qj, Ev.qk, Ev.qac, Ev.qal, ↓Ev.qq, ↓reduceIte, List.length_cons, List.length_nil, List.getElem?_cons_zero, List.getElem?_cons_succ, List.take_succ_cons, List.take_zero, List.take_nil, List.drop_succ_cons, List.drop_zero, List.drop_nil, List.cons_append, List.nil_append, List.append_nil, List.set_cons_zero, List.set_cons_succ, List.head?_cons, Nat.reduceAdd, Nat.reduceEqDiff, reduceCtorEq, decide_true, Bool.and_self, Bool.false_eq_true, and_self, ne_eq, not_false_eq_true, List.cons_ne_nil, Nat.zero_add, Nat.le_refl, eq_self]
    rw [if_neg hk]
    by_cases h1 : e.proc < 0
    · by_cases k1 : e.kind = 1
      · simp only [qby, k1, h1, hp, List.map_nil, Ev.qm, Ev.exec, Ev.qb, Ev.qe, Ev.qc, Ev.qaf, Ev.Opnd.ev, Ev.Env.get, Ev.Env.set, Ev.Env.unset, Ev.look, Ev.qn, Ev.qi, Ev.qab, Ev.AV.cells, Ev.qv, Ev.AV.plain, Ev.qak, Ev.qbd, Ev.qo, Ev.ql, Ev.qw, Ev.qae, Ev.kill, Ev.qad, Ev.qd, Ev.qa4, Ev.qbn, Ev.qbc, Ev.qy, Ev.qj, Ev.qk, Ev.qac, Ev.qal, ↓Ev.qq, ↓reduceIte, List.length_cons, List.length_nil, List.getElem?_cons_zero, List.getElem?_cons_succ, List.take_succ_cons, List.take_zero, List.take_nil, List.drop_succ_cons, List.drop_zero, List.drop_nil, List.cons_append, List.nil_append, List.append_nil, List.set_cons_zero, List.set_cons_succ, List.head?_cons, Nat.reduceAdd, Nat.reduceEqDiff, Int.reduceEq, reduceCtorEq, decide_true, decide_false, Bool.and_self, Bool.false_eq_true, and_self, ne_eq, not_false_eq_true, not_true_eq_false, List.cons_ne_nil, Nat.zero_add, Nat.le_refl, eq_self]
      by_cases k2 : e.kind = 2
      · simp only [qby, k2, h1, hp, List.map_nil, Ev.qm, Ev.exec, Ev.qb, Ev.qe, Ev.qc, Ev.qaf, Ev.Opnd.ev, Ev.Env.get, Ev.Env.set, Ev.look, Ev.qn, Ev.qi, Ev.qab, Ev.AV.cells, Ev.qv, Ev.AV.plain, Ev.qak, Ev.qbd, Ev.qo, Ev.ql, Ev.qw, Ev.qae, Ev.kill, Ev.qad, Ev.qd, Ev.qa4, Ev.qbn, Ev.qbc, Ev.qy, Ev.qj, Ev.qk, Ev.qac, Ev.qal, ↓Ev.qq, ↓reduceIte, List.length_cons, List.length_nil, List.getElem?_cons_zero, List.getElem?_cons_succ, List.take_succ_cons, List.take_zero, List.take_nil, List.drop_succ_cons, List.drop_zero, List.drop_nil, List.cons_append, List.nil_append, List.append_nil, List.set_cons_zero, List.set_cons_succ, List.head?_cons, Nat.reduceAdd, Nat.reduceEqDiff, Int.reduceEq, reduceCtorEq, decide_true, decide_false, Bool.and_self, Bool.false_eq_true, and_self, ne_eq, not_false_eq_true, not_true_eq_false, List.cons_ne_nil, Nat.zero_add, Nat.le_refl, eq_self]
      · simp only [qby, hk, k1, k2, hp, List.map_nil, Ev.qm, Ev.exec, Ev.qb, Ev.qe, Ev.qc, Ev.qaf, Ev.Opnd.ev, Ev.Env.get, Ev.Env.set, Ev.look, Ev.qn, Ev.qi, Ev.qab, Ev.AV.cells, Ev.qv, Ev.AV.plain, Ev.qak, Ev.qbd, Ev.ql, Ev.qw, Ev.qae, Ev.kill, Ev.qad, Ev.qd, Ev.qa4, Ev.qbn, Ev.qbc, Ev.qy, Ev.qj, Ev.qk, Ev.qac, Ev.qal, ↓Ev.qq, ↓reduceIte, List.length_cons, List.length_nil, List.getElem?_cons_zero, List.getElem?_cons_succ, List.take_succ_cons, List.take_zero, List.take_nil, List.drop_succ_cons, List.drop_zero, List.drop_nil, List.cons_append, List.nil_append, List.append_nil, List.set_cons_zero, List.set_cons_succ, List.head?_cons, Nat.reduceAdd, Nat.reduceEqDiff, reduceCtorEq, decide_true, decide_false, Bool.and_self, Bool.false_eq_true, and_self, ne_eq, not_false_eq_true, List.cons_ne_nil, Nat.zero_add, Nat.le_refl, eq_self]
    have h2 : e.proc ≥ ((0 : Nat) : Int) := by omega
    have h2' : e.proc ≥ 0 := by omega
    · by_cases k1 : e.kind = 1
      · simp only [qby, k1, h1, h2', hp, List.map_nil, Ev.qm, Ev.exec, Ev.qb, Ev.qe, Ev.qc, Ev.qaf, Ev.Opnd.ev, Ev.Env.get, Ev.Env.set, Ev.Env.unset, Ev.look, Ev.qn, Ev.qi, Ev.qab, Ev.AV.cells, Ev.qv, Ev.AV.plain, Ev.qak, Ev.qbd, Ev.qo, Ev.qbz, Ev.ql, Ev.qw, Ev.qae, Ev.kill, Ev.qad, Ev.qd, Ev.qa4, Ev.qbn, Ev.qbc, Ev.qy, Ev.qj, Ev.qk, Ev.qac, Ev.qal, ↓Ev.qq, ↓reduceIte, List.length_cons, List.length_nil, List.getElem?_cons_zero, List.getElem?_cons_succ, List.take_succ_cons, List.take_zero, List.take_nil, List.drop_succ_cons, List.drop_zero, List.drop_nil, List.cons_append, List.nil_append, List.append_nil, List.set_cons_zero, List.set_cons_succ, List.head?_cons, Nat.reduceAdd, Nat.reduceEqDiff, Int.reduceEq, Int.cast_ofNat_Int, reduceCtorEq, decide_true, decide_false, Bool.and_self, Bool.false_eq_true, and_self, ne_eq, not_false_eq_true, not_true_eq_false, List.cons_ne_nil, Nat.zero_add, Nat.le_refl, eq_self]
      by_cases k2 : e.kind = 2
      · simp only [qby, k2, h1, h2', hp, List.map_nil, Ev.qm, Ev.exec, Ev.qb, Ev.qe, Ev.qc, Ev.qaf, Ev.Opnd.ev, Ev.Env.get, Ev.Env.set, Ev.look, Ev.qn, Ev.qi, Ev.qab, Ev.AV.cells, Ev.qv, Ev.AV.plain, Ev.qak, Ev.qbd, Ev.qo, Ev.qbz, Ev.ql, Ev.qw, Ev.qae, Ev.kill, Ev.qad, Ev.qd, Ev.qa4, Ev.qbn, Ev.qbc, Ev.qy, Ev.qj, Ev.qk, Ev.qac, Ev.qal, ↓Ev.qq, ↓reduceIte, List.length_cons, List.length_nil, List.getElem?_cons_zero, List.getElem?_cons_succ, List.take_succ_cons, List.take_zero, List.take_nil, List.drop_succ_cons, List.drop_zero, List.drop_nil, List.cons_append, List.nil_append, List.append_nil, List.set_cons_zero, List.set_cons_succ, List.head?_cons, Nat.reduceAdd, Nat.reduceEqDiff, Int.reduceEq, Int.cast_ofNat_Int, reduceCtorEq, decide_true, decide_false, Bool.and_self, Bool.false_eq_true, and_self, ne_eq, not_false_eq_true, not_true_eq_false, List.cons_ne_nil, Nat.zero_add, Nat.le_refl, eq_self]
      · simp only [qby, hk, k1, k2, hp, List.map_nil, Ev.qm, Ev.exec, Ev.qb, Ev.qe, Ev.qc, Ev.qaf, Ev.Opnd.ev, Ev.Env.get, Ev.Env.set, Ev.look, Ev.qn, Ev.qi, Ev.qab, Ev.AV.cells, Ev.qv, Ev.AV.plain, Ev.qak, Ev.qbd, Ev.ql, Ev.qw, Ev.qae, Ev.kill, Ev.qad, Ev.qd, Ev.qa4, Ev.qbn, Ev.qbc, Ev.qy, Ev.qj, Ev.qk, Ev.qac, Ev.qal, ↓Ev.qq, ↓reduceIte, List.length_cons, List.length_nil, List.getElem?_cons_zero, List.getElem?_cons_succ, List.take_succ_cons, List.take_zero, List.take_nil, List.drop_succ_cons, List.drop_zero, List.drop_nil, List.cons_append, List.nil_append, List.append_nil, List.set_cons_zero, List.set_cons_succ, List.head?_cons, Nat.reduceAdd, Nat.reduceEqDiff, reduceCtorEq, decide_true, decide_false, Bool.and_self, Bool.false_eq_true, and_self, ne_eq, not_false_eq_true, List.cons_ne_nil, Nat.zero_add, Nat.le_refl, eq_self]
theorem q77 (h : Ready c x e) (f : Bool) (hf : f = true → x.procs = []) : qbk (evL T) qgd [(.agg [(.fsl ((c.lps).map lpC) false), (.fsl ((c.progs).map qbu) false), (.v (.int .i64 (c.look))), (.v (.int .i64 (c.fin))), (.v (.int .i64 (c.cap)))]), (.agg [(.v (.int .i64 (x.r0))), (.v (.int .i64 (x.r1))), (.fsl ((x.procs).map Pr.r) f), (.v (.int .i64 (x.sum)))]), (.agg [(.v (.int .i64 (e.time))), (.fsl ((e.key).map qcp) false), (.v (.int .i64 (e.lp))), (.v (.int .i64 (e.kind))), (.v (.int .i64 (e.proc))), (.v (.int .i64 (e.arg)))])] = some (.tup [(.agg [(.v (.int .i64 ((qck c x e).lp.r0))), (.v (.int .i64 ((qck c x e).lp.r1))), (.fsl (((qck c x e).lp.procs).map Pr.r) f), (.v (.int .i64 ((qck c x e).lp.sum)))]), (.fsl (((qck c x e).out).map Evt.r) (qck c x e).nil), (.fsl (((qck c x e).gone).map qfe) (qck c x e).nil), (.v (.bool ((qck c x e).over)))]) := by
  cases f with
  | false => exact RExec_ev h
  | true =>
    have hp := hf rfl
    unfold qck
    rw [qbk, qu qk9 qkp]
    rw [q14 hp]
    by_cases hk : e.kind = 3
    · rw [if_pos hk]
      simp only [qb9, hk, hp, List.map_nil, Nat.reduceLeDiff, Ev.qm, Ev.exec, Ev.qb, Ev.qe, Ev.qc, Ev.qaf, Ev.Opnd.ev, Ev.Env.get, Ev.Env.set, Ev.look, Ev.qn, Ev.qi, Ev.qab, Ev.qff, Ev.AV.cells, Ev.AV.uc, Ev.qv, Ev.AV.plain, Ev.qaj, Ev.qak, Ev.ql, Ev.qw, Ev.qae, Ev.kill, Ev.qad, Ev.qd, Ev.qa4, Ev.qbn, Ev.qbc, Ev.qy, Ev.qj, Ev.qk, Ev.qac, Ev.qal, ↓Ev.qq, ↓reduceIte, List.length_cons, List.length_nil, List.getElem?_cons_zero, List.getElem?_cons_succ, List.take_succ_cons, List.take_zero, List.take_nil, List.drop_succ_cons, List.drop_zero, List.drop_nil, List.cons_append, List.nil_append, List.append_nil, List.set_cons_zero, List.set_cons_succ, List.head?_cons, Nat.reduceAdd, Nat.reduceEqDiff, Nat.reduceLeDiff, reduceCtorEq, decide_true, Bool.and_self, Bool.false_eq_true, and_self, ne_eq, not_false_eq_true, List.cons_ne_nil, Nat.zero_add, Nat.add_zero, Nat.le_refl, eq_self]
    rw [if_neg hk]
    by_cases h1 : e.proc < 0
    · by_cases k1 : e.kind = 1
      · simp only [qb9, k1, h1, hp, List.map_nil, Nat.reduceLeDiff, Ev.qm, Ev.exec, Ev.qb, Ev.qe, Ev.qc, Ev.qaf, Ev.Opnd.ev, Ev.Env.get, Ev.Env.set, Ev.Env.unset, Ev.look, Ev.qn, Ev.qi, Ev.qab, Ev.qff, Ev.AV.cells, Ev.qv, Ev.AV.plain, Ev.qak, Ev.qbd, Ev.qo, Ev.ql, Ev.qw, Ev.qae, Ev.kill, Ev.qad, Ev.qd, Ev.qa4, Ev.qbn, Ev.qbc, Ev.qy, Ev.qj, Ev.qk, Ev.qac, Ev.qal, ↓Ev.qq, ↓reduceIte, List.length_cons, List.length_nil, List.getElem?_cons_zero, List.getElem?_cons_succ, List.take_succ_cons, List.take_zero, List.take_nil, List.drop_succ_cons, List.drop_zero, List.drop_nil, List.cons_append, List.nil_append, List.append_nil, List.set_cons_zero, List.set_cons_succ, List.head?_cons, Nat.reduceAdd, Nat.reduceEqDiff, Nat.reduceLeDiff, Int.reduceEq, reduceCtorEq, decide_true, decide_false, Bool.and_self, Bool.false_eq_true, Bool.true_eq_false, and_self, ne_eq, not_false_eq_true, not_true_eq_false, List.cons_ne_nil, Nat.zero_add, Nat.le_refl, eq_self]
      by_cases k2 : e.kind = 2
      · simp only [qb9, k2, h1, hp, List.map_nil, Nat.reduceLeDiff, Ev.qm, Ev.exec, Ev.qb, Ev.qe, Ev.qc, Ev.qaf, Ev.Opnd.ev, Ev.Env.get, Ev.Env.set, Ev.Env.unset, Ev.look, Ev.qn, Ev.qi, Ev.qab, Ev.qff, Ev.AV.cells, Ev.qv, Ev.AV.plain, Ev.qak, Ev.qbd, Ev.qo, Ev.ql, Ev.qw, Ev.qae, Ev.kill, Ev.qad, Ev.qd, Ev.qa4, Ev.qbn, Ev.qbc, Ev.qy, Ev.qj, Ev.qk, Ev.qac, Ev.qal, ↓Ev.qq, ↓reduceIte, List.length_cons, List.length_nil, List.getElem?_cons_zero, List.getElem?_cons_succ, List.take_succ_cons, List.take_zero, List.take_nil, List.drop_succ_cons, List.drop_zero, List.drop_nil, List.cons_append, List.nil_append, List.append_nil, List.set_cons_zero, List.set_cons_succ, List.head?_cons, Nat.reduceAdd, Nat.reduceEqDiff, Nat.reduceLeDiff, Int.reduceEq, reduceCtorEq, decide_true, decide_false, Bool.and_self, Bool.false_eq_true, Bool.true_eq_false, and_self, ne_eq, not_false_eq_true, not_true_eq_false, List.cons_ne_nil, Nat.zero_add, Nat.le_refl, eq_self]
      · simp only [qb9, hk, k1, k2, hp, List.map_nil, Nat.reduceLeDiff, Ev.qm, Ev.exec, Ev.qb, Ev.qe, Ev.qc, Ev.qaf, Ev.Opnd.ev, Ev.Env.get, Ev.Env.set, Ev.Env.unset, Ev.look, Ev.qn, Ev.qi, Ev.qab, Ev.qff, Ev.AV.cells, Ev.qv, Ev.AV.plain, Ev.qak, Ev.qbd, Ev.ql, Ev.qw, Ev.qae, Ev.kill, Ev.qad, Ev.qd, Ev.qa4, Ev.qbn, Ev.qbc, Ev.qy, Ev.qj, Ev.qk, Ev.qac, Ev.qal, ↓Ev.qq, ↓reduceIte, List.length_cons, List.length_nil, List.getElem?_cons_zero, List.getElem?_cons_succ, List.take_succ_cons, List.take_zero, List.take_nil, List.drop_succ_cons, List.drop_zero, List.drop_nil, List.cons_append, List.nil_append, List.append_nil, List.set_cons_zero, List.set_cons_succ, List.head?_cons, Nat.reduceAdd, Nat.reduceEqDiff, Nat.reduceLeDiff, reduceCtorEq, decide_true, decide_false, Bool.and_self, Bool.false_eq_true, Bool.true_eq_false, and_self, ne_eq, not_false_eq_true, List.cons_ne_nil, Nat.zero_add, Nat.le_refl, eq_self]
    have h2 : e.proc ≥ ((0 : Nat) : Int) := by omega
    have h2' : e.proc ≥ 0 := by omega
    · by_cases k1 : e.kind = 1
      · simp only [qb9, k1, h1, h2', hp, List.map_nil, Nat.reduceLeDiff, Ev.qm, Ev.exec, Ev.qb, Ev.qe, Ev.qc, Ev.qaf, Ev.Opnd.ev, Ev.Env.get, Ev.Env.set, Ev.Env.unset, Ev.look, Ev.qn, Ev.qi, Ev.qab, Ev.qff, Ev.AV.cells, Ev.qv, Ev.AV.plain, Ev.qak, Ev.qbd, Ev.qo, Ev.qbz, Ev.ql, Ev.qw, Ev.qae, Ev.kill, Ev.qad, Ev.qd, Ev.qa4, Ev.qbn, Ev.qbc, Ev.qy, Ev.qj, Ev.qk, Ev.qac, Ev.qal, ↓Ev.qq, ↓reduceIte, List.length_cons, List.length_nil, List.getElem?_cons_zero, List.getElem?_cons_succ, List.take_succ_cons, List.take_zero, List.take_nil, List.drop_succ_cons, List.drop_zero, List.drop_nil, List.cons_append, List.nil_append, List.append_nil, List.set_cons_zero, List.set_cons_succ, List.head?_cons, Nat.reduceAdd, Nat.reduceEqDiff, Nat.reduceLeDiff, Int.reduceEq, Int.cast_ofNat_Int, reduceCtorEq, decide_true, decide_false, Bool.and_self, Bool.false_eq_true, Bool.true_eq_false, and_self, ne_eq, not_false_eq_true, not_true_eq_false, List.cons_ne_nil, Nat.zero_add, Nat.le_refl, eq_self]
      by_cases k2 : e.kind = 2
      · simp only [qb9, k2, h1, h2', hp, List.map_nil, Nat.reduceLeDiff, Ev.qm, Ev.exec, Ev.qb, Ev.qe, Ev.qc, Ev.qaf, Ev.Opnd.ev, Ev.Env.get, Ev.Env.set, Ev.Env.unset, Ev.look, Ev.qn, Ev.qi, Ev.qab, Ev.qff, Ev.AV.cells, Ev.qv, Ev.AV.plain, Ev.qak, Ev.qbd, Ev.qo, Ev.qbz, Ev.ql, Ev.qw, Ev.qae, Ev.kill, Ev.qad, Ev.qd, Ev.qa4, Ev.qbn, Ev.qbc, Ev.qy, Ev.qj, Ev.qk, Ev.qac, Ev.qal, ↓Ev.qq, ↓reduceIte, List.length_cons, List.length_nil, List.getElem?_cons_zero, List.getElem?_cons_succ, List.take_succ_cons, List.take_zero, List.take_nil, List.drop_succ_cons, List.drop_zero, List.drop_nil, List.cons_append, List.nil_append, List.append_nil, List.set_cons_zero, List.set_cons_succ, List.head?_cons, Nat.reduceAdd, Nat.reduceEqDiff, Nat.reduceLeDiff, Int.reduceEq, Int.cast_ofNat_Int, reduceCtorEq, decide_true, decide_false, Bool.and_self, Bool.false_eq_true, Bool.true_eq_false, and_self, ne_eq, not_false_eq_true, not_true_eq_false, List.cons_ne_nil, Nat.zero_add, Nat.le_refl, eq_self]
      · simp only [qb9, hk, k1, k2, hp, List.map_nil, Nat.reduceLeDiff, Ev.qm, Ev.exec, Ev.qb, Ev.qe, Ev.qc, Ev.qaf, Ev.Opnd.ev, Ev.Env.get, Ev.Env.set, Ev.Env.unset, Ev.look, Ev.qn, Ev.qi, Ev.qab, Ev.qff, Ev.AV.cells, Ev.qv, Ev.AV.plain, Ev.qak, Ev.qbd, Ev.ql, Ev.qw, Ev.qae, Ev.kill, Ev.qad, Ev.qd, Ev.qa4, Ev.qbn, Ev.qbc, Ev.qy, Ev.qj, Ev.qk, Ev.qac, Ev.qal, ↓Ev.qq, ↓reduceIte, List.length_cons, List.length_nil, List.getElem?_cons_zero, List.getElem?_cons_succ, List.take_succ_cons, List.take_zero, List.take_nil, List.drop_succ_cons, List.drop_zero, List.drop_nil, List.cons_append, List.nil_append, List.append_nil, List.set_cons_zero, List.set_cons_succ, List.head?_cons, Nat.reduceAdd, Nat.reduceEqDiff, Nat.reduceLeDiff, reduceCtorEq, decide_true, decide_false, Bool.and_self, Bool.false_eq_true, Bool.true_eq_false, and_self, ne_eq, not_false_eq_true, List.cons_ne_nil, Nat.zero_add, Nat.le_refl, eq_self]
end
set_option maxRecDepth 10000
structure SimSt (n : Nat) (s : Sim) (L : List (Lp × Bool)) (A : qx) (O : List (List AV)) : Prop where
  len : A.length = n + 1
  lps : A[0]? = some (.row 4 (L.map lpF) 1)
  lpl : L.length = n
  lpf : L.map Prod.fst = s.lps
  flag : ∀ x ∈ L, x.2 = true → x.1.procs = []
  trl : s.trace.length = n
  ol : O.length = n
  tr : ∀ i : Nat, i < n → ∃ g, A[i + 1]? = some (.row 6 ((qpu s i).map Evt.r) g) ∧ O[i]? = some [.sl (i + 1) g 0 (qpu s i).length false]
  alo : qd (n + 1) A = true
  olo : qit (n + 1) O = true
def qrp : CCode → CCode
  | .seq a _ => a
  | c => c
def qq1 : CCode → CCode
  | .seq _ b => b
  | c => c
def cm1 : CCode := qrp qao.body
def q9b : CCode := qq1 qao.body
def cm2 : CCode := qrp q9b
def cm2' : CCode := qq1 q9b
def cm3 : CCode := qrp cm2'
def cm3' : CCode := qq1 cm2'
def cm4 : CCode := qrp cm3'
def cm4' : CCode := qq1 cm3'
def cm5 : CCode := qrp cm4'
def cm5' : CCode := qq1 cm4'
def cm6 : CCode := qrp cm5'
def cm6' : CCode := qq1 cm5'
def cm7 : CCode := qrp cm6'
def cm7' : CCode := qq1 cm6'
def cm8 : CCode := qrp cm7'
def cm9 : CCode := qq1 cm7'
theorem q4k : qao.body = .seq cm1 (.seq cm2 (.seq cm3 (.seq cm4 (.seq cm5 (.seq cm6 (.seq cm7 (.seq cm8 cm9))))))) := rfl
structure Pre (A : qx) (n : Nat) : Prop where
  len : A.length = n + 1
section
variable {A : qx} {n : Nat} (h : A.length = n + 1) (B : qx) (x : SObj)
include h
theorem q2l : (A ++ B)[n + 1]? = B[0]? := by rw [← h, List.getElem?_append_right (Nat.le_refl _), Nat.sub_self]
theorem qkx : (A ++ B)[n + 2]? = B[1]? := by rw [List.getElem?_append_right (by omega)]; congr 1; omega
theorem q2p : (A ++ B)[n + 3]? = B[2]? := by rw [List.getElem?_append_right (by omega)]; congr 1; omega
theorem pre_g4 : (A ++ B)[n + 4]? = B[3]? := by rw [List.getElem?_append_right (by omega)]; congr 1; omega
theorem pre_g5 : (A ++ B)[n + 5]? = B[4]? := by rw [List.getElem?_append_right (by omega)]; congr 1; omega
theorem pre_g6 : (A ++ B)[n + 6]? = B[5]? := by rw [List.getElem?_append_right (by omega)]; congr 1; omega
theorem pre_s1 : (A ++ B).set (n + 1) x = A ++ B.set 0 x := by rw [List.set_append, if_neg (by omega)]; congr 2; omega
theorem q2s : (A ++ B).set (n + 2) x = A ++ B.set 1 x := by rw [List.set_append, if_neg (by omega)]; congr 2; omega
theorem pre_s3 : (A ++ B).set (n + 3) x = A ++ B.set 2 x := by rw [List.set_append, if_neg (by omega)]; congr 2; omega
theorem pre_s4 : (A ++ B).set (n + 4) x = A ++ B.set 3 x := by rw [List.set_append, if_neg (by omega)]; congr 2; omega
theorem pre_s5 : (A ++ B).set (n + 5) x = A ++ B.set 4 x := by rw [List.set_append, if_neg (by omega)]; congr 2; omega
theorem pre_s6 : (A ++ B).set (n + 6) x = A ++ B.set 5 x := by rw [List.set_append, if_neg (by omega)]; congr 2; omega
theorem q03 (i : Nat) (hi : i < n + 1) : (A ++ B)[i]? = A[i]? := List.getElem?_append_left (by omega)
theorem q42 (i : Nat) (hi : i < n + 1) : (A ++ B).set i x = A.set i x ++ B := by rw [List.set_append, if_pos (by omega)]
theorem q0n : (A ++ B).take (n + 3) = A ++ B.take 2 := by rw [List.take_append, List.take_of_length_le (by omega)]; congr 2; omega
end
section
variable (c : Cfg) (n : Nat) (A : qx) (O : List (List AV)) (hA : A.length = n + 1) (rest : List Evt) (e : Evt) (k : Int) (ov : Bool)
include hA
theorem q7k (env : Env) (h0 : Ev.look env.vars 0 = some (.ptr (n + 2) 0 0 0)) :
    ∃ env', exec (evL T) itL none cm1 env (A ++ [.row 1 O 0, (.row 10 [[(.fsl ((c.lps).map lpC) false), (.fsl ((c.progs).map qbu) false), (.v (.int .i64 (c.look))), (.v (.int .i64 (c.fin))), (.v (.int .i64 (c.cap))), .sl (n + 1) 0 0 n false, .sl 0 1 0 n false, (.fsl ((e :: rest).map Evt.r) false), (.v (.int .i64 (k))), (.v (.bool (ov)))]] 0)]) = some (.normal, env', A ++ [.row 1 O 0, (.row 10 [[(.fsl ((c.lps).map lpC) false), (.fsl ((c.progs).map qbu) false), (.v (.int .i64 (c.look))), (.v (.int .i64 (c.fin))), (.v (.int .i64 (c.cap))), .sl (n + 1) 0 0 n false, .sl 0 1 0 n false, (.fsl ((e :: rest).map Evt.r) false), (.v (.int .i64 (k))), (.v (.bool (ov)))]] 0), .row 6 [e.r] 0, .hole]) ∧
      env'.marks = env.marks ∧ Ev.look env'.vars 0 = some (.ptr (n + 2) 0 0 0) ∧ Ev.look env'.vars 2 = some (.ptr (n + 3) 0 0 0) := by
  simp only [cm1, qrp, qao, h0, qkx hA, q2p hA, pre_s3 hA, hA, Nat.add_assoc, List.append_assoc, List.map_cons, Evt.r, Int.toNat_zero, Int.le_refl, Ev.exec, Ev.qb, Ev.qe, Ev.qc, Ev.qaf, Ev.Opnd.ev, Ev.Env.get, Ev.Env.set, Ev.look, Ev.qi, Ev.qab, Ev.AV.cells, Ev.qv, Ev.AV.plain, ↓Ev.qq, ↓reduceIte, List.length_cons, List.length_nil, List.length_append, List.getElem?_cons_zero, List.getElem?_cons_succ, List.take_succ_cons, List.take_zero, List.take_nil, List.drop_succ_cons, List.drop_zero, List.drop_nil, List.cons_append, List.nil_append, List.append_nil, List.set_cons_zero, List.set_cons_succ, List.head?_cons, Nat.reduceAdd, Nat.reduceEqDiff, Bool.and_self, Bool.false_eq_true, and_self, ne_eq, not_false_eq_true, List.cons_ne_nil, Nat.zero_add, Nat.le_refl, eq_self]
  refine ⟨_, rfl, ?_, ?_, ?_⟩
  · rfl
  · exact h0
  · rfl
theorem q7y (X : qx) (env : Env) (h0 : Ev.look env.vars 0 = some (.ptr (n + 2) 0 0 0)) (h2 : Ev.look env.vars 2 = some (.ptr (n + 3) 0 0 0)) :
    ∃ env', exec (evL T) itL none cm2 env (A ++ .row 1 O 0 :: (.row 10 [[(.fsl ((c.lps).map lpC) false), (.fsl ((c.progs).map qbu) false), (.v (.int .i64 (c.look))), (.v (.int .i64 (c.fin))), (.v (.int .i64 (c.cap))), .sl (n + 1) 0 0 n false, .sl 0 1 0 n false, (.fsl ((e :: rest).map Evt.r) false), (.v (.int .i64 (k))), (.v (.bool (ov)))]] 0) :: X) = some (.normal, env', A ++ .row 1 O 0 :: (.row 10 [[(.fsl ((c.lps).map lpC) false), (.fsl ((c.progs).map qbu) false), (.v (.int .i64 (c.look))), (.v (.int .i64 (c.fin))), (.v (.int .i64 (c.cap))), .sl (n + 1) 0 0 n false, .sl 0 1 0 n false, (.fsl ((rest).map Evt.r) false), (.v (.int .i64 (k))), (.v (.bool (ov)))]] 0) :: X) ∧
      env'.marks = env.marks ∧ Ev.look env'.vars 0 = some (.ptr (n + 2) 0 0 0) ∧ Ev.look env'.vars 2 = some (.ptr (n + 3) 0 0 0) := by
  have ok := qw0 (e :: rest)
  have c1 : (1 : Int) ≤ ((rest.length + 1 : Nat) : Int) := by omega
  have c2 : (((rest.length + 1 : Nat) : Int)).toNat - 1 = rest.length := by omega
  have tk : List.take rest.length (rest.map Evt.r) = rest.map Evt.r := List.take_of_length_le (by simp)
  simp only [List.map_cons] at ok ⊢
  simp only [q9b, cm2, qrp, qq1, qao, h0, qkx hA, q2s hA, ok, c1, c2, tk, Int.le_refl, imp_self, Int.toNat_one, Ev.exec, Ev.qb, Ev.qe, Ev.qc, Ev.qaf, Ev.Opnd.ev, Ev.Env.get, Ev.Env.set, Ev.look, Ev.qkw, Ev.qi, Ev.qab, Ev.AV.cells, Ev.AV.uc, Ev.qv, Ev.AV.plain, List.length_map, ↓Ev.qq, ↓reduceIte, List.length_cons, List.length_nil, List.getElem?_cons_zero, List.getElem?_cons_succ, List.take_succ_cons, List.take_zero, List.drop_succ_cons, List.drop_zero, List.cons_append, List.nil_append, List.set_cons_zero, List.set_cons_succ, List.head?_cons, Nat.reduceAdd, Nat.reduceEqDiff, Nat.reduceLeDiff, Int.reduceLE, reduceCtorEq, decide_true, Bool.and_self, Bool.and_true, Bool.false_eq_true, and_self, Nat.zero_add, Option.isSome_none, eq_self]
  refine ⟨_, rfl, ?_, ?_, ?_⟩
  · rfl
  · exact h0
  · exact h2
end
set_option maxRecDepth 10000
section
variable (c : Cfg) (n : Nat) (A : qx) (O : List (List AV)) (hA : A.length = n + 1) (rest : List Evt) (et ei ep ea : Int) (ek : List Int) (i : Nat) (hi : i < n) (k : Int) (ov : Bool)
include hA
theorem q74 (hi : i < n) (t : List Evt) (g : Nat) (ht : t.length ≤ 1000) (hO : O[i]? = some [.sl (i + 1) g 0 t.length false]) (hAi : A[i + 1]? = some (.row 6 (t.map Evt.r) g)) (X : qx) (env : Env) (h0 : Ev.look env.vars 0 = some (.ptr (n + 2) 0 0 0)) (h2 : Ev.look env.vars 2 = some (.ptr (n + 3) 0 0 0)) :
    ∃ env', exec (evL T) itL none cm3 env (A ++ .row 1 O 0 :: (.row 10 [[(.fsl ((c.lps).map lpC) false), (.fsl ((c.progs).map qbu) false), (.v (.int .i64 (c.look))), (.v (.int .i64 (c.fin))), (.v (.int .i64 (c.cap))), .sl (n + 1) 0 0 n false, .sl 0 1 0 n false, (.fsl ((rest).map Evt.r) false), (.v (.int .i64 (k))), (.v (.bool (ov)))]] 0) :: (.row 6 [[(.v (.int .i64 (et))), (.fsl ((ek).map qcp) false), (.v (.int .i64 (i))), (.v (.int .i64 (ei))), (.v (.int .i64 (ep))), (.v (.int .i64 (ea)))]] 0) :: X) = some (.normal, env', A.set (i + 1) (.row 6 ((t ++ [(⟨et, ek, (i : Int), ei, ep, ea⟩ : Evt)]).map Evt.r) (g + 1)) ++ .row 1 (O.set i [.sl (i + 1) (g + 1) 0 (t.length + 1) false]) 0 :: (.row 10 [[(.fsl ((c.lps).map lpC) false), (.fsl ((c.progs).map qbu) false), (.v (.int .i64 (c.look))), (.v (.int .i64 (c.fin))), (.v (.int .i64 (c.cap))), .sl (n + 1) 0 0 n false, .sl 0 1 0 n false, (.fsl ((rest).map Evt.r) false), (.v (.int .i64 (k))), (.v (.bool (ov)))]] 0) :: (.row 6 [[(.v (.int .i64 (et))), (.fsl ((ek).map qcp) false), (.v (.int .i64 (i))), (.v (.int .i64 (ei))), (.v (.int .i64 (ep))), (.v (.int .i64 (ea)))]] 0) :: X) ∧
      env'.marks = env.marks ∧ Ev.look env'.vars 0 = some (.ptr (n + 2) 0 0 0) ∧ Ev.look env'.vars 2 = some (.ptr (n + 3) 0 0 0) := by
  have p1 := fun B => q03 hA B (i + 1) (by omega)
  have p2 := fun B x => q42 hA B x (i + 1) (by omega)
  have b1 : ((n + 2) == (i + 1)) = false := by rw [beq_eq_false_iff_ne]; omega
  have b2 : ((n + 3) == (i + 1)) = false := by rw [beq_eq_false_iff_ne]; omega
  have b3 : ((n + 1) == i) = false := by rw [beq_eq_false_iff_ne]; omega
  have b4 : ((n + 2) == i) = false := by rw [beq_eq_false_iff_ne]; omega
  have tk : List.take t.length (t.map Evt.r) = t.map Evt.r := List.take_of_length_le (by simp)
  have bd : (t.length + 1) * 64 ≤ 140737488355328 := by omega
  have hA2 : ∀ v, (A.set (i + 1) v).length = n + 1 := fun v => by rw [List.length_set]; exact hA
  have q1 := fun v B => q2l (hA2 v) B
  have q2 := fun v B => qkx (hA2 v) B
  have q3 := fun v B => q2p (hA2 v) B
  have q4 := fun v B x => pre_s1 (hA2 v) B x
  have hm : ∀ e : Evt, (t ++ [e]).map Evt.r = t.map Evt.r ++ [e.r] := fun e => by rw [List.map_append]; rfl
  rw [hm]
  simp only [q9b, cm2', cm3, qrp, qq1, qao, h0, h2, q2l hA, qkx hA, q2p hA, p1, p2, q1, q4, hO, hAi, b1, b2, tk, bd, hi, Evt.r, Int.toNat_natCast, Int.natCast_nonneg, Ev.exec, Ev.qb, Ev.qe, Ev.qc, Ev.q6z, Ev.qaf, Ev.qvy, Ev.Opnd.ev, Ev.Env.get, Ev.Env.set, Ev.look, Ev.qi, Ev.qd5, Ev.qab, Ev.qjo, Ev.AV.cells, Ev.AV.uc, Ev.qv, Ev.AV.plain, Ev.qm0, Ev.AV.obj?, Ev.qd8, Ev.qed, List.replicate_one, List.length_map, ↓Ev.qq, ↓reduceIte, List.length_cons, List.length_nil, List.getElem?_cons_zero, List.getElem?_cons_succ, List.take_succ_cons, List.take_zero, List.take_nil, List.drop_succ_cons, List.drop_zero, List.drop_nil, List.nil_append, List.append_nil, List.set_cons_zero, List.head?_cons, Nat.reduceAdd, Nat.reduceEqDiff, Nat.reduceMul, Nat.reduceLeDiff, Nat.reducePow, reduceCtorEq, decide_true, Bool.and_self, Bool.not_false, Bool.false_eq_true, and_self, ne_eq, not_false_eq_true, List.cons_ne_nil, Nat.zero_add, Nat.lt_add_one, Nat.le_refl, eq_self, beq_self_eq_true]
  refine ⟨_, rfl, ?_, ?_, ?_⟩
  · rfl
  · exact h0
  · exact h2
theorem q7j (X : qx) (env : Env) (h0 : Ev.look env.vars 0 = some (.ptr (n + 2) 0 0 0)) (h2 : Ev.look env.vars 2 = some (.ptr (n + 3) 0 0 0)) :
    ∃ env', exec (evL T) itL none cm4 env (A ++ .row 1 O 0 :: (.row 10 [[(.fsl ((c.lps).map lpC) false), (.fsl ((c.progs).map qbu) false), (.v (.int .i64 (c.look))), (.v (.int .i64 (c.fin))), (.v (.int .i64 (c.cap))), .sl (n + 1) 0 0 n false, .sl 0 1 0 n false, (.fsl ((rest).map Evt.r) false), (.v (.int .i64 (k))), (.v (.bool (ov)))]] 0) :: X) = some (.normal, env', A ++ .row 1 O 0 :: (.row 10 [[(.fsl ((c.lps).map lpC) false), (.fsl ((c.progs).map qbu) false), (.v (.int .i64 (c.look))), (.v (.int .i64 (c.fin))), (.v (.int .i64 (c.cap))), .sl (n + 1) 0 0 n false, .sl 0 1 0 n false, (.fsl ((rest).map Evt.r) false), (.v (.int .i64 ((IntKind.i64.wrap (k + 1))))), (.v (.bool (ov)))]] 0) :: X) ∧
      env'.marks = env.marks ∧ Ev.look env'.vars 0 = some (.ptr (n + 2) 0 0 0) ∧ Ev.look env'.vars 2 = some (.ptr (n + 3) 0 0 0) := by
  simp only [q9b, cm2', cm3', cm4, qrp, qq1, qao, h0, qkx hA, q2s hA, Ev.exec, Ev.qb, Ev.qe, Ev.qc, Ev.qaf, Ev.Opnd.ev, Ev.Env.get, Ev.Env.set, Ev.look, Ev.qi, Ev.qab, Ev.AV.cells, Ev.AV.uc, Ev.qv, Ev.AV.plain, Ev.qaj, ↓Ev.qq, ↓reduceIte, List.length_cons, List.length_nil, List.getElem?_cons_zero, List.getElem?_cons_succ, List.take_succ_cons, List.take_zero, List.drop_succ_cons, List.drop_zero, List.cons_append, List.nil_append, List.set_cons_zero, List.set_cons_succ, List.head?_cons, Nat.reduceAdd, Nat.reduceEqDiff, Nat.reduceLeDiff, Bool.and_self, Bool.false_eq_true, and_self, Nat.zero_add, eq_self]
  refine ⟨_, rfl, ?_, ?_, ?_⟩
  · rfl
  · exact h0
  · exact h2
theorem q8z (hi : i < n) (L : List (Lp × Bool)) (x : Lp) (f : Bool) (hL : L[i]? = some (x, f)) (hA0 : A[0]? = some (.row 4 (L.map lpF) 1)) (r : XRes) (hE : qbk (evL T) qep [(.agg [(.fsl ((c.lps).map lpC) false), (.fsl ((c.progs).map qbu) false), (.v (.int .i64 (c.look))), (.v (.int .i64 (c.fin))), (.v (.int .i64 (c.cap)))]), (.agg [(.v (.int .i64 (x.r0))), (.v (.int .i64 (x.r1))), (.fsl ((x.procs).map Pr.r) f), (.v (.int .i64 (x.sum)))]), (.agg [(.v (.int .i64 ((⟨et, ek, (i : Int), ei, ep, ea⟩ : Evt).time))), (.fsl (((⟨et, ek, (i : Int), ei, ep, ea⟩ : Evt).key).map qcp) false), (.v (.int .i64 ((⟨et, ek, (i : Int), ei, ep, ea⟩ : Evt).lp))), (.v (.int .i64 ((⟨et, ek, (i : Int), ei, ep, ea⟩ : Evt).kind))), (.v (.int .i64 ((⟨et, ek, (i : Int), ei, ep, ea⟩ : Evt).proc))), (.v (.int .i64 ((⟨et, ek, (i : Int), ei, ep, ea⟩ : Evt).arg)))])] = some (.tup [(.agg [(.v (.int .i64 (r.lp.r0))), (.v (.int .i64 (r.lp.r1))), (.fsl ((r.lp.procs).map Pr.r) f), (.v (.int .i64 (r.lp.sum)))]), (.fsl ((r.out).map Evt.r) r.nil), (.fsl ((r.gone).map qfe) r.nil), (.v (.bool (r.over)))]))
    (env : Env) (h0 : Ev.look env.vars 0 = some (.ptr (n + 2) 0 0 0)) (h2 : Ev.look env.vars 2 = some (.ptr (n + 3) 0 0 0)) :
    ∃ env', exec (evL T) itL none cm5 env (A ++ [.row 1 O 0, (.row 10 [[(.fsl ((c.lps).map lpC) false), (.fsl ((c.progs).map qbu) false), (.v (.int .i64 (c.look))), (.v (.int .i64 (c.fin))), (.v (.int .i64 (c.cap))), .sl (n + 1) 0 0 n false, .sl 0 1 0 n false, (.fsl ((rest).map Evt.r) false), (.v (.int .i64 (k))), (.v (.bool (ov)))]] 0), (.row 6 [[(.v (.int .i64 (et))), (.fsl ((ek).map qcp) false), (.v (.int .i64 (i))), (.v (.int .i64 (ei))), (.v (.int .i64 (ep))), (.v (.int .i64 (ea)))]] 0), .hole]) = some (.normal, env', A ++ [.row 1 O 0, (.row 10 [[(.fsl ((c.lps).map lpC) false), (.fsl ((c.progs).map qbu) false), (.v (.int .i64 (c.look))), (.v (.int .i64 (c.fin))), (.v (.int .i64 (c.cap))), .sl (n + 1) 0 0 n false, .sl 0 1 0 n false, (.fsl ((rest).map Evt.r) false), (.v (.int .i64 (k))), (.v (.bool (ov)))]] 0), (.row 6 [[(.v (.int .i64 (et))), (.fsl ((ek).map qcp) false), (.v (.int .i64 (i))), (.v (.int .i64 (ei))), (.v (.int .i64 (ep))), (.v (.int .i64 (ea)))]] 0), .row 1 [[(.fsl ((r.gone).map qfe) false)]] 1, .row 4 [lpF (r.lp, f)] 0]) ∧
      env'.marks = env.marks ∧ Ev.look env'.vars 0 = some (.ptr (n + 2) 0 0 0) ∧ Ev.look env'.vars 2 = some (.ptr (n + 3) 0 0 0) ∧ Ev.look env'.vars 3 = some (.ptr (n + 5) 0 0 0) ∧ Ev.look env'.vars 4 = some (.fsl ((r.out).map Evt.r) r.nil) ∧ Ev.look env'.vars 5 = some (.ptr (n + 4) 1 0 0) ∧ Ev.look env'.vars 6 = some (.v (.bool (r.over))) := by
  have p1 := fun B => q03 hA B 0 (by omega)
  have hLm : (L.map lpF)[i]? = some (lpF (x, f)) := by rw [List.getElem?_map, hL]; rfl
  simp only [q9b, cm2', cm3', cm4', cm5, qrp, qq1, qao, h0, h2, qkx hA, q2p hA, pre_g4 hA, pre_g5 hA, pre_s4 hA, pre_s5 hA, hA, Nat.add_assoc, List.append_assoc, p1, hA0, hLm, hi, hE, lpF, Int.toNat_natCast, Int.natCast_nonneg, qax, qcg, qbh, qar, Ev.exec, Ev.qb, Ev.qe, Ev.qc, Ev.qa9, Ev.qaf, Ev.evs, Ev.Opnd.ev, Ev.Env.get, Ev.Env.set, Ev.look, Ev.qi, Ev.qab, Ev.AV.cells, Ev.AV.uc, Ev.qv, Ev.AV.plain, Ev.qa4, Ev.qbn, Ev.qy, Ev.qj, Ev.qk, ↓Ev.qq, ↓reduceIte, List.length_cons, List.length_nil, List.length_append, List.getElem?_cons_zero, List.getElem?_cons_succ, List.take_succ_cons, List.take_zero, List.take_nil, List.drop_succ_cons, List.drop_zero, List.drop_nil, List.cons_append, List.nil_append, List.append_nil, List.set_cons_zero, List.set_cons_succ, List.head?_cons, Nat.reduceAdd, Nat.reduceEqDiff, Nat.reduceLeDiff, reduceCtorEq, Bool.and_self, Bool.false_eq_true, and_self, ne_eq, not_false_eq_true, List.cons_ne_nil, Nat.zero_add, Nat.add_zero, Nat.le_refl, eq_self]
  refine ⟨_, rfl, ?_, ?_, ?_, ?_, ?_, ?_, ?_⟩
  · rfl
  · exact h0
  · exact h2
  · rfl
  · rfl
  · rfl
  · rfl
theorem q7e (hi : i < n) (L : List (Lp × Bool)) (x y : Lp × Bool) (hL : L[i]? = some x) (hA0 : A[0]? = some (.row 4 (L.map lpF) 1)) (X : SObj) (env : Env) (h0 : Ev.look env.vars 0 = some (.ptr (n + 2) 0 0 0)) (h2 : Ev.look env.vars 2 = some (.ptr (n + 3) 0 0 0)) (h3 : Ev.look env.vars 3 = some (.ptr (n + 5) 0 0 0))
    (v4 v5 v6 : AV) (h4 : Ev.look env.vars 4 = some v4) (h5 : Ev.look env.vars 5 = some v5) (h6 : Ev.look env.vars 6 = some v6) :
    ∃ env', exec (evL T) itL none cm6 env (A ++ [.row 1 O 0, (.row 10 [[(.fsl ((c.lps).map lpC) false), (.fsl ((c.progs).map qbu) false), (.v (.int .i64 (c.look))), (.v (.int .i64 (c.fin))), (.v (.int .i64 (c.cap))), .sl (n + 1) 0 0 n false, .sl 0 1 0 n false, (.fsl ((rest).map Evt.r) false), (.v (.int .i64 (k))), (.v (.bool (ov)))]] 0), (.row 6 [[(.v (.int .i64 (et))), (.fsl ((ek).map qcp) false), (.v (.int .i64 (i))), (.v (.int .i64 (ei))), (.v (.int .i64 (ep))), (.v (.int .i64 (ea)))]] 0), X, .row 4 [lpF y] 0]) = some (.normal, env', A.set 0 (.row 4 ((L.set i y).map lpF) 1) ++ [.row 1 O 0, (.row 10 [[(.fsl ((c.lps).map lpC) false), (.fsl ((c.progs).map qbu) false), (.v (.int .i64 (c.look))), (.v (.int .i64 (c.fin))), (.v (.int .i64 (c.cap))), .sl (n + 1) 0 0 n false, .sl 0 1 0 n false, (.fsl ((rest).map Evt.r) false), (.v (.int .i64 (k))), (.v (.bool (ov)))]] 0), (.row 6 [[(.v (.int .i64 (et))), (.fsl ((ek).map qcp) false), (.v (.int .i64 (i))), (.v (.int .i64 (ei))), (.v (.int .i64 (ep))), (.v (.int .i64 (ea)))]] 0), X, .row 4 [lpF y] 0]) ∧
      env'.marks = env.marks ∧ Ev.look env'.vars 0 = some (.ptr (n + 2) 0 0 0) ∧ Ev.look env'.vars 4 = some v4 ∧ Ev.look env'.vars 5 = some v5 ∧ Ev.look env'.vars 6 = some v6 := by
  have p1 := fun B => q03 hA B 0 (by omega)
  have p2 := fun B x => q42 hA B x 0 (by omega)
  have hLm : (L.map lpF)[i]? = some (lpF x) := by rw [List.getElem?_map, hL]; rfl
  rw [List.map_set]
  simp only [q9b, cm2', cm3', cm4', cm5', cm6, qrp, qq1, qao, h0, h2, h3, qkx hA, q2p hA, pre_g5 hA, p1, p2, hA0, hLm, hi, lpF, Int.toNat_natCast, Int.natCast_nonneg, Ev.exec, Ev.qb, Ev.qe, Ev.qc, Ev.qaf, Ev.Opnd.ev, Ev.Env.get, Ev.Env.set, Ev.look, Ev.qi, Ev.qab, Ev.AV.cells, Ev.qv, Ev.AV.plain, ↓Ev.qq, ↓reduceIte, List.length_cons, List.length_nil, List.getElem?_cons_zero, List.getElem?_cons_succ, List.take_succ_cons, List.take_zero, List.take_nil, List.drop_succ_cons, List.drop_zero, List.drop_nil, List.nil_append, List.append_nil, List.head?_cons, Nat.reduceAdd, Nat.reduceEqDiff, Bool.and_self, Bool.false_eq_true, and_self, Nat.zero_add, Nat.le_refl, eq_self]
  refine ⟨_, rfl, ?_, ?_, ?_, ?_, ?_⟩
  · rfl
  · exact h0
  · exact h4
  · exact h5
  · exact h6
theorem q9l (X : qx) (env : Env) (h0 : Ev.look env.vars 0 = some (.ptr (n + 2) 0 0 0)) (v4 v5 : AV) (o6 : Bool) (h4 : Ev.look env.vars 4 = some v4) (h5 : Ev.look env.vars 5 = some v5) (h6 : Ev.look env.vars 6 = some (.v (.bool (o6)))) :
    ∃ env', exec (evL T) itL none cm7 env (A ++ .row 1 O 0 :: (.row 10 [[(.fsl ((c.lps).map lpC) false), (.fsl ((c.progs).map qbu) false), (.v (.int .i64 (c.look))), (.v (.int .i64 (c.fin))), (.v (.int .i64 (c.cap))), .sl (n + 1) 0 0 n false, .sl 0 1 0 n false, (.fsl ((rest).map Evt.r) false), (.v (.int .i64 (k))), (.v (.bool (ov)))]] 0) :: X) = some (.normal, env', A ++ .row 1 O 0 :: (.row 10 [[(.fsl ((c.lps).map lpC) false), (.fsl ((c.progs).map qbu) false), (.v (.int .i64 (c.look))), (.v (.int .i64 (c.fin))), (.v (.int .i64 (c.cap))), .sl (n + 1) 0 0 n false, .sl 0 1 0 n false, (.fsl ((rest).map Evt.r) false), (.v (.int .i64 (k))), (.v (.bool ((ov || o6))))]] 0) :: X) ∧
      env'.marks = env.marks ∧ Ev.look env'.vars 0 = some (.ptr (n + 2) 0 0 0) ∧ Ev.look env'.vars 4 = some v4 ∧ Ev.look env'.vars 5 = some v5 := by
  cases ov
  · simp only [q9b, cm2', cm3', cm4', cm5', cm6', cm7, qrp, qq1, qao, h0, h6, qkx hA, q2s hA, Ev.exec, Ev.qb, Ev.qe, Ev.qc, Ev.qaf, Ev.Opnd.ev, Ev.Env.get, Ev.Env.set, Ev.look, Ev.qi, Ev.qab, Ev.AV.cells, Ev.AV.uc, Ev.qv, Ev.AV.plain, ↓Ev.qq, ↓reduceIte, List.length_cons, List.length_nil, List.getElem?_cons_zero, List.getElem?_cons_succ, List.take_succ_cons, List.take_zero, List.drop_succ_cons, List.drop_zero, List.drop_nil, List.cons_append, List.nil_append, List.append_nil, List.set_cons_zero, List.set_cons_succ, List.head?_cons, Nat.reduceAdd, Nat.reduceEqDiff, reduceCtorEq, Bool.and_self, Bool.false_or, Bool.false_eq_true, and_self, Nat.zero_add, Nat.le_refl, eq_self]
    refine ⟨_, rfl, ?_, ?_, ?_, ?_⟩
    · rfl
    · exact h0
    · exact h4
    · exact h5
  · simp only [q9b, cm2', cm3', cm4', cm5', cm6', cm7, qrp, qq1, qao, h0, qkx hA, q2s hA, Ev.exec, Ev.qb, Ev.qe, Ev.qc, Ev.qaf, Ev.Opnd.ev, Ev.Env.get, Ev.Env.set, Ev.Env.unset, Ev.look, Ev.qi, Ev.qab, Ev.AV.cells, Ev.AV.uc, Ev.qv, Ev.AV.plain, ↓Ev.qq, ↓reduceIte, List.length_cons, List.length_nil, List.getElem?_cons_zero, List.getElem?_cons_succ, List.take_succ_cons, List.take_zero, List.drop_succ_cons, List.drop_zero, List.drop_nil, List.cons_append, List.nil_append, List.append_nil, List.set_cons_zero, List.set_cons_succ, List.head?_cons, Nat.reduceAdd, Nat.reduceEqDiff, reduceCtorEq, Bool.and_self, Bool.true_or, Bool.false_eq_true, Bool.true_eq_false, and_self, Nat.zero_add, Nat.le_refl, eq_self]
    refine ⟨_, rfl, ?_, ?_, ?_, ?_⟩
    · rfl
    · exact h0
    · exact h4
    · exact h5
theorem q7a (σ : qx) (env : Env) (h0 : Ev.look env.vars 0 = some (.ptr (n + 2) 0 0 0)) (v4 v5 : AV) (h4 : Ev.look env.vars 4 = some v4) (h5 : Ev.look env.vars 5 = some v5) :
    ∃ env', exec (evL T) itL none cm8 env σ = some (.normal, env', σ) ∧
      env'.marks = env.marks ∧ Ev.look env'.vars 0 = some (.ptr (n + 2) 0 0 0) ∧ Ev.look env'.vars 4 = some v4 ∧ Ev.look env'.vars 7 = some (.fn (.func qav) [] [v5]) := by
  simp only [q9b, cm2', cm3', cm4', cm5', cm6', cm7', cm8, qrp, qq1, qao, h5, Ev.exec, Ev.qb, Ev.qe, Ev.qc, Ev.qaf, Ev.evs, Ev.Opnd.ev, Ev.Env.get, Ev.Env.set, Ev.look, ↓Ev.qq, ↓reduceIte, eq_self]
  refine ⟨_, rfl, ?_, ?_, ?_, ?_⟩
  · rfl
  · exact h0
  · exact h4
  · rfl
end
set_option maxRecDepth 10000
theorem qtr (n sz : Nat) (es : List (List AV)) (g : Nat) : SObj.lo n (.row sz es g) = qit n es := by simp only [SObj.lo]
section
variable (c : Cfg) (n : Nat) (A : qx) (O : List (List AV)) (hA : A.length = n + 1) (rest : List Evt) (et ei ep ea : Int) (ek : List Int) (i : Nat) (hi : i < n) (k : Int) (ov : Bool)
include hA
theorem q8u (alo : qd (n + 1) A = true) (olo : qit (n + 1) O = true) (X3 X5 : SObj) (lo3 : X3.lo (n + 1) = true) (lo5 : X5.lo (n + 1) = true) (G : List (List Int)) (out : List Evt) (nl : Bool)
    (hG : G.length ≤ 1000) (hGk : ∀ k ∈ G, k.length ≤ 9223372036854775807) (hD : (rest ++ out).length ≤ 1000000) (hk : qhp (rest ++ out)) (hd : q67 (rest ++ out))
    (env : Env) (h0 : Ev.look env.vars 0 = some (.ptr (n + 2) 0 0 0)) (h4 : Ev.look env.vars 4 = some (.fsl ((out).map Evt.r) nl)) (h7 : Ev.look env.vars 7 = some (.fn (.func qav) [] [.ptr (n + 4) 1 0 0])) :
    ∃ env', exec (evL T) itL none cm9 env (A ++ [.row 1 O 0, (.row 10 [[(.fsl ((c.lps).map lpC) false), (.fsl ((c.progs).map qbu) false), (.v (.int .i64 (c.look))), (.v (.int .i64 (c.fin))), (.v (.int .i64 (c.cap))), .sl (n + 1) 0 0 n false, .sl 0 1 0 n false, (.fsl ((rest).map Evt.r) false), (.v (.int .i64 (k))), (.v (.bool (ov)))]] 0), X3, .row 1 [[(.fsl ((G).map qfe) false)]] 1, X5]) = some (.normal, env', A ++ [.row 1 O 0, (.row 10 [[(.fsl ((c.lps).map lpC) false), (.fsl ((c.progs).map qbu) false), (.v (.int .i64 (c.look))), (.v (.int .i64 (c.fin))), (.v (.int .i64 (c.cap))), .sl (n + 1) 0 0 n false, .sl 0 1 0 n false, (.fsl (((qst ((rest ++ out).filter (qe6 G)))).map Evt.r) false), (.v (.int .i64 (k))), (.v (.bool (ov)))]] 0), X3, .row 1 [[(.fsl ((G).map qfe) false)]] 1, X5, .dead]) ∧
      env'.marks = env.marks := by
  obtain ⟨g, hc⟩ := q8v [rest, out] true (by simp) (by simpa using hD) (by simp)
  have hfl : [rest, out].flatten = rest ++ out := by simp
  rw [hfl] at hc
  have mono : ∀ {m : Nat}, n + 1 ≤ m → qd m A = true ∧ qit m O = true ∧ X3.lo m = true ∧ X5.lo m = true := fun h => ⟨qrd h alo, qpf h _ olo, qsu h _ lo3, qsu h _ lo5⟩
  obtain ⟨m1, m2, m3, m4⟩ := mono (m := n + 7) (by omega)
  obtain ⟨E, hE1, hE2, hE3⟩ := q7f (A ++ [.row 1 O 0, (.row 10 [[(.fsl ((c.lps).map lpC) false), (.fsl ((c.progs).map qbu) false), (.v (.int .i64 (c.look))), (.v (.int .i64 (c.fin))), (.v (.int .i64 (c.cap))), .sl (n + 1) 0 0 n false, .sl 0 1 0 n false, (.fsl ((rest).map Evt.r) false), (.v (.int .i64 (k))), (.v (.bool (ov)))]] 0), X3, .row 1 [[(.fsl ((G).map qfe) false)]] 1, X5, .row 6 ((rest ++ out).map Evt.r) g]) (n + 4) (n + 6) g (n + 7) G (rest ++ out)
    ⟨by rw [pre_g4 hA]; rfl, hG, hGk⟩ (by simp [hA]) (by
      have d1 : n + 1 < n + 7 := by omega
      have d0 : 0 < n + 7 := by omega
      rw [qp9, m1]
      simp only [qd, qtr, m2, m3, m4, qaq, qac, qk, qj, qy, qa4, qb8, qah, qb0, qcg, qbh, decide_true, d1, d0, Bool.and_self]) (by omega) (by omega) (by omega) (by rw [pre_g6 hA]; rfl) hD hk
  have hsub : ((rest ++ out).filter (qe6 G)).Sublist (rest ++ out) := List.filter_sublist
  have hs := ql1 ((rest ++ out).filter (qe6 G)) false (by have := hsub.length_le; omega) (fun x hx => hk x (hsub.subset hx)) (List.Pairwise.sublist hsub hd)
  have tE : (E.map Evt.r).take ((rest ++ out).filter (qe6 G)).length = ((rest ++ out).filter (qe6 G)).map Evt.r := by rw [← List.map_take, hE2]
  have hEl : ((rest ++ out).filter (qe6 G)).length ≤ (E.map Evt.r).length := by rw [List.length_map]; exact hE1
  generalize (rest ++ out).filter (qe6 G) = F at hE3 hs tE hEl ⊢
  generalize rest ++ out = D at hc hE3
  rw [pre_s6 hA] at hE3
  simp only [List.map_cons, List.map_nil, qkk, List.set_cons_succ, List.set_cons_zero] at hc hE3
  simp only [List.length_map] at hEl
  have hrep : List.replicate 2 [(.fsl [] false : AV)] = [[.fsl [] false], [.fsl [] false]] := rfl
  simp only [q9b, cm2', cm3', cm4', cm5', cm6', cm7', cm9, qq1, qao, hrep, h0, h4, h7, qkx hA, pre_g6 hA, q2s hA, pre_s6 hA, hA, Nat.add_assoc, List.append_assoc, hc, hE3, hs, tE, hEl, qhs, qah, Nat.add_comm, Ev.exec, Ev.qb, Ev.qe, Ev.qc, Ev.qqm, Ev.qd0, Ev.item_F, Ev.giveG, Ev.qzg, Ev.q07, Ev.AV.shift, Ev.qaf, Ev.q3j, Ev.evs, Ev.Opnd.ev, Ev.Env.get, Ev.Env.set, Ev.look, Ev.qi, Ev.qab, Ev.qjo, Ev.AV.cells, Ev.AV.uc, Ev.qv, Ev.AV.plain, Ev.qy, Ev.qj, Ev.qk, Ev.qac, Ev.qaq, Ev.qhn, Ev.qfi, Ev.qhs, List.length_map, ↓Ev.qq, ↓reduceIte, List.length_cons, List.length_nil, List.length_append, List.getElem?_cons_zero, List.getElem?_cons_succ, List.take_succ_cons, List.take_zero, List.drop_succ_cons, List.drop_zero, List.cons_append, List.nil_append, List.set_cons_zero, List.set_cons_succ, List.head?_cons, Nat.reduceAdd, Nat.reduceEqDiff, Nat.reduceMul, Nat.reduceLT, Nat.reduceLeDiff, Nat.reducePow, reduceCtorEq, Bool.and_self, Bool.false_eq_true, and_self, ne_eq, not_false_eq_true, List.cons_ne_nil, Nat.zero_add, Nat.add_zero, Nat.lt_add_one, eq_self]
  refine ⟨_, rfl, ?_⟩
  rfl
end
set_option maxRecDepth 10000
section
variable {c : Cfg} {s : Sim} {h : List Evt}
theorem qu5 (h : List Evt) (e : Evt) (i : Nat) : qmi (h ++ [e]) i = if e.lp = i then qmi h i ++ [e] else qmi h i := by
  unfold qmi
  rw [List.filter_append, List.filter_cons, List.filter_nil]
  by_cases k : e.lp = i
  · rw [if_pos k, if_pos (by simpa using k)]
  · rw [if_neg k, if_neg (by simpa using k), List.append_nil]
theorem badP_iff {c : Cfg} {q : Pr} (h : badP c q = false) : 0 ≤ q.prog ∧ q.prog < c.progs.length ∧ 0 ≤ q.pc ∧ q.pc ≤ ((c.progs[q.prog.toNat]?).getD []).length := by
  simp only [badP, Bool.not_eq_false', Bool.and_eq_true, decide_eq_true_eq] at h
  omega
theorem SInv.step (H : SInv c s h) {e : Evt} {rest : List Evt} (hp : s.pend = e :: rest) (hn : h.length ≤ 60) (hf : e.time < c.fin) : SInv c (s.step c e rest) (h ++ [e]) := by
  obtain ⟨x, hx, hlx, R⟩ := H.head hp hn
  have hkn := H.keyNe hp hn
  have ge := H.ev e (by rw [hp]; simp)
  have hxl := H.lp x (List.mem_of_getElem? hx)
  obtain ⟨X, oX, o1, o2⟩ := R.outs
  obtain ⟨z1, _, z3, _, _, _⟩ := R.sizes
  obtain ⟨t1, t2⟩ := R.tims (B := 2 + (h.length + 1)) (by have := ge.key; omega) (fun q hq => by have := (hxl.2 q hq).2.2.2.2; omega)
  obtain ⟨st1, st2⟩ := R.state
  rw [hlx] at hkn
  have hsub : ((rest ++ (qck c x e).out).filter (qe6 (qck c x e).gone)).Sublist (rest ++ (qck c x e).out) := List.filter_sublist
  have hmem : ∀ b, b ∈ qst ((rest ++ (qck c x e).out).filter (qe6 (qck c x e).gone)) → b ∈ rest ∨ b ∈ (qck c x e).out := fun b hb => List.mem_append.1 (hsub.subset ((qkg _).mem_iff.1 hb))
  have hlpn : e.lp.toNat < c.lps.length := by have := ge.lp; omega
  have hout : ∀ b ∈ (qck c x e).out, ∃ k, EvOk c e X k b := fun b hb => by
    obtain ⟨k, hk⟩ := List.mem_iff_getElem?.1 hb
    exact ⟨k, o1 k b hk⟩
  have rev : ∀ b ∈ rest, b ∈ h ++ s.pend := fun b hb => by rw [hp]; simp [hb]
  have evOut : ∀ b ∈ (qck c x e).out, EvG c (h.length + 1) b := fun b hb => by
    obtain ⟨k, a1, ⟨m, hm, _⟩, a3, a4⟩ := hout b hb
    obtain ⟨u1, u2⟩ := t1 b hb
    have hkl : b.key.length = e.key.length + 1 := by rw [hm]; simp
    by_cases k3 : b.kind = 3
    · obtain ⟨c1, c2, _⟩ := a3 k3
      exact ⟨⟨c1, c2⟩, by have := ge.time; omega, by have := ge.key; omega, by rw [u1 k3]; omega, fun k2 => by omega⟩
    · obtain ⟨c1, c2, c3, c4⟩ := a4 k3
      rw [oX] at c3
      refine ⟨by rw [c1]; exact ge.lp, by have := ge.time; omega, by have := ge.key; omega, by omega, fun k2 => ?_⟩
      obtain ⟨q, p, _, hpp, _, d1, d2⟩ := u2 k2
      have := (H.valid.prog p (List.mem_of_getElem? hpp)).2.1
      omega
  have newProg : ∀ (j : Nat) (q : Pr), x.procs[j]? = some q → ∃ q', (qck c x e).lp.procs[j]? = some q' ∧ q'.prog = q.prog := fun j q hq => by
    have hj := (List.getElem?_eq_some_iff.1 hq).1
    obtain ⟨q', hq'⟩ : ∃ q', (qck c x e).lp.procs[j]? = some q' := ⟨_, List.getElem?_eq_getElem (by omega)⟩
    exact ⟨q', hq', ((st2 j q' hq').2.2 q hq).1⟩
  have setSelf : (s.lps.set e.lp.toNat (qck c x e).lp)[e.lp.toNat]? = some (qck c x e).lp := List.getElem?_set_self (by rw [H.lpl]; exact hlpn)
  have lee : ∀ b, b ∈ rest ∨ b ∈ (qck c x e).out → leE e b := fun b hb => by
    rcases hb with hb | hb
    · have := H.sorted; rw [hp, List.pairwise_cons] at this; exact this.1 b hb
    · obtain ⟨k, a1, _⟩ := hout b hb; exact leE_time a1.1
  unfold Sim.step
  rw [hlx]
  refine ⟨H.valid, by show s.n + 1 = _; rw [H.n]; simp, by show (s.trace.set _ _).length = _; rw [List.length_set]; exact H.trl, ?_, by show (s.lps.set _ _).length = _; rw [List.length_set]; exact H.lpl, ?_, qq9 _, ?_, ?_, ?_, ?_, ?_, ?_, ?_, ?_, ?_, ?_⟩
  · intro i hi
    show (s.trace.set e.lp.toNat (qpu s e.lp ++ [e]))[i]? = _
    rw [qu5]
    by_cases k : e.lp = i
    · have : e.lp.toNat = i := by omega
      rw [if_pos k, this, List.getElem?_set_self (by rw [H.trl]; exact hi)]
      unfold qpu
      rw [this, H.tr i hi]; rfl
    · rw [if_neg k, List.getElem?_set_ne (by have := ge.lp; omega)]; exact H.tr i hi
  · intro y hy
    rw [List.length_append]
    rcases List.mem_or_eq_of_mem_set hy with hy | rfl
    · have := H.lp y hy
      exact ⟨this.1, fun q hq => by obtain ⟨a, b, d, f, g⟩ := this.2 q hq; exact ⟨a, b, d, f, by omega⟩⟩
    · refine ⟨z1, fun q hq => ?_⟩
      obtain ⟨j, hj⟩ := List.mem_iff_getElem?.1 hq
      obtain ⟨a, b, d, f⟩ := badP_iff (st2 j q hj).1
      exact ⟨a, b, d, f, t2 q hq⟩
  · show qr6 ((h ++ [e]) ++ qst _)
    exact qr6.perm (List.Pairwise.sublist (hsub.append_left _) hkn) ((qkg _).append_left _)
  · intro b hb
    rw [List.length_append]
    rcases List.mem_append.1 hb with hb | hb
    · refine (H.ev b ?_).mono (by simp)
      rcases List.mem_append.1 hb with hb | hb
      · exact List.mem_append_left _ hb
      · rw [List.mem_singleton] at hb; subst hb; rw [hp]; simp
    · rcases hmem b hb with hb | hb
      · exact (H.ev b (rev b hb)).mono (by simp)
      · exact evOut b hb
  · intro b hb hk
    show ∃ x' q p, (s.lps.set e.lp.toNat (qck c x e).lp)[b.lp.toNat]? = some x' ∧ _
    rcases hmem b hb with hb | hb
    · obtain ⟨x', q, p, h1, h2, h3, h4⟩ := H.tim b (by rw [hp]; exact List.mem_cons_of_mem _ hb) hk
      by_cases k : e.lp.toNat = b.lp.toNat
      · rw [← k] at h1; rw [hx] at h1; cases h1
        obtain ⟨q', g1, g2⟩ := newProg _ q h2
        exact ⟨_, q', p, by rw [← k]; exact setSelf, g1, by rw [g2]; exact h3, h4⟩
      · exact ⟨x', q, p, by rw [List.getElem?_set_ne k]; exact h1, h2, h3, h4⟩
    · obtain ⟨k, _, _, _, a4⟩ := hout b hb
      obtain ⟨c1, _⟩ := a4 (by omega)
      obtain ⟨q, p, g1, g2, g3, g4⟩ := (t1 b hb).2 hk
      obtain ⟨q', g5, g6⟩ := newProg _ q g1
      exact ⟨_, q', p, by rw [c1]; exact setSelf, by rw [g3]; exact g5, by rw [g6]; exact g2, g4⟩
  · intro b hb
    have old : b ∈ h ++ s.pend → b.key.length = 2 ∨ ∃ p ∈ h ++ [e], ∃ m, b.key = p.key ++ [m] ∧ p.time < b.time := fun hb => by
      rcases H.par b hb with g | ⟨p, g1, g2⟩
      · exact .inl g
      · exact .inr ⟨p, List.mem_append_left _ g1, g2⟩
    rcases List.mem_append.1 hb with hb | hb
    · refine old ?_
      rcases List.mem_append.1 hb with hb | hb
      · exact List.mem_append_left _ hb
      · rw [List.mem_singleton] at hb; subst hb; rw [hp]; simp
    · rcases hmem b hb with hb | hb
      · exact old (rev b hb)
      · obtain ⟨k, a1, ⟨m, hm, _⟩, _⟩ := hout b hb
        exact .inr ⟨e, by simp, m, hm, a1.1⟩
  · rw [List.pairwise_append]
    exact ⟨H.ord, List.pairwise_singleton _ _, fun a ha b hb => by rw [List.mem_singleton] at hb; subst hb; exact H.ord2 a ha b (by rw [hp]; simp)⟩
  · intro a ha b hb
    have hb' := hmem b hb
    rcases List.mem_append.1 ha with ha | ha
    · exact qpg a e b (H.ord2 a ha e (by rw [hp]; simp)) (lee b hb')
    · rw [List.mem_singleton] at ha; subst ha; exact lee b hb'
  · intro a ha
    rcases List.mem_append.1 ha with ha | ha
    · exact H.fin a ha
    · rw [List.mem_singleton] at ha; subst ha; exact hf
  · show (qst _).length ≤ _
    rw [(qkg _).length_eq]
    have h1 := hsub.length_le
    have h2 := H.len
    rw [hp] at h2
    simp only [List.length_append, List.length_cons, List.length_nil] at h1 h2 ⊢
    omega
  · intro i hi
    show (s.lps.set e.lp.toNat (qck c x e).lp)[i]? = _
    rw [qu5]
    by_cases k : e.lp = i
    · have hki : e.lp.toNat = i := by omega
      have hr := H.rep i hi
      rw [← hki, hx, hki] at hr
      rw [if_pos k]
      unfold qo1 at hr ⊢
      rw [List.foldl_append, List.foldl_cons, List.foldl_nil, ← Option.some.inj hr]
      have := setSelf; rw [hki] at this ⊢; exact this
    · rw [if_neg k, List.getElem?_set_ne (by have := ge.lp; omega)]; exact H.rep i hi
  · intro i hi k b hb
    rw [qu5] at hb ⊢
    by_cases hl : e.lp = i
    · rw [if_pos hl] at hb ⊢
      by_cases hk : k < (qmi h i).length
      · rw [List.getElem?_append_left hk] at hb
        rw [List.take_append_of_le_length (by omega)]
        exact H.rdy i hi k b hb
      · have hk2 := (List.getElem?_eq_some_iff.1 hb).1
        simp at hk2
        obtain rfl : k = (qmi h i).length := by omega
        simp at hb
        subst hb
        rw [List.take_append_of_le_length (Nat.le_refl _), List.take_length]
        have hr := H.rep i hi
        have hki : e.lp.toNat = i := by omega
        rw [← hki, hx, hki] at hr
        rw [← Option.some.inj hr]
        exact R
    · rw [if_neg hl] at hb ⊢
      exact H.rdy i hi k b hb
end
set_option maxRecDepth 10000
theorem q34 (lps : List (List Start)) : qr6 (qkj lps) := by
  have ne : ∀ {k k' i i' : Nat} {s s' : Start}, (qip k i s).key = (qip k' i' s').key → k = k' ∧ i = i' := by
    intro k k' i i' s s' h
    simp only [qip, List.cons.injEq, and_true] at h
    omega
  unfold qr6 qkj
  rw [List.pairwise_flatten]
  constructor
  · intro r hr
    obtain ⟨k, hk⟩ := List.mem_iff_getElem?.1 hr
    rw [List.getElem?_mapIdx] at hk
    cases hl : lps[k]? with
    | none => rw [hl] at hk; cases hk
    | some l =>
      rw [hl] at hk; cases hk
      rw [List.pairwise_iff_getElem]
      intro i j hi hj hij h
      simp only [qjs, List.getElem_mapIdx] at h
      have := (ne h).2; omega
  · rw [List.pairwise_iff_getElem]
    intro k k' hk hk' hkk x hx y hy h
    simp only [List.getElem_mapIdx] at hx hy
    obtain ⟨i, s, _, rfl⟩ := qpn hx
    obtain ⟨i', s', _, rfl⟩ := qpn hy
    have := (ne h).1; omega
section
variable {c : Cfg}
theorem q3d (c : Cfg) : (start c).lps = (qyg c.lps).map fun ps => (⟨0, 0, ps, 0⟩ : Lp) := by
  simp only [start, qgm, List.map_map]; rfl
theorem SInv.start (hv : Valid c) : SInv c (start c) [] := by
  have hm : ∀ e ∈ qst (qkj c.lps), e ∈ qkj c.lps := fun e he => (qkg _).mem_iff.1 he
  have hv1 := hv.lps
  refine ⟨hv, rfl, by simp [K.start], fun i hi => ?_, by rw [q3d]; simp [qyg], ?_, qq9 _, ?_, ?_, ?_, ?_, .nil, fun a ha => by simp at ha, fun e he => by simp at he, ?_, ?_, fun i hi k e he => by simp [qmi] at he⟩
  · simp [K.start, qmi, hi]
  · intro x hx
    rw [q3d, List.mem_map] at hx
    obtain ⟨ps, hps, rfl⟩ := hx
    simp only [qyg, List.mem_map] at hps
    obtain ⟨l, hl, rfl⟩ := hps
    refine ⟨by have := hv.lp l hl; simp; omega, fun q hq => ?_⟩
    simp only [List.mem_map] at hq
    obtain ⟨st, hst, rfl⟩ := hq
    obtain ⟨a, b, _⟩ := hv.start l hl st hst
    exact ⟨a, b, by simp [stP], by simp [stP], by simp [stP]⟩
  · rw [List.nil_append]; exact qr6.perm (q34 _) (qkg _)
  · intro e he
    rw [List.nil_append] at he
    obtain ⟨k, l, i, s, h1, h2, rfl⟩ := qt3 (hm e he)
    have k1 := (List.getElem?_eq_some_iff.1 h1).1
    have k2 := (List.getElem?_eq_some_iff.1 h2).1
    have k3 := hv.lp l (List.mem_of_getElem? h1)
    obtain ⟨a, b, d, f⟩ := hv.start l (List.mem_of_getElem? h1) s (List.mem_of_getElem? h2)
    exact ⟨by simp only [qip]; omega, ⟨d, f⟩, by simp [qip], by simp only [qip]; omega, fun hk => by simp [qip] at hk⟩
  · intro e he hk
    obtain ⟨k, l, i, s, h1, h2, rfl⟩ := qt3 (hm e he)
    simp [qip] at hk
  · intro e he
    rw [List.nil_append] at he
    obtain ⟨k, l, i, s, h1, h2, rfl⟩ := qt3 (hm e he)
    exact .inl (by simp [qip])
  · show (qst _).length ≤ _
    rw [(qkg _).length_eq]
    have := q25 (lps := c.lps) (m := 8) (fun l hl => hv.lp l hl)
    simp only [List.length_nil]; omega
  · intro i hi
    show ((qgm c.lps).map Prod.fst)[i]? = _
    have : i < ((qgm c.lps).map Prod.fst).length := by simp [qgm, qyg]; exact hi
    rw [List.getElem?_eq_getElem this]; rfl
variable {s : Sim} {h : List Evt}
theorem q0o (hr : s.ready c = true) : ∃ e rest, s.pend = e :: rest ∧ e.time < c.fin := by
  unfold Sim.ready at hr
  split at hr
  · cases hr
  next e rest hp => exact ⟨e, rest, hp, of_decide_eq_true hr⟩
theorem go_eq {e : Evt} {rest : List Evt} (hp : s.pend = e :: rest) : s.go c = s.step c e rest := by unfold Sim.go; rw [hp]
theorem SInv.run : ∀ (k : Nat) {s : Sim} {h : List Evt}, SInv c s h → h.length + k ≤ 60 → ∃ h', SInv c (Sim.run c k s) (h ++ h') ∧ h'.length ≤ k ∧ (h'.length = k ∨ (Sim.run c k s).ready c = false)
  | 0, s, h, H, _ => ⟨[], by rw [List.append_nil]; exact H, Nat.le_refl _, .inl rfl⟩
  | k + 1, s, h, H, hk => by
    unfold Sim.run
    by_cases hr : s.ready c = true
    · rw [if_pos hr]
      obtain ⟨e, rest, hp, hf⟩ := q0o hr
      rw [go_eq hp]
      obtain ⟨h', g1, g2, g3⟩ := SInv.run k (H.step hp (by omega) hf) (by simp; omega)
      refine ⟨e :: h', by simpa using g1, by simp; omega, ?_⟩
      rcases g3 with g3 | g3
      · exact .inl (by simp; omega)
      · exact .inr g3
    · rw [if_neg hr]
      exact ⟨[], by rw [List.append_nil]; exact H, Nat.zero_le _, .inr (by simpa using hr)⟩
end
set_option maxRecDepth 10000
section
variable {c : Cfg} {s : Sim} {h : List Evt} {n : Nat} {L : List (Lp × Bool)} {A : qx} {O : List (List AV)}
theorem SimSt.lpAt (S : SimSt n s L A O) {i : Nat} (hi : i < n) : ∃ f : Bool, L[i]? = some (K.lpAt s i, f) ∧ (f = true → (K.lpAt s i).procs = []) := by
  obtain ⟨x, hx⟩ : ∃ x, L[i]? = some x := ⟨_, List.getElem?_eq_getElem (by rw [S.lpl]; exact hi)⟩
  have h1 : s.lps[i]? = some x.1 := by rw [← S.lpf, List.getElem?_map, hx]; rfl
  have h2 : K.lpAt s i = x.1 := by unfold K.lpAt; rw [Int.toNat_natCast, h1]; rfl
  exact ⟨x.2, by rw [h2]; exact hx, fun hf => by rw [h2]; exact S.flag x (List.mem_of_getElem? hx) hf⟩
theorem trAt_set {s : Sim} {T' : List (List Evt)} {L' : List Lp} {P : List Evt} {m : Nat} {o : Bool} (i j : Nat) (t : List Evt) (hT : T' = s.trace.set i t) (hi : i < s.trace.length) : qpu ⟨T', L', P, m, o⟩ (j : Int) = if i = j then t else qpu s j := by
  unfold qpu
  simp only [Int.toNat_natCast]
  subst hT
  by_cases e : i = j
  · subst e; rw [List.getElem?_set_self hi, if_pos rfl]; rfl
  · rw [List.getElem?_set_ne e, if_neg e]
theorem SimSt.step (S : SimSt n s L A O) {e : Evt} {i : Nat} (hi : i < n) (he : e.lp = (i : Int)) {g : Nat} {f : Bool} (rest : List Evt) (hf : f = true → (qck c (K.lpAt s i) e).lp.procs = []) :
    SimSt n (s.step c e rest) (L.set i ((qck c (K.lpAt s i) e).lp, f)) ((A.set (i + 1) (.row 6 ((qpu s i ++ [e]).map Evt.r) (g + 1))).set 0 (.row 4 ((L.set i ((qck c (K.lpAt s i) e).lp, f)).map lpF) 1)) (O.set i [.sl (i + 1) (g + 1) 0 ((qpu s i).length + 1) false]) := by
  have hin : e.lp.toNat = i := by omega
  have c1 : i + 1 < n + 1 := by omega
  refine ⟨by rw [List.length_set, List.length_set]; exact S.len, ?_, by rw [List.length_set]; exact S.lpl, ?_, ?_, ?_, by rw [List.length_set]; exact S.ol, ?_, ?_, ?_⟩
  · rw [List.getElem?_set_self (by rw [List.length_set, S.len]; omega)]
  · rw [List.map_set, S.lpf]; show _ = s.lps.set e.lp.toNat (qck c (K.lpAt s e.lp) e).lp; rw [hin, he]
  · intro x hx
    rcases List.mem_or_eq_of_mem_set hx with hx | rfl
    · exact S.flag x hx
    · exact hf
  · show (s.trace.set _ _).length = n; rw [List.length_set]; exact S.trl
  · intro j hj
    obtain ⟨g', h1, h2⟩ := S.tr j hj
    have ht := trAt_set (s := s) (T' := (s.step c e rest).trace) (L' := (s.step c e rest).lps) (P := (s.step c e rest).pend) (m := (s.step c e rest).n) (o := (s.step c e rest).over) i j (qpu s i ++ [e]) (by show s.trace.set e.lp.toNat (qpu s e.lp ++ [e]) = _; rw [hin, he]) (by rw [S.trl]; exact hi)
    change qpu (s.step c e rest) (j : Int) = _ at ht
    rw [ht]
    by_cases e1 : i = j
    · subst e1
      refine ⟨g + 1, ?_, ?_⟩
      · rw [if_pos rfl, List.getElem?_set_ne (by omega), List.getElem?_set_self (by rw [S.len]; omega)]
      · rw [if_pos rfl, List.getElem?_set_self (by rw [S.ol]; omega), List.length_append]; rfl
    · refine ⟨g', ?_, ?_⟩
      · rw [if_neg e1, List.getElem?_set_ne (by omega), List.getElem?_set_ne (by omega)]; exact h1
      · rw [if_neg e1, List.getElem?_set_ne e1]; exact h2
  · exact qs3 (qs3 S.alo _ (by rw [qtr]; exact qah _ _)) _ (by rw [qtr]; exact qp3 _ _)
  · have := S.olo
    have hl : ∀ {n : Nat} {O : List (List AV)} (i : Nat) (x : List AV), qit n O = true → los n x = true → qit n (O.set i x) = true := by
      intro n O
      induction O with
      | nil => intro i x h _; exact h
      | cons a O ih =>
        intro i x h hx
        simp only [qaq, Bool.and_eq_true] at h
        cases i with
        | zero => rw [List.set_cons_zero, qaq, hx, h.2]; rfl
        | succ i => rw [List.set_cons_succ, qaq, h.1, ih i x h.2 hx]; rfl
    refine hl i _ this ?_
    simp only [qk, qj, qb8, c1, decide_true, Bool.and_self]
theorem q75 (H : SInv c s h) (hn : c.lps.length = n) (S : SimSt n s L A O) {e : Evt} {rest : List Evt} (hp : s.pend = e :: rest) (hh : h.length ≤ 60) :
    ∃ (L' : List (Lp × Bool)) (A' : qx) (O' : List (List AV)), SimSt n (s.step c e rest) L' A' O' ∧
      (evL T).call qdr [(.ptr (n + 2) 0 0 0)] (A ++ [.row 1 O 0, (.row 10 [[(.fsl ((c.lps).map lpC) false), (.fsl ((c.progs).map qbu) false), (.v (.int .i64 (c.look))), (.v (.int .i64 (c.fin))), (.v (.int .i64 (c.cap))), .sl (n + 1) 0 0 n false, .sl 0 1 0 n false, (.fsl ((s.pend).map Evt.r) false), (.v (.int .i64 (s.n))), (.v (.bool (s.over)))]] 0)]) = some (.tup [], (A' ++ [.row 1 O' 0, (.row 10 [[(.fsl ((c.lps).map lpC) false), (.fsl ((c.progs).map qbu) false), (.v (.int .i64 (c.look))), (.v (.int .i64 (c.fin))), (.v (.int .i64 (c.cap))), .sl (n + 1) 0 0 n false, .sl 0 1 0 n false, (.fsl (((s.step c e rest).pend).map Evt.r) false), (.v (.int .i64 ((s.step c e rest).n))), (.v (.bool ((s.step c e rest).over)))]] 0)])) := by
  obtain ⟨x, hx, hlx, R⟩ := H.head hp hh
  have ge := H.ev e (by rw [hp]; simp)
  obtain ⟨i, hi⟩ : ∃ i : Nat, e.lp = i := ⟨_, (Int.toNat_of_nonneg ge.lp.1).symm⟩
  have hin : i < n := by have := ge.lp; omega
  obtain ⟨f, hL, hf⟩ := S.lpAt hin
  obtain ⟨g, t1, t2⟩ := S.tr i hin
  have hsz := R.sizes
  have hkn := H.keyNe hp hh
  rw [hi] at hlx hkn
  rw [hlx] at hL hf hkn
  obtain ⟨z1, _, z3, z4, z5, z6⟩ := hsz
  have hlen := H.len
  rw [hp] at hlen
  have htl : (qpu s i).length ≤ 1000 := by
    have h1 := H.tr i (by omega)
    have : qpu s i = qmi h i := by unfold qpu; rw [Int.toNat_natCast, h1]; rfl
    rw [this]
    have := List.length_filter_le (fun e : Evt => decide (e.lp = i)) h
    unfold qmi; omega
  have hE := Exec_evF R f hf
  have hkr : qr6 (rest ++ (qck c x e).out) := by
    have := (List.pairwise_append.1 hkn).2.1; exact this
  have hko : qhp (rest ++ (qck c x e).out) := by
    intro y hy
    rcases List.mem_append.1 hy with hy | hy
    · have := (H.ev y (by rw [hp]; simp [hy])).key; omega
    · have := z4 y hy; omega
  have st := S.step (c := c) (e := e) hin hi (g := g) (f := f) rest (by rw [hlx]; exact fun k => q2o (hf k))
  rw [hlx] at st
  refine ⟨_, _, _, st, ?_⟩
  have hstep : s.step c e rest = ⟨s.trace.set i (qpu s i ++ [e]), s.lps.set i (qck c x e).lp, qst ((rest ++ (qck c x e).out).filter (qe6 (qck c x e).gone)), s.n + 1, s.over || (qck c x e).over⟩ := by
    unfold Sim.step; rw [hi, hlx, Int.toNat_natCast]
  rw [hstep, hp]
  have alo2 := st.alo
  have olo2 := st.olo
  have hA := S.len
  have hA0 := S.lps
  have lo3 : (SObj.row 6 [e.r] 0).lo (n + 1) = true := by simp only [qtr, qaq, qac, q5d, Bool.and_self]
  have hw : IntKind.i64.wrap ((s.n : Int) + 1) = ((s.n + 1 : Nat) : Int) := by
    have := H.n; rw [qat (by omega) (by omega)]; simp
  simp only
  generalize hr : qck c x e = r at *
  obtain ⟨et, ek, el, ei, ep, ea⟩ := e
  simp only at hi
  subst hi
  have hA1 : (A.set (i + 1) (SObj.row 6 ((qpu s i ++ [(⟨et, ek, (i : Int), ei, ep, ea⟩ : Evt)]).map Evt.r) (g + 1))).length = n + 1 := by rw [List.length_set]; exact hA
  have hA2 : ((A.set (i + 1) (SObj.row 6 ((qpu s i ++ [(⟨et, ek, (i : Int), ei, ep, ea⟩ : Evt)]).map Evt.r) (g + 1))).set 0 (SObj.row 4 ((L.set i (r.lp, f)).map lpF) 1)).length = n + 1 := by rw [List.length_set]; exact hA1
  have hA10 : (A.set (i + 1) (SObj.row 6 ((qpu s i ++ [(⟨et, ek, (i : Int), ei, ep, ea⟩ : Evt)]).map Evt.r) (g + 1)))[0]? = some (.row 4 (L.map lpF) 1) := by rw [List.getElem?_set_ne (by omega)]; exact hA0
  have lo5 : (SObj.row 4 [lpF (r.lp, f)] 0).lo (n + 1) = true := by simp only [qtr, qaq, qac, lpF_lo, Bool.and_self]
  obtain ⟨e1, r1, m1, a10, a12⟩ := q7k c n A O hA rest ⟨et, ek, i, ei, ep, ea⟩ s.n s.over ⟨qn 0 [(.ptr (n + 2) 0 0 0)], []⟩ rfl
  obtain ⟨e2, r2, m2, a20, a22⟩ := q7y c n A O hA rest ⟨et, ek, i, ei, ep, ea⟩ s.n s.over [.row 6 [Evt.r ⟨et, ek, i, ei, ep, ea⟩] 0, .hole] e1 a10 a12
  obtain ⟨e3, r3, m3, a30, a32⟩ := q74 c n A O hA rest et ei ep ea ek i s.n s.over hin (qpu s i) g htl t2 t1 [.hole] e2 a20 a22
  obtain ⟨e4, r4, m4, a40, a42⟩ := q7j c n _ (O.set i [.sl (i + 1) (g + 1) 0 ((qpu s i).length + 1) false]) hA1 rest s.n s.over [(.row 6 [[(.v (.int .i64 (et))), (.fsl ((ek).map qcp) false), (.v (.int .i64 (i))), (.v (.int .i64 (ei))), (.v (.int .i64 (ep))), (.v (.int .i64 (ea)))]] 0), .hole] e3 a30 a32
  rw [hw] at r4
  obtain ⟨e5, r5, m5, a50, a52, a53, a54, a55, a56⟩ := q8z c n _ (O.set i [.sl (i + 1) (g + 1) 0 ((qpu s i).length + 1) false]) hA1 rest et ei ep ea ek i (s.n + 1 : Nat) s.over hin L x f hL hA10 r hE e4 a40 a42
  obtain ⟨e6, r6, m6, a60, a64, a65, a66⟩ := q7e c n _ (O.set i [.sl (i + 1) (g + 1) 0 ((qpu s i).length + 1) false]) hA1 rest et ei ep ea ek i (s.n + 1 : Nat) s.over hin L (x, f) (r.lp, f) hL hA10 (.row 1 [[(.fsl ((r.gone).map qfe) false)]] 1) e5 a50 a52 a53 _ _ _ a54 a55 a56
  obtain ⟨e7, r7, m7, a70, a74, a75⟩ := q9l c n _ (O.set i [.sl (i + 1) (g + 1) 0 ((qpu s i).length + 1) false]) hA2 rest (s.n + 1 : Nat) s.over [(.row 6 [[(.v (.int .i64 (et))), (.fsl ((ek).map qcp) false), (.v (.int .i64 (i))), (.v (.int .i64 (ei))), (.v (.int .i64 (ep))), (.v (.int .i64 (ea)))]] 0), .row 1 [[(.fsl ((r.gone).map qfe) false)]] 1, .row 4 [lpF (r.lp, f)] 0] e6 a60 _ _ r.over a64 a65 a66
  obtain ⟨e8, r8, m8, a80, a84, a87⟩ := q7a n _ hA2 (((A.set (i + 1) (SObj.row 6 ((qpu s i ++ [(⟨et, ek, (i : Int), ei, ep, ea⟩ : Evt)]).map Evt.r) (g + 1))).set 0 (SObj.row 4 ((L.set i (r.lp, f)).map lpF) 1)) ++ [.row 1 (O.set i [.sl (i + 1) (g + 1) 0 ((qpu s i).length + 1) false]) 0, (.row 10 [[(.fsl ((c.lps).map lpC) false), (.fsl ((c.progs).map qbu) false), (.v (.int .i64 (c.look))), (.v (.int .i64 (c.fin))), (.v (.int .i64 (c.cap))), .sl (n + 1) 0 0 n false, .sl 0 1 0 n false, (.fsl ((rest).map Evt.r) false), (.v (.int .i64 (((s.n + 1 : Nat) : Int)))), (.v (.bool ((s.over || r.over))))]] 0), (.row 6 [[(.v (.int .i64 (et))), (.fsl ((ek).map qcp) false), (.v (.int .i64 (i))), (.v (.int .i64 (ei))), (.v (.int .i64 (ep))), (.v (.int .i64 (ea)))]] 0), .row 1 [[(.fsl ((r.gone).map qfe) false)]] 1, .row 4 [lpF (r.lp, f)] 0]) e7 a70 _ _ a74 a75
  obtain ⟨e9, r9, m9⟩ := q8u c n _ (O.set i [.sl (i + 1) (g + 1) 0 ((qpu s i).length + 1) false]) hA2 rest (s.n + 1 : Nat) (s.over || r.over) alo2 olo2 (.row 6 [[(.v (.int .i64 (et))), (.fsl ((ek).map qcp) false), (.v (.int .i64 (i))), (.v (.int .i64 (ei))), (.v (.int .i64 (ep))), (.v (.int .i64 (ea)))]] 0) (.row 4 [lpF (r.lp, f)] 0) lo3 lo5 r.gone r.out r.nil (by omega) (fun k hk => by have := z5 k hk; omega) (by simp only [List.length_append, List.length_cons] at hlen ⊢; omega) hko hkr.dist e8 a80 a84 a87
  have hm : e9.marks = [] := by rw [m9, m8, m7, m6, m5, m4, m3, m2, m1]
  simp only [Evt.r] at r1 r2
  have hb := q4k
  rw [qu qm3 qml]
  unfold qm
  rw [hb]
  have hcut := fun (B : qx) => q0n hA2 B
  have lo1 : qd (n + 3) ((A.set (i + 1) (SObj.row 6 ((qpu s i ++ [(⟨et, ek, (i : Int), ei, ep, ea⟩ : Evt)]).map Evt.r) (g + 1))).set 0 (SObj.row 4 ((L.set i (r.lp, f)).map lpF) 1)) = true := qrd (by omega) alo2
  have lo2 : qit (n + 3) (O.set i [.sl (i + 1) (g + 1) 0 ((qpu s i).length + 1) false]) = true := qpf (by omega) _ olo2
  have d1 : n + 1 < n + 3 := by omega
  have d0 : 0 < n + 3 := by omega
  have hnl : (A ++ [SObj.row 1 O 0, (.row 10 [[(.fsl ((c.lps).map lpC) false), (.fsl ((c.progs).map qbu) false), (.v (.int .i64 (c.look))), (.v (.int .i64 (c.fin))), (.v (.int .i64 (c.cap))), .sl (n + 1) 0 0 n false, .sl 0 1 0 n false, (.fsl ((({ time := et, key := ek, lp := ↑i, kind := ei, proc := ep, arg := ea } :: rest)).map Evt.r) false), (.v (.int .i64 (s.n))), (.v (.bool (s.over)))]] 0)]).length = n + 3 := by simp [hA]
  have hna : qao.nargs = 1 := rfl
  have hres : qao.results = [] := rfl
  generalize ((A.set (i + 1) (SObj.row 6 ((qpu s i ++ [(⟨et, ek, (i : Int), ei, ep, ea⟩ : Evt)]).map Evt.r) (g + 1))).set 0 (SObj.row 4 ((L.set i (r.lp, f)).map lpF) 1)) = A2 at *
  generalize (O.set i [.sl (i + 1) (g + 1) 0 ((qpu s i).length + 1) false]) = O2 at *
  generalize qn 0 [(.ptr (n + 2) 0 0 0)] = av at *
  simp only [Ev.exec, r1, r2, r3, r4, r5, r6, r7, r8, r9, hm, hna, hres, hnl, hcut, Ev.kill, Ev.ql, Ev.qae, Ev.qad, qp9, qd, qtr, lo1, lo2, qaq, qac, qk, qj, qy, qa4, qb8, qbc, qah, qcg, qbh, d1, d0, decide_true, Bool.and_self, ↓Ev.qq, ↓reduceIte, List.length_cons, List.length_nil, Nat.zero_add, List.take_succ_cons, List.take_zero, and_self]
  done
end
set_option maxRecDepth 10000
section
variable {c : Cfg} {s : Sim} {h : List Evt} {n : Nat} {L : List (Lp × Bool)} {A : qx} {O : List (List AV)}
theorem q49 (hA : A.length = n + 1) : (evL T).call qdi [(.ptr (n + 2) 0 0 0)] (A ++ [.row 1 O 0, (.row 10 [[(.fsl ((c.lps).map lpC) false), (.fsl ((c.progs).map qbu) false), (.v (.int .i64 (c.look))), (.v (.int .i64 (c.fin))), (.v (.int .i64 (c.cap))), .sl (n + 1) 0 0 n false, .sl 0 1 0 n false, (.fsl ((s.pend).map Evt.r) false), (.v (.int .i64 (s.n))), (.v (.bool (s.over)))]] 0)]) = some ((.v (.bool (s.ready c))), (A ++ [.row 1 O 0, (.row 10 [[(.fsl ((c.lps).map lpC) false), (.fsl ((c.progs).map qbu) false), (.v (.int .i64 (c.look))), (.v (.int .i64 (c.fin))), (.v (.int .i64 (c.cap))), .sl (n + 1) 0 0 n false, .sl 0 1 0 n false, (.fsl ((s.pend).map Evt.r) false), (.v (.int .i64 (s.n))), (.v (.bool (s.over)))]] 0)])) := by
  rw [qu qnv qnj]
  unfold Sim.ready
  cases hp : s.pend with
  | nil =>
    simp only [qex, q0n hA, qkx hA, hA, Nat.add_assoc, List.map_nil, gt_iff_lt, Int.lt_irrefl, ite_self, Ev.qm, Ev.exec, Ev.qb, Ev.qe, Ev.qc, Ev.qaf, Ev.Opnd.ev, Ev.Env.get, Ev.Env.set, Ev.Env.unset, Ev.look, Ev.qn, Ev.qi, Ev.qab, Ev.qau, Ev.ql, Ev.qw, Ev.qae, Ev.kill, Ev.qad, Ev.qa4, ↓Ev.qq, ↓reduceIte, List.length_cons, List.length_nil, List.length_append, List.getElem?_cons_zero, List.getElem?_cons_succ, List.take_succ_cons, List.take_nil, List.drop_succ_cons, List.drop_zero, List.head?_cons, Nat.reduceAdd, Nat.reduceEqDiff, Int.cast_ofNat_Int, reduceCtorEq, decide_false, Bool.false_eq_true, true_and, Nat.zero_add, eq_self]
    done
  | cons e rest =>
    have c1 : ((rest.length + 1 : Nat) : Int) > 0 := by omega
    obtain ⟨et, ek, el, ei, ep, ea⟩ := e
    simp only [qex, q0n hA, qkx hA, hA, Nat.add_assoc, List.map_cons, Evt.r, c1, Int.le_refl, Int.toNat_zero, ite_self, Ev.qm, Ev.exec, Ev.qb, Ev.qe, Ev.qc, Ev.qaf, Ev.Opnd.ev, Ev.Env.get, Ev.Env.set, Ev.look, Ev.qn, Ev.qi, Ev.qab, Ev.qo, Ev.qau, Ev.ql, Ev.qw, Ev.qae, Ev.kill, Ev.qad, Ev.qa4, List.length_map, ↓Ev.qq, ↓reduceIte, List.length_cons, List.length_nil, List.length_append, List.getElem?_cons_zero, List.getElem?_cons_succ, List.take_succ_cons, List.take_nil, List.drop_succ_cons, List.drop_zero, List.head?_cons, Nat.reduceAdd, Nat.reduceEqDiff, reduceCtorEq, decide_true, Bool.false_eq_true, true_and, Nat.zero_add, Nat.add_zero, eq_self]
    done
theorem SimSt.lo (S : SimSt n s L A O) : qd (n + 3) (A ++ [.row 1 O 0, (.row 10 [[(.fsl ((c.lps).map lpC) false), (.fsl ((c.progs).map qbu) false), (.v (.int .i64 (c.look))), (.v (.int .i64 (c.fin))), (.v (.int .i64 (c.cap))), .sl (n + 1) 0 0 n false, .sl 0 1 0 n false, (.fsl ((s.pend).map Evt.r) false), (.v (.int .i64 (s.n))), (.v (.bool (s.over)))]] 0)]) = true := by
  have lo1 : qd (n + 3) A = true := qrd (by omega) S.alo
  have lo2 : qit (n + 3) O = true := qpf (by omega) _ S.olo
  have d1 : n + 1 < n + 3 := by omega
  have d0 : 0 < n + 3 := by omega
  simp only [qp9, qd, qtr, lo1, lo2, qaq, qac, qk, qj, qy, qa4, qb8, qah, qcg, qbh, d1, d0, decide_true, Bool.and_self]
theorem run_L (hn : c.lps.length = n) (lim : Nat) (hlim : lim ≤ 60) : ∀ (k : Nat) {s : Sim} {h : List Evt} {L : List (Lp × Bool)} {A : qx} {O : List (List AV)}, s.n + k = lim → SInv c s h → SimSt n s L A O →
    ∃ y, itB (exec (evL T) itL none qc4) (Ev.qs [0, 1] true (n + 3)) ⟨[(0, (.ptr (n + 2) 0 0 0)), (1, (.v (.int .i64 (lim))))], []⟩ (A ++ [.row 1 O 0, (.row 10 [[(.fsl ((c.lps).map lpC) false), (.fsl ((c.progs).map qbu) false), (.v (.int .i64 (c.look))), (.v (.int .i64 (c.fin))), (.v (.int .i64 (c.cap))), .sl (n + 1) 0 0 n false, .sl 0 1 0 n false, (.fsl ((s.pend).map Evt.r) false), (.v (.int .i64 (s.n))), (.v (.bool (s.over)))]] 0)]) = some y ∧
      ∃ (L' : List (Lp × Bool)) (A' : qx) (O' : List (List AV)), SimSt n (Sim.run c k s) L' A' O' ∧ y.1 = .exit 0 ∧ y.2.1.marks = [] ∧ y.2.2 = (A' ++ [.row 1 O' 0, (.row 10 [[(.fsl ((c.lps).map lpC) false), (.fsl ((c.progs).map qbu) false), (.v (.int .i64 (c.look))), (.v (.int .i64 (c.fin))), (.v (.int .i64 (c.cap))), .sl (n + 1) 0 0 n false, .sl 0 1 0 n false, (.fsl (((Sim.run c k s).pend).map Evt.r) false), (.v (.int .i64 ((Sim.run c k s).n))), (.v (.bool ((Sim.run c k s).over)))]] 0)]) := by
  intro k
  induction k with
  | zero =>
    intro s h L A O hk H S
    have c1 : ¬ (s.n : Int) < (lim : Int) := by omega
    have hx : ∃ y, it1 (exec (evL T) itL none qc4) (Ev.qs [0, 1] true (n + 3)) ⟨[(0, (.ptr (n + 2) 0 0 0)), (1, (.v (.int .i64 (lim))))], []⟩ (A ++ [.row 1 O 0, (.row 10 [[(.fsl ((c.lps).map lpC) false), (.fsl ((c.progs).map qbu) false), (.v (.int .i64 (c.look))), (.v (.int .i64 (c.fin))), (.v (.int .i64 (c.cap))), .sl (n + 1) 0 0 n false, .sl 0 1 0 n false, (.fsl ((s.pend).map Evt.r) false), (.v (.int .i64 (s.n))), (.v (.bool (s.over)))]] 0)]) = some (.inr y) ∧ y.1 = .exit 0 ∧ y.2.1.marks = [] ∧ y.2.2 = (A ++ [.row 1 O 0, (.row 10 [[(.fsl ((c.lps).map lpC) false), (.fsl ((c.progs).map qbu) false), (.v (.int .i64 (c.look))), (.v (.int .i64 (c.fin))), (.v (.int .i64 (c.cap))), .sl (n + 1) 0 0 n false, .sl 0 1 0 n false, (.fsl ((s.pend).map Evt.r) false), (.v (.int .i64 (s.n))), (.v (.bool (s.over)))]] 0)]) := by
      simp only [qc4, qkx S.len, c1, Ev.exec, Ev.qb, Ev.qe, Ev.qc, Ev.qaf, Ev.Opnd.ev, Ev.Env.get, Ev.Env.set, Ev.Env.unset, Ev.look, Ev.qi, Ev.qab, Ev.qo, ↓Ev.qq, Ev.it1, ↓reduceIte, List.getElem?_cons_zero, List.getElem?_cons_succ, List.drop_succ_cons, List.drop_zero, List.head?_cons, Nat.reduceEqDiff, reduceCtorEq, decide_false, Bool.false_eq_true, Nat.zero_add, eq_self]
      exact ⟨_, rfl, rfl, rfl, rfl⟩
    obtain ⟨y, h1, h2, h3, h4⟩ := hx
    exact ⟨y, qmo h1, L, A, O, S, h2, h3, h4⟩
  | succ k ih =>
    intro s h L A O hk H S
    have c1 : (s.n : Int) < (lim : Int) := by omega
    have hr := q49 (c := c) (s := s) (O := O) S.len
    by_cases hb : s.ready c = true
    · obtain ⟨e, rest, hp, hf⟩ := q0o hb
      have hhl : h.length ≤ 60 := by have := H.n; omega
      obtain ⟨L1, A1, O1, S1, hc⟩ := q75 H hn S hp hhl
      have hlo := S1.lo (c := c)
      have hcut := q0n S1.len [.row 1 O1 0, (.row 10 [[(.fsl ((c.lps).map lpC) false), (.fsl ((c.progs).map qbu) false), (.v (.int .i64 (c.look))), (.v (.int .i64 (c.fin))), (.v (.int .i64 (c.cap))), .sl (n + 1) 0 0 n false, .sl 0 1 0 n false, (.fsl (((s.step c e rest).pend).map Evt.r) false), (.v (.int .i64 ((s.step c e rest).n))), (.v (.bool ((s.step c e rest).over)))]] 0)]
      obtain ⟨y, g1, g2⟩ := ih (s := s.step c e rest) (h := h ++ [e]) (by show s.n + 1 + k = lim; omega) (H.step hp hhl hf) S1
      rw [hb] at hr
      refine ⟨y, qj0 ?_ g1, ?_⟩
      · have d2 : n + 2 < n + 3 := by omega
        simp only [List.take_succ_cons, List.take_zero] at hcut
        simp only [qc4, qkx S.len, c1, hr, hc, hlo, hcut, d2, Ev.exec, Ev.qb, Ev.qe, Ev.qc, Ev.qd0, Ev.qaf, Ev.evs, Ev.Opnd.ev, Ev.Env.get, Ev.Env.set, Ev.look, Ev.qi, Ev.qab, Ev.qo, Ev.qs, Ev.keep, Ev.qai, Ev.qaa, Ev.qa4, Ev.qjv, ↓Ev.qq, Ev.it1, ↓reduceIte, List.getElem?_cons_zero, List.getElem?_cons_succ, List.drop_succ_cons, List.drop_zero, List.head?_cons, Nat.reduceEqDiff, reduceCtorEq, decide_true, Bool.and_self, Bool.false_eq_true, and_self, Nat.zero_add, eq_self]
      · have : Sim.run c (k + 1) s = Sim.run c k (s.step c e rest) := by rw [Sim.run, if_pos hb, go_eq hp]
        rw [this]; exact g2
    · have hb' : s.ready c = false := by simpa using hb
      rw [hb'] at hr
      have : Sim.run c (k + 1) s = s := by rw [Sim.run, if_neg hb]
      rw [this]
      have hx : ∃ y, it1 (exec (evL T) itL none qc4) (Ev.qs [0, 1] true (n + 3)) ⟨[(0, (.ptr (n + 2) 0 0 0)), (1, (.v (.int .i64 (lim))))], []⟩ (A ++ [.row 1 O 0, (.row 10 [[(.fsl ((c.lps).map lpC) false), (.fsl ((c.progs).map qbu) false), (.v (.int .i64 (c.look))), (.v (.int .i64 (c.fin))), (.v (.int .i64 (c.cap))), .sl (n + 1) 0 0 n false, .sl 0 1 0 n false, (.fsl ((s.pend).map Evt.r) false), (.v (.int .i64 (s.n))), (.v (.bool (s.over)))]] 0)]) = some (.inr y) ∧ y.1 = .exit 0 ∧ y.2.1.marks = [] ∧ y.2.2 = (A ++ [.row 1 O 0, (.row 10 [[(.fsl ((c.lps).map lpC) false), (.fsl ((c.progs).map qbu) false), (.v (.int .i64 (c.look))), (.v (.int .i64 (c.fin))), (.v (.int .i64 (c.cap))), .sl (n + 1) 0 0 n false, .sl 0 1 0 n false, (.fsl ((s.pend).map Evt.r) false), (.v (.int .i64 (s.n))), (.v (.bool (s.over)))]] 0)]) := by
        simp only [qc4, qkx S.len, c1, hr, Ev.exec, Ev.qb, Ev.qe, Ev.qc, Ev.qd0, Ev.qaf, Ev.evs, Ev.Opnd.ev, Ev.Env.get, Ev.Env.set, Ev.look, Ev.qi, Ev.qab, Ev.qo, ↓Ev.qq, Ev.it1, ↓reduceIte, List.getElem?_cons_zero, List.getElem?_cons_succ, List.drop_succ_cons, List.drop_zero, List.head?_cons, Nat.reduceEqDiff, reduceCtorEq, decide_true, Bool.false_eq_true, Nat.zero_add, eq_self]
        exact ⟨_, rfl, rfl, rfl, rfl⟩
      obtain ⟨y, h1, h2, h3, h4⟩ := hx
      exact ⟨y, qmo h1, L, A, O, S, h2, h3, h4⟩
end
end Go.Proofs.Ythkjkdbjgpeigaa.K
