/- For every input the statement of this claim returns true: texts of its proof, joined (part 10). -/
import Derived.Test.YtbhhifdhlafklaaGWT06
import Derived.Test.YtbhhifdhlafklaaGWT07
import Derived.Test.YtbhhifdhlafklaaGWT08
set_option linter.unusedSectionVars false
set_option linter.unusedSimpArgs false
set_option linter.unusedVariables false
namespace Go.Proofs.Ytbhhifdhlafklaa.K
open Go.Ev
set_option maxRecDepth 10000
section
variable (xs : List (List Evt)) (cl : Bool)
theorem qwm {xs : List (List Evt)} {i : Nat} {x : List Evt} (h : xs[i]? = some x) : (xs.take (i + 1)).flatten = (xs.take i).flatten ++ x := by rw [qi4 h, List.flatten_append]; simp
theorem q7c (xs : List (List Evt)) (i : Nat) : (xs.take i).flatten.length ≤ xs.flatten.length := by
  have : xs.flatten = (xs.take i).flatten ++ (xs.drop i).flatten := by rw [← List.flatten_append, List.take_append_drop]
  rw [this, List.length_append]; omega
theorem q7h (hx : xs.length ≤ 1000000) (hT : xs.flatten.length ≤ 1000000) :
    ∃ y, itB (exec (evL T) itL none qbk) (qs [0, 3, 9, 10, 11] true 0) ⟨[(0, (.fsl ((xs).map qcp) cl)), (3, (ii 0)), (9, (.fsl ((xs).map qcp) cl)), (10, (ii xs.length)), (11, (ii 0))], []⟩ [] = some y ∧
      y.1 = .exit 0 ∧ y.2.1.marks = [] ∧ y.2.2 = [] ∧ Ev.look y.2.1.vars 0 = some (.fsl ((xs).map qcp) cl) ∧ Ev.look y.2.1.vars 3 = some (ii xs.flatten.length) := by
  have key := qf2 (f := exec (evL T) itL none qbk) (s := qs [0, 3, 9, 10, 11] true 0) (α := Unit)
    (fun i _ => ⟨[(0, (.fsl ((xs).map qcp) cl)), (3, (ii ((xs.take i).flatten.length))), (9, (.fsl ((xs).map qcp) cl)), (10, (ii xs.length)), (11, (ii i))], []⟩) (fun _ _ => [])
    (fun _ _ => True) xs.length (fun y => y.1 = .exit 0 ∧ y.2.1.marks = [] ∧ y.2.2 = [] ∧ Ev.look y.2.1.vars 0 = some (.fsl ((xs).map qcp) cl) ∧ Ev.look y.2.1.vars 3 = some (ii xs.flatten.length)) ?_ ?_ 0 () (Nat.zero_le _) trivial
  · exact key
  · rintro i _ hi _
    obtain ⟨x, hx'⟩ : ∃ x, xs[i]? = some x := ⟨_, List.getElem?_eq_getElem hi⟩
    have hi' : (i : Int) < (xs.length : Int) := by omega
    have hw : IntKind.i64.wrap ((i : Int) + 1) = ((i + 1 : Nat) : Int) := by rw [qas (by omega) (by omega)]; simp
    have h1 := q7c xs (i + 1)
    rw [qwm hx', List.length_append] at h1
    have h2 : IntKind.i64.wrap (((xs.take i).flatten.length : Int) + (x.length : Int)) = (((xs.take i).flatten.length + x.length : Nat) : Int) := q6j (by omega)
    refine .inl ⟨(), ?_, trivial⟩
    rw [qwm hx', List.length_append]
    generalize (xs.take i).flatten.length = m at h2 h1 ⊢
    have h3 : ¬ ((m + x.length : Nat) : Int) < 0 := by omega
    simp only [qbk, Int.natCast_nonneg, Int.toNat_natCast, List.getElem?_map, Option.map_some, hx', hi', hw, h2, h3, qcp, qjr, Ev.exec, qb, qe, qc, qai, Ev.Opnd.ev, Ev.Env.get, Ev.Env.set, Ev.look, qf, qv, qao, ql, qs, Ev.keep, qal, qaf, qg, qbb, qm, List.length_map, ↓qn, Ev.it1, ↓reduceIte, List.length_cons, List.length_nil, zfe, List.head?_cons, Nat.reduceEqDiff, reduceCtorEq, decide_true, decide_false, zfc, zfa, and_self, zfd, eq_self]
  · rintro _ _
    simp only [qbk, Int.lt_irrefl, List.take_length, Ev.exec, qb, qe, qc, qai, Ev.Opnd.ev, Ev.Env.get, Ev.Env.set, Ev.look, ql, List.take_length, ↓qn, Ev.it1, ↓reduceIte, Nat.reduceEqDiff, reduceCtorEq, decide_false, zfa, eq_self]
    exact ⟨_, rfl, rfl, rfl, rfl, rfl, rfl⟩
def CInv (xs : List (List Evt)) (i : Nat) (a : AV × qr) : Prop :=
  (i = 0 ∧ xs.flatten.length = 0 ∧ a = (.fsl [] true, [])) ∨
  ∃ (g : Nat) (W : List Evt), a = (.sl 0 g 0 (xs.take i).flatten.length false, [.row 6 (W.map Evt.r) g]) ∧ (W = (xs.take i).flatten ∨ (xs.take i).flatten = [] ∧ 0 < xs.flatten.length)
theorem q7i (hx : xs.length ≤ 1000000) (hT : xs.flatten.length ≤ 1000000) (a : AV × qr) (ha : CInv xs 0 a) (n : Nat) :
    ∃ y, itB (exec (evL T) itL none qau) (qs [6, 25, 26, 27] false n) ⟨[(6, a.1), (25, (.fsl ((xs).map qcp) cl)), (26, (ii xs.length)), (27, (ii 0))], []⟩ a.2 = some y ∧
      ∃ b, CInv xs xs.length b ∧ y.1 = .exit 2 ∧ y.2.1.marks = [] ∧ y.2.2 = b.2 ∧ Ev.look y.2.1.vars 6 = some b.1 := by
  have key := qf2 (f := exec (evL T) itL none qau) (s := qs [6, 25, 26, 27] false n) (α := AV × qr)
    (fun i a => ⟨[(6, a.1), (25, (.fsl ((xs).map qcp) cl)), (26, (ii xs.length)), (27, (ii i))], []⟩) (fun _ a => a.2)
    (fun i a => CInv xs i a) xs.length (fun y => ∃ b, CInv xs xs.length b ∧ y.1 = .exit 2 ∧ y.2.1.marks = [] ∧ y.2.2 = b.2 ∧ Ev.look y.2.1.vars 6 = some b.1) ?_ ?_ 0 a (Nat.zero_le _) ha
  · exact key
  · rintro i a hi ha
    obtain ⟨x, hx'⟩ : ∃ x, xs[i]? = some x := ⟨_, List.getElem?_eq_getElem hi⟩
    have hi' : (i : Int) < (xs.length : Int) := by omega
    have hw : IntKind.i64.wrap ((i : Int) + 1) = ((i + 1 : Nat) : Int) := by rw [qas (by omega) (by omega)]; simp
    have h1 := q7c xs (i + 1)
    have hfl := qwm hx'
    rw [hfl, List.length_append] at h1
    have ok := qe1 x
    rcases ha with ⟨hi0, h0, rfl⟩ | ⟨g, W, rfl, hW⟩
    · have hfi : (xs.take i).flatten = [] := by rw [hi0]; rfl
      have hx0 : x = [] := List.eq_nil_of_length_eq_zero (by omega)
      subst hx0
      refine .inl ⟨(.sl 0 0 0 0 false, [.row 6 [] 0]), ?_, .inr ⟨0, [], ?_, .inl ?_⟩⟩
      · simp only [qau, Int.natCast_nonneg, Int.toNat_natCast, List.getElem?_map, Option.map_some, hx', hi', hw, qcp, List.map_nil, Nat.zero_mul, Nat.zero_le, Ev.exec, qb, qe, qc, qai, qm4, Ev.Opnd.ev, Ev.Env.get, Ev.Env.set, Ev.look, qf, qbq, qv, qao, ql, qs, Ev.keep, qbc, ↓qn, Ev.it1, ↓reduceIte, List.length_cons, List.length_nil, List.nil_append, List.append_nil, List.head?_cons, Nat.reduceEqDiff, Nat.reduceLT, Nat.reducePow, decide_true, zfa, and_self, ne_eq, not_true_eq_false, zfd, Nat.add_zero, eq_self, and_false]
      · rw [hfl, hfi]; simp
      · rw [hfl, hfi]; simp
    · by_cases hx0 : x = []
      · subst hx0
        rw [List.append_nil] at hfl
        refine .inl ⟨(.sl 0 g 0 (xs.take i).flatten.length false, [.row 6 (W.map Evt.r) g]), ?_, .inr ⟨g, W, by rw [hfl], by rw [hfl]; exact hW⟩⟩
        have hWl : (xs.take i).flatten.length ≤ W.length := by
          rcases hW with rfl | ⟨h, _⟩
          · exact Nat.le_refl _
          · rw [h]; exact Nat.zero_le _
        have b : (xs.take i).flatten.length * 64 ≤ 140737488355328 := by have := h1; simp at this; omega
        simp only [qau, Int.natCast_nonneg, Int.toNat_natCast, List.getElem?_map, Option.map_some, hx', hi', hw, qcp, List.map_nil, hWl, b, Ev.exec, qb, qe, qc, qai, qm4, Ev.Opnd.ev, Ev.Env.get, Ev.Env.set, Ev.look, qf, qbq, qv, qao, ql, qs, Ev.keep, qbc, List.length_map, ↓qn, Ev.it1, ↓reduceIte, List.length_cons, List.length_nil, List.getElem?_cons_zero, List.head?_cons, Nat.reduceEqDiff, Nat.reducePow, decide_true, zfa, and_self, zfd, Nat.add_zero, eq_self]
      · have hWl : (xs.take i).flatten.length ≤ W.length ∧ W.take (xs.take i).flatten.length = (xs.take i).flatten := by
          rcases hW with rfl | ⟨h, _⟩
          · exact ⟨Nat.le_refl _, List.take_length⟩
          · rw [h]; exact ⟨Nat.zero_le _, rfl⟩
        obtain ⟨w1, w2⟩ := hWl
        have hm : x.map Evt.r ≠ [] := by simpa using hx0
        have w3 : (W.map Evt.r).take (xs.take i).flatten.length = ((xs.take i).flatten).map Evt.r := by rw [← List.map_take, w2]
        have b : ((xs.take i).flatten.length + x.length) * 64 ≤ 140737488355328 := by omega
        refine .inl ⟨(.sl 0 (g + 1) 0 ((xs.take i).flatten.length + x.length) false, [.row 6 (((xs.take i).flatten ++ x).map Evt.r) (g + 1)]), ?_, .inr ⟨g + 1, _, by rw [hfl, List.length_append], .inl hfl.symm⟩⟩
        rw [List.map_append]
        generalize (xs.take i).flatten = F at *
        simp only [qau, Int.natCast_nonneg, Int.toNat_natCast, List.getElem?_map, Option.map_some, hx', hi', hw, qcp, ok, hm, w1, w3, b, Ev.exec, qb, qe, qc, qai, qm4, Ev.Opnd.ev, Ev.Env.get, Ev.Env.set, Ev.look, qf, qbq, qv, qao, ql, qs, Ev.keep, List.length_map, ↓qn, Ev.it1, ↓reduceIte, List.length_cons, List.length_nil, List.getElem?_cons_zero, List.set_cons_zero, List.head?_cons, Nat.reduceEqDiff, Nat.reducePow, decide_true, zfa, and_self, zfd, eq_self]
  · rintro a ha
    simp only [qau, Int.lt_irrefl, Ev.exec, qb, qe, qc, qai, Ev.Opnd.ev, Ev.Env.get, Ev.Env.set, Ev.look, ql, ↓qn, Ev.it1, ↓reduceIte, Nat.reduceEqDiff, decide_false, zfa, eq_self]
    exact ⟨_, rfl, a, ha, rfl, rfl, rfl, rfl⟩
theorem q7v (hx : xs.length ≤ 1000000) (hT : xs.flatten.length ≤ 1000000) (hne : xs ≠ []) :
    ∃ g : Nat, (evL T).call qaq [(.fsl ((xs).map qcp) cl)] [] = some (.sl 0 g 0 xs.flatten.length false, [.row 6 (xs.flatten.map Evt.r) g]) := by
  obtain ⟨⟨y, e, σ⟩, k1, k2, k3, k4, k5, k6⟩ := q7h xs cl hx hT
  simp only at k1 k2 k3 k4 k5 k6
  subst k2; subst k4
  have hg := grow_ev xs.flatten.length hT
  obtain ⟨a, n, ha, hc, hn⟩ : ∃ (a : AV × qr) (n : Nat), CInv xs 0 a ∧ (evL T).call qav [.fsl [] true, (ii xs.flatten.length)] [] = some a ∧ a.2.length = n := by
    by_cases h0 : xs.flatten.length = 0
    · exact ⟨_, _, .inl ⟨rfl, h0, rfl⟩, by rw [hg, if_pos h0], rfl⟩
    · exact ⟨(.sl 0 0 0 0 false, [.row 6 ((List.replicate xs.flatten.length zEvt).map Evt.r) 0]), _, .inr ⟨0, _, rfl, .inr ⟨rfl, by omega⟩⟩, by rw [hg, if_neg h0], rfl⟩
  obtain ⟨⟨y', e', σ'⟩, l1, b, hb, l2, l3, l4, l5⟩ := q7i xs cl hx hT a ha n
  simp only at l1 l2 l3 l4 l5
  subst l2; subst l4
  have hb' : ∃ g : Nat, b = (.sl 0 g 0 xs.flatten.length false, [.row 6 (xs.flatten.map Evt.r) g]) := by
    rcases hb with ⟨h, _⟩ | ⟨g, W, rfl, hW⟩
    · exact absurd (List.eq_nil_of_length_eq_zero h) hne
    · rw [List.take_length] at hW ⊢
      rcases hW with rfl | ⟨h, h2⟩
      · exact ⟨g, rfl⟩
      · rw [h] at h2; simp at h2
  obtain ⟨g, rfl⟩ := hb'
  refine ⟨g, ?_⟩
  have himp : qgn (q1h 0) a.2 = some a.2 ∧ a.1.shift 0 = a.1 := by
    rcases ha with ⟨_, _, rfl⟩ | ⟨g, W, rfl, _⟩
    · exact ⟨rfl, rfl⟩
    · refine ⟨?_, rfl⟩
      simp only [q1h, qel, qgx, qhb, qaa, q1h, qgx, qel, qhb, ↓qn, eq_self]
  obtain ⟨i1, i2⟩ := himp
  rw [qad qhn qhi]
  simp only [qcc, k1, k3, k5, k6, hc, hn, i1, i2, l1, l3, l5, qjr, qj, Ev.exec, qb, qe, qc, qrm, qai, Ev.evs, Ev.Opnd.ev, Ev.Env.get, Ev.Env.set, Ev.look, qk, qi, qq, qaj, Ev.kill, qag, qs, Ev.keep, qal, qaf, qg, qbb, qm, qds, qh, qd, qu, List.length_map, ↓qn, ↓qa3, ↓reduceIte, List.length_cons, List.length_nil, List.take_zero, zfe, List.nil_append, Nat.reduceEqDiff, Nat.reduceLT, reduceCtorEq, decide_false, zfc, zfa, and_self, and_true, zfd, eq_self]
end
set_option maxRecDepth 10000
section
variable (l : List Evt) (c : Bool) (k : List Int) (d : Bool)
theorem q4y (x : Evt) (kx : x.key.length ≤ 9223372036854775807) (kk : k.length ≤ 9223372036854775807) : (evL T).call qcv [(.agg [(ii x.time), (.fsl ((x.key).map qby) false), (ii x.lp), (ii x.kind), (ii x.proc), (ii x.arg)]), (.fptr [(.fsl ((k).map qby) d)])] [] = some ((bb (decide (x.key = k))), []) := by
  have h := qp3 x.key k false d kx kk
  obtain ⟨xt, xk, xl, xi, xp, xa⟩ := x
  simp only at h
  rw [qad qre qqh]
  simp only [qiy, h, qw, qj, Ev.exec, qb, qe, qc, qaw, qai, Ev.evs, Ev.Opnd.ev, Ev.Env.get, Ev.Env.set, Ev.look, qk, qf, qv, Ev.AV.cells, qo, Ev.AV.plain, qi, qq, qaj, Ev.kill, qag, qg, qbb, qm, qh, qd, ↓qn, ↓reduceIte, List.length_cons, List.length_nil, zfe, List.drop_succ_cons, List.drop_zero, List.head?_cons, Nat.reduceAdd, Nat.reduceEqDiff, reduceCtorEq, zfc, zfa, and_self, ne_eq, zfb, zff, zfd, eq_self]
theorem canIdx_L (hl : l.length ≤ 1000000) (hk : qic l) (kk : k.length ≤ 9223372036854775807) :
    ∃ y, itB (exec (evL T) itL none qaz) (qs [0, 1, 7, 8] true 0) ⟨[(0, (.fsl ((l).map Evt.r) c)), (1, (.fn (.func qcv) [] [(.fptr [(.fsl ((k).map qby) d)])])), (7, (ii l.length)), (8, (ii 0))], []⟩ [] = some y ∧
      ((y.1 = .exit 0 ∧ y.2.1.marks = [] ∧ y.2.2 = [] ∧ qgy l k = (l, false)) ∨
       ∃ (i : Nat) (x : Evt), y.1 = .ret ∧ y.2.1.marks = [] ∧ y.2.2 = [] ∧ Ev.look y.2.1.vars 4 = some (ii i) ∧ l[i]? = some x ∧ qgy l k = (l.take i ++ l.drop (i + 1), true)) := by
  have key := qf2 (f := exec (evL T) itL none qaz) (s := qs [0, 1, 7, 8] true 0) (α := Unit)
    (fun i a => ⟨[(0, (.fsl ((l).map Evt.r) c)), (1, (.fn (.func qcv) [] [(.fptr [(.fsl ((k).map qby) d)])])), (7, (ii l.length)), (8, (ii i))], []⟩) (fun i a => [])
    (fun i a => ∀ (j : Nat) (z : Evt), j < i → l[j]? = some z → ¬ z.key = k) l.length
    (fun y => ((y.1 = .exit 0 ∧ y.2.1.marks = [] ∧ y.2.2 = [] ∧ qgy l k = (l, false)) ∨
       ∃ (i : Nat) (x : Evt), y.1 = .ret ∧ y.2.1.marks = [] ∧ y.2.2 = [] ∧ Ev.look y.2.1.vars 4 = some (ii i) ∧ l[i]? = some x ∧ qgy l k = (l.take i ++ l.drop (i + 1), true))) ?_ ?_ 0 () (Nat.zero_le _) (fun j z h => by omega)
  · exact key
  · rintro i _ hi hinv
    obtain ⟨x, hx⟩ : ∃ x, l[i]? = some x := ⟨_, List.getElem?_eq_getElem hi⟩
    have hi' : (i : Int) < (l.length : Int) := by omega
    have hw : IntKind.i64.wrap ((i : Int) + 1) = ((i + 1 : Nat) : Int) := q0w (by omega)
    have hc := q4y k d x (hk x (List.mem_of_getElem? hx)) kk
    by_cases hxk : x.key = k
    · have hE := q7n l k hx hxk hinv
      rw [decide_eq_true hxk] at hc
      refine .inr ?_
      generalize qgy l k = R at *
      have hx' := hx
      clear hinv hxk
      obtain ⟨xt, xk, xl, xi, xp, xa⟩ := x
      simp only at hc
      simp only [qaz, Int.natCast_nonneg, Int.toNat_natCast, List.getElem?_map, Option.map_some, hx, hi', hc, Evt.r, Ev.exec, qb, qe, qc, qs8, qai, Ev.evs, Ev.Opnd.ev, Ev.Env.get, Ev.Env.set, Ev.look, qf, qv, ql, ↓qn, Ev.it1, ↓reduceIte, List.length_cons, List.length_nil, List.take_succ_cons, zfe, List.cons_append, List.nil_append, Nat.reduceAdd, Nat.reduceEqDiff, reduceCtorEq, decide_true, zfd, Nat.le_refl, eq_self]
      exact ⟨_, rfl, .inr ⟨i, _, rfl, rfl, rfl, rfl, hx', hE⟩⟩
    · refine .inl ⟨(), ?_, fun j z hj hz => ?_⟩
      · rw [decide_eq_false hxk] at hc
        clear hinv
        obtain ⟨xt, xk, xl, xi, xp, xa⟩ := x
        simp only at hc
        simp only [qaz, Int.natCast_nonneg, Int.toNat_natCast, List.getElem?_map, Option.map_some, hx, hi', hw, hc, Evt.r, qaa, qw, Ev.exec, qb, qe, qc, qs8, qai, Ev.evs, Ev.Opnd.ev, Ev.Env.get, Ev.Env.set, Ev.look, qf, qv, qao, ql, qs, Ev.keep, qal, qaf, qg, qbb, qm, qbm, qy1, qh, qd, ↓qn, Ev.it1, ↓reduceIte, List.length_cons, List.length_nil, List.take_succ_cons, zfe, List.cons_append, List.nil_append, Nat.reduceAdd, Nat.reduceEqDiff, reduceCtorEq, decide_true, zfc, zfa, and_self, zfd, Nat.le_refl, eq_self]
      · rcases Nat.lt_or_ge j i with h1 | h1
        · exact hinv j z h1 hz
        · have : j = i := by omega
          subst this
          rw [hx] at hz; cases hz; exact hxk
  · rintro _ hinv
    have hE := q22 l k fun x hx => by
      obtain ⟨j, hj⟩ := List.mem_iff_getElem?.1 hx
      exact hinv j x (List.getElem?_eq_some_iff.1 hj).1 hj
    generalize qgy l k = R at *
    simp only [qaz, Int.lt_irrefl, Ev.exec, qb, qe, qc, qai, Ev.Opnd.ev, Ev.Env.get, Ev.Env.set, Ev.look, ql, ↓qn, Ev.it1, ↓reduceIte, Nat.reduceEqDiff, reduceCtorEq, decide_false, zfa, eq_self]
    exact ⟨_, rfl, .inl ⟨rfl, rfl, rfl, hE⟩⟩
theorem q6y (hl : l.length ≤ 1000000) (hk : qic l) (kk : k.length ≤ 9223372036854775807) :
    ∃ z : Int, (evL T).call qat [(.fsl ((l).map Evt.r) c), (.fn (.func qcv) [] [(.fptr [(.fsl ((k).map qby) d)])])] [] = some ((ii z), []) ∧ ((z = -1 ∧ qgy l k = (l, false)) ∨ ∃ (i : Nat) (x : Evt), z = i ∧ l[i]? = some x ∧ qgy l k = (l.take i ++ l.drop (i + 1), true)) := by
  obtain ⟨⟨y, e, σ⟩, h1, h⟩ := canIdx_L l c k d hl hk kk
  rw [qad qgz qgo]
  rcases h with ⟨h2, h3, h4, h5⟩ | ⟨i, x, h2, h3, h4, h5, h6, h7⟩ <;> simp only at h2 h3 h4 <;> subst h2 <;> subst h4
  · refine ⟨-1, ?_, .inl ⟨rfl, h5⟩⟩
    simp only [qbo, h1, h3, qaa, qw, qj, Ev.exec, qb, qe, qc, qai, Ev.Opnd.ev, Ev.Env.get, Ev.Env.set, Ev.look, qk, qi, qq, qaj, Ev.kill, qag, qs, Ev.keep, qal, qaf, qg, qbb, qm, qbm, qy1, qh, qd, List.length_map, ↓qn, ↓qa3, ↓reduceIte, List.length_cons, List.length_nil, zfe, Nat.reduceAdd, Nat.reduceEqDiff, Int.reduceNeg, reduceCtorEq, zfc, and_self, zfd, eq_self]
  · refine ⟨i, ?_, .inr ⟨i, x, rfl, h6, h7⟩⟩
    simp only at h5
    simp only [qbo, h1, h3, h5, qaa, qw, qj, Ev.exec, qb, qe, qc, qai, Ev.Opnd.ev, Ev.Env.get, Ev.Env.set, Ev.look, qk, qi, qq, qaj, Ev.kill, qag, qs, Ev.keep, qal, qaf, qg, qbb, qm, qbm, qy1, qh, qd, List.length_map, ↓qn, ↓qa3, ↓reduceIte, List.length_cons, List.length_nil, zfe, Nat.reduceAdd, Nat.reduceEqDiff, Int.reduceNeg, reduceCtorEq, zfc, and_self, zfd, eq_self]
theorem qug (hl : l.length ≤ 1000000) (hk : qic l) (kk : k.length ≤ 9223372036854775807) (hc0 : l ≠ [] → c = false) :
    ∃ cf : Bool, ((qgy l k).1 ≠ [] → cf = false) ∧ qa4 (evL T) qfj [(.fsl ((l).map Evt.r) c), (.fsl ((k).map qby) d)] = some (.tup [(.fsl (((qgy l k).1).map Evt.r) cf), (bb ((qgy l k).2))]) := by
  obtain ⟨z, h1, h⟩ := q6y l c k false hl hk kk
  rcases h with ⟨rfl, h2⟩ | ⟨i, x, rfl, hx, h2⟩
  · rw [h2]
    refine ⟨c, hc0, ?_⟩
    rw [qa4, qad qm8 qmp]
    simp only [qij, h1, qaa, qj, Ev.exec, qb, qe, qc, qjw, qai, Ev.evs, Ev.Opnd.ev, Ev.Env.get, Ev.Env.set, Ev.look, qk, Ev.AV.cells, Ev.AV.uc, qo, Ev.AV.plain, ql, qi, qq, qaj, Ev.kill, qag, qg, qbb, qb1, qm, qh, qd, qx, ↓qn, ↓reduceIte, List.length_cons, List.length_nil, zfe, Nat.reduceAdd, Nat.reduceEqDiff, Int.reduceLT, Int.reduceNeg, reduceCtorEq, decide_true, zfc, and_self, ne_eq, zfb, zff, zfd, eq_self]
  · rw [h2]
    obtain ⟨hi, _⟩ := List.getElem?_eq_some_iff.1 hx
    obtain rfl : c = false := hc0 (by intro h; subst h; simp at hi)
    refine ⟨false, fun _ => rfl, ?_⟩
    have c0 : ¬ (i : Int) < 0 := by omega
    have c1 : (i : Int) ≤ (l.length : Int) := by omega
    have c2 : (0 : Int) ≤ (i : Int) := by omega
    have c3 : ((i + 1 : Nat) : Int) ≤ (l.length : Int) := by omega
    have c4 : (0 : Int) ≤ ((i + 1 : Nat) : Int) := by omega
    have hw : IntKind.i64.wrap ((i : Int) + 1) = ((i + 1 : Nat) : Int) := q0w (by omega)
    obtain ⟨g, hcc⟩ := q7v [l.take i, l.drop (i + 1)] true (by simp) (by simp; omega) (by simp)
    simp only [List.flatten_cons, List.flatten_nil, List.append_nil, List.map_cons, List.map_nil, qcp] at hcc
    have tk : List.take i (l.map Evt.r) = (l.take i).map Evt.r := by rw [List.map_take]
    have dr : List.drop (i + 1) (l.map Evt.r) = (l.drop (i + 1)).map Evt.r := by rw [List.map_drop]
    have tb : List.take (l.length - (i + 1)) ((l.drop (i + 1)).map Evt.r) = (l.drop (i + 1)).map Evt.r := List.take_of_length_le (by simp)
    have okl := qe1 l
    have htk : ∀ R : List Evt, (R.map Evt.r).take R.length = R.map Evt.r := fun R => List.take_of_length_le (by simp)
    have htk2 : List.take ((l.take i).length + (l.drop (i + 1)).length) ((l.take i ++ l.drop (i + 1)).map Evt.r) = (l.take i ++ l.drop (i + 1)).map Evt.r := List.take_of_length_le (by rw [List.length_map, List.length_append]; exact Nat.le_refl _)
    rw [qa4, qad qm8 qmp]
    simp only [qij, Int.toNat_natCast, h1, htk2, c0, c1, c2, c3, c4, hw, hcc, tk, dr, tb, okl, Int.le_refl, Nat.sub_zero, List.drop_zero, imp_self, show ∀ v : List AV, List.replicate 2 v = [v, v] from fun _ => rfl, Int.toNat_zero, qaa, qj, Ev.exec, qb, qe, qc, qrm, qjw, q1h, Ev.AV.shift, qai, Ev.evs, Ev.Opnd.ev, Ev.Env.get, Ev.Env.set, Ev.look, qk, qf9, qfm, Ev.AV.cells, Ev.AV.uc, qo, Ev.AV.plain, qao, ql, qi, qq, qaj, Ev.kill, qag, qg, qbb, qb1, qm, qds, qh, qd, qu, qak, qx, quc, qhg, qe3, qgx, qel, qhb, List.length_map, ↓qn, ↓reduceIte, List.length_cons, List.length_nil, List.length_append, List.getElem?_cons_zero, List.take_zero, List.drop_zero, List.nil_append, List.set_cons_zero, List.set_cons_succ, Nat.reduceAdd, Nat.reduceEqDiff, Nat.reduceMul, Nat.reduceLT, Nat.reduceLeDiff, Nat.reducePow, reduceCtorEq, decide_true, decide_false, zfc, Bool.and_true, zfa, and_self, and_true, ne_eq, zfb, zff, zfd, Nat.add_zero, Nat.lt_add_one, Nat.le_refl, Option.isSome_some, Option.isSome_none, eq_self, implies_true, Bool.false_and]
end
set_option maxRecDepth 10000
section
variable {c : Cfg} {s : Sim} {h : List Evt}
theorem qq2 (h : List Evt) (e : Evt) (i : Nat) : qf8 (h ++ [e]) i = if e.lp = i then qf8 h i ++ [e] else qf8 h i := by
  unfold qf8
  rw [List.filter_append, List.filter_cons, List.filter_nil]
  by_cases k : e.lp = i
  · rw [if_pos k, if_pos (by simpa using k)]
  · rw [if_neg k, if_neg (by simpa using k), List.append_nil]
theorem badP_iff {c : Cfg} {q : Pr} (h : badP c q = false) : 0 ≤ q.prog ∧ q.prog < c.progs.length ∧ 0 ≤ q.pc ∧ q.pc ≤ ((c.progs[q.prog.toNat]?).getD []).length := by
  simp only [badP, Bool.not_eq_false', Bool.and_eq_true, decide_eq_true_eq] at h
  omega
theorem SInvK.stepP (H : SInvK c s h) {e : Evt} {rest P T : List Evt} (ov : Bool) (hp : s.pend.Perm (e :: rest)) (hn : h.length ≤ 20000) (hP : (P ++ T).Perm (rest ++ (qbf c (q2u s e.lp) e).out)) :
    SInvK c ⟨s.trace.set e.lp.toNat (qsm s e.lp ++ [e]), s.lps.set e.lp.toNat (qbf c (q2u s e.lp) e).lp, P, s.n + 1, ov⟩ (h ++ [e]) := by
  have hme : e ∈ s.pend := hp.mem_iff.2 (by simp)
  obtain ⟨x, hx, hlx, R⟩ := H.headM hme hn
  have hkn := H.keyNeP hp hn
  have ge := H.ev e (List.mem_append_right _ hme)
  have hxl := H.lp x (List.mem_of_getElem? hx)
  obtain ⟨X, oX, o1, o2⟩ := R.outs
  obtain ⟨z1, _, z3, _, _, _⟩ := R.sizes
  obtain ⟨t1, t2⟩ := R.tims (B := 2 + (h.length + 1)) (by have := ge.key; omega) (fun q hq => by have := (hxl.2 q hq).2.2.2.2; omega)
  obtain ⟨st1, st2⟩ := R.state
  rw [hlx] at hkn hP
  have hmem : ∀ b, b ∈ P → b ∈ rest ∨ b ∈ (qbf c x e).out := fun b hb => List.mem_append.1 (hP.mem_iff.1 (List.mem_append_left _ hb))
  have hlpn : e.lp.toNat < c.lps.length := by have := ge.lp; omega
  have hout : ∀ b ∈ (qbf c x e).out, ∃ k, EvOk c e X k b := fun b hb => by
    obtain ⟨k, hk⟩ := List.mem_iff_getElem?.1 hb
    exact ⟨k, o1 k b hk⟩
  have rpe : ∀ b ∈ rest, b ∈ s.pend := fun b hb => hp.mem_iff.2 (List.mem_cons_of_mem _ hb)
  have rev : ∀ b ∈ rest, b ∈ h ++ s.pend := fun b hb => List.mem_append_right _ (rpe b hb)
  have evOut : ∀ b ∈ (qbf c x e).out, EvG c (h.length + 1) b := fun b hb => by
    obtain ⟨k, a1, ⟨m, hm, _⟩, a3, a4⟩ := hout b hb
    obtain ⟨u1, u2⟩ := t1 b hb
    have hkl : b.key.length = e.key.length + 1 := by rw [hm]; simp
    by_cases k3 : b.kind = 3
    · obtain ⟨c1, c2, _⟩ := a3 k3
      exact ⟨⟨c1, c2⟩, by have := ge.time; omega, by have := ge.key; omega, by rw [u1 k3]; omega, fun k2 => by omega⟩
    · obtain ⟨c1, c2, c3, c4⟩ := a4 k3
      rw [oX] at c3
      refine ⟨by rw [c1]; exact ge.lp, by have := ge.time; omega, by have := ge.key; omega, by omega, fun k2 => ?_⟩
      obtain ⟨q, p, _, hpp, _, d1, d2⟩ := u2 k2
      have := (H.valid.prog p (List.mem_of_getElem? hpp)).2.1
      omega
  have newProg : ∀ (j : Nat) (q : Pr), x.procs[j]? = some q → ∃ q', (qbf c x e).lp.procs[j]? = some q' ∧ q'.prog = q.prog := fun j q hq => by
    have hj := (List.getElem?_eq_some_iff.1 hq).1
    obtain ⟨q', hq'⟩ : ∃ q', (qbf c x e).lp.procs[j]? = some q' := ⟨_, List.getElem?_eq_getElem (by omega)⟩
    exact ⟨q', hq', ((st2 j q' hq').2.2 q hq).1⟩
  have setSelf : (s.lps.set e.lp.toNat (qbf c x e).lp)[e.lp.toNat]? = some (qbf c x e).lp := List.getElem?_set_self (by rw [H.lpl]; exact hlpn)
  rw [hlx]
  refine ⟨H.valid, by show s.n + 1 = _; rw [H.n]; simp, by show (s.trace.set _ _).length = _; rw [List.length_set]; exact H.trl, ?_, by show (s.lps.set _ _).length = _; rw [List.length_set]; exact H.lpl, ?_, ?_, ?_, ?_, ?_, ?_, ?_, ?_⟩
  · intro i hi
    show (s.trace.set e.lp.toNat (qsm s e.lp ++ [e]))[i]? = _
    rw [qq2]
    by_cases k : e.lp = i
    · have : e.lp.toNat = i := by omega
      rw [if_pos k, this, List.getElem?_set_self (by rw [H.trl]; exact hi)]
      unfold qsm
      rw [this, H.tr i hi]; rfl
    · rw [if_neg k, List.getElem?_set_ne (by have := ge.lp; omega)]; exact H.tr i hi
  · intro y hy
    rw [List.length_append]
    rcases List.mem_or_eq_of_mem_set hy with hy | rfl
    · have := H.lp y hy
      exact ⟨this.1, fun q hq => by obtain ⟨a, b, d, f, g⟩ := this.2 q hq; exact ⟨a, b, d, f, by omega⟩⟩
    · refine ⟨z1, fun q hq => ?_⟩
      obtain ⟨j, hj⟩ := List.mem_iff_getElem?.1 hq
      obtain ⟨a, b, d, f⟩ := badP_iff (st2 j q hj).1
      exact ⟨a, b, d, f, t2 q hq⟩
  · show ql6 ((h ++ [e]) ++ P)
    have := ql6.perm hkn (hP.append_left (h ++ [e]))
    exact List.Pairwise.sublist ((List.sublist_append_left P T).append_left _) this
  · intro b hb
    rw [List.length_append]
    rcases List.mem_append.1 hb with hb | hb
    · refine (H.ev b ?_).mono (by simp)
      rcases List.mem_append.1 hb with hb | hb
      · exact List.mem_append_left _ hb
      · rw [List.mem_singleton] at hb; subst hb; exact List.mem_append_right _ hme
    · rcases hmem b hb with hb | hb
      · exact (H.ev b (rev b hb)).mono (by simp)
      · exact evOut b hb
  · intro b hb hk
    show ∃ x' q p, (s.lps.set e.lp.toNat (qbf c x e).lp)[b.lp.toNat]? = some x' ∧ _
    rcases hmem b hb with hb | hb
    · obtain ⟨x', q, p, h1, h2, h3, h4⟩ := H.tim b (rpe b hb) hk
      by_cases k : e.lp.toNat = b.lp.toNat
      · rw [← k] at h1; rw [hx] at h1; cases h1
        obtain ⟨q', g1, g2⟩ := newProg _ q h2
        exact ⟨_, q', p, by rw [← k]; exact setSelf, g1, by rw [g2]; exact h3, h4⟩
      · exact ⟨x', q, p, by rw [List.getElem?_set_ne k]; exact h1, h2, h3, h4⟩
    · obtain ⟨k, _, _, _, a4⟩ := hout b hb
      obtain ⟨c1, _⟩ := a4 (by omega)
      obtain ⟨q, p, g1, g2, g3, g4⟩ := (t1 b hb).2 hk
      obtain ⟨q', g5, g6⟩ := newProg _ q g1
      exact ⟨_, q', p, by rw [c1]; exact setSelf, by rw [g3]; exact g5, by rw [g6]; exact g2, g4⟩
  · intro b hb
    have old : b ∈ h ++ s.pend → b.key.length = 2 ∨ ∃ p ∈ h ++ [e], ∃ m, b.key = p.key ++ [m] ∧ p.time < b.time := fun hb => by
      rcases H.par b hb with g | ⟨p, g1, g2⟩
      · exact .inl g
      · exact .inr ⟨p, List.mem_append_left _ g1, g2⟩
    rcases List.mem_append.1 hb with hb | hb
    · refine old ?_
      rcases List.mem_append.1 hb with hb | hb
      · exact List.mem_append_left _ hb
      · rw [List.mem_singleton] at hb; subst hb; exact List.mem_append_right _ hme
    · rcases hmem b hb with hb | hb
      · exact old (rev b hb)
      · obtain ⟨k, a1, ⟨m, hm, _⟩, _⟩ := hout b hb
        exact .inr ⟨e, by simp, m, hm, a1.1⟩
  · show P.length ≤ _
    have h1 := hP.length_eq
    have h2 := H.len
    rw [hp.length_eq] at h2
    simp only [List.length_append, List.length_cons, List.length_nil] at h1 h2 ⊢
    omega
  · intro i hi
    show (s.lps.set e.lp.toNat (qbf c x e).lp)[i]? = _
    rw [qq2]
    by_cases k : e.lp = i
    · have hki : e.lp.toNat = i := by omega
      have hr := H.rep i hi
      rw [← hki, hx, hki] at hr
      rw [if_pos k]
      unfold q8d at hr ⊢
      rw [List.foldl_append, List.foldl_cons, List.foldl_nil, ← Option.some.inj hr]
      have := setSelf; rw [hki] at this ⊢; exact this
    · rw [if_neg k, List.getElem?_set_ne (by have := ge.lp; omega)]; exact H.rep i hi
  · intro i hi k b hb
    rw [qq2] at hb ⊢
    by_cases hl : e.lp = i
    · rw [if_pos hl] at hb ⊢
      by_cases hk : k < (qf8 h i).length
      · rw [List.getElem?_append_left hk] at hb
        rw [List.take_append_of_le_length (by omega)]
        exact H.rdy i hi k b hb
      · have hk2 := (List.getElem?_eq_some_iff.1 hb).1
        simp at hk2
        obtain rfl : k = (qf8 h i).length := by omega
        simp at hb
        subst hb
        rw [List.take_append_of_le_length (Nat.le_refl _), List.take_length]
        have hr := H.rep i hi
        have hki : e.lp.toNat = i := by omega
        rw [← hki, hx, hki] at hr
        rw [← Option.some.inj hr]
        exact R
    · rw [if_neg hl] at hb ⊢
      exact H.rdy i hi k b hb
theorem SInv.step (H : SInv c s h) {e : Evt} {rest : List Evt} (hp : s.pend = e :: rest) (hn : h.length ≤ 20000) (hf : e.time < c.fin) : SInv c (s.step c e rest) (h ++ [e]) := by
  obtain ⟨x, hx, hlx, R⟩ := H.head hp hn
  obtain ⟨X, oX, o1, o2⟩ := R.outs
  have hP : ∃ T, (qga ((rest ++ (qbf c (q2u s e.lp) e).out).filter (qjs (qbf c (q2u s e.lp) e).gone)) ++ T).Perm (rest ++ (qbf c (q2u s e.lp) e).out) :=
    ⟨_, ((qfa _).append_right _).trans (List.filter_append_perm _ _)⟩
  obtain ⟨T, hT⟩ := hP
  refine ⟨H.toSInvK.stepP _ (by rw [hp]) hn hT, qgj _, ?_, ?_, ?_⟩
  · rw [List.pairwise_append]
    exact ⟨H.ord, List.pairwise_singleton _ _, fun a ha b hb => by rw [List.mem_singleton] at hb; subst hb; exact H.ord2 a ha b (by rw [hp]; simp)⟩
  · intro a ha b hb
    have hb' : b ∈ rest ∨ b ∈ (qbf c x e).out := by
      rw [← hlx]; exact List.mem_append.1 (hT.mem_iff.1 (List.mem_append_left _ hb))
    have lee : leE e b := by
      rcases hb' with hb | hb
      · have := H.sorted; rw [hp, List.pairwise_cons] at this; exact this.1 b hb
      · obtain ⟨k, hk⟩ := List.mem_iff_getElem?.1 hb; exact leE_time (o1 k b hk).1.1
    rcases List.mem_append.1 ha with ha | ha
    · exact qte a e b (H.ord2 a ha e (by rw [hp]; simp)) lee
    · rw [List.mem_singleton] at ha; subst ha; exact lee
  · intro a ha
    rcases List.mem_append.1 ha with ha | ha
    · exact H.fin a ha
    · rw [List.mem_singleton] at ha; subst ha; exact hf
end
set_option maxRecDepth 10000
theorem q3i (lps : List (List Start)) : ql6 (qjq lps) := by
  have ne : ∀ {k k' i i' : Nat} {s s' : Start}, (qiv k i s).key = (qiv k' i' s').key → k = k' ∧ i = i' := by
    intro k k' i i' s s' h
    simp only [qiv, List.cons.injEq, and_true] at h
    omega
  unfold ql6 qjq
  rw [List.pairwise_flatten]
  constructor
  · intro r hr
    obtain ⟨k, hk⟩ := List.mem_iff_getElem?.1 hr
    rw [List.getElem?_mapIdx] at hk
    cases hl : lps[k]? with
    | none => rw [hl] at hk; cases hk
    | some l =>
      rw [hl] at hk; cases hk
      rw [List.pairwise_iff_getElem]
      intro i j hi hj hij h
      simp only [qjy, List.getElem_mapIdx] at h
      have := (ne h).2; omega
  · rw [List.pairwise_iff_getElem]
    intro k k' hk hk' hkk x hx y hy h
    simp only [List.getElem_mapIdx] at hx hy
    obtain ⟨i, s, _, rfl⟩ := qod hx
    obtain ⟨i', s', _, rfl⟩ := qod hy
    have := (ne h).1; omega
section
variable {c : Cfg}
theorem q1z (c : Cfg) : (start c).lps = (q5w c.lps).map fun ps => (⟨0, 0, ps, 0⟩ : Lp) := by
  simp only [start, qkb, List.map_map]; rfl
theorem SInv.start (hv : Valid c) : SInv c (start c) [] := by
  have hm : ∀ e ∈ qga (qjq c.lps), e ∈ qjq c.lps := fun e he => (qfa _).mem_iff.1 he
  have hv1 := hv.lps
  refine ⟨⟨hv, rfl, by simp [K.start], fun i hi => ?_, by rw [q1z]; simp [q5w], ?_, ?_, ?_, ?_, ?_, ?_, ?_, fun i hi k e he => by simp [qf8] at he⟩, qgj _, .nil, fun a ha => by simp at ha, fun e he => by simp at he⟩
  · simp [K.start, qf8, hi]
  · intro x hx
    rw [q1z, List.mem_map] at hx
    obtain ⟨ps, hps, rfl⟩ := hx
    simp only [q5w, List.mem_map] at hps
    obtain ⟨l, hl, rfl⟩ := hps
    refine ⟨by have := hv.lp l hl; simp; omega, fun q hq => ?_⟩
    simp only [List.mem_map] at hq
    obtain ⟨st, hst, rfl⟩ := hq
    obtain ⟨a, b, _⟩ := hv.start l hl st hst
    exact ⟨a, b, by simp [stP], by simp [stP], by simp [stP]⟩
  · rw [List.nil_append]; exact ql6.perm (q3i _) (qfa _)
  · intro e he
    rw [List.nil_append] at he
    obtain ⟨k, l, i, s, h1, h2, rfl⟩ := qso (hm e he)
    have k1 := (List.getElem?_eq_some_iff.1 h1).1
    have k2 := (List.getElem?_eq_some_iff.1 h2).1
    have k3 := hv.lp l (List.mem_of_getElem? h1)
    obtain ⟨a, b, d, f⟩ := hv.start l (List.mem_of_getElem? h1) s (List.mem_of_getElem? h2)
    exact ⟨by simp only [qiv]; omega, ⟨d, f⟩, by simp [qiv], by simp only [qiv]; omega, fun hk => by simp [qiv] at hk⟩
  · intro e he hk
    obtain ⟨k, l, i, s, h1, h2, rfl⟩ := qso (hm e he)
    simp [qiv] at hk
  · intro e he
    rw [List.nil_append] at he
    obtain ⟨k, l, i, s, h1, h2, rfl⟩ := qso (hm e he)
    exact .inl (by simp [qiv])
  · show (qga _).length ≤ _
    rw [(qfa _).length_eq]
    have := q1p (lps := c.lps) (m := 8) (fun l hl => hv.lp l hl)
    simp only [List.length_nil]; omega
  · intro i hi
    show ((qkb c.lps).map Prod.fst)[i]? = _
    have : i < ((qkb c.lps).map Prod.fst).length := by simp [qkb, q5w]; exact hi
    rw [List.getElem?_eq_getElem this]; rfl
variable {s : Sim} {h : List Evt}
theorem qz1 (hr : s.ready c = true) : ∃ e rest, s.pend = e :: rest ∧ e.time < c.fin := by
  unfold Sim.ready at hr
  split at hr
  · cases hr
  next e rest hp => exact ⟨e, rest, hp, of_decide_eq_true hr⟩
theorem go_eq {e : Evt} {rest : List Evt} (hp : s.pend = e :: rest) : s.go c = s.step c e rest := by unfold Sim.go; rw [hp]
theorem SInv.run : ∀ (k : Nat) {s : Sim} {h : List Evt}, SInv c s h → h.length + k ≤ 20000 → ∃ h', SInv c (Sim.run c k s) (h ++ h') ∧ h'.length ≤ k ∧ (h'.length = k ∨ (Sim.run c k s).ready c = false)
  | 0, s, h, H, _ => ⟨[], by rw [List.append_nil]; exact H, Nat.le_refl _, .inl rfl⟩
  | k + 1, s, h, H, hk => by
    unfold Sim.run
    by_cases hr : s.ready c = true
    · rw [if_pos hr]
      obtain ⟨e, rest, hp, hf⟩ := qz1 hr
      rw [go_eq hp]
      obtain ⟨h', g1, g2, g3⟩ := SInv.run k (H.step hp (by omega) hf) (by simp; omega)
      refine ⟨e :: h', by simpa using g1, by simp; omega, ?_⟩
      rcases g3 with g3 | g3
      · exact .inl (by simp; omega)
      · exact .inr g3
    · rw [if_neg hr]
      exact ⟨[], by rw [List.append_nil]; exact H, Nat.zero_le _, .inr (by simpa using hr)⟩
end
set_option maxRecDepth 10000
structure WSt where
  lp : Lp
  box : List Evt
  done : List Evt
  sent : List Evt
  over : Bool
def qla (i : Int) (p : List Evt × List Evt) (n : Evt) : List Evt × List Evt := if n.lp = i then (qga (n :: p.1), p.2) else (p.1, p.2 ++ [n])
def qev (i : Int) (p : List Evt × List Evt) (l : List Evt) : List Evt × List Evt := l.foldl (qla i) p
def quy (b : List Evt) (g : List (List Int)) : List Evt := g.foldl (fun b k => (qgy b k).1) b
def WSt.step (c : Cfg) (w : WSt) (e : Evt) (rest : List Evt) : WSt :=
  ⟨(qbf c w.lp e).lp, quy (qev e.lp (rest, w.sent) (qbf c w.lp e).out).1 (qbf c w.lp e).gone, w.done ++ [e], (qev e.lp (rest, w.sent) (qbf c w.lp e).out).2, w.over || (qbf c w.lp e).over⟩
def WSt.run (c : Cfg) (hor : Int) : Nat → WSt → WSt
  | 0, w => w
  | k + 1, w => match w.box with
    | [] => w
    | e :: rest => if e.time < hor then WSt.run c hor k (w.step c e rest) else w
theorem q3k (l : List Evt) (k : List Int) : (qgy l k).1.Sublist l := List.eraseP_sublist
theorem q55 (b : List Evt) (k : List Int) (g : List (List Int)) : quy b (k :: g) = quy (qgy b k).1 g := rfl
theorem q51 (b : List Evt) (k : List Int) (g : List (List Int)) : quy b (g ++ [k]) = (qgy (quy b g) k).1 := by unfold quy; rw [List.foldl_append]; rfl
theorem qp1 : ∀ (g : List (List Int)) (b : List Evt), (quy b g).Sublist b
  | [], b => List.Sublist.refl _
  | k :: g, b => by rw [q55]; exact (qp1 g _).trans (q3k b k)
theorem qyf (i : Int) (p : List Evt × List Evt) (n : Evt) (l : List Evt) : qev i p (n :: l) = qev i (qla i p n) l := rfl
theorem q2t (i : Int) (p : List Evt × List Evt) (n : Evt) (l : List Evt) : qev i p (l ++ [n]) = qla i (qev i p l) n := by unfold qev; rw [List.foldl_append]; rfl
theorem qx6 (i : Int) (p : List Evt × List Evt) (n : Evt) (l : List Evt) : ((qla i p n).1 ++ ((qla i p n).2 ++ l)).Perm (p.1 ++ (p.2 ++ n :: l)) := by
  unfold qla
  split
  · refine ((qfa (n :: p.1)).append_right _).trans ?_
    have h := (List.perm_middle (a := n) (l₁ := p.1 ++ p.2) (l₂ := l)).symm
    rw [List.append_assoc, List.append_assoc] at h
    rw [List.cons_append]; exact h
  · show (p.1 ++ ((p.2 ++ [n]) ++ l)).Perm _
    rw [List.append_assoc]; exact .refl _
theorem qru (i : Int) : ∀ (l : List Evt) (p : List Evt × List Evt) (m : List Evt), ((qev i p l).1 ++ ((qev i p l).2 ++ m)).Perm (p.1 ++ (p.2 ++ (l ++ m)))
  | [], p, m => .refl _
  | n :: l, p, m => (qru i l (qla i p n) m).trans (qx6 i p n (l ++ m))
theorem qta (i : Int) : ∀ (l : List Evt) (p : List Evt × List Evt), p.1.Pairwise leE → (qev i p l).1.Pairwise leE
  | [], p, h => h
  | n :: l, p, h => qta i l _ (by unfold qla; split; exact qgj _; exact h)
theorem qzp (i : Int) : ∀ (l : List Evt) (p : List Evt × List Evt), (∀ b ∈ p.1, b.lp = i) → ∀ b ∈ (qev i p l).1, b.lp = i
  | [], p, h => h
  | n :: l, p, h => qzp i l _ (by
    unfold qla; split
    · intro b hb
      rcases List.mem_cons.1 ((qfa _).mem_iff.1 hb) with rfl | hb
      · assumption
      · exact h b hb
    · exact h)
structure PlOk (p : List Evt × List Evt) (l : List Evt) : Prop where
  sorted : p.1.Pairwise leE
  keys : ql6 (p.1 ++ (p.2 ++ l))
  len : (p.1 ++ (p.2 ++ l)).length ≤ 1000000
  ok : qic (p.1 ++ (p.2 ++ l))
theorem PlOk.next {p : List Evt × List Evt} {n : Evt} {l : List Evt} (i : Int) (h : PlOk p (n :: l)) : PlOk (qla i p n) l := by
  have hp := qx6 i p n l
  refine ⟨?_, ql6.perm h.keys hp, by rw [hp.length_eq]; exact h.len, fun x hx => h.ok x (hp.mem_iff.1 hx)⟩
  unfold qla; split
  · exact qgj _
  · exact h.sorted
theorem PlOk.at (i : Int) : ∀ {l : List Evt} {p : List Evt × List Evt} (h : PlOk p l) (j : Nat), PlOk (qev i p (l.take j)) (l.drop j)
  | [], p, h, j => by simpa [qev] using h
  | n :: l, p, h, 0 => h
  | n :: l, p, h, j + 1 => PlOk.at i (h.next i) j
theorem PlOk.ins {p : List Evt × List Evt} {n : Evt} {l : List Evt} (h : PlOk p (n :: l)) : p.1.length ≤ 1000000 ∧ qic p.1 ∧ n.key.length ≤ 9223372036854775807 ∧ p.1.Pairwise leE ∧ qvd (n :: p.1) := by
  refine ⟨by have := h.len; rw [List.length_append] at this; omega, fun x hx => h.ok x (by simp [hx]), h.ok n (by simp), h.sorted, ?_⟩
  have hs : (p.1 ++ [n]).Sublist (p.1 ++ (p.2 ++ n :: l)) := List.Sublist.append_left ((List.singleton_sublist.2 (by simp))) p.1
  exact (ql6.dist (List.Pairwise.sublist hs h.keys)).perm (List.perm_append_singleton n p.1).symm
structure WInv (c : Cfg) (i : Nat) (w : WSt) (O : List Evt) (S : Sim) (H : List Evt) : Prop where
  K : SInvK c S H
  il : i < c.lps.length
  lp : S.lps[i]? = some w.lp
  sub : ∃ T, (w.box ++ (w.sent ++ (O ++ T))).Perm S.pend
  sorted : w.box.Pairwise leE
  own : ∀ b ∈ w.box, b.lp = i
section
variable {c : Cfg} {i : Nat} {w : WSt} {O : List Evt} {S : Sim} {H : List Evt}
theorem WInv.mem (h : WInv c i w O S H) {e : Evt} (he : e ∈ w.box ∨ e ∈ w.sent ∨ e ∈ O) : e ∈ S.pend := by
  obtain ⟨T, hT⟩ := h.sub
  refine hT.mem_iff.1 ?_
  rcases he with he | he | he <;> simp [he]
theorem WInv.ready (h : WInv c i w O S H) (hn : H.length ≤ 20000) {e : Evt} {rest : List Evt} (hb : w.box = e :: rest) : e.lp = i ∧ Ready c w.lp e ∧ q2u S e.lp = w.lp := by
  have h1 := h.own e (by rw [hb]; simp)
  obtain ⟨x, hx, hl, R⟩ := h.K.headM (h.mem (e := e) (.inl (by rw [hb]; simp))) hn
  rw [h1, Int.toNat_natCast, h.lp] at hx
  cases hx
  exact ⟨h1, R, hl⟩
theorem WInv.len (h : WInv c i w O S H) : w.box.length + (w.sent.length + O.length) ≤ 64 + 16 * H.length := by
  obtain ⟨T, hT⟩ := h.sub
  have := hT.length_eq
  have := h.K.len
  simp only [List.length_append] at *
  omega
theorem WInv.keyLen (h : WInv c i w O S H) {e : Evt} (he : e ∈ w.box ∨ e ∈ w.sent ∨ e ∈ O) : e.key.length ≤ 2 + H.length := (h.K.ev e (List.mem_append_right _ (h.mem he))).key.2
theorem WInv.plOk (h : WInv c i w O S H) (hn : H.length ≤ 20000) {e : Evt} {rest : List Evt} (hb : w.box = e :: rest) : PlOk (rest, w.sent) (qbf c w.lp e).out := by
  obtain ⟨h1, R, hl⟩ := h.ready hn hb
  obtain ⟨T, hT⟩ := h.sub
  rw [hb] at hT
  have hk := h.K.keyNeP hT.symm hn
  rw [hl] at hk
  have hk2 := (List.pairwise_append.1 hk).2.1
  have hsub : (rest ++ (w.sent ++ (qbf c w.lp e).out)).Sublist (rest ++ (w.sent ++ (O ++ T)) ++ (qbf c w.lp e).out) := by
    rw [List.append_assoc]
    refine List.Sublist.append_left ?_ rest
    rw [List.append_assoc]
    exact List.Sublist.append_left (List.sublist_append_right _ _) _
  have hl1 := h.len
  have hz := R.sizes
  rw [hb] at hl1
  refine ⟨?_, List.Pairwise.sublist hsub hk2, ?_, ?_⟩
  · have := h.sorted; rw [hb, List.pairwise_cons] at this; exact this.2
  · simp only [List.length_append, List.length_cons] at hl1 ⊢; omega
  · intro x hx
    simp only [List.mem_append] at hx
    rcases hx with hx | hx | hx
    · have := h.keyLen (e := x) (.inl (by rw [hb]; simp [hx])); omega
    · have := h.keyLen (e := x) (.inr (.inl hx)); omega
    · have := hz.2.2.2.1 x hx; omega
theorem WInv.step (h : WInv c i w O S H) (hn : H.length ≤ 20000) {e : Evt} {rest : List Evt} (hb : w.box = e :: rest) :
    ∃ S' : Sim, WInv c i (w.step c e rest) O S' (H ++ [e]) ∧ S'.lps = S.lps.set i (w.step c e rest).lp := by
  obtain ⟨h1, R, hl⟩ := h.ready hn hb
  obtain ⟨T, hT⟩ := h.sub
  have hp : S.pend.Perm (e :: (rest ++ (w.sent ++ (O ++ T)))) := by rw [hb] at hT; exact hT.symm
  have hK := h.K.stepP (P := rest ++ (w.sent ++ (O ++ T)) ++ (qbf c w.lp e).out) (T := []) false hp hn (by rw [hl, List.append_nil])
  rw [hl] at hK
  have hi : e.lp.toNat = i := by omega
  refine ⟨_, ⟨hK, h.il, ?_, ?_, ?_, ?_⟩, by rw [hi]; rfl⟩
  · show (S.lps.set e.lp.toNat (qbf c w.lp e).lp)[i]? = _
    rw [hi, List.getElem?_set_self (by rw [h.K.lpl]; exact h.il)]; rfl
  · show ∃ T', (quy (qev e.lp (rest, w.sent) (qbf c w.lp e).out).1 (qbf c w.lp e).gone ++ ((qev e.lp (rest, w.sent) (qbf c w.lp e).out).2 ++ (O ++ T'))).Perm (rest ++ (w.sent ++ (O ++ T)) ++ (qbf c w.lp e).out)
    have hs := qp1 (qbf c w.lp e).gone (qev e.lp (rest, w.sent) (qbf c w.lp e).out).1
    have hpl := qru e.lp (qbf c w.lp e).out (rest, w.sent) (O ++ T)
    generalize (qev e.lp (rest, w.sent) (qbf c w.lp e).out).1 = B at *
    generalize (qev e.lp (rest, w.sent) (qbf c w.lp e).out).2 = Z at *
    generalize quy B (qbf c w.lp e).gone = B' at *
    obtain ⟨D, hD⟩ : ∃ D, (B' ++ D).Perm B := by
      clear hpl hK
      induction hs with
      | slnil => exact ⟨[], .refl _⟩
      | cons a _ ih => obtain ⟨D, hD⟩ := ih; exact ⟨a :: D, List.perm_middle.trans (hD.cons a)⟩
      | cons_cons a _ ih => obtain ⟨D, hD⟩ := ih; exact ⟨D, hD.cons a⟩
    refine ⟨D ++ T, ?_⟩
    have e1 : (B' ++ (Z ++ (O ++ (D ++ T)))).Perm ((B' ++ D) ++ (Z ++ (O ++ T))) := by
      rw [List.append_assoc]
      refine List.Perm.append_left B' ?_
      have : (Z ++ (O ++ (D ++ T))) = (Z ++ O) ++ (D ++ T) := by simp
      rw [this]
      refine (List.perm_append_comm_assoc (Z ++ O) D T).trans ?_
      simp
    refine e1.trans ((hD.append_right _).trans (hpl.trans ?_))
    simp only [List.append_assoc]
    refine List.Perm.append_left rest (List.Perm.append_left w.sent ?_)
    refine (List.perm_append_comm (l₁ := (qbf c w.lp e).out) (l₂ := O ++ T)).trans ?_
    simp
  · have hs := qp1 (qbf c w.lp e).gone (qev e.lp (rest, w.sent) (qbf c w.lp e).out).1
    refine List.Pairwise.sublist hs (qta _ _ _ ?_)
    have := h.sorted; rw [hb, List.pairwise_cons] at this; exact this.2
  · intro b hbm
    have hs := qp1 (qbf c w.lp e).gone (qev e.lp (rest, w.sent) (qbf c w.lp e).out).1
    have := qzp e.lp (qbf c w.lp e).out (rest, w.sent) (fun b hb' => by rw [h1]; exact h.own b (by rw [hb]; simp [hb'])) b (hs.subset hbm)
    rw [this, h1]
end
set_option maxRecDepth 10000
def qu7 (a b : Int) : Int := if b < a then b else a
def qk6 (bs : List (List Evt)) : List Int := (bs.filterMap List.head?).map Evt.time
def qzo (bs : List (List Evt)) : Option Int := match qk6 bs with
  | [] => none
  | x :: r => some (r.foldl qu7 x)
theorem q29 (bs : List (List Evt)) (b : List Evt) : qk6 (bs ++ [b]) = qk6 bs ++ (b.head?.map Evt.time).toList := by
  unfold qk6
  rw [List.filterMap_append, List.map_append]
  cases b <;> simp
theorem qzj (bs : List (List Evt)) : (qk6 bs).length ≤ bs.length := by
  unfold qk6; rw [List.length_map]; exact List.length_filterMap_le _ _
theorem min_ev (x : Int) (r : List Int) (c : Bool) (h : r.length ≤ 1000) : qa4 (evL T) qde [(.fsl ((x :: r).map qby) c)] = some (ii (r.foldl qu7 x)) := by
  have hL : ∃ y, itB (exec (evL T) itL none qd8) (qs [0, 3, 4] true 0) ⟨[(0, (.fsl ((x :: r).map qby) c)), (3, (ii x)), (4, (ii ((1 : Nat))))], []⟩ [] = some y ∧ (y.1 = .exit 0 ∧ y.2.1.marks = [] ∧ y.2.2 = [] ∧ Ev.look y.2.1.vars 3 = some (ii (r.foldl qu7 x))) := by
    have key := qf2 (f := exec (evL T) itL none qd8) (s := qs [0, 3, 4] true 0) (α := Int)
      (fun i a => ⟨[(0, (.fsl ((x :: r).map qby) c)), (3, (ii a)), (4, (ii (i + 1 : Nat)))], []⟩) (fun _ _ => []) (fun i a => a = (r.take i).foldl qu7 x) r.length
      (fun y => y.1 = .exit 0 ∧ y.2.1.marks = [] ∧ y.2.2 = [] ∧ Ev.look y.2.1.vars 3 = some (ii (r.foldl qu7 x))) ?_ ?_ 0 x (Nat.zero_le _) rfl
    · exact key
    · rintro i a hi rfl
      obtain ⟨v, hv⟩ : ∃ v, r[i]? = some v := ⟨_, List.getElem?_eq_getElem hi⟩
      have hi' : ((i + 1 : Nat) : Int) < ((r.length + 1 : Nat) : Int) := by omega
      have hw : IntKind.i64.wrap (((i + 1 : Nat) : Int) + 1) = ((i + 1 + 1 : Nat) : Int) := by rw [qas (by omega) (by omega)]; simp
      refine .inl ⟨qu7 ((r.take i).foldl qu7 x) v, ?_, ?_⟩
      · simp only [qd8, Int.natCast_nonneg, Int.toNat_natCast, List.getElem?_map, Option.map_some, qu7, qby, List.map_cons, hv, hi', hw, qw, Ev.exec, qb, qe, qc, qai, Ev.Opnd.ev, Ev.Env.get, Ev.Env.set, Ev.look, qf, qv, qao, ql, qs, Ev.keep, qal, qaf, qg, qbb, qm, qh, qd, qak, List.length_map, ↓qn, Ev.it1, ↓reduceIte, List.length_cons, List.length_nil, List.getElem?_cons_succ, zfe, List.head?_cons, Nat.reduceEqDiff, reduceCtorEq, decide_true, zfc, zfa, and_self, zfd, eq_self]
      · rw [List.take_add_one, hv, List.foldl_append]; rfl
    · rintro a rfl
      rw [List.take_length]
      simp only [qd8, qby, List.map_cons, Int.lt_irrefl, Ev.exec, qb, qe, qc, qai, Ev.Opnd.ev, Ev.Env.get, Ev.Env.set, Ev.look, ql, List.length_map, ↓qn, Ev.it1, ↓reduceIte, List.length_cons, Nat.reduceEqDiff, reduceCtorEq, decide_false, zfa, eq_self]
      exact ⟨_, rfl, rfl, rfl, rfl, rfl⟩
  obtain ⟨⟨y, e, σ⟩, k1, k2, k3, k4, k5⟩ := hL
  simp only at k2 k3 k4 k5
  subst k2; subst k4
  simp only [List.map_cons, qby] at k1
  have c0 : ¬ ((r.length + 1 : Nat) : Int) < 1 := by omega
  have e1 : ((1 : Nat) : Int) = 1 := rfl
  rw [e1] at k1
  rw [qa4, qad qov qoi]
  simp only [qgw, qby, List.map_cons, c0, k1, k3, k5, qw, Int.le_refl, Int.toNat_zero, qj, Ev.exec, qb, qe, qc, qai, Ev.Opnd.ev, Ev.Env.get, Ev.Env.set, Ev.look, qk, qf, qv, ql, qi, qq, qaj, Ev.kill, qag, qs, Ev.keep, qal, qaf, qg, qbb, qm, qh, qd, qak, qx, List.length_map, ↓qn, ↓qa3, ↓reduceIte, List.length_cons, List.length_nil, List.getElem?_cons_zero, zfe, List.head?_cons, Nat.reduceEqDiff, reduceCtorEq, decide_false, zfc, zfa, and_self, zfd, eq_self]
theorem Floor_ev (bs : List (List Evt)) (c : Bool) (h : bs.length ≤ 1000) : qa4 (evL T) qeq [(.fsl ((bs).map qcp) c)] = some (.tup [(ii (((qzo bs).getD 0))), (bb (((qzo bs).isSome)))]) := by
  have hL : ∃ y, itB (exec (evL T) itL none qfy) (qs [4, 7, 8, 9] true 1) ⟨[(4, .sl 0 0 0 0 false), (7, (.fsl ((bs).map qcp) c)), (8, (ii bs.length)), (9, (ii ((0 : Nat))))], []⟩ [.row 1 [] 0] = some y ∧
      ∃ g : Nat, y.1 = .exit 0 ∧ y.2.1.marks = [] ∧ y.2.2 = [.row 1 ((qk6 bs).map qby) g] ∧ Ev.look y.2.1.vars 4 = some (.sl 0 g 0 (qk6 bs).length false) := by
    have key := qf2 (f := exec (evL T) itL none qfy) (s := qs [4, 7, 8, 9] true 1) (α := List Int × Nat)
      (fun i a => ⟨[(4, .sl 0 a.2 0 a.1.length false), (7, (.fsl ((bs).map qcp) c)), (8, (ii bs.length)), (9, (ii i))], []⟩) (fun _ a => [.row 1 (a.1.map qby) a.2]) (fun i a => a.1 = qk6 (bs.take i)) bs.length
      (fun y => ∃ g : Nat, y.1 = .exit 0 ∧ y.2.1.marks = [] ∧ y.2.2 = [.row 1 ((qk6 bs).map qby) g] ∧ Ev.look y.2.1.vars 4 = some (.sl 0 g 0 (qk6 bs).length false)) ?_ ?_ 0 ([], 0) (Nat.zero_le _) rfl
    · exact key
    · rintro i ⟨l, g⟩ hi hl
      simp only at hl ⊢
      obtain ⟨v, hv⟩ : ∃ v, bs[i]? = some v := ⟨_, List.getElem?_eq_getElem hi⟩
      have hi' : (i : Int) < (bs.length : Int) := by omega
      have hw : IntKind.i64.wrap ((i : Int) + 1) = ((i + 1 : Nat) : Int) := by rw [qas (by omega) (by omega)]; simp
      have hf : qk6 (bs.take (i + 1)) = qk6 (bs.take i) ++ (v.head?.map Evt.time).toList := by rw [List.take_add_one, hv]; exact q29 _ _
      have hll : l.length ≤ 1000 := by rw [hl]; have := qzj (bs.take i); have := List.length_take_le i bs; omega
      cases v with
      | nil =>
        refine .inl ⟨(l, g), ?_, by simp only; rw [hf, hl]; exact (List.append_nil _).symm⟩
        simp only [qfy, Int.natCast_nonneg, Int.toNat_natCast, List.getElem?_map, Option.map_some, hv, hi', hw, qcp, List.map_nil, gt_iff_lt, Int.lt_irrefl, qjr, qw, Ev.exec, qb, qe, qc, qai, Ev.Opnd.ev, Ev.Env.get, Ev.Env.set, Ev.look, qf, qv, qao, ql, qbh, qs, Ev.keep, qal, qaf, qg, Ev.SObj.lo, qbb, qm, qds, ↓qn, Ev.it1, ↓reduceIte, List.length_cons, List.length_nil, List.take_succ_cons, zfe, List.head?_cons, Nat.reduceEqDiff, Int.cast_ofNat_Int, decide_true, decide_false, zfc, zfa, and_self, zfd, Nat.lt_add_one, eq_self]
      | cons e r =>
        refine .inl ⟨(l ++ [e.time], g + 1), ?_, by simp only; rw [hf, hl]; rfl⟩
        have c1 : ((r.length + 1 : Nat) : Int) > 0 := by omega
        have b : (l.length + 1) * 8 ≤ 140737488355328 := by omega
        have tk : List.take l.length (l.map qby) = l.map qby := List.take_of_length_le (by simp)
        have lo := qw 1 (l ++ [e.time])
        have hle : l.length ≤ l.length := Nat.le_refl _
        rw [List.map_append] at lo
        simp only [List.map_cons, List.map_nil, qby] at lo
        obtain ⟨et, ek, el, ei, ep, ea⟩ := e
        simp only [List.map_append, List.length_append, List.map_cons, List.map_nil, qby] at lo ⊢
        simp only [qfy, Int.natCast_nonneg, Int.toNat_natCast, List.getElem?_map, Option.map_some, hv, hi', hw, c1, b, tk, lo, hle, qcp, Evt.r, List.map_cons, Int.le_refl, Int.toNat_zero, qjr, Ev.exec, qb, qe, qc, qai, qm4, Ev.Opnd.ev, Ev.Env.get, Ev.Env.set, Ev.look, qf, qbq, qv, qfm, Ev.AV.cells, Ev.AV.uc, qo, Ev.AV.plain, qao, ql, qbh, qs, Ev.keep, qal, qaf, qg, Ev.SObj.lo, qbb, qm, qds, qbc, qbg, List.replicate_one, List.length_map, ↓qn, Ev.it1, ↓reduceIte, List.length_cons, List.length_nil, List.getElem?_cons_zero, List.take_succ_cons, zfe, List.drop_zero, List.set_cons_zero, List.head?_cons, Nat.reduceAdd, Nat.reduceEqDiff, Nat.reduceMul, Nat.reduceLeDiff, Nat.reducePow, decide_true, zfc, zfa, and_self, ne_eq, zfb, zff, zfd, Nat.lt_add_one, eq_self]
    · rintro ⟨l, g⟩ hl
      rw [List.take_length] at hl
      simp only at hl ⊢
      simp only [qfy, Int.lt_irrefl, Ev.exec, qb, qe, qc, qai, Ev.Opnd.ev, Ev.Env.get, Ev.Env.set, Ev.look, ql, ↓qn, Ev.it1, ↓reduceIte, Nat.reduceEqDiff, decide_false, zfa, eq_self]
      exact ⟨_, rfl, g, rfl, rfl, by rw [hl], by rw [hl]; rfl⟩
  obtain ⟨⟨y, e, σ⟩, k1, g, k2, k3, k4, k5⟩ := hL
  simp only [Int.ofNat_zero] at k1 k2 k3 k4 k5
  subst k2; subst k4
  have hfl := qzj bs
  unfold qzo
  rw [qa4, qad qvk qu0]
  cases hf : qk6 bs with
  | nil =>
    rw [hf] at k1 k5
    simp only [List.map_nil, List.length_nil] at k1 k5
    simp only [qj0, k1, k3, k5, qjr, Option.getD_none, qj, Ev.exec, qb, qe, qc, qai, Ev.Opnd.ev, Ev.Env.get, Ev.Env.set, Ev.look, qk, qar, qi, qq, qaj, Ev.kill, qag, qs, Ev.keep, qal, qaf, qg, Ev.SObj.lo, qbb, qb1, qm, qds, qh, qd, qu, qx, List.length_map, ↓qn, ↓qa3, ↓reduceIte, List.length_cons, List.length_nil, List.take_succ_cons, List.take_zero, zfe, List.nil_append, Nat.reduceEqDiff, Int.cast_ofNat_Int, reduceCtorEq, decide_true, zfc, and_self, zfd, Nat.lt_add_one, Option.isSome_none, eq_self]
  | cons x r =>
    rw [hf] at k1 k5 hfl
    have hm := min_ev x r false (by simp at hfl; omega)
    have c0 : ¬ ((r.length + 1 : Nat) : Int) = 0 := by omega
    have tk : List.take (r.length + 1) ((x :: r).map qby) = (x :: r).map qby := List.take_of_length_le (by simp)
    have hln : ((x :: r).map qby).length = r.length + 1 := by simp
    have hlo : qiu 0 ((x :: r).map qby) = true := qw _ _
    simp only [List.length_cons] at k1 k5
    generalize (x :: r).map qby = R at *
    simp only [qj0, k1, k3, k5, c0, tk, hln, hlo, hm, qjr, Nat.le_refl, Option.getD_some, qj, Ev.exec, qb, qe, qc, qaw, qai, Ev.evs, Ev.Opnd.ev, Ev.Env.get, Ev.Env.set, Ev.look, qk, qar, qi, qq, qaj, Ev.kill, qag, qs, Ev.keep, qal, qaf, qg, Ev.SObj.lo, qbb, qb1, qm, qds, qh, qd, qu, qx, List.length_map, ↓qn, ↓qa3, ↓reduceIte, List.length_cons, List.length_nil, List.getElem?_cons_zero, List.take_succ_cons, List.take_zero, zfe, List.drop_zero, List.nil_append, List.set_cons_zero, Nat.reduceEqDiff, reduceCtorEq, decide_true, decide_false, zfc, zfa, and_self, zfd, Nat.lt_add_one, Nat.le_refl, Option.isSome_some, eq_self]
theorem q44 (c : Cfg) (f : Int) (hf : 0 ≤ f ∧ f ≤ 1152921504606846976) (hl : 0 ≤ c.look ∧ c.look ≤ 9223372036854775807) (hF : 0 ≤ c.fin ∧ c.fin ≤ 1152921504606846976) : qa4 (evL T) qdv [(.agg [(.fsl ((c.lps).map lpC) false), (.fsl ((c.progs).map qce) false), (ii c.look), (ii c.fin), (ii c.cap)]), (ii f)] = some (ii (f + qu7 c.look (c.fin - f))) := by
  have w1 : IntKind.i64.wrap (c.fin - f) = c.fin - f := qas (by omega) (by omega)
  have w2 : IntKind.i64.wrap (f + qu7 c.look (c.fin - f)) = f + qu7 c.look (c.fin - f) := by
    unfold qu7; split <;> exact qas (by omega) (by omega)
  unfold qu7 at w2 ⊢
  rw [qa4, qad qtd qrq]
  simp only [qj5, w1, w2, qj, Ev.exec, qb, qe, qc, qai, Ev.Opnd.ev, Ev.Env.get, Ev.Env.set, Ev.look, qk, qf, qv, Ev.AV.cells, qo, Ev.AV.plain, qao, qrs, qi, qq, qaj, Ev.kill, qag, qg, qbb, qx, ↓qn, ↓reduceIte, List.length_cons, List.length_nil, zfe, List.drop_succ_cons, List.drop_zero, List.head?_cons, Nat.reduceAdd, Nat.reduceEqDiff, reduceCtorEq, zfc, zfa, and_self, ne_eq, zfb, zff, zfd, eq_self]
set_option maxRecDepth 10000
section
variable {c : Cfg} {x : Lp} {e : Evt}
theorem q05 (hp : x.procs = []) : qlf x e = none := by
  unfold qlf
  rw [hp]; simp
theorem qx9 (hp : x.procs = []) : (qbf c x e).lp.procs = [] := by
  unfold qbf
  split
  · exact hp
  · rw [q05 hp]; exact hp
theorem Exec_evF (h : Ready c x e) (f : Bool) (hf : f = true → x.procs = []) : qa4 (evL T) qdr [(.agg [(.fsl ((c.lps).map lpC) false), (.fsl ((c.progs).map qce) false), (ii c.look), (ii c.fin), (ii c.cap)]), (.agg [(ii x.r0), (ii x.r1), (.fsl ((x.procs).map Pr.r) f), (ii x.sum)]), (.agg [(ii e.time), (.fsl ((e.key).map qby) false), (ii e.lp), (ii e.kind), (ii e.proc), (ii e.arg)])] = some (.tup [(.agg [(ii ((qbf c x e).lp.r0)), (ii ((qbf c x e).lp.r1)), (.fsl (((qbf c x e).lp.procs).map Pr.r) f), (ii ((qbf c x e).lp.sum))]), (.fsl (((qbf c x e).out).map Evt.r) (qbf c x e).nil), (.fsl (((qbf c x e).gone).map qep) (qbf c x e).nil), (bb ((qbf c x e).over))]) := by
  cases f with
  | false => exact Exec_ev h
  | true =>
    have hp := hf rfl
    unfold qbf
    rw [qa4, qad qj3 qjf]
    rw [q05 hp]
    by_cases hk : e.kind = 3
    · rw [if_pos hk]
      simp only [qbr, hk, hp, List.map_nil, qj, Ev.exec, qb, qe, qc, qai, Ev.Opnd.ev, Ev.Env.get, Ev.Env.set, Ev.look, qk, qf, qv, Ev.AV.cells, Ev.AV.uc, qo, Ev.AV.plain, qao, qar, qi, qq, qaj, Ev.kill, qag, qg, qbb, qa2, qb1, qm, qh, qd, qu, qx, ↓qn, ↓reduceIte, List.length_cons, List.length_nil, List.getElem?_cons_zero, List.getElem?_cons_succ, List.take_succ_cons, List.take_zero, zfe, List.drop_succ_cons, List.drop_zero, List.drop_nil, List.cons_append, List.nil_append, List.append_nil, List.set_cons_zero, List.set_cons_succ, List.head?_cons, Nat.reduceAdd, Nat.reduceEqDiff, reduceCtorEq, decide_true, zfc, zfa, and_self, ne_eq, zfb, zff, zfd, Nat.le_refl, eq_self]
    rw [if_neg hk]
    by_cases h1 : e.proc < 0
    · by_cases k1 : e.kind = 1
      · simp only [qbr, k1, h1, hp, List.map_nil, qj, Ev.exec, qb, qe, qc, qai, Ev.Opnd.ev, Ev.Env.get, Ev.Env.set, Ev.Env.unset, Ev.look, qk, qf, qv, Ev.AV.cells, qo, Ev.AV.plain, qar, qbe, ql, qi, qq, qaj, Ev.kill, qag, qg, qbb, qa2, qb1, qm, qh, qd, qu, qx, ↓qn, ↓reduceIte, List.length_cons, List.length_nil, List.getElem?_cons_zero, List.getElem?_cons_succ, List.take_succ_cons, List.take_zero, zfe, List.drop_succ_cons, List.drop_zero, List.drop_nil, List.cons_append, List.nil_append, List.append_nil, List.set_cons_zero, List.set_cons_succ, List.head?_cons, Nat.reduceAdd, Nat.reduceEqDiff, Int.reduceEq, reduceCtorEq, decide_true, decide_false, zfc, zfa, and_self, ne_eq, zfb, not_true_eq_false, zff, zfd, Nat.le_refl, eq_self]
      by_cases k2 : e.kind = 2
      · simp only [qbr, k2, h1, hp, List.map_nil, qj, Ev.exec, qb, qe, qc, qai, Ev.Opnd.ev, Ev.Env.get, Ev.Env.set, Ev.look, qk, qf, qv, Ev.AV.cells, qo, Ev.AV.plain, qar, qbe, ql, qi, qq, qaj, Ev.kill, qag, qg, qbb, qa2, qb1, qm, qh, qd, qu, qx, ↓qn, ↓reduceIte, List.length_cons, List.length_nil, List.getElem?_cons_zero, List.getElem?_cons_succ, List.take_succ_cons, List.take_zero, zfe, List.drop_succ_cons, List.drop_zero, List.drop_nil, List.cons_append, List.nil_append, List.append_nil, List.set_cons_zero, List.set_cons_succ, List.head?_cons, Nat.reduceAdd, Nat.reduceEqDiff, Int.reduceEq, reduceCtorEq, decide_true, decide_false, zfc, zfa, and_self, ne_eq, zfb, not_true_eq_false, zff, zfd, Nat.le_refl, eq_self]
      · simp only [qbr, hk, k1, k2, hp, List.map_nil, qj, Ev.exec, qb, qe, qc, qai, Ev.Opnd.ev, Ev.Env.get, Ev.Env.set, Ev.look, qk, qf, qv, Ev.AV.cells, qo, Ev.AV.plain, qar, qbe, qi, qq, qaj, Ev.kill, qag, qg, qbb, qa2, qb1, qm, qh, qd, qu, qx, ↓qn, ↓reduceIte, List.length_cons, List.length_nil, List.getElem?_cons_zero, List.getElem?_cons_succ, List.take_succ_cons, List.take_zero, zfe, List.drop_succ_cons, List.drop_zero, List.drop_nil, List.cons_append, List.nil_append, List.append_nil, List.set_cons_zero, List.set_cons_succ, List.head?_cons, Nat.reduceAdd, Nat.reduceEqDiff, reduceCtorEq, decide_true, decide_false, zfc, zfa, and_self, ne_eq, zfb, zff, zfd, Nat.le_refl, eq_self]
    have h2 : e.proc ≥ ((0 : Nat) : Int) := by omega
    have h2' : e.proc ≥ 0 := by omega
    · by_cases k1 : e.kind = 1
      · simp only [qbr, k1, h1, h2', hp, List.map_nil, qj, Ev.exec, qb, qe, qc, qai, Ev.Opnd.ev, Ev.Env.get, Ev.Env.set, Ev.Env.unset, Ev.look, qk, qf, qv, Ev.AV.cells, qo, Ev.AV.plain, qar, qbe, ql, qbu, qi, qq, qaj, Ev.kill, qag, qg, qbb, qa2, qb1, qm, qh, qd, qu, qx, ↓qn, ↓reduceIte, List.length_cons, List.length_nil, List.getElem?_cons_zero, List.getElem?_cons_succ, List.take_succ_cons, List.take_zero, zfe, List.drop_succ_cons, List.drop_zero, List.drop_nil, List.cons_append, List.nil_append, List.append_nil, List.set_cons_zero, List.set_cons_succ, List.head?_cons, Nat.reduceAdd, Nat.reduceEqDiff, Int.reduceEq, Int.cast_ofNat_Int, reduceCtorEq, decide_true, decide_false, zfc, zfa, and_self, ne_eq, zfb, not_true_eq_false, zff, zfd, Nat.le_refl, eq_self]
      by_cases k2 : e.kind = 2
      · simp only [qbr, k2, h1, h2', hp, List.map_nil, qj, Ev.exec, qb, qe, qc, qai, Ev.Opnd.ev, Ev.Env.get, Ev.Env.set, Ev.look, qk, qf, qv, Ev.AV.cells, qo, Ev.AV.plain, qar, qbe, ql, qbu, qi, qq, qaj, Ev.kill, qag, qg, qbb, qa2, qb1, qm, qh, qd, qu, qx, ↓qn, ↓reduceIte, List.length_cons, List.length_nil, List.getElem?_cons_zero, List.getElem?_cons_succ, List.take_succ_cons, List.take_zero, zfe, List.drop_succ_cons, List.drop_zero, List.drop_nil, List.cons_append, List.nil_append, List.append_nil, List.set_cons_zero, List.set_cons_succ, List.head?_cons, Nat.reduceAdd, Nat.reduceEqDiff, Int.reduceEq, Int.cast_ofNat_Int, reduceCtorEq, decide_true, decide_false, zfc, zfa, and_self, ne_eq, zfb, not_true_eq_false, zff, zfd, Nat.le_refl, eq_self]
      · simp only [qbr, hk, k1, k2, hp, List.map_nil, qj, Ev.exec, qb, qe, qc, qai, Ev.Opnd.ev, Ev.Env.get, Ev.Env.set, Ev.look, qk, qf, qv, Ev.AV.cells, qo, Ev.AV.plain, qar, qbe, qi, qq, qaj, Ev.kill, qag, qg, qbb, qa2, qb1, qm, qh, qd, qu, qx, ↓qn, ↓reduceIte, List.length_cons, List.length_nil, List.getElem?_cons_zero, List.getElem?_cons_succ, List.take_succ_cons, List.take_zero, zfe, List.drop_succ_cons, List.drop_zero, List.drop_nil, List.cons_append, List.nil_append, List.append_nil, List.set_cons_zero, List.set_cons_succ, List.head?_cons, Nat.reduceAdd, Nat.reduceEqDiff, reduceCtorEq, decide_true, decide_false, zfc, zfa, and_self, ne_eq, zfb, zff, zfd, Nat.le_refl, eq_self]
theorem q63 (h : Ready c x e) (f : Bool) (hf : f = true → x.procs = []) : qa4 (evL T) qex [(.agg [(.fsl ((c.lps).map lpC) false), (.fsl ((c.progs).map qce) false), (ii c.look), (ii c.fin), (ii c.cap)]), (.agg [(ii x.r0), (ii x.r1), (.fsl ((x.procs).map Pr.r) f), (ii x.sum)]), (.agg [(ii e.time), (.fsl ((e.key).map qby) false), (ii e.lp), (ii e.kind), (ii e.proc), (ii e.arg)])] = some (.tup [(.agg [(ii ((qbf c x e).lp.r0)), (ii ((qbf c x e).lp.r1)), (.fsl (((qbf c x e).lp.procs).map Pr.r) f), (ii ((qbf c x e).lp.sum))]), (.fsl (((qbf c x e).out).map Evt.r) (qbf c x e).nil), (.fsl (((qbf c x e).gone).map qep) (qbf c x e).nil), (bb ((qbf c x e).over))]) := by
  cases f with
  | false => exact RExec_ev h
  | true =>
    have hp := hf rfl
    unfold qbf
    rw [qa4, qad qkz qkm]
    rw [q05 hp]
    by_cases hk : e.kind = 3
    · rw [if_pos hk]
      simp only [qb0, hk, hp, List.map_nil, Nat.reduceLeDiff, qj, Ev.exec, qb, qe, qc, qai, Ev.Opnd.ev, Ev.Env.get, Ev.Env.set, Ev.look, qk, qf, qv, qfz, Ev.AV.cells, Ev.AV.uc, qo, Ev.AV.plain, qao, qar, qi, qq, qaj, Ev.kill, qag, qg, qbb, qa2, qb1, qm, qh, qd, qu, qx, ↓qn, ↓reduceIte, List.length_cons, List.length_nil, List.getElem?_cons_zero, List.getElem?_cons_succ, List.take_succ_cons, List.take_zero, zfe, List.drop_succ_cons, List.drop_zero, List.drop_nil, List.cons_append, List.nil_append, List.append_nil, List.set_cons_zero, List.set_cons_succ, List.head?_cons, Nat.reduceAdd, Nat.reduceEqDiff, Nat.reduceLeDiff, reduceCtorEq, decide_true, zfc, zfa, and_self, ne_eq, zfb, zff, zfd, Nat.add_zero, Nat.le_refl, eq_self]
    rw [if_neg hk]
    by_cases h1 : e.proc < 0
    · by_cases k1 : e.kind = 1
      · simp only [qb0, k1, h1, hp, List.map_nil, Nat.reduceLeDiff, qj, Ev.exec, qb, qe, qc, qai, Ev.Opnd.ev, Ev.Env.get, Ev.Env.set, Ev.Env.unset, Ev.look, qk, qf, qv, qfz, Ev.AV.cells, qo, Ev.AV.plain, qar, qbe, ql, qi, qq, qaj, Ev.kill, qag, qg, qbb, qa2, qb1, qm, qh, qd, qu, qx, ↓qn, ↓reduceIte, List.length_cons, List.length_nil, List.getElem?_cons_zero, List.getElem?_cons_succ, List.take_succ_cons, List.take_zero, zfe, List.drop_succ_cons, List.drop_zero, List.drop_nil, List.cons_append, List.nil_append, List.append_nil, List.set_cons_zero, List.set_cons_succ, List.head?_cons, Nat.reduceAdd, Nat.reduceEqDiff, Nat.reduceLeDiff, Int.reduceEq, reduceCtorEq, decide_true, decide_false, zfc, zfa, Bool.true_eq_false, and_self, ne_eq, zfb, not_true_eq_false, zff, zfd, Nat.le_refl, eq_self]
      by_cases k2 : e.kind = 2
      · simp only [qb0, k2, h1, hp, List.map_nil, Nat.reduceLeDiff, qj, Ev.exec, qb, qe, qc, qai, Ev.Opnd.ev, Ev.Env.get, Ev.Env.set, Ev.Env.unset, Ev.look, qk, qf, qv, qfz, Ev.AV.cells, qo, Ev.AV.plain, qar, qbe, ql, qi, qq, qaj, Ev.kill, qag, qg, qbb, qa2, qb1, qm, qh, qd, qu, qx, ↓qn, ↓reduceIte, List.length_cons, List.length_nil, List.getElem?_cons_zero, List.getElem?_cons_succ, List.take_succ_cons, List.take_zero, zfe, List.drop_succ_cons, List.drop_zero, List.drop_nil, List.cons_append, List.nil_append, List.append_nil, List.set_cons_zero, List.set_cons_succ, List.head?_cons, Nat.reduceAdd, Nat.reduceEqDiff, Nat.reduceLeDiff, Int.reduceEq, reduceCtorEq, decide_true, decide_false, zfc, zfa, Bool.true_eq_false, and_self, ne_eq, zfb, not_true_eq_false, zff, zfd, Nat.le_refl, eq_self]
      · simp only [qb0, hk, k1, k2, hp, List.map_nil, Nat.reduceLeDiff, qj, Ev.exec, qb, qe, qc, qai, Ev.Opnd.ev, Ev.Env.get, Ev.Env.set, Ev.Env.unset, Ev.look, qk, qf, qv, qfz, Ev.AV.cells, qo, Ev.AV.plain, qar, qbe, qi, qq, qaj, Ev.kill, qag, qg, qbb, qa2, qb1, qm, qh, qd, qu, qx, ↓qn, ↓reduceIte, List.length_cons, List.length_nil, List.getElem?_cons_zero, List.getElem?_cons_succ, List.take_succ_cons, List.take_zero, zfe, List.drop_succ_cons, List.drop_zero, List.drop_nil, List.cons_append, List.nil_append, List.append_nil, List.set_cons_zero, List.set_cons_succ, List.head?_cons, Nat.reduceAdd, Nat.reduceEqDiff, Nat.reduceLeDiff, reduceCtorEq, decide_true, decide_false, zfc, zfa, Bool.true_eq_false, and_self, ne_eq, zfb, zff, zfd, Nat.le_refl, eq_self]
    have h2 : e.proc ≥ ((0 : Nat) : Int) := by omega
    have h2' : e.proc ≥ 0 := by omega
    · by_cases k1 : e.kind = 1
      · simp only [qb0, k1, h1, h2', hp, List.map_nil, Nat.reduceLeDiff, qj, Ev.exec, qb, qe, qc, qai, Ev.Opnd.ev, Ev.Env.get, Ev.Env.set, Ev.Env.unset, Ev.look, qk, qf, qv, qfz, Ev.AV.cells, qo, Ev.AV.plain, qar, qbe, ql, qbu, qi, qq, qaj, Ev.kill, qag, qg, qbb, qa2, qb1, qm, qh, qd, qu, qx, ↓qn, ↓reduceIte, List.length_cons, List.length_nil, List.getElem?_cons_zero, List.getElem?_cons_succ, List.take_succ_cons, List.take_zero, zfe, List.drop_succ_cons, List.drop_zero, List.drop_nil, List.cons_append, List.nil_append, List.append_nil, List.set_cons_zero, List.set_cons_succ, List.head?_cons, Nat.reduceAdd, Nat.reduceEqDiff, Nat.reduceLeDiff, Int.reduceEq, Int.cast_ofNat_Int, reduceCtorEq, decide_true, decide_false, zfc, zfa, Bool.true_eq_false, and_self, ne_eq, zfb, not_true_eq_false, zff, zfd, Nat.le_refl, eq_self]
      by_cases k2 : e.kind = 2
      · simp only [qb0, k2, h1, h2', hp, List.map_nil, Nat.reduceLeDiff, qj, Ev.exec, qb, qe, qc, qai, Ev.Opnd.ev, Ev.Env.get, Ev.Env.set, Ev.Env.unset, Ev.look, qk, qf, qv, qfz, Ev.AV.cells, qo, Ev.AV.plain, qar, qbe, ql, qbu, qi, qq, qaj, Ev.kill, qag, qg, qbb, qa2, qb1, qm, qh, qd, qu, qx, ↓qn, ↓reduceIte, List.length_cons, List.length_nil, List.getElem?_cons_zero, List.getElem?_cons_succ, List.take_succ_cons, List.take_zero, zfe, List.drop_succ_cons, List.drop_zero, List.drop_nil, List.cons_append, List.nil_append, List.append_nil, List.set_cons_zero, List.set_cons_succ, List.head?_cons, Nat.reduceAdd, Nat.reduceEqDiff, Nat.reduceLeDiff, Int.reduceEq, Int.cast_ofNat_Int, reduceCtorEq, decide_true, decide_false, zfc, zfa, Bool.true_eq_false, and_self, ne_eq, zfb, not_true_eq_false, zff, zfd, Nat.le_refl, eq_self]
      · simp only [qb0, hk, k1, k2, hp, List.map_nil, Nat.reduceLeDiff, qj, Ev.exec, qb, qe, qc, qai, Ev.Opnd.ev, Ev.Env.get, Ev.Env.set, Ev.Env.unset, Ev.look, qk, qf, qv, qfz, Ev.AV.cells, qo, Ev.AV.plain, qar, qbe, qi, qq, qaj, Ev.kill, qag, qg, qbb, qa2, qb1, qm, qh, qd, qu, qx, ↓qn, ↓reduceIte, List.length_cons, List.length_nil, List.getElem?_cons_zero, List.getElem?_cons_succ, List.take_succ_cons, List.take_zero, zfe, List.drop_succ_cons, List.drop_zero, List.drop_nil, List.cons_append, List.nil_append, List.append_nil, List.set_cons_zero, List.set_cons_succ, List.head?_cons, Nat.reduceAdd, Nat.reduceEqDiff, Nat.reduceLeDiff, reduceCtorEq, decide_true, decide_false, zfc, zfa, Bool.true_eq_false, and_self, ne_eq, zfb, zff, zfd, Nat.le_refl, eq_self]
end
set_option maxRecDepth 10000
section
variable {c : Cfg} {e : Evt} (R0 X4 X5 X6 X7 X8 X9 : SObj) (dn : List Evt) (g1 : Nat) (x : Lp) (o f : Bool)
theorem exec_l1 (h0 : R0.lo 10 = true) (h4 : X4.lo 10 = true) (h5 : X5.lo 10 = true) (h6 : X6.lo 10 = true) (h7 : X7.lo 10 = true) (h8 : X8.lo 10 = true) (h9 : X9.lo 10 = true) (out : List Evt) (co : Bool) (p : List Evt × List Evt) (g2 : Nat) (hP : PlOk p out) (v8 : AV) (hv8 : v8.lo 10 = true) :
    ∃ y, itB (exec (evL T) itL none qcr) (qs [0, 5, 8, 50, 51, 52] true 10) ⟨[(0, .ptr 3 0 0 0), (5, (.fptr [(ii e.time), (.fsl ((e.key).map qby) false), (ii e.lp), (ii e.kind), (ii e.proc), (ii e.arg)])), (8, v8), (50, (.fsl ((out).map Evt.r) co)), (51, (ii out.length)), (52, (ii ((0 : Nat))))], []⟩ (R0 :: .row 6 ((dn).map Evt.r) g1 :: .row 6 ((p.2).map Evt.r) g2 :: .row 8 [[(ii ((x).r0)), (ii ((x).r1)), (.fsl (((x).procs).map Pr.r) f), (ii ((x).sum)), (.fsl ((p.1).map Evt.r) false), .sl 1 g1 0 (dn).length false, .sl 2 g2 0 (p.2).length false, (bb o)]] 0 :: [X4, X5, X6, X7, X8, X9]) = some y ∧
      ∃ g2' : Nat, y.1 = .exit 0 ∧ y.2.1.marks = [] ∧ y.2.2 = (R0 :: .row 6 ((dn).map Evt.r) g1 :: .row 6 (((qev e.lp p out).2).map Evt.r) g2' :: .row 8 [[(ii ((x).r0)), (ii ((x).r1)), (.fsl (((x).procs).map Pr.r) f), (ii ((x).sum)), (.fsl (((qev e.lp p out).1).map Evt.r) false), .sl 1 g1 0 (dn).length false, .sl 2 g2' 0 ((qev e.lp p out).2).length false, (bb o)]] 0 :: [X4, X5, X6, X7, X8, X9]) ∧ Ev.look y.2.1.vars 0 = some (.ptr 3 0 0 0) ∧ Ev.look y.2.1.vars 8 = some v8 := by
  simp only [SObj.lo] at h0 h4 h5 h6 h7 h8 h9
  have key := qf2 (f := exec (evL T) itL none qcr) (s := qs [0, 5, 8, 50, 51, 52] true 10) (α := (List Evt × List Evt) × Nat)
    (fun i a => ⟨[(0, .ptr 3 0 0 0), (5, (.fptr [(ii e.time), (.fsl ((e.key).map qby) false), (ii e.lp), (ii e.kind), (ii e.proc), (ii e.arg)])), (8, v8), (50, (.fsl ((out).map Evt.r) co)), (51, (ii out.length)), (52, (ii i))], []⟩) (fun _ a => (R0 :: .row 6 ((dn).map Evt.r) g1 :: .row 6 ((a.1.2).map Evt.r) a.2 :: .row 8 [[(ii ((x).r0)), (ii ((x).r1)), (.fsl (((x).procs).map Pr.r) f), (ii ((x).sum)), (.fsl ((a.1.1).map Evt.r) false), .sl 1 g1 0 (dn).length false, .sl 2 a.2 0 (a.1.2).length false, (bb o)]] 0 :: [X4, X5, X6, X7, X8, X9])) (fun i a => a.1 = qev e.lp p (out.take i)) out.length
    (fun y => ∃ g2' : Nat, y.1 = .exit 0 ∧ y.2.1.marks = [] ∧ y.2.2 = (R0 :: .row 6 ((dn).map Evt.r) g1 :: .row 6 (((qev e.lp p out).2).map Evt.r) g2' :: .row 8 [[(ii ((x).r0)), (ii ((x).r1)), (.fsl (((x).procs).map Pr.r) f), (ii ((x).sum)), (.fsl (((qev e.lp p out).1).map Evt.r) false), .sl 1 g1 0 (dn).length false, .sl 2 g2' 0 ((qev e.lp p out).2).length false, (bb o)]] 0 :: [X4, X5, X6, X7, X8, X9]) ∧ Ev.look y.2.1.vars 0 = some (.ptr 3 0 0 0) ∧ Ev.look y.2.1.vars 8 = some v8) ?_ ?_ 0 (p, g2) (Nat.zero_le _) rfl
  · exact key
  · rintro i ⟨⟨b, s⟩, g⟩ hi hbs
    simp only at hbs ⊢
    obtain ⟨n, hn⟩ : ∃ n, out[i]? = some n := ⟨_, List.getElem?_eq_getElem hi⟩
    have hA := PlOk.at e.lp hP i
    rw [← hbs, show out.drop i = n :: out.drop (i + 1) by rw [List.drop_eq_getElem_cons hi]; rw [List.getElem?_eq_getElem hi] at hn; cases hn; rfl] at hA
    have hlen := hP.len
    simp only [List.length_append] at hlen
    have hi' : (i : Int) < (out.length : Int) := by omega
    have hw : IntKind.i64.wrap ((i : Int) + 1) = ((i + 1 : Nat) : Int) := by rw [qas (by omega) (by omega)]; simp
    have hnx : qev e.lp p (out.take (i + 1)) = qla e.lp (b, s) n := by rw [List.take_add_one, hn, hbs]; exact q2t _ _ _ _
    obtain ⟨i1, i2, i3, i4, i5⟩ := hA.ins
    have hsl := hA.len
    simp only [List.length_append] at hsl
    obtain ⟨et, ek, el, ei, ep, ea⟩ := e
    unfold qla at hnx
    by_cases hlp : n.lp = el
    · refine .inl ⟨((qga (n :: b), s), g), ?_, by simp only; rw [hnx, if_pos hlp]⟩
      have hI := qv5 b false n i1 i2 i3 i4 i5
      obtain ⟨nt, nk, nl, ni, np, na⟩ := n
      simp only at hlp
      subst hlp
      generalize qga (⟨nt, nk, nl, ni, np, na⟩ :: b) = B at *
      simp only at hI
      simp only [qcr, Int.natCast_nonneg, Int.toNat_natCast, List.getElem?_map, Option.map_some, hn, hi', hw, hI, h0, h4, h5, h6, h7, h8, h9, hv8, Evt.r, qaa, qw, qae, Ev.exec, qb, qe, qc, qaw, qai, Ev.evs, Ev.Opnd.ev, Ev.Env.get, Ev.Env.set, Ev.look, qf, qv, Ev.AV.cells, Ev.AV.uc, qo, Ev.AV.plain, qao, qar, ql, qs, Ev.keep, qal, qaf, qg, Ev.SObj.lo, qbb, qa2, qm, qbm, qds, qg6, qh, qd, qu, qak, ↓qn, Ev.it1, ↓reduceIte, List.length_cons, List.length_nil, List.getElem?_cons_zero, List.getElem?_cons_succ, List.take_succ_cons, List.take_zero, zfe, List.drop_succ_cons, List.drop_zero, List.drop_nil, List.cons_append, List.nil_append, List.append_nil, List.set_cons_zero, List.set_cons_succ, List.head?_cons, Nat.reduceAdd, Nat.reduceEqDiff, Nat.reduceLT, Nat.reduceLeDiff, reduceCtorEq, decide_true, zfc, zfa, and_self, ne_eq, zfb, zff, zfd, Nat.le_refl, eq_self]
    · refine .inl ⟨((b, s ++ [n]), g + 1), ?_, by simp only; rw [hnx, if_neg hlp]⟩
      have bd : (s.length + 1) * 64 ≤ 140737488355328 := by omega
      have tk : List.take s.length (s.map Evt.r) = s.map Evt.r := List.take_of_length_le (by simp)
      have lo := qaa 10 (s ++ [n])
      have hle : s.length ≤ s.length := Nat.le_refl _
      obtain ⟨nt, nk, nl, ni, np, na⟩ := n
      simp only at hlp
      rw [List.map_append] at lo
      simp only [List.map_append, List.length_append, List.map_cons, List.map_nil, Evt.r] at lo ⊢
      simp only [qcr, Int.natCast_nonneg, Int.toNat_natCast, List.getElem?_map, Option.map_some, hn, hi', hw, hlp, bd, tk, lo, hle, h0, h4, h5, h6, h7, h8, h9, hv8, Evt.r, qaa, qw, qae, Ev.exec, qb, qe, qc, qai, qm4, Ev.Opnd.ev, Ev.Env.get, Ev.Env.set, Ev.look, qf, qbq, qv, qfm, Ev.AV.cells, Ev.AV.uc, qo, Ev.AV.plain, qao, qar, ql, qs, Ev.keep, qal, qaf, qg, Ev.SObj.lo, qbb, qm, qbm, qds, qg6, qh, qd, qu, qak, qbc, qbg, List.replicate_one, List.length_map, ↓qn, Ev.it1, ↓reduceIte, List.length_cons, List.length_nil, List.getElem?_cons_zero, List.getElem?_cons_succ, List.take_succ_cons, List.take_zero, zfe, List.drop_succ_cons, List.drop_zero, List.drop_nil, List.cons_append, List.nil_append, List.append_nil, List.set_cons_zero, List.set_cons_succ, List.head?_cons, Nat.reduceAdd, Nat.reduceEqDiff, Nat.reduceMul, Nat.reduceLT, Nat.reduceLeDiff, Nat.reducePow, reduceCtorEq, decide_true, decide_false, zfc, zfa, and_self, ne_eq, zfb, zff, zfd, Nat.lt_add_one, Nat.le_refl, eq_self]
  · rintro ⟨⟨b, s⟩, g⟩ hbs
    rw [List.take_length] at hbs
    simp only at hbs ⊢
    rw [← hbs]
    simp only [qcr, Int.lt_irrefl, Ev.exec, qb, qe, qc, qai, Ev.Opnd.ev, Ev.Env.get, Ev.Env.set, Ev.look, ql, ↓qn, Ev.it1, ↓reduceIte, Nat.reduceEqDiff, reduceCtorEq, decide_false, zfa, eq_self]
    exact ⟨_, rfl, g, rfl, rfl, rfl, rfl, rfl⟩
theorem exec_l2 (h0 : R0.lo 10 = true) (h4 : X4.lo 10 = true) (h5 : X5.lo 10 = true) (h6 : X6.lo 10 = true) (h7 : X7.lo 10 = true) (h8 : X8.lo 10 = true) (h9 : X9.lo 10 = true) (G : List (List Int)) (cg : Bool) (b : List Evt) (s : List Evt) (g2 : Nat) (hb : b.length ≤ 1000000) (hk : qic b) (hG : G.length ≤ 1000000) (hGk : ∀ k ∈ G, k.length ≤ 9223372036854775807) :
    ∃ y, itB (exec (evL T) itL none qdd) (qs [0, 81, 82, 83] true 10) ⟨[(0, .ptr 3 0 0 0), (81, (.fsl ((G).map qep) cg)), (82, (ii G.length)), (83, (ii ((0 : Nat))))], []⟩ (R0 :: .row 6 ((dn).map Evt.r) g1 :: .row 6 ((s).map Evt.r) g2 :: .row 8 [[(ii ((x).r0)), (ii ((x).r1)), (.fsl (((x).procs).map Pr.r) f), (ii ((x).sum)), (.fsl ((b).map Evt.r) false), .sl 1 g1 0 (dn).length false, .sl 2 g2 0 (s).length false, (bb o)]] 0 :: [X4, X5, X6, X7, X8, X9]) = some y ∧
      (y.1 = .exit 2 ∧ y.2.1.marks = [] ∧ y.2.2 = (R0 :: .row 6 ((dn).map Evt.r) g1 :: .row 6 ((s).map Evt.r) g2 :: .row 8 [[(ii ((x).r0)), (ii ((x).r1)), (.fsl (((x).procs).map Pr.r) f), (ii ((x).sum)), (.fsl (((quy b G)).map Evt.r) false), .sl 1 g1 0 (dn).length false, .sl 2 g2 0 (s).length false, (bb o)]] 0 :: [X4, X5, X6, X7, X8, X9])) := by
  simp only [SObj.lo] at h0 h4 h5 h6 h7 h8 h9
  have key := qf2 (f := exec (evL T) itL none qdd) (s := qs [0, 81, 82, 83] true 10) (α := List Evt)
    (fun i a => ⟨[(0, .ptr 3 0 0 0), (81, (.fsl ((G).map qep) cg)), (82, (ii G.length)), (83, (ii i))], []⟩) (fun _ a => (R0 :: .row 6 ((dn).map Evt.r) g1 :: .row 6 ((s).map Evt.r) g2 :: .row 8 [[(ii ((x).r0)), (ii ((x).r1)), (.fsl (((x).procs).map Pr.r) f), (ii ((x).sum)), (.fsl ((a).map Evt.r) false), .sl 1 g1 0 (dn).length false, .sl 2 g2 0 (s).length false, (bb o)]] 0 :: [X4, X5, X6, X7, X8, X9])) (fun i a => a = quy b (G.take i)) G.length
    (fun y => y.1 = .exit 2 ∧ y.2.1.marks = [] ∧ y.2.2 = (R0 :: .row 6 ((dn).map Evt.r) g1 :: .row 6 ((s).map Evt.r) g2 :: .row 8 [[(ii ((x).r0)), (ii ((x).r1)), (.fsl (((x).procs).map Pr.r) f), (ii ((x).sum)), (.fsl (((quy b G)).map Evt.r) false), .sl 1 g1 0 (dn).length false, .sl 2 g2 0 (s).length false, (bb o)]] 0 :: [X4, X5, X6, X7, X8, X9])) ?_ ?_ 0 b (Nat.zero_le _) rfl
  · exact key
  · rintro i a hi ha
    obtain ⟨k, hkk⟩ : ∃ k, G[i]? = some k := ⟨_, List.getElem?_eq_getElem hi⟩
    have hi' : (i : Int) < (G.length : Int) := by omega
    have hw : IntKind.i64.wrap ((i : Int) + 1) = ((i + 1 : Nat) : Int) := by rw [qas (by omega) (by omega)]; simp
    have hs : a.Sublist b := by rw [ha]; exact qp1 _ _
    obtain ⟨cf, _, hC⟩ := qug a false k false (by have := hs.length_le; omega) (fun z hz => hk z (hs.subset hz)) (hGk k (List.mem_of_getElem? hkk)) (fun _ => rfl)
    refine .inl ⟨(qgy a k).1, ?_, by rw [List.take_add_one, hkk, ha]; exact (q51 _ _ _).symm⟩
    generalize qgy a k = ck at *
    obtain ⟨cl, cb⟩ := ck
    simp only at hC ⊢
    simp only [qdd, Int.natCast_nonneg, Int.toNat_natCast, List.getElem?_map, Option.map_some, hkk, hi', hw, hC, qep, h0, h4, h5, h6, h7, h8, h9, qaa, qw, qbn, qae, Ev.exec, qb, qe, qc, qaw, qai, Ev.evs, Ev.Opnd.ev, Ev.Env.get, Ev.Env.set, Ev.look, qf, qv, Ev.AV.cells, Ev.AV.uc, qo, Ev.AV.plain, qao, ql, qs, Ev.keep, qal, qaf, qg, Ev.SObj.lo, qbb, qm, qds, qg6, qh, qd, qu, qak, ↓qn, Ev.it1, ↓reduceIte, List.length_cons, List.length_nil, List.getElem?_cons_zero, List.getElem?_cons_succ, List.take_succ_cons, List.take_zero, zfe, List.drop_succ_cons, List.drop_zero, List.cons_append, List.nil_append, List.set_cons_zero, List.set_cons_succ, List.head?_cons, Nat.reduceAdd, Nat.reduceEqDiff, Nat.reduceLT, Nat.reduceLeDiff, reduceCtorEq, decide_true, zfc, zfa, and_self, zfd, eq_self]
  · rintro a ha
    rw [List.take_length] at ha
    rw [← ha]
    simp only [qdd, Int.lt_irrefl, Ev.exec, qb, qe, qc, qai, Ev.Opnd.ev, Ev.Env.get, Ev.Env.set, Ev.look, ql, ↓qn, Ev.it1, ↓reduceIte, Nat.reduceEqDiff, reduceCtorEq, decide_false, zfa, eq_self]
    exact ⟨_, rfl, rfl, rfl, rfl⟩
theorem q4z (h0 : R0.lo 9 = true) (h4 : X4.lo 9 = true) (h5 : X5.lo 9 = true) (h6 : X6.lo 9 = true) (h7 : X7.lo 9 = true) (h8 : X8.lo 9 = true) (w : WSt) (rest : List Evt) (g2 : Nat) (R : Ready c w.lp e) (hf : f = true → w.lp.procs = []) (hP : PlOk (rest, w.sent) (qbf c w.lp e).out) (hd : w.done.length ≤ 100000) :
    ∃ g1' g2' : Nat, (evL T).call qcs [.ptr 3 0 0 0, (.agg [(.fsl ((c.lps).map lpC) false), (.fsl ((c.progs).map qce) false), (ii c.look), (ii c.fin), (ii c.cap)]), (.agg [(ii e.time), (.fsl ((e.key).map qby) false), (ii e.lp), (ii e.kind), (ii e.proc), (ii e.arg)])] (R0 :: .row 6 ((w.done).map Evt.r) g1 :: .row 6 ((w.sent).map Evt.r) g2 :: .row 8 [[(ii ((w.lp).r0)), (ii ((w.lp).r1)), (.fsl (((w.lp).procs).map Pr.r) f), (ii ((w.lp).sum)), (.fsl ((rest).map Evt.r) false), .sl 1 g1 0 (w.done).length false, .sl 2 g2 0 (w.sent).length false, (bb w.over)]] 0 :: [X4, X5, X6, X7, X8]) =
      some (.tup [], (R0 :: .row 6 (((w.step c e rest).done).map Evt.r) g1' :: .row 6 (((w.step c e rest).sent).map Evt.r) g2' :: .row 8 [[(ii (((w.step c e rest).lp).r0)), (ii (((w.step c e rest).lp).r1)), (.fsl ((((w.step c e rest).lp).procs).map Pr.r) f), (ii (((w.step c e rest).lp).sum)), (.fsl (((w.step c e rest).box).map Evt.r) false), .sl 1 g1' 0 ((w.step c e rest).done).length false, .sl 2 g2' 0 ((w.step c e rest).sent).length false, (bb ((w.step c e rest).over))]] 0 :: [X4, X5, X6, X7, X8])) := by
  have mono : ∀ {X : SObj}, X.lo 9 = true → X.lo 10 = true := fun h => q23 (by omega) _ h
  have hz := R.sizes
  have hE := Exec_evF R f hf
  obtain ⟨wl, wb, wd, ws, wo⟩ := w
  simp only at R hP hz hE hd hf ⊢
  unfold WSt.step
  simp only
  generalize hr : qbf c wl e = r at *
  obtain ⟨⟨y1, f1, σ1⟩, k1, g2', k2, k3, k4, k5, k6⟩ := exec_l1 (e := e) R0 X4 X5 X6 X7 X8 (.row 4 [[(ii r.lp.r0), (ii r.lp.r1), (.fsl ((r.lp.procs).map Pr.r) f), (ii r.lp.sum)]] 0) (wd ++ [e]) (g1 + 1) r.lp (wo || r.over) f (mono h0) (mono h4) (mono h5) (mono h6) (mono h7) (mono h8) (by simp only [qae, Ev.SObj.lo, qbb, qm, qh, qd, qu, qak, zfc, eq_self]) r.out r.nil (rest, ws) g2 hP ((.fsl ((r.gone).map qep) r.nil)) (by simp only [qbn, qm, eq_self])
  have hpl := qru e.lp r.out (rest, ws) []
  have hln := hP.len
  have hkk := hP.ok
  rw [List.append_nil, List.append_nil] at hpl
  obtain ⟨⟨y2, f2, σ2⟩, m1, m2, m3, m4⟩ := exec_l2 R0 X4 X5 X6 X7 X8 (.row 4 [[(ii r.lp.r0), (ii r.lp.r1), (.fsl ((r.lp.procs).map Pr.r) f), (ii r.lp.sum)]] 0) (wd ++ [e]) (g1 + 1) r.lp (wo || r.over) f (mono h0) (mono h4) (mono h5) (mono h6) (mono h7) (mono h8) (by simp only [qae, Ev.SObj.lo, qbb, qm, qh, qd, qu, qak, zfc, eq_self]) r.gone r.nil (qev e.lp (rest, ws) r.out).1 (qev e.lp (rest, ws) r.out).2 g2'
    (by have := hpl.length_eq; simp only [List.length_append] at this hln; omega) (fun z hz' => hkk z (hpl.mem_iff.1 (List.mem_append_left _ hz'))) (by omega) (fun k hk' => by have := hz.2.2.2.2.1 k hk'; omega)
  simp only [Int.ofNat_zero] at k1 k2 k3 k4 k5 k6 m1 m2 m3 m4
  subst k2; subst k4; subst m2; subst m4
  refine ⟨g1 + 1, g2', ?_⟩
  have bd : (wd.length + 1) * 64 ≤ 140737488355328 := by omega
  have tk : List.take wd.length (wd.map Evt.r) = wd.map Evt.r := List.take_of_length_le (by simp)
  have hle : wd.length ≤ wd.length := Nat.le_refl _
  have j0 := mono h0
  have j4 := mono h4
  have j5 := mono h5
  have j6 := mono h6
  have j7 := mono h7
  have j8 := mono h8
  simp only [SObj.lo] at h0 h4 h5 h6 h7 h8 j0 j4 j5 j6 j7 j8
  generalize (qev e.lp (rest, ws) r.out).2 = Z at *
  generalize (qev e.lp (rest, ws) r.out).1 = B at *
  generalize quy B r.gone = B' at *
  obtain ⟨et, ek, el, ei, ep, ea⟩ := e
  obtain ⟨a0, a1, ap, as'⟩ := wl
  have lo := qaa 9 (wd ++ [⟨et, ek, el, ei, ep, ea⟩])
  have lo10 := qaa 10 (wd ++ [⟨et, ek, el, ei, ep, ea⟩])
  rw [List.map_append] at lo lo10 k1 m1
  simp only [List.map_append, List.length_append, List.map_cons, List.map_nil, List.length_cons, List.length_nil, zfd, Evt.r] at lo lo10 k1 m1 ⊢
  rw [qad qmq qmg]
  cases wo with
  | true =>
    simp only [Bool.true_or] at k1 m1 ⊢
    simp only [qeb, hE, k1, k3, k5, k6, m1, m3, bd, tk, hle, lo, lo10, h0, h4, h5, h6, h7, h8, j0, j4, j5, j6, j7, j8, qaa, qw, qbn, qae, qcb, qax, qj, Ev.exec, qb, qe, qc, qaw, qai, qm4, Ev.evs, Ev.Opnd.ev, Ev.Env.get, Ev.Env.set, Ev.Env.unset, Ev.look, qk, qf, qbq, qv, qfm, Ev.AV.cells, Ev.AV.uc, qo, Ev.AV.plain, qi, qaj, Ev.kill, qag, qs, Ev.keep, qal, qaf, qg, Ev.SObj.lo, qbb, qa2, qb1, qm, qbm, qds, qg6, qh, qd, qu, qak, qbc, qbg, List.replicate_one, List.length_map, ↓qn, ↓qa3, ↓reduceIte, List.length_cons, List.length_nil, List.getElem?_cons_zero, List.getElem?_cons_succ, List.take_succ_cons, List.take_zero, zfe, List.drop_succ_cons, List.drop_zero, List.drop_nil, List.cons_append, List.nil_append, List.append_nil, List.set_cons_zero, List.set_cons_succ, List.head?_cons, Nat.reduceAdd, Nat.reduceEqDiff, Nat.reduceMul, Nat.reduceLT, Nat.reduceLeDiff, Nat.reducePow, reduceCtorEq, decide_true, zfc, zfa, Bool.true_eq_false, and_self, ne_eq, zfb, zff, zfd, Nat.add_zero, Nat.lt_add_one, Nat.le_refl, eq_self]
  | false =>
    simp only [Bool.false_or] at k1 m1 ⊢
    simp only [qeb, hE, k1, k3, k5, k6, m1, m3, bd, tk, hle, lo, lo10, h0, h4, h5, h6, h7, h8, j0, j4, j5, j6, j7, j8, qaa, qw, qbn, qae, qcb, qax, qj, Ev.exec, qb, qe, qc, qaw, qai, qm4, Ev.evs, Ev.Opnd.ev, Ev.Env.get, Ev.Env.set, Ev.look, qk, qf, qbq, qv, qfm, Ev.AV.cells, Ev.AV.uc, qo, Ev.AV.plain, qi, qaj, Ev.kill, qag, qs, Ev.keep, qal, qaf, qg, Ev.SObj.lo, qbb, qa2, qb1, qm, qbm, qds, qg6, qh, qd, qu, qak, qbc, qbg, List.replicate_one, List.length_map, ↓qn, ↓qa3, ↓reduceIte, List.length_cons, List.length_nil, List.getElem?_cons_zero, List.getElem?_cons_succ, List.take_succ_cons, List.take_zero, zfe, List.drop_succ_cons, List.drop_zero, List.drop_nil, List.cons_append, List.nil_append, List.append_nil, List.set_cons_zero, List.set_cons_succ, List.head?_cons, Nat.reduceAdd, Nat.reduceEqDiff, Nat.reduceMul, Nat.reduceLT, Nat.reduceLeDiff, Nat.reducePow, reduceCtorEq, decide_true, zfc, zfa, and_self, ne_eq, zfb, zff, zfd, Nat.add_zero, Nat.lt_add_one, Nat.le_refl, eq_self]
end
set_option maxRecDepth 10000
theorem WInv.run {c : Cfg} {i : Nat} {O : List Evt} (hor : Int) : ∀ (k : Nat) {w : WSt} {S : Sim} {H : List Evt}, WInv c i w O S H → H.length + k ≤ 20000 →
    ∃ (S' : Sim) (es : List Evt), WInv c i (WSt.run c hor k w) O S' (H ++ es) ∧ (WSt.run c hor k w).done = w.done ++ es ∧ S'.lps = S.lps.set i (WSt.run c hor k w).lp ∧ es.length ≤ k
  | 0, w, S, H, h, _ => ⟨S, [], by rw [List.append_nil]; exact h, (List.append_nil _).symm, (by
      have : S.lps.set i w.lp = S.lps := List.ext_getElem? fun j => by
        by_cases e : i = j
        · subst e; rw [List.getElem?_set_self (by rw [h.K.lpl]; exact h.il), h.lp]
        · rw [List.getElem?_set_ne e]
      exact this.symm), Nat.le_refl _⟩
  | k + 1, w, S, H, h, hk => by
    unfold WSt.run
    split
    · obtain ⟨S', es, h1, h2, h3, h4⟩ := WInv.run hor 0 h (by omega)
      exact ⟨S', es, h1, h2, h3, by omega⟩
    next e rest hb =>
      split
      · obtain ⟨S1, g1, g2⟩ := h.step (by omega) hb
        obtain ⟨S', es, h1, h2, h3, h4⟩ := WInv.run hor k g1 (by simp; omega)
        refine ⟨S', e :: es, by simpa using h1, by rw [h2]; simp [WSt.step], ?_, by simp; omega⟩
        rw [h3, g2, List.set_set]
      · obtain ⟨S', es, h1, h2, h3, h4⟩ := WInv.run hor 0 h (by omega)
        exact ⟨S', es, h1, h2, h3, by omega⟩
def pL (c : Cfg) : SObj := .loop ⟨[(4, (.fptr [(.fsl ((c.lps).map lpC) false), (.fsl ((c.progs).map qce) false), (ii c.look), (ii c.fin), (ii c.cap)])), (13, .ptr 4 0 0 0)], []⟩ [22] qdy qd4 .ready none
def pLb (c : Cfg) : SObj := .loop ⟨[(4, (.fptr [(.fsl ((c.lps).map lpC) false), (.fsl ((c.progs).map qce) false), (ii c.look), (ii c.fin), (ii c.cap)])), (13, .ptr 4 0 0 0)], []⟩ [22] qdy qd4 .busy none
def pS (c : Cfg) (f : Bool) (w : WSt) (b : List Evt) (g1 g2 : Nat) : qr := ((.row 4 [[(ii 0), (ii 0), .fsl [] false, (ii 0)]] 0) :: .row 6 ((w.done).map Evt.r) g1 :: .row 6 ((w.sent).map Evt.r) g2 :: .row 8 [[(ii ((w.lp).r0)), (ii ((w.lp).r1)), (.fsl (((w.lp).procs).map Pr.r) f), (ii ((w.lp).sum)), (.fsl ((b).map Evt.r) false), .sl 1 g1 0 (w.done).length false, .sl 2 g2 0 (w.sent).length false, (bb w.over)]] 0 :: [.row 1 [[.ptr 3 0 0 0]] 0, .defr, (pL c)])
section
variable {c : Cfg} {f : Bool}
theorem w_round {e : Evt} (w : WSt) (rest : List Evt) (g1 g2 : Nat) (R : Ready c w.lp e) (hf : f = true → w.lp.procs = []) (hP : PlOk (rest, w.sent) (qbf c w.lp e).out) (hd : w.done.length ≤ 100000) :
    ∃ g1' g2' : Nat, (evL T).round 6 [(.agg [(ii e.time), (.fsl ((e.key).map qby) false), (ii e.lp), (ii e.kind), (ii e.proc), (ii e.arg)])] (pS c f w rest g1 g2 ++ [.row 6 [e.r] 0]) = some ((bb true), pS c f (w.step c e rest) (w.step c e rest).box g1' g2' ++ [.row 6 [e.r] 0]) := by
  obtain ⟨g1', g2', h⟩ := q4z (e := e) (.row 4 [[(ii 0), (ii 0), .fsl [] false, (ii 0)]] 0) (.row 1 [[.ptr 3 0 0 0]] 0) .defr (pLb c) (.row 6 [e.r] 0) (.row 6 [e.r] 0) g1 f (by simp only [Ev.SObj.lo, qbb, qm, qh, qd, qu, qak, zfc, eq_self]) (by simp only [Ev.SObj.lo, qg6, qh, qd, qu, qak, Nat.reduceLT, decide_true, zfc, eq_self]) (by simp only [Ev.SObj.lo, eq_self]) (by simp only [pLb, qcb, qax, qal, Ev.SObj.lo, qbb, qm, qbm, qg6, qh, qd, Nat.reduceLT, decide_true, zfc, eq_self]) (by simp only [Evt.r, qw, Ev.SObj.lo, qbb, qm, qh, qd, qu, qak, zfc, eq_self]) (by simp only [Evt.r, qw, Ev.SObj.lo, qbb, qm, qh, qd, qu, qak, zfc, eq_self]) w rest g2 R hf hP hd
  refine ⟨g1', g2', ?_⟩
  rw [q8t]
  generalize w.step c e rest = w' at *
  obtain ⟨et, ek, el, ei, ep, ea⟩ := e
  simp only [pLb, Evt.r, qdy, qd4] at h
  simp only [pS, pL, qdy, qd4, List.cons_append, List.nil_append, Evt.r, h, qaa, qw, qae, qcb, qax, qm9, qk9, Ev.exec, qb, qe, qc, qjw, qai, Ev.evs, Ev.Opnd.ev, Ev.Env.get, Ev.Env.set, Ev.look, qf, qv, Ev.AV.cells, qo, Ev.AV.plain, qag, qal, qg, Ev.SObj.lo, qbb, qm, qbm, qds, qg6, qh, qd, qu, qak, ↓qn, ↓reduceIte, List.length_cons, List.length_nil, List.getElem?_cons_zero, List.getElem?_cons_succ, List.take_succ_cons, List.take_zero, zfe, List.drop_succ_cons, List.drop_zero, List.drop_nil, List.cons_append, List.nil_append, List.append_nil, List.set_cons_zero, List.set_cons_succ, List.head?_cons, Nat.reduceAdd, Nat.reduceEqDiff, Nat.reduceLT, decide_true, zfc, zfa, and_self, ne_eq, zfb, zff, zfd, Nat.le_refl, eq_self]
theorem events_L (hor : Int) : ∀ (k : Nat) {w : WSt} {i : Nat} {O : List Evt} {S : Sim} {H : List Evt} (g1 g2 : Nat), w.done.length + k = 2000 → WInv c i w O S H → (f = true → w.lp.procs = []) → H.length + k ≤ 20000 →
    ∃ y, itB (exec (evL T) itL none qbp) (qs [0, 1, 2] true 7) ⟨[(0, .yld 6), (1, .fptr [.ptr 3 0 0 0]), (2, .fptr [(ii hor)])], []⟩ (pS c f w w.box g1 g2) = some y ∧
      ∃ g1' g2' : Nat, (y.1 = .exit 0 ∨ y.1 = .ret) ∧ y.2.1.marks = [] ∧ ∃ X : qr, y.2.2 = pS c f (WSt.run c hor k w) (WSt.run c hor k w).box g1' g2' ++ X := by
  intro k
  induction k with
  | zero =>
    intro w i O S H g1 g2 hk h hf hn
    have c1 : ¬ (w.done.length : Int) < 2000 := by omega
    have hx : ∃ y, it1 (exec (evL T) itL none qbp) (qs [0, 1, 2] true 7) ⟨[(0, .yld 6), (1, .fptr [.ptr 3 0 0 0]), (2, .fptr [(ii hor)])], []⟩ (pS c f w w.box g1 g2) = some (.inr y) ∧ (y.1 = .exit 0 ∨ y.1 = .ret) ∧ y.2.1.marks = [] ∧ y.2.2 = pS c f w w.box g1 g2 := by
      simp only [qbp, pS, pL, c1, Ev.exec, qb, qe, qc, qai, Ev.Opnd.ev, Ev.Env.get, Ev.Env.set, Ev.look, qf, qv, ql, ↓qn, Ev.it1, ↓reduceIte, List.getElem?_cons_zero, List.getElem?_cons_succ, List.drop_succ_cons, List.drop_zero, List.head?_cons, reduceCtorEq, decide_false, zfa, zfd, eq_self]
      exact ⟨_, rfl, by simp, rfl, rfl⟩
    obtain ⟨y, h1, h2, h3, h4⟩ := hx
    exact ⟨y, qow h1, g1, g2, h2, h3, [], by rw [List.append_nil]; exact h4⟩
  | succ k ih =>
    intro w i O S H g1 g2 hk h hf hn
    have c1 : (w.done.length : Int) < 2000 := by omega
    have hl := h.len
    obtain ⟨cf, hT⟩ := qwl w.box false hor (by omega)
    cases hb : w.box with
    | nil =>
      have hrun : WSt.run c hor (k + 1) w = w := by rw [WSt.run, hb]
      rw [hrun]
      rw [hb] at hT
      have hx : ∃ y, it1 (exec (evL T) itL none qbp) (qs [0, 1, 2] true 7) ⟨[(0, .yld 6), (1, .fptr [.ptr 3 0 0 0]), (2, .fptr [(ii hor)])], []⟩ (pS c f w [] g1 g2) = some (.inr y) ∧ (y.1 = .exit 0 ∨ y.1 = .ret) ∧ y.2.1.marks = [] ∧ ∃ X, y.2.2 = pS c f w w.box g1 g2 ++ X := by
        rw [hb]
        simp only [qs1, q54, List.map_nil] at hT
        simp only [qbp, pS, pL, c1, hT, List.map_nil, Ev.exec, qb, qe, qc, qaw, qai, Ev.evs, Ev.Opnd.ev, Ev.Env.get, Ev.Env.set, Ev.look, qf, qv, Ev.AV.cells, qo, Ev.AV.plain, ql, qbb, qm, qh, qd, qu, ↓qn, Ev.it1, ↓reduceIte, List.length_cons, List.length_nil, List.getElem?_cons_zero, List.getElem?_cons_succ, List.take_zero, List.drop_succ_cons, List.drop_zero, List.drop_nil, List.cons_append, List.nil_append, List.append_nil, List.set_cons_zero, List.set_cons_succ, List.head?_cons, Nat.reduceAdd, Nat.reduceEqDiff, reduceCtorEq, decide_true, zfc, Bool.not_false, zfa, and_self, ne_eq, zfb, zff, zfd, Nat.le_refl, eq_self]
        exact ⟨_, rfl, by simp, rfl, _, rfl⟩
      obtain ⟨y, h1, h2, h3, h4⟩ := hx
      exact ⟨y, qow h1, g1, g2, h2, h3, h4⟩
    | cons e rest =>
      rw [hb] at hT
      by_cases ht : e.time < hor
      · have hrun : WSt.run c hor (k + 1) w = WSt.run c hor k (w.step c e rest) := by rw [WSt.run, hb]; simp only [ht, if_true]
        rw [hrun]
        obtain ⟨_, R, _⟩ := h.ready (by omega) hb
        have hP := h.plOk (by omega) hb
        obtain ⟨S', hS, _⟩ := h.step (by omega) hb
        obtain ⟨g1', g2', hr⟩ := w_round w rest g1 g2 R hf hP (by omega)
        obtain ⟨y, k1, k2⟩ := ih (w := w.step c e rest) (S := S') (H := H ++ [e]) g1' g2' (by simp [WSt.step]; omega) hS (fun k => qx9 (hf k)) (by simp; omega)
        refine ⟨y, q0h ?_ k1, k2⟩
        clear k1 k2 ih hP R hS hrun
        generalize w.step c e rest = w' at *
        obtain ⟨et, ek, el, ei, ep, ea⟩ := e
        simp only at ht
        simp only [qs1, ht, if_true, List.map_cons, Evt.r] at hT
        simp only [pS, pL, List.cons_append, List.nil_append, Evt.r] at hr
        have hlo' := fun (w : WSt) => qae 7 w.lp.procs
        simp only [qbp, pS, pL, c1, hT, hr, List.map_cons, Evt.r, List.cons_append, qaa, qw, qae, qcb, qax, Ev.exec, qb, qe, qc, qaw, qs8, qai, Ev.evs, Ev.Opnd.ev, Ev.Env.get, Ev.Env.set, Ev.look, qf, qv, Ev.AV.cells, Ev.AV.uc, qo, Ev.AV.plain, ql, qs, Ev.keep, qal, qaf, qg, Ev.SObj.lo, qbb, qm, qbm, qds, qg6, q7s, qh, qd, qu, qak, ↓qn, Ev.it1, ↓reduceIte, List.length_cons, List.length_nil, List.getElem?_cons_zero, List.getElem?_cons_succ, List.take_succ_cons, List.take_zero, zfe, List.drop_succ_cons, List.drop_zero, List.drop_nil, List.cons_append, List.nil_append, List.append_nil, List.set_cons_zero, List.set_cons_succ, List.head?_cons, Nat.reduceAdd, Nat.reduceEqDiff, Nat.reduceLT, Nat.reduceLeDiff, reduceCtorEq, decide_true, zfc, Bool.not_true, zfa, and_self, ne_eq, zfb, zff, zfd, Nat.lt_add_one, Nat.le_refl, eq_self]
      · have hrun : WSt.run c hor (k + 1) w = w := by rw [WSt.run, hb]; simp only [ht, if_false]
        rw [hrun]
        have hx : ∃ y, it1 (exec (evL T) itL none qbp) (qs [0, 1, 2] true 7) ⟨[(0, .yld 6), (1, .fptr [.ptr 3 0 0 0]), (2, .fptr [(ii hor)])], []⟩ (pS c f w (e :: rest) g1 g2) = some (.inr y) ∧ (y.1 = .exit 0 ∨ y.1 = .ret) ∧ y.2.1.marks = [] ∧ ∃ X, y.2.2 = pS c f w w.box g1 g2 ++ X := by
          rw [hb]
          obtain ⟨et, ek, el, ei, ep, ea⟩ := e
          simp only at ht
          simp only [qs1, ht, if_false, q54, List.map_cons, List.map_nil, Evt.r] at hT
          simp only [qbp, pS, pL, c1, hT, List.map_cons, Evt.r, qaa, qw, Ev.exec, qb, qe, qc, qaw, qai, Ev.evs, Ev.Opnd.ev, Ev.Env.get, Ev.Env.set, Ev.look, qf, qv, Ev.AV.cells, qo, Ev.AV.plain, ql, qbb, qm, qh, qd, qak, ↓qn, Ev.it1, ↓reduceIte, List.length_cons, List.length_nil, List.getElem?_cons_zero, List.getElem?_cons_succ, List.take_zero, List.drop_succ_cons, List.drop_zero, List.drop_nil, List.cons_append, List.nil_append, List.append_nil, List.set_cons_zero, List.set_cons_succ, List.head?_cons, Nat.reduceAdd, Nat.reduceEqDiff, reduceCtorEq, decide_true, zfc, Bool.not_false, zfa, and_self, ne_eq, zfb, zff, zfd, Nat.le_refl, eq_self]
          exact ⟨_, rfl, by simp, rfl, _, rfl⟩
        obtain ⟨y, h1, h2, h3, h4⟩ := hx
        exact ⟨y, qow h1, g1, g2, h2, h3, h4⟩
theorem q66 (hor : Int) {x : Lp} {b : List Evt} {i : Nat} {O : List Evt} {S : Sim} {H : List Evt} (h : WInv c i ⟨x, b, [], [], false⟩ O S H) (hf : f = true → x.procs = []) (hn : H.length ≤ 18000) :
    ∃ g1 g2 : Nat, (evL T).call qca [.yld 6, .fptr [.ptr 3 0 0 0], .fptr [(ii hor)]] (pS c f ⟨x, b, [], [], false⟩ b 0 0) = some (.tup [], pS c f (WSt.run c hor 2000 ⟨x, b, [], [], false⟩) (WSt.run c hor 2000 ⟨x, b, [], [], false⟩).box g1 g2) := by
  obtain ⟨⟨y, e, σ⟩, k1, g1, g2, k2, k3, X, k4⟩ := events_L hor 2000 0 0 rfl h hf (by omega)
  simp only at k1 k2 k3 k4
  subst k4
  refine ⟨g1, g2, ?_⟩
  rw [qad qja qlp]
  generalize WSt.run c hor 2000 ⟨x, b, [], [], false⟩ = w at *
  have hn1 : ∀ (w : WSt) (b : List Evt) (g1 g2 : Nat), (pS c f w b g1 g2).length = 7 := fun _ _ _ _ => rfl
  have ht : ∀ (w : WSt) (b : List Evt) (g1 g2 : Nat) (X : qr), (pS c f w b g1 g2 ++ X).take 7 = pS c f w b g1 g2 := fun _ _ _ _ _ => List.take_left' rfl
  have hlo : ∀ (w : WSt) (b : List Evt) (g1 g2 : Nat), qg 7 (pS c f w b g1 g2) = true := fun w b g1 g2 => by simp only [pS, pL, qaa, qae, qcb, qax, qal, qg, Ev.SObj.lo, qbb, qm, qbm, qds, qg6, qh, qd, qu, qak, Nat.reduceLT, decide_true, zfc, eq_self]
  have ht0 : ∀ (w : WSt) (b : List Evt) (g1 g2 : Nat), (pS c f w b g1 g2).take 7 = pS c f w b g1 g2 := fun _ _ _ _ => rfl
  rcases k2 with rfl | rfl
  · simp only [qdq, hn1, ht, ht0, hlo, k1, k3, qj, Ev.exec, Ev.Env.get, Ev.look, qk, qi, qaj, Ev.kill, qag, qs, Ev.keep, qal, qaf, qbb, qb1, qbm, qg6, q7s, qh, qd, ↓qn, ↓qa3, ↓reduceIte, List.length_cons, List.length_nil, Nat.reduceAdd, Nat.reduceEqDiff, Nat.reduceLT, reduceCtorEq, decide_true, zfc, and_self, zfd, Nat.lt_add_one, eq_self]
  · simp only [qdq, hn1, ht, ht0, hlo, k1, k3, qj, Ev.exec, Ev.Env.get, Ev.look, qk, qi, qaj, Ev.kill, qag, qs, Ev.keep, qal, qaf, qbb, qb1, qbm, qg6, q7s, qh, qd, ↓qn, ↓qa3, ↓reduceIte, List.length_cons, List.length_nil, Nat.reduceAdd, Nat.reduceEqDiff, Nat.reduceLT, reduceCtorEq, decide_true, zfc, and_self, zfd, Nat.lt_add_one, eq_self]
theorem q1d (f : Bool) (w : WSt) (g1 g2 : Nat) (R0 X4 X5 X6 : SObj) (h0 : R0.lo 7 = true) (h4 : X4.lo 7 = true) (h5 : X5.lo 7 = true) (h6 : X6.lo 7 = true) : (evL T).call qcz [.ptr 3 0 0 0] (R0 :: .row 6 ((w.done).map Evt.r) g1 :: .row 6 ((w.sent).map Evt.r) g2 :: .row 8 [[(ii ((w.lp).r0)), (ii ((w.lp).r1)), (.fsl (((w.lp).procs).map Pr.r) f), (ii ((w.lp).sum)), (.fsl ((w.box).map Evt.r) false), .sl 1 g1 0 (w.done).length false, .sl 2 g2 0 (w.sent).length false, (bb w.over)]] 0 :: [X4, X5, X6]) =
    some (.tup [.agg [(ii w.lp.r0), (ii w.lp.r1), (.fsl ((w.lp.procs).map Pr.r) f), (ii w.lp.sum)], (.fsl ((w.box).map Evt.r) false), .sl 1 g1 0 w.done.length false, .sl 2 g2 0 w.sent.length false, (bb w.over)], (R0 :: .row 6 ((w.done).map Evt.r) g1 :: .row 6 ((w.sent).map Evt.r) g2 :: .row 8 [[(ii ((w.lp).r0)), (ii ((w.lp).r1)), (.fsl (((w.lp).procs).map Pr.r) f), (ii ((w.lp).sum)), (.fsl ((w.box).map Evt.r) false), .sl 1 g1 0 (w.done).length false, .sl 2 g2 0 (w.sent).length false, (bb w.over)]] 0 :: [X4, X5, X6])) := by
  simp only [SObj.lo] at h0 h4 h5 h6
  rw [qad qnn qmz]
  simp only [qfr, h0, h4, h5, h6, qaa, qae, qj, Ev.exec, qb, qe, qc, qai, Ev.Opnd.ev, Ev.Env.get, Ev.Env.set, Ev.look, qk, qf, qv, Ev.AV.cells, qo, Ev.AV.plain, qi, qq, qaj, Ev.kill, qag, qg, Ev.SObj.lo, qbb, qa2, qb1, qm, qds, qmh, Ev.AV.obj?, qh, qd, qu, qak, ↓qn, ↓reduceIte, List.length_cons, List.length_nil, List.getElem?_cons_zero, List.getElem?_cons_succ, List.take_succ_cons, List.take_zero, zfe, List.drop_succ_cons, List.drop_zero, List.drop_nil, List.cons_append, List.nil_append, List.append_nil, List.set_cons_zero, List.set_cons_succ, List.head?_cons, Nat.reduceAdd, Nat.reduceEqDiff, Nat.reduceBEq, Nat.reduceLT, Nat.reduceLeDiff, reduceCtorEq, decide_true, zfc, Bool.not_false, zfa, and_self, ne_eq, zfb, zff, zfd, Nat.add_zero, Nat.le_refl, eq_self]
  try rfl
theorem quz (hor : Int) {x : Lp} {b : List Evt} {cb : Bool} {i : Nat} {O : List Evt} {S : Sim} {H : List Evt} (h : WInv c i ⟨x, b, [], [], false⟩ O S H) (hf : f = true → x.procs = []) (hn : H.length ≤ 18000) :
    qa4 (evL T) qdg [(.agg [(.fsl ((c.lps).map lpC) false), (.fsl ((c.progs).map qce) false), (ii c.look), (ii c.fin), (ii c.cap)]), (.agg [(ii x.r0), (ii x.r1), (.fsl ((x.procs).map Pr.r) f), (ii x.sum)]), (.fsl ((b).map Evt.r) cb), (ii hor)] = some (.tup [(.agg [(ii ((WSt.run c hor 2000 ⟨x, b, [], [], false⟩).lp.r0)), (ii ((WSt.run c hor 2000 ⟨x, b, [], [], false⟩).lp.r1)), (.fsl (((WSt.run c hor 2000 ⟨x, b, [], [], false⟩).lp.procs).map Pr.r) f), (ii ((WSt.run c hor 2000 ⟨x, b, [], [], false⟩).lp.sum))]), (.fsl (((WSt.run c hor 2000 ⟨x, b, [], [], false⟩).box).map Evt.r) false), (.fsl (((WSt.run c hor 2000 ⟨x, b, [], [], false⟩).done).map Evt.r) false), (.fsl (((WSt.run c hor 2000 ⟨x, b, [], [], false⟩).sent).map Evt.r) false), (bb ((WSt.run c hor 2000 ⟨x, b, [], [], false⟩).over))]) := by
  obtain ⟨g1, g2, h1⟩ := q66 hor h hf hn
  generalize WSt.run c hor 2000 ⟨x, b, [], [], false⟩ = w at *
  have h2 := q1d f w g1 g2 (.row 4 [[(ii 0), (ii 0), .fsl [] false, (ii 0)]] 0) (.row 1 [[.ptr 3 0 0 0]] 0) .dead (.loop ⟨[(4, (.fptr [(.fsl ((c.lps).map lpC) false), (.fsl ((c.progs).map qce) false), (ii c.look), (ii c.fin), (ii c.cap)])), (13, .ptr 4 0 0 0)], []⟩ [22] qdy qd4 .exhausted none) (by simp only [Ev.SObj.lo, qbb, qm, qh, qd, qu, qak, zfc, eq_self]) (by simp only [Ev.SObj.lo, qg6, qh, qd, qu, qak, Nat.reduceLT, decide_true, zfc, eq_self]) (by simp only [Ev.SObj.lo, eq_self]) (by simp only [qcb, qax, qal, Ev.SObj.lo, qbb, qm, qbm, qg6, qh, qd, Nat.reduceLT, decide_true, zfc, eq_self])
  have h2' := q1d f w g1 g2 (.row 4 [[(ii 0), (ii 0), .fsl [] false, (ii 0)]] 0) (.row 1 [[.ptr 3 0 0 0]] 0) .defr (.loop ⟨[(4, (.fptr [(.fsl ((c.lps).map lpC) false), (.fsl ((c.progs).map qce) false), (ii c.look), (ii c.fin), (ii c.cap)])), (13, .ptr 4 0 0 0)], []⟩ [22] qdy qd4 .exhausted none) (by simp only [Ev.SObj.lo, qbb, qm, qh, qd, qu, qak, zfc, eq_self]) (by simp only [Ev.SObj.lo, qg6, qh, qd, qu, qak, Nat.reduceLT, decide_true, zfc, eq_self]) (by simp only [Ev.SObj.lo, eq_self]) (by simp only [qcb, qax, qal, Ev.SObj.lo, qbb, qm, qbm, qg6, qh, qd, Nat.reduceLT, decide_true, zfc, eq_self])
  have hev : ∀ σ : qr, (evL T).call qc0 [.ptr 3 0 0 0, (ii hor)] σ = some (.fn (.func qca) [] [.fptr [.ptr 3 0 0 0], .fptr [(ii hor)]], σ) := fun σ => by
    rw [qad qnz qm5]
    simp only [qfq, ite_self, List.take_length, qj, Ev.exec, qb, qe, qc, qai, Ev.evs, Ev.Opnd.ev, Ev.Env.get, Ev.Env.set, Ev.look, qk, Ev.AV.cells, Ev.AV.uc, qo, Ev.AV.plain, qi, qq, qaj, Ev.kill, qag, qbb, qbm, qg6, qy1, qh, qd, List.take_length, ↓qn, ↓reduceIte, List.length_cons, List.length_nil, Nat.reduceAdd, Nat.reduceEqDiff, reduceCtorEq, zfc, Bool.and_true, Bool.true_and, and_self, ne_eq, zfb, zff, zfd, eq_self]
  have tk1 : List.take w.done.length (w.done.map Evt.r) = w.done.map Evt.r := List.take_of_length_le (by simp)
  have tk2 : List.take w.sent.length (w.sent.map Evt.r) = w.sent.map Evt.r := List.take_of_length_le (by simp)
  have hle : ∀ n : Nat, n ≤ n := fun n => Nat.le_refl n
  simp only [pS, pL, List.map_nil, List.length_nil] at h1
  rw [qa4, qad qsx qrv]
  simp only [qj4, hev, h1, h2', tk1, tk2, hle, evL_ent qja, qaa, qae, qj, qoy, Ev.exec, qb, qe, qc, qjw, qai, q25, Ev.evs, Ev.Opnd.ev, Ev.Env.get, Ev.Env.set, Ev.look, qk, qf, qv, qfz, Ev.AV.cells, Ev.AV.uc, qo, Ev.AV.plain, qi, qq, qaj, Ev.kill, qag, Ev.keep, qg, qbb, qa2, qb1, qm, qds, qh, qd, qx, quc, qhg, qe3, qgx, qel, List.length_map, ↓qn, ↓reduceIte, List.length_cons, List.length_nil, List.getElem?_cons_zero, List.getElem?_cons_succ, List.take_succ_cons, List.take_zero, zfe, List.drop_succ_cons, List.drop_zero, List.drop_nil, List.cons_append, List.nil_append, List.append_nil, List.set_cons_zero, List.set_cons_succ, List.head?_cons, Nat.reduceAdd, Nat.reduceEqDiff, Nat.reduceLT, Nat.reduceLeDiff, reduceCtorEq, decide_false, zfc, Bool.and_true, zfa, and_self, and_true, ne_eq, zfb, zff, zfd, eq_self, Bool.and_false]
end
set_option maxRecDepth 10000
structure SimSt (n : Nat) (s : Sim) (L : List (Lp × Bool)) (A : qr) (O : List (List AV)) : Prop where
  len : A.length = n + 1
  lps : A[0]? = some (.row 4 (L.map lpF) 1)
  lpl : L.length = n
  lpf : L.map Prod.fst = s.lps
  flag : ∀ x ∈ L, x.2 = true → x.1.procs = []
  trl : s.trace.length = n
  ol : O.length = n
  tr : ∀ i : Nat, i < n → ∃ g, A[i + 1]? = some (.row 6 ((qsm s i).map Evt.r) g) ∧ O[i]? = some [.sl (i + 1) g 0 (qsm s i).length false]
  alo : qg (n + 1) A = true
  olo : qiu (n + 1) O = true
structure Pre (A : qr) (n : Nat) : Prop where
  len : A.length = n + 1
section
variable {A : qr} {n : Nat} (h : A.length = n + 1) (B : qr) (x : SObj)
include h
end
section
variable (c : Cfg) (n : Nat) (A : qr) (O : List (List AV)) (hA : A.length = n + 1) (rest : List Evt) (e : Evt) (k : Int) (ov : Bool)
include hA
end
set_option maxRecDepth 10000
def q4g : List Evt → List Evt → List Evt
  | [], b => b
  | x :: ax, [] => x :: ax
  | x :: ax, y :: bs => if qsl y x < 0 then y :: q4g (x :: ax) bs else x :: q4g ax (y :: bs)
termination_by a b => a.length + b.length
section
variable (a0 b0 : List Evt)
structure MgInv (s : (List Evt × List Evt) × (List Evt × Nat)) : Prop where
  sum : s.2.1 ++ q4g s.1.1 s.1.2 = q4g a0 b0
  len : s.2.1.length + (s.1.1.length + s.1.2.length) ≤ 1000000
  ka : qic s.1.1
  kb : qic s.1.2
end
set_option maxRecDepth 10000
structure DSt (n : Nat) (B : List (List AV)) (t : Nat → List Evt) (A : qr) (O : List (List AV)) : Prop where
  len : A.length = n + 1
  box : A[0]? = some (.row 1 B 0)
  ol : O.length = n
  tr : ∀ i : Nat, i < n → ∃ g, A[i + 1]? = some (.row 6 ((t i).map Evt.r) g) ∧ O[i]? = some [.sl (i + 1) g 0 (t i).length false]
  alo : qg (n + 1) A = true
  olo : qiu (n + 1) O = true
section
variable (n : Nat) (B : List (List AV)) (D : List Evt) (cd : Bool)
end
set_option maxRecDepth 10000
section
variable (c : Cfg) (n : Nat) (A : qr) (O : List (List AV)) (hA : A.length = n + 1) (rest : List Evt) (et ei ep ea : Int) (ek : List Int) (i : Nat) (hi : i < n) (k : Int) (ov : Bool)
include hA
end
set_option maxRecDepth 10000
section
variable (c : Cfg) (n : Nat) (A : qr) (O : List (List AV)) (hA : A.length = n + 1) (rest : List Evt) (et ei ep ea : Int) (ek : List Int) (i : Nat) (hi : i < n) (k : Int) (ov : Bool)
include hA
end
set_option maxRecDepth 10000
section
variable {c : Cfg} {s : Sim} {h : List Evt} {n : Nat} {L : List (Lp × Bool)} {A : qr} {O : List (List AV)}
end
set_option maxRecDepth 10000
section
variable {c : Cfg} {s : Sim} {h : List Evt} {n : Nat} {L : List (Lp × Bool)} {A : qr} {O : List (List AV)}
end
set_option maxRecDepth 10000
section
variable (n ps lps look : Int) (x : OpI)
end
section
variable (p : List OpI) (c : Bool) (n ps lps look : Int)
end
set_option maxRecDepth 10000
section
variable (k : Nat) (cap : List AV) (hcap : los 0 cap = true)
include hcap
end
set_option maxRecDepth 10000
section
variable (c : Cfg)
structure CfgOk (c : Cfg) : Prop where
  lps : c.lps.length < 2 ^ 62
  progs : c.progs.length < 2 ^ 62
  prog : ∀ p ∈ c.progs, p.length < 2 ^ 62
  lp : ∀ l ∈ c.lps, l.length < 2 ^ 62
end
set_option maxRecDepth 10000
set_option maxRecDepth 10000
section
variable {c : Cfg} {s : Sim} {h : List Evt} {n : Nat} {L : List (Lp × Bool)} {A : qr} {O : List (List AV)}
end
set_option maxRecDepth 10000
theorem q2a (h : List Evt) : ∀ n : Nat, ((List.range n).map fun i => qf8 h i).flatten.Perm (h.filter fun e => decide (0 ≤ e.lp ∧ e.lp < (n : Int)))
  | 0 => by
    have : h.filter (fun e => decide (0 ≤ e.lp ∧ e.lp < ((0 : Nat) : Int))) = [] := List.filter_eq_nil_iff.2 (fun e _ => by simp only [decide_eq_true_eq]; omega)
    rw [this]; exact .refl _
  | n + 1 => by
    rw [List.range_succ, List.map_append, List.flatten_append]
    refine (List.Perm.append (q2a h n) (.refl _)).trans ?_
    have e1 : h.filter (fun e => decide (0 ≤ e.lp ∧ e.lp < (n : Int))) = (h.filter fun e => decide (0 ≤ e.lp ∧ e.lp < ((n + 1 : Nat) : Int))).filter (fun e => decide (e.lp < (n : Int))) := by
      rw [List.filter_filter]
      refine List.filter_congr (fun e _ => ?_)
      rw [← Bool.decide_and]
      refine decide_eq_decide.2 ?_
      omega
    have e2 : ([qf8 h n].flatten : List Evt) = (h.filter fun e => decide (0 ≤ e.lp ∧ e.lp < ((n + 1 : Nat) : Int))).filter (fun e => !decide (e.lp < (n : Int))) := by
      rw [List.filter_filter, List.flatten_cons, List.flatten_nil, List.append_nil]
      refine List.filter_congr (fun e _ => ?_)
      rw [← decide_not, ← Bool.decide_and]
      refine decide_eq_decide.2 ?_
      omega
    rw [e1, List.map_cons, List.map_nil, e2]
    exact List.filter_append_perm _ _
theorem own_perm {h : List Evt} {n : Nat} (hl : ∀ e ∈ h, 0 ≤ e.lp ∧ e.lp < (n : Int)) : ((List.range n).map fun i => qf8 h i).flatten.Perm h := by
  have := q2a h n
  rwa [List.filter_eq_self.2 (fun e he => by simpa using hl e he)] at this
section
variable {c : Cfg} {s : Sim} {h : List Evt}
theorem ran (hv : Valid c) (lim : Nat) (hl : lim ≤ 60) : ∃ h, SInv c (Sim.run c lim (start c)) h ∧ h.length ≤ lim ∧ (h.length = lim ∨ (Sim.run c lim (start c)).ready c = false) := by
  obtain ⟨h, h1, h2, h3⟩ := SInv.run lim (SInv.start hv) (by simp; omega)
  exact ⟨h, by simpa using h1, h2, h3⟩
end
set_option maxRecDepth 10000
structure Good (c : Cfg) : Prop where
  h12 : Small12 c
  v : Valid c
theorem good_of {c : Cfg} (h : okB c = true) : Good c := by
  simp only [okB, Bool.and_eq_true, Bool.not_eq_true', decide_eq_true_eq] at h
  obtain ⟨h1, h2⟩ := h
  obtain ⟨g1, g2, g3, g4⟩ := qwv c h1
  exact ⟨⟨g1, g3⟩, valid_of h2⟩
def runS (c : Cfg) (lim : Nat) : Sim := Sim.run c lim (start c)
structure RunF (c : Cfg) (s : Sim) (h : List Evt) : Prop where
  inv : SInv c s h
  len : h.length ≤ 60
theorem RunF.n {c : Cfg} {s : Sim} {h : List Evt} (H : RunF c s h) : s.trace.length = c.lps.length ∧ c.lps.length ≤ 8 := ⟨H.inv.trl, H.inv.valid.lps.2⟩
set_option maxRecDepth 10000
section
variable (l : List Evt) (cl : Bool)
theorem q2x (out : List Evt) (x : Evt) (i : Nat) (cf : Bool) (hx : l[i]? = some x) (ho : out.length ≤ 1000000) (hk : qic out) (hkx : x.key.length ≤ 9223372036854775807) :
    ∃ y, itB (exec (evL T) itL none qe0) (qs [0, 3, 4, 5] true 0) ⟨[(0, (.fsl ((l).map Evt.r) cl)), (3, (.fsl ((out).map Evt.r) cf)), (4, (ii i)), (5, (ii out.length))], []⟩ [] = some y ∧
      ∃ k : Nat, y.1 = .exit 2 ∧ y.2.1.marks = [] ∧ y.2.2 = [] ∧ Ev.look y.2.1.vars 0 = some (.fsl ((l).map Evt.r) cl) ∧ Ev.look y.2.1.vars 3 = some (.fsl ((out).map Evt.r) cf) ∧ Ev.look y.2.1.vars 4 = some (ii i) ∧ Ev.look y.2.1.vars 5 = some (ii k) ∧
        k ≤ out.length ∧ (∀ u, 0 < k → out[k - 1]? = some u → leE u x) ∧ (∀ v, out[k]? = some v → leE x v) := by
  refine qxk (τ := Nat) (fun k => ⟨[(0, (.fsl ((l).map Evt.r) cl)), (3, (.fsl ((out).map Evt.r) cf)), (4, (ii i)), (5, (ii k))], []⟩) (fun _ => []) (fun k => k)
    (fun k => k ≤ out.length ∧ (∀ v, out[k]? = some v → leE x v)) _ ?_ out.length ⟨Nat.le_refl _, fun v hv => by simp at hv⟩
  rintro k ⟨h1, h2⟩
  cases k with
  | zero =>
    right
    simp only [qe0, Int.lt_irrefl, Ev.exec, qb, qe, qc, qai, Ev.Opnd.ev, Ev.Env.get, Ev.Env.set, Ev.Env.unset, Ev.look, qbh, ↓qn, Ev.it1, ↓reduceIte, Nat.reduceEqDiff, Int.cast_ofNat_Int, reduceCtorEq, decide_false, zfa, eq_self]
    exact ⟨_, rfl, 0, rfl, rfl, rfl, rfl, rfl, rfl, rfl, Nat.zero_le _, fun u h => by omega, h2⟩
  | succ j =>
    obtain ⟨y, hy⟩ : ∃ y, out[j]? = some y := ⟨_, List.getElem?_eq_getElem (by omega)⟩
    obtain ⟨k, hk1⟩ : ∃ k, k = j + 1 := ⟨_, rfl⟩
    rw [← hk1] at h1 h2 ⊢
    have c1 : (k : Int) > 0 := by omega
    have w1 : IntKind.i64.wrap ((k : Int) - 1) = (j : Int) := q31 hk1 (by omega)
    have hc := qks y x (hk y (List.mem_of_getElem? hy)) hkx
    by_cases hlt : qsl y x > 0
    · left
      refine ⟨j, ?_, ⟨by omega, fun v hv => by rw [hy] at hv; cases hv; exact (by have := qo8 y x; unfold leE; omega)⟩, by omega⟩
      obtain ⟨xt, xk, xl, xi, xp, xa⟩ := x
      obtain ⟨yt, yk, yl, yi, yp, ya⟩ := y
      simp only at hc
      simp only [qe0, Int.natCast_nonneg, Int.toNat_natCast, List.getElem?_map, Option.map_some, hx, hy, c1, w1, hc, hlt, Evt.r, qaa, qw, Ev.exec, qb, qe, qc, qaw, qai, Ev.evs, Ev.Opnd.ev, Ev.Env.get, Ev.Env.set, Ev.look, qf, qv, qrs, qbh, qs, Ev.keep, qal, qaf, qg, qbb, qa2, qm, qh, qd, ↓qn, Ev.it1, ↓reduceIte, List.length_cons, List.length_nil, List.take_succ_cons, zfe, Nat.reduceAdd, Nat.reduceEqDiff, reduceCtorEq, decide_true, zfc, and_self, zfd, Nat.le_refl, eq_self]
    · right
      have hle : leE y x := by unfold leE; omega
      have h3 : ∀ u, 0 < k → out[k - 1]? = some u → leE u x := fun u _ hu => by
        rw [hk1, Nat.add_sub_cancel, hy] at hu; cases hu; exact hle
      clear hle
      obtain ⟨xt, xk, xl, xi, xp, xa⟩ := x
      obtain ⟨yt, yk, yl, yi, yp, ya⟩ := y
      simp only at hc
      simp only [qe0, Int.natCast_nonneg, Int.toNat_natCast, List.getElem?_map, Option.map_some, hx, hy, c1, w1, hc, hlt, Evt.r, qw, Ev.exec, qb, qe, qc, qaw, qai, Ev.evs, Ev.Opnd.ev, Ev.Env.get, Ev.Env.set, Ev.look, qf, qv, qrs, qbh, qbb, qa2, qm, qh, qd, ↓qn, Ev.it1, ↓reduceIte, List.length_cons, List.length_nil, List.take_succ_cons, zfe, Nat.reduceAdd, Nat.reduceEqDiff, reduceCtorEq, decide_true, decide_false, zfc, zfa, zfd, Nat.le_refl, eq_self]
      exact ⟨_, rfl, k, rfl, rfl, rfl, rfl, rfl, rfl, rfl, h1, h3, h2⟩
theorem q26 (hl : l.length ≤ 1000000) (hk : qic l) :
    ∃ y, itB (exec (evL T) itL none qcx) (qs [0, 3, 4] true 0) ⟨[(0, (.fsl ((l).map Evt.r) cl)), (3, .fsl [] true), (4, (ii 0))], []⟩ [] = some y ∧
      ∃ (l' : List Evt) (cf : Bool), y.1 = .exit 0 ∧ y.2.1.marks = [] ∧ y.2.2 = [] ∧ Ev.look y.2.1.vars 3 = some (.fsl ((l').map Evt.r) cf) ∧ l'.Perm l ∧ l'.Pairwise leE ∧ (l ≠ [] → cf = false) := by
  have key := qf2 (f := exec (evL T) itL none qcx) (s := qs [0, 3, 4] true 0) (α := List Evt × Bool)
    (fun i a => ⟨[(0, (.fsl ((l).map Evt.r) cl)), (3, (.fsl ((a.1).map Evt.r) a.2)), (4, (ii i))], []⟩) (fun i a => [])
    (fun i a => a.1.Perm (l.take i) ∧ a.1.Pairwise leE ∧ (i ≠ 0 → a.2 = false)) l.length
    (fun y => ∃ (l' : List Evt) (cf : Bool), y.1 = .exit 0 ∧ y.2.1.marks = [] ∧ y.2.2 = [] ∧ Ev.look y.2.1.vars 3 = some (.fsl ((l').map Evt.r) cf) ∧ l'.Perm l ∧ l'.Pairwise leE ∧ (l ≠ [] → cf = false)) ?_ ?_ 0 ([], true) (Nat.zero_le _) ⟨by simp, .nil, fun h => absurd rfl h⟩
  · exact key
  · rintro i ⟨out, cf⟩ hi ⟨hp, hs, _⟩
    simp only at hp hs ⊢
    obtain ⟨x, hx⟩ : ∃ x, l[i]? = some x := ⟨_, List.getElem?_eq_getElem hi⟩
    have hi' : (i : Int) < (l.length : Int) := by omega
    have hw : IntKind.i64.wrap ((i : Int) + 1) = ((i + 1 : Nat) : Int) := by rw [qas (by omega) (by omega)]; simp
    have hol : out.length ≤ 1000000 := by have := hp.length_eq; rw [List.length_take] at this; omega
    obtain ⟨⟨y, e, σ⟩, k1, k, k2, k3, k4, k5, k6, k7, k8, k9, k10, k11⟩ := q2x l cl out x i cf hx hol (fun z hz => hk z (List.mem_of_mem_take (hp.mem_iff.1 hz))) (hk x (List.mem_of_getElem? hx))
    simp only at k1 k2 k3 k4 k5 k6 k7 k8
    subst k2; subst k4
    obtain ⟨A, B, rfl, hA⟩ : ∃ A B, out = A ++ B ∧ A.length = k := ⟨out.take k, out.drop k, (List.take_append_drop _ _).symm, by simp; omega⟩
    subst hA
    have c1 : (A.length : Int) ≤ ((A ++ B).length : Int) := by rw [List.length_append]; omega
    have c2 : (0 : Int) ≤ (A.length : Int) := by omega
    have tk : List.take A.length ((A ++ B).map Evt.r) = A.map Evt.r := by rw [List.map_append]; exact List.take_left' (by simp)
    have dr : List.drop A.length ((A ++ B).map Evt.r) = B.map Evt.r := by rw [List.map_append]; exact List.drop_left' (by simp)
    have hlen : A.length + B.length ≤ 1000000 := by rw [List.length_append] at hol; exact hol
    have new : (A ++ x :: B).Perm (l.take (i + 1)) ∧ (A ++ x :: B).Pairwise leE := by
      constructor
      · rw [qi4 hx]
        exact (List.perm_middle.trans ((List.Perm.cons x hp))).trans (List.perm_append_singleton x _).symm
      · refine qu4 qte hs (fun u hu => ?_) (fun v hv => ?_)
        · have hlt : A.length - 1 < A.length := (List.getElem?_eq_some_iff.1 hu).1
          refine k10 u (by omega) ?_
          rw [List.getElem?_append_left hlt]; exact hu
        · refine k11 v ?_
          rw [List.getElem?_append_right (Nat.le_refl _), Nat.sub_self]; exact hv
    refine .inl ⟨(A ++ x :: B, false), ?_, new.1, new.2, fun _ => rfl⟩
    have b1 : A.length * 64 ≤ 140737488355328 := by omega
    have b2 : (A.length + 1) * 64 ≤ 140737488355328 := by omega
    have b3 : (A.length + 1 + B.length) * 64 ≤ 140737488355328 := by omega
    have tb : List.take ((A ++ B).length - A.length) (B.map Evt.r) = B.map Evt.r := List.take_of_length_le (by simp)
    have ta : List.take A.length (A.map Evt.r) = A.map Evt.r := List.take_of_length_le (by simp)
    have ta2 : ∀ e : List AV, List.take (A.length + 1) (A.map Evt.r ++ [e]) = A.map Evt.r ++ [e] := fun e => List.take_of_length_le (by simp)
    have ta3 : ∀ e : List AV, List.take (A.length + 1 + B.length) (A.map Evt.r ++ e :: B.map Evt.r) = A.map Evt.r ++ e :: B.map Evt.r := fun e => List.take_of_length_le (by simp; omega)
    have okAB : qcd 6 ((A ++ B).map Evt.r) = true := qe1 _
    have goal' : (AV.fsl ((A ++ x :: B).map Evt.r) false) = AV.fsl (A.map Evt.r ++ x.r :: B.map Evt.r) false := by rw [List.map_append, List.map_cons]
    have n1 : ∀ p q : Nat, p + 1 + q ≤ p + (q + 1) := fun p q => by omega
    have n2 : ∀ q : Nat, 1 + q ≤ q + 1 := fun q => by omega
    simp only
    rw [goal']
    rcases A with _ | ⟨a, A⟩ <;> rcases B with _ | ⟨b, B⟩
    · obtain ⟨xt, xk, xl, xi, xp, xa⟩ := x
      simp only [List.nil_append, List.length_nil, List.map_nil, Int.ofNat_zero] at *
      simp only [qcx, Int.natCast_nonneg, Int.toNat_natCast, List.getElem?_map, Option.map_some, hx, hi', hw, k1, k3, k5, k6, k7, k8, c1, tk, dr, b1, b2, ta2, okAB, imp_self, Nat.sub_zero, Int.toNat_zero, Evt.r, qaa, qw, Ev.exec, qb, qe, qc, qai, qm4, Ev.Opnd.ev, Ev.Env.get, Ev.Env.set, Ev.look, qf9, qf, qbq, qv, qfm, Ev.AV.cells, qo, Ev.AV.plain, qao, ql, qs, Ev.keep, qal, qaf, qg, qbb, qm, qh, qd, qu, qak, qbg, List.replicate_one, List.length_map, ↓qn, ↓qa3, Ev.it1, ↓reduceIte, List.length_cons, List.length_nil, List.getElem?_cons_zero, List.take_succ_cons, List.take_zero, zfe, List.drop_zero, List.nil_append, List.set_cons_zero, Nat.reduceAdd, Nat.reduceEqDiff, Nat.reduceMul, Nat.reduceLT, Nat.reduceLeDiff, Nat.reducePow, Int.cast_ofNat_Int, reduceCtorEq, decide_true, zfc, Bool.and_true, zfa, and_self, ne_eq, zfb, zff, zfd, Nat.add_zero, Nat.lt_add_one, Nat.le_refl, Option.isSome_some, Option.isSome_none, eq_self, implies_true]
    · generalize hRB : List.map Evt.r (b :: B) = RB at *
      have nB : ¬ RB = [] := by rw [← hRB]; simp
      have lB : RB.length = (b :: B).length := by rw [← hRB]; simp
      have oB : qcd 6 RB = true := by rw [← hRB]; exact qe1 _
      have loB : ∀ n, qiu n RB = true := fun n => by rw [← hRB]; exact qaa n _
      obtain ⟨xt, xk, xl, xi, xp, xa⟩ := x
      simp only [List.nil_append, List.length_nil, List.map_nil, Int.ofNat_zero, hRB, Nat.sub_zero, List.drop_zero] at *
      generalize hrb : (b :: B).length = nb at *
      simp only [qcx, Int.natCast_nonneg, Int.toNat_natCast, List.getElem?_map, Option.map_some, hx, hi', hw, k1, k3, k5, k6, k7, k8, c1, c2, tk, b1, b2, b3, ta, ta2, ta3, tb, okAB, imp_self, n2, Int.le_refl, Nat.sub_zero, nB, lB, loB, qbc, Int.toNat_zero, Evt.r, qaa, qw, Ev.exec, qb, qe, qc, qai, qm4, Ev.Opnd.ev, Ev.Env.get, Ev.Env.set, Ev.look, qf9, qf, qbq, qv, qfm, Ev.AV.cells, qo, Ev.AV.plain, qao, ql, qs, Ev.keep, qal, qaf, qg, qbb, qm, qh, qd, qak, qbc, qbg, List.replicate_one, List.length_map, ↓qn, ↓qa3, Ev.it1, ↓reduceIte, List.length_cons, List.length_nil, List.getElem?_cons_zero, List.take_succ_cons, List.take_zero, zfe, List.drop_zero, List.cons_append, List.nil_append, List.set_cons_zero, Nat.reduceAdd, Nat.reduceEqDiff, Nat.reduceMul, Nat.reduceLT, Nat.reduceLeDiff, Nat.reducePow, reduceCtorEq, decide_true, zfc, Bool.and_true, zfa, and_self, ne_eq, zfb, zff, zfd, Nat.add_zero, Nat.lt_add_one, Nat.le_refl, Option.isSome_some, Option.isSome_none, eq_self, implies_true]
    · generalize hRA : List.map Evt.r (a :: A) = RA at *
      have nA : ¬ RA = [] := by rw [← hRA]; simp
      have lA : RA.length = (a :: A).length := by rw [← hRA]; simp
      have oA : qcd 6 RA = true := by rw [← hRA]; exact qe1 _
      have loA : ∀ n, qiu n RA = true := fun n => by rw [← hRA]; exact qaa n _
      obtain ⟨xt, xk, xl, xi, xp, xa⟩ := x
      simp only [List.append_nil, List.length_nil, List.map_nil, hRA, Nat.add_zero, Nat.sub_self] at *
      generalize hra : (a :: A).length = na at *
      simp only [qcx, Int.natCast_nonneg, Int.toNat_natCast, List.getElem?_map, Option.map_some, hx, hi', hw, k1, k3, k5, k6, k7, k8, c1, c2, tk, dr, b1, b2, ta2, tb, okAB, imp_self, Int.le_refl, Nat.sub_zero, nA, lA, loA, qbc, zfe, qjk, Evt.r, qaa, qw, Ev.exec, qb, qe, qc, qai, qm4, Ev.Opnd.ev, Ev.Env.get, Ev.Env.set, Ev.look, qf9, qf, qbq, qv, qfm, Ev.AV.cells, qo, Ev.AV.plain, qao, ql, qs, Ev.keep, qal, qaf, qg, qbb, qm, qh, qd, qu, qak, qbc, qbg, List.replicate_one, List.length_map, ↓qn, ↓qa3, Ev.it1, ↓reduceIte, List.length_cons, List.length_nil, List.length_append, List.getElem?_cons_zero, List.take_succ_cons, List.take_zero, zfe, List.drop_zero, List.nil_append, List.set_cons_zero, Nat.reduceAdd, Nat.reduceEqDiff, Nat.reduceMul, Nat.reduceLT, Nat.reduceLeDiff, Nat.reducePow, Int.reduceToNat, reduceCtorEq, decide_true, zfc, Bool.and_true, zfa, and_self, ne_eq, zfb, zff, zfd, Nat.add_zero, Nat.lt_add_one, Nat.le_refl, Option.isSome_some, Option.isSome_none, eq_self, implies_true]
    · generalize hRA : List.map Evt.r (a :: A) = RA at *
      generalize hRB : List.map Evt.r (b :: B) = RB at *
      have nA : ¬ RA = [] := by rw [← hRA]; simp
      have nB : ¬ RB = [] := by rw [← hRB]; simp
      have lA : RA.length = (a :: A).length := by rw [← hRA]; simp
      have lB : RB.length = (b :: B).length := by rw [← hRB]; simp
      have oA : qcd 6 RA = true := by rw [← hRA]; exact qe1 _
      have oB : qcd 6 RB = true := by rw [← hRB]; exact qe1 _
      have loA : ∀ n, qiu n RA = true := fun n => by rw [← hRA]; exact qaa n _
      have loB : ∀ n, qiu n RB = true := fun n => by rw [← hRB]; exact qaa n _
      generalize hra : (a :: A).length = na at *
      generalize hrb : (b :: B).length = nb at *
      generalize (a :: A) ++ (b :: B) = AB at *
      obtain ⟨xt, xk, xl, xi, xp, xa⟩ := x
      simp only [qcx, Int.natCast_nonneg, Int.toNat_natCast, List.getElem?_map, Option.map_some, hx, hi', hw, k1, k3, k5, k6, k7, k8, c1, c2, tk, dr, b1, b2, b3, ta, ta2, ta3, tb, okAB, imp_self, n1, List.append_assoc, Int.le_refl, Nat.sub_zero, nA, nB, lA, lB, oA, oB, loA, loB, qjk, Evt.r, qaa, qw, Ev.exec, qb, qe, qc, qai, qm4, Ev.Opnd.ev, Ev.Env.get, Ev.Env.set, Ev.look, qf9, qf, qbq, qv, qfm, Ev.AV.cells, qo, Ev.AV.plain, qao, ql, qs, Ev.keep, qal, qaf, qg, qbb, qm, qh, qd, qak, qbc, qbg, List.replicate_one, List.length_map, ↓qn, ↓qa3, Ev.it1, ↓reduceIte, List.length_cons, List.length_nil, List.length_append, List.getElem?_cons_zero, List.take_succ_cons, List.take_zero, zfe, List.drop_zero, List.cons_append, List.nil_append, List.set_cons_zero, Nat.reduceAdd, Nat.reduceEqDiff, Nat.reduceMul, Nat.reduceLT, Nat.reduceLeDiff, Nat.reducePow, Int.reduceToNat, reduceCtorEq, decide_true, zfc, Bool.and_true, zfa, and_self, ne_eq, zfb, zff, zfd, Nat.lt_add_one, Nat.le_refl, Option.isSome_some, Option.isSome_none, eq_self, implies_true]
  · rintro ⟨out, cf⟩ ⟨hp, hs, hc⟩
    rw [List.take_length] at hp
    simp only at hp hs hc ⊢
    simp only [qcx, Int.lt_irrefl, Ev.exec, qb, qe, qc, qai, Ev.Opnd.ev, Ev.Env.get, Ev.Env.set, Ev.look, ql, List.length_map, ↓qn, Ev.it1, ↓reduceIte, Nat.reduceEqDiff, reduceCtorEq, decide_false, zfa, ne_eq, eq_self]
    exact ⟨_, rfl, out, cf, rfl, rfl, rfl, rfl, hp, hs, fun h => hc (by intro e; exact h (List.eq_nil_of_length_eq_zero e))⟩
theorem qr7 (hl : l.length ≤ 1000000) (hk : qic l) : ∃ (l' : List Evt) (cf : Bool), l'.Perm l ∧ l'.Pairwise leE ∧ (l ≠ [] → cf = false) ∧ qa4 (evL T) qc9 [(.fsl ((l).map Evt.r) cl)] = some (.fsl ((l').map Evt.r) cf) := by
  obtain ⟨⟨y, e, σ⟩, k1, l', cf, k2, k3, k4, k5, k6, k7, k8⟩ := q26 l cl hl hk
  simp only at k1 k2 k3 k4 k5
  subst k2; subst k4
  refine ⟨l', cf, k6, k7, k8, ?_⟩
  rw [qa4, qad qq9 qpr]
  simp only [qix, k1, k3, k5, qaa, qj, Ev.exec, qb, qe, qc, qai, Ev.Opnd.ev, Ev.Env.get, Ev.Env.set, Ev.look, qk, qi, qq, qaj, Ev.kill, qag, qs, Ev.keep, qal, qaf, qg, qbb, qm, qu, qx, ↓qn, ↓qa3, ↓reduceIte, List.length_cons, List.length_nil, zfe, Nat.reduceEqDiff, reduceCtorEq, zfc, and_self, zfd, eq_self]
theorem qlj (hl : l.length ≤ 1000000) (hk : qic l) (hd : qvd l) : ∃ cf : Bool, (l ≠ [] → cf = false) ∧ qa4 (evL T) qc9 [(.fsl ((l).map Evt.r) cl)] = some (.fsl ((qga l).map Evt.r) cf) := by
  obtain ⟨l', cf, h1, h2, h3, h4⟩ := qr7 l cl hl hk
  rw [← qpw hd h1 h2]; exact ⟨cf, h3, h4⟩
end
set_option maxRecDepth 10000
section
variable (c : Cfg)
theorem q3g (k : Nat) (l : List Start) (hkl : c.lps[k]? = some l) (o0 : List Evt) (g0 : Nat) (hl : l.length ≤ 12) (hk : k ≤ 12) (ho : o0.length ≤ 1000) :
    ∃ y, itB (exec (evL T) itL none qgq) (qs [1, 3, 4, 5] true 1) ⟨[(1, (.fptr [(.fsl ((c.lps).map lpC) false), (.fsl ((c.progs).map qce) false), (ii c.look), (ii c.fin), (ii c.cap)])), (3, .sl 0 g0 0 o0.length false), (4, (ii k)), (5, (ii 0))], []⟩ [.row 6 (o0.map Evt.r) g0] = some y ∧
      ∃ g : Nat, y.1 = .exit 2 ∧ y.2.1.marks = [] ∧ y.2.2 = [.row 6 ((o0 ++ qjy k l).map Evt.r) g] ∧ Ev.look y.2.1.vars 3 = some (.sl 0 g 0 (o0 ++ qjy k l).length false) ∧ Ev.look y.2.1.vars 1 = some (.fptr [(.fsl ((c.lps).map lpC) false), (.fsl ((c.progs).map qce) false), (ii c.look), (ii c.fin), (ii c.cap)]) ∧ Ev.look y.2.1.vars 4 = some (ii k) := by
  have key := qf2 (f := exec (evL T) itL none qgq) (s := qs [1, 3, 4, 5] true 1) (α := List Evt × Nat)
    (fun i a => ⟨[(1, (.fptr [(.fsl ((c.lps).map lpC) false), (.fsl ((c.progs).map qce) false), (ii c.look), (ii c.fin), (ii c.cap)])), (3, .sl 0 a.2 0 a.1.length false), (4, (ii k)), (5, (ii i))], []⟩) (fun i a => [.row 6 (a.1.map Evt.r) a.2])
    (fun i a => a.1 = o0 ++ qjy k (l.take i)) l.length
    (fun y => ∃ g : Nat, y.1 = .exit 2 ∧ y.2.1.marks = [] ∧ y.2.2 = [.row 6 ((o0 ++ qjy k l).map Evt.r) g] ∧ Ev.look y.2.1.vars 3 = some (.sl 0 g 0 (o0 ++ qjy k l).length false) ∧ Ev.look y.2.1.vars 1 = some (.fptr [(.fsl ((c.lps).map lpC) false), (.fsl ((c.progs).map qce) false), (ii c.look), (ii c.fin), (ii c.cap)]) ∧ Ev.look y.2.1.vars 4 = some (ii k)) ?_ ?_ 0 (o0, g0) (Nat.zero_le _) (by simp [qjy])
  · exact key
  · rintro i ⟨out, g⟩ hi hout
    simp only at hout ⊢
    obtain ⟨x, hx⟩ : ∃ x, l[i]? = some x := ⟨_, List.getElem?_eq_getElem hi⟩
    have hi' : (i : Int) < (l.length : Int) := by omega
    have hw : IntKind.i64.wrap ((i : Int) + 1) = ((i + 1 : Nat) : Int) := by rw [qas (by omega) (by omega)]; simp
    have ho2 : out.length ≤ 1012 := by rw [hout, List.length_append, qzg]; have := List.length_take_le i l; omega
    have hb : (out.length + 1) * 64 ≤ 140737488355328 := by omega
    obtain ⟨t1, t2⟩ := qu9 out (qiv k i x).r
    have hr : (out ++ [qiv k i x]).map Evt.r = out.map Evt.r ++ [(qiv k i x).r] := by rw [List.map_append]; rfl
    refine .inl ⟨(out ++ [qiv k i x], g + 1), ?_, by simp only; rw [q3b hx, hout, List.append_assoc]⟩
    have hlo := qaa 1 (out ++ [qiv k i x])
    simp only
    rw [hr, List.length_append]
    rw [hr] at hlo
    have hrep : ∀ v : List AV, List.replicate 2 v = [v, v] := fun _ => rfl
    simp only [qiv, Evt.r, List.map_cons, List.map_nil, qby] at t2 hlo ⊢
    simp only [qgq, Int.natCast_nonneg, Int.toNat_natCast, List.getElem?_map, Option.map_some, hx, hkl, hi', hw, hb, t1, hlo, hrep, lpC, Start.r, qcb, qax, Ev.exec, qb, qe, qc, qai, qm4, Ev.Opnd.ev, Ev.Env.get, Ev.Env.set, Ev.look, qf, qbq, qv, qfz, qfm, Ev.AV.cells, Ev.AV.uc, qo, Ev.AV.plain, qao, ql, qs, Ev.keep, qal, qaf, qg, Ev.SObj.lo, qbb, qm, qbm, qds, qh, qd, qbc, qbg, List.replicate_one, List.length_map, ↓qn, Ev.it1, ↓reduceIte, List.length_cons, List.length_nil, List.getElem?_cons_zero, List.take_succ_cons, List.take_zero, zfe, List.drop_succ_cons, List.drop_zero, List.cons_append, List.nil_append, List.set_cons_zero, List.set_cons_succ, List.head?_cons, Nat.reduceAdd, Nat.reduceEqDiff, Nat.reduceMul, Nat.reduceLT, Nat.reduceLeDiff, Nat.reducePow, decide_true, zfc, zfa, and_self, ne_eq, zfb, zff, zfd, Nat.lt_add_one, Nat.le_refl, eq_self]
  · rintro ⟨out, g⟩ hout
    rw [List.take_length] at hout
    simp only at hout ⊢
    simp only [qgq, Int.natCast_nonneg, Int.toNat_natCast, List.getElem?_map, Option.map_some, hkl, lpC, Int.lt_irrefl, Ev.exec, qb, qe, qc, qai, Ev.Opnd.ev, Ev.Env.get, Ev.Env.set, Ev.look, qf, qv, ql, List.length_map, ↓qn, Ev.it1, ↓reduceIte, List.length_cons, List.length_nil, List.length_append, List.drop_zero, List.head?_cons, Nat.reduceEqDiff, decide_false, zfa, zfd, eq_self]
    exact ⟨_, rfl, g, rfl, rfl, by rw [hout], by rw [hout, List.length_append]; rfl, rfl, rfl⟩
theorem q3v (h : Small12 c) :
    ∃ y, itB (exec (evL T) itL none qgl) (qs [1, 3, 4] true 1) ⟨[(1, (.fptr [(.fsl ((c.lps).map lpC) false), (.fsl ((c.progs).map qce) false), (ii c.look), (ii c.fin), (ii c.cap)])), (3, .sl 0 0 0 0 false), (4, (ii 0))], []⟩ [.row 6 [] 0] = some y ∧
      ∃ g : Nat, y.1 = .exit 0 ∧ y.2.1.marks = [] ∧ y.2.2 = [.row 6 ((qjq c.lps).map Evt.r) g] ∧ Ev.look y.2.1.vars 3 = some (.sl 0 g 0 (qjq c.lps).length false) := by
  have key := qf2 (f := exec (evL T) itL none qgl) (s := qs [1, 3, 4] true 1) (α := List Evt × Nat)
    (fun i a => ⟨[(1, (.fptr [(.fsl ((c.lps).map lpC) false), (.fsl ((c.progs).map qce) false), (ii c.look), (ii c.fin), (ii c.cap)])), (3, .sl 0 a.2 0 a.1.length false), (4, (ii i))], []⟩) (fun i a => [.row 6 (a.1.map Evt.r) a.2])
    (fun i a => a.1 = qjq (c.lps.take i)) c.lps.length
    (fun y => ∃ g : Nat, y.1 = .exit 0 ∧ y.2.1.marks = [] ∧ y.2.2 = [.row 6 ((qjq c.lps).map Evt.r) g] ∧ Ev.look y.2.1.vars 3 = some (.sl 0 g 0 (qjq c.lps).length false)) ?_ ?_ 0 ([], 0) (Nat.zero_le _) (by simp [qjq])
  · exact key
  · rintro i ⟨out, g⟩ hi hout
    simp only at hout ⊢
    obtain ⟨x, hx⟩ : ∃ x, c.lps[i]? = some x := ⟨_, List.getElem?_eq_getElem hi⟩
    have hlps := h.lps
    have hi' : (i : Int) < (c.lps.length : Int) := by omega
    have hw : IntKind.i64.wrap ((i : Int) + 1) = ((i + 1 : Nat) : Int) := by rw [qas (by omega) (by omega)]; simp
    have hl := h.len i
    obtain ⟨⟨y, e, σ⟩, k1, g', k2, k3, k4, k5, k6, k7⟩ := q3g c i x hx out g (h.lp _ (List.mem_of_getElem? hx)) (by omega) (by rw [hout]; omega)
    simp only at k1 k2 k3 k4 k5 k6 k7
    subst k2; subst k4
    refine .inl ⟨(out ++ qjy i x, g'), ?_, by simp only; rw [qz0 hx, hout]⟩
    simp only [List.length_append] at k5 ⊢
    simp only [qgl, hi', hw, k1, k3, k5, k6, k7, qaa, qcb, qax, Ev.exec, qb, qe, qc, qai, Ev.Opnd.ev, Ev.Env.get, Ev.Env.set, Ev.look, qf, qv, qao, ql, qs, Ev.keep, qal, qaf, qg, Ev.SObj.lo, qbb, qm, qbm, qds, qh, qd, List.length_map, ↓qn, ↓qa3, Ev.it1, ↓reduceIte, List.length_cons, List.length_nil, List.take_succ_cons, zfe, List.drop_zero, List.head?_cons, Nat.reduceEqDiff, decide_true, zfc, zfa, and_self, zfd, Nat.lt_add_one, eq_self]
  · rintro ⟨out, g⟩ hout
    rw [List.take_length] at hout
    simp only at hout ⊢
    simp only [qgl, Int.lt_irrefl, Ev.exec, qb, qe, qc, qai, Ev.Opnd.ev, Ev.Env.get, Ev.Env.set, Ev.look, qf, qv, ql, List.length_map, ↓qn, Ev.it1, ↓reduceIte, List.drop_zero, List.head?_cons, Nat.reduceEqDiff, decide_false, zfa, eq_self]
    exact ⟨_, rfl, g, rfl, rfl, by rw [hout], by rw [hout]; rfl⟩
theorem qv3 (h : Small12 c) : ∃ cf : Bool, qa4 (evL T) qey [(.agg [(.fsl ((c.lps).map lpC) false), (.fsl ((c.progs).map qce) false), (ii c.look), (ii c.fin), (ii c.cap)])] = some (.fsl ((qga (qjq c.lps)).map Evt.r) cf) := by
  obtain ⟨⟨y, e, σ⟩, k1, g, k2, k3, k4, k5⟩ := q3v c h
  simp only at k1 k2 k3 k4 k5
  subst k2; subst k4
  have hl := h.len c.lps.length
  rw [List.take_length] at hl
  obtain ⟨cf, _, hs⟩ := qlj (qjq c.lps) false (by omega) (q5o _) (q45 _)
  refine ⟨cf, ?_⟩
  have t1 := (qu9 (qjq c.lps) []).1
  rw [qa4, qad qt0 qti]
  simp only [qkq, k1, k3, k5, hs, t1, qaa, qcb, qax, qj, Ev.exec, qb, qe, qc, qaw, qai, Ev.evs, Ev.Opnd.ev, Ev.Env.get, Ev.Env.set, Ev.look, qk, Ev.AV.cells, qo, Ev.AV.plain, qi, qq, qaj, Ev.kill, qag, qs, Ev.keep, qal, qaf, qg, Ev.SObj.lo, qbb, qm, qbm, qds, qh, qd, qu, qx, List.length_map, ↓qn, ↓qa3, ↓reduceIte, List.length_cons, List.length_nil, List.getElem?_cons_zero, List.take_succ_cons, List.take_zero, zfe, List.drop_zero, List.nil_append, List.set_cons_zero, Nat.reduceEqDiff, Nat.reduceLT, decide_true, zfc, and_self, ne_eq, zfb, zff, zfd, Nat.lt_add_one, Nat.le_refl, eq_self]
end
set_option maxRecDepth 10000
section
variable (D : List Evt) (G : List (List Int)) (cd cg : Bool)
theorem q3e (o : List Evt) (g i : Nat) (x : Evt) (hx : D[i]? = some x) (hG : G.length ≤ 1000) (hk : ∀ k ∈ G, k.length ≤ 9223372036854775807) (hxk : x.key.length ≤ 9223372036854775807) :
    ∃ y, itB (exec (evL T) itL none qgr) (qs [0, 1, 5, 6, 7, 8] true 1) ⟨[(0, (.fsl ((D).map Evt.r) cd)), (1, (.fsl ((G).map qep) cg)), (5, .sl 0 g 0 o.length false), (6, (ii i)), (7, (bb false)), (8, (ii ((0 : Nat))))], []⟩ [.row 6 (o.map Evt.r) g] = some y ∧
      (y.1 = .exit 2 ∧ y.2.1.marks = [] ∧ y.2.2 = [.row 6 (o.map Evt.r) g] ∧ Ev.look y.2.1.vars 0 = some (.fsl ((D).map Evt.r) cd) ∧ Ev.look y.2.1.vars 1 = some (.fsl ((G).map qep) cg) ∧ Ev.look y.2.1.vars 5 = some (.sl 0 g 0 o.length false) ∧ Ev.look y.2.1.vars 6 = some (ii i) ∧ Ev.look y.2.1.vars 7 = some (bb (!qjs G x))) := by
  have hb : (!qjs G x) = G.any fun k => decide (x.key = k) := by
    unfold qjs
    rw [Bool.not_not]
    congr 1; funext k; exact decide_eq_decide.2 eq_comm
  rw [hb]
  have key := qf2 (f := exec (evL T) itL none qgr) (s := qs [0, 1, 5, 6, 7, 8] true 1) (α := Unit)
    (fun j _ => ⟨[(0, (.fsl ((D).map Evt.r) cd)), (1, (.fsl ((G).map qep) cg)), (5, .sl 0 g 0 o.length false), (6, (ii i)), (7, (bb (((G.take j).any fun k => decide (x.key = k))))), (8, (ii j))], []⟩) (fun _ _ => [.row 6 (o.map Evt.r) g])
    (fun _ _ => True) G.length
    (fun y => y.1 = .exit 2 ∧ y.2.1.marks = [] ∧ y.2.2 = [.row 6 (o.map Evt.r) g] ∧ Ev.look y.2.1.vars 0 = some (.fsl ((D).map Evt.r) cd) ∧ Ev.look y.2.1.vars 1 = some (.fsl ((G).map qep) cg) ∧ Ev.look y.2.1.vars 5 = some (.sl 0 g 0 o.length false) ∧ Ev.look y.2.1.vars 6 = some (ii i) ∧ Ev.look y.2.1.vars 7 = some (bb ((G.any fun k => decide (x.key = k))))) ?_ ?_ 0 () (Nat.zero_le _) trivial
  · exact key
  · rintro j _ hj _
    obtain ⟨z, hz⟩ : ∃ z, G[j]? = some z := ⟨_, List.getElem?_eq_getElem hj⟩
    have hj' : (j : Int) < (G.length : Int) := by omega
    have hw : IntKind.i64.wrap ((j : Int) + 1) = ((j + 1 : Nat) : Int) := by rw [qas (by omega) (by omega)]; simp
    have e1 : ((G.take (j + 1)).any fun k => decide (x.key = k)) = (((G.take j).any fun k => decide (x.key = k)) || decide (x.key = z)) := by rw [qi4 hz, List.any_append]; simp
    have sk := qof x.key z false false hxk (hk z (List.mem_of_getElem? hz))
    refine .inl ⟨(), ?_, trivial⟩
    rw [e1]
    generalize ((G.take j).any fun k => decide (x.key = k)) = f
    generalize decide (x.key = z) = f2 at *
    obtain ⟨xt, xk, xl, xi, xp, xa⟩ := x
    cases f <;> simp only [qgr, Int.natCast_nonneg, Int.toNat_natCast, List.getElem?_map, Option.map_some, hx, hz, hj', hw, sk, Evt.r, qep, qbn, qaa, qw, Ev.exec, qb, qe, qc, qaw, qai, Ev.evs, Ev.Opnd.ev, Ev.Env.get, Ev.Env.set, Ev.Env.unset, Ev.look, qf, qv, qao, ql, qs, Ev.keep, qal, qaf, qg, Ev.SObj.lo, qbb, qm, qds, qh, qd, List.length_map, ↓qn, Ev.it1, ↓reduceIte, List.length_cons, List.length_nil, List.take_succ_cons, zfe, List.drop_succ_cons, List.drop_zero, List.head?_cons, Nat.reduceAdd, Nat.reduceEqDiff, reduceCtorEq, decide_true, zfc, Bool.true_or, Bool.false_or, zfa, Bool.true_eq_false, and_self, zfd, Nat.lt_add_one, eq_self]
  · rintro _ _
    simp only [List.take_length]
    simp only [qgr, Int.lt_irrefl, Ev.exec, qb, qe, qc, qai, Ev.Opnd.ev, Ev.Env.get, Ev.Env.set, Ev.look, ql, List.length_map, ↓qn, Ev.it1, ↓reduceIte, Nat.reduceEqDiff, reduceCtorEq, decide_false, zfa, eq_self]
    exact ⟨_, rfl, rfl, rfl, rfl, rfl, rfl, rfl, rfl, rfl⟩
theorem q5y (hD : D.length ≤ 1000000) (hDk : qic D) (hG : G.length ≤ 1000) (hk : ∀ k ∈ G, k.length ≤ 9223372036854775807) :
    qa4 (evL T) qf4 [(.fsl ((D).map Evt.r) cd), (.fsl ((G).map qep) cg)] = some (.fsl (((D.filter (qjs G))).map Evt.r) false) := by
  have hL : ∃ y, itB (exec (evL T) itL none qe4) (qs [0, 1, 5, 6] true 1) ⟨[(0, (.fsl ((D).map Evt.r) cd)), (1, (.fsl ((G).map qep) cg)), (5, .sl 0 0 0 0 false), (6, (ii ((0 : Nat))))], []⟩ [.row 6 [] 0] = some y ∧
      ∃ g : Nat, y.1 = .exit 0 ∧ y.2.1.marks = [] ∧ y.2.2 = [.row 6 ((D.filter (qjs G)).map Evt.r) g] ∧ Ev.look y.2.1.vars 5 = some (.sl 0 g 0 (D.filter (qjs G)).length false) := by
    have key := qf2 (f := exec (evL T) itL none qe4) (s := qs [0, 1, 5, 6] true 1) (α := Nat)
      (fun i g => ⟨[(0, (.fsl ((D).map Evt.r) cd)), (1, (.fsl ((G).map qep) cg)), (5, .sl 0 g 0 ((D.take i).filter (qjs G)).length false), (6, (ii i))], []⟩) (fun i g => [.row 6 (((D.take i).filter (qjs G)).map Evt.r) g])
      (fun _ _ => True) D.length
      (fun y => ∃ g : Nat, y.1 = .exit 0 ∧ y.2.1.marks = [] ∧ y.2.2 = [.row 6 ((D.filter (qjs G)).map Evt.r) g] ∧ Ev.look y.2.1.vars 5 = some (.sl 0 g 0 (D.filter (qjs G)).length false)) ?_ ?_ 0 0 (Nat.zero_le _) trivial
    · exact key
    · rintro i g hi _
      obtain ⟨x, hx⟩ : ∃ z, D[i]? = some z := ⟨_, List.getElem?_eq_getElem hi⟩
      have hi' : (i : Int) < (D.length : Int) := by omega
      have hw : IntKind.i64.wrap ((i : Int) + 1) = ((i + 1 : Nat) : Int) := by rw [qas (by omega) (by omega)]; simp
      obtain ⟨⟨y, e, σ⟩, k1, k2, k3, k4, k5, k6, k7, k8, k9⟩ := q3e D G cd cg ((D.take i).filter (qjs G)) g i x hx hG hk (hDk x (List.mem_of_getElem? hx))
      simp only [Int.ofNat_zero] at k1 k2 k3 k4 k5 k6 k7 k8 k9
      subst k2; subst k4
      have hle : ((D.take i).filter (qjs G)).length ≤ 1000000 := by
        have h1 := List.length_filter_le (qjs G) (D.take i)
        have h2 := List.length_take_le' i D
        omega
      cases hb : qjs G x with
      | true =>
        rw [hb] at k9
        have e1 : (D.take (i + 1)).filter (qjs G) = (D.take i).filter (qjs G) ++ [x] := by rw [qi4 hx, List.filter_append]; simp [hb]
        refine .inl ⟨g + 1, ?_, trivial⟩
        rw [e1]
        generalize (D.take i).filter (qjs G) = W at *
        have tk : List.take W.length (W.map Evt.r) = W.map Evt.r := List.take_of_length_le (by simp)
        have b : (W.length + 1) * 64 ≤ 140737488355328 := by omega
        have hm : (W ++ [x]).map Evt.r = W.map Evt.r ++ [x.r] := by rw [List.map_append]; rfl
        have hlo : qiu 1 (W.map Evt.r ++ [x.r]) = true := by rw [← hm]; exact qaa _ _
        rw [hm, List.length_append]
        obtain ⟨xt, xk, xl, xi, xp, xa⟩ := x
        simp only [Evt.r] at hlo
        simp only [qe4, Int.natCast_nonneg, Int.toNat_natCast, List.getElem?_map, Option.map_some, hx, hi', hw, k1, k3, k5, k6, k7, k8, k9, tk, b, hlo, Evt.r, qbn, qaa, Ev.exec, qb, qe, qc, qai, qm4, Ev.Opnd.ev, Ev.Env.get, Ev.Env.set, Ev.look, qf, qbq, qv, qfm, Ev.AV.cells, qo, Ev.AV.plain, qao, ql, qs, Ev.keep, qal, qaf, qg, Ev.SObj.lo, qbb, qm, qds, qbc, qbg, List.replicate_one, List.length_map, ↓qn, ↓qa3, Ev.it1, ↓reduceIte, List.length_cons, List.length_nil, List.getElem?_cons_zero, List.take_succ_cons, zfe, List.set_cons_zero, Nat.reduceAdd, Nat.reduceEqDiff, Nat.reduceMul, Nat.reduceLeDiff, Nat.reducePow, reduceCtorEq, decide_true, zfc, Bool.not_true, Bool.not_false, and_self, ne_eq, zfb, zff, zfd, Nat.lt_add_one, Nat.le_refl, eq_self]
      | false =>
        rw [hb] at k9
        have e1 : (D.take (i + 1)).filter (qjs G) = (D.take i).filter (qjs G) := by rw [qi4 hx, List.filter_append]; simp [hb]
        refine .inl ⟨g, ?_, trivial⟩
        rw [e1]
        generalize (D.take i).filter (qjs G) = W at *
        simp only [qe4, hi', hw, k1, k3, k5, k6, k7, k8, k9, qbn, qaa, Ev.exec, qb, qe, qc, qai, Ev.Opnd.ev, Ev.Env.get, Ev.Env.set, Ev.look, qao, ql, qs, Ev.keep, qal, qaf, qg, Ev.SObj.lo, qbb, qm, qds, List.length_map, ↓qn, ↓qa3, Ev.it1, ↓reduceIte, List.length_cons, List.length_nil, List.take_succ_cons, zfe, Nat.reduceEqDiff, reduceCtorEq, decide_true, zfc, Bool.not_true, Bool.not_false, zfa, and_self, zfd, Nat.lt_add_one, eq_self]
    · rintro g _
      simp only [List.take_length]
      simp only [qe4, Int.lt_irrefl, Ev.exec, qb, qe, qc, qai, Ev.Opnd.ev, Ev.Env.get, Ev.Env.set, Ev.look, ql, List.length_map, ↓qn, Ev.it1, ↓reduceIte, Nat.reduceEqDiff, reduceCtorEq, decide_false, zfa, eq_self]
      exact ⟨_, rfl, g, rfl, rfl, rfl, rfl⟩
  obtain ⟨⟨y, e, σ⟩, k1, g, k2, k3, k4, k5⟩ := hL
  simp only [Int.ofNat_zero] at k1 k2 k3 k4 k5
  subst k2; subst k4
  have tk : List.take (D.filter (qjs G)).length ((D.filter (qjs G)).map Evt.r) = (D.filter (qjs G)).map Evt.r := List.take_of_length_le (by simp)
  generalize D.filter (qjs G) = W at *
  rw [qa4, qad quf qst]
  simp only [qkl, k1, k3, k5, tk, qbn, qaa, qj, Ev.exec, qb, qe, qc, qai, Ev.Opnd.ev, Ev.Env.get, Ev.Env.set, Ev.look, qk, qi, qq, qaj, Ev.kill, qag, qs, Ev.keep, qal, qaf, qg, Ev.SObj.lo, qbb, qm, qds, qu, qhg, qe3, List.length_map, ↓qn, ↓qa3, ↓reduceIte, List.length_cons, List.length_nil, List.getElem?_cons_zero, List.take_succ_cons, List.take_zero, zfe, List.drop_zero, List.nil_append, Nat.reduceAdd, Nat.reduceEqDiff, Nat.reduceLT, reduceCtorEq, decide_true, decide_false, zfc, zfa, and_self, and_true, zfd, Nat.lt_add_one, Nat.le_refl, eq_self]
end
end Go.Proofs.Ytbhhifdhlafklaa.K
