/- For every input the statement of this claim returns true: texts of its proof, joined (part 7). -/
import Derived.Test.YthkjkdbjgpeigaaGreatGB05
set_option linter.unusedSectionVars false
set_option linter.unusedSimpArgs false
set_option linter.unusedVariables false
namespace Go.Proofs.YthkjkdbjgpeigaaGreat.K
open Go.Ev
set_option maxRecDepth 10000
def qrq (a b : Int) : Int := if a < b then -1 else if a > b then 1 else 0
theorem qna (a b : Int) : qaz (evL T) qf8 [(ii a), (ii b)] = some (ii (qrq a b)) := by
  rw [qaz, qs qxi qvi]
  by_cases h1 : a < b
  · simp only [qir, qrq, h1, qm, Ev.exec, qb, qe, qc, qag, Ev.Opnd.ev, Ev.Env.get, Ev.Env.set, Ev.look, qn, qo, ql, qx, qae, Ev.kill, qad, qd, qay, qah, ↓qq, ↓reduceIte, List.length_cons, List.length_nil, zfe, Nat.reduceAdd, Nat.reduceEqDiff, Int.reduceNeg, reduceCtorEq, decide_true, and_self, zfd, eq_self]
  by_cases h2 : a > b
  · simp only [qir, qrq, h1, h2, qm, Ev.exec, qb, qe, qc, qag, Ev.Opnd.ev, Ev.Env.get, Ev.Env.set, Ev.look, qn, qo, qav, ql, qx, qae, Ev.kill, qad, qd, qay, qah, ↓qq, ↓reduceIte, List.length_cons, List.length_nil, zfe, Nat.reduceAdd, Nat.reduceEqDiff, Int.reduceNeg, reduceCtorEq, decide_true, decide_false, zfa, and_self, zfd, eq_self]
  · simp only [qir, qrq, h1, h2, qm, Ev.exec, qb, qe, qc, qag, Ev.Opnd.ev, Ev.Env.get, Ev.Env.set, Ev.look, qn, qo, qav, ql, qx, qae, Ev.kill, qad, qd, qay, qah, ↓qq, ↓reduceIte, List.length_cons, List.length_nil, zfe, Nat.reduceAdd, Nat.reduceEqDiff, Int.reduceNeg, reduceCtorEq, decide_false, zfa, and_self, zfd, eq_self]
def qlp : List Int → List Int → Int
  | x :: a, y :: b => if x = y then qlp a b else qrq x y
  | [], b => if b.length = 0 then 0 else -1
  | _ :: _, [] => 1
theorem qwu : ∀ a b : List Int, ((a.zip b).all (fun z => decide (z.1 = z.2)) = true → qlp a b = qrq a.length b.length) ∧ ∀ x, (a.zip b).find? (fun z => !decide (z.1 = z.2)) = some x → qlp a b = qrq x.1 x.2
  | [], b => by
    refine ⟨fun _ => ?_, fun x h => by simp at h⟩
    cases b with
    | nil => rfl
    | cons y b =>
      have : ((0 : Nat) : Int) < ((y :: b).length : Int) := by simp only [List.length_cons]; omega
      simp only [qlp, List.length_cons, Nat.succ_ne_zero, if_false, qrq, List.length_nil]
      rw [if_pos (by omega)]
  | x :: a, [] => by
    refine ⟨fun _ => ?_, fun x h => by simp at h⟩
    simp only [qlp, qrq, List.length_cons, List.length_nil]
    rw [if_neg (by omega), if_pos (by omega)]
  | x :: a, y :: b => by
    obtain ⟨h1, h2⟩ := qwu a b
    simp only [List.zip_cons_cons, List.all_cons, List.find?_cons, qlp, List.length_cons]
    by_cases h : x = y
    · simp only [h, decide_true, Bool.true_and, if_true, Bool.not_true]
      refine ⟨fun k => ?_, h2⟩
      rw [h1 k]; unfold qrq
      have e1 : ((a.length : Int) < b.length) ↔ (((a.length + 1 : Nat) : Int) < ((b.length + 1 : Nat) : Int)) := by omega
      have e2 : ((a.length : Int) > b.length) ↔ (((a.length + 1 : Nat) : Int) > ((b.length + 1 : Nat) : Int)) := by omega
      simp only [e1, e2]
    · simp only [h, decide_false, Bool.false_and, if_false, Bool.not_false]
      exact ⟨fun k => by simp at k, fun z k => by simp at k; rw [← k]⟩
theorem q11 (a b : Int) : qrq a b = 0 ↔ a = b := by
  unfold qrq; split
  · constructor <;> intro h <;> omega
  split
  · constructor <;> intro h <;> omega
  · constructor <;> intro h <;> omega
theorem qxa : ∀ a b : List Int, qlp a b = 0 ↔ a = b
  | [], [] => by simp [qlp]
  | [], y :: b => by simp [qlp]
  | x :: a, [] => by simp [qlp]
  | x :: a, y :: b => by
    simp only [qlp, List.cons.injEq]
    split
    next h => rw [qxa a b]; simp [h]
    next h => rw [q11]; simp [h]
section
variable (a b : List Int) (c d : Bool)
theorem q4v (h1 : a.length ≤ 9223372036854775807) (h2 : b.length ≤ 9223372036854775807) :
    ∃ y, itB (exec (evL T) itL none qet) (qr [0, 1, 5] true 0) ⟨[(0, (.fsl ((a).map qcm) c)), (1, (.fsl ((b).map qcm) d)), (5, (ii 0))], []⟩ [] = some y ∧
      ((a.zip b).all (fun z => decide (z.1 = z.2)) = true ∧ (y.1 = .exit 0 ∧ y.2.1.marks = [] ∧ y.2.2 = [] ∧ Ev.look y.2.1.vars 0 = some (.fsl ((a).map qcm) c) ∧ Ev.look y.2.1.vars 1 = some (.fsl ((b).map qcm) d)) ∨
      (a.zip b).all (fun z => decide (z.1 = z.2)) = false ∧ ∃ x, (a.zip b).find? (fun z => !decide (z.1 = z.2)) = some x ∧ (y.1 = .ret ∧ y.2.1.marks = [] ∧ y.2.2 = [] ∧ Ev.look y.2.1.vars 4 = some (ii (qrq x.1 x.2)))) := by
  have hzl : (a.zip b).length = min a.length b.length := List.length_zip
  refine qfd (a.zip b) (fun i => ⟨[(0, (.fsl ((a).map qcm) c)), (1, (.fsl ((b).map qcm) d)), (5, (ii i))], []⟩) [] (fun z => decide (z.1 = z.2)) _ (fun x y => _) ?_ ?_ ?_
  · intro i x hi hx hp
    rw [hzl] at hi
    have hi' : (i : Int) < (a.length : Int) := by omega
    have hi2 : (i : Int) < (b.length : Int) := by omega
    have hw : IntKind.i64.wrap ((i : Int) + 1) = ((i + 1 : Nat) : Int) := by rw [qao (by omega) (by omega)]; simp
    obtain ⟨hxa, hxb⟩ := List.getElem?_zip_eq_some.1 hx
    have hp' := of_decide_eq_true hp
    simp only [qet, Int.natCast_nonneg, Int.toNat_natCast, List.getElem?_map, Option.map_some, hxa, hxb, hi', hi2, hw, hp', qar, qcm, Ev.exec, qb, qe, qc, qag, Ev.Opnd.ev, Ev.Env.get, Ev.Env.set, Ev.look, qh, qab, qaj, qax, qo, qr, Ev.keep, qai, qy, qd, qay, qw, List.length_map, ↓qq, Ev.it1, ↓reduceIte, List.length_cons, List.length_nil, zfe, List.head?_cons, Nat.reduceEqDiff, reduceCtorEq, decide_true, decide_false, zfc, zfa, and_self, ne_eq, not_true_eq_false, zfd, eq_self]
  · intro i x hi hx hp
    rw [hzl] at hi
    have hi' : (i : Int) < (a.length : Int) := by omega
    have hi2 : (i : Int) < (b.length : Int) := by omega
    obtain ⟨hxa, hxb⟩ := List.getElem?_zip_eq_some.1 hx
    have hp' : ¬ x.1 = x.2 := of_decide_eq_false hp
    have hc := qna x.1 x.2
    simp only [qet, Int.natCast_nonneg, Int.toNat_natCast, List.getElem?_map, Option.map_some, hxa, hxb, hi', hi2, hp', hc, qcm, Ev.exec, qb, qe, qc, qaw, qag, Ev.evs, Ev.Opnd.ev, Ev.Env.get, Ev.Env.set, Ev.look, qh, qab, qax, qo, qay, qj, qk, List.length_map, ↓qq, Ev.it1, ↓reduceIte, List.length_cons, List.length_nil, List.head?_cons, Nat.reduceEqDiff, reduceCtorEq, decide_true, zfc, zfa, ne_eq, zfb, zfd, eq_self]
    exact ⟨_, rfl, rfl, rfl, rfl, rfl⟩
  · rw [hzl]
    by_cases hab : a.length ≤ b.length
    · rw [Nat.min_eq_left hab]
      simp only [qet, Int.lt_irrefl, Ev.exec, qb, qe, qc, qag, Ev.Opnd.ev, Ev.Env.get, Ev.Env.set, Ev.Env.unset, Ev.look, qo, List.length_map, ↓qq, Ev.it1, ↓reduceIte, Nat.reduceEqDiff, reduceCtorEq, decide_false, zfa, eq_self]
      exact ⟨_, rfl, rfl, rfl, rfl, rfl, rfl⟩
    · rw [Nat.min_eq_right (by omega)]
      have h3 : (b.length : Int) < (a.length : Int) := by omega
      simp only [qet, Int.lt_irrefl, h3, Ev.exec, qb, qe, qc, qag, Ev.Opnd.ev, Ev.Env.get, Ev.Env.set, Ev.look, qo, List.length_map, ↓qq, Ev.it1, ↓reduceIte, Nat.reduceEqDiff, reduceCtorEq, decide_true, decide_false, zfa, eq_self]
      exact ⟨_, rfl, rfl, rfl, rfl, rfl, rfl⟩
theorem qua (h1 : a.length ≤ 9223372036854775807) (h2 : b.length ≤ 9223372036854775807) : qaz (evL T) qe3 [(.fsl ((a).map qcm) c), (.fsl ((b).map qcm) d)] = some (ii (qlp a b)) := by
  obtain ⟨⟨y, e, σ⟩, k1, k2⟩ := q4v a b c d h1 h2
  simp only at k2
  obtain ⟨z1, z2⟩ := qwu a b
  rw [qaz, qs qtb qsk]
  rcases k2 with ⟨k3, rfl, k4, rfl, k5, k6⟩ | ⟨k3, x, k7, rfl, k4, rfl, k5⟩
  · have hc := qna a.length b.length
    rw [z1 k3]
    simp only [qha, k1, k4, k5, k6, hc, qar, qm, Ev.exec, qb, qe, qc, qaw, qag, Ev.evs, Ev.Opnd.ev, Ev.Env.get, Ev.Env.set, Ev.look, qn, ql, qx, qae, Ev.kill, qad, qr, Ev.keep, qai, qy, qd, qay, qw, qj, qk, qah, List.length_map, ↓qq, ↓qak, ↓reduceIte, List.length_cons, List.length_nil, zfe, Nat.reduceAdd, Nat.reduceEqDiff, reduceCtorEq, zfc, and_self, zfd, eq_self]
  · rw [z2 x k7]
    simp only [qha, k1, k4, k5, qar, qm, Ev.exec, qb, qe, qc, qag, Ev.Opnd.ev, Ev.Env.get, Ev.Env.set, Ev.look, qn, ql, qx, qae, Ev.kill, qad, qr, Ev.keep, qai, qy, qd, qay, qw, qah, ↓qq, ↓qak, ↓reduceIte, List.length_cons, List.length_nil, zfe, Nat.reduceAdd, Nat.reduceEqDiff, reduceCtorEq, zfc, and_self, zfd, eq_self]
theorem qqs (h1 : a.length ≤ 9223372036854775807) (h2 : b.length ≤ 9223372036854775807) : qaz (evL T) qfp [(.fsl ((a).map qcm) c), (.fsl ((b).map qcm) d)] = some (bb (decide (a = b))) := by
  have hk := qua a b c d h1 h2
  have hz := qxa a b
  rw [qaz, qs qxn qwb]
  by_cases h : a = b
  · have h3 := hz.2 h
    rw [h3] at hk
    simp only [h, decide_true]
    simp only [h] at hk
    simp only [qj7, hk, qar, qm, Ev.exec, qb, qe, qc, qaw, qag, Ev.evs, Ev.Opnd.ev, Ev.Env.get, Ev.Env.set, Ev.look, qn, qal, ql, qx, qae, Ev.kill, qad, qd, qay, qw, qj, qk, qah, ↓qq, ↓reduceIte, List.length_cons, List.length_nil, zfe, Nat.reduceAdd, Nat.reduceEqDiff, reduceCtorEq, decide_true, zfc, and_self, zfd, eq_self]
  · have h3 : ¬ qlp a b = 0 := fun k => h (hz.1 k)
    simp only [h, decide_false]
    simp only [qj7, hk, h3, qar, qm, Ev.exec, qb, qe, qc, qaw, qag, Ev.evs, Ev.Opnd.ev, Ev.Env.get, Ev.Env.set, Ev.look, qn, qal, ql, qx, qae, Ev.kill, qad, qd, qay, qw, qj, qk, qah, ↓qq, ↓reduceIte, List.length_cons, List.length_nil, zfe, Nat.reduceAdd, Nat.reduceEqDiff, reduceCtorEq, decide_false, zfc, and_self, zfd, eq_self]
end
structure Evt.Short (x : Evt) : Prop where
  key : x.key.length ≤ 9223372036854775807
theorem qx9 (x y : Evt) (hx : x.key.length ≤ 9223372036854775807) (hy : y.key.length ≤ 9223372036854775807) : qaz (evL T) qg1 [(.agg [(ii x.time), (.fsl ((x.key).map qcm) false), (ii x.lp), (ii x.kind), (ii x.proc), (ii x.arg)]), (.agg [(ii y.time), (.fsl ((y.key).map qcm) false), (ii y.lp), (ii y.kind), (ii y.proc), (ii y.arg)])] = some (bb (decide (x = y))) := by
  obtain ⟨xt, xk, xl, xi, xp, xa⟩ := x
  obtain ⟨yt, yk, yl, yi, yp, ya⟩ := y
  have hk := qqs xk yk false false hx hy
  simp only [Evt.mk.injEq]
  rw [qaz, qs quq qtz]
  by_cases h1 : xt = yt
  case neg => simp only [qdy, h1, false_and, decide_false, qm, Ev.exec, qb, qe, qc, qag, Ev.Opnd.ev, Ev.Env.get, Ev.Env.set, Ev.Env.unset, Ev.look, qn, qh, qab, Ev.AV.cells, qv, Ev.AV.plain, qal, ql, qx, qae, Ev.kill, qad, qd, qay, qah, ↓qq, ↓reduceIte, List.length_cons, List.length_nil, zfe, List.drop_zero, List.head?_cons, Nat.reduceAdd, Nat.reduceEqDiff, reduceCtorEq, decide_false, zfc, zfa, and_self, ne_eq, zfb, zff, zfd, eq_self, false_and]
  by_cases h2 : xk = yk
  case neg =>
    simp only [h2, decide_false] at hk
    simp only [qdy, h1, h2, hk, qar, false_and, and_false, decide_false, qm, Ev.exec, qb, qe, qc, qaw, qag, Ev.evs, Ev.Opnd.ev, Ev.Env.get, Ev.Env.set, Ev.Env.unset, Ev.look, qn, qh, qab, Ev.AV.cells, qv, Ev.AV.plain, qal, ql, qx, qae, Ev.kill, qad, qd, qay, qw, qj, qk, qah, ↓qq, ↓reduceIte, List.length_cons, List.length_nil, zfe, List.drop_succ_cons, List.drop_zero, List.head?_cons, Nat.reduceAdd, Nat.reduceEqDiff, reduceCtorEq, decide_true, decide_false, zfc, zfa, and_self, ne_eq, zfb, zff, zfd, eq_self, false_and, and_false]
  simp only [h2, decide_true] at hk
  by_cases h3 : xl = yl
  case neg => simp only [qdy, h1, h2, h3, hk, qar, false_and, and_false, decide_false, qm, Ev.exec, qb, qe, qc, qaw, qag, Ev.evs, Ev.Opnd.ev, Ev.Env.get, Ev.Env.set, Ev.Env.unset, Ev.look, qn, qh, qab, Ev.AV.cells, qv, Ev.AV.plain, qal, ql, qx, qae, Ev.kill, qad, qd, qay, qw, qj, qk, qah, ↓qq, ↓reduceIte, List.length_cons, List.length_nil, zfe, List.drop_succ_cons, List.drop_zero, List.head?_cons, Nat.reduceAdd, Nat.reduceEqDiff, reduceCtorEq, decide_true, decide_false, zfc, zfa, and_self, ne_eq, zfb, zff, zfd, eq_self, false_and, and_false]
  by_cases h4 : xi = yi
  case neg => simp only [qdy, h1, h2, h3, h4, hk, qar, false_and, and_false, decide_false, qm, Ev.exec, qb, qe, qc, qaw, qag, Ev.evs, Ev.Opnd.ev, Ev.Env.get, Ev.Env.set, Ev.Env.unset, Ev.look, qn, qh, qab, Ev.AV.cells, qv, Ev.AV.plain, qal, ql, qx, qae, Ev.kill, qad, qd, qay, qw, qj, qk, qah, ↓qq, ↓reduceIte, List.length_cons, List.length_nil, zfe, List.drop_succ_cons, List.drop_zero, List.head?_cons, Nat.reduceAdd, Nat.reduceEqDiff, reduceCtorEq, decide_true, decide_false, zfc, zfa, and_self, ne_eq, zfb, zff, zfd, eq_self, false_and, and_false]
  by_cases h5 : xp = yp
  case neg => simp only [qdy, h1, h2, h3, h4, h5, hk, qar, false_and, and_false, decide_false, qm, Ev.exec, qb, qe, qc, qaw, qag, Ev.evs, Ev.Opnd.ev, Ev.Env.get, Ev.Env.set, Ev.Env.unset, Ev.look, qn, qh, qab, Ev.AV.cells, qv, Ev.AV.plain, qal, ql, qx, qae, Ev.kill, qad, qd, qay, qw, qj, qk, qah, ↓qq, ↓reduceIte, List.length_cons, List.length_nil, zfe, List.drop_succ_cons, List.drop_zero, List.head?_cons, Nat.reduceAdd, Nat.reduceEqDiff, reduceCtorEq, decide_true, decide_false, zfc, zfa, and_self, ne_eq, zfb, zff, zfd, eq_self, false_and, and_false]
  by_cases h6 : xa = ya
  case neg => simp only [qdy, h1, h2, h3, h4, h5, h6, hk, qar, and_false, decide_false, qm, Ev.exec, qb, qe, qc, qaw, qag, Ev.evs, Ev.Opnd.ev, Ev.Env.get, Ev.Env.set, Ev.look, qn, qh, qab, Ev.AV.cells, qv, Ev.AV.plain, qal, ql, qx, qae, Ev.kill, qad, qd, qay, qw, qj, qk, qah, ↓qq, ↓reduceIte, List.length_cons, List.length_nil, zfe, List.drop_succ_cons, List.drop_zero, List.head?_cons, Nat.reduceAdd, Nat.reduceEqDiff, reduceCtorEq, decide_true, decide_false, zfc, zfa, and_self, ne_eq, zfb, zff, zfd, eq_self, and_false]
  simp only [qdy, h1, h2, h3, h4, h5, h6, hk, qar, and_self, decide_true, qm, Ev.exec, qb, qe, qc, qaw, qag, Ev.evs, Ev.Opnd.ev, Ev.Env.get, Ev.Env.set, Ev.look, qn, qh, qab, Ev.AV.cells, qv, Ev.AV.plain, qal, ql, qx, qae, Ev.kill, qad, qd, qay, qw, qj, qk, qah, ↓qq, ↓reduceIte, List.length_cons, List.length_nil, zfe, List.drop_succ_cons, List.drop_zero, List.head?_cons, Nat.reduceAdd, Nat.reduceEqDiff, reduceCtorEq, decide_true, zfc, zfa, and_self, ne_eq, zfb, zff, zfd, eq_self]
theorem qor {α : Type} [DecidableEq α] : ∀ {a b : List α}, a.length = b.length → ((a.zip b).all (fun z => decide (z.1 = z.2)) = true ↔ a = b)
  | [], [], _ => by simp
  | x :: a, y :: b, h => by
    rw [List.zip_cons_cons, List.all_cons, Bool.and_eq_true, decide_eq_true_eq, qor (a := a) (b := b) (by simpa using h), List.cons.injEq]
  | [], _ :: _, h => by simp at h
  | _ :: _, [], h => by simp at h
section
variable (a b : List Evt) (c d : Bool)
theorem qrm (h1 : a.length ≤ 9223372036854775807) (h2 : b.length ≤ 9223372036854775807) (ha : ∀ x ∈ a, x.key.length ≤ 9223372036854775807) (hb : ∀ x ∈ b, x.key.length ≤ 9223372036854775807) :
    qaz (evL T) qfn [(.fsl ((a).map Evt.r) c), (.fsl ((b).map Evt.r) d)] = some (bb (decide (a = b))) := by
  rw [qaz, qs qt5 qs3]
  by_cases hab : a.length = b.length
  case neg =>
    have hab' : ¬ (a.length : Int) = (b.length : Int) := by omega
    have : ¬ a = b := fun h => hab (by rw [h])
    simp only [qgc, hab', this, qm, Ev.exec, qb, qe, qc, qag, Ev.Opnd.ev, Ev.Env.get, Ev.Env.set, Ev.look, qn, qax, ql, qx, qae, Ev.kill, qad, qd, qay, qah, List.length_map, ↓qq, ↓reduceIte, List.length_cons, List.length_nil, zfe, Nat.reduceAdd, Nat.reduceEqDiff, reduceCtorEq, decide_true, decide_false, and_self, ne_eq, zfb, zfd, eq_self]
  have hab' : (a.length : Int) = (b.length : Int) := by omega
  have hzl : (a.zip b).length = a.length := by rw [List.length_zip, ← hab, Nat.min_self]
  have hL : ∃ y, itB (exec (evL T) itL none qf5) (qr [0, 1, 5] true 0) ⟨[(0, (.fsl ((a).map Evt.r) c)), (1, (.fsl ((b).map Evt.r) d)), (5, (ii 0))], []⟩ [] = some y ∧ ((a.zip b).all (fun z => decide (z.1 = z.2)) = true ∧ (y.1 = .exit 0 ∧ y.2.1.marks = [] ∧ y.2.2 = []) ∨
      (a.zip b).all (fun z => decide (z.1 = z.2)) = false ∧ ∃ x, (a.zip b).find? (fun z => !decide (z.1 = z.2)) = some x ∧ (y.1 = .ret ∧ y.2.1.marks = [] ∧ y.2.2 = [] ∧ Ev.look y.2.1.vars 4 = some (bb false))) := by
    refine qfd (a.zip b) (fun i => ⟨[(0, (.fsl ((a).map Evt.r) c)), (1, (.fsl ((b).map Evt.r) d)), (5, (ii i))], []⟩) [] (fun z => decide (z.1 = z.2)) _ (fun _ y => _) ?_ ?_ ?_
    · intro i x hi hx hp
      rw [hzl] at hi
      have hi' : (i : Int) < (a.length : Int) := by omega
      have hw : IntKind.i64.wrap ((i : Int) + 1) = ((i + 1 : Nat) : Int) := by rw [qao (by omega) (by omega)]; simp
      obtain ⟨hxa, hxb⟩ := List.getElem?_zip_eq_some.1 hx
      have hv := qx9 x.1 x.2 (ha _ (List.mem_of_getElem? hxa)) (hb _ (List.mem_of_getElem? hxb))
      rw [hp] at hv
      simp only [qf5, Int.natCast_nonneg, Int.toNat_natCast, List.getElem?_map, Option.map_some, hxa, hxb, hi', hw, hv, qac, qar, Evt.r, Ev.exec, qb, qe, qc, qaw, qag, Ev.evs, Ev.Opnd.ev, Ev.Env.get, Ev.Env.set, Ev.look, qh, qab, qaj, qo, qr, Ev.keep, qai, qy, qd, qay, qbe, qw, qj, qk, List.length_map, ↓qq, Ev.it1, ↓reduceIte, List.length_cons, List.length_nil, List.take_succ_cons, zfe, Nat.reduceAdd, Nat.reduceEqDiff, reduceCtorEq, decide_true, zfc, Bool.not_true, zfa, and_self, zfd, Nat.le_refl, eq_self]
    · intro i x hi hx hp
      rw [hzl] at hi
      have hi' : (i : Int) < (a.length : Int) := by omega
      obtain ⟨hxa, hxb⟩ := List.getElem?_zip_eq_some.1 hx
      have hv := qx9 x.1 x.2 (ha _ (List.mem_of_getElem? hxa)) (hb _ (List.mem_of_getElem? hxb))
      rw [hp] at hv
      simp only [qf5, Int.natCast_nonneg, Int.toNat_natCast, List.getElem?_map, Option.map_some, hxa, hxb, hi', hv, qar, Evt.r, Ev.exec, qb, qe, qc, qaw, qag, Ev.evs, Ev.Opnd.ev, Ev.Env.get, Ev.Env.set, Ev.look, qh, qab, qo, qay, qbe, qw, qj, qk, List.length_map, ↓qq, Ev.it1, ↓reduceIte, List.length_cons, List.length_nil, List.take_succ_cons, zfe, Nat.reduceAdd, Nat.reduceEqDiff, reduceCtorEq, decide_true, zfc, Bool.not_false, zfd, Nat.le_refl, eq_self]
      exact ⟨_, rfl, rfl, rfl, rfl, rfl⟩
    · rw [hzl]
      simp only [qf5, Int.lt_irrefl, Ev.exec, qb, qe, qc, qag, Ev.Opnd.ev, Ev.Env.get, Ev.Env.set, Ev.look, qo, List.length_map, ↓qq, Ev.it1, ↓reduceIte, Nat.reduceEqDiff, reduceCtorEq, decide_false, zfa, eq_self]
      exact ⟨_, rfl, rfl, rfl, rfl⟩
  obtain ⟨⟨y, e, σ⟩, k1, k2⟩ := hL
  simp only at k2
  rcases k2 with ⟨k3, rfl, k4, rfl⟩ | ⟨k3, x, _, rfl, k4, rfl, k5⟩
  · have : a = b := (qor hab).1 k3
    subst this
    simp only [qgc, k1, k4, qac, qm, Ev.exec, qb, qe, qc, qag, Ev.Opnd.ev, Ev.Env.get, Ev.Env.set, Ev.look, qn, qax, ql, qx, qae, Ev.kill, qad, qr, Ev.keep, qai, qy, qd, qay, qw, qah, List.length_map, ↓qq, ↓qak, ↓reduceIte, List.length_cons, List.length_nil, zfe, Nat.reduceAdd, Nat.reduceEqDiff, reduceCtorEq, decide_true, decide_false, zfc, zfa, and_self, ne_eq, not_true_eq_false, zfd, eq_self]
  · have : ¬ a = b := fun h => by rw [(qor hab).2 h] at k3; cases k3
    simp only [this]
    simp only [qgc, hab', k1, k4, k5, qac, qm, Ev.exec, qb, qe, qc, qag, Ev.Opnd.ev, Ev.Env.get, Ev.Env.set, Ev.look, qn, qax, ql, qx, qae, Ev.kill, qad, qr, Ev.keep, qai, qy, qd, qay, qw, qah, List.length_map, ↓qq, ↓qak, ↓reduceIte, List.length_cons, List.length_nil, zfe, Nat.reduceAdd, Nat.reduceEqDiff, reduceCtorEq, decide_false, zfc, zfa, and_self, ne_eq, not_true_eq_false, zfd, eq_self]
end
set_option maxRecDepth 10000
structure Lp.Short (x : Lp) : Prop where
  len : x.procs.length ≤ 9223372036854775807
  timer : ∀ q ∈ x.procs, q.timer.length ≤ 9223372036854775807
section
variable (a b : Lp) (cf df : Bool)
theorem q28 (h1 : a.Short) (h2 : b.Short) : qaz (evL T) qjp [(.agg [(ii a.r0), (ii a.r1), (.fsl ((a.procs).map Pr.r) cf), (ii a.sum)]), (.agg [(ii b.r0), (ii b.r1), (.fsl ((b.procs).map Pr.r) df), (ii b.sum)])] = some (bb (decide (a = b))) := by
  obtain ⟨ar0, ar1, ap, as'⟩ := a
  obtain ⟨br0, br1, bp, bs'⟩ := b
  obtain ⟨l1, t1⟩ := h1
  obtain ⟨l2, t2⟩ := h2
  dsimp only at *
  simp only [Lp.mk.injEq]
  rw [qaz, qs qy3 qxf]
  by_cases e1 : ar0 = br0
  case neg =>
    have e1' : (ar0 == br0) = false := beq_false_of_ne e1
    simp only [qf4, e1, e1', false_and, decide_false, Bool.false_and, qm, Ev.exec, qb, qe, qc, qag, Ev.Opnd.ev, Ev.Env.get, Ev.Env.set, Ev.Env.unset, Ev.look, qn, qh, qab, Ev.AV.cells, qv, Ev.AV.plain, qfy, ql, qx, qae, Ev.kill, qad, qd, qay, qah, ↓qq, ↓reduceIte, List.length_cons, List.length_nil, List.take_succ_cons, List.take_zero, zfe, List.drop_zero, Nat.reduceAdd, Nat.reduceEqDiff, Nat.reduceLeDiff, reduceCtorEq, decide_false, zfc, Bool.and_true, Bool.not_false, Bool.true_eq_false, and_self, ne_eq, zfb, zff, zfd, eq_self, Bool.false_and, false_and]
  by_cases e2 : ar1 = br1
  case neg =>
    have e2' : (ar1 == br1) = false := beq_false_of_ne e2
    simp only [qf4, e1, e2, e2', false_and, and_false, decide_false, Bool.and_false, beq_self_eq_true, Bool.and_true, qm, Ev.exec, qb, qe, qc, qag, Ev.Opnd.ev, Ev.Env.get, Ev.Env.set, Ev.Env.unset, Ev.look, qn, qh, qab, Ev.AV.cells, qv, Ev.AV.plain, qfy, ql, qx, qae, Ev.kill, qad, qd, qay, qah, ↓qq, ↓reduceIte, List.length_cons, List.length_nil, List.take_succ_cons, List.take_zero, zfe, List.drop_zero, Nat.reduceAdd, Nat.reduceEqDiff, Nat.reduceLeDiff, reduceCtorEq, decide_false, zfc, Bool.and_true, Bool.not_false, Bool.true_eq_false, and_self, ne_eq, zfb, zff, zfd, eq_self, beq_self_eq_true, Bool.and_false, false_and, and_false]
  subst e1
  subst e2
  by_cases e3 : as' = bs'
  case neg => simp only [qf4, e3, and_false, decide_false, beq_self_eq_true, qm, Ev.exec, qb, qe, qc, qag, Ev.Opnd.ev, Ev.Env.get, Ev.Env.set, Ev.Env.unset, Ev.look, qn, qh, qab, Ev.AV.cells, qv, Ev.AV.plain, qax, qfy, ql, qx, qae, Ev.kill, qad, qd, qay, qah, ↓qq, ↓reduceIte, List.length_cons, List.length_nil, List.take_succ_cons, List.take_zero, zfe, List.drop_succ_cons, List.drop_zero, List.head?_cons, Nat.reduceAdd, Nat.reduceEqDiff, Nat.reduceLeDiff, reduceCtorEq, decide_true, decide_false, zfc, Bool.not_true, zfa, Bool.true_eq_false, and_self, ne_eq, zfb, zff, zfd, eq_self, beq_self_eq_true, and_false]
  subst e3
  by_cases hab : ap.length = bp.length
  case neg =>
    have hab' : ¬ (ap.length : Int) = (bp.length : Int) := by omega
    have : ¬ ap = bp := fun h => hab (by rw [h])
    simp only [qf4, hab', this, and_false, decide_false, beq_self_eq_true, qm, Ev.exec, qb, qe, qc, qag, Ev.Opnd.ev, Ev.Env.get, Ev.Env.set, Ev.look, qn, qh, qab, Ev.AV.cells, qv, Ev.AV.plain, qax, qfy, ql, qx, qae, Ev.kill, qad, qd, qay, qah, List.length_map, ↓qq, ↓reduceIte, List.length_cons, List.length_nil, List.take_succ_cons, List.take_zero, zfe, List.drop_succ_cons, List.drop_zero, List.head?_cons, Nat.reduceAdd, Nat.reduceEqDiff, Nat.reduceLeDiff, reduceCtorEq, decide_true, decide_false, zfc, Bool.not_true, zfa, and_self, and_true, ne_eq, zfb, not_true_eq_false, zff, zfd, eq_self, beq_self_eq_true, and_false]
  have hab' : (ap.length : Int) = (bp.length : Int) := by omega
  have hzl : (ap.zip bp).length = ap.length := by rw [List.length_zip, ← hab, Nat.min_self]
  have hL : ∃ y, itB (exec (evL T) itL none qe7) (qr [2, 3, 5] true 0) ⟨[(2, .fptr [(ii ar0), (ii ar1), (.fsl ((ap).map Pr.r) cf), (ii as')]), (3, .fptr [(ii ar0), (ii ar1), (.fsl ((bp).map Pr.r) df), (ii as')]), (5, (ii 0))], []⟩ [] = some y ∧ ((ap.zip bp).all (fun z => decide (z.1 = z.2)) = true ∧ (y.1 = .exit 0 ∧ y.2.1.marks = [] ∧ y.2.2 = []) ∨
      (ap.zip bp).all (fun z => decide (z.1 = z.2)) = false ∧ ∃ x, (ap.zip bp).find? (fun z => !decide (z.1 = z.2)) = some x ∧ (y.1 = .ret ∧ y.2.1.marks = [] ∧ y.2.2 = [.row 4 [x.1.r] 0, .row 4 [x.2.r] 0] ∧ Ev.look y.2.1.vars 4 = some (bb false))) := by
    refine qfd (ap.zip bp) (fun i => ⟨[(2, .fptr [(ii ar0), (ii ar1), (.fsl ((ap).map Pr.r) cf), (ii as')]), (3, .fptr [(ii ar0), (ii ar1), (.fsl ((bp).map Pr.r) df), (ii as')]), (5, (ii i))], []⟩) [] (fun z => decide (z.1 = z.2)) _ (fun x y => _) ?_ ?_ ?_
    · intro i x hi hx hp
      rw [hzl] at hi
      have hi' : (i : Int) < (ap.length : Int) := by omega
      have hw : IntKind.i64.wrap ((i : Int) + 1) = ((i + 1 : Nat) : Int) := by rw [qao (by omega) (by omega)]; simp
      obtain ⟨hxa, hxb⟩ := List.getElem?_zip_eq_some.1 hx
      obtain ⟨⟨p1, p2, p3, p4⟩, q⟩ := x
      have hv := qqs p4 p4 false false (t1 _ (List.mem_of_getElem? hxa)) (t1 _ (List.mem_of_getElem? hxa))
      simp only [decide_true] at hv
      simp only [decide_eq_true_eq] at hp
      subst hp
      cases p3 <;> simp only [qe7, Int.natCast_nonneg, Int.toNat_natCast, List.getElem?_map, Option.map_some, hxa, hxb, hi', hw, hv, qat, qar, Pr.r, Ev.exec, qb, qe, qc, qaw, qag, Ev.evs, Ev.Opnd.ev, Ev.Env.get, Ev.Env.set, Ev.look, qh, qab, Ev.AV.cells, qv, Ev.AV.plain, qaj, qax, qo, qr, Ev.keep, qai, qy, qd, qay, qw, qdk, qj, qk, List.length_map, ↓qq, Ev.it1, ↓reduceIte, List.length_cons, List.length_nil, List.getElem?_cons_zero, List.getElem?_cons_succ, List.take_succ_cons, List.take_zero, zfe, List.drop_succ_cons, List.drop_zero, List.drop_nil, List.cons_append, List.nil_append, List.append_nil, List.set_cons_zero, List.set_cons_succ, List.head?_cons, Nat.reduceAdd, Nat.reduceEqDiff, decide_true, decide_false, zfc, Bool.not_true, zfa, and_self, ne_eq, zfb, not_true_eq_false, zff, zfd, Nat.add_zero, Nat.le_refl, eq_self, beq_self_eq_true]
    · intro i x hi hx hp
      rw [hzl] at hi
      have hi' : (i : Int) < (ap.length : Int) := by omega
      obtain ⟨hxa, hxb⟩ := List.getElem?_zip_eq_some.1 hx
      obtain ⟨⟨p1, p2, p3, p4⟩, ⟨q1, q2, q3, q4⟩⟩ := x
      have hv := qqs p4 q4 false false (t1 _ (List.mem_of_getElem? hxa)) (t2 _ (List.mem_of_getElem? hxb))
      simp only [decide_eq_false_iff_not, Pr.mk.injEq] at hp
      by_cases f1 : p1 = q1
      case neg =>
        simp only [qe7, Int.natCast_nonneg, Int.toNat_natCast, List.getElem?_map, Option.map_some, hxa, hxb, hi', f1, Pr.r, Ev.exec, qb, qe, qc, qag, Ev.Opnd.ev, Ev.Env.get, Ev.Env.set, Ev.Env.unset, Ev.look, qh, qab, Ev.AV.cells, qv, Ev.AV.plain, qax, qo, List.length_map, ↓qq, Ev.it1, ↓reduceIte, List.length_cons, List.length_nil, List.getElem?_cons_zero, List.getElem?_cons_succ, List.take_succ_cons, List.take_zero, zfe, List.drop_succ_cons, List.drop_zero, List.drop_nil, List.cons_append, List.nil_append, List.append_nil, List.set_cons_zero, List.set_cons_succ, List.head?_cons, Nat.reduceAdd, Nat.reduceEqDiff, decide_true, zfc, zfa, Bool.true_eq_false, and_self, ne_eq, zfb, zff, zfd, Nat.add_zero, Nat.le_refl, eq_self]
        exact ⟨_, rfl, rfl, rfl, rfl, rfl⟩
      by_cases f2 : p2 = q2
      case neg =>
        simp only [qe7, Int.natCast_nonneg, Int.toNat_natCast, List.getElem?_map, Option.map_some, hxa, hxb, hi', f1, f2, Pr.r, Ev.exec, qb, qe, qc, qag, Ev.Opnd.ev, Ev.Env.get, Ev.Env.set, Ev.Env.unset, Ev.look, qh, qab, Ev.AV.cells, qv, Ev.AV.plain, qax, qo, List.length_map, ↓qq, Ev.it1, ↓reduceIte, List.length_cons, List.length_nil, List.getElem?_cons_zero, List.getElem?_cons_succ, List.take_succ_cons, List.take_zero, zfe, List.drop_succ_cons, List.drop_zero, List.drop_nil, List.cons_append, List.nil_append, List.append_nil, List.set_cons_zero, List.set_cons_succ, List.head?_cons, Nat.reduceAdd, Nat.reduceEqDiff, decide_true, decide_false, zfc, zfa, Bool.true_eq_false, and_self, ne_eq, zfb, not_true_eq_false, zff, zfd, Nat.add_zero, Nat.le_refl, eq_self]
        exact ⟨_, rfl, rfl, rfl, rfl, rfl⟩
      by_cases f3 : p3 = q3
      case neg =>
        cases p3 <;> cases q3 <;> first | exact absurd rfl f3 | (simp only [qe7, Int.natCast_nonneg, Int.toNat_natCast, List.getElem?_map, Option.map_some, hxa, hxb, hi', f1, f2, Pr.r, Ev.exec, qb, qe, qc, qaw, qag, Ev.evs, Ev.Opnd.ev, Ev.Env.get, Ev.Env.set, Ev.Env.unset, Ev.look, qh, qab, Ev.AV.cells, qv, Ev.AV.plain, qax, qo, qr, Ev.keep, qd, List.length_map, ↓qq, Ev.it1, ↓reduceIte, List.length_cons, List.length_nil, List.getElem?_cons_zero, List.getElem?_cons_succ, List.take_succ_cons, List.take_zero, zfe, List.drop_succ_cons, List.drop_zero, List.drop_nil, List.cons_append, List.nil_append, List.append_nil, List.set_cons_zero, List.set_cons_succ, List.head?_cons, Nat.reduceAdd, Nat.reduceEqDiff, decide_true, decide_false, zfc, zfa, and_self, and_true, ne_eq, zfb, not_true_eq_false, zff, zfd, Nat.add_zero, Nat.le_refl, eq_self]; exact ⟨_, rfl, rfl, rfl, rfl, rfl⟩)
      have f4 : ¬ p4 = q4 := fun h => hp ⟨f1, f2, f3, h⟩
      simp only [f4, decide_false] at hv
      subst f3
      cases p3 <;> (simp only [qe7, Int.natCast_nonneg, Int.toNat_natCast, List.getElem?_map, Option.map_some, hxa, hxb, hi', f1, f2, hv, qar, Pr.r, Ev.exec, qb, qe, qc, qaw, qag, Ev.evs, Ev.Opnd.ev, Ev.Env.get, Ev.Env.set, Ev.look, qh, qab, Ev.AV.cells, qv, Ev.AV.plain, qax, qo, qw, qj, qk, List.length_map, ↓qq, Ev.it1, ↓reduceIte, List.length_cons, List.length_nil, List.getElem?_cons_zero, List.getElem?_cons_succ, List.take_succ_cons, List.take_zero, zfe, List.drop_succ_cons, List.drop_zero, List.drop_nil, List.cons_append, List.nil_append, List.append_nil, List.set_cons_zero, List.set_cons_succ, List.head?_cons, Nat.reduceAdd, Nat.reduceEqDiff, decide_true, decide_false, zfc, Bool.not_true, Bool.not_false, zfa, and_self, ne_eq, zfb, not_true_eq_false, zff, zfd, Nat.add_zero, Nat.le_refl, eq_self, beq_self_eq_true]; exact ⟨_, rfl, rfl, rfl, rfl, rfl⟩)
    · rw [hzl]
      simp only [qe7, Int.lt_irrefl, Ev.exec, qb, qe, qc, qag, Ev.Opnd.ev, Ev.Env.get, Ev.Env.set, Ev.look, qh, qab, qo, List.length_map, ↓qq, Ev.it1, ↓reduceIte, List.drop_succ_cons, List.drop_zero, List.head?_cons, Nat.reduceEqDiff, decide_false, zfa, eq_self]
      exact ⟨_, rfl, rfl, rfl, rfl⟩
  obtain ⟨⟨y, e, σ⟩, k1, k2⟩ := hL
  simp only at k2
  rcases k2 with ⟨k3, rfl, k4, rfl⟩ | ⟨k3, x, _, rfl, k4, rfl, k5⟩
  · have : ap = bp := (qor hab).1 k3
    subst this
    simp only [qf4, k1, k4, qat, beq_self_eq_true, and_self, decide_true, qm, Ev.exec, qb, qe, qc, qag, Ev.Opnd.ev, Ev.Env.get, Ev.Env.set, Ev.look, qn, qh, qab, Ev.AV.cells, qv, Ev.AV.plain, qax, qfy, ql, qx, qae, Ev.kill, qad, qr, Ev.keep, qai, qy, qd, qay, qw, qdk, qj, qk, qah, List.length_map, ↓qq, ↓qak, ↓reduceIte, List.length_cons, List.length_nil, List.take_succ_cons, List.take_zero, zfe, List.drop_succ_cons, List.drop_zero, List.head?_cons, Nat.reduceAdd, Nat.reduceEqDiff, Nat.reduceLeDiff, reduceCtorEq, decide_true, decide_false, zfc, Bool.not_true, zfa, and_self, ne_eq, zfb, not_true_eq_false, zff, zfd, eq_self, beq_self_eq_true]
  · have : ¬ ap = bp := fun h => by rw [(qor hab).2 h] at k3; cases k3
    simp only [this]
    simp only [qf4, hab', k1, k4, k5, qat, beq_self_eq_true, and_false, decide_false, qm, Ev.exec, qb, qe, qc, qag, Ev.Opnd.ev, Ev.Env.get, Ev.Env.set, Ev.look, qn, qh, qab, Ev.AV.cells, qv, Ev.AV.plain, qax, qfy, ql, qx, qae, Ev.kill, qad, qr, Ev.keep, qai, qy, qd, qay, qw, qdk, qj, qk, qah, List.length_map, ↓qq, ↓qak, ↓reduceIte, List.length_cons, List.length_nil, List.take_succ_cons, List.take_zero, zfe, List.drop_succ_cons, List.drop_zero, List.head?_cons, Nat.reduceAdd, Nat.reduceEqDiff, Nat.reduceLeDiff, reduceCtorEq, decide_false, zfc, Bool.not_true, zfa, and_self, and_true, ne_eq, zfb, not_true_eq_false, zff, zfd, eq_self, beq_self_eq_true, and_false]
end
def lpF (x : Lp × Bool) : List AV := [(ii x.1.r0), (ii x.1.r1), (.fsl ((x.1.procs).map Pr.r) x.2), (ii x.1.sum)]
theorem lpF_lo (n : Nat) (x : Lp × Bool) : los n (lpF x) = true := by simp only [lpF, qat, qay, qw, qj, qk, zfc, eq_self]
theorem lpF_pl (x : Lp × Bool) : (lpF x).length = 4 ∧ qv (lpF x) = true := ⟨rfl, rfl⟩
theorem qkr (n : Nat) (l : List (Lp × Bool)) : qi0 n (l.map lpF) = true := qk5 (lpF_lo n) l
theorem lpFs_ok (l : List (Lp × Bool)) : qeh 4 (l.map lpF) = true := qma lpF_pl l
section
variable (a b : List (Lp × Bool)) (c d : Bool)
theorem qur : ∀ {a b : List (Lp × Bool)}, a.length = b.length → ((a.zip b).all (fun z => decide (z.1.1 = z.2.1)) = true ↔ a.map Prod.fst = b.map Prod.fst)
  | [], [], _ => by simp
  | x :: a, y :: b, h => by
    rw [List.zip_cons_cons, List.all_cons, Bool.and_eq_true, decide_eq_true_eq, qur (a := a) (b := b) (by simpa using h), List.map_cons, List.map_cons, List.cons.injEq]
  | [], _ :: _, h => by simp at h
  | _ :: _, [], h => by simp at h
theorem q3b (h1 : a.length ≤ 9223372036854775807) (h2 : b.length ≤ 9223372036854775807) (ha : ∀ x ∈ a, x.1.Short) (hb : ∀ x ∈ b, x.1.Short) :
    qaz (evL T) qis [(.fsl ((a).map lpF) c), (.fsl ((b).map lpF) d)] = some (bb (decide (a.map Prod.fst = b.map Prod.fst))) := by
  rw [qaz, qs qwp qvw]
  by_cases hab : a.length = b.length
  case neg =>
    have hab' : ¬ (a.length : Int) = (b.length : Int) := by omega
    have : ¬ a.map Prod.fst = b.map Prod.fst := fun h => hab (by simpa using congrArg List.length h)
    simp only [qim, hab', this, qm, Ev.exec, qb, qe, qc, qag, Ev.Opnd.ev, Ev.Env.get, Ev.Env.set, Ev.look, qn, qax, ql, qx, qae, Ev.kill, qad, qd, qay, qah, List.length_map, ↓qq, ↓reduceIte, List.length_cons, List.length_nil, zfe, Nat.reduceAdd, Nat.reduceEqDiff, reduceCtorEq, decide_true, decide_false, and_self, ne_eq, zfb, zfd, eq_self]
  have hab' : (a.length : Int) = (b.length : Int) := by omega
  have hzl : (a.zip b).length = a.length := by rw [List.length_zip, ← hab, Nat.min_self]
  have hL : ∃ y, itB (exec (evL T) itL none qhv) (qr [0, 1, 5] true 0) ⟨[(0, (.fsl ((a).map lpF) c)), (1, (.fsl ((b).map lpF) d)), (5, (ii 0))], []⟩ [] = some y ∧ ((a.zip b).all (fun z => decide (z.1.1 = z.2.1)) = true ∧ (y.1 = .exit 0 ∧ y.2.1.marks = [] ∧ y.2.2 = []) ∨
      (a.zip b).all (fun z => decide (z.1.1 = z.2.1)) = false ∧ ∃ x, (a.zip b).find? (fun z => !decide (z.1.1 = z.2.1)) = some x ∧ (y.1 = .ret ∧ y.2.1.marks = [] ∧ y.2.2 = [] ∧ Ev.look y.2.1.vars 4 = some (bb false))) := by
    refine qfd (a.zip b) (fun i => ⟨[(0, (.fsl ((a).map lpF) c)), (1, (.fsl ((b).map lpF) d)), (5, (ii i))], []⟩) [] (fun z => decide (z.1.1 = z.2.1)) _ (fun _ y => _) ?_ ?_ ?_
    · intro i x hi hx hp
      rw [hzl] at hi
      have hi' : (i : Int) < (a.length : Int) := by omega
      have hw : IntKind.i64.wrap ((i : Int) + 1) = ((i + 1 : Nat) : Int) := by rw [qao (by omega) (by omega)]; simp
      obtain ⟨hxa, hxb⟩ := List.getElem?_zip_eq_some.1 hx
      have hv := q28 x.1.1 x.2.1 x.1.2 x.2.2 (ha _ (List.mem_of_getElem? hxa)) (hb _ (List.mem_of_getElem? hxb))
      rw [hp] at hv
      simp only [qhv, Int.natCast_nonneg, Int.toNat_natCast, List.getElem?_map, Option.map_some, hxa, hxb, hi', hw, hv, qkr, qat, lpF, Ev.exec, qb, qe, qc, qaw, qag, Ev.evs, Ev.Opnd.ev, Ev.Env.get, Ev.Env.set, Ev.look, qh, qab, qaj, qo, qr, Ev.keep, qai, qy, qd, qay, qbe, qw, qj, qk, List.length_map, ↓qq, Ev.it1, ↓reduceIte, List.length_cons, List.length_nil, List.take_succ_cons, zfe, Nat.reduceAdd, Nat.reduceEqDiff, reduceCtorEq, decide_true, zfc, Bool.not_true, zfa, and_self, zfd, Nat.le_refl, eq_self]
    · intro i x hi hx hp
      rw [hzl] at hi
      have hi' : (i : Int) < (a.length : Int) := by omega
      obtain ⟨hxa, hxb⟩ := List.getElem?_zip_eq_some.1 hx
      have hv := q28 x.1.1 x.2.1 x.1.2 x.2.2 (ha _ (List.mem_of_getElem? hxa)) (hb _ (List.mem_of_getElem? hxb))
      rw [hp] at hv
      simp only [qhv, Int.natCast_nonneg, Int.toNat_natCast, List.getElem?_map, Option.map_some, hxa, hxb, hi', hv, qat, lpF, Ev.exec, qb, qe, qc, qaw, qag, Ev.evs, Ev.Opnd.ev, Ev.Env.get, Ev.Env.set, Ev.look, qh, qab, qo, qay, qbe, qw, qj, qk, List.length_map, ↓qq, Ev.it1, ↓reduceIte, List.length_cons, List.length_nil, List.take_succ_cons, zfe, Nat.reduceAdd, Nat.reduceEqDiff, reduceCtorEq, decide_true, zfc, Bool.not_false, zfd, Nat.le_refl, eq_self]
      exact ⟨_, rfl, rfl, rfl, rfl, rfl⟩
    · rw [hzl]
      simp only [qhv, Int.lt_irrefl, Ev.exec, qb, qe, qc, qag, Ev.Opnd.ev, Ev.Env.get, Ev.Env.set, Ev.look, qo, List.length_map, ↓qq, Ev.it1, ↓reduceIte, Nat.reduceEqDiff, reduceCtorEq, decide_false, zfa, eq_self]
      exact ⟨_, rfl, rfl, rfl, rfl⟩
  obtain ⟨⟨y, e, σ⟩, k1, k2⟩ := hL
  simp only at k2
  rcases k2 with ⟨k3, rfl, k4, rfl⟩ | ⟨k3, x, _, rfl, k4, rfl, k5⟩
  · have : a.map Prod.fst = b.map Prod.fst := (qur hab).1 k3
    simp only [this, decide_true]
    simp only [qim, hab', k1, k4, qkr, qm, Ev.exec, qb, qe, qc, qag, Ev.Opnd.ev, Ev.Env.get, Ev.Env.set, Ev.look, qn, qax, ql, qx, qae, Ev.kill, qad, qr, Ev.keep, qai, qy, qd, qay, qw, qah, List.length_map, ↓qq, ↓qak, ↓reduceIte, List.length_cons, List.length_nil, zfe, Nat.reduceAdd, Nat.reduceEqDiff, reduceCtorEq, decide_false, zfc, zfa, and_self, ne_eq, not_true_eq_false, zfd, eq_self]
  · have : ¬ a.map Prod.fst = b.map Prod.fst := fun h => by rw [(qur hab).2 h] at k3; cases k3
    simp only [this]
    simp only [qim, hab', k1, k4, k5, qkr, qm, Ev.exec, qb, qe, qc, qag, Ev.Opnd.ev, Ev.Env.get, Ev.Env.set, Ev.look, qn, qax, ql, qx, qae, Ev.kill, qad, qr, Ev.keep, qai, qy, qd, qay, qw, qah, List.length_map, ↓qq, ↓qak, ↓reduceIte, List.length_cons, List.length_nil, zfe, Nat.reduceAdd, Nat.reduceEqDiff, reduceCtorEq, decide_false, zfc, zfa, and_self, ne_eq, not_true_eq_false, zfd, eq_self]
end
set_option maxRecDepth 10000
section
variable (a b : Lp)
end
set_option maxRecDepth 10000
theorem q2f (l : List Int) (c : Bool) (n : Int) (h : l.length ≤ 1000) : qaz (evL T) qkb [(.fsl ((l).map qcm) c), (ii n)] = some (.fsl ((l ++ [n]).map qcm) false) := by
  have h' : (l.length + 1) * 8 ≤ 140737488355328 := by omega
  have h2 : l.length * 8 ≤ 140737488355328 := by omega
  have htl : List.take l.length (l.map qcm) = l.map qcm := List.take_of_length_le (by simp)
  have htk : ∀ e : List AV, List.take (l.length + 1) (l.map qcm ++ [e]) = l.map qcm ++ [e] := fun e => List.take_of_length_le (by simp)
  have hr : (l ++ [n]).map qcm = l.map qcm ++ [[(ii n)]] := by rw [List.map_append]; rfl
  rw [qaz, qs q0d qyy]
  rw [hr]
  simp only [qnm, h', h2, htl, htk, qly, qace, qar, qm, Ev.exec, qb, qe, qc, qag, qsn, Ev.Opnd.ev, Ev.Env.get, Ev.Env.set, Ev.look, qn, qc0, qh9, Ev.AV.cells, Ev.AV.uc, qv, Ev.AV.plain, ql, qx, qae, Ev.kill, qad, qd, qay, qb2, qj, qk, qaf, qaq, qcb, qcc, qlc, qik, List.replicate_one, List.replicate_zero, List.length_map, ↓qq, ↓reduceIte, List.length_cons, List.length_nil, List.length_append, List.getElem?_cons_zero, List.take_zero, List.drop_zero, List.nil_append, List.set_cons_zero, Nat.reduceAdd, Nat.reduceEqDiff, Nat.reduceMul, Nat.reduceLT, Nat.reduceLeDiff, Nat.reducePow, reduceCtorEq, decide_true, decide_false, zfc, zfa, and_self, and_true, ne_eq, zfb, not_true_eq_false, zff, zfd, Nat.lt_add_one, Nat.le_refl, eq_self, and_false]
theorem qpr (l : List (List Int)) (k : List Int) (c : Bool) (h : l.length ≤ 1000) : qaz (evL T) qfw [(.fsl ((l).map qfe) c), (.fsl ((k).map qcm) false)] = some (.fsl ((l ++ [k]).map qfe) false) := by
  have h' : (l.length + 1) * 24 ≤ 140737488355328 := by omega
  have h2 : l.length * 24 ≤ 140737488355328 := by omega
  have htl : List.take l.length (l.map qfe) = l.map qfe := List.take_of_length_le (by simp)
  have htk : ∀ e : List AV, List.take (l.length + 1) (l.map qfe ++ [e]) = l.map qfe ++ [e] := fun e => List.take_of_length_le (by simp)
  have hr : (l ++ [k]).map qfe = l.map qfe ++ [[(.fsl ((k).map qcm) false)]] := by rw [List.map_append]; rfl
  rw [qaz, qs quw qt3]
  rw [hr]
  simp only [qkh, h', h2, htl, htk, qly, keys_ok, qbq, qar, qm, Ev.exec, qb, qe, qc, qag, qsn, Ev.Opnd.ev, Ev.Env.get, Ev.Env.set, Ev.look, qn, qc0, qh9, Ev.AV.cells, Ev.AV.uc, qv, Ev.AV.plain, ql, qx, qae, Ev.kill, qad, qd, qw, qb2, qj, qk, qaf, qaq, qcb, qcc, qlc, qik, List.replicate_one, List.replicate_zero, List.length_map, ↓qq, ↓reduceIte, List.length_cons, List.length_nil, List.length_append, List.getElem?_cons_zero, List.take_zero, List.drop_zero, List.nil_append, List.set_cons_zero, Nat.reduceAdd, Nat.reduceEqDiff, Nat.reduceMul, Nat.reduceLT, Nat.reduceLeDiff, Nat.reducePow, reduceCtorEq, decide_true, decide_false, zfc, zfa, and_self, and_true, ne_eq, zfb, not_true_eq_false, zff, zfd, Nat.lt_add_one, Nat.le_refl, eq_self, and_false]
section
variable (x : Ex)
theorem qeo (h : x.procs.length ≤ 1000) (i : Nat) (hi : i < x.procs.length) (q : Pr) : qaz (evL T) qfj [(.agg [(ii x.r0), (ii x.r1), (.fsl ((x.procs).map Pr.r) false), (ii x.sum), (ii x.ev.time), (.fsl ((x.ev.key).map qcm) false), (ii x.ev.lp), (ii x.ev.kind), (ii x.ev.proc), (ii x.ev.arg), (.fsl ((x.out).map Evt.r) false), (.fsl ((x.gone).map qfe) false), (ii x.n), (bb x.over)]), (ii i), (.agg [(ii q.prog), (ii q.pc), (bb q.alive), (.fsl ((q.timer).map qcm) false)])] = some (.agg [(ii ((x.setP i q).r0)), (ii ((x.setP i q).r1)), (.fsl (((x.setP i q).procs).map Pr.r) false), (ii ((x.setP i q).sum)), (ii ((x.setP i q).ev.time)), (.fsl (((x.setP i q).ev.key).map qcm) false), (ii ((x.setP i q).ev.lp)), (ii ((x.setP i q).ev.kind)), (ii ((x.setP i q).ev.proc)), (ii ((x.setP i q).ev.arg)), (.fsl (((x.setP i q).out).map Evt.r) false), (.fsl (((x.setP i q).gone).map qfe) false), (ii ((x.setP i q).n)), (bb ((x.setP i q).over))]) := by
  have h2 : x.procs.length * 48 ≤ 140737488355328 := by omega
  have htl : ∀ e : List AV, List.take x.procs.length ((x.procs.map Pr.r).set i e) = (x.procs.map Pr.r).set i e := fun e => List.take_of_length_le (by simp)
  have hset : (x.procs.map Pr.r).set i [(ii q.prog), (ii q.pc), (bb q.alive), (.fsl ((q.timer).map qcm) false)] = (x.procs.set i q).map Pr.r := by rw [List.map_set]; rfl
  obtain ⟨q0, hq⟩ : ∃ q0, x.procs[i]? = some q0 := ⟨_, List.getElem?_eq_getElem hi⟩
  have ft : ∀ {τ : Type} (l : List τ) (f : τ → List AV), List.take l.length (l.map f) = l.map f := fun l f => List.take_of_length_le (by simp)
  have htl2 : List.take x.procs.length ((x.procs.set i q).map Pr.r) = (x.procs.set i q).map Pr.r := List.take_of_length_le (by simp)
  unfold Ex.setP
  rw [qaz, qs q39 q22]
  simp only [qrx, htl2, h2, hi, hq, hset, q3z, Pr.r, Int.natCast_nonneg, Int.toNat_natCast, List.getElem?_map, Option.map_some, qar, qat, qac, qbq, Nat.reduceLT, Nat.reduceLeDiff, qm, Ev.exec, qb, qe, qc, qag, Ev.Opnd.ev, Ev.Env.get, Ev.Env.set, Ev.look, qn, qh, qc0, qab, qh9, Ev.AV.cells, Ev.AV.uc, qv, Ev.AV.plain, ql, qx, qae, Ev.kill, qad, qd, qay, qbe, qw, qj, qk, qah, List.length_set, List.replicate_zero, List.length_map, ↓qq, ↓reduceIte, List.length_cons, List.length_nil, List.getElem?_cons_zero, List.getElem?_cons_succ, List.take_succ_cons, List.take_zero, zfe, List.drop_succ_cons, List.drop_zero, List.drop_nil, List.cons_append, List.nil_append, List.append_nil, List.set_cons_zero, List.set_cons_succ, List.head?_cons, Nat.reduceAdd, Nat.reduceEqDiff, Nat.reduceMul, Nat.reduceLT, Nat.reduceLeDiff, Nat.reducePow, reduceCtorEq, zfc, zfa, and_self, ne_eq, zfb, not_true_eq_false, zff, zfd, Nat.add_zero, Nat.le_refl, eq_self, and_false]
theorem qj2 (h : x.Small) (d : Int) (t0 lp k p a : Int) (ks : List Int) :
    qaz (evL T) qf1 [(.agg [(ii x.r0), (ii x.r1), (.fsl ((x.procs).map Pr.r) false), (ii x.sum), (ii x.ev.time), (.fsl ((x.ev.key).map qcm) false), (ii x.ev.lp), (ii x.ev.kind), (ii x.ev.proc), (ii x.ev.arg), (.fsl ((x.out).map Evt.r) false), (.fsl ((x.gone).map qfe) false), (ii x.n), (bb x.over)]), (ii d), .agg [(ii t0), (.fsl ((ks).map qcm) false), (ii lp), (ii k), (ii p), (ii a)]] = some (.tup [(.agg [(ii ((x.create d ⟨t0, ks, lp, k, p, a⟩).r0)), (ii ((x.create d ⟨t0, ks, lp, k, p, a⟩).r1)), (.fsl (((x.create d ⟨t0, ks, lp, k, p, a⟩).procs).map Pr.r) false), (ii ((x.create d ⟨t0, ks, lp, k, p, a⟩).sum)), (ii ((x.create d ⟨t0, ks, lp, k, p, a⟩).ev.time)), (.fsl (((x.create d ⟨t0, ks, lp, k, p, a⟩).ev.key).map qcm) false), (ii ((x.create d ⟨t0, ks, lp, k, p, a⟩).ev.lp)), (ii ((x.create d ⟨t0, ks, lp, k, p, a⟩).ev.kind)), (ii ((x.create d ⟨t0, ks, lp, k, p, a⟩).ev.proc)), (ii ((x.create d ⟨t0, ks, lp, k, p, a⟩).ev.arg)), (.fsl (((x.create d ⟨t0, ks, lp, k, p, a⟩).out).map Evt.r) false), (.fsl (((x.create d ⟨t0, ks, lp, k, p, a⟩).gone).map qfe) false), (ii ((x.create d ⟨t0, ks, lp, k, p, a⟩).n)), (bb ((x.create d ⟨t0, ks, lp, k, p, a⟩).over))]), (.fsl ((x.kid).map qcm) false)]) := by
  have hk := q2f x.ev.key false x.n h.key
  have hs : (x.out.length + 1) * 64 ≤ 140737488355328 := by have := h.out; omega
  have hs2 : x.out.length * 64 ≤ 140737488355328 := by have := h.out; omega
  have htl : List.take x.out.length (x.out.map Evt.r) = x.out.map Evt.r := List.take_of_length_le (by simp)
  have htk : ∀ e : List AV, List.take (x.out.length + 1) (x.out.map Evt.r ++ [e]) = x.out.map Evt.r ++ [e] := fun e => List.take_of_length_le (by simp)
  unfold Ex.create Ex.kid
  rw [qaz, qs qyn qwr]
  by_cases ho : w64 (x.ev.time + d) > 1152921504606846976
  · have ho' : IntKind.i64.wrap (x.ev.time + d) > 1152921504606846976 := ho
    simp only [ho, if_true]
    simp only [qkw, hk, ho', qar, qat, qac, qbq, Nat.reduceLeDiff, qm, Ev.exec, qb, qe, qc, qaw, qag, Ev.evs, Ev.Opnd.ev, Ev.Env.get, Ev.Env.set, Ev.look, qn, qh, qab, Ev.AV.cells, Ev.AV.uc, qv, Ev.AV.plain, qaj, qav, ql, qx, qae, Ev.kill, qad, qd, qay, qbe, qbc, qw, qoi, Ev.AV.obj?, qj, qk, qah, ↓qq, ↓reduceIte, List.length_cons, List.length_nil, List.getElem?_cons_zero, List.getElem?_cons_succ, List.take_succ_cons, List.take_zero, zfe, List.drop_succ_cons, List.drop_zero, List.drop_nil, List.cons_append, List.nil_append, List.append_nil, List.set_cons_zero, List.set_cons_succ, List.head?_cons, Nat.reduceAdd, Nat.reduceEqDiff, Nat.reduceBEq, Nat.reduceLeDiff, reduceCtorEq, decide_true, zfc, Bool.not_false, zfa, and_self, ne_eq, zfb, zff, zfd, Nat.add_zero, Nat.le_refl, eq_self]
    done
  · have ho' : ¬ IntKind.i64.wrap (x.ev.time + d) > 1152921504606846976 := ho
    simp only [ho, if_false]
    have hr : ∀ e : Evt, (x.out ++ [e]).map Evt.r = x.out.map Evt.r ++ [e.r] := fun e => by rw [List.map_append]; rfl
    simp only [qkw, hk, ho', hs, hs2, htl, htk, hr, qly, qlv, Evt.r, qar, qat, qac, qbq, Nat.reduceLT, Nat.reduceLeDiff, qm, Ev.exec, qb, qe, qc, qaw, qag, qsn, Ev.evs, Ev.Opnd.ev, Ev.Env.get, Ev.Env.set, Ev.look, qn, qh, qc0, qab, qh9, Ev.AV.cells, Ev.AV.uc, qv, Ev.AV.plain, qaj, qav, ql, qx, qae, Ev.kill, qad, qd, qay, qbe, qbc, qw, qoi, Ev.AV.obj?, qj, qk, qaf, qaq, qcb, qcc, qah, List.replicate_one, List.replicate_zero, List.length_map, ↓qq, ↓reduceIte, List.length_cons, List.length_nil, List.length_append, List.getElem?_cons_zero, List.getElem?_cons_succ, List.take_succ_cons, List.take_zero, zfe, List.drop_succ_cons, List.drop_zero, List.drop_nil, List.cons_append, List.nil_append, List.append_nil, List.set_cons_zero, List.set_cons_succ, List.head?_cons, Nat.reduceAdd, Nat.reduceEqDiff, Nat.reduceBEq, Nat.reduceMul, Nat.reduceLT, Nat.reduceLeDiff, Nat.reducePow, reduceCtorEq, decide_true, decide_false, zfc, Bool.not_false, zfa, and_self, ne_eq, zfb, not_true_eq_false, zff, zfd, Nat.add_zero, Nat.lt_add_one, Nat.le_refl, eq_self, and_false]
    done
end
set_option maxRecDepth 10000
def Pr.inc (q : Pr) : Pr := { q with pc := w64 (q.pc + 1) }
section
variable (x : Ex) (i : Nat) (op : OpI) (q : Pr)
theorem q93 (h : x.Small) (hq : x.procs[i]? = some q) (h1 : op.code = 1) :
    qaz (evL T) qd3 [(.agg [(ii x.r0), (ii x.r1), (.fsl ((x.procs).map Pr.r) false), (ii x.sum), (ii x.ev.time), (.fsl ((x.ev.key).map qcm) false), (ii x.ev.lp), (ii x.ev.kind), (ii x.ev.proc), (ii x.ev.arg), (.fsl ((x.out).map Evt.r) false), (.fsl ((x.gone).map qfe) false), (ii x.n), (bb x.over)]), (ii i), (.agg [(ii op.code), (ii op.a), (ii op.b), (ii op.c)])] = some (.tup [(.agg [(ii (((x.create op.a ⟨0, [], x.ev.lp, 1, i, 0⟩).setP i q.inc).r0)), (ii (((x.create op.a ⟨0, [], x.ev.lp, 1, i, 0⟩).setP i q.inc).r1)), (.fsl ((((x.create op.a ⟨0, [], x.ev.lp, 1, i, 0⟩).setP i q.inc).procs).map Pr.r) false), (ii (((x.create op.a ⟨0, [], x.ev.lp, 1, i, 0⟩).setP i q.inc).sum)), (ii (((x.create op.a ⟨0, [], x.ev.lp, 1, i, 0⟩).setP i q.inc).ev.time)), (.fsl ((((x.create op.a ⟨0, [], x.ev.lp, 1, i, 0⟩).setP i q.inc).ev.key).map qcm) false), (ii (((x.create op.a ⟨0, [], x.ev.lp, 1, i, 0⟩).setP i q.inc).ev.lp)), (ii (((x.create op.a ⟨0, [], x.ev.lp, 1, i, 0⟩).setP i q.inc).ev.kind)), (ii (((x.create op.a ⟨0, [], x.ev.lp, 1, i, 0⟩).setP i q.inc).ev.proc)), (ii (((x.create op.a ⟨0, [], x.ev.lp, 1, i, 0⟩).setP i q.inc).ev.arg)), (.fsl ((((x.create op.a ⟨0, [], x.ev.lp, 1, i, 0⟩).setP i q.inc).out).map Evt.r) false), (.fsl ((((x.create op.a ⟨0, [], x.ev.lp, 1, i, 0⟩).setP i q.inc).gone).map qfe) false), (ii (((x.create op.a ⟨0, [], x.ev.lp, 1, i, 0⟩).setP i q.inc).n)), (bb (((x.create op.a ⟨0, [], x.ev.lp, 1, i, 0⟩).setP i q.inc).over))]), (bb true)]) := by
  have hl := (List.getElem?_eq_some_iff.1 hq).1
  have hc := qj2 x h op.a 0 x.ev.lp 1 i 0 []
  have hp := qeo (x.create op.a ⟨0, [], x.ev.lp, 1, i, 0⟩) h.procs i hl q.inc
  simp only [List.map_nil, Pr.inc, w64] at hc hp ⊢
  rw [qaz, qs qdx qdn]
  simp only [qd4, h1, hq, hc, hp, Pr.r, Int.natCast_nonneg, Int.toNat_natCast, List.getElem?_map, Option.map_some, qar, qat, qac, qbq, Nat.reduceLeDiff, qm, Ev.exec, qb, qe, qc, qaw, qag, Ev.evs, Ev.Opnd.ev, Ev.Env.get, Ev.Env.set, Ev.look, qn, qh, qab, qff, Ev.AV.cells, Ev.AV.uc, qv, Ev.AV.plain, qaj, qal, ql, qx, qae, Ev.kill, qad, qd, qay, qbe, qbc, qw, qj, qk, qaf, qah, ↓qq, ↓reduceIte, List.length_cons, List.length_nil, List.getElem?_cons_zero, List.getElem?_cons_succ, List.take_succ_cons, List.take_zero, zfe, List.drop_succ_cons, List.drop_zero, List.drop_nil, List.cons_append, List.nil_append, List.append_nil, List.set_cons_zero, List.set_cons_succ, List.head?_cons, Nat.reduceAdd, Nat.reduceEqDiff, Nat.reduceLeDiff, reduceCtorEq, decide_true, zfc, zfa, and_self, ne_eq, zfb, zff, zfd, Nat.add_zero, Nat.le_refl, eq_self]
theorem q8z (h : x.Small) (hq : x.procs[i]? = some q) (h1 : op.code = 2) :
    qaz (evL T) qd3 [(.agg [(ii x.r0), (ii x.r1), (.fsl ((x.procs).map Pr.r) false), (ii x.sum), (ii x.ev.time), (.fsl ((x.ev.key).map qcm) false), (ii x.ev.lp), (ii x.ev.kind), (ii x.ev.proc), (ii x.ev.arg), (.fsl ((x.out).map Evt.r) false), (.fsl ((x.gone).map qfe) false), (ii x.n), (bb x.over)]), (ii i), (.agg [(ii op.code), (ii op.a), (ii op.b), (ii op.c)])] = some (.tup [(.agg [(ii (((x.create op.c ⟨0, [], op.a, 3, 0, op.b⟩).setP i q.inc).r0)), (ii (((x.create op.c ⟨0, [], op.a, 3, 0, op.b⟩).setP i q.inc).r1)), (.fsl ((((x.create op.c ⟨0, [], op.a, 3, 0, op.b⟩).setP i q.inc).procs).map Pr.r) false), (ii (((x.create op.c ⟨0, [], op.a, 3, 0, op.b⟩).setP i q.inc).sum)), (ii (((x.create op.c ⟨0, [], op.a, 3, 0, op.b⟩).setP i q.inc).ev.time)), (.fsl ((((x.create op.c ⟨0, [], op.a, 3, 0, op.b⟩).setP i q.inc).ev.key).map qcm) false), (ii (((x.create op.c ⟨0, [], op.a, 3, 0, op.b⟩).setP i q.inc).ev.lp)), (ii (((x.create op.c ⟨0, [], op.a, 3, 0, op.b⟩).setP i q.inc).ev.kind)), (ii (((x.create op.c ⟨0, [], op.a, 3, 0, op.b⟩).setP i q.inc).ev.proc)), (ii (((x.create op.c ⟨0, [], op.a, 3, 0, op.b⟩).setP i q.inc).ev.arg)), (.fsl ((((x.create op.c ⟨0, [], op.a, 3, 0, op.b⟩).setP i q.inc).out).map Evt.r) false), (.fsl ((((x.create op.c ⟨0, [], op.a, 3, 0, op.b⟩).setP i q.inc).gone).map qfe) false), (ii (((x.create op.c ⟨0, [], op.a, 3, 0, op.b⟩).setP i q.inc).n)), (bb (((x.create op.c ⟨0, [], op.a, 3, 0, op.b⟩).setP i q.inc).over))]), (bb false)]) := by
  have hl := (List.getElem?_eq_some_iff.1 hq).1
  have hc := qj2 x h op.c 0 op.a 3 0 op.b []
  have hp := qeo (x.create op.c ⟨0, [], op.a, 3, 0, op.b⟩) h.procs i hl q.inc
  simp only [List.map_nil, Pr.inc, w64] at hc hp ⊢
  have k1 : ¬ (2 : Int) = 1 := by decide
  rw [qaz, qs qdx qdn]
  simp only [qd4, h1, k1, hq, hc, hp, Pr.r, Int.natCast_nonneg, Int.toNat_natCast, List.getElem?_map, Option.map_some, qar, qat, qac, qbq, Nat.reduceLeDiff, qm, Ev.exec, qb, qe, qc, qaw, qag, Ev.evs, Ev.Opnd.ev, Ev.Env.get, Ev.Env.set, Ev.look, qn, qh, qab, qff, Ev.AV.cells, Ev.AV.uc, qv, Ev.AV.plain, qaj, qal, ql, qx, qae, Ev.kill, qad, qd, qay, qbe, qbc, qw, qj, qk, qaf, qah, ↓qq, ↓reduceIte, List.length_cons, List.length_nil, List.getElem?_cons_zero, List.getElem?_cons_succ, List.take_succ_cons, List.take_zero, zfe, List.drop_succ_cons, List.drop_zero, List.drop_nil, List.cons_append, List.nil_append, List.append_nil, List.set_cons_zero, List.set_cons_succ, List.head?_cons, Nat.reduceAdd, Nat.reduceEqDiff, Nat.reduceLeDiff, reduceCtorEq, decide_true, decide_false, zfc, zfa, and_self, ne_eq, zfb, zff, zfd, Nat.add_zero, Nat.le_refl, eq_self]
theorem q6v (h : x.Small) (hg : x.gone.length < 1000) (hq : x.procs[i]? = some q) (h1 : op.code = 3) :
    qaz (evL T) qd3 [(.agg [(ii x.r0), (ii x.r1), (.fsl ((x.procs).map Pr.r) false), (ii x.sum), (ii x.ev.time), (.fsl ((x.ev.key).map qcm) false), (ii x.ev.lp), (ii x.ev.kind), (ii x.ev.proc), (ii x.ev.arg), (.fsl ((x.out).map Evt.r) false), (.fsl ((x.gone).map qfe) false), (ii x.n), (bb x.over)]), (ii i), (.agg [(ii op.code), (ii op.a), (ii op.b), (ii op.c)])] = some (.tup [(.agg [(ii (((({ x with gone := if 0 < q.timer.length then x.gone ++ [q.timer] else x.gone } : Ex).create op.a ⟨0, [], x.ev.lp, 2, i, op.b⟩).setP i { q.inc with timer := x.kid }).r0)), (ii (((({ x with gone := if 0 < q.timer.length then x.gone ++ [q.timer] else x.gone } : Ex).create op.a ⟨0, [], x.ev.lp, 2, i, op.b⟩).setP i { q.inc with timer := x.kid }).r1)), (.fsl ((((({ x with gone := if 0 < q.timer.length then x.gone ++ [q.timer] else x.gone } : Ex).create op.a ⟨0, [], x.ev.lp, 2, i, op.b⟩).setP i { q.inc with timer := x.kid }).procs).map Pr.r) false), (ii (((({ x with gone := if 0 < q.timer.length then x.gone ++ [q.timer] else x.gone } : Ex).create op.a ⟨0, [], x.ev.lp, 2, i, op.b⟩).setP i { q.inc with timer := x.kid }).sum)), (ii (((({ x with gone := if 0 < q.timer.length then x.gone ++ [q.timer] else x.gone } : Ex).create op.a ⟨0, [], x.ev.lp, 2, i, op.b⟩).setP i { q.inc with timer := x.kid }).ev.time)), (.fsl ((((({ x with gone := if 0 < q.timer.length then x.gone ++ [q.timer] else x.gone } : Ex).create op.a ⟨0, [], x.ev.lp, 2, i, op.b⟩).setP i { q.inc with timer := x.kid }).ev.key).map qcm) false), (ii (((({ x with gone := if 0 < q.timer.length then x.gone ++ [q.timer] else x.gone } : Ex).create op.a ⟨0, [], x.ev.lp, 2, i, op.b⟩).setP i { q.inc with timer := x.kid }).ev.lp)), (ii (((({ x with gone := if 0 < q.timer.length then x.gone ++ [q.timer] else x.gone } : Ex).create op.a ⟨0, [], x.ev.lp, 2, i, op.b⟩).setP i { q.inc with timer := x.kid }).ev.kind)), (ii (((({ x with gone := if 0 < q.timer.length then x.gone ++ [q.timer] else x.gone } : Ex).create op.a ⟨0, [], x.ev.lp, 2, i, op.b⟩).setP i { q.inc with timer := x.kid }).ev.proc)), (ii (((({ x with gone := if 0 < q.timer.length then x.gone ++ [q.timer] else x.gone } : Ex).create op.a ⟨0, [], x.ev.lp, 2, i, op.b⟩).setP i { q.inc with timer := x.kid }).ev.arg)), (.fsl ((((({ x with gone := if 0 < q.timer.length then x.gone ++ [q.timer] else x.gone } : Ex).create op.a ⟨0, [], x.ev.lp, 2, i, op.b⟩).setP i { q.inc with timer := x.kid }).out).map Evt.r) false), (.fsl ((((({ x with gone := if 0 < q.timer.length then x.gone ++ [q.timer] else x.gone } : Ex).create op.a ⟨0, [], x.ev.lp, 2, i, op.b⟩).setP i { q.inc with timer := x.kid }).gone).map qfe) false), (ii (((({ x with gone := if 0 < q.timer.length then x.gone ++ [q.timer] else x.gone } : Ex).create op.a ⟨0, [], x.ev.lp, 2, i, op.b⟩).setP i { q.inc with timer := x.kid }).n)), (bb (((({ x with gone := if 0 < q.timer.length then x.gone ++ [q.timer] else x.gone } : Ex).create op.a ⟨0, [], x.ev.lp, 2, i, op.b⟩).setP i { q.inc with timer := x.kid }).over))]), (bb false)]) := by
  have hl := (List.getElem?_eq_some_iff.1 hq).1
  have k1 : ¬ (3 : Int) = 1 := by decide
  have k2 : ¬ (3 : Int) = 2 := by decide
  have ha := qpr x.gone q.timer false h.gone
  by_cases ht : 0 < q.timer.length
  · have ht' : (q.timer.length : Int) > 0 := by omega
    have hc := qj2 { x with gone := x.gone ++ [q.timer] } ⟨h.procs, h.out, by simp; omega, h.key⟩ op.a 0 x.ev.lp 2 i op.b []
    have hp := qeo (({ x with gone := x.gone ++ [q.timer] } : Ex).create op.a ⟨0, [], x.ev.lp, 2, i, op.b⟩) h.procs i hl { q.inc with timer := x.kid }
    rw [if_pos ht]
    simp only [List.map_nil, Pr.inc, Ex.kid, w64] at hc hp ⊢
    rw [qaz, qs qdx qdn]
    simp only [qd4, h1, k1, k2, ht', hq, hc, hp, ha, Pr.r, Int.natCast_nonneg, Int.toNat_natCast, List.getElem?_map, Option.map_some, qar, qat, qac, qbq, Nat.reduceLeDiff, qm, Ev.exec, qb, qe, qc, qaw, qag, Ev.evs, Ev.Opnd.ev, Ev.Env.get, Ev.Env.set, Ev.look, qn, qh, qab, qff, Ev.AV.cells, Ev.AV.uc, qv, Ev.AV.plain, qaj, qal, qav, ql, qx, qae, Ev.kill, qad, qd, qay, qbe, qbc, qw, qj, qk, qaf, qah, List.length_map, ↓qq, ↓reduceIte, List.length_cons, List.length_nil, List.getElem?_cons_zero, List.getElem?_cons_succ, List.take_succ_cons, List.take_zero, zfe, List.drop_succ_cons, List.drop_zero, List.drop_nil, List.cons_append, List.nil_append, List.append_nil, List.set_cons_zero, List.set_cons_succ, List.head?_cons, Nat.reduceAdd, Nat.reduceEqDiff, Nat.reduceLeDiff, reduceCtorEq, decide_true, decide_false, zfc, zfa, and_self, ne_eq, zfb, zff, zfd, Nat.add_zero, Nat.le_refl, eq_self]
  · have ht' : ¬ (q.timer.length : Int) > 0 := by omega
    have hc := qj2 x h op.a 0 x.ev.lp 2 i op.b []
    have hp := qeo (x.create op.a ⟨0, [], x.ev.lp, 2, i, op.b⟩) h.procs i hl { q.inc with timer := x.kid }
    rw [if_neg ht]
    simp only [List.map_nil, Pr.inc, Ex.kid, w64] at hc hp ⊢
    rw [qaz, qs qdx qdn]
    simp only [qd4, h1, k1, k2, ht', hq, hc, hp, Pr.r, Int.natCast_nonneg, Int.toNat_natCast, List.getElem?_map, Option.map_some, qar, qat, qac, qbq, Nat.reduceLeDiff, qm, Ev.exec, qb, qe, qc, qaw, qag, Ev.evs, Ev.Opnd.ev, Ev.Env.get, Ev.Env.set, Ev.look, qn, qh, qab, qff, Ev.AV.cells, Ev.AV.uc, qv, Ev.AV.plain, qaj, qal, qav, ql, qx, qae, Ev.kill, qad, qd, qay, qbe, qbc, qw, qj, qk, qaf, qah, List.length_map, ↓qq, ↓reduceIte, List.length_cons, List.length_nil, List.getElem?_cons_zero, List.getElem?_cons_succ, List.take_succ_cons, List.take_zero, zfe, List.drop_succ_cons, List.drop_zero, List.drop_nil, List.cons_append, List.nil_append, List.append_nil, List.set_cons_zero, List.set_cons_succ, List.head?_cons, Nat.reduceAdd, Nat.reduceEqDiff, Nat.reduceLeDiff, reduceCtorEq, decide_true, decide_false, zfc, zfa, and_self, ne_eq, zfb, zff, zfd, Nat.add_zero, Nat.le_refl, eq_self]
theorem q88 (h : x.Small) (hg : x.gone.length < 1000) (hq : x.procs[i]? = some q) (h1 : op.code = 4) :
    qaz (evL T) qd3 [(.agg [(ii x.r0), (ii x.r1), (.fsl ((x.procs).map Pr.r) false), (ii x.sum), (ii x.ev.time), (.fsl ((x.ev.key).map qcm) false), (ii x.ev.lp), (ii x.ev.kind), (ii x.ev.proc), (ii x.ev.arg), (.fsl ((x.out).map Evt.r) false), (.fsl ((x.gone).map qfe) false), (ii x.n), (bb x.over)]), (ii i), (.agg [(ii op.code), (ii op.a), (ii op.b), (ii op.c)])] = some (.tup [(.agg [(ii ((if 0 < q.timer.length then ({ x with gone := x.gone ++ [q.timer] } : Ex).setP i { q.inc with timer := [] } else x.setP i q.inc).r0)), (ii ((if 0 < q.timer.length then ({ x with gone := x.gone ++ [q.timer] } : Ex).setP i { q.inc with timer := [] } else x.setP i q.inc).r1)), (.fsl (((if 0 < q.timer.length then ({ x with gone := x.gone ++ [q.timer] } : Ex).setP i { q.inc with timer := [] } else x.setP i q.inc).procs).map Pr.r) false), (ii ((if 0 < q.timer.length then ({ x with gone := x.gone ++ [q.timer] } : Ex).setP i { q.inc with timer := [] } else x.setP i q.inc).sum)), (ii ((if 0 < q.timer.length then ({ x with gone := x.gone ++ [q.timer] } : Ex).setP i { q.inc with timer := [] } else x.setP i q.inc).ev.time)), (.fsl (((if 0 < q.timer.length then ({ x with gone := x.gone ++ [q.timer] } : Ex).setP i { q.inc with timer := [] } else x.setP i q.inc).ev.key).map qcm) false), (ii ((if 0 < q.timer.length then ({ x with gone := x.gone ++ [q.timer] } : Ex).setP i { q.inc with timer := [] } else x.setP i q.inc).ev.lp)), (ii ((if 0 < q.timer.length then ({ x with gone := x.gone ++ [q.timer] } : Ex).setP i { q.inc with timer := [] } else x.setP i q.inc).ev.kind)), (ii ((if 0 < q.timer.length then ({ x with gone := x.gone ++ [q.timer] } : Ex).setP i { q.inc with timer := [] } else x.setP i q.inc).ev.proc)), (ii ((if 0 < q.timer.length then ({ x with gone := x.gone ++ [q.timer] } : Ex).setP i { q.inc with timer := [] } else x.setP i q.inc).ev.arg)), (.fsl (((if 0 < q.timer.length then ({ x with gone := x.gone ++ [q.timer] } : Ex).setP i { q.inc with timer := [] } else x.setP i q.inc).out).map Evt.r) false), (.fsl (((if 0 < q.timer.length then ({ x with gone := x.gone ++ [q.timer] } : Ex).setP i { q.inc with timer := [] } else x.setP i q.inc).gone).map qfe) false), (ii ((if 0 < q.timer.length then ({ x with gone := x.gone ++ [q.timer] } : Ex).setP i { q.inc with timer := [] } else x.setP i q.inc).n)), (bb ((if 0 < q.timer.length then ({ x with gone := x.gone ++ [q.timer] } : Ex).setP i { q.inc with timer := [] } else x.setP i q.inc).over))]), (bb false)]) := by
  have hl := (List.getElem?_eq_some_iff.1 hq).1
  have k1 : ¬ (4 : Int) = 1 := by decide
  have k2 : ¬ (4 : Int) = 2 := by decide
  have k3 : ¬ (4 : Int) = 3 := by decide
  have ha := qpr x.gone q.timer false h.gone
  by_cases ht : 0 < q.timer.length
  · have ht' : (q.timer.length : Int) > 0 := by omega
    have hp := qeo { x with gone := x.gone ++ [q.timer] } h.procs i hl { q.inc with timer := [] }
    rw [if_pos ht]
    simp only [List.map_nil, Pr.inc, w64] at hp ⊢
    rw [qaz, qs qdx qdn]
    simp only [qd4, h1, k1, k2, k3, ht', hq, hp, ha, Pr.r, Int.natCast_nonneg, Int.toNat_natCast, List.getElem?_map, Option.map_some, qar, qat, qac, qbq, Nat.reduceLeDiff, qm, Ev.exec, qb, qe, qc, qaw, qag, Ev.evs, Ev.Opnd.ev, Ev.Env.get, Ev.Env.set, Ev.look, qn, qh, qab, Ev.AV.cells, Ev.AV.uc, qv, Ev.AV.plain, qaj, qal, qav, ql, qx, qae, Ev.kill, qad, qd, qay, qbe, qbc, qw, qj, qk, qaf, qah, List.length_map, ↓qq, ↓reduceIte, List.length_cons, List.length_nil, List.getElem?_cons_zero, List.getElem?_cons_succ, List.take_succ_cons, List.take_zero, zfe, List.drop_succ_cons, List.drop_zero, List.drop_nil, List.cons_append, List.nil_append, List.append_nil, List.set_cons_zero, List.set_cons_succ, List.head?_cons, Nat.reduceAdd, Nat.reduceEqDiff, Nat.reduceLeDiff, reduceCtorEq, decide_true, decide_false, zfc, zfa, and_self, ne_eq, zfb, zff, zfd, Nat.add_zero, Nat.le_refl, eq_self]
  · have ht' : ¬ (q.timer.length : Int) > 0 := by omega
    have hp := qeo x h.procs i hl q.inc
    rw [if_neg ht]
    simp only [Pr.inc, w64] at hp ⊢
    rw [qaz, qs qdx qdn]
    simp only [qd4, h1, k1, k2, k3, ht', hq, hp, Pr.r, Int.natCast_nonneg, Int.toNat_natCast, List.getElem?_map, Option.map_some, qar, qat, qac, qbq, Nat.reduceLeDiff, qm, Ev.exec, qb, qe, qc, qaw, qag, Ev.evs, Ev.Opnd.ev, Ev.Env.get, Ev.Env.set, Ev.look, qn, qh, qab, Ev.AV.cells, Ev.AV.uc, qv, Ev.AV.plain, qaj, qal, qav, ql, qx, qae, Ev.kill, qad, qd, qay, qbe, qbc, qw, qj, qk, qah, List.length_map, ↓qq, ↓reduceIte, List.length_cons, List.length_nil, List.getElem?_cons_zero, List.getElem?_cons_succ, List.take_succ_cons, List.take_zero, zfe, List.drop_succ_cons, List.drop_zero, List.drop_nil, List.cons_append, List.nil_append, List.append_nil, List.set_cons_zero, List.set_cons_succ, List.head?_cons, Nat.reduceAdd, Nat.reduceEqDiff, Nat.reduceLeDiff, reduceCtorEq, decide_true, decide_false, zfc, zfa, and_self, ne_eq, zfb, zff, zfd, Nat.add_zero, Nat.le_refl, eq_self]
theorem q6y (h : x.Small) (hq : x.procs[i]? = some q) (h1 : op.code = 5) :
    qaz (evL T) qd3 [(.agg [(ii x.r0), (ii x.r1), (.fsl ((x.procs).map Pr.r) false), (ii x.sum), (ii x.ev.time), (.fsl ((x.ev.key).map qcm) false), (ii x.ev.lp), (ii x.ev.kind), (ii x.ev.proc), (ii x.ev.arg), (.fsl ((x.out).map Evt.r) false), (.fsl ((x.gone).map qfe) false), (ii x.n), (bb x.over)]), (ii i), (.agg [(ii op.code), (ii op.a), (ii op.b), (ii op.c)])] = some (.tup [(.agg [(ii (((x.setP i q.inc).spawnE op).r0)), (ii (((x.setP i q.inc).spawnE op).r1)), (.fsl ((((x.setP i q.inc).spawnE op).procs).map Pr.r) false), (ii (((x.setP i q.inc).spawnE op).sum)), (ii (((x.setP i q.inc).spawnE op).ev.time)), (.fsl ((((x.setP i q.inc).spawnE op).ev.key).map qcm) false), (ii (((x.setP i q.inc).spawnE op).ev.lp)), (ii (((x.setP i q.inc).spawnE op).ev.kind)), (ii (((x.setP i q.inc).spawnE op).ev.proc)), (ii (((x.setP i q.inc).spawnE op).ev.arg)), (.fsl ((((x.setP i q.inc).spawnE op).out).map Evt.r) false), (.fsl ((((x.setP i q.inc).spawnE op).gone).map qfe) false), (ii (((x.setP i q.inc).spawnE op).n)), (bb (((x.setP i q.inc).spawnE op).over))]), (bb false)]) := by
  have hl := (List.getElem?_eq_some_iff.1 hq).1
  have k1 : ¬ (5 : Int) = 1 := by decide
  have k2 : ¬ (5 : Int) = 2 := by decide
  have k3 : ¬ (5 : Int) = 3 := by decide
  have k4 : ¬ (5 : Int) = 4 := by decide
  have hp := qeo x h.procs i hl q.inc
  have hls : (x.procs.set i q.inc).length = x.procs.length := by simp
  unfold Ex.spawnE
  by_cases hs : x.procs.length < 8
  · have hs' : ¬ (x.procs.length : Int) ≥ 8 := by omega
    have h2 : x.procs.length * 48 ≤ 140737488355328 := by omega
    have h3 : (x.procs.length + 1) * 48 ≤ 140737488355328 := by omega
    rw [if_pos (by simp only [Ex.setP, hls]; exact hs)]
    have hc := qj2 { x with procs := x.procs.set i q.inc ++ [⟨op.a, 0, true, []⟩] } ⟨by simp; omega, h.out, h.gone, h.key⟩ op.b 0 x.ev.lp 1 x.procs.length 0 []
    have htk : ∀ e : List AV, List.take (x.procs.length + 1) ((x.procs.set i q.inc).map Pr.r ++ [e]) = (x.procs.set i q.inc).map Pr.r ++ [e] := fun e => List.take_of_length_le (by simp)
    have htl : List.take x.procs.length ((x.procs.set i q.inc).map Pr.r) = (x.procs.set i q.inc).map Pr.r := List.take_of_length_le (by simp)
    simp only [Ex.setP, Ex.ownE, hls] at hp ⊢
    generalize x.procs.set i q.inc = l at *
    simp only [List.map_nil, List.map_append, List.map_cons, Pr.inc, Pr.r, w64] at hc hp ⊢
    rw [qaz, qs qdx qdn]
    simp only [qd4, h1, k1, k2, k3, k4, h2, h3, hs', hls, hq, hc, hp, htl, htk, q3z, Pr.r, qly, Int.natCast_nonneg, Int.toNat_natCast, List.getElem?_map, Option.map_some, qar, qat, qac, qbq, Nat.reduceLT, Nat.reduceLeDiff, qm, Ev.exec, qb, qe, qc, qaw, qag, qsn, Ev.evs, Ev.Opnd.ev, Ev.Env.get, Ev.Env.set, Ev.look, qn, qh, qc0, qab, qff, qh9, Ev.AV.cells, Ev.AV.uc, qv, Ev.AV.plain, qaj, qal, qb5, ql, qx, qae, Ev.kill, qad, qd, qay, qbe, qbc, qw, qj, qk, qaf, qaq, qcb, qcc, qah, List.replicate_one, List.replicate_zero, List.length_map, ↓qq, ↓reduceIte, List.length_cons, List.length_nil, List.length_append, List.getElem?_cons_zero, List.getElem?_cons_succ, List.take_succ_cons, List.take_zero, zfe, List.drop_succ_cons, List.drop_zero, List.drop_nil, List.cons_append, List.nil_append, List.append_nil, List.set_cons_zero, List.set_cons_succ, List.head?_cons, Nat.reduceAdd, Nat.reduceEqDiff, Nat.reduceMul, Nat.reduceLT, Nat.reduceLeDiff, Nat.reducePow, reduceCtorEq, decide_true, decide_false, zfc, zfa, and_self, ne_eq, zfb, not_true_eq_false, zff, zfd, Nat.add_zero, Nat.lt_add_one, Nat.le_refl, eq_self, and_false]
  · have hs' : (x.procs.length : Int) ≥ 8 := by omega
    rw [if_neg (by simp only [Ex.setP, hls]; exact hs)]
    simp only [Ex.setP] at hp ⊢
    generalize x.procs.set i q.inc = l at *
    simp only [Pr.inc, w64] at hp ⊢
    rw [qaz, qs qdx qdn]
    simp only [qd4, h1, k1, k2, k3, k4, hs', hls, hq, hp, Pr.r, Int.natCast_nonneg, Int.toNat_natCast, List.getElem?_map, Option.map_some, qar, qat, qac, qbq, Nat.reduceLeDiff, qm, Ev.exec, qb, qe, qc, qaw, qag, Ev.evs, Ev.Opnd.ev, Ev.Env.get, Ev.Env.set, Ev.look, qn, qh, qab, Ev.AV.cells, Ev.AV.uc, qv, Ev.AV.plain, qaj, qal, qb5, ql, qx, qae, Ev.kill, qad, qd, qay, qbe, qbc, qw, qj, qk, qah, List.length_map, ↓qq, ↓reduceIte, List.length_cons, List.length_nil, List.getElem?_cons_zero, List.getElem?_cons_succ, List.take_succ_cons, List.take_zero, zfe, List.drop_succ_cons, List.drop_zero, List.drop_nil, List.cons_append, List.nil_append, List.append_nil, List.set_cons_zero, List.set_cons_succ, List.head?_cons, Nat.reduceAdd, Nat.reduceEqDiff, Nat.reduceLeDiff, reduceCtorEq, decide_true, decide_false, zfc, zfa, and_self, ne_eq, zfb, zff, zfd, Nat.add_zero, Nat.le_refl, eq_self]
theorem qaak (h : x.Small) (hq : x.procs[i]? = some q) (h1 : op.code = 6) (h0 : op.a = 0 ∨ op.a = 1) :
    qaz (evL T) qd3 [(.agg [(ii x.r0), (ii x.r1), (.fsl ((x.procs).map Pr.r) false), (ii x.sum), (ii x.ev.time), (.fsl ((x.ev.key).map qcm) false), (ii x.ev.lp), (ii x.ev.kind), (ii x.ev.proc), (ii x.ev.arg), (.fsl ((x.out).map Evt.r) false), (.fsl ((x.gone).map qfe) false), (ii x.n), (bb x.over)]), (ii i), (.agg [(ii op.code), (ii op.a), (ii op.b), (ii op.c)])] = some (.tup [(.agg [(ii (((x.setReg op.a (w64 (x.reg op.a + op.b))).setP i q.inc).r0)), (ii (((x.setReg op.a (w64 (x.reg op.a + op.b))).setP i q.inc).r1)), (.fsl ((((x.setReg op.a (w64 (x.reg op.a + op.b))).setP i q.inc).procs).map Pr.r) false), (ii (((x.setReg op.a (w64 (x.reg op.a + op.b))).setP i q.inc).sum)), (ii (((x.setReg op.a (w64 (x.reg op.a + op.b))).setP i q.inc).ev.time)), (.fsl ((((x.setReg op.a (w64 (x.reg op.a + op.b))).setP i q.inc).ev.key).map qcm) false), (ii (((x.setReg op.a (w64 (x.reg op.a + op.b))).setP i q.inc).ev.lp)), (ii (((x.setReg op.a (w64 (x.reg op.a + op.b))).setP i q.inc).ev.kind)), (ii (((x.setReg op.a (w64 (x.reg op.a + op.b))).setP i q.inc).ev.proc)), (ii (((x.setReg op.a (w64 (x.reg op.a + op.b))).setP i q.inc).ev.arg)), (.fsl ((((x.setReg op.a (w64 (x.reg op.a + op.b))).setP i q.inc).out).map Evt.r) false), (.fsl ((((x.setReg op.a (w64 (x.reg op.a + op.b))).setP i q.inc).gone).map qfe) false), (ii (((x.setReg op.a (w64 (x.reg op.a + op.b))).setP i q.inc).n)), (bb (((x.setReg op.a (w64 (x.reg op.a + op.b))).setP i q.inc).over))]), (bb false)]) := by
  have hl := (List.getElem?_eq_some_iff.1 hq).1
  have k1 : ¬ (6 : Int) = 1 := by decide
  have k2 : ¬ (6 : Int) = 2 := by decide
  have k3 : ¬ (6 : Int) = 3 := by decide
  have k4 : ¬ (6 : Int) = 4 := by decide
  have k5 : ¬ (6 : Int) = 5 := by decide
  have k6 : ¬ (1 : Int) = 0 := by decide
  rcases h0 with h0 | h0
  · have hp := qeo { x with r0 := w64 (x.r0 + op.b) } h.procs i hl q.inc
    simp only [Ex.setReg, Ex.reg, h0, if_true]
    simp only [Pr.inc, w64] at hp ⊢
    rw [qaz, qs qdx qdn]
    simp only [qd4, h1, k1, k2, k3, k4, k5, hq, hp, Pr.r, Int.natCast_nonneg, Int.toNat_natCast, List.getElem?_map, Option.map_some, qar, qat, qac, qbq, Nat.reduceLT, Nat.reduceLeDiff, qm, Ev.exec, qb, qe, qc, qaw, qag, Ev.evs, Ev.Opnd.ev, Ev.Env.get, Ev.Env.set, Ev.look, qn, qh, qab, Ev.AV.cells, Ev.AV.uc, qv, Ev.AV.plain, qaj, qal, ql, qx, qae, Ev.kill, qad, qd, qay, qbe, qbc, qw, qj, qk, qah, ↓qq, ↓reduceIte, List.length_cons, List.length_nil, List.getElem?_cons_zero, List.getElem?_cons_succ, List.take_succ_cons, List.take_zero, zfe, List.drop_succ_cons, List.drop_zero, List.drop_nil, List.cons_append, List.nil_append, List.append_nil, List.set_cons_zero, List.set_cons_succ, List.head?_cons, Nat.reduceAdd, Nat.reduceEqDiff, Nat.reduceMul, Nat.reduceLT, Nat.reduceLeDiff, Int.reduceLE, Int.reduceToNat, reduceCtorEq, decide_true, decide_false, zfc, zfa, and_self, ne_eq, zfb, zff, zfd, Nat.add_zero, Nat.le_refl, eq_self]
  · have hp := qeo { x with r1 := w64 (x.r1 + op.b) } h.procs i hl q.inc
    simp only [Ex.setReg, Ex.reg, h0, k6, if_false]
    simp only [Pr.inc, w64] at hp ⊢
    rw [qaz, qs qdx qdn]
    simp only [qd4, h1, k1, k2, k3, k4, k5, hq, hp, Pr.r, Int.natCast_nonneg, Int.toNat_natCast, List.getElem?_map, Option.map_some, qar, qat, qac, qbq, Nat.reduceLeDiff, qm, Ev.exec, qb, qe, qc, qaw, qag, Ev.evs, Ev.Opnd.ev, Ev.Env.get, Ev.Env.set, Ev.look, qn, qh, qab, Ev.AV.cells, Ev.AV.uc, qv, Ev.AV.plain, qaj, qal, ql, qx, qae, Ev.kill, qad, qd, qay, qbe, qbc, qw, qj, qk, qah, ↓qq, ↓reduceIte, List.length_cons, List.length_nil, List.getElem?_cons_zero, List.getElem?_cons_succ, List.take_succ_cons, List.take_zero, zfe, List.drop_succ_cons, List.drop_zero, List.drop_nil, List.cons_append, List.nil_append, List.append_nil, List.set_cons_zero, List.set_cons_succ, List.head?_cons, Nat.reduceAdd, Nat.reduceEqDiff, Nat.reduceMul, Nat.reduceLeDiff, Int.reduceLE, Int.reduceToNat, reduceCtorEq, decide_true, decide_false, zfc, zfa, and_self, ne_eq, zfb, zff, zfd, Nat.add_zero, Nat.lt_add_one, Nat.le_refl, eq_self]
theorem q9f (h : x.Small) (hq : x.procs[i]? = some q) (h1 : op.code = 7) (h0 : op.a = 0 ∨ op.a = 1) :
    qaz (evL T) qd3 [(.agg [(ii x.r0), (ii x.r1), (.fsl ((x.procs).map Pr.r) false), (ii x.sum), (ii x.ev.time), (.fsl ((x.ev.key).map qcm) false), (ii x.ev.lp), (ii x.ev.kind), (ii x.ev.proc), (ii x.ev.arg), (.fsl ((x.out).map Evt.r) false), (.fsl ((x.gone).map qfe) false), (ii x.n), (bb x.over)]), (ii i), (.agg [(ii op.code), (ii op.a), (ii op.b), (ii op.c)])] = some (.tup [(.agg [(ii ((x.setP i (if x.reg op.a < op.b then { q.inc with pc := op.c } else q.inc)).r0)), (ii ((x.setP i (if x.reg op.a < op.b then { q.inc with pc := op.c } else q.inc)).r1)), (.fsl (((x.setP i (if x.reg op.a < op.b then { q.inc with pc := op.c } else q.inc)).procs).map Pr.r) false), (ii ((x.setP i (if x.reg op.a < op.b then { q.inc with pc := op.c } else q.inc)).sum)), (ii ((x.setP i (if x.reg op.a < op.b then { q.inc with pc := op.c } else q.inc)).ev.time)), (.fsl (((x.setP i (if x.reg op.a < op.b then { q.inc with pc := op.c } else q.inc)).ev.key).map qcm) false), (ii ((x.setP i (if x.reg op.a < op.b then { q.inc with pc := op.c } else q.inc)).ev.lp)), (ii ((x.setP i (if x.reg op.a < op.b then { q.inc with pc := op.c } else q.inc)).ev.kind)), (ii ((x.setP i (if x.reg op.a < op.b then { q.inc with pc := op.c } else q.inc)).ev.proc)), (ii ((x.setP i (if x.reg op.a < op.b then { q.inc with pc := op.c } else q.inc)).ev.arg)), (.fsl (((x.setP i (if x.reg op.a < op.b then { q.inc with pc := op.c } else q.inc)).out).map Evt.r) false), (.fsl (((x.setP i (if x.reg op.a < op.b then { q.inc with pc := op.c } else q.inc)).gone).map qfe) false), (ii ((x.setP i (if x.reg op.a < op.b then { q.inc with pc := op.c } else q.inc)).n)), (bb ((x.setP i (if x.reg op.a < op.b then { q.inc with pc := op.c } else q.inc)).over))]), (bb false)]) := by
  have hl := (List.getElem?_eq_some_iff.1 hq).1
  have k1 : ¬ (7 : Int) = 1 := by decide
  have k2 : ¬ (7 : Int) = 2 := by decide
  have k3 : ¬ (7 : Int) = 3 := by decide
  have k4 : ¬ (7 : Int) = 4 := by decide
  have k5 : ¬ (7 : Int) = 5 := by decide
  have k5' : ¬ (7 : Int) = 6 := by decide
  have k6 : ¬ (1 : Int) = 0 := by decide
  by_cases hr : x.reg op.a < op.b
  · have hp := qeo x h.procs i hl { q.inc with pc := op.c }
    simp only [Pr.inc, w64] at hp
    rw [if_pos hr]
    rw [qaz, qs qdx qdn]
    rcases h0 with h0 | h0 <;> simp only [Ex.reg, h0, k6, if_true, if_false] at hr <;>
    simp only [qd4, h0, h1, k1, k2, k3, k4, k5, k5', hr, hq, hp, Pr.inc, w64, Pr.r, Int.natCast_nonneg, Int.toNat_natCast, List.getElem?_map, Option.map_some, qar, qat, qac, qbq, Nat.reduceLT, Nat.reduceLeDiff, qm, Ev.exec, qb, qe, qc, qaw, qag, Ev.evs, Ev.Opnd.ev, Ev.Env.get, Ev.Env.set, Ev.look, qn, qh, qab, Ev.AV.cells, Ev.AV.uc, qv, Ev.AV.plain, qaj, qal, qo, ql, qx, qae, Ev.kill, qad, qd, qay, qbe, qbc, qw, qj, qk, qah, ↓qq, ↓reduceIte, List.length_cons, List.length_nil, List.getElem?_cons_zero, List.getElem?_cons_succ, List.take_succ_cons, List.take_zero, zfe, List.drop_succ_cons, List.drop_zero, List.drop_nil, List.cons_append, List.nil_append, List.append_nil, List.set_cons_zero, List.set_cons_succ, List.head?_cons, Nat.reduceAdd, Nat.reduceEqDiff, Nat.reduceMul, Nat.reduceLT, Nat.reduceLeDiff, Int.reduceLE, Int.reduceToNat, reduceCtorEq, decide_true, decide_false, zfc, zfa, and_self, ne_eq, zfb, zff, zfd, Nat.add_zero, Nat.lt_add_one, Nat.le_refl, eq_self]
  · have hp := qeo x h.procs i hl q.inc
    simp only [Pr.inc, w64] at hp
    rw [if_neg hr]
    rw [qaz, qs qdx qdn]
    rcases h0 with h0 | h0 <;> simp only [Ex.reg, h0, k6, if_true, if_false] at hr <;>
    simp only [qd4, h0, h1, k1, k2, k3, k4, k5, k5', hr, hq, hp, Pr.inc, w64, Pr.r, Int.natCast_nonneg, Int.toNat_natCast, List.getElem?_map, Option.map_some, qar, qat, qac, qbq, Nat.reduceLT, Nat.reduceLeDiff, qm, Ev.exec, qb, qe, qc, qaw, qag, Ev.evs, Ev.Opnd.ev, Ev.Env.get, Ev.Env.set, Ev.look, qn, qh, qab, Ev.AV.cells, Ev.AV.uc, qv, Ev.AV.plain, qaj, qal, qo, ql, qx, qae, Ev.kill, qad, qd, qay, qbe, qbc, qw, qj, qk, qah, ↓qq, ↓reduceIte, List.length_cons, List.length_nil, List.getElem?_cons_zero, List.getElem?_cons_succ, List.take_succ_cons, List.take_zero, zfe, List.drop_succ_cons, List.drop_zero, List.drop_nil, List.cons_append, List.nil_append, List.append_nil, List.set_cons_zero, List.set_cons_succ, List.head?_cons, Nat.reduceAdd, Nat.reduceEqDiff, Nat.reduceMul, Nat.reduceLT, Nat.reduceLeDiff, Int.reduceLE, Int.reduceToNat, reduceCtorEq, decide_true, decide_false, zfc, zfa, and_self, ne_eq, zfb, zff, zfd, Nat.add_zero, Nat.lt_add_one, Nat.le_refl, eq_self]
theorem q98 (h : x.Small) (hq : x.procs[i]? = some q) (h1 : op.code = 8) :
    qaz (evL T) qd3 [(.agg [(ii x.r0), (ii x.r1), (.fsl ((x.procs).map Pr.r) false), (ii x.sum), (ii x.ev.time), (.fsl ((x.ev.key).map qcm) false), (ii x.ev.lp), (ii x.ev.kind), (ii x.ev.proc), (ii x.ev.arg), (.fsl ((x.out).map Evt.r) false), (.fsl ((x.gone).map qfe) false), (ii x.n), (bb x.over)]), (ii i), (.agg [(ii op.code), (ii op.a), (ii op.b), (ii op.c)])] = some (.tup [(.agg [(ii ((x.setP i { q.inc with alive := false }).r0)), (ii ((x.setP i { q.inc with alive := false }).r1)), (.fsl (((x.setP i { q.inc with alive := false }).procs).map Pr.r) false), (ii ((x.setP i { q.inc with alive := false }).sum)), (ii ((x.setP i { q.inc with alive := false }).ev.time)), (.fsl (((x.setP i { q.inc with alive := false }).ev.key).map qcm) false), (ii ((x.setP i { q.inc with alive := false }).ev.lp)), (ii ((x.setP i { q.inc with alive := false }).ev.kind)), (ii ((x.setP i { q.inc with alive := false }).ev.proc)), (ii ((x.setP i { q.inc with alive := false }).ev.arg)), (.fsl (((x.setP i { q.inc with alive := false }).out).map Evt.r) false), (.fsl (((x.setP i { q.inc with alive := false }).gone).map qfe) false), (ii ((x.setP i { q.inc with alive := false }).n)), (bb ((x.setP i { q.inc with alive := false }).over))]), (bb true)]) := by
  have hl := (List.getElem?_eq_some_iff.1 hq).1
  have k1 : ¬ (8 : Int) = 1 := by decide
  have k2 : ¬ (8 : Int) = 2 := by decide
  have k3 : ¬ (8 : Int) = 3 := by decide
  have k4 : ¬ (8 : Int) = 4 := by decide
  have k5 : ¬ (8 : Int) = 5 := by decide
  have k6 : ¬ (8 : Int) = 6 := by decide
  have k7 : ¬ (8 : Int) = 7 := by decide
  have hp := qeo x h.procs i hl { q.inc with alive := false }
  simp only [Pr.inc, w64] at hp ⊢
  rw [qaz, qs qdx qdn]
  simp only [qd4, h1, k1, k2, k3, k4, k5, k6, k7, hq, hp, Pr.r, Int.natCast_nonneg, Int.toNat_natCast, List.getElem?_map, Option.map_some, qar, qat, qac, qbq, Nat.reduceLeDiff, qm, Ev.exec, qb, qe, qc, qaw, qag, Ev.evs, Ev.Opnd.ev, Ev.Env.get, Ev.Env.set, Ev.look, qn, qh, qab, Ev.AV.cells, Ev.AV.uc, qv, Ev.AV.plain, qaj, qal, ql, qx, qae, Ev.kill, qad, qd, qay, qbe, qbc, qw, qj, qk, qah, ↓qq, ↓reduceIte, List.length_cons, List.length_nil, List.getElem?_cons_zero, List.getElem?_cons_succ, List.take_succ_cons, List.take_zero, zfe, List.drop_succ_cons, List.drop_zero, List.drop_nil, List.cons_append, List.nil_append, List.append_nil, List.set_cons_zero, List.set_cons_succ, List.head?_cons, Nat.reduceAdd, Nat.reduceEqDiff, Nat.reduceLeDiff, reduceCtorEq, decide_false, zfc, zfa, and_self, ne_eq, zfb, zff, zfd, Nat.add_zero, Nat.le_refl, eq_self]
end
set_option maxRecDepth 10000
def stepR (x : Ex) (i : Nat) (q : Pr) (op : OpI) : Ex × Bool :=
  if (qdw (x.setP i q.inc) i q.inc op).2 = 1 then ((qdw (x.setP i q.inc) i q.inc op).1, true)
  else if (qdw (x.setP i q.inc) i q.inc op).2 = 2 then (qms (qdw (x.setP i q.inc) i q.inc op).1 i, true)
  else ((qdw (x.setP i q.inc) i q.inc op).1, false)
theorem rstep_ev (x : Ex) (i : Nat) (op : OpI) (q : Pr) (h : x.Small) (hg : x.gone.length < 1000) (hi : x.ev.proc = i) (hq : x.procs[i]? = some q) (ho : OpOk' op) :
    qaz (evL T) qd3 [(.agg [(ii x.r0), (ii x.r1), (.fsl ((x.procs).map Pr.r) false), (ii x.sum), (ii x.ev.time), (.fsl ((x.ev.key).map qcm) false), (ii x.ev.lp), (ii x.ev.kind), (ii x.ev.proc), (ii x.ev.arg), (.fsl ((x.out).map Evt.r) false), (.fsl ((x.gone).map qfe) false), (ii x.n), (bb x.over)]), (ii i), (.agg [(ii op.code), (ii op.a), (ii op.b), (ii op.c)])] = some (.tup [(.agg [(ii ((stepR x i q op).1.r0)), (ii ((stepR x i q op).1.r1)), (.fsl (((stepR x i q op).1.procs).map Pr.r) false), (ii ((stepR x i q op).1.sum)), (ii ((stepR x i q op).1.ev.time)), (.fsl (((stepR x i q op).1.ev.key).map qcm) false), (ii ((stepR x i q op).1.ev.lp)), (ii ((stepR x i q op).1.ev.kind)), (ii ((stepR x i q op).1.ev.proc)), (ii ((stepR x i q op).1.ev.arg)), (.fsl (((stepR x i q op).1.out).map Evt.r) false), (.fsl (((stepR x i q op).1.gone).map qfe) false), (ii ((stepR x i q op).1.n)), (bb ((stepR x i q op).1.over))]), (bb ((stepR x i q op).2))]) := by
  have hl := (List.getElem?_eq_some_iff.1 hq).1
  have hc : op.code = 1 ∨ op.code = 2 ∨ op.code = 3 ∨ op.code = 4 ∨ op.code = 5 ∨ op.code = 6 ∨ op.code = 7 ∨ op.code = 8 := by have := ho.code; omega
  have fin : ∀ (y : Ex) (b : Bool), stepR x i q op = (y, b) → qaz (evL T) qd3 [(.agg [(ii x.r0), (ii x.r1), (.fsl ((x.procs).map Pr.r) false), (ii x.sum), (ii x.ev.time), (.fsl ((x.ev.key).map qcm) false), (ii x.ev.lp), (ii x.ev.kind), (ii x.ev.proc), (ii x.ev.arg), (.fsl ((x.out).map Evt.r) false), (.fsl ((x.gone).map qfe) false), (ii x.n), (bb x.over)]), (ii i), (.agg [(ii op.code), (ii op.a), (ii op.b), (ii op.c)])] = some (.tup [(.agg [(ii y.r0), (ii y.r1), (.fsl ((y.procs).map Pr.r) false), (ii y.sum), (ii y.ev.time), (.fsl ((y.ev.key).map qcm) false), (ii y.ev.lp), (ii y.ev.kind), (ii y.ev.proc), (ii y.ev.arg), (.fsl ((y.out).map Evt.r) false), (.fsl ((y.gone).map qfe) false), (ii y.n), (bb y.over)]), (bb b)]) → qaz (evL T) qd3 [(.agg [(ii x.r0), (ii x.r1), (.fsl ((x.procs).map Pr.r) false), (ii x.sum), (ii x.ev.time), (.fsl ((x.ev.key).map qcm) false), (ii x.ev.lp), (ii x.ev.kind), (ii x.ev.proc), (ii x.ev.arg), (.fsl ((x.out).map Evt.r) false), (.fsl ((x.gone).map qfe) false), (ii x.n), (bb x.over)]), (ii i), (.agg [(ii op.code), (ii op.a), (ii op.b), (ii op.c)])] = some (.tup [(.agg [(ii ((stepR x i q op).1.r0)), (ii ((stepR x i q op).1.r1)), (.fsl (((stepR x i q op).1.procs).map Pr.r) false), (ii ((stepR x i q op).1.sum)), (ii ((stepR x i q op).1.ev.time)), (.fsl (((stepR x i q op).1.ev.key).map qcm) false), (ii ((stepR x i q op).1.ev.lp)), (ii ((stepR x i q op).1.ev.kind)), (ii ((stepR x i q op).1.ev.proc)), (ii ((stepR x i q op).1.ev.arg)), (.fsl (((stepR x i q op).1.out).map Evt.r) false), (.fsl (((stepR x i q op).1.gone).map qfe) false), (ii ((stepR x i q op).1.n)), (bb ((stepR x i q op).1.over))]), (bb ((stepR x i q op).2))]) := by
    intro y b e k; rw [e]; exact k
  rcases hc with hc | hc | hc | hc | hc | hc | hc | hc
  · refine fin _ _ ?_ (q93 x i op q h hq hc)
    simp [stepR, qdw, hc, Ex.setP, Ex.create, Ex.ownE, Ex.kid, hi]
  · refine fin _ _ ?_ (q8z x i op q h hq hc)
    simp [stepR, qdw, hc, Ex.setP, Ex.create, Ex.kid]
  · refine fin _ _ ?_ (q6v x i op q h hg hq hc)
    by_cases ht : 0 < q.timer.length
    · simp [stepR, qdw, hc, Ex.timerE, Ex.stopE, Ex.setP, Ex.create, Ex.ownE, Ex.kid, hi, ht, Pr.inc, List.set_set]
    · simp [stepR, qdw, hc, Ex.timerE, Ex.stopE, Ex.setP, Ex.create, Ex.ownE, Ex.kid, hi, ht, Pr.inc, List.set_set]
  · refine fin _ _ ?_ (q88 x i op q h hg hq hc)
    by_cases ht : 0 < q.timer.length
    · simp [stepR, qdw, hc, Ex.stopE, Ex.setP, ht, Pr.inc, List.set_set]
    · simp [stepR, qdw, hc, Ex.stopE, Ex.setP, ht, Pr.inc]
  · refine fin _ _ ?_ (q6y x i op q h hq hc)
    simp [stepR, qdw, hc]
  · refine fin _ _ ?_ (qaak x i op q h hq hc (ho.reg (.inl hc)))
    rcases ho.reg (.inl hc) with h0 | h0 <;> simp [stepR, qdw, hc, Ex.setP, Ex.setReg, Ex.reg, h0]
  · refine fin _ _ ?_ (q9f x i op q h hq hc (ho.reg (.inr hc)))
    have hr : (x.setP i q.inc).reg op.a = x.reg op.a := rfl
    by_cases ht : x.reg op.a < op.b
    · have hr2 : (x.setP i q.inc).reg op.a < op.b := ht
      have : (qdw (x.setP i q.inc) i q.inc op) = ((x.setP i q.inc).setP i { q.inc with pc := op.c }, 0) := by simp only [qdw, hc]; rw [if_pos hr2]; rfl
      simp only [stepR, this, ht, if_true]
      simp [Ex.setP, List.set_set]
    · have hr2 : ¬ (x.setP i q.inc).reg op.a < op.b := ht
      have : (qdw (x.setP i q.inc) i q.inc op) = (x.setP i q.inc, 0) := by simp only [qdw, hc]; rw [if_neg hr2]; rfl
      simp only [stepR, this, ht, if_false]
      simp
  · refine fin _ _ ?_ (q98 x i op q h hq hc)
    have : (x.setP i q.inc).procs[i]? = some q.inc := by simp only [Ex.setP]; rw [List.getElem?_set_self hl]
    have hst : (qdw (x.setP i q.inc) i q.inc op) = (x.setP i q.inc, 2) := by simp [qdw, hc]
    simp only [stepR, hst, qms, this]
    simp [Ex.setP, List.set_set]
theorem qzt (p : List OpI) (i n : Nat) (x : Ex) (q : Pr) (hq : x.procs[i]? = some q) : qlo p i (n + 1) x = match p[q.pc.toNat]? with
    | none => qms x i
    | some op => if (stepR x i q op).2 = true then (stepR x i q op).1 else qlo p i n (stepR x i q op).1 := by
  simp only [qlo, hq]
  cases hp : p[q.pc.toNat]? with
  | none => rfl
  | some op =>
    show (if (qdw (x.setP i q.inc) i q.inc op).2 = 1 then (qdw (x.setP i q.inc) i q.inc op).1 else if (qdw (x.setP i q.inc) i q.inc op).2 = 2 then qms (qdw (x.setP i q.inc) i q.inc op).1 i else qlo p i n (qdw (x.setP i q.inc) i q.inc op).1) = (if (stepR x i q op).2 = true then (stepR x i q op).1 else qlo p i n (stepR x i q op).1)
    unfold stepR
    by_cases h1 : (qdw (x.setP i q.inc) i q.inc op).2 = 1
    · simp only [h1, if_true]
    by_cases h2 : (qdw (x.setP i q.inc) i q.inc op).2 = 2
    · rw [if_neg h1, if_pos h2, if_neg h1, if_pos h2]; rfl
    · simp only [h1, h2, if_false, zfa]
set_option maxRecDepth 10000
theorem q9m (x : Ex) (i : Nat) {q : Pr} (hq : x.procs[i]? = some q) : ∃ q', (qms x i).procs[i]? = some q' ∧ q'.prog = q.prog := by
  have hl := (List.getElem?_eq_some_iff.1 hq).1
  refine ⟨{ q with alive := false }, ?_, rfl⟩
  unfold qms; rw [hq]; simp only [Ex.setP]; rw [List.getElem?_set_self hl]
theorem q8r (x : Ex) (i : Nat) (q : Pr) (op : OpI) (hq : x.procs[i]? = some q) : ∃ q', (qdw x i q op).1.procs[i]? = some q' ∧ q'.prog = q.prog := by
  have hl := (List.getElem?_eq_some_iff.1 hq).1
  have hst : ∃ q', (x.stopE i q).procs[i]? = some q' ∧ q'.prog = q.prog := by
    unfold Ex.stopE; split
    · exact ⟨{ q with timer := [] }, by simp only; rw [List.getElem?_set_self hl], rfl⟩
    · exact ⟨q, hq, rfl⟩
  unfold qdw
  split
  · exact ⟨q, hq, rfl⟩
  split
  · exact ⟨q, hq, rfl⟩
  split
  · obtain ⟨q', h1, _⟩ := hst
    have hl2 := (List.getElem?_eq_some_iff.1 h1).1
    exact ⟨{ q with timer := (x.stopE i q).kid }, by show ((x.stopE i q).procs.set i _)[i]? = _; rw [List.getElem?_set_self hl2], rfl⟩
  split
  · exact hst
  split
  · refine ⟨q, ?_, rfl⟩
    unfold Ex.spawnE; split
    · show (x.procs ++ [_])[i]? = _
      rw [List.getElem?_append_left hl]; exact hq
    · exact hq
  split
  · refine ⟨q, ?_, rfl⟩
    unfold Ex.setReg; split <;> exact hq
  split
  · split
    · exact ⟨{ q with pc := op.c }, by simp only [Ex.setP]; rw [List.getElem?_set_self hl], rfl⟩
    · exact ⟨q, hq, rfl⟩
  · exact ⟨q, hq, rfl⟩
theorem q9e (x : Ex) (i : Nat) (q : Pr) (op : OpI) (hq : x.procs[i]? = some q) : ∃ q', (stepR x i q op).1.procs[i]? = some q' ∧ q'.prog = q.prog := by
  have hl := (List.getElem?_eq_some_iff.1 hq).1
  have h0 : (x.setP i q.inc).procs[i]? = some q.inc := by simp only [Ex.setP]; rw [List.getElem?_set_self hl]
  obtain ⟨q', h1, h2⟩ := q8r (x.setP i q.inc) i q.inc op h0
  unfold stepR
  split
  · exact ⟨q', h1, h2⟩
  split
  · obtain ⟨q2, h3, h4⟩ := q9m _ i h1
    exact ⟨q2, h3, h4.trans h2⟩
  · exact ⟨q', h1, h2⟩
theorem ActInv.stepR {e : Evt} {i n : Nat} {x : Ex} (h : ActInv e i n x) {q : Pr} (hq : x.procs[i]? = some q) (hpc : 0 ≤ q.pc ∧ q.pc + 1 ≤ 1000000) {op : OpI} (ho : OpOk' op) : ActInv e i (n + 1) (stepR x i q op).1 := by
  have hlt := (List.getElem?_eq_some_iff.1 hq).1
  have hwq : w64 (q.pc + 1) = q.pc + 1 := qao (by omega) (by omega)
  have hz : ActInv e i n (x.setP i q.inc) := by
    have := h.pc hq (pc := q.pc + 1) ⟨by omega, by omega⟩ q.alive
    unfold Pr.inc; rw [hwq]; exact this
  have hzq : (x.setP i q.inc).procs[i]? = some q.inc := by simp only [Ex.setP]; rw [List.getElem?_set_self hlt]
  have hn := hz.step hzq (show 0 ≤ q.inc.pc ∧ q.inc.pc ≤ 1000000 by unfold Pr.inc; simp only [hwq]; omega) ho
  unfold K.stepR
  split
  · exact hn
  split
  · obtain ⟨q', h1, h2⟩ := hn.has
    have := hn.pc h1 h2 false
    unfold qms; rw [h1]; exact this
  · exact hn
section
variable (c : Cfg) (e0 : Evt) (i : Nat) (p : List OpI) (pr : Int)
def RefEnd (e0 : Evt) (i : Nat) (F : Ex) (y : CExit × Env × qaa) : Prop :=
  y.2.1.marks = [] ∧ ((y.1 = .ret ∧ Ev.look y.2.1.vars 6 = some (.ptr 1 0 0 0) ∧ ∃ q : Pr, y.2.2 = [.row 14 [[(ii F.r0), (ii F.r1), (.fsl ((F.procs).map Pr.r) false), (ii F.sum), (ii F.ev.time), (.fsl ((F.ev.key).map qcm) false), (ii F.ev.lp), (ii F.ev.kind), (ii F.ev.proc), (ii F.ev.arg), (.fsl ((F.out).map Evt.r) false), (.fsl ((F.gone).map qfe) false), (ii F.n), (bb F.over)]] 0, .row 14 [[(ii F.r0), (ii F.r1), (.fsl ((F.procs).map Pr.r) false), (ii F.sum), (ii F.ev.time), (.fsl ((F.ev.key).map qcm) false), (ii F.ev.lp), (ii F.ev.kind), (ii F.ev.proc), (ii F.ev.arg), (.fsl ((F.out).map Evt.r) false), (.fsl ((F.gone).map qfe) false), (ii F.n), (bb F.over)]] 0, .row 4 [q.r] 0, .row 14 [[(ii F.r0), (ii F.r1), (.fsl ((F.procs).map Pr.r) false), (ii F.sum), (ii F.ev.time), (.fsl ((F.ev.key).map qcm) false), (ii F.ev.lp), (ii F.ev.kind), (ii F.ev.proc), (ii F.ev.arg), (.fsl ((F.out).map Evt.r) false), (.fsl ((F.gone).map qfe) false), (ii F.n), (bb F.over)]] 0]) ∨
    (y.1 = .exit 0 ∧ ∃ z : Ex, ActInv e0 i 16 z ∧ qms z i = F ∧ Ev.look y.2.1.vars 4 = some (.ptr 0 0 0 0) ∧ Ev.look y.2.1.vars 6 = some (.ptr 1 0 0 0) ∧ Ev.look y.2.1.vars 2 = some (ii i) ∧
      (y.2.2 = [.row 14 [[(ii z.r0), (ii z.r1), (.fsl ((z.procs).map Pr.r) false), (ii z.sum), (ii z.ev.time), (.fsl ((z.ev.key).map qcm) false), (ii z.ev.lp), (ii z.ev.kind), (ii z.ev.proc), (ii z.ev.arg), (.fsl ((z.out).map Evt.r) false), (.fsl ((z.gone).map qfe) false), (ii z.n), (bb z.over)]] 0, .row 14 [[(ii 0), (ii 0), .fsl [] false, (ii 0), (ii 0), .fsl [] false, (ii 0), (ii 0), (ii 0), (ii 0), .fsl [] false, .fsl [] false, (ii 0), (bb false)]] 0] ∨ ∃ q : Pr, y.2.2 = [.row 14 [[(ii z.r0), (ii z.r1), (.fsl ((z.procs).map Pr.r) false), (ii z.sum), (ii z.ev.time), (.fsl ((z.ev.key).map qcm) false), (ii z.ev.lp), (ii z.ev.kind), (ii z.ev.proc), (ii z.ev.arg), (.fsl ((z.out).map Evt.r) false), (.fsl ((z.gone).map qfe) false), (ii z.n), (bb z.over)]] 0, .row 14 [[(ii 0), (ii 0), .fsl [] false, (ii 0), (ii 0), .fsl [] false, (ii 0), (ii 0), (ii 0), (ii 0), .fsl [] false, .fsl [] false, (ii 0), (bb false)]] 0, .row 4 [q.r] 0])))
theorem qacg (hk : e0.key.length ≤ 1000) (hpr : e0.proc = i) (hpl : p.length ≤ 1000) (hok : ∀ op ∈ p, OpOk' op) (h0 : 0 ≤ pr) (hp : c.progs[pr.toNat]? = some p) (x : Ex) (hx : ActInv e0 i 0 x) (hxp : ∃ q, x.procs[i]? = some q ∧ q.prog = pr) :
    ∃ y, itB (exec (evL T) itL none qe4) (qr [2, 3, 4, 6, 7] true 2) ⟨[(2, (ii i)), (3, (.fptr [(.fsl ((c.lps).map lpC) false), (.fsl ((c.progs).map qbm) false), (ii c.look), (ii c.fin), (ii c.cap)])), (4, .ptr 0 0 0 0), (6, .ptr 1 0 0 0), (7, (ii 0))], []⟩ [.row 14 [[(ii x.r0), (ii x.r1), (.fsl ((x.procs).map Pr.r) false), (ii x.sum), (ii x.ev.time), (.fsl ((x.ev.key).map qcm) false), (ii x.ev.lp), (ii x.ev.kind), (ii x.ev.proc), (ii x.ev.arg), (.fsl ((x.out).map Evt.r) false), (.fsl ((x.gone).map qfe) false), (ii x.n), (bb x.over)]] 0, .row 14 [[(ii 0), (ii 0), .fsl [] false, (ii 0), (ii 0), .fsl [] false, (ii 0), (ii 0), (ii 0), (ii 0), .fsl [] false, .fsl [] false, (ii 0), (bb false)]] 0] = some y ∧ RefEnd e0 i (qlo p i 16 x) y := by
  have := qhi (f := exec (evL T) itL none qe4) (s := qr [2, 3, 4, 6, 7] true 2) (α := Ex) (fun j _ => ⟨[(2, (ii i)), (3, (.fptr [(.fsl ((c.lps).map lpC) false), (.fsl ((c.progs).map qbm) false), (ii c.look), (ii c.fin), (ii c.cap)])), (4, .ptr 0 0 0 0), (6, .ptr 1 0 0 0), (7, (ii ((j : Int))))], []⟩) (fun _ a => [.row 14 [[(ii a.r0), (ii a.r1), (.fsl ((a.procs).map Pr.r) false), (ii a.sum), (ii a.ev.time), (.fsl ((a.ev.key).map qcm) false), (ii a.ev.lp), (ii a.ev.kind), (ii a.ev.proc), (ii a.ev.arg), (.fsl ((a.out).map Evt.r) false), (.fsl ((a.gone).map qfe) false), (ii a.n), (bb a.over)]] 0, .row 14 [[(ii 0), (ii 0), .fsl [] false, (ii 0), (ii 0), .fsl [] false, (ii 0), (ii 0), (ii 0), (ii 0), .fsl [] false, .fsl [] false, (ii 0), (bb false)]] 0])
    (fun j a => ActInv e0 i j a ∧ (∃ q, a.procs[i]? = some q ∧ q.prog = pr) ∧ qlo p i (16 - j) a = qlo p i 16 x) 16 (RefEnd e0 i (qlo p i 16 x)) ?_ ?_ 0 x (Nat.zero_le _) ⟨hx, hxp, rfl⟩
  · exact this
  · rintro j y hj ⟨hi1, ⟨q, hq, hqp⟩, hi2⟩
    have hpc : 0 ≤ q.pc ∧ q.pc ≤ 1000000 := by obtain ⟨q', h1, h2⟩ := hi1.has; rw [hq] at h1; cases h1; exact h2
    have hlt := (List.getElem?_eq_some_iff.1 hq).1
    have hpr' : y.ev.proc = i := by rw [hi1.ev]; exact hpr
    have hj' : (j : Int) < 16 := by omega
    have hw : IntKind.i64.wrap ((j : Int) + 1) = ((j + 1 : Nat) : Int) := by rw [qao (by omega) (by omega)]; simp
    rw [show 16 - j = (16 - (j + 1)) + 1 from by omega, qzt p i _ y q hq] at hi2
    cases hop : p[q.pc.toNat]? with
    | none =>
      rw [hop] at hi2
      simp only at hi2
      have hge : q.pc ≥ (p.length : Int) := by have := List.getElem?_eq_none_iff.1 hop; omega
      right
      simp only [qe4, hj', hge, Int.natCast_nonneg, Int.toNat_natCast, List.getElem?_map, Option.map_some, hq, hqp, h0, hp, Pr.r, qbm, Ev.exec, qb, qe, qc, qag, Ev.Opnd.ev, Ev.Env.get, Ev.Env.set, Ev.look, qh, qab, Ev.AV.cells, qv, Ev.AV.plain, qo, qb5, List.length_map, ↓qq, Ev.it1, ↓reduceIte, List.length_cons, List.length_nil, List.getElem?_cons_zero, List.getElem?_cons_succ, List.take_succ_cons, List.take_zero, zfe, List.drop_succ_cons, List.drop_zero, List.drop_nil, List.cons_append, List.nil_append, List.append_nil, List.set_cons_zero, List.set_cons_succ, List.head?_cons, Nat.reduceAdd, Nat.reduceEqDiff, reduceCtorEq, decide_true, zfc, zfa, and_self, ne_eq, zfb, zff, zfd, Nat.add_zero, Nat.le_refl, eq_self]
      exact ⟨_, rfl, rfl, .inr ⟨rfl, y, ⟨hi1.ev, hi1.has, hi1.procs, by have := hi1.out; omega, by have := hi1.gone; omega⟩, hi2, rfl, rfl, rfl, .inr ⟨⟨pr, q.pc, q.alive, q.timer⟩, rfl⟩⟩⟩
    | some op =>
      rw [hop] at hi2
      simp only at hi2
      have hlp := (List.getElem?_eq_some_iff.1 hop).1
      have hge : ¬ q.pc ≥ (p.length : Int) := by omega
      have hoo := hok op (List.mem_of_getElem? hop)
      have hv := rstep_ev y i op q (hi1.small (by omega) hk) (by have := hi1.gone; omega) hpr' hq hoo
      have hn := hi1.stepR hq ⟨by omega, by omega⟩ hoo
      have hnp := q9e y i q op hq
      rw [hqp] at hnp
      generalize stepR y i q op = S at hi2 hn hv hnp
      obtain ⟨z, b⟩ := S
      simp only at hi2 hn hv hnp
      cases b with
      | true =>
        right
        simp only [if_true] at hi2
        simp only [qe4, hj', hge, hv, Int.natCast_nonneg, Int.toNat_natCast, List.getElem?_map, Option.map_some, hq, hqp, h0, hp, hpc, hop, Pr.r, OpI.r, qbm, qar, qat, qac, qbq, Ev.exec, qb, qe, qc, qaw, qag, Ev.evs, Ev.Opnd.ev, Ev.Env.get, Ev.Env.set, Ev.look, qh, qab, Ev.AV.cells, qv, Ev.AV.plain, qo, qb5, qay, qbe, qw, qj, qk, List.length_map, ↓qq, Ev.it1, ↓reduceIte, List.length_cons, List.length_nil, List.getElem?_cons_zero, List.getElem?_cons_succ, List.take_succ_cons, List.take_zero, zfe, List.drop_succ_cons, List.drop_zero, List.drop_nil, List.cons_append, List.nil_append, List.append_nil, List.set_cons_zero, List.set_cons_succ, List.head?_cons, Nat.reduceAdd, Nat.reduceEqDiff, decide_true, decide_false, zfc, zfa, and_self, ne_eq, zfb, zff, zfd, Nat.add_zero, Nat.le_refl, eq_self]
        exact ⟨_, rfl, rfl, .inl ⟨rfl, rfl, ⟨pr, q.pc, q.alive, q.timer⟩, by rw [← hi2]; rfl⟩⟩
      | false =>
        left
        simp only [zfa, if_false] at hi2
        refine ⟨z, ?_, hn, hnp, hi2⟩
        simp only [qe4, hj', hge, hv, hw, Int.natCast_nonneg, Int.toNat_natCast, List.getElem?_map, Option.map_some, hq, hqp, h0, hp, hpc, hop, Pr.r, OpI.r, qbm, qa3, qb1, qar, qat, qac, qbq, Nat.reduceLT, Ev.exec, qb, qe, qc, qaw, qag, Ev.evs, Ev.Opnd.ev, Ev.Env.get, Ev.Env.set, Ev.look, qh, qab, Ev.AV.cells, qv, Ev.AV.plain, qaj, qo, qb5, qr, Ev.keep, qai, qy, qd, Ev.SObj.lo, qay, qbe, qw, qdk, qlg, qj, qk, qaf, qaq, List.length_map, ↓qq, Ev.it1, ↓reduceIte, List.length_cons, List.length_nil, List.getElem?_cons_zero, List.getElem?_cons_succ, List.take_succ_cons, List.take_zero, zfe, List.drop_succ_cons, List.drop_zero, List.drop_nil, List.cons_append, List.nil_append, List.append_nil, List.set_cons_zero, List.set_cons_succ, List.head?_cons, Nat.reduceAdd, Nat.reduceEqDiff, Nat.reduceLT, decide_true, decide_false, zfc, zfa, and_self, ne_eq, zfb, zff, zfd, Nat.add_zero, Nat.lt_add_one, Nat.le_refl, eq_self]
  · rintro y ⟨hi1, _, hi2⟩
    simp only [qe4, Int.lt_irrefl, Ev.exec, qb, qe, qc, qag, Ev.Opnd.ev, Ev.Env.get, Ev.Env.set, Ev.look, qo, ↓qq, Ev.it1, ↓reduceIte, Nat.reduceEqDiff, Int.cast_ofNat_Int, decide_false, zfa, eq_self]
    exact ⟨_, rfl, rfl, .inr ⟨rfl, y, hi1, hi2, rfl, rfl, rfl, .inl rfl⟩⟩
theorem qw9 (hk : e0.key.length ≤ 1000) (hpr : e0.proc = i) (hpl : p.length ≤ 1000) (hok : ∀ op ∈ p, OpOk' op) (h0 : 0 ≤ pr) (hp : c.progs[pr.toNat]? = some p) (x : Ex) (hx : ActInv e0 i 0 x) (hxp : ∃ q, x.procs[i]? = some q ∧ q.prog = pr) :
    qaz (evL T) qhq [(.agg [(.fsl ((c.lps).map lpC) false), (.fsl ((c.progs).map qbm) false), (ii c.look), (ii c.fin), (ii c.cap)]), (.agg [(ii x.r0), (ii x.r1), (.fsl ((x.procs).map Pr.r) false), (ii x.sum), (ii x.ev.time), (.fsl ((x.ev.key).map qcm) false), (ii x.ev.lp), (ii x.ev.kind), (ii x.ev.proc), (ii x.ev.arg), (.fsl ((x.out).map Evt.r) false), (.fsl ((x.gone).map qfe) false), (ii x.n), (bb x.over)]), (ii i)] = some (.agg [(ii ((qlo p i 16 x).r0)), (ii ((qlo p i 16 x).r1)), (.fsl (((qlo p i 16 x).procs).map Pr.r) false), (ii ((qlo p i 16 x).sum)), (ii ((qlo p i 16 x).ev.time)), (.fsl (((qlo p i 16 x).ev.key).map qcm) false), (ii ((qlo p i 16 x).ev.lp)), (ii ((qlo p i 16 x).ev.kind)), (ii ((qlo p i 16 x).ev.proc)), (ii ((qlo p i 16 x).ev.arg)), (.fsl (((qlo p i 16 x).out).map Evt.r) false), (.fsl (((qlo p i 16 x).gone).map qfe) false), (ii ((qlo p i 16 x).n)), (bb ((qlo p i 16 x).over))]) := by
  obtain ⟨⟨y, e, σ⟩, k1, k2, k3⟩ := qacg c e0 i p pr hk hpr hpl hok h0 hp x hx hxp
  simp only at k2 k3
  generalize qlo p i 16 x = F at k3
  rw [qaz, qs qvv qu2]
  rcases k3 with ⟨rfl, k4, q, rfl⟩ | ⟨rfl, z, kz, k4, k5, k6, k7, k8⟩
  · simp only [qhk, k1, k2, k4, qa3, qb1, qar, qat, qac, qbq, Nat.reduceLT, qm, Ev.exec, qb, qe, qc, qag, Ev.Opnd.ev, Ev.Env.get, Ev.Env.set, Ev.look, qn, qh, qab, Ev.AV.cells, qv, Ev.AV.plain, ql, qx, qae, Ev.kill, qad, qr, Ev.keep, qai, qy, qd, Ev.SObj.lo, qay, qbe, qw, qdk, qlg, qj, qk, qaf, qaq, qah, ↓qq, ↓qak, ↓reduceIte, List.length_cons, List.length_nil, List.getElem?_cons_zero, List.getElem?_cons_succ, List.take_succ_cons, List.take_zero, zfe, List.drop_zero, List.cons_append, List.nil_append, Nat.reduceAdd, Nat.reduceEqDiff, Nat.reduceLT, reduceCtorEq, decide_true, zfc, and_self, ne_eq, zfb, zff, zfd, Nat.lt_add_one, Nat.le_refl, eq_self]
  · obtain ⟨q, hq, hpc⟩ := kz.has
    have hlt := (List.getElem?_eq_some_iff.1 hq).1
    have hv := qeo z (by have := kz.procs; omega) i hlt { q with alive := false }
    have hkz : qms z i = z.setP i { q with alive := false } := by unfold qms; rw [hq]
    rw [hkz] at k4
    subst k4
    simp only at hv
    rcases k8 with rfl | ⟨q2, rfl⟩
    · simp only [qhk, k1, k2, k5, k6, k7, hq, hv, Pr.r, Int.natCast_nonneg, Int.toNat_natCast, List.getElem?_map, Option.map_some, qa3, qb1, qar, qat, qac, qbq, Nat.reduceLT, Nat.reduceLeDiff, qm, Ev.exec, qb, qe, qc, qaw, qag, Ev.evs, Ev.Opnd.ev, Ev.Env.get, Ev.Env.set, Ev.look, qn, qh, qab, Ev.AV.cells, Ev.AV.uc, qv, Ev.AV.plain, ql, qx, qae, Ev.kill, qad, qr, Ev.keep, qai, qy, qd, Ev.SObj.lo, qay, qbe, qw, qdk, qlg, qj, qk, qaf, qaq, qah, ↓qq, ↓qak, ↓reduceIte, List.length_cons, List.length_nil, List.getElem?_cons_zero, List.getElem?_cons_succ, List.take_succ_cons, List.take_zero, zfe, List.drop_succ_cons, List.drop_zero, List.drop_nil, List.cons_append, List.nil_append, List.append_nil, List.set_cons_zero, List.set_cons_succ, List.head?_cons, Nat.reduceAdd, Nat.reduceEqDiff, Nat.reduceLT, Nat.reduceLeDiff, reduceCtorEq, decide_true, zfc, zfa, and_self, ne_eq, zfb, zff, zfd, Nat.add_zero, Nat.lt_add_one, Nat.le_refl, eq_self]
    · simp only [qhk, k1, k2, k5, k6, k7, hq, hv, Pr.r, Int.natCast_nonneg, Int.toNat_natCast, List.getElem?_map, Option.map_some, qa3, qb1, qar, qat, qac, qbq, Nat.reduceLT, Nat.reduceLeDiff, qm, Ev.exec, qb, qe, qc, qaw, qag, Ev.evs, Ev.Opnd.ev, Ev.Env.get, Ev.Env.set, Ev.look, qn, qh, qab, Ev.AV.cells, Ev.AV.uc, qv, Ev.AV.plain, ql, qx, qae, Ev.kill, qad, qr, Ev.keep, qai, qy, qd, Ev.SObj.lo, qay, qbe, qw, qdk, qlg, qj, qk, qaf, qaq, qah, ↓qq, ↓qak, ↓reduceIte, List.length_cons, List.length_nil, List.getElem?_cons_zero, List.getElem?_cons_succ, List.take_succ_cons, List.take_zero, zfe, List.drop_succ_cons, List.drop_zero, List.drop_nil, List.cons_append, List.nil_append, List.append_nil, List.set_cons_zero, List.set_cons_succ, List.head?_cons, Nat.reduceAdd, Nat.reduceEqDiff, Nat.reduceLT, Nat.reduceLeDiff, reduceCtorEq, decide_true, zfc, zfa, and_self, ne_eq, zfb, zff, zfd, Nat.add_zero, Nat.lt_add_one, Nat.le_refl, eq_self]
end
set_option maxRecDepth 10000
section
variable (c : Cfg) (x : Lp) (e : Evt)
theorem qabv (hk : e.kind = 3) : qaz (evL T) qgz [(.agg [(.fsl ((c.lps).map lpC) false), (.fsl ((c.progs).map qbm) false), (ii c.look), (ii c.fin), (ii c.cap)]), (.agg [(ii x.r0), (ii x.r1), (.fsl ((x.procs).map Pr.r) false), (ii x.sum)]), (.agg [(ii e.time), (.fsl ((e.key).map qcm) false), (ii e.lp), (ii e.kind), (ii e.proc), (ii e.arg)])] = some (.tup [(.agg [(ii ((⟨x.r0, x.r1, x.procs, w64 (x.sum + e.arg)⟩ : Lp).r0)), (ii ((⟨x.r0, x.r1, x.procs, w64 (x.sum + e.arg)⟩ : Lp).r1)), (.fsl (((⟨x.r0, x.r1, x.procs, w64 (x.sum + e.arg)⟩ : Lp).procs).map Pr.r) false), (ii ((⟨x.r0, x.r1, x.procs, w64 (x.sum + e.arg)⟩ : Lp).sum))]), .fsl [] true, .fsl [] true, (bb false)]) := by
  rw [qaz, qs qmn ql5]
  simp only [qcd, hk, qat, Nat.reduceLeDiff, qm, Ev.exec, qb, qe, qc, qag, Ev.Opnd.ev, Ev.Env.get, Ev.Env.set, Ev.look, qn, qh, qab, qff, Ev.AV.cells, Ev.AV.uc, qv, Ev.AV.plain, qaj, qal, ql, qx, qae, Ev.kill, qad, qd, qay, qbe, qbc, qw, qj, qk, qaf, qah, ↓qq, ↓reduceIte, List.length_cons, List.length_nil, List.getElem?_cons_zero, List.getElem?_cons_succ, List.take_succ_cons, List.take_zero, zfe, List.drop_succ_cons, List.drop_zero, List.drop_nil, List.cons_append, List.nil_append, List.append_nil, List.set_cons_zero, List.set_cons_succ, List.head?_cons, Nat.reduceAdd, Nat.reduceEqDiff, Nat.reduceLeDiff, reduceCtorEq, decide_true, zfc, zfa, and_self, ne_eq, zfb, zff, zfd, Nat.add_zero, Nat.le_refl, eq_self]
theorem q8v (hk : ¬ e.kind = 3) (ha : qnb x e = none) : qaz (evL T) qgz [(.agg [(.fsl ((c.lps).map lpC) false), (.fsl ((c.progs).map qbm) false), (ii c.look), (ii c.fin), (ii c.cap)]), (.agg [(ii x.r0), (ii x.r1), (.fsl ((x.procs).map Pr.r) false), (ii x.sum)]), (.agg [(ii e.time), (.fsl ((e.key).map qcm) false), (ii e.lp), (ii e.kind), (ii e.proc), (ii e.arg)])] = some (.tup [(.agg [(ii x.r0), (ii x.r1), (.fsl ((x.procs).map Pr.r) false), (ii x.sum)]), .fsl [] true, .fsl [] true, (bb false)]) := by
  rw [qaz, qs qmn ql5]
  by_cases k1 : e.kind = 1
  case neg =>
    by_cases k2 : e.kind = 2
    case neg => simp only [qcd, hk, k1, k2, qat, Nat.reduceLeDiff, qm, Ev.exec, qb, qe, qc, qag, Ev.Opnd.ev, Ev.Env.get, Ev.Env.set, Ev.Env.unset, Ev.look, qn, qh, qab, qff, Ev.AV.cells, qv, Ev.AV.plain, qal, qax, ql, qx, qae, Ev.kill, qad, qd, qay, qbe, qbc, qw, qj, qk, qaf, qah, ↓qq, ↓reduceIte, List.length_cons, List.length_nil, List.getElem?_cons_zero, List.getElem?_cons_succ, List.take_succ_cons, List.take_zero, zfe, List.drop_succ_cons, List.drop_zero, List.drop_nil, List.cons_append, List.nil_append, List.append_nil, List.set_cons_zero, List.set_cons_succ, List.head?_cons, Nat.reduceAdd, Nat.reduceEqDiff, Nat.reduceLeDiff, reduceCtorEq, decide_true, decide_false, zfc, zfa, Bool.true_eq_false, and_self, ne_eq, zfb, zff, zfd, Nat.le_refl, eq_self]
    by_cases h1 : e.proc < 0
    · simp only [qcd, k2, h1, qat, Nat.reduceLeDiff, qm, Ev.exec, qb, qe, qc, qag, Ev.Opnd.ev, Ev.Env.get, Ev.Env.set, Ev.Env.unset, Ev.look, qn, qh, qab, qff, Ev.AV.cells, qv, Ev.AV.plain, qal, qax, qo, ql, qx, qae, Ev.kill, qad, qd, qay, qbe, qbc, qw, qj, qk, qaf, qah, ↓qq, ↓reduceIte, List.length_cons, List.length_nil, List.getElem?_cons_zero, List.getElem?_cons_succ, List.take_succ_cons, List.take_zero, zfe, List.drop_succ_cons, List.drop_zero, List.drop_nil, List.cons_append, List.nil_append, List.append_nil, List.set_cons_zero, List.set_cons_succ, List.head?_cons, Nat.reduceAdd, Nat.reduceEqDiff, Nat.reduceLeDiff, Int.reduceEq, reduceCtorEq, decide_true, decide_false, zfc, zfa, Bool.true_eq_false, and_self, ne_eq, zfb, not_true_eq_false, zff, zfd, Nat.le_refl, eq_self]
    by_cases h2 : e.proc ≥ (x.procs.length : Int)
    · simp only [qcd, k2, h1, h2, qat, Nat.reduceLeDiff, qm, Ev.exec, qb, qe, qc, qag, Ev.Opnd.ev, Ev.Env.get, Ev.Env.set, Ev.Env.unset, Ev.look, qn, qh, qab, qff, Ev.AV.cells, qv, Ev.AV.plain, qal, qax, qo, qb5, ql, qx, qae, Ev.kill, qad, qd, qay, qbe, qbc, qw, qj, qk, qaf, qah, List.length_map, ↓qq, ↓reduceIte, List.length_cons, List.length_nil, List.getElem?_cons_zero, List.getElem?_cons_succ, List.take_succ_cons, List.take_zero, zfe, List.drop_succ_cons, List.drop_zero, List.drop_nil, List.cons_append, List.nil_append, List.append_nil, List.set_cons_zero, List.set_cons_succ, List.head?_cons, Nat.reduceAdd, Nat.reduceEqDiff, Nat.reduceLeDiff, Int.reduceEq, reduceCtorEq, decide_true, decide_false, zfc, zfa, Bool.true_eq_false, and_self, ne_eq, zfb, not_true_eq_false, zff, zfd, Nat.le_refl, eq_self]
    obtain ⟨q, hq⟩ : ∃ q, x.procs[e.proc.toNat]? = some q := ⟨_, List.getElem?_eq_getElem (by omega)⟩
    have h0 : 0 ≤ e.proc := by omega
    have hal : q.alive = false := by
      unfold qnb at ha
      rw [if_pos ⟨.inr k2, h0⟩, hq] at ha
      cases h : q.alive with
      | false => rfl
      | true => simp [h] at ha
    simp only [qcd, k2, h0, h1, h2, hq, hal, List.getElem?_map, Option.map_some, Pr.r, qat, Nat.reduceLeDiff, qm, Ev.exec, qb, qe, qc, qag, Ev.Opnd.ev, Ev.Env.get, Ev.Env.set, Ev.look, qn, qh, qab, qff, Ev.AV.cells, qv, Ev.AV.plain, qal, qax, qo, qb5, ql, qx, qae, Ev.kill, qad, qd, qay, qbe, qbc, qw, qj, qk, qaf, qah, List.length_map, ↓qq, ↓reduceIte, List.length_cons, List.length_nil, List.getElem?_cons_zero, List.getElem?_cons_succ, List.take_succ_cons, List.take_zero, zfe, List.drop_succ_cons, List.drop_zero, List.drop_nil, List.cons_append, List.nil_append, List.append_nil, List.set_cons_zero, List.set_cons_succ, List.head?_cons, Nat.reduceAdd, Nat.reduceEqDiff, Nat.reduceLeDiff, Int.reduceEq, reduceCtorEq, decide_true, decide_false, zfc, Bool.not_false, zfa, and_self, ne_eq, zfb, not_true_eq_false, zff, zfd, Nat.le_refl, eq_self]
  by_cases h1 : e.proc < 0
  · simp only [qcd, k1, h1, qat, Nat.reduceLeDiff, qm, Ev.exec, qb, qe, qc, qag, Ev.Opnd.ev, Ev.Env.get, Ev.Env.set, Ev.Env.unset, Ev.look, qn, qh, qab, qff, Ev.AV.cells, qv, Ev.AV.plain, qal, qax, qo, ql, qx, qae, Ev.kill, qad, qd, qay, qbe, qbc, qw, qj, qk, qaf, qah, ↓qq, ↓reduceIte, List.length_cons, List.length_nil, List.getElem?_cons_zero, List.getElem?_cons_succ, List.take_succ_cons, List.take_zero, zfe, List.drop_succ_cons, List.drop_zero, List.drop_nil, List.cons_append, List.nil_append, List.append_nil, List.set_cons_zero, List.set_cons_succ, List.head?_cons, Nat.reduceAdd, Nat.reduceEqDiff, Nat.reduceLeDiff, Int.reduceEq, reduceCtorEq, decide_true, decide_false, zfc, zfa, Bool.true_eq_false, and_self, ne_eq, zfb, not_true_eq_false, zff, zfd, Nat.le_refl, eq_self]
  by_cases h2 : e.proc ≥ (x.procs.length : Int)
  · simp only [qcd, k1, h1, h2, qat, Nat.reduceLeDiff, qm, Ev.exec, qb, qe, qc, qag, Ev.Opnd.ev, Ev.Env.get, Ev.Env.set, Ev.Env.unset, Ev.look, qn, qh, qab, qff, Ev.AV.cells, qv, Ev.AV.plain, qal, qax, qo, qb5, ql, qx, qae, Ev.kill, qad, qd, qay, qbe, qbc, qw, qj, qk, qaf, qah, List.length_map, ↓qq, ↓reduceIte, List.length_cons, List.length_nil, List.getElem?_cons_zero, List.getElem?_cons_succ, List.take_succ_cons, List.take_zero, zfe, List.drop_succ_cons, List.drop_zero, List.drop_nil, List.cons_append, List.nil_append, List.append_nil, List.set_cons_zero, List.set_cons_succ, List.head?_cons, Nat.reduceAdd, Nat.reduceEqDiff, Nat.reduceLeDiff, Int.reduceEq, reduceCtorEq, decide_true, decide_false, zfc, zfa, Bool.true_eq_false, and_self, ne_eq, zfb, not_true_eq_false, zff, zfd, Nat.le_refl, eq_self]
  obtain ⟨q, hq⟩ : ∃ q, x.procs[e.proc.toNat]? = some q := ⟨_, List.getElem?_eq_getElem (by omega)⟩
  have h0 : 0 ≤ e.proc := by omega
  have hal : q.alive = false := by
    unfold qnb at ha
    rw [if_pos ⟨.inl k1, h0⟩, hq] at ha
    cases h : q.alive with
    | false => rfl
    | true => simp [h] at ha
  simp only [qcd, k1, h0, h1, h2, hq, hal, List.getElem?_map, Option.map_some, Pr.r, qat, Nat.reduceLeDiff, qm, Ev.exec, qb, qe, qc, qag, Ev.Opnd.ev, Ev.Env.get, Ev.Env.set, Ev.Env.unset, Ev.look, qn, qh, qab, qff, Ev.AV.cells, qv, Ev.AV.plain, qal, qax, qo, qb5, ql, qx, qae, Ev.kill, qad, qd, qay, qbe, qbc, qw, qj, qk, qaf, qah, List.length_map, ↓qq, ↓reduceIte, List.length_cons, List.length_nil, List.getElem?_cons_zero, List.getElem?_cons_succ, List.take_succ_cons, List.take_zero, zfe, List.drop_succ_cons, List.drop_zero, List.drop_nil, List.cons_append, List.nil_append, List.append_nil, List.set_cons_zero, List.set_cons_succ, List.head?_cons, Nat.reduceAdd, Nat.reduceEqDiff, Nat.reduceLeDiff, Int.reduceEq, reduceCtorEq, decide_false, zfc, Bool.not_false, zfa, and_self, ne_eq, zfb, not_true_eq_false, zff, zfd, Nat.le_refl, eq_self]
theorem qabr (h : qyc c x e) {q : Pr} (ha : qnb x e = some q) :
    qaz (evL T) qgz [(.agg [(.fsl ((c.lps).map lpC) false), (.fsl ((c.progs).map qbm) false), (ii c.look), (ii c.fin), (ii c.cap)]), (.agg [(ii x.r0), (ii x.r1), (.fsl ((x.procs).map Pr.r) false), (ii x.sum)]), (.agg [(ii e.time), (.fsl ((e.key).map qcm) false), (ii e.lp), (ii e.kind), (ii e.proc), (ii e.arg)])] = some (.tup [(.agg [(ii ((q46 (qr9 c x e q)).r0)), (ii ((q46 (qr9 c x e q)).r1)), (.fsl (((q46 (qr9 c x e q)).procs).map Pr.r) false), (ii ((q46 (qr9 c x e q)).sum))]), (.fsl (((qr9 c x e q).out).map Evt.r) false), (.fsl (((qr9 c x e q).gone).map qfe) false), (bb ((qr9 c x e q).over))]) := by
  unfold qnb at ha
  split at ha
  case isFalse => cases ha
  rename_i hc
  obtain ⟨hkind, h0⟩ := hc
  obtain ⟨i, hi⟩ : ∃ i : Nat, e.proc = i := ⟨_, (Int.toNat_of_nonneg h0).symm⟩
  have hin : e.proc.toNat = i := by omega
  rw [hin, Option.bind_eq_some_iff] at ha
  obtain ⟨q', hq, ha⟩ := ha
  split at ha
  case isFalse => cases ha
  rename_i hal
  cases ha
  have hlt := (List.getElem?_eq_some_iff.1 hq).1
  obtain ⟨p1, p2, p3, p4, p5⟩ := h.proc q (List.mem_of_getElem? hq)
  obtain ⟨p, hp⟩ : ∃ p, c.progs[q.prog.toNat]? = some p := ⟨_, List.getElem?_eq_getElem (by omega)⟩
  obtain ⟨pl, pok⟩ := h.prog p (List.mem_of_getElem? hp)
  have hinv := qz1 c x e h hi hq
  have hxp : ∃ q', ((qc1 x e).setP i (qjf e q)).procs[i]? = some q' ∧ q'.prog = q.prog := ⟨qjf e q, by simp only [Ex.setP, qc1]; rw [List.getElem?_set_self hlt], q0q e q⟩
  have hact := qw9 c e i p q.prog h.key hi pl pok p1 hp ((qc1 x e).setP i (qjf e q)) hinv hxp
  have hrun : qr9 c x e q = qlo p i 16 ((qc1 x e).setP i (qjf e q)) := by unfold qr9; rw [hin, hp]; rfl
  rw [hrun]
  generalize qlo p i 16 ((qc1 x e).setP i (qjf e q)) = F at hact
  have h1 : ¬ e.proc < 0 := by omega
  have h2 : ¬ e.proc ≥ (x.procs.length : Int) := by omega
  have h3 : ¬ e.kind = 3 := by omega
  rw [hi] at h0 h1 h2
  rw [qaz, qs qmn ql5]
  rcases hkind with k1 | k2
  · have hwk : qjf e q = q := by unfold qjf; rw [if_neg (by omega)]
    have hss : x.procs.set i q = x.procs := by
      obtain ⟨hlt', hge⟩ := List.getElem?_eq_some_iff.1 hq
      rw [← hge, List.set_getElem_self]
    have k3 : ¬ (1 : Int) = 3 := by decide
    have k4 : ¬ (1 : Int) = 2 := by decide
    rw [hwk] at hact
    simp only [qc1, Ex.setP, hss, List.map_nil, hi, k1] at hact
    simp only [qcd, k1, k3, k4, h0, h1, h2, hi, hq, hal, hact, q46, Int.toNat_natCast, List.getElem?_map, Option.map_some, Pr.r, qb1, qa3, qar, qat, qac, qbq, Nat.reduceLeDiff, qm, Ev.exec, qb, qe, qc, qaw, qag, Ev.evs, Ev.Opnd.ev, Ev.Env.get, Ev.Env.set, Ev.Env.unset, Ev.look, qn, qh, qab, qff, Ev.AV.cells, qv, Ev.AV.plain, qal, qax, qo, qb5, ql, qx, qae, Ev.kill, qad, qd, qay, qbe, qbc, qw, qoi, Ev.AV.obj?, qj, qk, qaf, qah, List.length_map, ↓qq, ↓reduceIte, List.length_cons, List.length_nil, List.getElem?_cons_zero, List.getElem?_cons_succ, List.take_succ_cons, List.take_zero, zfe, List.drop_succ_cons, List.drop_zero, List.drop_nil, List.cons_append, List.nil_append, List.append_nil, List.set_cons_zero, List.set_cons_succ, List.head?_cons, Nat.reduceAdd, Nat.reduceEqDiff, Nat.reduceBEq, Nat.reduceLeDiff, reduceCtorEq, decide_false, zfc, Bool.not_true, Bool.not_false, zfa, and_self, ne_eq, zfb, not_true_eq_false, zff, zfd, Nat.add_zero, Nat.le_refl, eq_self]
    done
  · have k1 : ¬ (2 : Int) = 1 := by decide
    have k3 : ¬ (2 : Int) = 3 := by decide
    have hkl := h.key
    have hwk : qjf e q = { q with pc := e.arg, timer := if q.timer = e.key then [] else q.timer } := by unfold qjf; rw [if_pos k2]
    obtain ⟨qp, qpc, qa, qt⟩ := q
    dsimp only at *
    subst hal
    have heq := qqs qt e.key false false (by omega) (by omega)
    rw [hwk] at hact
    have hpt : ∀ q0 : Pr, qaz (evL T) qfj [(.agg [(ii ((qc1 x e).r0)), (ii ((qc1 x e).r1)), (.fsl (((qc1 x e).procs).map Pr.r) false), (ii ((qc1 x e).sum)), (ii ((qc1 x e).ev.time)), (.fsl (((qc1 x e).ev.key).map qcm) false), (ii ((qc1 x e).ev.lp)), (ii ((qc1 x e).ev.kind)), (ii ((qc1 x e).ev.proc)), (ii ((qc1 x e).ev.arg)), (.fsl (((qc1 x e).out).map Evt.r) false), (.fsl (((qc1 x e).gone).map qfe) false), (ii ((qc1 x e).n)), (bb ((qc1 x e).over))]), (ii i), (.agg [(ii q0.prog), (ii q0.pc), (bb q0.alive), (.fsl ((q0.timer).map qcm) false)])] = some (.agg [(ii (((qc1 x e).setP i q0).r0)), (ii (((qc1 x e).setP i q0).r1)), (.fsl ((((qc1 x e).setP i q0).procs).map Pr.r) false), (ii (((qc1 x e).setP i q0).sum)), (ii (((qc1 x e).setP i q0).ev.time)), (.fsl ((((qc1 x e).setP i q0).ev.key).map qcm) false), (ii (((qc1 x e).setP i q0).ev.lp)), (ii (((qc1 x e).setP i q0).ev.kind)), (ii (((qc1 x e).setP i q0).ev.proc)), (ii (((qc1 x e).setP i q0).ev.arg)), (.fsl ((((qc1 x e).setP i q0).out).map Evt.r) false), (.fsl ((((qc1 x e).setP i q0).gone).map qfe) false), (ii (((qc1 x e).setP i q0).n)), (bb (((qc1 x e).setP i q0).over))]) := fun q0 => qeo (qc1 x e) (by show x.procs.length ≤ 1000; have := h.procs; omega) i hlt q0
    by_cases ht : qt = e.key
    · have hp2 := hpt ⟨qp, e.arg, true, []⟩
      simp only [ht, if_true] at hact
      simp only [ht, decide_true] at heq
      simp only [qc1, Ex.setP, List.map_nil, hi, k2] at hact hp2
      by_cases hz : e.key = []
      · have z0 : ¬ (0 : Int) > 0 := by decide
        have hl0 : (([] : List Int).length : Int) = 0 := rfl
        rw [hz] at ht
        simp only [hz, List.map_nil] at hact hp2
        simp only [qcd, k1, k2, k3, h0, h1, h2, hi, hq, hz, z0, hp2, ht, hact, List.map_nil, List.length_nil, q46, Int.toNat_natCast, List.getElem?_map, Option.map_some, Pr.r, qb1, qa3, qat, qac, qbq, Nat.reduceLeDiff, qm, Ev.exec, qb, qe, qc, qaw, qag, Ev.evs, Ev.Opnd.ev, Ev.Env.get, Ev.Env.set, Ev.Env.unset, Ev.look, qn, qh, qab, qff, Ev.AV.cells, Ev.AV.uc, qv, Ev.AV.plain, qal, qax, qo, qav, qb5, ql, qx, qae, Ev.kill, qad, qd, qay, qbe, qbc, qw, qoi, Ev.AV.obj?, qj, qk, qaf, qah, List.length_map, ↓qq, ↓reduceIte, List.length_cons, List.length_nil, List.getElem?_cons_zero, List.getElem?_cons_succ, List.take_succ_cons, List.take_zero, zfe, List.drop_succ_cons, List.drop_zero, List.drop_nil, List.cons_append, List.nil_append, List.append_nil, List.set_cons_zero, List.set_cons_succ, List.head?_cons, Nat.reduceAdd, Nat.reduceEqDiff, Nat.reduceBEq, Nat.reduceLeDiff, Int.cast_ofNat_Int, reduceCtorEq, decide_true, decide_false, zfc, Bool.not_true, Bool.not_false, zfa, and_self, ne_eq, zfb, not_true_eq_false, zff, zfd, Nat.add_zero, Nat.le_refl, eq_self]
        done
      · have hz' : (e.key.length : Int) > 0 := by have := List.length_pos_iff.2 hz; omega
        simp only [qcd, k1, k2, k3, h0, h1, h2, hi, hq, hz', heq, hp2, ht, hact, q46, Int.toNat_natCast, List.getElem?_map, Option.map_some, Pr.r, qb1, qa3, qar, qat, qac, qbq, Nat.reduceLeDiff, qm, Ev.exec, qb, qe, qc, qaw, qag, Ev.evs, Ev.Opnd.ev, Ev.Env.get, Ev.Env.set, Ev.look, qn, qh, qab, qff, Ev.AV.cells, Ev.AV.uc, qv, Ev.AV.plain, qal, qax, qo, qav, qb5, ql, qx, qae, Ev.kill, qad, qd, qay, qbe, qbc, qw, qoi, Ev.AV.obj?, qj, qk, qaf, qah, List.length_map, ↓qq, ↓reduceIte, List.length_cons, List.length_nil, List.getElem?_cons_zero, List.getElem?_cons_succ, List.take_succ_cons, List.take_zero, zfe, List.drop_succ_cons, List.drop_zero, List.drop_nil, List.cons_append, List.nil_append, List.append_nil, List.set_cons_zero, List.set_cons_succ, List.head?_cons, Nat.reduceAdd, Nat.reduceEqDiff, Nat.reduceBEq, Nat.reduceLeDiff, reduceCtorEq, decide_true, decide_false, zfc, Bool.not_true, Bool.not_false, zfa, and_self, ne_eq, zfb, not_true_eq_false, zff, zfd, Nat.add_zero, Nat.le_refl, eq_self]
        done
    · have hp2 := hpt ⟨qp, e.arg, true, qt⟩
      simp only [ht, if_false] at hact
      simp only [ht, decide_false] at heq
      simp only [qc1, Ex.setP, List.map_nil, hi, k2] at hact hp2
      by_cases hz : (qt.length : Int) > 0
      · simp only [qcd, k1, k2, k3, h0, h1, h2, hi, hq, hz, heq, hp2, hact, q46, Int.toNat_natCast, List.getElem?_map, Option.map_some, Pr.r, qb1, qa3, qar, qat, qac, qbq, Nat.reduceLeDiff, qm, Ev.exec, qb, qe, qc, qaw, qag, Ev.evs, Ev.Opnd.ev, Ev.Env.get, Ev.Env.set, Ev.look, qn, qh, qab, qff, Ev.AV.cells, Ev.AV.uc, qv, Ev.AV.plain, qal, qax, qo, qav, qb5, ql, qx, qae, Ev.kill, qad, qd, qay, qbe, qbc, qw, qoi, Ev.AV.obj?, qj, qk, qaf, qah, List.length_map, ↓qq, ↓reduceIte, List.length_cons, List.length_nil, List.getElem?_cons_zero, List.getElem?_cons_succ, List.take_succ_cons, List.take_zero, zfe, List.drop_succ_cons, List.drop_zero, List.drop_nil, List.cons_append, List.nil_append, List.append_nil, List.set_cons_zero, List.set_cons_succ, List.head?_cons, Nat.reduceAdd, Nat.reduceEqDiff, Nat.reduceBEq, Nat.reduceLeDiff, reduceCtorEq, decide_true, decide_false, zfc, Bool.not_true, Bool.not_false, zfa, and_self, ne_eq, zfb, not_true_eq_false, zff, zfd, Nat.add_zero, Nat.le_refl, eq_self]
        done
      · simp only [qcd, k1, k2, k3, h0, h1, h2, hi, hq, hz, hp2, hact, q46, Int.toNat_natCast, List.getElem?_map, Option.map_some, Pr.r, qb1, qa3, qar, qat, qac, qbq, Nat.reduceLeDiff, qm, Ev.exec, qb, qe, qc, qaw, qag, Ev.evs, Ev.Opnd.ev, Ev.Env.get, Ev.Env.set, Ev.Env.unset, Ev.look, qn, qh, qab, qff, Ev.AV.cells, Ev.AV.uc, qv, Ev.AV.plain, qal, qax, qo, qav, qb5, ql, qx, qae, Ev.kill, qad, qd, qay, qbe, qbc, qw, qoi, Ev.AV.obj?, qj, qk, qaf, qah, List.length_map, ↓qq, ↓reduceIte, List.length_cons, List.length_nil, List.getElem?_cons_zero, List.getElem?_cons_succ, List.take_succ_cons, List.take_zero, zfe, List.drop_succ_cons, List.drop_zero, List.drop_nil, List.cons_append, List.nil_append, List.append_nil, List.set_cons_zero, List.set_cons_succ, List.head?_cons, Nat.reduceAdd, Nat.reduceEqDiff, Nat.reduceBEq, Nat.reduceLeDiff, reduceCtorEq, decide_true, decide_false, zfc, Bool.not_true, Bool.not_false, zfa, and_self, ne_eq, zfb, not_true_eq_false, zff, zfd, Nat.add_zero, Nat.le_refl, eq_self]
        done
end
set_option maxRecDepth 10000
def qq6 {τ : Type} (f : τ → Int) (l : List τ) : Int := match l.find? (fun x => !decide (f x = 0)) with
  | some x => f x
  | none => 0
theorem qtp {τ : Type} {f : τ → Int} {l : List τ} (h : l.all (fun x => decide (f x = 0)) = true) : qq6 f l = 0 := by
  unfold qq6
  have : l.find? (fun x => !decide (f x = 0)) = none := by
    rw [List.find?_eq_none]; intro x hx; rw [List.all_eq_true] at h; simp [of_decide_eq_true (h x hx)]
  rw [this]
theorem qn6 {τ : Type} {f : τ → Int} {l : List τ} {x : τ} (h : l.find? (fun x => !decide (f x = 0)) = some x) : qq6 f l = f x := by unfold qq6; rw [h]
theorem qum {τ : Type} {f : τ → Int} {l : List τ} : qq6 f l = 0 ↔ ∀ x ∈ l, f x = 0 := by
  cases h : l.find? (fun x => !decide (f x = 0)) with
  | none =>
    rw [List.find?_eq_none] at h
    have h1 : ∀ x ∈ l, f x = 0 := fun x hx => by simpa using h x hx
    exact ⟨fun _ => h1, fun _ => qtp (by rw [List.all_eq_true]; intro x hx; simp [h1 x hx])⟩
  | some x =>
    have h1 := List.find?_some h
    have h2 := List.mem_of_find?_eq_some h
    rw [qn6 h]
    exact ⟨fun k => by simp [k] at h1, fun k => k x h2⟩
section
variable (c : Cfg)
def len8 (l : List Start) : Bool := !decide ((l.length : Int) > 8)
def qr7 (c : Cfg) : Bool := decide (1 ≤ c.lps.length ∧ c.lps.length ≤ 8 ∧ c.progs.length ≤ 8) && (c.lps.all len8 && decide (1 ≤ c.cap ∧ c.cap ≤ 64 ∧ 0 ≤ c.fin ∧ c.fin ≤ 1152921504606846976))
theorem q2d : qaz (evL T) qkf [(.agg [(.fsl ((c.lps).map lpC) false), (.fsl ((c.progs).map qbm) false), (ii c.look), (ii c.fin), (ii c.cap)])] = some (bb (qr7 c)) := by
  unfold qr7
  rw [qaz, qs q1k qyi]
  by_cases h1 : (c.lps.length : Int) < 1
  · have : ¬ (1 ≤ c.lps.length ∧ c.lps.length ≤ 8 ∧ c.progs.length ≤ 8) := by omega
    simp only [qe0, h1, this, decide_false, Bool.false_and, qm, Ev.exec, qb, qe, qc, qag, Ev.Opnd.ev, Ev.Env.get, Ev.Env.set, Ev.Env.unset, Ev.look, qn, qh, qab, Ev.AV.cells, qv, Ev.AV.plain, qo, ql, qx, qae, Ev.kill, qad, qd, qay, qah, List.length_map, ↓qq, ↓reduceIte, List.length_cons, List.length_nil, zfe, List.drop_zero, List.head?_cons, Nat.reduceEqDiff, decide_true, decide_false, zfc, zfa, Bool.true_eq_false, and_self, ne_eq, zfb, zff, zfd, eq_self, Bool.false_and]
  by_cases h2 : (c.lps.length : Int) > 8
  · have : ¬ (1 ≤ c.lps.length ∧ c.lps.length ≤ 8 ∧ c.progs.length ≤ 8) := by omega
    simp only [qe0, h1, h2, this, decide_false, Bool.false_and, qm, Ev.exec, qb, qe, qc, qag, Ev.Opnd.ev, Ev.Env.get, Ev.Env.set, Ev.Env.unset, Ev.look, qn, qh, qab, Ev.AV.cells, qv, Ev.AV.plain, qo, qav, ql, qx, qae, Ev.kill, qad, qd, qay, qah, List.length_map, ↓qq, ↓reduceIte, List.length_cons, List.length_nil, zfe, List.drop_zero, List.head?_cons, Nat.reduceEqDiff, decide_true, decide_false, zfc, zfa, Bool.true_eq_false, and_self, ne_eq, zfb, zff, zfd, eq_self, Bool.false_and]
  by_cases h3 : (c.progs.length : Int) > 8
  · have : ¬ (1 ≤ c.lps.length ∧ c.lps.length ≤ 8 ∧ c.progs.length ≤ 8) := by omega
    simp only [qe0, h1, h2, h3, this, decide_false, Bool.false_and, qm, Ev.exec, qb, qe, qc, qag, Ev.Opnd.ev, Ev.Env.get, Ev.Env.set, Ev.look, qn, qh, qab, Ev.AV.cells, qv, Ev.AV.plain, qo, qav, ql, qx, qae, Ev.kill, qad, qd, qay, qah, List.length_map, ↓qq, ↓reduceIte, List.length_cons, List.length_nil, zfe, List.drop_succ_cons, List.drop_zero, List.head?_cons, Nat.reduceEqDiff, decide_true, decide_false, zfc, zfa, and_self, ne_eq, zfb, zff, zfd, eq_self, Bool.false_and]
  have h4 : (1 ≤ c.lps.length ∧ c.lps.length ≤ 8 ∧ c.progs.length ≤ 8) := by omega
  have hL : ∃ y, itB (exec (evL T) itL none qjk) (qr [1, 3] true 0) ⟨[(1, (.fptr [(.fsl ((c.lps).map lpC) false), (.fsl ((c.progs).map qbm) false), (ii c.look), (ii c.fin), (ii c.cap)])), (3, (ii 0))], []⟩ [] = some y ∧ (c.lps.all len8 = true ∧ (y.1 = .exit 0 ∧ y.2.1.marks = [] ∧ y.2.2 = [] ∧ Ev.look y.2.1.vars 1 = some (.fptr [(.fsl ((c.lps).map lpC) false), (.fsl ((c.progs).map qbm) false), (ii c.look), (ii c.fin), (ii c.cap)])) ∨
      c.lps.all len8 = false ∧ ∃ x, c.lps.find? (fun x => !len8 x) = some x ∧ (y.1 = .ret ∧ y.2.1.marks = [] ∧ y.2.2 = [] ∧ Ev.look y.2.1.vars 2 = some (bb false))) := by
    refine qfd c.lps (fun i => ⟨[(1, (.fptr [(.fsl ((c.lps).map lpC) false), (.fsl ((c.progs).map qbm) false), (ii c.look), (ii c.fin), (ii c.cap)])), (3, (ii i))], []⟩) [] len8 _ (fun _ y => _) ?_ ?_ ?_
    · intro i x hi hx hp
      have hi' : (i : Int) < (c.lps.length : Int) := by omega
      have hw : IntKind.i64.wrap ((i : Int) + 1) = ((i + 1 : Nat) : Int) := by rw [qao (by omega) (by omega)]; simp
      have h1 : ¬ (x.length : Int) > 8 := by simpa [len8] using hp
      simp only [qjk, Int.natCast_nonneg, Int.toNat_natCast, List.getElem?_map, Option.map_some, hx, hi', hw, h1, qb1, qa3, lpC, Ev.exec, qb, qe, qc, qag, Ev.Opnd.ev, Ev.Env.get, Ev.Env.set, Ev.look, qh, qab, qaj, qo, qav, qr, Ev.keep, qai, qy, qd, qay, qw, qdk, qj, qk, List.length_map, ↓qq, Ev.it1, ↓reduceIte, List.length_cons, List.length_nil, zfe, List.drop_zero, List.head?_cons, Nat.reduceEqDiff, decide_true, decide_false, zfc, zfa, and_self, zfd, eq_self]
    · intro i x hi hx hp
      have hi' : (i : Int) < (c.lps.length : Int) := by omega
      have h1 : (x.length : Int) > 8 := by simpa [len8] using hp
      simp only [qjk, Int.natCast_nonneg, Int.toNat_natCast, List.getElem?_map, Option.map_some, hx, hi', h1, lpC, Ev.exec, qb, qe, qc, qag, Ev.Opnd.ev, Ev.Env.get, Ev.Env.set, Ev.look, qh, qab, qo, qav, List.length_map, ↓qq, Ev.it1, ↓reduceIte, List.length_cons, List.length_nil, List.drop_zero, List.head?_cons, Nat.reduceEqDiff, decide_true, zfa, zfd, eq_self]
      exact ⟨_, rfl, rfl, rfl, rfl, rfl⟩
    · simp only [qjk, Int.lt_irrefl, Ev.exec, qb, qe, qc, qag, Ev.Opnd.ev, Ev.Env.get, Ev.Env.set, Ev.look, qh, qab, qo, List.length_map, ↓qq, Ev.it1, ↓reduceIte, List.drop_zero, List.head?_cons, Nat.reduceEqDiff, decide_false, zfa, eq_self]
      exact ⟨_, rfl, rfl, rfl, rfl, rfl⟩
  obtain ⟨⟨y, e, σ⟩, k1, k2⟩ := hL
  simp only at k2
  rcases k2 with ⟨k3, rfl, k4, rfl, k5⟩ | ⟨k3, x, _, rfl, k4, rfl, k5⟩
  · by_cases g1 : c.cap ≥ 1
    case neg =>
      have : ¬ (1 ≤ c.cap ∧ c.cap ≤ 64 ∧ 0 ≤ c.fin ∧ c.fin ≤ 1152921504606846976) := by omega
      simp only [qe0, h1, h2, h3, h4, k1, k3, k4, k5, g1, qb1, qa3, decide_false, Bool.and_false, qm, Ev.exec, qb, qe, qc, qag, Ev.Opnd.ev, Ev.Env.get, Ev.Env.set, Ev.Env.unset, Ev.look, qn, qh, qab, Ev.AV.cells, qv, Ev.AV.plain, qo, qav, qb5, ql, qx, qae, Ev.kill, qad, qr, Ev.keep, qai, qy, qd, qay, qw, qdk, qj, qk, qah, List.length_map, ↓qq, ↓qak, ↓reduceIte, List.length_cons, List.length_nil, zfe, List.drop_succ_cons, List.drop_zero, List.head?_cons, Nat.reduceEqDiff, decide_true, decide_false, zfc, zfa, and_self, ne_eq, zfb, zff, zfd, eq_self, Bool.and_false, false_and]
    by_cases g2 : c.cap ≤ 64
    case neg =>
      have : ¬ (1 ≤ c.cap ∧ c.cap ≤ 64 ∧ 0 ≤ c.fin ∧ c.fin ≤ 1152921504606846976) := by omega
      simp only [qe0, h1, h2, h3, h4, k1, k3, k4, k5, g1, g2, qb1, qa3, decide_false, Bool.and_false, qm, Ev.exec, qb, qe, qc, qag, Ev.Opnd.ev, Ev.Env.get, Ev.Env.set, Ev.Env.unset, Ev.look, qn, qh, qab, Ev.AV.cells, qv, Ev.AV.plain, qo, qku, qav, qb5, ql, qx, qae, Ev.kill, qad, qr, Ev.keep, qai, qy, qd, qay, qw, qdk, qj, qk, qah, List.length_map, ↓qq, ↓qak, ↓reduceIte, List.length_cons, List.length_nil, zfe, List.drop_succ_cons, List.drop_zero, List.head?_cons, Nat.reduceEqDiff, decide_true, decide_false, zfc, zfa, and_self, ne_eq, zfb, zff, zfd, eq_self, Bool.and_false, false_and, and_false]
    by_cases g3 : c.fin ≥ 0
    case neg =>
      have : ¬ (1 ≤ c.cap ∧ c.cap ≤ 64 ∧ 0 ≤ c.fin ∧ c.fin ≤ 1152921504606846976) := by omega
      simp only [qe0, h1, h2, h3, h4, k1, k3, k4, k5, g1, g2, g3, qb1, qa3, decide_false, Bool.and_false, qm, Ev.exec, qb, qe, qc, qag, Ev.Opnd.ev, Ev.Env.get, Ev.Env.set, Ev.Env.unset, Ev.look, qn, qh, qab, Ev.AV.cells, qv, Ev.AV.plain, qo, qku, qav, qb5, ql, qx, qae, Ev.kill, qad, qr, Ev.keep, qai, qy, qd, qay, qw, qdk, qj, qk, qah, List.length_map, ↓qq, ↓qak, ↓reduceIte, List.length_cons, List.length_nil, zfe, List.drop_succ_cons, List.drop_zero, List.head?_cons, Nat.reduceEqDiff, decide_true, decide_false, zfc, zfa, and_self, ne_eq, zfb, zff, zfd, eq_self, Bool.and_false, false_and, and_false]
    by_cases g4 : c.fin ≤ 1152921504606846976
    case neg =>
      have : ¬ (1 ≤ c.cap ∧ c.cap ≤ 64 ∧ 0 ≤ c.fin ∧ c.fin ≤ 1152921504606846976) := by omega
      simp only [qe0, h1, h2, h3, h4, k1, k3, k4, k5, g1, g2, g3, g4, qb1, qa3, decide_false, Bool.and_false, qm, Ev.exec, qb, qe, qc, qag, Ev.Opnd.ev, Ev.Env.get, Ev.Env.set, Ev.look, qn, qh, qab, Ev.AV.cells, qv, Ev.AV.plain, qo, qku, qav, qb5, ql, qx, qae, Ev.kill, qad, qr, Ev.keep, qai, qy, qd, qay, qw, qdk, qj, qk, qah, List.length_map, ↓qq, ↓qak, ↓reduceIte, List.length_cons, List.length_nil, zfe, List.drop_succ_cons, List.drop_zero, List.head?_cons, Nat.reduceEqDiff, decide_true, decide_false, zfc, zfa, and_self, ne_eq, zfb, zff, zfd, eq_self, Bool.and_false, and_false]
    have : (1 ≤ c.cap ∧ c.cap ≤ 64 ∧ 0 ≤ c.fin ∧ c.fin ≤ 1152921504606846976) := by omega
    simp only [qe0, h1, h2, h3, h4, k1, k3, k4, k5, g1, g2, g3, g4, qb1, qa3, and_self, decide_true, qm, Ev.exec, qb, qe, qc, qag, Ev.Opnd.ev, Ev.Env.get, Ev.Env.set, Ev.look, qn, qh, qab, Ev.AV.cells, qv, Ev.AV.plain, qo, qku, qav, qb5, ql, qx, qae, Ev.kill, qad, qr, Ev.keep, qai, qy, qd, qay, qw, qdk, qj, qk, qah, List.length_map, ↓qq, ↓qak, ↓reduceIte, List.length_cons, List.length_nil, zfe, List.drop_succ_cons, List.drop_zero, List.head?_cons, Nat.reduceEqDiff, decide_true, decide_false, zfc, zfa, and_self, ne_eq, zfb, zff, zfd, eq_self]
  · simp only [qe0, h1, h2, h3, h4, k1, k3, k4, k5, qb1, qa3, decide_true, Bool.and_false, Bool.false_and, qm, Ev.exec, qb, qe, qc, qag, Ev.Opnd.ev, Ev.Env.get, Ev.Env.set, Ev.look, qn, qh, qab, Ev.AV.cells, qv, Ev.AV.plain, qo, qav, ql, qx, qae, Ev.kill, qad, qr, Ev.keep, qai, qy, qd, qay, qw, qdk, qj, qk, qah, List.length_map, ↓qq, ↓qak, ↓reduceIte, List.length_cons, List.length_nil, zfe, List.drop_succ_cons, List.drop_zero, List.head?_cons, Nat.reduceEqDiff, decide_true, decide_false, zfc, zfa, and_self, ne_eq, zfb, zff, zfd, eq_self, Bool.false_and, Bool.and_false]
def que (c : Cfg) (p : List OpI) : Int := qne p c.progs.length c.lps.length c.look
def qj4 (c : Cfg) (s : Start) : Int := if s.prog < 0 ∨ s.prog ≥ c.progs.length then 22 else if s.time < 0 ∨ s.time > 1152921504606846976 then 11 else 0
def rlpZ (c : Cfg) (l : List Start) : Int := qq6 (qj4 c) l
def q7r (c : Cfg) : Int := if qr7 c = false then 1 else if c.look < 1 then 20 else if qq6 (que c) c.progs ≠ 0 then qq6 (que c) c.progs else qq6 (rlpZ c) c.lps
theorem qabb (hl : c.progs.length ≤ 8) :
    ∃ y, itB (exec (evL T) itL none qjg) (qr [1, 3] true 0) ⟨[(1, (.fptr [(.fsl ((c.lps).map lpC) false), (.fsl ((c.progs).map qbm) false), (ii c.look), (ii c.fin), (ii c.cap)])), (3, (ii 0))], []⟩ [] = some y ∧ (c.progs.all (fun p => decide (que c p = 0)) = true ∧ (y.1 = .exit 0 ∧ y.2.1.marks = [] ∧ y.2.2 = [] ∧ Ev.look y.2.1.vars 1 = some (.fptr [(.fsl ((c.lps).map lpC) false), (.fsl ((c.progs).map qbm) false), (ii c.look), (ii c.fin), (ii c.cap)])) ∨
      c.progs.all (fun p => decide (que c p = 0)) = false ∧ ∃ x, c.progs.find? (fun p => !decide (que c p = 0)) = some x ∧ (y.1 = .ret ∧ y.2.1.marks = [] ∧ y.2.2 = [] ∧ Ev.look y.2.1.vars 2 = some (ii (que c x)))) := by
  refine qfd c.progs (fun i => ⟨[(1, (.fptr [(.fsl ((c.lps).map lpC) false), (.fsl ((c.progs).map qbm) false), (ii c.look), (ii c.fin), (ii c.cap)])), (3, (ii i))], []⟩) [] (fun p => decide (que c p = 0)) _ (fun x y => _) ?_ ?_ ?_
  · intro i x hi hx hp
    have hi' : (i : Int) < (c.progs.length : Int) := by omega
    have hw : IntKind.i64.wrap ((i : Int) + 1) = ((i + 1 : Nat) : Int) := by rw [qao (by omega) (by omega)]; simp
    have hv := qt9 x false c.progs.length c.lps.length c.look
    rw [show qne x c.progs.length c.lps.length c.look = 0 from of_decide_eq_true hp] at hv
    simp only [qjg, Int.natCast_nonneg, Int.toNat_natCast, List.getElem?_map, Option.map_some, hx, hi', hw, hv, qb1, qa3, qgm, qbm, Ev.exec, qb, qe, qc, qaw, qag, Ev.evs, Ev.Opnd.ev, Ev.Env.get, Ev.Env.set, Ev.look, qh, qab, qaj, qax, qo, qr, Ev.keep, qai, qy, qd, qay, qw, qdk, qj, qk, List.length_map, ↓qq, Ev.it1, ↓reduceIte, List.length_cons, List.length_nil, zfe, List.drop_succ_cons, List.drop_zero, List.head?_cons, Nat.reduceEqDiff, decide_true, decide_false, zfc, zfa, and_self, ne_eq, not_true_eq_false, zfd, eq_self]
  · intro i x hi hx hp
    have hi' : (i : Int) < (c.progs.length : Int) := by omega
    have hv := qt9 x false c.progs.length c.lps.length c.look
    have hz : ¬ qne x c.progs.length c.lps.length c.look = 0 := of_decide_eq_false hp
    simp only [qjg, Int.natCast_nonneg, Int.toNat_natCast, List.getElem?_map, Option.map_some, hx, hi', hv, hz, qgm, qbm, Ev.exec, qb, qe, qc, qaw, qag, Ev.evs, Ev.Opnd.ev, Ev.Env.get, Ev.Env.set, Ev.look, qh, qab, qax, qo, qay, qw, qj, qk, List.length_map, ↓qq, Ev.it1, ↓reduceIte, List.length_cons, List.length_nil, List.drop_succ_cons, List.drop_zero, List.head?_cons, Nat.reduceEqDiff, decide_true, zfc, zfa, ne_eq, zfb, zfd, eq_self]
    exact ⟨_, rfl, rfl, rfl, rfl, rfl⟩
  · simp only [qjg, Int.lt_irrefl, Ev.exec, qb, qe, qc, qag, Ev.Opnd.ev, Ev.Env.get, Ev.Env.set, Ev.look, qh, qab, qo, List.length_map, ↓qq, Ev.it1, ↓reduceIte, List.drop_succ_cons, List.drop_zero, List.head?_cons, Nat.reduceEqDiff, decide_false, zfa, eq_self]
    exact ⟨_, rfl, rfl, rfl, rfl, rfl⟩
theorem q5z (i : Nat) (l : List Start) (hx : c.lps[i]? = some l) (hl : l.length ≤ 8) :
    ∃ y, itB (exec (evL T) itL none qfs) (qr [1, 5, 6] true 0) ⟨[(1, (.fptr [(.fsl ((c.lps).map lpC) false), (.fsl ((c.progs).map qbm) false), (ii c.look), (ii c.fin), (ii c.cap)])), (5, (ii i)), (6, (ii 0))], []⟩ [] = some y ∧ (l.all (fun s => decide (qj4 c s = 0)) = true ∧ (y.1 = .exit 4 ∧ y.2.1.marks = [] ∧ y.2.2 = [] ∧ Ev.look y.2.1.vars 1 = some (.fptr [(.fsl ((c.lps).map lpC) false), (.fsl ((c.progs).map qbm) false), (ii c.look), (ii c.fin), (ii c.cap)]) ∧ Ev.look y.2.1.vars 5 = some (ii i)) ∨
      l.all (fun s => decide (qj4 c s = 0)) = false ∧ ∃ x, l.find? (fun s => !decide (qj4 c s = 0)) = some x ∧ (y.1 = .ret ∧ y.2.1.marks = [] ∧ y.2.2 = [.row 2 [x.r] 0] ∧ Ev.look y.2.1.vars 2 = some (ii (qj4 c x)))) := by
  refine qfd l (fun k => ⟨[(1, (.fptr [(.fsl ((c.lps).map lpC) false), (.fsl ((c.progs).map qbm) false), (ii c.look), (ii c.fin), (ii c.cap)])), (5, (ii i)), (6, (ii k))], []⟩) [] (fun s => decide (qj4 c s = 0)) _ (fun x y => _) ?_ ?_ ?_
  · intro k s hk hs hp
    have hk' : (k : Int) < (l.length : Int) := by omega
    have hw : IntKind.i64.wrap ((k : Int) + 1) = ((k + 1 : Nat) : Int) := by rw [qao (by omega) (by omega)]; simp
    have hz : qj4 c s = 0 := of_decide_eq_true hp
    unfold qj4 at hz
    by_cases g1 : s.prog < 0
    · rw [if_pos (.inl g1)] at hz; cases hz
    by_cases g2 : s.prog ≥ (c.progs.length : Int)
    · rw [if_pos (.inr g2)] at hz; cases hz
    by_cases g3 : s.time < 0
    · rw [if_neg (by omega), if_pos (.inl g3)] at hz; cases hz
    by_cases g4 : s.time > 1152921504606846976
    · rw [if_neg (by omega), if_pos (.inr g4)] at hz; cases hz
    simp only [qfs, Int.natCast_nonneg, Int.toNat_natCast, List.getElem?_map, Option.map_some, hx, hs, hk', hw, g1, g2, g3, g4, qb1, qa3, lpC, Start.r, Ev.exec, qb, qe, qc, qag, Ev.Opnd.ev, Ev.Env.get, Ev.Env.set, Ev.look, qh, qab, Ev.AV.cells, qv, Ev.AV.plain, qaj, qo, qav, qb5, qr, Ev.keep, qai, qy, qd, qay, qw, qdk, qj, qk, List.length_map, ↓qq, Ev.it1, ↓reduceIte, List.length_cons, List.length_nil, List.getElem?_cons_zero, List.take_succ_cons, List.take_zero, zfe, List.drop_succ_cons, List.drop_zero, List.drop_nil, List.nil_append, List.append_nil, List.set_cons_zero, List.head?_cons, Nat.reduceAdd, Nat.reduceEqDiff, decide_true, decide_false, zfc, zfa, and_self, ne_eq, zfb, zff, zfd, Nat.add_zero, Nat.le_refl, eq_self]
  · intro k s hk hs hp
    have hk' : (k : Int) < (l.length : Int) := by omega
    have hz : ¬ qj4 c s = 0 := of_decide_eq_false hp
    unfold qj4 at hz ⊢
    by_cases g1 : s.prog < 0
    · rw [if_pos (.inl g1)]
      simp only [qfs, Int.natCast_nonneg, Int.toNat_natCast, List.getElem?_map, Option.map_some, hx, hs, hk', g1, lpC, Start.r, Ev.exec, qb, qe, qc, qag, Ev.Opnd.ev, Ev.Env.get, Ev.Env.set, Ev.Env.unset, Ev.look, qh, qab, Ev.AV.cells, qv, Ev.AV.plain, qo, List.length_map, ↓qq, Ev.it1, ↓reduceIte, List.length_cons, List.length_nil, List.getElem?_cons_zero, List.take_succ_cons, List.take_zero, zfe, List.drop_succ_cons, List.drop_zero, List.drop_nil, List.nil_append, List.append_nil, List.set_cons_zero, List.head?_cons, Nat.reduceAdd, Nat.reduceEqDiff, decide_true, zfc, zfa, Bool.true_eq_false, and_self, ne_eq, zfb, zff, zfd, Nat.add_zero, Nat.le_refl, eq_self]
      exact ⟨_, rfl, rfl, rfl, rfl, rfl⟩
    by_cases g2 : s.prog ≥ (c.progs.length : Int)
    · rw [if_pos (.inr g2)]
      simp only [qfs, Int.natCast_nonneg, Int.toNat_natCast, List.getElem?_map, Option.map_some, hx, hs, hk', g1, g2, lpC, Start.r, Ev.exec, qb, qe, qc, qag, Ev.Opnd.ev, Ev.Env.get, Ev.Env.set, Ev.look, qh, qab, Ev.AV.cells, qv, Ev.AV.plain, qo, qb5, List.length_map, ↓qq, Ev.it1, ↓reduceIte, List.length_cons, List.length_nil, List.getElem?_cons_zero, List.take_succ_cons, List.take_zero, zfe, List.drop_succ_cons, List.drop_zero, List.drop_nil, List.nil_append, List.append_nil, List.set_cons_zero, List.head?_cons, Nat.reduceAdd, Nat.reduceEqDiff, decide_true, decide_false, zfc, zfa, and_self, ne_eq, zfb, zff, zfd, Nat.add_zero, Nat.le_refl, eq_self]
      exact ⟨_, rfl, rfl, rfl, rfl, rfl⟩
    rw [if_neg (by omega)] at hz ⊢
    by_cases g3 : s.time < 0
    · rw [if_pos (.inl g3)]
      simp only [qfs, Int.natCast_nonneg, Int.toNat_natCast, List.getElem?_map, Option.map_some, hx, hs, hk', g1, g2, g3, lpC, Start.r, Ev.exec, qb, qe, qc, qag, Ev.Opnd.ev, Ev.Env.get, Ev.Env.set, Ev.Env.unset, Ev.look, qh, qab, Ev.AV.cells, qv, Ev.AV.plain, qo, qb5, List.length_map, ↓qq, Ev.it1, ↓reduceIte, List.length_cons, List.length_nil, List.getElem?_cons_zero, List.take_succ_cons, List.take_zero, zfe, List.drop_succ_cons, List.drop_zero, List.drop_nil, List.nil_append, List.append_nil, List.set_cons_zero, List.head?_cons, Nat.reduceAdd, Nat.reduceEqDiff, decide_true, decide_false, zfc, zfa, Bool.true_eq_false, and_self, ne_eq, zfb, zff, zfd, Nat.add_zero, Nat.le_refl, eq_self]
      exact ⟨_, rfl, rfl, rfl, rfl, rfl⟩
    by_cases g4 : s.time > 1152921504606846976
    · rw [if_pos (.inr g4)]
      simp only [qfs, Int.natCast_nonneg, Int.toNat_natCast, List.getElem?_map, Option.map_some, hx, hs, hk', g1, g2, g3, g4, lpC, Start.r, Ev.exec, qb, qe, qc, qag, Ev.Opnd.ev, Ev.Env.get, Ev.Env.set, Ev.look, qh, qab, Ev.AV.cells, qv, Ev.AV.plain, qo, qav, qb5, List.length_map, ↓qq, Ev.it1, ↓reduceIte, List.length_cons, List.length_nil, List.getElem?_cons_zero, List.take_succ_cons, List.take_zero, zfe, List.drop_succ_cons, List.drop_zero, List.drop_nil, List.nil_append, List.append_nil, List.set_cons_zero, List.head?_cons, Nat.reduceAdd, Nat.reduceEqDiff, decide_true, decide_false, zfc, zfa, and_self, ne_eq, zfb, zff, zfd, Nat.add_zero, Nat.le_refl, eq_self]
      exact ⟨_, rfl, rfl, rfl, rfl, rfl⟩
    · exact absurd (by rw [if_neg (by omega)]) hz
  · simp only [qfs, Int.natCast_nonneg, Int.toNat_natCast, List.getElem?_map, Option.map_some, hx, Int.lt_irrefl, lpC, Ev.exec, qb, qe, qc, qag, Ev.Opnd.ev, Ev.Env.get, Ev.Env.set, Ev.look, qh, qab, qo, List.length_map, ↓qq, Ev.it1, ↓reduceIte, List.length_cons, List.length_nil, List.drop_zero, List.head?_cons, Nat.reduceEqDiff, decide_false, zfa, zfd, eq_self]
    exact ⟨_, rfl, rfl, rfl, rfl, rfl, rfl⟩
theorem qaae (hl : c.lps.length ≤ 8) (hll : ∀ l ∈ c.lps, l.length ≤ 8) :
    ∃ y, itB (exec (evL T) itL none qjh) (qr [1, 5] true 0) ⟨[(1, (.fptr [(.fsl ((c.lps).map lpC) false), (.fsl ((c.progs).map qbm) false), (ii c.look), (ii c.fin), (ii c.cap)])), (5, (ii 0))], []⟩ [] = some y ∧ (c.lps.all (fun l => decide (rlpZ c l = 0)) = true ∧ (y.1 = .exit 2 ∧ y.2.1.marks = [] ∧ y.2.2 = []) ∨
      c.lps.all (fun l => decide (rlpZ c l = 0)) = false ∧ ∃ x, c.lps.find? (fun l => !decide (rlpZ c l = 0)) = some x ∧ (y.1 = .ret ∧ y.2.1.marks = [] ∧ (∃ s : Start, y.2.2 = [.row 2 [s.r] 0]) ∧ Ev.look y.2.1.vars 2 = some (ii (rlpZ c x)))) := by
  refine qfd c.lps (fun i => ⟨[(1, (.fptr [(.fsl ((c.lps).map lpC) false), (.fsl ((c.progs).map qbm) false), (ii c.look), (ii c.fin), (ii c.cap)])), (5, (ii i))], []⟩) [] (fun l => decide (rlpZ c l = 0)) _ (fun x y => _) ?_ ?_ ?_
  · intro i l hi hx hp
    have hi' : (i : Int) < (c.lps.length : Int) := by omega
    have hw : IntKind.i64.wrap ((i : Int) + 1) = ((i + 1 : Nat) : Int) := by rw [qao (by omega) (by omega)]; simp
    have hz : rlpZ c l = 0 := of_decide_eq_true hp
    obtain ⟨⟨y, e, σ⟩, k1, k2⟩ := q5z c i l hx (hll l (List.mem_of_getElem? hx))
    simp only at k2
    rcases k2 with ⟨k3, rfl, k4, rfl, k5, k6⟩ | ⟨k3, x, k7, rfl, k4, rfl, k5⟩
    · simp only [qjh, hi', hw, k1, k4, k5, k6, qb1, qa3, Ev.exec, qb, qe, qc, qag, Ev.Opnd.ev, Ev.Env.get, Ev.Env.set, Ev.look, qh, qab, qaj, qo, qr, Ev.keep, qai, qy, qd, qay, qw, qdk, qj, qk, List.length_map, ↓qq, ↓qak, Ev.it1, ↓reduceIte, List.length_nil, zfe, List.drop_zero, List.head?_cons, Nat.reduceEqDiff, decide_true, zfc, zfa, and_self, eq_self]
    · have h1 := List.find?_some k7
      have h2 : qj4 c x = 0 := by rw [← qn6 k7]; exact hz
      simp [h2] at h1
  · intro i l hi hx hp
    have hi' : (i : Int) < (c.lps.length : Int) := by omega
    have hz : ¬ rlpZ c l = 0 := of_decide_eq_false hp
    obtain ⟨⟨y, e, σ⟩, k1, k2⟩ := q5z c i l hx (hll l (List.mem_of_getElem? hx))
    simp only at k2
    rcases k2 with ⟨k3, rfl, k4, rfl, k5, k6⟩ | ⟨k3, x, k7, rfl, k4, rfl, k5⟩
    · exact absurd (qtp k3) hz
    · rw [show rlpZ c l = qj4 c x from qn6 k7]
      simp only [qjh, hi', k1, qb1, qa3, Ev.exec, qb, qe, qc, qag, Ev.Opnd.ev, Ev.Env.get, Ev.Env.set, Ev.look, qh, qab, qo, qr, Ev.keep, qai, qy, qd, qay, qw, qdk, qj, qk, List.length_map, ↓qq, ↓qak, Ev.it1, ↓reduceIte, List.length_nil, zfe, List.drop_zero, List.head?_cons, Nat.reduceEqDiff, decide_true, zfc, zfa, and_self, eq_self]
      exact ⟨_, rfl, rfl, k4, ⟨x, rfl⟩, k5⟩
  · simp only [qjh, Int.lt_irrefl, Ev.exec, qb, qe, qc, qag, Ev.Opnd.ev, Ev.Env.get, Ev.Env.set, Ev.look, qh, qab, qo, List.length_map, ↓qq, Ev.it1, ↓reduceIte, List.drop_zero, List.head?_cons, Nat.reduceEqDiff, decide_false, zfa, eq_self]
    exact ⟨_, rfl, rfl, rfl, rfl⟩
theorem qmo : qaz (evL T) qi6 [(.agg [(.fsl ((c.lps).map lpC) false), (.fsl ((c.progs).map qbm) false), (ii c.look), (ii c.fin), (ii c.cap)])] = some (ii (q7r c)) := by
  have hs := q2d c
  unfold q7r
  rw [qaz, qs q13 qyf]
  cases h1 : qr7 c with
  | false =>
    rw [h1] at hs
    simp only [qh7, hs, qb1, qa3, qm, Ev.exec, qb, qe, qc, qaw, qag, Ev.evs, Ev.Opnd.ev, Ev.Env.get, Ev.Env.set, Ev.look, qn, qh, qab, Ev.AV.cells, qv, Ev.AV.plain, ql, qx, qae, Ev.kill, qad, qd, qay, qbe, qw, qj, qk, qah, ↓qq, ↓reduceIte, List.length_cons, List.length_nil, List.take_succ_cons, zfe, Nat.reduceAdd, Nat.reduceEqDiff, zfc, Bool.not_false, and_self, ne_eq, zfb, zff, zfd, Nat.le_refl, eq_self]
  | true =>
    rw [h1] at hs
    have h2 := h1
    simp only [qr7, Bool.and_eq_true, decide_eq_true_eq, List.all_eq_true] at h2
    obtain ⟨⟨s1, s2, s3⟩, s4, s5⟩ := h2
    have s6 : ∀ l ∈ c.lps, l.length ≤ 8 := fun l hl => by have := s4 l hl; simp [len8] at this; omega
    simp only [Bool.true_eq_false, if_false]
    by_cases hk : c.look < 1
    · simp only [qh7, hs, hk, qb1, qa3, qm, Ev.exec, qb, qe, qc, qaw, qag, Ev.evs, Ev.Opnd.ev, Ev.Env.get, Ev.Env.set, Ev.look, qn, qh, qab, Ev.AV.cells, qv, Ev.AV.plain, qo, ql, qx, qae, Ev.kill, qad, qd, qay, qbe, qw, qj, qk, qah, ↓qq, ↓reduceIte, List.length_cons, List.length_nil, List.take_succ_cons, zfe, List.drop_succ_cons, List.drop_zero, List.head?_cons, Nat.reduceAdd, Nat.reduceEqDiff, decide_true, zfc, Bool.not_true, zfa, and_self, ne_eq, zfb, zff, zfd, Nat.le_refl, eq_self]
    rw [if_neg hk]
    obtain ⟨⟨y, e, σ⟩, k1, k2⟩ := qabb c s3
    obtain ⟨⟨y', e', σ'⟩, m1, m2⟩ := qaae c s2 s6
    simp only at k2 m2
    rcases k2 with ⟨k3, rfl, k4, rfl, k5⟩ | ⟨k3, x, k7, rfl, k4, rfl, k5⟩
    · rw [qtp k3, if_neg (by simp)]
      rcases m2 with ⟨m3, rfl, m4, rfl⟩ | ⟨m3, x, m7, rfl, m4, ⟨s, rfl⟩, m5⟩
      · rw [qtp m3]
        simp only [qh7, hs, hk, k1, k4, k5, m1, m4, qb1, qa3, qm, Ev.exec, qb, qe, qc, qaw, qag, Ev.evs, Ev.Opnd.ev, Ev.Env.get, Ev.Env.set, Ev.look, qn, qh, qab, Ev.AV.cells, qv, Ev.AV.plain, qo, ql, qx, qae, Ev.kill, qad, qr, Ev.keep, qai, qy, qd, qay, qbe, qw, qdk, qj, qk, qah, ↓qq, ↓qak, ↓reduceIte, List.length_cons, List.length_nil, List.take_succ_cons, zfe, List.drop_succ_cons, List.drop_zero, List.head?_cons, Nat.reduceAdd, Nat.reduceEqDiff, decide_false, zfc, Bool.not_true, zfa, and_self, ne_eq, zfb, zff, zfd, Nat.le_refl, eq_self]
      · rw [qn6 m7]
        simp only [qh7, hs, hk, k1, k4, k5, m1, m4, m5, qb1, qa3, qm, Ev.exec, qb, qe, qc, qaw, qag, Ev.evs, Ev.Opnd.ev, Ev.Env.get, Ev.Env.set, Ev.look, qn, qh, qab, Ev.AV.cells, qv, Ev.AV.plain, qo, ql, qx, qae, Ev.kill, qad, qr, Ev.keep, qai, qy, qd, qay, qbe, qw, qdk, qj, qk, qah, ↓qq, ↓qak, ↓reduceIte, List.length_cons, List.length_nil, List.take_succ_cons, List.take_zero, zfe, List.drop_succ_cons, List.drop_zero, List.head?_cons, Nat.reduceAdd, Nat.reduceEqDiff, decide_false, zfc, Bool.not_true, zfa, and_self, ne_eq, zfb, zff, zfd, Nat.le_refl, eq_self]
    · have hz := List.find?_some k7
      have hz' : ¬ que c x = 0 := by simpa using hz
      rw [qn6 k7, if_pos hz']
      simp only [qh7, hs, hk, k1, k4, k5, qb1, qa3, qm, Ev.exec, qb, qe, qc, qaw, qag, Ev.evs, Ev.Opnd.ev, Ev.Env.get, Ev.Env.set, Ev.look, qn, qh, qab, Ev.AV.cells, qv, Ev.AV.plain, qo, ql, qx, qae, Ev.kill, qad, qr, Ev.keep, qai, qy, qd, qay, qbe, qw, qdk, qj, qk, qah, ↓qq, ↓qak, ↓reduceIte, List.length_cons, List.length_nil, List.take_succ_cons, zfe, List.drop_succ_cons, List.drop_zero, List.head?_cons, Nat.reduceAdd, Nat.reduceEqDiff, decide_false, zfc, Bool.not_true, zfa, and_self, ne_eq, zfb, zff, zfd, Nat.le_refl, eq_self]
end
end Go.Proofs.YthkjkdbjgpeigaaGreat.K
