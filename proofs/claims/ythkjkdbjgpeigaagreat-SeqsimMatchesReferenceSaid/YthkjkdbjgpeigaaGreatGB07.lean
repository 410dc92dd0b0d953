/- For every input the statement of this claim returns true: texts of its proof, joined (part 8). -/
import Derived.Test.YthkjkdbjgpeigaaGreatEB3
import Derived.Test.YthkjkdbjgpeigaaGreatGB06
set_option linter.unusedSectionVars false
set_option linter.unusedSimpArgs false
set_option linter.unusedVariables false
namespace Go.Proofs.YthkjkdbjgpeigaaGreat.K
open Go.Ev
set_option maxRecDepth 10000
section
variable (c : Cfg)
def l12 (l : List Start) : Bool := !decide ((l.length : Int) > 12)
def l30 (p : List OpI) : Bool := !decide ((p.length : Int) > 30)
def quc (c : Cfg) : Bool := decide ((c.lps.length : Int) > 12) || (decide ((c.progs.length : Int) > 12) || (!(c.lps.all l12) || !(c.progs.all l30)))
theorem great_l1 (hl : c.lps.length ≤ 12) :
    ∃ y, itB (exec (evL T) itL none qjm) (qr [1, 3] true 0) ⟨[(1, (.fptr [(.fsl ((c.lps).map lpC) false), (.fsl ((c.progs).map qbm) false), (ii c.look), (ii c.fin), (ii c.cap)])), (3, (ii 0))], []⟩ [] = some y ∧ (c.lps.all l12 = true ∧ (y.1 = .exit 0 ∧ y.2.1.marks = [] ∧ y.2.2 = [] ∧ Ev.look y.2.1.vars 1 = some (.fptr [(.fsl ((c.lps).map lpC) false), (.fsl ((c.progs).map qbm) false), (ii c.look), (ii c.fin), (ii c.cap)])) ∨
      c.lps.all l12 = false ∧ ∃ x, c.lps.find? (fun x => !l12 x) = some x ∧ (y.1 = .ret ∧ y.2.1.marks = [] ∧ y.2.2 = [] ∧ Ev.look y.2.1.vars 2 = some (bb true))) := by
  refine qfd c.lps (fun i => ⟨[(1, (.fptr [(.fsl ((c.lps).map lpC) false), (.fsl ((c.progs).map qbm) false), (ii c.look), (ii c.fin), (ii c.cap)])), (3, (ii i))], []⟩) [] l12 _ (fun _ y => _) ?_ ?_ ?_
  · intro i x hi hx hp
    have hi' : (i : Int) < (c.lps.length : Int) := by omega
    have hw : IntKind.i64.wrap ((i : Int) + 1) = ((i + 1 : Nat) : Int) := by rw [qao (by omega) (by omega)]; simp
    have h1 : ¬ (x.length : Int) > 12 := by simpa [l12] using hp
    simp only [qjm, Int.natCast_nonneg, Int.toNat_natCast, List.getElem?_map, Option.map_some, hx, hi', hw, h1, qb1, qa3, lpC, Ev.exec, qb, qe, qc, qag, Ev.Opnd.ev, Ev.Env.get, Ev.Env.set, Ev.look, qh, qab, qaj, qo, qav, qr, Ev.keep, qai, qy, qd, qay, qw, qdk, qj, qk, List.length_map, ↓qq, Ev.it1, ↓reduceIte, List.length_cons, List.length_nil, zfe, List.drop_zero, List.head?_cons, Nat.reduceEqDiff, decide_true, decide_false, zfc, zfa, and_self, zfd, eq_self]
  · intro i x hi hx hp
    have hi' : (i : Int) < (c.lps.length : Int) := by omega
    have h1 : (x.length : Int) > 12 := by simpa [l12] using hp
    simp only [qjm, Int.natCast_nonneg, Int.toNat_natCast, List.getElem?_map, Option.map_some, hx, hi', h1, lpC, Ev.exec, qb, qe, qc, qag, Ev.Opnd.ev, Ev.Env.get, Ev.Env.set, Ev.look, qh, qab, qo, qav, List.length_map, ↓qq, Ev.it1, ↓reduceIte, List.length_cons, List.length_nil, List.drop_zero, List.head?_cons, Nat.reduceEqDiff, decide_true, zfa, zfd, eq_self]
    exact ⟨_, rfl, rfl, rfl, rfl, rfl⟩
  · simp only [qjm, Int.lt_irrefl, Ev.exec, qb, qe, qc, qag, Ev.Opnd.ev, Ev.Env.get, Ev.Env.set, Ev.look, qh, qab, qo, List.length_map, ↓qq, Ev.it1, ↓reduceIte, List.drop_zero, List.head?_cons, Nat.reduceEqDiff, decide_false, zfa, eq_self]
    exact ⟨_, rfl, rfl, rfl, rfl, rfl⟩
theorem great_l2 (hl : c.progs.length ≤ 12) :
    ∃ y, itB (exec (evL T) itL none qji) (qr [1, 4] true 0) ⟨[(1, (.fptr [(.fsl ((c.lps).map lpC) false), (.fsl ((c.progs).map qbm) false), (ii c.look), (ii c.fin), (ii c.cap)])), (4, (ii 0))], []⟩ [] = some y ∧ (c.progs.all l30 = true ∧ (y.1 = .exit 2 ∧ y.2.1.marks = [] ∧ y.2.2 = []) ∨
      c.progs.all l30 = false ∧ ∃ x, c.progs.find? (fun x => !l30 x) = some x ∧ (y.1 = .ret ∧ y.2.1.marks = [] ∧ y.2.2 = [] ∧ Ev.look y.2.1.vars 2 = some (bb true))) := by
  refine qfd c.progs (fun i => ⟨[(1, (.fptr [(.fsl ((c.lps).map lpC) false), (.fsl ((c.progs).map qbm) false), (ii c.look), (ii c.fin), (ii c.cap)])), (4, (ii i))], []⟩) [] l30 _ (fun _ y => _) ?_ ?_ ?_
  · intro i x hi hx hp
    have hi' : (i : Int) < (c.progs.length : Int) := by omega
    have hw : IntKind.i64.wrap ((i : Int) + 1) = ((i + 1 : Nat) : Int) := by rw [qao (by omega) (by omega)]; simp
    have h1 : ¬ (x.length : Int) > 30 := by simpa [l30] using hp
    simp only [qji, Int.natCast_nonneg, Int.toNat_natCast, List.getElem?_map, Option.map_some, hx, hi', hw, h1, qb1, qa3, qbm, Ev.exec, qb, qe, qc, qag, Ev.Opnd.ev, Ev.Env.get, Ev.Env.set, Ev.look, qh, qab, qaj, qo, qav, qr, Ev.keep, qai, qy, qd, qay, qw, qdk, qj, qk, List.length_map, ↓qq, Ev.it1, ↓reduceIte, List.length_cons, List.length_nil, zfe, List.drop_succ_cons, List.drop_zero, List.head?_cons, Nat.reduceEqDiff, decide_true, decide_false, zfc, zfa, and_self, zfd, eq_self]
  · intro i x hi hx hp
    have hi' : (i : Int) < (c.progs.length : Int) := by omega
    have h1 : (x.length : Int) > 30 := by simpa [l30] using hp
    simp only [qji, Int.natCast_nonneg, Int.toNat_natCast, List.getElem?_map, Option.map_some, hx, hi', h1, qbm, Ev.exec, qb, qe, qc, qag, Ev.Opnd.ev, Ev.Env.get, Ev.Env.set, Ev.look, qh, qab, qo, qav, List.length_map, ↓qq, Ev.it1, ↓reduceIte, List.length_cons, List.length_nil, List.drop_succ_cons, List.drop_zero, List.head?_cons, Nat.reduceEqDiff, decide_true, zfa, zfd, eq_self]
    exact ⟨_, rfl, rfl, rfl, rfl, rfl⟩
  · simp only [qji, Int.lt_irrefl, Ev.exec, qb, qe, qc, qag, Ev.Opnd.ev, Ev.Env.get, Ev.Env.set, Ev.look, qh, qab, qo, List.length_map, ↓qq, Ev.it1, ↓reduceIte, List.drop_succ_cons, List.drop_zero, List.head?_cons, Nat.reduceEqDiff, decide_false, zfa, eq_self]
    exact ⟨_, rfl, rfl, rfl, rfl⟩
theorem q2z : qaz (evL T) qko [(.agg [(.fsl ((c.lps).map lpC) false), (.fsl ((c.progs).map qbm) false), (ii c.look), (ii c.fin), (ii c.cap)])] = some (bb (quc c)) := by
  rw [qaz, qs q1i qyk]
  by_cases h1 : (c.lps.length : Int) > 12
  · simp only [qhs, quc, h1, qm, Ev.exec, qb, qe, qc, qag, Ev.Opnd.ev, Ev.Env.get, Ev.Env.set, Ev.Env.unset, Ev.look, qn, qh, qab, Ev.AV.cells, qv, Ev.AV.plain, qav, ql, qx, qae, Ev.kill, qad, qd, qay, qah, List.length_map, ↓qq, ↓reduceIte, List.length_cons, List.length_nil, zfe, List.drop_zero, List.head?_cons, Nat.reduceEqDiff, decide_true, zfc, Bool.true_or, zfa, Bool.true_eq_false, and_self, ne_eq, zfb, zff, zfd, eq_self]
  by_cases h2 : (c.progs.length : Int) > 12
  · simp only [qhs, quc, h1, h2, qm, Ev.exec, qb, qe, qc, qag, Ev.Opnd.ev, Ev.Env.get, Ev.Env.set, Ev.look, qn, qh, qab, Ev.AV.cells, qv, Ev.AV.plain, qav, ql, qx, qae, Ev.kill, qad, qd, qay, qah, List.length_map, ↓qq, ↓reduceIte, List.length_cons, List.length_nil, zfe, List.drop_succ_cons, List.drop_zero, List.head?_cons, Nat.reduceEqDiff, decide_true, decide_false, zfc, Bool.true_or, Bool.or_true, zfa, and_self, ne_eq, zfb, zff, zfd, eq_self]
  obtain ⟨⟨y, e, σ⟩, k1, k2⟩ := great_l1 c (by omega)
  obtain ⟨⟨y', e', σ'⟩, m1, m2⟩ := great_l2 c (by omega)
  simp only at k2 m2
  rcases k2 with ⟨k3, rfl, k4, rfl, k5⟩ | ⟨k3, x, _, rfl, k4, rfl, k5⟩
  · rcases m2 with ⟨m3, rfl, m4, rfl⟩ | ⟨m3, x, _, rfl, m4, rfl, m5⟩
    · simp only [qhs, quc, h1, h2, k1, k3, k4, k5, m1, m3, m4, qb1, qa3, Bool.or_self, qm, Ev.exec, qb, qe, qc, qag, Ev.Opnd.ev, Ev.Env.get, Ev.Env.set, Ev.look, qn, qh, qab, Ev.AV.cells, qv, Ev.AV.plain, qav, ql, qx, qae, Ev.kill, qad, qr, Ev.keep, qai, qy, qd, qay, qw, qdk, qj, qk, qah, List.length_map, ↓qq, ↓qak, ↓reduceIte, List.length_cons, List.length_nil, zfe, List.drop_succ_cons, List.drop_zero, List.head?_cons, Nat.reduceEqDiff, decide_false, zfc, Bool.not_true, zfa, and_self, ne_eq, zfb, zff, zfd, eq_self]
    · simp only [qhs, quc, h1, h2, k1, k3, k4, k5, m1, m3, m4, m5, qb1, qa3, Bool.or_true, qm, Ev.exec, qb, qe, qc, qag, Ev.Opnd.ev, Ev.Env.get, Ev.Env.set, Ev.look, qn, qh, qab, Ev.AV.cells, qv, Ev.AV.plain, qav, ql, qx, qae, Ev.kill, qad, qr, Ev.keep, qai, qy, qd, qay, qw, qdk, qj, qk, qah, List.length_map, ↓qq, ↓qak, ↓reduceIte, List.length_cons, List.length_nil, zfe, List.drop_succ_cons, List.drop_zero, List.head?_cons, Nat.reduceEqDiff, decide_false, zfc, Bool.or_true, Bool.not_true, Bool.not_false, zfa, and_self, ne_eq, zfb, zff, zfd, eq_self]
  · simp only [qhs, quc, h1, h2, k1, k3, k4, k5, qb1, qa3, Bool.or_true, Bool.true_or, qm, Ev.exec, qb, qe, qc, qag, Ev.Opnd.ev, Ev.Env.get, Ev.Env.set, Ev.look, qn, qh, qab, Ev.AV.cells, qv, Ev.AV.plain, qav, ql, qx, qae, Ev.kill, qad, qr, Ev.keep, qai, qy, qd, qay, qw, qdk, qj, qk, qah, List.length_map, ↓qq, ↓qak, ↓reduceIte, List.length_cons, List.length_nil, zfe, List.drop_succ_cons, List.drop_zero, List.head?_cons, Nat.reduceEqDiff, decide_false, zfc, Bool.true_or, Bool.or_true, Bool.not_false, zfa, and_self, ne_eq, zfb, zff, zfd, eq_self]
theorem q67 (h : quc c = false) : c.lps.length ≤ 12 ∧ c.progs.length ≤ 12 ∧ (∀ l ∈ c.lps, l.length ≤ 12) ∧ ∀ p ∈ c.progs, p.length ≤ 30 := by
  simp only [quc, Bool.or_eq_false_iff, decide_eq_false_iff_not, Bool.not_eq_false', List.all_eq_true] at h
  obtain ⟨h1, h2, h3, h4⟩ := h
  exact ⟨by omega, by omega, fun l hl => by have := h3 l hl; simp [l12] at this; omega, fun p hp => by have := h4 p hp; simp [l30] at this; omega⟩
def okB (c : Cfg) : Bool := !quc c && decide (q7r c = 0)
end
structure OpFull (c : Cfg) (p : List OpI) (op : OpI) : Prop where
  code : 1 ≤ op.code ∧ op.code ≤ 8
  hold : op.code = 1 → 1 ≤ op.a ∧ op.a ≤ 1099511627776
  send : op.code = 2 → 0 ≤ op.a ∧ op.a < c.lps.length ∧ 1 ≤ op.c ∧ op.c ≤ 1099511627776 ∧ c.look ≤ op.c
  timer : op.code = 3 → 1 ≤ op.a ∧ op.a ≤ 1099511627776 ∧ 0 ≤ op.b ∧ op.b < p.length
  spawn : op.code = 5 → 0 ≤ op.a ∧ op.a < c.progs.length ∧ 1 ≤ op.b ∧ op.b ≤ 1099511627776
  reg : op.code = 6 ∨ op.code = 7 → op.a = 0 ∨ op.a = 1
  to : op.code = 7 → 0 ≤ op.c ∧ op.c < p.length
theorem q5l {p : List OpI} {ps lps look : Int} (h : qne p ps lps look = 0) : qsc p = true ∧ p.all (fun x => qvc x p.length ps) = true ∧ p.all (q7m lps) = true ∧ p.all (qo2 look) = true := by
  unfold qne at h
  cases h1 : qsc p with
  | false => rw [if_pos h1] at h; cases h
  | true =>
    rw [if_neg (by simp [h1])] at h
    cases h2 : p.all (fun x => qvc x p.length ps) with
    | false => rw [if_pos h2] at h; cases h
    | true =>
      rw [if_neg (by simp [h2])] at h
      cases h3 : p.all (q7m lps) with
      | false => rw [if_pos h3] at h; cases h
      | true =>
        rw [if_neg (by simp [h3])] at h
        cases h4 : p.all (qo2 look) with
        | false => rw [if_pos h4] at h; cases h
        | true => exact ⟨rfl, rfl, rfl, rfl⟩
theorem qtr {n : Int} : qsa n = true ↔ 1 ≤ n ∧ n ≤ 1099511627776 := by simp [qsa]
structure Valid (c : Cfg) : Prop where
  lps : 1 ≤ c.lps.length ∧ c.lps.length ≤ 8
  progs : c.progs.length ≤ 8
  lp : ∀ l ∈ c.lps, l.length ≤ 8
  cap : 1 ≤ c.cap ∧ c.cap ≤ 64
  fin : 0 ≤ c.fin ∧ c.fin ≤ 1152921504606846976
  look : 1 ≤ c.look
  prog : ∀ p ∈ c.progs, 1 ≤ p.length ∧ p.length ≤ 16 ∧ ∀ op ∈ p, OpFull c p op
  start : ∀ l ∈ c.lps, ∀ s ∈ l, 0 ≤ s.prog ∧ s.prog < c.progs.length ∧ 0 ≤ s.time ∧ s.time ≤ 1152921504606846976
theorem qaay {c : Cfg} {p : List OpI} (h : qne p c.progs.length c.lps.length c.look = 0) : 1 ≤ p.length ∧ p.length ≤ 16 ∧ ∀ op ∈ p, OpFull c p op := by
  obtain ⟨h1, h2, h3, h4⟩ := q5l h
  simp only [qsc, Bool.and_eq_true, decide_eq_true_eq, List.all_eq_true] at h1 h2 h3 h4
  obtain ⟨⟨h5, h6⟩, h7⟩ := h1
  refine ⟨h5, h6, fun op ho => ?_⟩
  have g1 := h7 op ho
  have g2 := h2 op ho
  have g3 := h3 op ho
  have g4 := h4 op ho
  simp only [qyx, Bool.and_eq_true, decide_eq_true_eq] at g1
  simp only [q7m, qo2, Bool.not_eq_true', Bool.and_eq_false_iff, decide_eq_false_iff_not] at g3 g4
  unfold qvc at g2
  refine ⟨⟨by omega, by omega⟩, ?_, ?_, ?_, ?_, ?_, ?_⟩
  · intro k; rw [if_pos k] at g2
    simp only [Bool.and_eq_true, qtr, decide_eq_true_eq] at g2; exact g2.1
  · intro k
    rw [if_neg (by omega), if_pos k] at g2
    simp only [Bool.and_eq_true, qtr, decide_eq_true_eq] at g2
    refine ⟨g2.1, ?_, g2.2.2.1, g2.2.2.2, ?_⟩
    · rcases g3 with g3 | g3
      · exact absurd k g3
      · omega
    · rcases g4 with g4 | g4
      · exact absurd k g4
      · omega
  · intro k
    rw [if_neg (by omega), if_neg (by omega), if_pos k] at g2
    simp only [Bool.and_eq_true, qtr, decide_eq_true_eq] at g2
    exact ⟨g2.1.1, g2.1.2, g2.2.1, g2.2.2.1⟩
  · intro k
    rw [if_neg (by omega), if_neg (by omega), if_neg (by omega), if_pos k] at g2
    simp only [Bool.and_eq_true, qtr, decide_eq_true_eq] at g2
    exact ⟨g2.1, g2.2.1, g2.2.2.1.1, g2.2.2.1.2⟩
  · rintro (k | k)
    · rw [if_neg (by omega), if_neg (by omega), if_neg (by omega), if_neg (by omega), if_pos k] at g2
      simp only [Bool.and_eq_true, decide_eq_true_eq] at g2
      obtain ⟨q1, q2, _⟩ := g2
      omega
    · rw [if_neg (by omega), if_neg (by omega), if_neg (by omega), if_neg (by omega), if_neg (by omega), if_pos k] at g2
      simp only [Bool.and_eq_true, decide_eq_true_eq] at g2
      obtain ⟨q1, q2, _⟩ := g2
      omega
  · intro k
    rw [if_neg (by omega), if_neg (by omega), if_neg (by omega), if_neg (by omega), if_neg (by omega), if_pos k] at g2
    simp only [Bool.and_eq_true, decide_eq_true_eq] at g2
    exact ⟨g2.2.2.2.1, g2.2.2.2.2⟩
theorem valid_of {c : Cfg} (h : q7r c = 0) : Valid c := by
  unfold q7r at h
  cases h1 : qr7 c with
  | false => rw [if_pos h1] at h; cases h
  | true =>
    rw [if_neg (by simp [h1])] at h
    by_cases h2 : c.look < 1
    · rw [if_pos h2] at h; cases h
    rw [if_neg h2] at h
    by_cases h3 : qq6 (que c) c.progs ≠ 0
    · rw [if_pos h3] at h; exact absurd h h3
    rw [if_neg h3] at h
    have h4 := qum.1 (Decidable.of_not_not h3)
    have h5 := qum.1 h
    simp only [qr7, Bool.and_eq_true, decide_eq_true_eq, List.all_eq_true] at h1
    obtain ⟨⟨s1, s2, s3⟩, s4, s5⟩ := h1
    refine ⟨⟨s1, s2⟩, s3, fun l hl => by have := s4 l hl; simp [len8] at this; omega, ⟨s5.1, s5.2.1⟩, ⟨s5.2.2.1, s5.2.2.2⟩, by omega, fun p hp => qaay (h4 p hp), fun l hl s hs => ?_⟩
    have h6 := qum.1 (h5 l hl) s hs
    unfold qj4 at h6
    split at h6
    · cases h6
    split at h6
    · cases h6
    · omega
def qse (t0 : List Int) (x : Ex) (g : List Int) : Prop := g.length ≤ 100 ∧ (x.over = true ∨ g = t0 ∨ ∃ ev ∈ x.out, ev.kind = 2 ∧ ev.key = g)
structure EvOk (c : Cfg) (e : Evt) (x : Ex) (k : Nat) (ev : Evt) : Prop where
  time : e.time < ev.time ∧ ev.time ≤ 1152921504606846976
  key : ∃ m : Int, ev.key = e.key ++ [m] ∧ (k : Int) ≤ m ∧ m < x.n
  msg : ev.kind = 3 → 0 ≤ ev.lp ∧ ev.lp < c.lps.length ∧ e.time + c.look ≤ ev.time ∧ c.look ≤ 1099511627776
  own : ev.kind ≠ 3 → ev.lp = e.lp ∧ 0 ≤ ev.proc ∧ ev.proc < x.procs.length ∧ (ev.kind = 1 ∨ ev.kind = 2)
structure EInv (c : Cfg) (e : Evt) (i : Nat) (X : List Pr) (pr : Int) (p : List OpI) (t0 : List Int) (n : Nat) (x : Ex) : Prop where
  ev : x.ev = e
  len : X.length ≤ x.procs.length ∧ x.procs.length ≤ 8
  own : ∃ q, x.procs[i]? = some q ∧ q.prog = pr ∧ 0 ≤ q.pc ∧ q.pc ≤ p.length ∧ (q.timer = [] ∨ qse t0 x q.timer)
  old : ∀ j, j ≠ i → j < X.length → x.procs[j]? = X[j]?
  new : ∀ j q, X.length ≤ j → x.procs[j]? = some q → q.alive = true ∧ q.pc = 0 ∧ q.timer = [] ∧ 0 ≤ q.prog ∧ q.prog < c.progs.length
  cnt : 0 ≤ x.n ∧ x.n ≤ n ∧ (x.out.length : Int) ≤ x.n
  outs : ∀ k ev, x.out[k]? = some ev → EvOk c e x k ev
  inc : ∀ k ev ev', x.out[k]? = some ev → x.out[k + 1]? = some ev' → ∃ m m', ev.key = e.key ++ [m] ∧ ev'.key = e.key ++ [m'] ∧ m < m'
  gone : ∀ g ∈ x.gone, qse t0 x g
section
variable {c : Cfg} {e : Evt} {i : Nat} {X : List Pr} {pr : Int} {p : List OpI} {t0 : List Int} {n : Nat} {x : Ex}
theorem EInv.lt (h : EInv c e i X pr p t0 n x) : i < x.procs.length := by
  obtain ⟨q, h1, _⟩ := h.own; exact (List.getElem?_eq_some_iff.1 h1).1
theorem EInv.more (h : EInv c e i X pr p t0 n x) : EInv c e i X pr p t0 (n + 1) x :=
  ⟨h.ev, h.len, h.own, h.old, h.new, by have := h.cnt; omega, h.outs, h.inc, h.gone⟩
theorem EInv.setP (h : EInv c e i X pr p t0 n x) (hiX : i < X.length) {q : Pr} (h1 : q.prog = pr) (h2 : 0 ≤ q.pc ∧ q.pc ≤ p.length) (h3 : q.timer = [] ∨ qse t0 x q.timer) : EInv c e i X pr p t0 n (x.setP i q) := by
  have hlt := h.lt
  refine ⟨h.ev, by simp only [Ex.setP, List.length_set]; exact h.len, ⟨q, by simp only [Ex.setP]; rw [List.getElem?_set_self hlt], h1, h2.1, h2.2, h3⟩, ?_, ?_, h.cnt, ?_, h.inc, h.gone⟩
  · intro j hj hl; simp only [Ex.setP]; rw [List.getElem?_set_ne (Ne.symm hj)]; exact h.old j hj hl
  · intro j q' hl hq; simp only [Ex.setP] at hq; rw [List.getElem?_set_ne (by omega)] at hq; exact h.new j q' hl hq
  · intro k ev hk
    obtain ⟨a, b, d, f⟩ := h.outs k ev hk
    exact ⟨a, b, d, by simpa only [Ex.setP, List.length_set] using f⟩
theorem EInv.push (h : EInv c e i X pr p t0 n x) {g : List Int} (hg : qse t0 x g) : EInv c e i X pr p t0 n { x with gone := x.gone ++ [g] } := by
  refine ⟨h.ev, h.len, h.own, h.old, h.new, h.cnt, fun k ev hk => ?_, h.inc, ?_⟩
  · obtain ⟨a, b, d, f⟩ := h.outs k ev hk; exact ⟨a, b, d, f⟩
  · intro g' hg'
    rcases List.mem_append.1 hg' with hg' | hg'
    · exact h.gone g' hg'
    · simp at hg'; subst hg'; exact hg
theorem EInv.reg (h : EInv c e i X pr p t0 n x) (k v : Int) : EInv c e i X pr p t0 n (x.setReg k v) := by
  unfold Ex.setReg
  split
  · exact ⟨h.ev, h.len, h.own, h.old, h.new, h.cnt, fun k ev hk => by obtain ⟨a, b, d, f⟩ := h.outs k ev hk; exact ⟨a, b, d, f⟩, h.inc, h.gone⟩
  · exact ⟨h.ev, h.len, h.own, h.old, h.new, h.cnt, fun k ev hk => by obtain ⟨a, b, d, f⟩ := h.outs k ev hk; exact ⟨a, b, d, f⟩, h.inc, h.gone⟩
theorem EInv.spawn (h : EInv c e i X pr p t0 n x) (hiX : i < X.length) (hl : x.procs.length < 8) {a : Int} (ha : 0 ≤ a ∧ a < c.progs.length) : EInv c e i X pr p t0 n { x with procs := x.procs ++ [⟨a, 0, true, []⟩] } := by
  have hlt := h.lt
  have hln := h.len
  refine ⟨h.ev, by simp; omega, ?_, ?_, ?_, h.cnt, ?_, h.inc, h.gone⟩
  · obtain ⟨q, h1, h2⟩ := h.own
    exact ⟨q, by show (x.procs ++ _)[i]? = _; rw [List.getElem?_append_left hlt]; exact h1, h2⟩
  · intro j hj hl'; show (x.procs ++ _)[j]? = _; rw [List.getElem?_append_left (by omega)]; exact h.old j hj hl'
  · intro j q hj hq
    change (x.procs ++ [⟨a, 0, true, []⟩])[j]? = some q at hq
    by_cases hjl : j < x.procs.length
    · rw [List.getElem?_append_left hjl] at hq; exact h.new j q hj hq
    · have hj2 := (List.getElem?_eq_some_iff.1 hq).1
      simp at hj2
      have hje : j = x.procs.length := by omega
      subst hje
      simp at hq
      subst hq
      exact ⟨rfl, rfl, rfl, ha⟩
  · intro k ev hk
    obtain ⟨a, b, d, f⟩ := h.outs k ev hk
    exact ⟨a, b, d, fun hk' => by obtain ⟨f1, f2, f3, f4⟩ := f hk'; exact ⟨f1, f2, by simp; omega, f4⟩⟩
theorem create_over {d : Int} {s : Evt} (h : x.over = true) : (x.create d s).over = true := by unfold Ex.create; simp only; split <;> first | rfl | exact h
theorem q9d {d : Int} {s ev : Evt} (h : ev ∈ x.out) : ev ∈ (x.create d s).out := by unfold Ex.create; simp only; split <;> first | exact h | exact List.mem_append_left _ h
theorem qse.create {g : List Int} (h : qse t0 x g) (d : Int) (s : Evt) : qse t0 (x.create d s) g := by
  refine ⟨h.1, ?_⟩
  rcases h.2 with h | h | ⟨ev, h1, h2⟩
  · exact .inl (create_over h)
  · exact .inr (.inl h)
  · exact .inr (.inr ⟨ev, q9d h1, h2⟩)
theorem EInv.create (h : EInv c e i X pr p t0 n x) (hn : n ≤ 90) (he : 0 ≤ e.time ∧ e.time ≤ 1152921504606846976) (hk : e.key.length ≤ 90) {d : Int} (hd : 1 ≤ d ∧ d ≤ 1099511627776) {s : Evt}
    (hm : s.kind = 3 → 0 ≤ s.lp ∧ s.lp < c.lps.length ∧ c.look ≤ d) (ho : s.kind ≠ 3 → s.lp = e.lp ∧ 0 ≤ s.proc ∧ s.proc < x.procs.length ∧ (s.kind = 1 ∨ s.kind = 2)) :
    EInv c e i X pr p t0 (n + 1) (x.create d s) ∧ (s.kind = 2 → qse t0 (x.create d s) x.kid) := by
  obtain ⟨c1, c2, c3⟩ := h.cnt
  have hw : w64 (x.n + 1) = x.n + 1 := qao (by omega) (by omega)
  have ht : w64 (x.ev.time + d) = e.time + d := by rw [h.ev]; exact qao (by omega) (by omega)
  have hown : ∃ q, (x.create d s).procs[i]? = some q ∧ q.prog = pr ∧ 0 ≤ q.pc ∧ q.pc ≤ p.length ∧ (q.timer = [] ∨ qse t0 (x.create d s) q.timer) := by
    obtain ⟨q, h1, h2, h3, h4, h5⟩ := h.own
    exact ⟨q, h1, h2, h3, h4, h5.imp id fun g => g.create d s⟩
  have hgone : ∀ g ∈ (x.create d s).gone, qse t0 (x.create d s) g := fun g hg => (h.gone g hg).create d s
  have hkid : x.kid.length ≤ 100 := by unfold Ex.kid; rw [h.ev]; simp; omega
  by_cases hov : e.time + d > 1152921504606846976
  · have hx : x.create d s = { x with n := x.n + 1, over := true } := by unfold Ex.create; rw [hw, ht, if_pos hov, if_pos hov]
    rw [hx] at hown hgone ⊢
    refine ⟨⟨h.ev, h.len, hown, h.old, h.new, ⟨by show 0 ≤ x.n + 1; omega, by show x.n + 1 ≤ ((n + 1 : Nat) : Int); omega, by show (x.out.length : Int) ≤ x.n + 1; omega⟩, fun k ev hk' => ?_, h.inc, hgone⟩, fun _ => ⟨hkid, .inl rfl⟩⟩
    obtain ⟨a, ⟨m, b1, b2, b3⟩, d, f⟩ := h.outs k ev hk'
    exact ⟨a, ⟨m, b1, b2, by show m < x.n + 1; omega⟩, d, f⟩
  · have hx : x.create d s = { x with n := x.n + 1, out := x.out ++ [⟨e.time + d, e.key ++ [x.n], s.lp, s.kind, s.proc, s.arg⟩] } := by unfold Ex.create Ex.kid; rw [hw, ht, if_neg hov, if_neg hov, h.ev]
    rw [hx] at hown hgone ⊢
    refine ⟨⟨h.ev, h.len, hown, h.old, h.new, ⟨by show 0 ≤ x.n + 1; omega, by show x.n + 1 ≤ ((n + 1 : Nat) : Int); omega, by show ((x.out ++ _).length : Int) ≤ x.n + 1; simp; omega⟩, fun k ev hk' => ?_, ?_, hgone⟩, fun hs => ⟨hkid, .inr (.inr ⟨_, List.mem_append_right _ (List.mem_singleton.2 rfl), hs, by unfold Ex.kid; rw [h.ev]⟩)⟩⟩
    · change (x.out ++ [_])[k]? = some ev at hk'
      by_cases hkl : k < x.out.length
      · rw [List.getElem?_append_left hkl] at hk'
        obtain ⟨a, ⟨m, b1, b2, b3⟩, d, f⟩ := h.outs k ev hk'
        exact ⟨a, ⟨m, b1, b2, by show m < x.n + 1; omega⟩, d, f⟩
      · have hk2 := (List.getElem?_eq_some_iff.1 hk').1
        simp at hk2
        have hke : k = x.out.length := by omega
        subst hke
        simp at hk'
        subst hk'
        refine ⟨⟨by show e.time < e.time + d; omega, by show e.time + d ≤ _; omega⟩, ⟨x.n, rfl, c3, by show x.n < x.n + 1; omega⟩, fun hs => ?_, fun hs => ho hs⟩
        obtain ⟨m1, m2, m3⟩ := hm hs
        exact ⟨m1, m2, by show e.time + c.look ≤ e.time + d; omega, by omega⟩
    · intro k ev ev' h1 h2
      change (x.out ++ [_])[k]? = some ev at h1
      change (x.out ++ [_])[k + 1]? = some ev' at h2
      have hk2 := (List.getElem?_eq_some_iff.1 h2).1
      simp at hk2
      rw [List.getElem?_append_left (by omega)] at h1
      by_cases hkl : k + 1 < x.out.length
      · rw [List.getElem?_append_left hkl] at h2; exact h.inc k ev ev' h1 h2
      · have hke : k + 1 = x.out.length := by omega
        rw [hke] at h2
        simp at h2
        subst h2
        obtain ⟨m, b1, b2, b3⟩ := (h.outs k ev h1).key
        exact ⟨m, x.n, b1, rfl, b3⟩
theorem EInv.stop (h : EInv c e i X pr p t0 n x) (hiX : i < X.length) {q : Pr} (hq : x.procs[i]? = some q) : EInv c e i X pr p t0 n (x.stopE i q) := by
  obtain ⟨q', h1, h2, h3, h4, h5⟩ := h.own
  rw [hq] at h1; cases h1
  unfold Ex.stopE
  split
  next hl =>
    have hg : qse t0 x q.timer := by
      rcases h5 with h5 | h5
      · rw [h5] at hl; simp at hl
      · exact h5
    exact (h.push hg).setP (q := { q with timer := [] }) hiX h2 ⟨h3, h4⟩ (.inl rfl)
  next => exact h
theorem EInv.step (h : EInv c e i X pr p t0 n x) (hiX : i < X.length) (hn : n ≤ 90) (he : 0 ≤ e.time ∧ e.time ≤ 1152921504606846976) (hk : e.key.length ≤ 90) (hpr : e.proc = i) {q : Pr} (hq : x.procs[i]? = some q) {op : OpI} (ho : OpFull c p op) :
    EInv c e i X pr p t0 (n + 1) (qdw x i q op).1 := by
  have hlt := h.lt
  obtain ⟨q', h1, h2, h3, h4, h5⟩ := h.own
  rw [hq] at h1; cases h1
  unfold qdw
  split
  next k => exact (h.create hn he hk (ho.hold k) (fun hs => absurd hs (by show ¬ (1 : Int) = 3; decide)) (fun _ => ⟨by show x.ev.lp = e.lp; rw [h.ev], by show 0 ≤ x.ev.proc; rw [h.ev, hpr]; omega, by show x.ev.proc < _; rw [h.ev, hpr]; omega, .inl rfl⟩)).1
  split
  next k =>
    obtain ⟨s1, s2, s3, s4, s5⟩ := ho.send k
    exact (h.create hn he hk ⟨s3, s4⟩ (s := ⟨0, [], op.a, 3, 0, op.b⟩) (fun _ => ⟨s1, s2, s5⟩) (fun hs => absurd rfl hs)).1
  split
  next k =>
    obtain ⟨s1, s2, s3, s4⟩ := ho.timer k
    have hst := h.stop hiX hq
    obtain ⟨g1, g2⟩ := hst.create hn he hk ⟨s1, s2⟩ (s := x.ownE 2 x.ev.proc op.b) (fun hs => absurd hs (by show ¬ (2 : Int) = 3; decide)) (fun _ => ⟨by show x.ev.lp = e.lp; rw [h.ev], by show 0 ≤ x.ev.proc; rw [h.ev, hpr]; omega, by show x.ev.proc < _; rw [h.ev, hpr]; have := hst.lt; omega, .inr rfl⟩)
    exact g1.setP (q := { q with timer := (x.stopE i q).kid }) hiX h2 ⟨h3, h4⟩ (.inr (g2 rfl))
  split
  next k => exact (h.stop hiX hq).more
  split
  next k =>
    obtain ⟨s1, s2, s3, s4⟩ := ho.spawn k
    unfold Ex.spawnE
    split
    next hl => exact ((h.spawn hiX hl ⟨s1, s2⟩).create hn he hk ⟨s3, s4⟩ (s := x.ownE 1 x.procs.length 0) (fun hs => absurd hs (by show ¬ (1 : Int) = 3; decide)) (fun _ => ⟨by show x.ev.lp = e.lp; rw [h.ev], by show (0 : Int) ≤ (x.procs.length : Int); omega, by show (x.procs.length : Int) < _; simp; omega, .inl rfl⟩)).1
    next => exact h.more
  split
  next k => exact (h.reg _ _).more
  split
  next k =>
    obtain ⟨s1, s2⟩ := ho.to k
    split
    · exact (h.setP (q := { q with pc := op.c }) hiX h2 ⟨s1, by show op.c ≤ _; omega⟩ h5).more
    · exact h.more
  next => exact h.more
theorem EInv.kill (h : EInv c e i X pr p t0 n x) (hiX : i < X.length) : EInv c e i X pr p t0 n (qms x i) := by
  obtain ⟨q, h1, h2, h3, h4, h5⟩ := h.own
  unfold qms; rw [h1]
  exact h.setP (q := { q with alive := false }) hiX h2 ⟨h3, h4⟩ h5
theorem EInv.stepR (h : EInv c e i X pr p t0 n x) (hiX : i < X.length) (hn : n ≤ 90) (he : 0 ≤ e.time ∧ e.time ≤ 1152921504606846976) (hk : e.key.length ≤ 90) (hpl : p.length ≤ 1000) (hpr : e.proc = i) {q : Pr} (hq : x.procs[i]? = some q) {op : OpI} (hop : p[q.pc.toNat]? = some op) (ho : OpFull c p op) :
    EInv c e i X pr p t0 (n + 1) (stepR x i q op).1 := by
  have hlt := h.lt
  obtain ⟨q', h1, h2, h3, h4, h5⟩ := h.own
  rw [hq] at h1; cases h1
  have hpc := (List.getElem?_eq_some_iff.1 hop).1
  have hw : w64 (q.pc + 1) = q.pc + 1 := qao (by omega) (by omega)
  have hz := h.setP (q := q.inc) hiX h2 ⟨by show 0 ≤ w64 (q.pc + 1); rw [hw]; omega, by show w64 (q.pc + 1) ≤ _; rw [hw]; omega⟩ h5
  have hzq : (x.setP i q.inc).procs[i]? = some q.inc := by simp only [Ex.setP]; rw [List.getElem?_set_self hlt]
  have hs := hz.step hiX hn he hk hpr hzq ho
  unfold K.stepR
  split
  · exact hs
  split
  · exact hs.kill hiX
  · exact hs
theorem EInv.act (hiX : i < X.length) (he : 0 ≤ e.time ∧ e.time ≤ 1152921504606846976) (hk : e.key.length ≤ 90) (hpl : p.length ≤ 1000) (hpr : e.proc = i) (ho : ∀ op ∈ p, OpFull c p op) :
    ∀ (m n : Nat) (x : Ex), n + m ≤ 90 → EInv c e i X pr p t0 n x → EInv c e i X pr p t0 (n + m) (qlo p i m x)
  | 0, n, x, _, h => h.kill hiX
  | m + 1, n, x, hnm, h => by
    obtain ⟨q, h1, h2⟩ := h.own
    have mono : ∀ {k : Nat} {y : Ex}, EInv c e i X pr p t0 k y → ∀ l, k ≤ l → EInv c e i X pr p t0 l y := by
      intro k y hy l hl
      exact ⟨hy.ev, hy.len, hy.own, hy.old, hy.new, by have := hy.cnt; omega, hy.outs, hy.inc, hy.gone⟩
    rw [qzt p i m x q h1]
    cases hop : p[q.pc.toNat]? with
    | none => exact mono (h.kill hiX) _ (by omega)
    | some op =>
      have hs := h.stepR hiX (by omega) he hk hpl hpr h1 hop (ho op (List.mem_of_getElem? hop))
      simp only
      split
      · exact mono hs _ (by omega)
      · have := EInv.act hiX he hk hpl hpr ho m (n + 1) _ (by omega) hs
        rw [show n + (m + 1) = n + 1 + m from by omega]; exact this
end
set_option maxRecDepth 10000
def badP (c : Cfg) (q : Pr) : Bool := !(decide (0 ≤ q.prog) && (decide (q.prog < c.progs.length) && (decide (0 ≤ q.pc) && decide (q.pc ≤ (((c.progs[q.prog.toNat]?).getD []).length : Int)))))
theorem not_lt_zero {x : Int} (h : ¬ x < 0) : 0 ≤ x := by omega
set_option maxRecDepth 10000
set_option maxRecDepth 10000
structure Ready (c : Cfg) (x : Lp) (e : Evt) : Prop where
  valid : Valid c
  len : x.procs.length ≤ 8
  proc : ∀ q ∈ x.procs, 0 ≤ q.prog ∧ q.prog < c.progs.length ∧ 0 ≤ q.pc ∧ q.pc ≤ ((c.progs[q.prog.toNat]?).getD []).length ∧ q.timer.length ≤ 80
  time : 0 ≤ e.time ∧ e.time ≤ 1152921504606846976
  key : e.key.length ≤ 80
  arg : ∀ q, qnb x e = some q → e.kind = 2 → 0 ≤ e.arg ∧ e.arg ≤ ((c.progs[q.prog.toNat]?).getD []).length
theorem qaca {c : Cfg} {p : List OpI} {op : OpI} (h : OpFull c p op) (hp : p.length ≤ 16) : OpOk' op := ⟨h.code, h.reg, fun k => by have := h.to k; omega⟩
section
variable {c : Cfg} {x : Lp} {e : Evt}
theorem q5x {q : Pr} (h : qnb x e = some q) : (e.kind = 1 ∨ e.kind = 2) ∧ 0 ≤ e.proc ∧ x.procs[e.proc.toNat]? = some q ∧ q.alive = true := by
  unfold qnb at h
  split at h
  case isFalse => cases h
  rename_i hc
  rw [Option.bind_eq_some_iff] at h
  obtain ⟨q', hq, ha⟩ := h
  split at ha
  case isFalse => cases ha
  rename_i hal
  cases ha
  exact ⟨hc.1, hc.2, hq, hal⟩
theorem Ready.ops (h : Ready c x e) {p : List OpI} (hp : p ∈ c.progs) : p.length ≤ 16 ∧ ∀ op ∈ p, OpFull c p op := ⟨(h.valid.prog p hp).2.1, (h.valid.prog p hp).2.2⟩
theorem Ready.plen (h : Ready c x e) (k : Nat) : ((c.progs[k]?).getD []).length ≤ 16 := by
  cases hk : c.progs[k]? with
  | none => simp
  | some p => simpa using (h.ops (List.mem_of_getElem? hk)).1
theorem Ready.execOk (h : Ready c x e) {q : Pr} (ha : qnb x e = some q) : qyc c x e :=
  ⟨by have := h.len; omega, by have := h.key; omega, fun q hq => by obtain ⟨a, b, d, f, g⟩ := h.proc q hq; have := h.plen q.prog.toNat; exact ⟨a, b, d, by omega, by omega⟩,
    fun p hp => ⟨by have := (h.ops hp).1; omega, fun op ho => qaca ((h.ops hp).2 op ho) (h.ops hp).1⟩, fun k => by have := h.arg q ha k; have := h.plen q.prog.toNat; omega⟩
theorem Ready.inv (h : Ready c x e) {q : Pr} (ha : qnb x e = some q) : ∃ (i : Nat) (p : List OpI), e.proc = i ∧ x.procs[i]? = some q ∧ p ∈ c.progs ∧ c.progs[q.prog.toNat]? = some p ∧ EInv c e i x.procs q.prog p q.timer 16 (qr9 c x e q) := by
  obtain ⟨a1, a2, a3, a4⟩ := q5x ha
  obtain ⟨i, hi⟩ : ∃ i : Nat, e.proc = i := ⟨_, (Int.toNat_of_nonneg a2).symm⟩
  have hin : e.proc.toNat = i := by omega
  rw [hin] at a3
  obtain ⟨p1, p2, p3, p4, p5⟩ := h.proc q (List.mem_of_getElem? a3)
  obtain ⟨p, hp⟩ : ∃ p, c.progs[q.prog.toNat]? = some p := ⟨_, List.getElem?_eq_getElem (by omega)⟩
  have hpm := List.mem_of_getElem? hp
  have hlt := (List.getElem?_eq_some_iff.1 a3).1
  have hgd : ((c.progs[q.prog.toNat]?).getD []).length = p.length := by rw [hp]; rfl
  rw [hgd] at p4
  refine ⟨i, p, hi, a3, hpm, hp, ?_⟩
  have hrun : qr9 c x e q = qlo p i 16 ((qc1 x e).setP i (qjf e q)) := by unfold qr9; rw [hin, hp]; rfl
  rw [hrun]
  have hg : q.timer = [] ∨ qse q.timer (qc1 x e) q.timer := .inr ⟨by omega, .inr (.inl rfl)⟩
  have h0 : EInv c e i x.procs q.prog p q.timer 0 (qc1 x e) := by
    refine ⟨rfl, ⟨Nat.le_refl _, h.len⟩, ⟨q, a3, rfl, p3, p4, hg⟩, fun j _ _ => rfl, fun j q' hj hq' => ?_, ⟨Int.le_refl 0, Int.le_refl 0, Int.le_refl 0⟩, fun k ev hk => by simp [qc1] at hk, fun k ev ev' hk => by simp [qc1] at hk, fun g hg => by simp [qc1] at hg⟩
    have := (List.getElem?_eq_some_iff.1 hq').1
    change j < x.procs.length at this
    omega
  have h1 : EInv c e i x.procs q.prog p q.timer 0 ((qc1 x e).setP i (qjf e q)) := by
    refine h0.setP hlt (q0q e q) ?_ ?_
    · unfold qjf; split
      next k => have := h.arg q ha k; rw [hgd] at this; exact this
      next => exact ⟨p3, p4⟩
    · unfold qjf; split
      · by_cases ht : q.timer = e.key
        · simp [ht]
        · simp only [ht, if_false]; exact hg
      · exact hg
  have := EInv.act hlt h.time (by have := h.key; omega) (by have := (h.ops hpm).1; omega) hi (h.ops hpm).2 16 0 _ (by omega) h1
  exact this
theorem ActInv.act {i : Nat} {p : List OpI} (hpl : p.length ≤ 1000) (ho : ∀ op ∈ p, OpOk' op) : ∀ (m n : Nat) (y : Ex), ActInv e i n y → ActInv e i (n + m) (qlo p i m y)
  | 0, n, y, h => by
    obtain ⟨q, h1, h2⟩ := h.has
    show ActInv e i n (qms y i)
    unfold qms; rw [h1]; exact h.pc h1 h2 false
  | m + 1, n, y, h => by
    have mono : ∀ {k : Nat} {z : Ex}, ActInv e i k z → ∀ l, k ≤ l → ActInv e i l z := fun hz l hl => ⟨hz.ev, hz.has, hz.procs, by have := hz.out; omega, by have := hz.gone; omega⟩
    obtain ⟨q, h1, h2⟩ := h.has
    rw [qzt p i m y q h1]
    cases hop : p[q.pc.toNat]? with
    | none =>
      refine mono (k := n) ?_ _ (by omega)
      show ActInv e i n (qms y i)
      unfold qms; rw [h1]; exact h.pc h1 h2 false
    | some op =>
      have hlp := (List.getElem?_eq_some_iff.1 hop).1
      have hs := h.stepR h1 ⟨by omega, by omega⟩ (ho op (List.mem_of_getElem? hop))
      simp only
      split
      · exact mono hs _ (by omega)
      · have := ActInv.act hpl ho m (n + 1) _ hs
        rw [show n + (m + 1) = n + 1 + m from by omega]; exact this
theorem Ready.goneLen (h : Ready c x e) {q : Pr} (ha : qnb x e = some q) : (qr9 c x e q).gone.length ≤ 16 := by
  obtain ⟨i, p, hi, hq, hpm, hp, _⟩ := h.inv ha
  have hin : e.proc.toNat = i := by omega
  have hrun : qr9 c x e q = qlo p i 16 ((qc1 x e).setP i (qjf e q)) := by unfold qr9; rw [hin, hp]; rfl
  have h0 := qz1 c x e (h.execOk ha) hi hq
  have := ActInv.act (by have := (h.ops hpm).1; omega) (fun op ho => qaca ((h.ops hpm).2 op ho) (h.ops hpm).1) 16 0 _ h0
  rw [hrun]; have := this.gone; omega
structure XRes where
  lp : Lp
  out : List Evt
  gone : List (List Int)
  over : Bool
  nil : Bool
def qb6 (c : Cfg) (x : Lp) (e : Evt) : XRes :=
  if e.kind = 3 then ⟨⟨x.r0, x.r1, x.procs, w64 (x.sum + e.arg)⟩, [], [], false, true⟩
  else match qnb x e with
    | none => ⟨x, [], [], false, true⟩
    | some q => ⟨q46 (qr9 c x e q), (qr9 c x e q).out, (qr9 c x e q).gone, (qr9 c x e q).over, false⟩
theorem Exec_ev (h : Ready c x e) : qaz (evL T) qez [(.agg [(.fsl ((c.lps).map lpC) false), (.fsl ((c.progs).map qbm) false), (ii c.look), (ii c.fin), (ii c.cap)]), (.agg [(ii x.r0), (ii x.r1), (.fsl ((x.procs).map Pr.r) false), (ii x.sum)]), (.agg [(ii e.time), (.fsl ((e.key).map qcm) false), (ii e.lp), (ii e.kind), (ii e.proc), (ii e.arg)])] = some (.tup [(.agg [(ii ((qb6 c x e).lp.r0)), (ii ((qb6 c x e).lp.r1)), (.fsl (((qb6 c x e).lp.procs).map Pr.r) false), (ii ((qb6 c x e).lp.sum))]), (.fsl (((qb6 c x e).out).map Evt.r) (qb6 c x e).nil), (.fsl (((qb6 c x e).gone).map qfe) (qb6 c x e).nil), (bb ((qb6 c x e).over))]) := by
  unfold qb6
  by_cases hk : e.kind = 3
  · rw [if_pos hk]; exact Exec_msg c x e hk
  rw [if_neg hk]
  cases ha : qnb x e with
  | none => exact qab1 c x e hk ha
  | some q => exact Exec_run c x e (h.execOk ha) ha
theorem RExec_ev (h : Ready c x e) : qaz (evL T) qgz [(.agg [(.fsl ((c.lps).map lpC) false), (.fsl ((c.progs).map qbm) false), (ii c.look), (ii c.fin), (ii c.cap)]), (.agg [(ii x.r0), (ii x.r1), (.fsl ((x.procs).map Pr.r) false), (ii x.sum)]), (.agg [(ii e.time), (.fsl ((e.key).map qcm) false), (ii e.lp), (ii e.kind), (ii e.proc), (ii e.arg)])] = some (.tup [(.agg [(ii ((qb6 c x e).lp.r0)), (ii ((qb6 c x e).lp.r1)), (.fsl (((qb6 c x e).lp.procs).map Pr.r) false), (ii ((qb6 c x e).lp.sum))]), (.fsl (((qb6 c x e).out).map Evt.r) (qb6 c x e).nil), (.fsl (((qb6 c x e).gone).map qfe) (qb6 c x e).nil), (bb ((qb6 c x e).over))]) := by
  unfold qb6
  by_cases hk : e.kind = 3
  · rw [if_pos hk]; exact qabv c x e hk
  rw [if_neg hk]
  cases ha : qnb x e with
  | none => exact q8v c x e hk ha
  | some q => exact qabr c x e (h.execOk ha) ha
theorem Ready.sizes (h : Ready c x e) : (qb6 c x e).lp.procs.length ≤ 8 ∧ (∀ q ∈ (qb6 c x e).lp.procs, q.timer.length ≤ 100) ∧ (qb6 c x e).out.length ≤ 16 ∧ (∀ ev ∈ (qb6 c x e).out, ev.key.length ≤ 100) ∧ (∀ g ∈ (qb6 c x e).gone, g.length ≤ 100) ∧ (qb6 c x e).gone.length ≤ 16 := by
  unfold qb6
  by_cases hk : e.kind = 3
  · rw [if_pos hk]
    exact ⟨h.len, fun q hq => by have := (h.proc q hq).2.2.2.2; omega, by simp, fun _ h => by simp at h, fun _ h => by simp at h, by simp⟩
  rw [if_neg hk]
  cases ha : qnb x e with
  | none => exact ⟨h.len, fun q hq => by have := (h.proc q hq).2.2.2.2; omega, by simp, fun _ h => by simp at h, fun _ h => by simp at h, by simp⟩
  | some q =>
    obtain ⟨i, p, hi, hq, hpm, hp, hI⟩ := h.inv ha
    refine ⟨hI.len.2, fun q' hq' => ?_, by have := hI.cnt; show (qr9 c x e q).out.length ≤ 16; omega, fun ev hev => ?_, fun g hg => (hI.gone g hg).1, h.goneLen ha⟩
    · obtain ⟨j, hj⟩ := List.mem_iff_getElem?.1 hq'
      change (qr9 c x e q).procs[j]? = some q' at hj
      by_cases hji : j = i
      · obtain ⟨q2, b1, _, _, _, b5⟩ := hI.own
        subst hji
        rw [hj] at b1; cases b1
        rcases b5 with b5 | b5
        · rw [b5]; simp
        · exact b5.1
      · by_cases hjl : j < x.procs.length
        · rw [hI.old j hji hjl] at hj
          have := (h.proc q' (List.mem_of_getElem? hj)).2.2.2.2; omega
        · rw [(hI.new j q' (by omega) hj).2.2.1]; simp
    · obtain ⟨k, hk'⟩ := List.mem_iff_getElem?.1 hev
      obtain ⟨m, hm, _⟩ := (hI.outs k ev hk').key
      rw [hm]; have := h.key; simp; omega
end
set_option maxRecDepth 10000
theorem itB_each {f : Env → qaa → R3} {s : Env → qaa → Option (Env × qaa)} {τ : Type} (l : List τ) (E : Nat → Env) (σ : qaa) (Q : CExit × Env × qaa → Prop)
    (good : ∀ (i : Nat) (x : τ), i < l.length → l[i]? = some x → it1 f s (E i) σ = some (.inl (E (i + 1), σ)))
    (last : ∃ y, it1 f s (E l.length) σ = some (.inr y) ∧ Q y) : ∃ y, itB f s (E 0) σ = some y ∧ Q y := by
  have H := qfd l E σ (fun _ => true) Q (fun _ _ => False) (fun i x h1 h2 _ => good i x h1 h2) (fun i x _ _ h => by cases h) last
  obtain ⟨y, h1, h2 | ⟨h2, _⟩⟩ := H
  · exact ⟨y, h1, h2.2⟩
  · simp at h2
section
variable {c : Cfg} {x : Lp} {e : Evt}
theorem Ready.cases (h : Ready c x e) : (e.kind = 3 ∧ qb6 c x e = ⟨⟨x.r0, x.r1, x.procs, w64 (x.sum + e.arg)⟩, [], [], false, true⟩) ∨ (¬ e.kind = 3 ∧ qnb x e = none ∧ qb6 c x e = ⟨x, [], [], false, true⟩) ∨
    ∃ q, ¬ e.kind = 3 ∧ qnb x e = some q ∧ qb6 c x e = ⟨q46 (qr9 c x e q), (qr9 c x e q).out, (qr9 c x e q).gone, (qr9 c x e q).over, false⟩ := by
  unfold qb6
  by_cases hk : e.kind = 3
  · exact .inl ⟨hk, if_pos hk⟩
  · rw [if_neg hk]
    cases ha : qnb x e with
    | none => exact .inr (.inl ⟨hk, rfl, rfl⟩)
    | some q => exact .inr (.inr ⟨q, hk, rfl, rfl⟩)
theorem Ready.outs (h : Ready c x e) : ∃ X : Ex, X.procs = (qb6 c x e).lp.procs ∧ (∀ k ev, (qb6 c x e).out[k]? = some ev → EvOk c e X k ev) ∧
    ∀ k ev ev', (qb6 c x e).out[k]? = some ev → (qb6 c x e).out[k + 1]? = some ev' → ∃ m m', ev.key = e.key ++ [m] ∧ ev'.key = e.key ++ [m'] ∧ m < m' := by
  rcases h.cases with ⟨_, hx⟩ | ⟨_, _, hx⟩ | ⟨q, _, ha, hx⟩
  · rw [hx]; exact ⟨qc1 x e, rfl, fun k ev hk => by simp at hk, fun k ev ev' hk => by simp at hk⟩
  · rw [hx]; exact ⟨qc1 x e, rfl, fun k ev hk => by simp at hk, fun k ev ev' hk => by simp at hk⟩
  · rw [hx]
    obtain ⟨i, p, hi, hq, hpm, hp, hI⟩ := h.inv ha
    exact ⟨qr9 c x e q, rfl, hI.outs, hI.inc⟩
theorem Ready.state (h : Ready c x e) : x.procs.length ≤ (qb6 c x e).lp.procs.length ∧ ∀ (j : Nat) (q' : Pr), (qb6 c x e).lp.procs[j]? = some q' →
    (badP c q' = false ∧ (x.procs.length ≤ j → q'.alive = true ∧ q'.pc = 0) ∧ ∀ q, x.procs[j]? = some q → q'.prog = q.prog ∧ ((j : Int) ≠ e.proc → q' = q)) := by
  have old : ∀ q ∈ x.procs, badP c q = false := by
    intro q hq
    obtain ⟨a, b, d, f, g⟩ := h.proc q hq
    simp only [badP, a, b, d, f, decide_true, zfc, Bool.not_true]
  rcases h.cases with ⟨_, hx⟩ | ⟨_, _, hx⟩ | ⟨q0, _, ha, hx⟩
  · rw [hx]
    refine ⟨Nat.le_refl _, fun j q' hj => ⟨old q' (List.mem_of_getElem? hj), fun hl => ?_, fun q hq => ?_⟩⟩
    · have := (List.getElem?_eq_some_iff.1 hj).1; simp only at this; omega
    · simp only at hj; rw [hq] at hj; cases hj; exact ⟨rfl, fun _ => rfl⟩
  · rw [hx]
    refine ⟨Nat.le_refl _, fun j q' hj => ⟨old q' (List.mem_of_getElem? hj), fun hl => ?_, fun q hq => ?_⟩⟩
    · have := (List.getElem?_eq_some_iff.1 hj).1; simp only at this; omega
    · simp only at hj; rw [hq] at hj; cases hj; exact ⟨rfl, fun _ => rfl⟩
  · rw [hx]
    obtain ⟨i, p, hi, hq0, hpm, hp, hI⟩ := h.inv ha
    have hlt := (List.getElem?_eq_some_iff.1 hq0).1
    obtain ⟨p1, p2, p3, p4, p5⟩ := h.proc q0 (List.mem_of_getElem? hq0)
    refine ⟨hI.len.1, fun j q' hj => ?_⟩
    change (qr9 c x e q0).procs[j]? = some q' at hj
    by_cases hji : j = i
    · subst hji
      obtain ⟨q2, b1, b2, b3, b4, b5⟩ := hI.own
      rw [hj] at b1; cases b1
      refine ⟨?_, fun hl => by omega, fun q hq => ?_⟩
      · simp only [badP, b2, b3, b4, hp, p1, p2, Option.getD_some, decide_true, zfc, Bool.not_true]
      · rw [hq0] at hq; cases hq; exact ⟨b2, fun hne => absurd hi.symm hne⟩
    · by_cases hjl : j < x.procs.length
      · rw [hI.old j hji hjl] at hj
        refine ⟨old q' (List.mem_of_getElem? hj), fun hl => by omega, fun q hq => ?_⟩
        rw [hq] at hj; cases hj; exact ⟨rfl, fun _ => rfl⟩
      · obtain ⟨n1, n2, n3, n4, n5⟩ := hI.new j q' (by omega) hj
        refine ⟨?_, fun _ => ⟨n1, n2⟩, fun q hq => ?_⟩
        · simp [badP, n2, n4, n5]
        · have := (List.getElem?_eq_some_iff.1 hq).1; omega
end
set_option maxRecDepth 10000
structure TOk (e : Evt) (L : Nat) (ev : Evt) : Prop where
  tim : ev.kind = 2 → ev.proc = e.proc ∧ 0 ≤ ev.arg ∧ ev.arg < L
  msg : ev.kind = 3 → ev.proc = 0
def qsy (e : Evt) (L B : Nat) (x : Ex) : Prop := x.ev = e ∧ (∀ ev ∈ x.out, TOk e L ev) ∧ ∀ q ∈ x.procs, q.timer.length ≤ B
section
variable {e : Evt} {L B : Nat} {x : Ex}
theorem qsy.same (h : qsy e L B x) {y : Ex} (h1 : y.ev = x.ev) (h2 : y.out = x.out) (h3 : y.procs = x.procs) : qsy e L B y := ⟨by rw [h1]; exact h.1, by rw [h2]; exact h.2.1, by rw [h3]; exact h.2.2⟩
theorem qsy.setP (h : qsy e L B x) (i : Nat) {q : Pr} (hq : q.timer.length ≤ B) : qsy e L B (x.setP i q) := by
  refine ⟨h.1, h.2.1, fun q' hq' => ?_⟩
  rcases List.mem_or_eq_of_mem_set hq' with hq' | rfl
  · exact h.2.2 q' hq'
  · exact hq
theorem qsy.at (h : qsy e L B x) {i : Nat} {q : Pr} (hq : x.procs[i]? = some q) : q.timer.length ≤ B := h.2.2 q (List.mem_of_getElem? hq)
theorem qsy.create (h : qsy e L B x) (d : Int) {s : Evt} (hs : s.kind = 2 → s.proc = e.proc ∧ 0 ≤ s.arg ∧ s.arg < L) (hm : s.kind = 3 → s.proc = 0) : qsy e L B (x.create d s) := by
  refine ⟨h.1, fun ev hev => ?_, h.2.2⟩
  unfold Ex.create at hev
  simp only at hev
  split at hev
  · exact h.2.1 ev hev
  · rcases List.mem_append.1 hev with hev | hev
    · exact h.2.1 ev hev
    · rw [List.mem_singleton] at hev; subst hev; exact ⟨hs, hm⟩
theorem qsy.stop (h : qsy e L B x) (i : Nat) (q : Pr) : qsy e L B (x.stopE i q) := by
  unfold Ex.stopE; split
  · exact qsy.same (h.setP i (q := { q with timer := [] }) (Nat.zero_le _)) rfl rfl rfl
  · exact h
theorem qsy.kill (h : qsy e L B x) (i : Nat) : qsy e L B (qms x i) := by
  unfold qms; split
  next q hq => exact h.setP i (q := { q with alive := false }) (show q.timer.length ≤ B from h.at hq)
  · exact h
theorem qsy.step (h : qsy e L B x) (i : Nat) (q : Pr) (op : OpI) (hq : q.timer.length ≤ B) (hB : e.key.length + 1 ≤ B) (ho : op.code = 3 → 0 ≤ op.b ∧ op.b < L) : qsy e L B (qdw x i q op).1 := by
  have he := h.1
  unfold qdw
  split
  · exact h.create _ (fun k => absurd k (by show ¬ (1 : Int) = 2; decide)) (fun k => absurd k (by show ¬ (1 : Int) = 3; decide))
  split
  · exact h.create _ (fun k => absurd k (by show ¬ (3 : Int) = 2; decide)) (fun _ => rfl)
  split
  next k =>
    show qsy e L B (x.timerE i q op)
    unfold Ex.timerE
    refine qsy.setP ((h.stop i q).create op.a (s := x.ownE 2 x.ev.proc op.b) (fun _ => ⟨by show x.ev.proc = e.proc; rw [he], ho k⟩) (fun k => absurd k (by show ¬ (2 : Int) = 3; decide))) i ?_
    show (x.stopE i q).kid.length ≤ B
    unfold Ex.kid
    rw [(h.stop i q).1]; simp; exact hB
  split
  · exact h.stop i q
  split
  · show qsy e L B (x.spawnE op)
    unfold Ex.spawnE; split
    · have h2 : qsy e L B ({ x with procs := x.procs ++ [⟨op.a, 0, true, []⟩] } : Ex) := by
        refine ⟨h.1, h.2.1, fun q' hq' => ?_⟩
        rcases List.mem_append.1 hq' with hq' | hq'
        · exact h.2.2 q' hq'
        · rw [List.mem_singleton] at hq'; subst hq'; exact Nat.zero_le _
      exact h2.create _ (fun k => absurd k (by show ¬ (1 : Int) = 2; decide)) (fun k => absurd k (by show ¬ (1 : Int) = 3; decide))
    · exact h
  split
  · show qsy e L B (x.setReg _ _)
    unfold Ex.setReg; split <;> exact h.same rfl rfl rfl
  split
  · show qsy e L B (if _ then _ else _)
    split
    · exact h.setP i (q := { q with pc := op.c }) hq
    · exact h
  · exact h
theorem qsy.act {p : List OpI} (hB : e.key.length + 1 ≤ B) (ho : ∀ op ∈ p, op.code = 3 → 0 ≤ op.b ∧ op.b < L) (i : Nat) : ∀ (m : Nat) {x : Ex}, qsy e L B x → qsy e L B (qlo p i m x)
  | 0, x, h => h.kill i
  | m + 1, x, h => by
    unfold qlo
    split
    · exact h
    rename_i q hq
    split
    · exact h.kill i
    rename_i op hop
    have h0 : qsy e L B (x.setP i { q with pc := w64 (q.pc + 1) }) := h.setP i (show q.timer.length ≤ B from h.at hq)
    have hs := h0.step i { q with pc := w64 (q.pc + 1) } op (show q.timer.length ≤ B from h.at hq) hB (ho op (List.mem_of_getElem? hop))
    split
    · exact hs
    split
    · exact hs.kill i
    · exact qsy.act hB ho i m hs
end
theorem Ready.tims {c : Cfg} {x : Lp} {e : Evt} (h : Ready c x e) {B : Nat} (hB : e.key.length + 1 ≤ B) (hx : ∀ q ∈ x.procs, q.timer.length ≤ B) : (∀ ev ∈ (qb6 c x e).out, (ev.kind = 3 → ev.proc = 0) ∧ (ev.kind = 2 → ∃ q p, x.procs[e.proc.toNat]? = some q ∧ c.progs[q.prog.toNat]? = some p ∧ ev.proc = e.proc ∧ 0 ≤ ev.arg ∧ ev.arg < p.length)) ∧ ∀ q ∈ (qb6 c x e).lp.procs, q.timer.length ≤ B := by
  rcases h.cases with ⟨_, hx'⟩ | ⟨_, _, hx'⟩ | ⟨q, _, ha, hx'⟩
  · rw [hx']; exact ⟨fun ev hev => by simp at hev, hx⟩
  · rw [hx']; exact ⟨fun ev hev => by simp at hev, hx⟩
  · rw [hx']
    obtain ⟨i, p, hi, hq, hpm, hp, _⟩ := h.inv ha
    have hw : (qjf e q).timer.length ≤ B := by
      have := hx q (List.mem_of_getElem? hq)
      unfold qjf; split
      · show (if q.timer = e.key then [] else q.timer).length ≤ B
        split
        · exact Nat.zero_le _
        · exact this
      · exact this
    have h0 : qsy e p.length B (qc1 x e) := ⟨rfl, fun ev hev => (by cases hev), hx⟩
    have hT : qsy e p.length B (qr9 c x e q) := by
      unfold qr9
      rw [hp]
      exact qsy.act hB (fun op ho k => by have := ((h.ops hpm).2 op ho).timer k; exact ⟨this.2.2.1, this.2.2.2⟩) _ 16 (h0.setP e.proc.toNat hw)
    refine ⟨fun ev hev => ?_, hT.2.2⟩
    have := hT.2.1 ev hev
    exact ⟨this.msg, fun k => ⟨q, p, by rw [hi, Int.toNat_natCast]; exact hq, hp, this.tim k⟩⟩
set_option maxRecDepth 10000
theorem q58 (a : Int) : qaz (evL T) qhb [(ii a)] = some (bb false) := by
  rw [qaz, qs qxd qv7]
  simp only [qlr, qm, Ev.exec, qb, qe, qc, qag, Ev.Opnd.ev, Ev.Env.get, Ev.Env.set, Ev.look, qn, qax, ql, qx, qae, Ev.kill, qad, qd, qay, qah, ↓qq, ↓reduceIte, List.length_cons, List.length_nil, zfe, Nat.reduceEqDiff, reduceCtorEq, decide_false, and_self, ne_eq, not_true_eq_false, zfd, eq_self]
theorem qp4 (a b : Int) : qaz (evL T) qfx [(ii a), (ii b)] = some (ii (qrq a b)) := by
  have h0 := q58
  rw [qaz, qs quz qt7]
  by_cases h1 : a < b
  · simp only [qg3, qrq, h0, h1, qm, Ev.exec, qb, qe, qc, qaw, qag, Ev.evs, Ev.Opnd.ev, Ev.Env.get, Ev.Env.set, Ev.look, qn, qo, ql, qx, qae, Ev.kill, qad, qd, qay, qj, qk, qah, ↓qq, ↓reduceIte, List.length_cons, List.length_nil, zfe, Nat.reduceAdd, Nat.reduceEqDiff, Int.reduceNeg, reduceCtorEq, decide_true, zfc, zfa, and_self, zfd, eq_self]
  by_cases h2 : a > b
  · simp only [qg3, qrq, h0, h1, h2, qm, Ev.exec, qb, qe, qc, qaw, qag, Ev.evs, Ev.Opnd.ev, Ev.Env.get, Ev.Env.set, Ev.look, qn, qo, qav, ql, qx, qae, Ev.kill, qad, qd, qay, qj, qk, qah, ↓qq, ↓reduceIte, List.length_cons, List.length_nil, zfe, Nat.reduceAdd, Nat.reduceEqDiff, Int.reduceNeg, reduceCtorEq, decide_true, decide_false, zfc, zfa, and_self, zfd, eq_self]
  · simp only [qg3, qrq, h0, h1, h2, qm, Ev.exec, qb, qe, qc, qaw, qag, Ev.evs, Ev.Opnd.ev, Ev.Env.get, Ev.Env.set, Ev.look, qn, qo, qav, ql, qx, qae, Ev.kill, qad, qd, qay, qj, qk, qah, ↓qq, ↓reduceIte, List.length_cons, List.length_nil, zfe, Nat.reduceAdd, Nat.reduceEqDiff, Int.reduceNeg, reduceCtorEq, decide_false, zfc, zfa, and_self, zfd, eq_self]
theorem qaag (x z : Int) (c : Bool) : qaz (evL T) qlk [(.fsl (([x, z]).map qcm) c)] = some (ii (if x = 0 then z else x)) := by
  have hL : ∃ y, itB (exec (evL T) itL none qj8) (qr [3, 6, 7, 8] true 0) ⟨[(3, (ii 0)), (6, (.fsl (([x, z]).map qcm) c)), (7, (ii 2)), (8, (ii 0))], []⟩ [] = some y ∧ ([x, z].all (fun v => decide (v = 0)) = true ∧ (y.1 = .exit 0 ∧ y.2.1.marks = [] ∧ y.2.2 = [] ∧ Ev.look y.2.1.vars 3 = some (ii 0)) ∨
      [x, z].all (fun v => decide (v = 0)) = false ∧ ∃ v, [x, z].find? (fun v => !decide (v = 0)) = some v ∧ (y.1 = .ret ∧ y.2.1.marks = [] ∧ y.2.2 = [] ∧ Ev.look y.2.1.vars 2 = some (ii v))) := by
    refine qfd [x, z] (fun i => ⟨[(3, (ii 0)), (6, (.fsl (([x, z]).map qcm) c)), (7, (ii 2)), (8, (ii i))], []⟩) [] (fun v => decide (v = 0)) _ (fun v y => _) ?_ ?_ ?_
    · intro i v hi hv hp
      have hi2 : (i : Int) < 2 := by simp at hi; omega
      have hw : IntKind.i64.wrap ((i : Int) + 1) = ((i + 1 : Nat) : Int) := by rw [qao (by omega) (by omega)]; simp
      have hp' := of_decide_eq_true hp
      subst hp'
      have hl := qar 0 [x, z]
      generalize [x, z] = l at hv hl ⊢
      simp only [qj8, Int.natCast_nonneg, Int.toNat_natCast, List.getElem?_map, Option.map_some, hv, hl, hi2, hw, qcm, Ev.exec, qb, qe, qc, qag, Ev.Opnd.ev, Ev.Env.get, Ev.Env.set, Ev.look, qh, qab, qaj, qax, qo, qr, Ev.keep, qai, qy, qd, qay, qw, ↓qq, Ev.it1, ↓reduceIte, List.length_cons, List.length_nil, zfe, List.head?_cons, Nat.reduceEqDiff, decide_true, decide_false, zfc, zfa, and_self, ne_eq, not_true_eq_false, zfd, eq_self]
    · intro i v hi hv hp
      have hi2 : (i : Int) < 2 := by simp at hi; omega
      have hp' : ¬ v = 0 := of_decide_eq_false hp
      have hl := qar 0 [x, z]
      generalize [x, z] = l at hv hl ⊢
      simp only [qj8, Int.natCast_nonneg, Int.toNat_natCast, List.getElem?_map, Option.map_some, hv, hi2, hp', qcm, Ev.exec, qb, qe, qc, qag, Ev.Opnd.ev, Ev.Env.get, Ev.Env.set, Ev.look, qh, qab, qax, qo, ↓qq, Ev.it1, ↓reduceIte, List.length_cons, List.length_nil, List.head?_cons, Nat.reduceEqDiff, decide_true, zfa, ne_eq, zfb, zfd, eq_self]
      exact ⟨_, rfl, rfl, rfl, rfl, rfl⟩
    · have hl := qar 0 [x, z]
      rw [show ([x, z] : List Int).length = 2 from rfl]
      simp only [qj8, Int.lt_irrefl, Int.cast_ofNat_Int, Ev.exec, qb, qe, qc, qag, Ev.Opnd.ev, Ev.Env.get, Ev.Env.set, Ev.look, qo, ↓qq, Ev.it1, ↓reduceIte, Nat.reduceEqDiff, Int.cast_ofNat_Int, decide_false, zfa, eq_self]
      exact ⟨_, rfl, rfl, rfl, rfl, rfl⟩
  obtain ⟨⟨y, e, σ⟩, k1, k2⟩ := hL
  simp only at k2
  have hl := qar 0 [x, z]
  have hn : ([x, z].map qcm).length = 2 := rfl
  rw [qaz, qs q2x qz2]
  rcases k2 with ⟨k3, rfl, k4, rfl, k5⟩ | ⟨k3, v, k6, rfl, k4, rfl, k5⟩
  · have h1 : x = 0 ∧ z = 0 := by simpa using k3
    have h2 : (if x = 0 then z else x) = 0 := by rw [if_pos h1.1, h1.2]
    rw [h2]
    generalize [x, z].map qcm = l at k1 hl hn ⊢
    simp only [qm2, hn, Int.cast_ofNat_Int, k1, k4, k5, hl, qm, Ev.exec, qb, qe, qc, qag, Ev.Opnd.ev, Ev.Env.get, Ev.Env.set, Ev.look, qn, ql, qx, qae, Ev.kill, qad, qr, Ev.keep, qai, qy, qd, qay, qw, qah, ↓qq, ↓qak, ↓reduceIte, List.length_cons, List.length_nil, zfe, Nat.reduceEqDiff, Int.cast_ofNat_Int, reduceCtorEq, zfc, and_self, zfd, eq_self]
  · have h1 : (if x = 0 then z else x) = v := by
      rw [List.find?_cons] at k6
      by_cases hx : x = 0
      · rw [if_pos hx]; simp [hx] at k6; exact k6.2
      · rw [if_neg hx]; simp [hx] at k6; exact k6
    rw [h1]
    generalize [x, z].map qcm = l at k1 hl hn ⊢
    simp only [qm2, hn, Int.cast_ofNat_Int, k1, k4, k5, hl, qm, Ev.exec, qb, qe, qc, qag, Ev.Opnd.ev, Ev.Env.get, Ev.Env.set, Ev.look, qn, ql, qx, qae, Ev.kill, qad, qr, Ev.keep, qai, qy, qd, qay, qw, qah, ↓qq, ↓qak, ↓reduceIte, List.length_cons, List.length_nil, zfe, Nat.reduceEqDiff, Int.cast_ofNat_Int, reduceCtorEq, zfc, and_self, zfd, eq_self]
theorem q2j (x z : Int) (c : Bool) : qaz (evL T) qkc [(.fsl (([x, z]).map qcm) c)] = some (ii (if x = 0 then z else x)) := by
  have h := qaag x z c
  have hl := qar 0 [x, z]
  generalize [x, z].map qcm = l at h hl ⊢
  rw [qaz, qs q1x qyl]
  simp only [qng, h, hl, qm, Ev.exec, qb, qe, qc, qaw, qag, Ev.evs, Ev.Opnd.ev, Ev.Env.get, Ev.Env.set, Ev.look, qn, ql, qx, qae, Ev.kill, qad, qd, qay, qw, qj, qk, qah, ↓qq, ↓reduceIte, List.length_cons, List.length_nil, zfe, reduceCtorEq, zfc, and_self, zfd, eq_self]
section
variable (a b : List Int) (c d : Bool)
theorem qyt (h1 : a.length ≤ 9223372036854775807) (h2 : b.length ≤ 9223372036854775807) :
    ∃ y, itB (exec (evL T) itL none qdf) (qr [0, 1, 9, 10, 11] true 0) ⟨[(0, (.fsl ((a).map qcm) c)), (1, (.fsl ((b).map qcm) d)), (9, (.fsl ((a).map qcm) c)), (10, (ii a.length)), (11, (ii 0))], []⟩ [] = some y ∧
      ((a.zip b).all (fun z => decide (z.1 = z.2)) = true ∧ (a.length ≤ b.length ∧ y.1 = .exit 0 ∧ y.2.1.marks = [] ∧ y.2.2 = [] ∧ Ev.look y.2.1.vars 0 = some (.fsl ((a).map qcm) c) ∧ Ev.look y.2.1.vars 1 = some (.fsl ((b).map qcm) d) ∨ b.length < a.length ∧ y.1 = .ret ∧ y.2.1.marks = [] ∧ y.2.2 = [] ∧ Ev.look y.2.1.vars 4 = some (ii 1)) ∨
      (a.zip b).all (fun z => decide (z.1 = z.2)) = false ∧ ∃ x, (a.zip b).find? (fun z => !decide (z.1 = z.2)) = some x ∧ (y.1 = .ret ∧ y.2.1.marks = [] ∧ y.2.2 = [] ∧ Ev.look y.2.1.vars 4 = some (ii (qrq x.1 x.2)))) := by
  have hzl : (a.zip b).length = min a.length b.length := List.length_zip
  refine qfd (a.zip b) (fun i => ⟨[(0, (.fsl ((a).map qcm) c)), (1, (.fsl ((b).map qcm) d)), (9, (.fsl ((a).map qcm) c)), (10, (ii a.length)), (11, (ii i))], []⟩) [] (fun z => decide (z.1 = z.2)) _ (fun x y => _) ?_ ?_ ?_
  · intro i x hi hx hp
    rw [hzl] at hi
    have hi' : (i : Int) < (a.length : Int) := by omega
    have hi2 : ¬ (i : Int) ≥ (b.length : Int) := by omega
    have hw : IntKind.i64.wrap ((i : Int) + 1) = ((i + 1 : Nat) : Int) := by rw [qao (by omega) (by omega)]; simp
    obtain ⟨hxa, hxb⟩ := List.getElem?_zip_eq_some.1 hx
    have hp' := of_decide_eq_true hp
    have hc := qp4 x.1 x.2
    rw [(q11 x.1 x.2).2 hp'] at hc
    simp only [qdf, Int.natCast_nonneg, Int.toNat_natCast, List.getElem?_map, Option.map_some, hxa, hxb, hi', hi2, hw, hc, qar, qcm, Ev.exec, qb, qe, qc, qaw, qag, Ev.evs, Ev.Opnd.ev, Ev.Env.get, Ev.Env.set, Ev.look, qh, qab, qaj, qax, qo, qb5, qr, Ev.keep, qai, qy, qd, qay, qw, qj, qk, List.length_map, ↓qq, Ev.it1, ↓reduceIte, List.length_cons, List.length_nil, zfe, List.head?_cons, Nat.reduceEqDiff, reduceCtorEq, decide_true, decide_false, zfc, zfa, and_self, ne_eq, not_true_eq_false, zfd, eq_self]
  · intro i x hi hx hp
    rw [hzl] at hi
    have hi' : (i : Int) < (a.length : Int) := by omega
    have hi2 : ¬ (i : Int) ≥ (b.length : Int) := by omega
    obtain ⟨hxa, hxb⟩ := List.getElem?_zip_eq_some.1 hx
    have hp' : ¬ x.1 = x.2 := of_decide_eq_false hp
    have hc := qp4 x.1 x.2
    have hz : ¬ qrq x.1 x.2 = 0 := fun h => hp' ((q11 _ _).1 h)
    simp only [qdf, Int.natCast_nonneg, Int.toNat_natCast, List.getElem?_map, Option.map_some, hxa, hxb, hi', hi2, hz, hc, qcm, Ev.exec, qb, qe, qc, qaw, qag, Ev.evs, Ev.Opnd.ev, Ev.Env.get, Ev.Env.set, Ev.look, qh, qab, qax, qo, qb5, qay, qj, qk, List.length_map, ↓qq, Ev.it1, ↓reduceIte, List.length_cons, List.length_nil, List.head?_cons, Nat.reduceEqDiff, reduceCtorEq, decide_true, decide_false, zfc, zfa, ne_eq, zfb, zfd, eq_self]
    exact ⟨_, rfl, rfl, rfl, rfl, rfl⟩
  · rw [hzl]
    by_cases hab : a.length ≤ b.length
    · rw [Nat.min_eq_left hab]
      simp only [qdf, Int.lt_irrefl, Ev.exec, qb, qe, qc, qag, Ev.Opnd.ev, Ev.Env.get, Ev.Env.set, Ev.look, qo, ↓qq, Ev.it1, ↓reduceIte, Nat.reduceEqDiff, reduceCtorEq, decide_false, zfa, eq_self]
      exact ⟨_, rfl, .inl ⟨hab, rfl, rfl, rfl, rfl, rfl⟩⟩
    · rw [Nat.min_eq_right (by omega)]
      have h3 : (b.length : Int) < (a.length : Int) := by omega
      obtain ⟨x, hx⟩ : ∃ x, a[b.length]? = some x := ⟨_, List.getElem?_eq_getElem (by omega)⟩
      have h4 : (b.length : Int) ≥ (b.length : Int) := Int.le_refl _
      simp only [qdf, Int.natCast_nonneg, Int.toNat_natCast, List.getElem?_map, Option.map_some, h3, h4, hx, qcm, Ev.exec, qb, qe, qc, qag, Ev.Opnd.ev, Ev.Env.get, Ev.Env.set, Ev.look, qh, qab, qo, qb5, List.length_map, ↓qq, Ev.it1, ↓reduceIte, List.length_cons, List.length_nil, List.head?_cons, Nat.reduceEqDiff, reduceCtorEq, decide_true, zfa, zfd, eq_self]
      exact ⟨_, rfl, .inr ⟨by omega, rfl, rfl, rfl, rfl⟩⟩
theorem qwq (h1 : a.length ≤ 9223372036854775807) (h2 : b.length ≤ 9223372036854775807) : qaz (evL T) qdz [(.fsl ((a).map qcm) c), (.fsl ((b).map qcm) d)] = some (ii (qlp a b)) := by
  obtain ⟨⟨y, e, σ⟩, k1, k2⟩ := qyt a b c d h1 h2
  simp only at k2
  obtain ⟨z1, z2⟩ := qwu a b
  rw [qaz, qs qow qnq]
  rcases k2 with ⟨k3, ⟨k7, rfl, k4, rfl, k5, k6⟩ | ⟨k7, rfl, k4, rfl, k5⟩⟩ | ⟨k3, x, k7, rfl, k4, rfl, k5⟩
  · rw [z1 k3]
    by_cases hl : (a.length : Int) < (b.length : Int)
    · simp only [qdc, k1, k4, k5, k6, hl, qrq, qar, qm, Ev.exec, qb, qe, qc, qag, Ev.Opnd.ev, Ev.Env.get, Ev.Env.set, Ev.look, qn, qo, ql, qx, qae, Ev.kill, qad, qr, Ev.keep, qai, qy, qd, qay, qw, qah, List.length_map, ↓qq, ↓qak, ↓reduceIte, List.length_cons, List.length_nil, zfe, Nat.reduceAdd, Nat.reduceEqDiff, Int.reduceNeg, reduceCtorEq, decide_true, zfc, and_self, zfd, eq_self]
    · have hg : ¬ (a.length : Int) > (b.length : Int) := by omega
      simp only [qdc, k1, k4, k5, k6, hl, hg, qrq, qar, qm, Ev.exec, qb, qe, qc, qag, Ev.Opnd.ev, Ev.Env.get, Ev.Env.set, Ev.look, qn, qo, ql, qx, qae, Ev.kill, qad, qr, Ev.keep, qai, qy, qd, qay, qw, qah, List.length_map, ↓qq, ↓qak, ↓reduceIte, List.length_cons, List.length_nil, zfe, Nat.reduceAdd, Nat.reduceEqDiff, Int.reduceNeg, reduceCtorEq, decide_false, zfc, zfa, and_self, zfd, eq_self]
  · have hl : ¬ (a.length : Int) < (b.length : Int) := by omega
    have hg : (a.length : Int) > (b.length : Int) := by omega
    rw [z1 k3]
    simp only [qdc, k1, k4, k5, hl, hg, qrq, qar, qm, Ev.exec, qb, qe, qc, qag, Ev.Opnd.ev, Ev.Env.get, Ev.Env.set, Ev.look, qn, ql, qx, qae, Ev.kill, qad, qr, Ev.keep, qai, qy, qd, qay, qw, qah, List.length_map, ↓qq, ↓qak, ↓reduceIte, List.length_cons, List.length_nil, zfe, Nat.reduceAdd, Nat.reduceEqDiff, Int.reduceNeg, reduceCtorEq, zfc, and_self, zfd, eq_self]
  · rw [z2 x k7]
    simp only [qdc, k1, k4, k5, qar, qm, Ev.exec, qb, qe, qc, qag, Ev.Opnd.ev, Ev.Env.get, Ev.Env.set, Ev.look, qn, ql, qx, qae, Ev.kill, qad, qr, Ev.keep, qai, qy, qd, qay, qw, qah, List.length_map, ↓qq, ↓qak, ↓reduceIte, List.length_cons, List.length_nil, zfe, Nat.reduceAdd, Nat.reduceEqDiff, Int.reduceNeg, reduceCtorEq, zfc, and_self, zfd, eq_self]
theorem qt8 (h1 : a.length ≤ 9223372036854775807) (h2 : b.length ≤ 9223372036854775807) : qaz (evL T) qfv [(.fsl ((a).map qcm) c), (.fsl ((b).map qcm) d)] = some (ii (qlp a b)) := by
  have h := qwq a b c d h1 h2
  rw [qaz, qs qtf qsi]
  simp only [qja, h, qar, qm, Ev.exec, qb, qe, qc, qaw, qag, Ev.evs, Ev.Opnd.ev, Ev.Env.get, Ev.Env.set, Ev.look, qn, ql, qx, qae, Ev.kill, qad, qd, qay, qw, qj, qk, qah, ↓qq, ↓reduceIte, List.length_cons, List.length_nil, zfe, Nat.reduceAdd, Nat.reduceEqDiff, reduceCtorEq, zfc, and_self, zfd, eq_self]
end
def qv4 (x y : Evt) : Int := if qrq x.time y.time = 0 then qlp x.key y.key else qrq x.time y.time
theorem qka (x y : Evt) (hx : x.key.length ≤ 9223372036854775807) (hy : y.key.length ≤ 9223372036854775807) (rs : Nat) (es : List (List AV)) (g : Nat) :
    (evL T).call qu [(.agg [(ii x.time), (.fsl ((x.key).map qcm) false), (ii x.lp), (ii x.kind), (ii x.proc), (ii x.arg)]), (.agg [(ii y.time), (.fsl ((y.key).map qcm) false), (ii y.lp), (ii y.kind), (ii y.proc), (ii y.arg)])] [.row rs es g] = some ((ii (qv4 x y)), [.row rs es g]) := by
  obtain ⟨xt, xk, xl, xi, xp, xa⟩ := x
  obtain ⟨yt, yk, yl, yi, yp, ya⟩ := y
  have hc := qp4 xt yt
  have hk := qt8 xk yk false false hx hy
  have hf := q2j (qrq xt yt) (qlp xk yk) true
  simp only [List.map_cons, List.map_nil, qcm] at hf
  rw [qs qr1 qqt]
  simp only [qhy, show ∀ v : List AV, List.replicate 2 v = [v, v] from fun _ => rfl, hc, hk, hf, qv4, ite_self, qar, qm, Ev.exec, qb, qe, qc, qaw, qag, Ev.evs, Ev.Opnd.ev, Ev.Env.get, Ev.Env.set, Ev.look, qn, qh, qab, qh9, Ev.AV.cells, Ev.AV.uc, qv, Ev.AV.plain, ql, qx, qae, Ev.kill, qad, qd, Ev.SObj.lo, qay, qw, qj, qk, qaf, qaq, ↓qq, ↓reduceIte, List.length_cons, List.length_nil, List.take_succ_cons, zfe, List.drop_succ_cons, List.drop_zero, List.set_cons_zero, List.set_cons_succ, List.head?_cons, Nat.reduceAdd, Nat.reduceEqDiff, Nat.reduceMul, Nat.reduceLT, Nat.reduceLeDiff, Nat.reducePow, reduceCtorEq, zfc, Bool.and_true, zfa, and_self, true_and, ne_eq, zfb, zff, zfd, Nat.lt_add_one, eq_self]
end Go.Proofs.YthkjkdbjgpeigaaGreat.K
namespace Go.Ev
section
variable {α : Type}
theorem qpz {D L M : List α} {x : α} {n : Nat} (h : D = L ++ x :: M) (hn : n = L.length) : D[n]? = some x := by
  subst h hn; simp
theorem qx0 {D L X M : List α} {i n : Nat} (h : D = L ++ (X ++ M)) (hi : i < X.length) (hn : n = L.length + i) : D[n]? = X[i]? := by
  subst h hn
  rw [List.getElem?_append_right (by omega), List.getElem?_append_left (by omega)]
  congr 1; omega
theorem q6f {D L M : List α} {x y : α} {n m : Nat} (h : D = L ++ y :: x :: M) (hn : n = L.length) (hm : m = n + 1) : (D.set m y).set n x = L ++ x :: y :: M := by
  subst h hm hn; simp []
theorem q89 {D L M : List α} {x y : α} {n m : Nat} (h : D = L ++ y :: x :: M) (hn : n = L.length) (hm : m = n + 1) : (D.set n x).set m y = L ++ x :: y :: M := by
  subst h hm hn; simp []
theorem swap_far {D L M N : List α} {x y : α} {n m : Nat} (h : D = L ++ x :: (M ++ y :: N)) (hn : n = L.length) (hm : m = n + 1 + M.length) : (D.set n y).set m x = L ++ y :: (M ++ x :: N) := by
  subst h hm hn
  rw [List.set_append, if_neg (Nat.lt_irrefl _), Nat.sub_self, List.set_cons_zero, List.set_append, if_neg (by omega), show L.length + 1 + M.length - L.length = M.length + 1 by omega, List.set_cons_succ, List.set_append, if_neg (Nat.lt_irrefl _), Nat.sub_self, List.set_cons_zero]
variable {R : α → α → Prop}
theorem cross (tr : ∀ a b c, R a b → R b c → R a c) {X Y : List α} (hX : X.Pairwise R) (hY : Y.Pairwise R) (h : ∀ u v, X[X.length - 1]? = some u → Y[0]? = some v → R u v) : ∀ a ∈ X, ∀ b ∈ Y, R a b := by
  intro a ha b hb
  obtain ⟨i, hi⟩ := List.mem_iff_getElem?.1 ha
  obtain ⟨j, hj⟩ := List.mem_iff_getElem?.1 hb
  obtain ⟨hi', hi⟩ := List.getElem?_eq_some_iff.1 hi
  obtain ⟨hj', hj⟩ := List.getElem?_eq_some_iff.1 hj
  rw [List.pairwise_iff_getElem] at hX hY
  have h0 := h _ _ (List.getElem?_eq_getElem (by omega)) (List.getElem?_eq_getElem (by omega))
  have h1 : R a Y[0] := by
    by_cases c : i = X.length - 1
    · subst c; rw [← hi]; exact h0
    · exact tr _ _ _ (by rw [← hi]; exact hX i (X.length - 1) hi' (by omega) (by omega)) h0
  by_cases c : j = 0
  · subst c; rw [← hj]; exact h1
  · exact tr _ _ _ h1 (by rw [← hj]; exact hY 0 j (by omega) hj' (by omega))
theorem q68 (tr : ∀ a b c, R a b → R b c → R a c) {X1 X2 Y1 Y2 Z1 Z2 : List α} (hX : (X1 ++ X2).Pairwise R) (hY : (Y1 ++ Y2).Pairwise R)
    (h1 : ∀ u v, X1[X1.length - 1]? = some u → Y2[0]? = some v → R u v) (h2 : ∀ u v, Y1[Y1.length - 1]? = some u → X2[0]? = some v → R u v)
    (p1 : Z1.Perm (X1 ++ Y1)) (p2 : Z2.Perm (X2 ++ Y2)) (s1 : Z1.Pairwise R) (s2 : Z2.Pairwise R) : (Z1 ++ Z2).Perm (X1 ++ X2 ++ (Y1 ++ Y2)) ∧ (Z1 ++ Z2).Pairwise R := by
  obtain ⟨x1, x2, x3⟩ := List.pairwise_append.1 hX
  obtain ⟨y1, y2, y3⟩ := List.pairwise_append.1 hY
  have c1 := cross tr x1 y2 h1
  have c2 := cross tr y1 x2 h2
  refine ⟨(p1.append p2).trans ?_, List.pairwise_append.2 ⟨s1, s2, ?_⟩⟩
  · rw [List.append_assoc, List.append_assoc]
    refine List.Perm.append_left X1 ?_
    rw [← List.append_assoc, ← List.append_assoc]
    exact List.Perm.append_right Y2 List.perm_append_comm
  · intro a ha b hb
    rw [p1.mem_iff, List.mem_append] at ha
    rw [p2.mem_iff, List.mem_append] at hb
    rcases ha with ha | ha <;> rcases hb with hb | hb
    · exact x3 a ha b hb
    · exact c1 a ha b hb
    · exact c2 a ha b hb
    · exact y3 a ha b hb
theorem qpt (tr : ∀ a b c, R a b → R b c → R a c) {A B : List α} {x : α} (h : (A ++ B).Pairwise R) (h1 : ∀ u, A[A.length - 1]? = some u → R u x) (h2 : ∀ v, B[0]? = some v → R x v) : (A ++ x :: B).Pairwise R := by
  obtain ⟨a1, a2, a3⟩ := List.pairwise_append.1 h
  have c1 := cross tr a1 (List.pairwise_singleton R x) (fun u v hu hv => by simp at hv; subst hv; exact h1 u hu)
  have c2 := cross tr (List.pairwise_singleton R x) a2 (fun u v hu hv => by simp at hu; subst hu; exact h2 v hv)
  refine List.pairwise_append.2 ⟨a1, List.pairwise_cons.2 ⟨fun b hb => c2 x (by simp) b hb, a2⟩, fun a ha b hb => ?_⟩
  rcases List.mem_cons.1 hb with rfl | hb
  · exact c1 a ha _ (by simp)
  · exact a3 a ha b hb
inductive Blk (R : α → α → Prop) (s : Nat) : List α → Prop
  | last {l : List α} : l.length ≤ s → l.Pairwise R → Blk R s l
  | more {X Y : List α} : X.length = s → X.Pairwise R → Blk R s Y → Blk R s (X ++ Y)
theorem Blk.sorted {s : Nat} {l : List α} (h : Blk R s l) (hs : l.length ≤ s) : l.Pairwise R := by
  cases h with
  | last _ h => exact h
  | @more X Y h1 h2 h3 =>
    rw [List.length_append] at hs
    obtain rfl := List.eq_nil_of_length_eq_zero (l := Y) (by omega)
    simpa using h2
theorem Blk.split {s : Nat} {l : List α} (h : Blk R s l) (hs : s < l.length) : ∃ X Y, l = X ++ Y ∧ X.length = s ∧ X.Pairwise R ∧ Blk R s Y := by
  cases h with
  | last h1 _ => omega
  | @more X Y h1 h2 h3 => exact ⟨X, Y, rfl, h1, h2, h3⟩
theorem Blk.nil {s : Nat} : Blk R s ([] : List α) := .last (Nat.zero_le _) .nil
theorem qjn {f : Env → qaa → R3} {s : Env → qaa → Option (Env × qaa)} {τ : Type} (E : τ → Env) (S : τ → qaa) (m : τ → Nat) (Inv : τ → Prop) (Q : CExit × Env × qaa → Prop)
    (step : ∀ a, Inv a → (∃ a', it1 f s (E a) (S a) = some (.inl (E a', S a')) ∧ Inv a' ∧ m a' < m a) ∨ ∃ y, it1 f s (E a) (S a) = some (.inr y) ∧ Q y) :
    ∀ a, Inv a → ∃ y, itB f s (E a) (S a) = some y ∧ Q y := by
  have : ∀ k a, m a ≤ k → Inv a → ∃ y, itB f s (E a) (S a) = some y ∧ Q y := by
    intro k
    induction k with
    | zero =>
      intro a hk ha
      rcases step a ha with ⟨a', h1, h2, h3⟩ | ⟨y, h1, h2⟩
      · omega
      · exact ⟨y, qlt h1, h2⟩
    | succ k ih =>
      intro a hk ha
      rcases step a ha with ⟨a', h1, h2, h3⟩ | ⟨y, h1, h2⟩
      · obtain ⟨y, h4, h5⟩ := ih a' (by omega) h2
        exact ⟨y, qkm h1 h4, h5⟩
      · exact ⟨y, qlt h1, h2⟩
  exact fun a => this (m a) a (Nat.le_refl _)
end
end Go.Ev
namespace Go.Proofs.YthkjkdbjgpeigaaGreat.K
open Go.Ev
set_option maxRecDepth 10000
theorem qmg {a b : Nat} (h : a + b < 2 ^ 62) : IntKind.i64.wrap ((a : Int) + (b : Int)) = ((a + b : Nat) : Int) := by rw [qao (by omega) (by omega)]; simp
theorem qrt {a : Nat} (h : a < 2 ^ 62) : IntKind.i64.wrap ((a : Int) + 1) = ((a + 1 : Nat) : Int) := by rw [qao (by omega) (by omega)]; simp
theorem qfk {a b c : Nat} (h : a = b + c) (h2 : a < 2 ^ 62) : IntKind.i64.wrap ((a : Int) - (b : Int)) = (c : Int) := by rw [qao (by omega) (by omega)]; omega
theorem qv5 {a c : Nat} (h : a = c + 1) (h2 : a < 2 ^ 62) : IntKind.i64.wrap ((a : Int) - 1) = (c : Int) := by rw [qao (by omega) (by omega)]; omega
section
variable (g : Nat) (cl : Bool) (n : Nat)
theorem qs4 (L X M Y N : List Evt) (hXY : Y.length = X.length) (hn : n = (L ++ (X ++ (M ++ (Y ++ N)))).length) (hb : n < 2 ^ 61) (a b : Nat) (ha : a = L.length) (hbb : b = L.length + X.length + M.length) :
    (evL T).call qba [.sl 0 g 0 n cl, (ii a), (ii b), (ii X.length), (.fn (.func qu) [] [])] [.row 6 ((L ++ (X ++ (M ++ (Y ++ N)))).map Evt.r) g] = some (.tup [], [.row 6 ((L ++ (Y ++ (M ++ (X ++ N)))).map Evt.r) g]) := by
  have hlen : n = L.length + (X.length + (M.length + (Y.length + N.length))) := by rw [hn]; simp
  have key := qhi (f := exec (evL T) itL none qcs) (s := qr [0, 1, 2, 3, 10] true 1) (α := List Evt)
    (fun i D => ⟨[(0, .sl 0 g 0 n cl), (1, (ii a)), (2, (ii b)), (3, (ii X.length)), (10, (ii i))], []⟩) (fun i D => [.row 6 ((D).map Evt.r) g])
    (fun i D => D = L ++ ((Y.take i ++ X.drop i) ++ (M ++ ((X.take i ++ Y.drop i) ++ N)))) X.length
    (fun y => y.1 = .exit 0 ∧ y.2.1.marks = [] ∧ y.2.2 = [.row 6 ((L ++ (Y ++ (M ++ (X ++ N)))).map Evt.r) g]) ?_ ?_ 0 _ (Nat.zero_le _) rfl
  · obtain ⟨⟨y, e, σ⟩, k1, k2, k3, k4⟩ := key
    simp only [List.take_zero, List.drop_zero, List.nil_append, Int.cast_ofNat_Int] at k1 k2 k3 k4
    subst k2; subst k4
    rw [qs qjx qjr]
    simp only [qde, k1, k3, qac, qm, Ev.exec, qb, qe, qc, qag, Ev.Opnd.ev, Ev.Env.get, Ev.Env.set, Ev.look, qn, ql, qae, Ev.kill, qad, qr, Ev.keep, qai, qy, qd, Ev.SObj.lo, qay, qbc, qb2, qj, ↓qq, ↓qak, ↓reduceIte, List.length_cons, List.length_nil, List.take_succ_cons, zfe, Nat.reduceAdd, Nat.reduceEqDiff, reduceCtorEq, decide_true, zfc, and_self, zfd, Nat.lt_add_one, eq_self]
  · rintro i D hi hD
    obtain ⟨x, hx⟩ : ∃ x, X[i]? = some x := ⟨_, List.getElem?_eq_getElem hi⟩
    obtain ⟨y, hy⟩ : ∃ y, Y[i]? = some y := ⟨_, List.getElem?_eq_getElem (by omega)⟩
    have dx : X.drop i = x :: X.drop (i + 1) := by obtain ⟨_, rfl⟩ := List.getElem?_eq_some_iff.1 hx; exact List.drop_eq_getElem_cons hi
    have dy : Y.drop i = y :: Y.drop (i + 1) := by obtain ⟨_, rfl⟩ := List.getElem?_eq_some_iff.1 hy; exact List.drop_eq_getElem_cons (by omega)
    have e1 : D = (L ++ Y.take i) ++ x :: ((X.drop (i + 1) ++ (M ++ X.take i)) ++ y :: (Y.drop (i + 1) ++ N)) := by rw [hD, dx, dy]; simp
    have l1 : a + i = (L ++ Y.take i).length := by simp; omega
    have l2 : b + i = a + i + 1 + (X.drop (i + 1) ++ (M ++ X.take i)).length := by simp; omega
    have gx : D[a + i]? = some x := qpz e1 l1
    have gy : D[b + i]? = some y := by
      refine qpz (L := (L ++ Y.take i) ++ x :: (X.drop (i + 1) ++ (M ++ X.take i))) (M := Y.drop (i + 1) ++ N) (by rw [e1]; simp) ?_
      rw [l2, l1]; simp; omega
    have ge : D.length = n := by rw [e1, hlen]; simp; omega
    have sw := swap_far e1 l1 l2
    have hne : ¬ (a + i = b + i) := by omega
    have hi' : (i : Int) < (X.length : Int) := by omega
    have wa : IntKind.i64.wrap ((a : Int) + (i : Int)) = ((a + i : Nat) : Int) := qmg (by omega)
    have wb : IntKind.i64.wrap ((b : Int) + (i : Int)) = ((b + i : Nat) : Int) := qmg (by omega)
    have wi : IntKind.i64.wrap ((i : Int) + 1) = ((i + 1 : Nat) : Int) := qrt (by omega)
    have ra : a + i < n := by omega
    have rb : b + i < n := by omega
    obtain ⟨xt, xk, xl, xi, xp, xa⟩ := x
    obtain ⟨yt, yk, yl, yi, yp, ya⟩ := y
    have hs : ∀ v, ((D.map Evt.r).set (a + i) v)[b + i]? = some (Evt.r ⟨yt, yk, yl, yi, yp, ya⟩) := fun v => by rw [List.getElem?_set_ne hne, List.getElem?_map, gy]; rfl
    have hlo := qac 1 ((D.set (a + i) ⟨yt, yk, yl, yi, yp, ya⟩).set (b + i) ⟨xt, xk, xl, xi, xp, xa⟩)
    simp only [List.map_set, Evt.r] at hlo
    refine .inl ⟨(D.set (a + i) ⟨yt, yk, yl, yi, yp, ya⟩).set (b + i) ⟨xt, xk, xl, xi, xp, xa⟩, ?_, ?_⟩
    · simp only [qcs, Int.natCast_nonneg, Int.toNat_natCast, List.getElem?_map, Option.map_some, gx, gy, hs, hi', wa, wb, wi, ra, rb, hlo, List.map_set, Evt.r, Ev.exec, qb, qe, qc, qag, Ev.Opnd.ev, Ev.Env.get, Ev.Env.set, Ev.look, qh, qab, Ev.AV.cells, qv, Ev.AV.plain, qaj, qo, qr, Ev.keep, qai, qy, qd, Ev.SObj.lo, qay, qb2, ↓qq, Ev.it1, ↓reduceIte, List.length_cons, List.length_nil, List.getElem?_cons_zero, List.take_succ_cons, List.take_zero, zfe, List.drop_succ_cons, List.drop_zero, List.drop_nil, List.nil_append, List.append_nil, List.set_cons_zero, Nat.reduceAdd, Nat.reduceEqDiff, reduceCtorEq, decide_true, zfc, and_self, zfd, Nat.lt_add_one, Nat.le_refl, eq_self]
    · rw [sw, qea hx, qea hy]; simp
  · rintro D hD
    have hD' : D = L ++ (Y ++ (M ++ (X ++ N))) := by rw [hD, ← hXY, List.take_length, List.drop_length, hXY, List.take_length, List.drop_length]; simp
    subst hD'
    simp only [qcs, Int.lt_irrefl, Ev.exec, qb, qe, qc, qag, Ev.Opnd.ev, Ev.Env.get, Ev.Env.set, Ev.look, qo, ↓qq, Ev.it1, ↓reduceIte, Nat.reduceEqDiff, reduceCtorEq, decide_false, zfa, eq_self]
    exact ⟨_, rfl, rfl, rfl, rfl⟩
end
open Go.Ev
theorem q8g (a b : Int) : qrq b a = -qrq a b := by unfold qrq; split <;> split <;> (try split) <;> omega
theorem qkd (a b : Int) : (qrq a b < 0 ↔ a < b) ∧ (qrq a b = 0 ↔ a = b) ∧ (0 < qrq a b ↔ b < a) := by
  unfold qrq
  split
  · refine ⟨?_, ?_, ?_⟩ <;> omega
  split
  · refine ⟨?_, ?_, ?_⟩ <;> omega
  · refine ⟨?_, ?_, ?_⟩ <;> omega
theorem q5p : ∀ a b : List Int, qlp b a = -qlp a b
  | [], [] => rfl
  | [], y :: b => by simp [qlp]
  | x :: a, [] => by simp [qlp]
  | x :: a, y :: b => by
    simp only [qlp]
    by_cases h : x = y
    · subst h; simp only [if_true]; exact q5p a b
    · rw [if_neg h, if_neg (fun e => h e.symm)]; exact q8g x y
theorem q01 : ∀ a b c : List Int, qlp a b ≤ 0 → qlp b c ≤ 0 → qlp a c ≤ 0
  | [], b, c, _, _ => by cases c <;> simp [qlp]
  | x :: a, [], c, h, _ => by simp [qlp] at h
  | x :: a, y :: b, [], _, h => by simp [qlp] at h
  | x :: a, y :: b, z :: c, h1, h2 => by
    simp only [qlp] at h1 h2 ⊢
    have c1 := qkd x y
    have c2 := qkd y z
    have c3 := qkd x z
    by_cases e1 : x = y
    · subst e1
      rw [if_pos rfl] at h1
      by_cases e2 : x = z
      · subst e2; rw [if_pos rfl] at h2 ⊢; exact q01 a b c h1 h2
      · rw [if_neg e2] at h2 ⊢; exact h2
    · rw [if_neg e1] at h1
      by_cases e2 : y = z
      · subst e2; rw [if_neg e1]; exact h1
      · rw [if_neg e2] at h2
        have : ¬ x = z := by intro e; omega
        rw [if_neg this]
        omega
def leE (x y : Evt) : Prop := qv4 x y ≤ 0
theorem qtw (x y : Evt) : qv4 y x = -qv4 x y := by
  unfold qv4
  have := q8g x.time y.time
  have := q5p x.key y.key
  by_cases h : qrq x.time y.time = 0
  · rw [if_pos h, if_pos (by omega)]; assumption
  · rw [if_neg h, if_neg (by omega)]; assumption
theorem qof (x y z : Evt) (h1 : leE x y) (h2 : leE y z) : leE x z := by
  unfold leE qv4 at *
  have c1 := qkd x.time y.time
  have c2 := qkd y.time z.time
  have c3 := qkd x.time z.time
  by_cases e1 : qrq x.time y.time = 0
  · rw [if_pos e1] at h1
    by_cases e2 : qrq y.time z.time = 0
    · rw [if_pos e2] at h2
      rw [if_pos (by omega)]; exact q01 _ _ _ h1 h2
    · rw [if_neg e2] at h2
      rw [if_neg (by omega)]; omega
  · rw [if_neg e1] at h1
    by_cases e2 : qrq y.time z.time = 0
    · rw [if_neg (by omega)]; omega
    · rw [if_neg e2] at h2
      rw [if_neg (by omega)]; omega
theorem qtk (x y : Evt) (h : ¬ qv4 x y < 0) : leE y x := by unfold leE; have := qtw x y; omega
theorem q77 (x y : Evt) (h : qv4 x y < 0) : leE x y := by unfold leE; omega
theorem q1p (x y : Evt) : qv4 x y = 0 ↔ x.time = y.time ∧ x.key = y.key := by
  unfold qv4
  have := qkd x.time y.time
  have := qxa x.key y.key
  by_cases h : qrq x.time y.time = 0
  · rw [if_pos h]; constructor
    · intro k; exact ⟨by omega, by simpa [k] using this⟩
    · intro k; exact this.2 k.2
  · rw [if_neg h]; constructor
    · intro k; exact absurd k h
    · intro k; omega
open Go.Ev
set_option maxRecDepth 10000
section
variable (g : Nat) (cl : Bool) (n : Nat)
def qgo (D : List Evt) : Prop := ∀ x ∈ D, x.key.length ≤ 9223372036854775807
theorem q0s (P S Q : List Evt) (x : Evt) (hn : n = (P ++ (S ++ x :: Q)).length) (hb : n < 2 ^ 61) (hk : qgo (P ++ (S ++ x :: Q))) (hS : S.Pairwise leE) (a : Nat) (ha : a = P.length) (b i : Int) :
    ∃ y, itB (exec (evL T) itL none qbt) (qr [0, 1, 2, 3, 8, 9] true 1) ⟨[(0, .sl 0 g 0 n cl), (1, (ii a)), (2, (ii b)), (3, (.fn (.func qu) [] [])), (8, (ii i)), (9, (ii ((a + S.length : Nat))))], []⟩ [.row 6 ((P ++ (S ++ x :: Q)).map Evt.r) g] = some y ∧
      (y.1 = .exit 2 ∧ y.2.1.marks = [] ∧ Ev.look y.2.1.vars 0 = some (.sl 0 g 0 n cl) ∧ Ev.look y.2.1.vars 1 = some (ii a) ∧ Ev.look y.2.1.vars 2 = some (ii b) ∧ Ev.look y.2.1.vars 3 = some (.fn (.func qu) [] []) ∧ Ev.look y.2.1.vars 8 = some (ii i) ∧ ∃ S' : List Evt, S'.Perm (x :: S) ∧ S'.Pairwise leE ∧ y.2.2 = [.row 6 ((P ++ (S' ++ Q)).map Evt.r) g]) := by
  refine qjn (τ := List Evt × Nat) (fun s => ⟨[(0, .sl 0 g 0 n cl), (1, (ii a)), (2, (ii b)), (3, (.fn (.func qu) [] [])), (8, (ii i)), (9, (ii s.2))], []⟩) (fun s => [.row 6 ((s.1).map Evt.r) g]) (fun s => s.2)
    (fun s => ∃ A B, s.1 = P ++ (A ++ x :: (B ++ Q)) ∧ s.2 = a + A.length ∧ A ++ B = S ∧ ∀ v, B[0]? = some v → leE x v) _ ?_ (P ++ (S ++ x :: Q), a + S.length) ⟨S, [], by simp, rfl, by simp, by simp⟩
  rintro ⟨D, j⟩ ⟨A, B, hD, hj, hAB, hB⟩
  simp only at hD hj ⊢
  have hlen : n = P.length + (S.length + (Q.length + 1)) := by rw [hn]; simp
  have hSl : S.length = A.length + B.length := by rw [← hAB]; simp
  have fin : (∀ u, A[A.length - 1]? = some u → leE u x) → ∃ S' : List Evt, S'.Perm (x :: S) ∧ S'.Pairwise leE ∧ ([.row 6 ((D).map Evt.r) g] : qaa) = [.row 6 ((P ++ (S' ++ Q)).map Evt.r) g] := fun h => by
    refine ⟨A ++ x :: B, ?_, qpt qof (by rw [hAB]; exact hS) h hB, by rw [hD]; simp⟩
    rw [← hAB]; exact List.perm_middle
  rcases List.eq_nil_or_concat A with rfl | ⟨A0, y, rfl⟩
  · have h1 : ¬ (j : Int) > (a : Int) := by simp at hj; omega
    refine .inr ?_
    simp only [qbt, h1, Ev.exec, qb, qe, qc, qag, Ev.Opnd.ev, Ev.Env.get, Ev.Env.set, Ev.Env.unset, Ev.look, qav, ↓qq, Ev.it1, ↓reduceIte, Nat.reduceEqDiff, reduceCtorEq, decide_false, zfa, eq_self]
    exact ⟨_, rfl, rfl, rfl, rfl, rfl, rfl, rfl, rfl, fin (by simp)⟩
  · simp only [List.concat_eq_append, List.length_append, List.length_cons, List.length_nil] at hD hj hSl hAB fin
    obtain ⟨k, hk1⟩ : ∃ k, k = a + A0.length := ⟨_, rfl⟩
    have hjk : j = k + 1 := by omega
    have h1 : (j : Int) > (a : Int) := by omega
    have e1 : D = (P ++ A0) ++ y :: x :: (B ++ Q) := by rw [hD]; simp
    have l1 : k = (P ++ A0).length := by simp; omega
    have gy : D[k]? = some y := qpz e1 l1
    have gx : D[j]? = some x := qpz (L := P ++ A0 ++ [y]) (M := B ++ Q) (by rw [e1]; simp) (by simp; omega)
    have ge : D.length = n := by rw [e1, hlen]; simp; omega
    have ws : IntKind.i64.wrap ((j : Int) - 1) = (k : Int) := qv5 hjk (by omega)
    have rj : j < n := by omega
    have rk : k < n := by omega
    have kx : x.key.length ≤ 9223372036854775807 := hk x (by simp)
    have ky : y.key.length ≤ 9223372036854775807 := hk y (by rw [← hAB]; simp)
    have hc := qka x y kx ky 6 (D.map Evt.r) g
    have sw := q6f e1 l1 hjk
    have hne : ¬ (j = k) := by omega
    by_cases hlt : qv4 x y < 0
    · left
      have hle := q77 x y hlt
      obtain ⟨x', rfl⟩ : ∃ z, x = z := ⟨x, rfl⟩
      have hlo := qac 1 ((D.set j y).set k x)
      refine ⟨((D.set j y).set k x, k), ?_, ⟨A0, y :: B, by rw [sw]; simp, hk1, by rw [← hAB]; simp, fun v hv => by simp at hv; rw [← hv]; exact hle⟩, by simp only; omega⟩
      obtain ⟨xt, xk, xl, xi, xp, xa⟩ := x
      obtain ⟨yt, yk, yl, yi, yp, ya⟩ := y
      have hs : ∀ v, ((D.map Evt.r).set j v)[k]? = some (Evt.r ⟨yt, yk, yl, yi, yp, ya⟩) := fun v => by rw [List.getElem?_set_ne hne, List.getElem?_map, gy]; rfl
      simp only [List.map_set, Evt.r] at hlo
      simp only at hc
      simp only [qbt, Int.natCast_nonneg, Int.toNat_natCast, List.getElem?_map, Option.map_some, gx, gy, hs, h1, ws, rj, rk, hc, hlt, hlo, List.map_set, Evt.r, Ev.exec, qb, qe, qc, qii, qag, Ev.evs, Ev.Opnd.ev, Ev.Env.get, Ev.Env.set, Ev.look, qh, qab, Ev.AV.cells, qv, Ev.AV.plain, qce, qo, qav, qr, Ev.keep, qai, qy, qd, Ev.SObj.lo, qay, qb2, qdj, qj, ↓qq, Ev.it1, ↓reduceIte, List.length_cons, List.length_nil, List.getElem?_cons_zero, List.take_succ_cons, List.take_zero, zfe, List.drop_succ_cons, List.drop_zero, List.drop_nil, List.nil_append, List.append_nil, List.set_cons_zero, Nat.reduceAdd, Nat.reduceEqDiff, reduceCtorEq, decide_true, zfc, and_self, zfd, Nat.lt_add_one, Nat.le_refl, eq_self]
    · right
      have hf := fin (fun u hu => by simp at hu; rw [← hu]; exact qtk x y hlt)
      obtain ⟨xt, xk, xl, xi, xp, xa⟩ := x
      obtain ⟨yt, yk, yl, yi, yp, ya⟩ := y
      simp only at hc
      simp only [qbt, Int.natCast_nonneg, Int.toNat_natCast, List.getElem?_map, Option.map_some, gx, gy, h1, ws, rj, rk, hc, hlt, Evt.r, Ev.exec, qb, qe, qc, qii, qag, Ev.evs, Ev.Opnd.ev, Ev.Env.get, Ev.Env.set, Ev.look, qh, qab, qce, qo, qav, ↓qq, Ev.it1, ↓reduceIte, List.length_cons, List.length_nil, List.getElem?_cons_zero, List.take_succ_cons, zfe, List.drop_zero, List.nil_append, List.append_nil, Nat.reduceAdd, Nat.reduceEqDiff, reduceCtorEq, decide_true, decide_false, zfa, and_self, zfd, Nat.le_refl, eq_self]
      exact ⟨_, rfl, rfl, rfl, rfl, rfl, rfl, rfl, rfl, hf⟩
theorem qx4 (P S Q : List Evt) (hn : n = (P ++ (S ++ Q)).length) (hb : n < 2 ^ 61) (hk : qgo (P ++ (S ++ Q))) (a b : Nat) (ha : a = P.length) (hbb : b = a + S.length) :
    ∃ S' : List Evt, S'.Perm S ∧ S'.Pairwise leE ∧ (evL T).call qbd [.sl 0 g 0 n cl, (ii a), (ii b), (.fn (.func qu) [] [])] [.row 6 ((P ++ (S ++ Q)).map Evt.r) g] = some (.tup [], [.row 6 ((P ++ (S' ++ Q)).map Evt.r) g]) := by
  have hlen : n = P.length + (S.length + Q.length) := by rw [hn]; simp
  have key := qjn (f := exec (evL T) itL none qbw) (s := qr [0, 1, 2, 3, 8] true 1) (τ := List Evt × Nat)
    (fun s => ⟨[(0, .sl 0 g 0 n cl), (1, (ii a)), (2, (ii b)), (3, (.fn (.func qu) [] [])), (8, (ii s.2))], []⟩) (fun s => [.row 6 ((s.1).map Evt.r) g]) (fun s => b - s.2)
    (fun s => (∃ A B, s.1 = P ++ (A ++ (B ++ Q)) ∧ s.2 = a + A.length ∧ (A ++ B).Perm S ∧ A.Pairwise leE) ∨ S = [] ∧ s.1 = P ++ Q ∧ s.2 = a + 1)
    (fun y => y.1 = .exit 0 ∧ y.2.1.marks = [] ∧ ∃ S' : List Evt, S'.Perm S ∧ S'.Pairwise leE ∧ y.2.2 = [.row 6 ((P ++ (S' ++ Q)).map Evt.r) g]) ?_ (P ++ (S ++ Q), a + 1) ?_
  · obtain ⟨⟨y, e, σ⟩, k1, k2, k3, S', k4, k5, k6⟩ := key
    simp only at k1 k2 k3 k6
    subst k2; subst k6
    refine ⟨S', k4, k5, ?_⟩
    have w1 : IntKind.i64.wrap ((a : Int) + 1) = ((a + 1 : Nat) : Int) := qrt (by omega)
    rw [qs qix qiq]
    simp only [qco, w1, k1, k3, qac, qm, Ev.exec, qb, qe, qc, qag, Ev.Opnd.ev, Ev.Env.get, Ev.Env.set, Ev.look, qn, qaj, ql, qae, Ev.kill, qad, qr, Ev.keep, qai, qy, qd, Ev.SObj.lo, qay, qbc, qb2, qdj, qj, ↓qq, ↓qak, ↓reduceIte, List.length_cons, List.length_nil, List.take_succ_cons, zfe, Nat.reduceAdd, Nat.reduceEqDiff, reduceCtorEq, decide_true, zfc, and_self, zfd, Nat.lt_add_one, eq_self]
  · rintro ⟨D, i⟩ (⟨A, B, hD, hi, hAB, hA⟩ | ⟨hS, hD, hi⟩)
    · simp only at hD hi ⊢
      have hl := hAB.length_eq
      rw [List.length_append] at hl
      cases B with
      | nil =>
        have h1 : ¬ (i : Int) < (b : Int) := by simp at hl; omega
        right
        simp only [qbw, h1, Ev.exec, qb, qe, qc, qag, Ev.Opnd.ev, Ev.Env.get, Ev.Env.set, Ev.look, qo, ↓qq, Ev.it1, ↓reduceIte, Nat.reduceEqDiff, reduceCtorEq, decide_false, zfa, eq_self]
        exact ⟨_, rfl, rfl, rfl, A, by simpa using hAB, hA, by rw [hD]; simp⟩
      | cons x B =>
        rw [List.length_cons] at hl
        have h1 : (i : Int) < (b : Int) := by omega
        have hkD : qgo (P ++ (A ++ x :: (B ++ Q))) := by
          intro z hz
          refine hk z ?_
          simp only [List.mem_append, List.mem_cons] at hz ⊢
          have := hAB.mem_iff (a := z)
          simp only [List.mem_append, List.mem_cons] at this
          rcases hz with h | h | h | h | h
          · exact .inl h
          · exact .inr (.inl (this.1 (.inl h)))
          · exact .inr (.inl (this.1 (.inr (.inl h))))
          · exact .inr (.inl (this.1 (.inr (.inr h))))
          · exact .inr (.inr h)
        obtain ⟨⟨y, e, σ⟩, k1, k2, k3, k4, k5, k6, k7, k8, S', k9, k10, k11⟩ := q0s g cl n P A (B ++ Q) x (by rw [hlen]; simp; omega) hb hkD hA a ha b i
        simp only at k1 k2 k3 k4 k5 k6 k7 k8 k11
        subst k2; subst k11
        have w1 : IntKind.i64.wrap ((i : Int) + 1) = ((i + 1 : Nat) : Int) := qrt (by omega)
        left
        refine ⟨(P ++ (S' ++ (B ++ Q)), i + 1), ?_, .inl ⟨S', B, rfl, ?_, ?_, k10⟩, ?_⟩
        · rw [← hi] at k1
          rw [hD]
          simp only [List.cons_append] at k1 ⊢
          simp only [qbw, h1, w1, k1, k3, k4, k5, k6, k7, k8, qac, Ev.exec, qb, qe, qc, qag, Ev.Opnd.ev, Ev.Env.get, Ev.Env.set, Ev.look, qaj, qo, qr, Ev.keep, qai, qy, qd, Ev.SObj.lo, qay, qb2, qdj, qj, ↓qq, ↓qak, Ev.it1, ↓reduceIte, List.length_cons, List.length_nil, List.take_succ_cons, zfe, Nat.reduceEqDiff, reduceCtorEq, decide_true, zfc, and_self, zfd, Nat.lt_add_one, eq_self]
        · have := k9.length_eq; rw [List.length_cons] at this; simp only; omega
        · exact ((k9.append_right B).trans List.perm_middle.symm).trans hAB
        · simp only; omega
    · simp only at hD hi ⊢
      subst hS
      have h1 : ¬ (i : Int) < (b : Int) := by simp at hbb; omega
      right
      simp only [qbw, h1, Ev.exec, qb, qe, qc, qag, Ev.Opnd.ev, Ev.Env.get, Ev.Env.set, Ev.look, qo, ↓qq, Ev.it1, ↓reduceIte, Nat.reduceEqDiff, reduceCtorEq, decide_false, zfa, eq_self]
      exact ⟨_, rfl, rfl, rfl, [], List.Perm.nil, List.Pairwise.nil, by rw [hD]; simp⟩
  · cases S with
    | nil => exact .inr ⟨rfl, by simp, rfl⟩
    | cons x S => exact .inl ⟨[x], S, by simp, by simp, by simp, List.pairwise_singleton _ _⟩
end
open Go.Ev
set_option maxRecDepth 10000
section
variable (g : Nat) (cl : Bool) (n : Nat)
theorem qabt (L X Y N : List Evt) (hX : 0 < X.length) (hY : 0 < Y.length) (hn : n = (L ++ (X ++ (Y ++ N))).length) (hb : n < 2 ^ 61) (a m b : Nat) (ha : a = L.length) (hm : m = a + X.length) (hbb : b = m + Y.length) :
    (evL T).call qbk [.sl 0 g 0 n cl, (ii a), (ii m), (ii b), (.fn (.func qu) [] [])] [.row 6 ((L ++ (X ++ (Y ++ N))).map Evt.r) g] = some (.tup [], [.row 6 ((L ++ (Y ++ (X ++ N))).map Evt.r) g]) := by
  have hlen : n = L.length + (X.length + (Y.length + N.length)) := by rw [hn]; simp
  have key := qjn (f := exec (evL T) itL none qci) (s := qr [0, 2, 4, 10, 11] true 1) (τ := List Evt × Nat × Nat)
    (fun s => ⟨[(0, .sl 0 g 0 n cl), (2, (ii m)), (4, (.fn (.func qu) [] [])), (10, (ii s.2.1)), (11, (ii s.2.2))], []⟩) (fun s => [.row 6 ((s.1).map Evt.r) g]) (fun s => s.2.1 + s.2.2)
    (fun s => ∃ L' X' Y' N', s.1 = L' ++ (X' ++ (Y' ++ N')) ∧ s.2.1 = X'.length ∧ s.2.2 = Y'.length ∧ 0 < X'.length ∧ 0 < Y'.length ∧ m = L'.length + X'.length ∧ L' ++ (Y' ++ (X' ++ N')) = L ++ (Y ++ (X ++ N)))
    (fun y => ∃ i : Nat, y.1 = .exit 0 ∧ y.2.1.marks = [] ∧ Ev.look y.2.1.vars 0 = some (.sl 0 g 0 n cl) ∧ Ev.look y.2.1.vars 2 = some (ii m) ∧ Ev.look y.2.1.vars 4 = some (.fn (.func qu) [] []) ∧ Ev.look y.2.1.vars 10 = some (ii i) ∧
      ∃ L' X' Y' N' : List Evt, y.2.2 = [.row 6 ((L' ++ (X' ++ (Y' ++ N'))).map Evt.r) g] ∧ i = X'.length ∧ i = Y'.length ∧ m = L'.length + X'.length ∧ L' ++ (Y' ++ (X' ++ N')) = L ++ (Y ++ (X ++ N))) ?_ (L ++ (X ++ (Y ++ N)), X.length, Y.length) ⟨L, X, Y, N, rfl, rfl, rfl, hX, hY, by omega, rfl⟩
  · obtain ⟨⟨y, e, σ⟩, k1, i, k2, k3, k4, k5, k6, k7, L', X', Y', N', k8, k9, k10, k11, k12⟩ := key
    simp only at k1 k2 k3 k4 k5 k6 k7 k8
    subst k2; subst k8
    have hl2 := congrArg List.length k12
    simp only [List.length_append] at hl2
    have w1 : IntKind.i64.wrap ((m : Int) - (a : Int)) = (X.length : Int) := qfk hm (by omega)
    have w2 : IntKind.i64.wrap ((b : Int) - (m : Int)) = (Y.length : Int) := qfk hbb (by omega)
    have w3 : IntKind.i64.wrap ((m : Int) - (i : Int)) = (L'.length : Int) := qfk (by omega) (by omega)
    have sw := qs4 g cl n L' X' [] Y' N' (by omega) (by simp; omega) hb L'.length m rfl (by simp; omega)
    simp only [List.nil_append] at sw
    rw [← k9, k12] at sw
    rw [qs qks qki]
    simp only [qds, w1, w2, w3, k1, k3, k4, k5, k6, k7, sw, qac, qm, Ev.exec, qb, qe, qc, qd2, qag, Ev.evs, Ev.Opnd.ev, Ev.Env.get, Ev.Env.set, Ev.look, qn, qce, ql, qae, Ev.kill, qad, qr, Ev.keep, qai, qy, qd, Ev.SObj.lo, qay, qbc, qb2, qdj, qj, ↓qq, ↓qak, ↓reduceIte, List.length_cons, List.length_nil, List.take_succ_cons, zfe, Nat.reduceAdd, Nat.reduceEqDiff, reduceCtorEq, decide_true, zfc, and_self, zfd, Nat.lt_add_one, eq_self]
  · rintro ⟨D, i, j⟩ ⟨L', X', Y', N', hD, hi, hj, hX', hY', hm', heq⟩
    simp only at hD hi hj ⊢
    have hl2 := congrArg List.length heq
    simp only [List.length_append] at hl2
    by_cases hij : i = j
    · right
      have h1 : (i : Int) = (j : Int) := by omega
      subst hij
      simp only [qci, Ev.exec, qb, qe, qc, qag, Ev.Opnd.ev, Ev.Env.get, Ev.Env.set, Ev.look, qax, ↓qq, Ev.it1, ↓reduceIte, Nat.reduceEqDiff, reduceCtorEq, decide_false, zfa, ne_eq, not_true_eq_false, eq_self]
      exact ⟨_, rfl, i, rfl, rfl, rfl, rfl, rfl, rfl, L', X', Y', N', by rw [hD], hi, hj, hm', heq⟩
    have h1 : ¬ (i : Int) = (j : Int) := by omega
    left
    by_cases hgt : j < i
    · have h2 : (i : Int) > (j : Int) := by omega
      obtain ⟨X1, X2, rfl, hX1⟩ : ∃ X1 X2, X' = X1 ++ X2 ∧ X1.length = j := ⟨X'.take j, X'.drop j, (List.take_append_drop _ _).symm, by simp; omega⟩
      rw [List.length_append] at hi hX' hm' hl2
      have sw := qs4 g cl n L' X1 X2 Y' N' (by omega) (by simp; omega) hb L'.length m rfl (by omega)
      rw [show L' ++ (X1 ++ (X2 ++ (Y' ++ N'))) = D by rw [hD]; simp, hX1] at sw
      have w3 : IntKind.i64.wrap ((m : Int) - (i : Int)) = (L'.length : Int) := qfk (by omega) (by omega)
      have w4 : IntKind.i64.wrap ((i : Int) - (j : Int)) = (X2.length : Int) := qfk (by omega) (by omega)
      refine ⟨(L' ++ (Y' ++ (X2 ++ (X1 ++ N'))), X2.length, j), ?_, ⟨L' ++ Y', X2, X1, N', by simp, rfl, hX1.symm, by omega, by omega, by simp; omega, by rw [← heq]; simp⟩, by first | omega | (simp only; omega)⟩
      simp only [qci, h1, h2, w3, w4, sw, qac, Ev.exec, qb, qe, qc, qd2, qag, Ev.evs, Ev.Opnd.ev, Ev.Env.get, Ev.Env.set, Ev.look, qce, qax, qav, qr, Ev.keep, qai, qy, qd, Ev.SObj.lo, qay, qb2, qdj, qj, ↓qq, Ev.it1, ↓reduceIte, List.take_succ_cons, zfe, Nat.reduceEqDiff, reduceCtorEq, decide_true, zfc, and_self, ne_eq, zfb, Nat.lt_add_one, eq_self]
    · have h2 : ¬ (i : Int) > (j : Int) := by omega
      obtain ⟨Y1, Y2, rfl, hY2⟩ : ∃ Y1 Y2, Y' = Y1 ++ Y2 ∧ Y2.length = i := ⟨Y'.take (j - i), Y'.drop (j - i), (List.take_append_drop _ _).symm, by simp; omega⟩
      rw [List.length_append] at hj hY' hl2
      have sw := qs4 g cl n L' X' Y1 Y2 N' (by omega) (by simp; omega) hb L'.length (m + Y1.length) rfl (by omega)
      rw [show L' ++ (X' ++ (Y1 ++ (Y2 ++ N'))) = D by rw [hD]; simp, ← hi] at sw
      have w3 : IntKind.i64.wrap ((m : Int) - (i : Int)) = (L'.length : Int) := qfk (by omega) (by omega)
      have w4 : IntKind.i64.wrap ((m : Int) + (j : Int)) = ((m + j : Nat) : Int) := qmg (by omega)
      have w5 : IntKind.i64.wrap (((m + j : Nat) : Int) - (i : Int)) = ((m + Y1.length : Nat) : Int) := qfk (by omega) (by omega)
      have w6 : IntKind.i64.wrap ((j : Int) - (i : Int)) = (Y1.length : Int) := qfk (by omega) (by omega)
      refine ⟨(L' ++ (Y2 ++ (Y1 ++ (X' ++ N'))), i, Y1.length), ?_, ⟨L', Y2, Y1, X' ++ N', rfl, hY2.symm, rfl, by omega, by omega, by omega, by rw [← heq]; simp⟩, by first | omega | (simp only; omega)⟩
      simp only [qci, h1, h2, w3, w4, w5, w6, sw, qac, Ev.exec, qb, qe, qc, qd2, qag, Ev.evs, Ev.Opnd.ev, Ev.Env.get, Ev.Env.set, Ev.look, qaj, qce, qax, qav, qr, Ev.keep, qai, qy, qd, Ev.SObj.lo, qay, qb2, qdj, qj, ↓qq, Ev.it1, ↓reduceIte, List.take_succ_cons, zfe, Nat.reduceEqDiff, reduceCtorEq, decide_true, decide_false, zfc, zfa, and_self, ne_eq, zfb, Nat.lt_add_one, eq_self]
end
open Go.Ev
set_option maxRecDepth 10000
theorem qzh (s h : Nat) (hh : h = s / 2) : qmc .shr (.v (.int .u64 (s : Int))) (.v (.int .u64 1)) = some (.v (.int .u64 (h : Int))) := by
  subst hh
  show (if (1 : Int) < 0 then none else some (AV.v (.int .u64 ((s : Int).fdiv (2 ^ (min (1 : Int).toNat IntKind.u64.bits)))))) = _
  rw [if_neg (by omega), show (2 : Int) ^ (min (1 : Int).toNat IntKind.u64.bits) = 2 from rfl, Int.fdiv_eq_ediv_of_nonneg _ (by omega)]
  rw [show (s : Int) / 2 = ((s / 2 : Nat) : Int) by omega]
theorem qvj {n : Nat} (h : n < 2 ^ 63) : IntKind.u64.wrap (n : Int) = (n : Int) := by
  have h3 : IntKind.u64.bits = 64 := rfl
  have h4 : IntKind.u64.signed = false := rfl
  simp only [IntKind.wrap, h3, h4, Bool.false_and, zfa, if_false]
  omega
theorem qvx {n : Nat} (h : n < 2 ^ 63) : IntKind.i64.wrap (n : Int) = (n : Int) := qao (by omega) (by omega)
section
variable (g : Nat) (cl : Bool) (n : Nat)
theorem q7c (D : List Evt) (x : Evt) (hn : n = D.length) (hb : n < 2 ^ 61) (hk : qgo D) (a m b : Nat) (ha : D[a]? = some x) (hmb : m ≤ b) (hbn : b ≤ n) (han : a < n) :
    ∃ y, itB (exec (evL T) itL none qb9) (qr [0, 1, 4, 10, 11] true 1) ⟨[(0, .sl 0 g 0 n cl), (1, (ii a)), (4, (.fn (.func qu) [] [])), (10, (ii m)), (11, (ii b))], []⟩ [.row 6 ((D).map Evt.r) g] = some y ∧
      ∃ i : Nat, y.1 = .exit 0 ∧ y.2.1.marks = [] ∧ y.2.2 = [.row 6 ((D).map Evt.r) g] ∧ Ev.look y.2.1.vars 0 = some (.sl 0 g 0 n cl) ∧ Ev.look y.2.1.vars 1 = some (ii a) ∧ Ev.look y.2.1.vars 10 = some (ii i) ∧ m ≤ i ∧ i ≤ b ∧ (i = m ∨ ∀ v, D[i - 1]? = some v → leE v x) ∧ (i = b ∨ ∀ v, D[i]? = some v → leE x v) := by
  refine qjn (τ := Nat × Nat) (fun s => ⟨[(0, .sl 0 g 0 n cl), (1, (ii a)), (4, (.fn (.func qu) [] [])), (10, (ii s.1)), (11, (ii s.2))], []⟩) (fun _ => [.row 6 ((D).map Evt.r) g]) (fun s => s.2 - s.1)
    (fun s => m ≤ s.1 ∧ s.1 ≤ s.2 ∧ s.2 ≤ b ∧ (s.1 = m ∨ ∀ v, D[s.1 - 1]? = some v → leE v x) ∧ (s.2 = b ∨ ∀ v, D[s.2]? = some v → leE x v)) _ ?_ (m, b) ⟨Nat.le_refl _, hmb, Nat.le_refl _, .inl rfl, .inl rfl⟩
  rintro ⟨i, j⟩ ⟨h1, h2, h3, h4, h5⟩
  simp only at h1 h2 h3 h4 h5 ⊢
  by_cases hij : i < j
  case neg =>
    have c1 : ¬ (i : Int) < (j : Int) := by omega
    right
    simp only [qb9, c1, Ev.exec, qb, qe, qc, qag, Ev.Opnd.ev, Ev.Env.get, Ev.Env.set, Ev.look, qo, ↓qq, Ev.it1, ↓reduceIte, Nat.reduceEqDiff, reduceCtorEq, decide_false, zfa, eq_self]
    refine ⟨_, rfl, i, rfl, rfl, rfl, rfl, rfl, rfl, h1, by omega, h4, ?_⟩
    obtain rfl : i = j := by omega
    exact h5
  obtain ⟨h, hh⟩ : ∃ h, h = (i + j) / 2 := ⟨_, rfl⟩
  have c1 : (i : Int) < (j : Int) := by omega
  obtain ⟨y, hy⟩ : ∃ y, D[h]? = some y := ⟨_, List.getElem?_eq_getElem (by omega)⟩
  have w1 : IntKind.i64.wrap ((i : Int) + (j : Int)) = ((i + j : Nat) : Int) := qmg (by omega)
  have w2 : IntKind.u64.wrap ((i + j : Nat) : Int) = ((i + j : Nat) : Int) := qvj (by omega)
  have w3 := qzh (i + j) h hh
  have w4 : IntKind.i64.wrap (h : Int) = (h : Int) := qvx (by omega)
  have w5 : IntKind.i64.wrap ((h : Int) + 1) = ((h + 1 : Nat) : Int) := qrt (by omega)
  have rh : h < n := by omega
  have kx : x.key.length ≤ 9223372036854775807 := hk x (List.mem_of_getElem? ha)
  have ky : y.key.length ≤ 9223372036854775807 := hk y (List.mem_of_getElem? hy)
  have hc := qka y x ky kx 6 (D.map Evt.r) g
  left
  by_cases hlt : qv4 y x < 0
  · refine ⟨(h + 1, j), ?_, ⟨by simp only; omega, by simp only; omega, h3, .inr fun v hv => ?_, h5⟩, by simp only; omega⟩
    · obtain ⟨xt, xk, xl, xi, xp, xa⟩ := x
      obtain ⟨yt, yk, yl, yi, yp, ya⟩ := y
      simp only at hc
      simp only [qb9, Int.natCast_nonneg, Int.toNat_natCast, List.getElem?_map, Option.map_some, ha, hy, c1, w1, w2, w3, w4, w5, rh, han, hc, hlt, Evt.r, qac, Ev.exec, qb, qe, qc, qii, qag, Ev.evs, Ev.Opnd.ev, Ev.Env.get, Ev.Env.set, Ev.look, qh, qab, qaj, qo, qr, Ev.keep, qai, qy, qd, Ev.SObj.lo, qay, qb2, qdj, qj, ↓qq, Ev.it1, ↓reduceIte, List.length_cons, List.length_nil, List.getElem?_cons_zero, List.take_succ_cons, zfe, List.drop_zero, List.nil_append, List.append_nil, Nat.reduceAdd, Nat.reduceEqDiff, reduceCtorEq, decide_true, zfc, and_self, zfd, Nat.lt_add_one, Nat.le_refl, eq_self]
    · simp only [Nat.add_sub_cancel] at hv
      rw [hy] at hv; cases hv; exact q77 y x hlt
  · refine ⟨(i, h), ?_, ⟨h1, by simp only; omega, by simp only; omega, h4, .inr fun v hv => ?_⟩, by simp only; omega⟩
    · obtain ⟨xt, xk, xl, xi, xp, xa⟩ := x
      obtain ⟨yt, yk, yl, yi, yp, ya⟩ := y
      simp only at hc
      simp only [qb9, Int.natCast_nonneg, Int.toNat_natCast, List.getElem?_map, Option.map_some, ha, hy, c1, w1, w2, w3, w4, rh, han, hc, hlt, Evt.r, qac, Ev.exec, qb, qe, qc, qii, qag, Ev.evs, Ev.Opnd.ev, Ev.Env.get, Ev.Env.set, Ev.look, qh, qab, qaj, qo, qr, Ev.keep, qai, qy, qd, Ev.SObj.lo, qay, qb2, qdj, qj, ↓qq, Ev.it1, ↓reduceIte, List.length_cons, List.length_nil, List.getElem?_cons_zero, List.take_succ_cons, zfe, List.drop_zero, List.nil_append, List.append_nil, Nat.reduceAdd, Nat.reduceEqDiff, reduceCtorEq, decide_true, decide_false, zfc, zfa, and_self, zfd, Nat.lt_add_one, Nat.le_refl, eq_self]
    · simp only at hv
      rw [hy] at hv; cases hv; exact qtk y x hlt
theorem q60 (D : List Evt) (x : Evt) (hn : n = D.length) (hb : n < 2 ^ 61) (hk : qgo D) (a m : Nat) (hm : D[m]? = some x) (ham : a ≤ m) (hmn : m < n) :
    ∃ y, itB (exec (evL T) itL none qb8) (qr [0, 2, 4, 14, 15] true 1) ⟨[(0, .sl 0 g 0 n cl), (2, (ii m)), (4, (.fn (.func qu) [] [])), (14, (ii a)), (15, (ii m))], []⟩ [.row 6 ((D).map Evt.r) g] = some y ∧
      ∃ i : Nat, y.1 = .exit 4 ∧ y.2.1.marks = [] ∧ y.2.2 = [.row 6 ((D).map Evt.r) g] ∧ Ev.look y.2.1.vars 0 = some (.sl 0 g 0 n cl) ∧ Ev.look y.2.1.vars 2 = some (ii m) ∧ Ev.look y.2.1.vars 14 = some (ii i) ∧ a ≤ i ∧ i ≤ m ∧ (i = a ∨ ∀ v, D[i - 1]? = some v → leE v x) ∧ (i = m ∨ ∀ v, D[i]? = some v → leE x v) := by
  refine qjn (τ := Nat × Nat) (fun s => ⟨[(0, .sl 0 g 0 n cl), (2, (ii m)), (4, (.fn (.func qu) [] [])), (14, (ii s.1)), (15, (ii s.2))], []⟩) (fun _ => [.row 6 ((D).map Evt.r) g]) (fun s => s.2 - s.1)
    (fun s => a ≤ s.1 ∧ s.1 ≤ s.2 ∧ s.2 ≤ m ∧ (s.1 = a ∨ ∀ v, D[s.1 - 1]? = some v → leE v x) ∧ (s.2 = m ∨ ∀ v, D[s.2]? = some v → leE x v)) _ ?_ (a, m) ⟨Nat.le_refl _, ham, Nat.le_refl _, .inl rfl, .inl rfl⟩
  rintro ⟨i, j⟩ ⟨h1, h2, h3, h4, h5⟩
  simp only at h1 h2 h3 h4 h5 ⊢
  by_cases hij : i < j
  case neg =>
    have c1 : ¬ (i : Int) < (j : Int) := by omega
    right
    simp only [qb8, c1, Ev.exec, qb, qe, qc, qag, Ev.Opnd.ev, Ev.Env.get, Ev.Env.set, Ev.look, qo, ↓qq, Ev.it1, ↓reduceIte, Nat.reduceEqDiff, reduceCtorEq, decide_false, zfa, eq_self]
    refine ⟨_, rfl, i, rfl, rfl, rfl, rfl, rfl, rfl, h1, by omega, h4, ?_⟩
    obtain rfl : i = j := by omega
    exact h5
  obtain ⟨h, hh⟩ : ∃ h, h = (i + j) / 2 := ⟨_, rfl⟩
  have c1 : (i : Int) < (j : Int) := by omega
  obtain ⟨y, hy⟩ : ∃ y, D[h]? = some y := ⟨_, List.getElem?_eq_getElem (by omega)⟩
  have w1 : IntKind.i64.wrap ((i : Int) + (j : Int)) = ((i + j : Nat) : Int) := qmg (by omega)
  have w2 : IntKind.u64.wrap ((i + j : Nat) : Int) = ((i + j : Nat) : Int) := qvj (by omega)
  have w3 := qzh (i + j) h hh
  have w4 : IntKind.i64.wrap (h : Int) = (h : Int) := qvx (by omega)
  have w5 : IntKind.i64.wrap ((h : Int) + 1) = ((h + 1 : Nat) : Int) := qrt (by omega)
  have rh : h < n := by omega
  have kx : x.key.length ≤ 9223372036854775807 := hk x (List.mem_of_getElem? hm)
  have ky : y.key.length ≤ 9223372036854775807 := hk y (List.mem_of_getElem? hy)
  have hc := qka x y kx ky 6 (D.map Evt.r) g
  left
  by_cases hlt : qv4 x y < 0
  · refine ⟨(i, h), ?_, ⟨h1, by simp only; omega, by simp only; omega, h4, .inr fun v hv => ?_⟩, by simp only; omega⟩
    · obtain ⟨xt, xk, xl, xi, xp, xa⟩ := x
      obtain ⟨yt, yk, yl, yi, yp, ya⟩ := y
      simp only at hc
      simp only [qb8, Int.natCast_nonneg, Int.toNat_natCast, List.getElem?_map, Option.map_some, hm, hy, c1, w1, w2, w3, w4, rh, hmn, hc, hlt, Evt.r, qac, Ev.exec, qb, qe, qc, qii, qag, Ev.evs, Ev.Opnd.ev, Ev.Env.get, Ev.Env.set, Ev.look, qh, qab, qaj, qo, qr, Ev.keep, qai, qy, qd, Ev.SObj.lo, qay, qb2, qdj, qj, ↓qq, Ev.it1, ↓reduceIte, List.length_cons, List.length_nil, List.getElem?_cons_zero, List.take_succ_cons, zfe, List.drop_zero, List.nil_append, List.append_nil, Nat.reduceAdd, Nat.reduceEqDiff, reduceCtorEq, decide_true, zfc, Bool.not_true, zfa, and_self, zfd, Nat.lt_add_one, Nat.le_refl, eq_self]
    · simp only at hv
      rw [hy] at hv; cases hv; exact q77 x y hlt
  · refine ⟨(h + 1, j), ?_, ⟨by simp only; omega, by simp only; omega, h3, .inr fun v hv => ?_, h5⟩, by simp only; omega⟩
    · obtain ⟨xt, xk, xl, xi, xp, xa⟩ := x
      obtain ⟨yt, yk, yl, yi, yp, ya⟩ := y
      simp only at hc
      simp only [qb8, Int.natCast_nonneg, Int.toNat_natCast, List.getElem?_map, Option.map_some, hm, hy, c1, w1, w2, w3, w4, w5, rh, hmn, hc, hlt, Evt.r, qac, Ev.exec, qb, qe, qc, qii, qag, Ev.evs, Ev.Opnd.ev, Ev.Env.get, Ev.Env.set, Ev.look, qh, qab, qaj, qo, qr, Ev.keep, qai, qy, qd, Ev.SObj.lo, qay, qb2, qdj, qj, ↓qq, Ev.it1, ↓reduceIte, List.length_cons, List.length_nil, List.getElem?_cons_zero, List.take_succ_cons, zfe, List.drop_zero, List.nil_append, List.append_nil, Nat.reduceAdd, Nat.reduceEqDiff, reduceCtorEq, decide_true, decide_false, zfc, Bool.not_false, and_self, zfd, Nat.lt_add_one, Nat.le_refl, eq_self]
    · simp only [Nat.add_sub_cancel] at hv
      rw [hy] at hv; cases hv; exact qtk x y hlt
theorem q7b (D : List Evt) (hn : n = D.length) (hb : n < 2 ^ 61) (hk : qgo D) (a m b mid nn p lo hi : Nat) (hp : nn = p + 1) (hlh : lo ≤ hi) (hdom : ∀ c, lo ≤ c → c < hi → c < n ∧ c ≤ p ∧ p - c < n) (hnn : nn < 2 ^ 62) (hhn : hi ≤ n) :
    ∃ y, itB (exec (evL T) itL none qbh) (qr [0, 1, 2, 3, 4, 18, 19, 20, 21, 22] true 1) ⟨[(0, .sl 0 g 0 n cl), (1, (ii a)), (2, (ii m)), (3, (ii b)), (4, (.fn (.func qu) [] [])), (18, (ii mid)), (19, (ii nn)), (20, (ii lo)), (21, (ii hi)), (22, (ii p))], []⟩ [.row 6 ((D).map Evt.r) g] = some y ∧
      ∃ i : Nat, y.1 = .exit 8 ∧ y.2.1.marks = [] ∧ y.2.2 = [.row 6 ((D).map Evt.r) g] ∧ Ev.look y.2.1.vars 0 = some (.sl 0 g 0 n cl) ∧ Ev.look y.2.1.vars 1 = some (ii a) ∧ Ev.look y.2.1.vars 2 = some (ii m) ∧ Ev.look y.2.1.vars 3 = some (ii b) ∧ Ev.look y.2.1.vars 4 = some (.fn (.func qu) [] []) ∧ Ev.look y.2.1.vars 18 = some (ii mid) ∧
        Ev.look y.2.1.vars 19 = some (ii nn) ∧ Ev.look y.2.1.vars 20 = some (ii i) ∧ lo ≤ i ∧ i ≤ hi ∧ (i = lo ∨ ∀ u v, D[i - 1]? = some u → D[p - (i - 1)]? = some v → leE u v) ∧ (i = hi ∨ ∀ u v, D[p - i]? = some u → D[i]? = some v → leE u v) := by
  refine qjn (τ := Nat × Nat) (fun s => ⟨[(0, .sl 0 g 0 n cl), (1, (ii a)), (2, (ii m)), (3, (ii b)), (4, (.fn (.func qu) [] [])), (18, (ii mid)), (19, (ii nn)), (20, (ii s.1)), (21, (ii s.2)), (22, (ii p))], []⟩) (fun _ => [.row 6 ((D).map Evt.r) g]) (fun s => s.2 - s.1)
    (fun s => lo ≤ s.1 ∧ s.1 ≤ s.2 ∧ s.2 ≤ hi ∧ (s.1 = lo ∨ ∀ u v, D[s.1 - 1]? = some u → D[p - (s.1 - 1)]? = some v → leE u v) ∧ (s.2 = hi ∨ ∀ u v, D[p - s.2]? = some u → D[s.2]? = some v → leE u v)) _ ?_ (lo, hi) ⟨Nat.le_refl _, hlh, Nat.le_refl _, .inl rfl, .inl rfl⟩
  rintro ⟨i, j⟩ ⟨h1, h2, h3, h4, h5⟩
  simp only at h1 h2 h3 h4 h5 ⊢
  by_cases hij : i < j
  case neg =>
    have c1 : ¬ (i : Int) < (j : Int) := by omega
    right
    simp only [qbh, c1, Ev.exec, qb, qe, qc, qag, Ev.Opnd.ev, Ev.Env.get, Ev.Env.set, Ev.look, qo, ↓qq, Ev.it1, ↓reduceIte, Nat.reduceEqDiff, reduceCtorEq, decide_false, zfa, eq_self]
    refine ⟨_, rfl, i, rfl, rfl, rfl, rfl, rfl, rfl, rfl, rfl, rfl, rfl, rfl, h1, by omega, h4, ?_⟩
    obtain rfl : i = j := by omega
    exact h5
  obtain ⟨h, hh⟩ : ∃ h, h = (i + j) / 2 := ⟨_, rfl⟩
  have c1 : (i : Int) < (j : Int) := by omega
  obtain ⟨d1, d2, d3⟩ := hdom h (by omega) (by omega)
  obtain ⟨q, hq⟩ : ∃ q, q = p - h := ⟨_, rfl⟩
  obtain ⟨y, hy⟩ : ∃ y, D[h]? = some y := ⟨_, List.getElem?_eq_getElem (by omega)⟩
  obtain ⟨x, hx⟩ : ∃ x, D[q]? = some x := ⟨_, List.getElem?_eq_getElem (by omega)⟩
  have w1 : IntKind.i64.wrap ((i : Int) + (j : Int)) = ((i + j : Nat) : Int) := qmg (by omega)
  have w2 : IntKind.u64.wrap ((i + j : Nat) : Int) = ((i + j : Nat) : Int) := qvj (by omega)
  have w3 := qzh (i + j) h hh
  have w4 : IntKind.i64.wrap (h : Int) = (h : Int) := qvx (by omega)
  have w5 : IntKind.i64.wrap ((h : Int) + 1) = ((h + 1 : Nat) : Int) := qrt (by omega)
  have w6 : IntKind.i64.wrap ((p : Int) - (h : Int)) = (q : Int) := qfk (by omega) (by omega)
  have rq : q < n := by omega
  have kx : x.key.length ≤ 9223372036854775807 := hk x (List.mem_of_getElem? hx)
  have ky : y.key.length ≤ 9223372036854775807 := hk y (List.mem_of_getElem? hy)
  have hc := qka x y kx ky 6 (D.map Evt.r) g
  left
  by_cases hlt : qv4 x y < 0
  · refine ⟨(i, h), ?_, ⟨h1, by simp only; omega, by simp only; omega, h4, .inr fun u v hu hv => ?_⟩, by simp only; omega⟩
    · obtain ⟨xt, xk, xl, xi, xp, xa⟩ := x
      obtain ⟨yt, yk, yl, yi, yp, ya⟩ := y
      simp only at hc
      simp only [qbh, Int.natCast_nonneg, Int.toNat_natCast, List.getElem?_map, Option.map_some, hx, hy, c1, w1, w2, w3, w4, w6, d1, rq, hc, hlt, Evt.r, qac, Ev.exec, qb, qe, qc, qii, qag, Ev.evs, Ev.Opnd.ev, Ev.Env.get, Ev.Env.set, Ev.look, qh, qab, qaj, qce, qo, qr, Ev.keep, qai, qy, qd, Ev.SObj.lo, qay, qb2, qdj, qj, ↓qq, Ev.it1, ↓reduceIte, List.length_cons, List.length_nil, List.getElem?_cons_zero, List.take_succ_cons, zfe, List.drop_zero, List.nil_append, List.append_nil, Nat.reduceAdd, Nat.reduceEqDiff, reduceCtorEq, decide_true, zfc, Bool.not_true, zfa, and_self, zfd, Nat.lt_add_one, Nat.le_refl, eq_self]
    · simp only at hu hv
      rw [← hq, hx] at hu; cases hu
      rw [hy] at hv; cases hv; exact q77 x y hlt
  · refine ⟨(h + 1, j), ?_, ⟨by simp only; omega, by simp only; omega, h3, .inr fun u v hu hv => ?_, h5⟩, by simp only; omega⟩
    · obtain ⟨xt, xk, xl, xi, xp, xa⟩ := x
      obtain ⟨yt, yk, yl, yi, yp, ya⟩ := y
      simp only at hc
      simp only [qbh, Int.natCast_nonneg, Int.toNat_natCast, List.getElem?_map, Option.map_some, hx, hy, c1, w1, w2, w3, w4, w5, w6, d1, rq, hc, hlt, Evt.r, qac, Ev.exec, qb, qe, qc, qii, qag, Ev.evs, Ev.Opnd.ev, Ev.Env.get, Ev.Env.set, Ev.look, qh, qab, qaj, qce, qo, qr, Ev.keep, qai, qy, qd, Ev.SObj.lo, qay, qb2, qdj, qj, ↓qq, Ev.it1, ↓reduceIte, List.length_cons, List.length_nil, List.getElem?_cons_zero, List.take_succ_cons, zfe, List.drop_zero, List.nil_append, List.append_nil, Nat.reduceAdd, Nat.reduceEqDiff, reduceCtorEq, decide_true, decide_false, zfc, Bool.not_false, and_self, zfd, Nat.lt_add_one, Nat.le_refl, eq_self]
    · simp only [Nat.add_sub_cancel] at hu hv
      rw [← hq, hx] at hv; cases hv
      rw [hy] at hu; cases hu; exact qtk x y hlt
end
open Go.Ev
set_option maxRecDepth 10000
section
variable (g : Nat) (cl : Bool) (n : Nat)
theorem q6r (P S Q : List Evt) (x : Evt) (hn : n = (P ++ x :: (S ++ Q)).length) (hb : n < 2 ^ 61) (a i : Nat) (ha : a = P.length) (hi : i = a + S.length + 1) :
    ∃ y, itB (exec (evL T) itL none qcy) (qr [0, 10, 13] true 1) ⟨[(0, .sl 0 g 0 n cl), (10, (ii i)), (13, (ii a))], []⟩ [.row 6 ((P ++ x :: (S ++ Q)).map Evt.r) g] = some y ∧
      (y.1 = .exit 2 ∧ y.2.1.marks = [] ∧ y.2.2 = [.row 6 ((P ++ (S ++ x :: Q)).map Evt.r) g]) := by
  refine qjn (τ := List Evt × Nat) (fun s => ⟨[(0, .sl 0 g 0 n cl), (10, (ii i)), (13, (ii s.2))], []⟩) (fun s => [.row 6 ((s.1).map Evt.r) g]) (fun s => i - s.2)
    (fun s => ∃ A B, s.1 = P ++ (A ++ x :: (B ++ Q)) ∧ s.2 = a + A.length ∧ A ++ B = S) _ ?_ (P ++ x :: (S ++ Q), a) ⟨[], S, by simp, rfl, by simp⟩
  rintro ⟨D, k⟩ ⟨A, B, hD, hk, hAB⟩
  simp only at hD hk ⊢
  have hlen : n = P.length + (S.length + (Q.length + 1)) := by rw [hn]; simp; omega
  have hSl : S.length = A.length + B.length := by rw [← hAB]; simp
  obtain ⟨i', hi'⟩ : ∃ i', i' = a + S.length := ⟨_, rfl⟩
  have w1 : IntKind.i64.wrap ((i : Int) - 1) = (i' : Int) := qv5 (by omega) (by omega)
  cases B with
  | nil =>
    have h1 : ¬ (k : Int) < (i' : Int) := by simp at hSl; omega
    right
    simp only [qcy, w1, h1, Ev.exec, qb, qe, qc, qag, Ev.Opnd.ev, Ev.Env.get, Ev.Env.set, Ev.look, qce, qo, ↓qq, Ev.it1, ↓reduceIte, Nat.reduceEqDiff, reduceCtorEq, decide_false, zfa, eq_self]
    refine ⟨_, rfl, rfl, rfl, ?_⟩
    rw [hD, ← hAB]; simp
  | cons y B =>
    rw [List.length_cons] at hSl
    have h1 : (k : Int) < (i' : Int) := by omega
    have e1 : D = (P ++ A) ++ x :: y :: (B ++ Q) := by rw [hD]; simp
    have l1 : k = (P ++ A).length := by simp; omega
    obtain ⟨j, hj⟩ : ∃ j, j = k + 1 := ⟨_, rfl⟩
    have gx : D[k]? = some x := qpz e1 l1
    have gy : D[j]? = some y := qpz (L := P ++ A ++ [x]) (M := B ++ Q) (by rw [e1]; simp) (by simp; omega)
    have ge : D.length = n := by rw [e1, hlen]; simp; omega
    have w2 : IntKind.i64.wrap ((k : Int) + 1) = (j : Int) := by rw [hj]; exact qrt (by omega)
    have rj : j < n := by omega
    have rk : k < n := by omega
    have sw := q89 e1 l1 hj
    have hne : ¬ (k = j) := by omega
    left
    have hlo := qac 1 ((D.set k y).set j x)
    refine ⟨((D.set k y).set j x, j), ?_, ⟨A ++ [y], B, by rw [sw]; simp, by simp; omega, by rw [← hAB]; simp⟩, by simp only; omega⟩
    obtain ⟨xt, xk, xl, xi, xp, xa⟩ := x
    obtain ⟨yt, yk, yl, yi, yp, ya⟩ := y
    have hs : ∀ v, ((D.map Evt.r).set k v)[j]? = some (Evt.r ⟨yt, yk, yl, yi, yp, ya⟩) := fun v => by rw [List.getElem?_set_ne hne, List.getElem?_map, gy]; rfl
    simp only [List.map_set, Evt.r] at hlo
    simp only [qcy, Int.natCast_nonneg, Int.toNat_natCast, List.getElem?_map, Option.map_some, gx, gy, hs, h1, w1, w2, rj, rk, hlo, List.map_set, Evt.r, Ev.exec, qb, qe, qc, qag, Ev.Opnd.ev, Ev.Env.get, Ev.Env.set, Ev.look, qh, qab, Ev.AV.cells, qv, Ev.AV.plain, qaj, qce, qo, qr, Ev.keep, qai, qy, qd, Ev.SObj.lo, qay, qb2, ↓qq, Ev.it1, ↓reduceIte, List.length_cons, List.length_nil, List.getElem?_cons_zero, List.take_succ_cons, List.take_zero, zfe, List.drop_succ_cons, List.drop_zero, List.drop_nil, List.nil_append, List.append_nil, List.set_cons_zero, Nat.reduceAdd, Nat.reduceEqDiff, reduceCtorEq, decide_true, zfc, and_self, zfd, Nat.lt_add_one, Nat.le_refl, eq_self]
theorem q7q (P S Q : List Evt) (x : Evt) (hn : n = (P ++ (S ++ x :: Q)).length) (hb : n < 2 ^ 61) (m i : Nat) (hi : i = P.length) (hm : m = i + S.length) :
    ∃ y, itB (exec (evL T) itL none qcx) (qr [0, 14, 17] true 1) ⟨[(0, .sl 0 g 0 n cl), (14, (ii i)), (17, (ii m))], []⟩ [.row 6 ((P ++ (S ++ x :: Q)).map Evt.r) g] = some y ∧
      (y.1 = .exit 6 ∧ y.2.1.marks = [] ∧ y.2.2 = [.row 6 ((P ++ x :: (S ++ Q)).map Evt.r) g]) := by
  refine qjn (τ := List Evt × Nat) (fun s => ⟨[(0, .sl 0 g 0 n cl), (14, (ii i)), (17, (ii s.2))], []⟩) (fun s => [.row 6 ((s.1).map Evt.r) g]) (fun s => s.2)
    (fun s => ∃ A B, s.1 = P ++ (A ++ x :: (B ++ Q)) ∧ s.2 = i + A.length ∧ A ++ B = S) _ ?_ (P ++ (S ++ x :: Q), m) ⟨S, [], by simp, hm, by simp⟩
  rintro ⟨D, j⟩ ⟨A, B, hD, hj, hAB⟩
  simp only at hD hj ⊢
  have hlen : n = P.length + (S.length + (Q.length + 1)) := by rw [hn]; simp
  have hSl : S.length = A.length + B.length := by rw [← hAB]; simp
  rcases List.eq_nil_or_concat A with rfl | ⟨A0, y, rfl⟩
  · have h1 : ¬ (j : Int) > (i : Int) := by simp at hj; omega
    right
    simp only [qcx, h1, Ev.exec, qb, qe, qc, qag, Ev.Opnd.ev, Ev.Env.get, Ev.Env.set, Ev.look, qav, ↓qq, Ev.it1, ↓reduceIte, Nat.reduceEqDiff, reduceCtorEq, decide_false, zfa, eq_self]
    refine ⟨_, rfl, rfl, rfl, ?_⟩
    rw [hD, ← hAB]; simp
  · simp only [List.concat_eq_append, List.length_append, List.length_cons, List.length_nil] at hD hj hSl hAB
    obtain ⟨k, hk1⟩ : ∃ k, k = i + A0.length := ⟨_, rfl⟩
    have hjk : j = k + 1 := by omega
    have h1 : (j : Int) > (i : Int) := by omega
    have e1 : D = (P ++ A0) ++ y :: x :: (B ++ Q) := by rw [hD]; simp
    have l1 : k = (P ++ A0).length := by simp; omega
    have gy : D[k]? = some y := qpz e1 l1
    have gx : D[j]? = some x := qpz (L := P ++ A0 ++ [y]) (M := B ++ Q) (by rw [e1]; simp) (by simp; omega)
    have ge : D.length = n := by rw [e1, hlen]; simp; omega
    have ws : IntKind.i64.wrap ((j : Int) - 1) = (k : Int) := qv5 hjk (by omega)
    have rj : j < n := by omega
    have rk : k < n := by omega
    have sw := q6f e1 l1 hjk
    have hne : ¬ (j = k) := by omega
    left
    have hlo := qac 1 ((D.set j y).set k x)
    refine ⟨((D.set j y).set k x, k), ?_, ⟨A0, y :: B, by rw [sw]; simp, hk1, by rw [← hAB]; simp⟩, by simp only; omega⟩
    obtain ⟨xt, xk, xl, xi, xp, xa⟩ := x
    obtain ⟨yt, yk, yl, yi, yp, ya⟩ := y
    have hs : ∀ v, ((D.map Evt.r).set j v)[k]? = some (Evt.r ⟨yt, yk, yl, yi, yp, ya⟩) := fun v => by rw [List.getElem?_set_ne hne, List.getElem?_map, gy]; rfl
    simp only [List.map_set, Evt.r] at hlo
    simp only [qcx, Int.natCast_nonneg, Int.toNat_natCast, List.getElem?_map, Option.map_some, gx, gy, hs, h1, ws, rj, rk, hlo, List.map_set, Evt.r, Ev.exec, qb, qe, qc, qag, Ev.Opnd.ev, Ev.Env.get, Ev.Env.set, Ev.look, qh, qab, Ev.AV.cells, qv, Ev.AV.plain, qce, qav, qr, Ev.keep, qai, qy, qd, Ev.SObj.lo, qay, qb2, ↓qq, Ev.it1, ↓reduceIte, List.length_cons, List.length_nil, List.getElem?_cons_zero, List.take_succ_cons, List.take_zero, zfe, List.drop_succ_cons, List.drop_zero, List.drop_nil, List.nil_append, List.append_nil, List.set_cons_zero, Nat.reduceAdd, Nat.reduceEqDiff, reduceCtorEq, decide_true, zfc, and_self, zfd, Nat.lt_add_one, Nat.le_refl, eq_self]
theorem qgo.perm {D E : List Evt} (h : qgo D) (p : E.Perm D) : qgo E := fun x hx => h x (p.mem_iff.1 hx)
theorem q8x (P Y Q : List Evt) (x : Evt) (hY : Y.Pairwise leE) (hY0 : 0 < Y.length) (hn : n = (P ++ x :: (Y ++ Q)).length) (hb : n < 2 ^ 61) (hk : qgo (P ++ x :: (Y ++ Q))) (a m b : Nat) (ha : a = P.length) (hm : m = a + 1) (hbb : b = m + Y.length) :
    ∃ Z : List Evt, Z.Perm (x :: Y) ∧ Z.Pairwise leE ∧ (evL T).call qas [.sl 0 g 0 n cl, (ii a), (ii m), (ii b), (.fn (.func qu) [] [])] [.row 6 ((P ++ x :: (Y ++ Q)).map Evt.r) g] = some (.tup [], [.row 6 ((P ++ (Z ++ Q)).map Evt.r) g]) := by
  have hlen : n = P.length + (1 + (Y.length + Q.length)) := by rw [hn]; simp; omega
  obtain ⟨⟨y, e, σ⟩, k1, i, k2, k3, k4, k5, k6, k7, k8, k9, k10, k11⟩ := q7c g cl n (P ++ x :: (Y ++ Q)) x hn hb hk a m b (qpz rfl ha) (by omega) (by omega) (by omega)
  simp only at k1 k2 k3 k4 k5 k6 k7
  subst k2; subst k4
  obtain ⟨Y1, Y2, rfl, hY1⟩ : ∃ Y1 Y2, Y = Y1 ++ Y2 ∧ Y1.length = i - m := ⟨Y.take (i - m), Y.drop (i - m), (List.take_append_drop _ _).symm, by simp; omega⟩
  rw [List.length_append] at hbb hlen hY0
  obtain ⟨⟨y', e', σ'⟩, l1, l2, l3, l4⟩ := q6r g cl n P Y1 (Y2 ++ Q) x (by rw [hlen]; simp; omega) hb a i ha (by omega)
  simp only at l1 l2 l3 l4
  subst l2; subst l4
  rw [List.append_assoc] at hk
  refine ⟨Y1 ++ x :: Y2, List.perm_middle, qpt qof hY ?_ ?_, ?_⟩
  · intro u hu
    rcases k10 with h | h
    · rw [show Y1 = [] from List.eq_nil_of_length_eq_zero (by omega)] at hu; simp at hu
    · have hlt : Y1.length - 1 < Y1.length := (List.getElem?_eq_some_iff.1 hu).1
      refine h u ?_
      rw [← hu]
      exact qx0 (L := P ++ [x]) (X := Y1) (M := Y2 ++ Q) (by simp) hlt (by simp; omega)
  · intro v hv
    rcases k11 with h | h
    · rw [show Y2 = [] from List.eq_nil_of_length_eq_zero (by omega)] at hv; simp at hv
    · have hlt : 0 < Y2.length := (List.getElem?_eq_some_iff.1 hv).1
      refine h v ?_
      rw [← hv]
      exact qx0 (L := P ++ x :: Y1) (X := Y2) (M := Q) (by simp) hlt (by simp; omega)
  · have c1 : (m : Int) - (a : Int) = 1 := by omega
    have w1 : IntKind.i64.wrap ((m : Int) - (a : Int)) = 1 := by rw [c1]; exact qao (by omega) (by omega)
    rw [List.append_assoc] at k1 ⊢
    rw [qs qi qf]
    simp only [List.append_assoc, List.cons_append]
    simp only [qg, w1, k1, k3, k5, k6, k7, l1, l3, qac, qm, Ev.exec, qb, qe, qc, qag, Ev.Opnd.ev, Ev.Env.get, Ev.Env.set, Ev.look, qn, qce, qal, ql, qae, Ev.kill, qad, qr, Ev.keep, qai, qy, qd, Ev.SObj.lo, qay, qbc, qb2, qdj, qj, ↓qq, ↓qak, ↓reduceIte, List.length_cons, List.length_nil, List.take_succ_cons, zfe, Nat.reduceAdd, Nat.reduceEqDiff, reduceCtorEq, decide_true, zfc, and_self, zfd, Nat.lt_add_one, eq_self]
theorem q9t (P X Q : List Evt) (x : Evt) (hX : X.Pairwise leE) (hX0 : 1 < X.length) (hn : n = (P ++ (X ++ x :: Q)).length) (hb : n < 2 ^ 61) (hk : qgo (P ++ (X ++ x :: Q))) (a m b : Nat) (ha : a = P.length) (hm : m = a + X.length) (hbb : b = m + 1) :
    ∃ Z : List Evt, Z.Perm (X ++ [x]) ∧ Z.Pairwise leE ∧ (evL T).call qas [.sl 0 g 0 n cl, (ii a), (ii m), (ii b), (.fn (.func qu) [] [])] [.row 6 ((P ++ (X ++ x :: Q)).map Evt.r) g] = some (.tup [], [.row 6 ((P ++ (Z ++ Q)).map Evt.r) g]) := by
  have hlen : n = P.length + (X.length + (Q.length + 1)) := by rw [hn]; simp
  obtain ⟨⟨y, e, σ⟩, k1, i, k2, k3, k4, k5, k6, k7, k8, k9, k10, k11⟩ := q60 g cl n (P ++ (X ++ x :: Q)) x hn hb hk a m (qpz (L := P ++ X) (M := Q) (by simp) (by simp; omega)) (by omega) (by omega)
  simp only at k1 k2 k3 k4 k5 k6 k7
  subst k2; subst k4
  obtain ⟨X1, X2, rfl, hX1⟩ : ∃ X1 X2, X = X1 ++ X2 ∧ X1.length = i - a := ⟨X.take (i - a), X.drop (i - a), (List.take_append_drop _ _).symm, by simp; omega⟩
  rw [List.length_append] at hm hlen hX0
  obtain ⟨⟨y', e', σ'⟩, l1, l2, l3, l4⟩ := q7q g cl n (P ++ X1) X2 Q x (by rw [hlen]; simp; omega) hb m i (by simp; omega) (by omega)
  simp only at l1 l2 l3 l4
  subst l2; subst l4
  refine ⟨X1 ++ x :: X2, ?_, qpt qof hX ?_ ?_, ?_⟩
  · rw [List.append_assoc]
    exact List.Perm.append_left X1 (List.perm_append_singleton x X2).symm
  · intro u hu
    rcases k10 with h | h
    · rw [show X1 = [] from List.eq_nil_of_length_eq_zero (by omega)] at hu; simp at hu
    · have hlt : X1.length - 1 < X1.length := (List.getElem?_eq_some_iff.1 hu).1
      refine h u ?_
      rw [← hu]
      exact qx0 (L := P) (X := X1) (M := X2 ++ x :: Q) (by simp) hlt (by omega)
  · intro v hv
    rcases k11 with h | h
    · rw [show X2 = [] from List.eq_nil_of_length_eq_zero (by omega)] at hv; simp at hv
    · have hlt : 0 < X2.length := (List.getElem?_eq_some_iff.1 hv).1
      refine h v ?_
      rw [← hv]
      exact qx0 (L := P ++ X1) (X := X2) (M := x :: Q) (by simp) hlt (by simp; omega)
  · have w1 : IntKind.i64.wrap ((m : Int) - (a : Int)) = ((X1.length + X2.length : Nat) : Int) := qfk hm (by omega)
    have h1 : ¬ ((X1.length + X2.length : Nat) : Int) = 1 := by omega
    have w2 : IntKind.i64.wrap ((b : Int) - (m : Int)) = 1 := by rw [show (b : Int) - (m : Int) = 1 by omega]; exact qao (by omega) (by omega)
    rw [qs qi qf]
    simp only [List.append_assoc, List.cons_append] at k1 l1 ⊢
    simp only [qg, w1, w2, h1, k1, k3, k5, k6, k7, l1, l3, qac, qm, Ev.exec, qb, qe, qc, qag, Ev.Opnd.ev, Ev.Env.get, Ev.Env.set, Ev.look, qn, qce, qal, ql, qae, Ev.kill, qad, qr, Ev.keep, qai, qy, qd, Ev.SObj.lo, qay, qbc, qb2, qdj, qj, ↓qq, ↓qak, ↓reduceIte, List.length_cons, List.length_nil, List.take_succ_cons, zfe, Nat.reduceAdd, Nat.reduceEqDiff, reduceCtorEq, decide_true, decide_false, zfc, zfa, and_self, zfd, Nat.lt_add_one, eq_self]
end
end Go.Proofs.YthkjkdbjgpeigaaGreat.K
