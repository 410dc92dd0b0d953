/- For every input the statement of this claim returns true: texts of its proof, joined (part 11). -/
import Derived.ChangeShapes
import Derived.ChangeOld
import Derived.ChangeArms
import Derived.DataReads
import Derived.Carry
import Derived.ChangeSame
import Derived.OpenShut
import Derived.Handed
import Derived.RowKit3
import Derived.ChangeAt
import Derived.Test.YthkjkdbjgpeigaaGreatEB3
import Derived.Test.YthkjkdbjgpeigaaGreatGB05
import Derived.Test.YthkjkdbjgpeigaaGreatGB06
import Derived.Test.YthkjkdbjgpeigaaGreatGB07
import Derived.Test.YthkjkdbjgpeigaaGreatGB08
import Derived.Test.YthkjkdbjgpeigaaGreatGB09
set_option linter.unusedSectionVars false
set_option linter.unusedSimpArgs false
set_option linter.unusedVariables false
namespace Go.Proofs.YthkjkdbjgpeigaaGreat.K
open Go.Ev
set_option maxRecDepth 10000
def qgh {τ : Type} (g : τ → Int) (l : List τ) : Int := match l.find? (fun x => !decide (g x = 0)) with
  | none => 0
  | some x => g x
theorem qtu {τ : Type} {g : τ → Int} {l : List τ} (h : l.all (fun x => decide (g x = 0)) = true) : qgh g l = 0 := by
  have : l.find? (fun x => !decide (g x = 0)) = none := by
    rw [List.find?_eq_none]
    intro x hx
    have := List.all_eq_true.1 h x hx
    simpa using this
  unfold qgh; rw [this]
theorem qr6 {τ : Type} {g : τ → Int} {l : List τ} {x : τ} (h : l.find? (fun x => !decide (g x = 0)) = some x) : qgh g l = g x := by
  unfold qgh; rw [h]
theorem qjj (n l m : Int) : qaz (evL T) qex [(ii n), (ii l), (ii m)] = some (bb (qcn n l m)) := by
  rw [qaz, qs qxp qvz]
  by_cases h1 : n ≥ l <;> simp only [qcn, qlx, h1, qm, Ev.exec, qb, qe, qc, qag, Ev.Opnd.ev, Ev.Env.get, Ev.Env.set, Ev.Env.unset, Ev.look, qn, qku, qb5, ql, qx, qae, Ev.kill, qad, qd, qay, qah, ↓qq, ↓reduceIte, List.length_cons, List.length_nil, zfe, Nat.reduceAdd, Nat.reduceEqDiff, reduceCtorEq, decide_true, decide_false, Bool.true_and, zfa, and_self, zfd, eq_self, Bool.false_and]
theorem qmd (b : Bool) (e : Int) : qaz (evL T) qfq [(bb b), (ii e)] = some (ii (okZ b e)) := by
  rw [qaz, qs qvh qui]
  cases b <;> simp only [okZ, qk7, qm, Ev.exec, qb, qe, qc, qag, Ev.Opnd.ev, Ev.Env.get, Ev.Env.set, Ev.look, qn, ql, qx, qae, Ev.kill, qad, qd, qay, qah, ↓qq, ↓reduceIte, List.length_cons, List.length_nil, zfe, Nat.reduceAdd, Nat.reduceEqDiff, reduceCtorEq, zfa, and_self, zfd, eq_self]
section
variable (k : Nat) (cap : List AV) (hcap : los 0 cap = true)
include hcap
theorem q31 (l : List (List OpI)) (g : List OpI → Int) (hl : l.length < 2 ^ 62) (hf : ∀ p ∈ l, (evL T).call k ((.fsl ((p).map OpI.r) false) :: cap) [] = some ((ii (g p)), [])) :
    qaz (evL T) qes [(.fsl ((l).map qbm) false), .fn (.func k) [] cap] = some (ii (qgh g l)) := by
  have hL : ∃ y, itB (exec (evL T) itL none qeu) (qr [1, 8, 9, 10] true 0) ⟨[(1, .fn (.func k) [] cap), (8, (.fsl ((l).map qbm) false)), (9, (ii l.length)), (10, (ii 0))], []⟩ [] = some y ∧ (l.all (fun x => decide (g x = 0)) = true ∧ (y.1 = .exit 0 ∧ y.2.1.marks = [] ∧ y.2.2 = []) ∨
      l.all (fun x => decide (g x = 0)) = false ∧ ∃ x, l.find? (fun x => !decide (g x = 0)) = some x ∧ (y.1 = .ret ∧ y.2.1.marks = [] ∧ y.2.2 = [] ∧ Ev.look y.2.1.vars 4 = some (ii (g x)))) := by
    refine qfd l (fun i => ⟨[(1, .fn (.func k) [] cap), (8, (.fsl ((l).map qbm) false)), (9, (ii l.length)), (10, (ii i))], []⟩) [] (fun x => decide (g x = 0)) _ (fun x y => _) ?_ ?_ ?_
    · intro i x hi hx hp
      have hi' : (i : Int) < (l.length : Int) := by omega
      have hw : IntKind.i64.wrap ((i : Int) + 1) = ((i + 1 : Nat) : Int) := by rw [qao (by omega) (by omega)]; simp
      have h1 := hf x (List.mem_of_getElem? hx)
      rw [of_decide_eq_true hp] at h1
      simp only [qeu, Int.natCast_nonneg, Int.toNat_natCast, List.getElem?_map, Option.map_some, hx, hi', hw, h1, hcap, qa3, qbm, Ev.exec, qb, qe, qc, qii, qag, Ev.evs, Ev.Opnd.ev, Ev.Env.get, Ev.Env.set, Ev.look, qh, qab, qaj, qax, qo, qr, Ev.keep, qai, qy, qd, qay, qw, qdj, qj, ↓qq, Ev.it1, ↓reduceIte, List.length_cons, List.length_nil, zfe, List.cons_append, List.nil_append, List.head?_cons, Nat.reduceEqDiff, decide_true, decide_false, zfc, zfa, and_self, ne_eq, not_true_eq_false, zfd, eq_self]
    · intro i x hi hx hp
      have hi' : (i : Int) < (l.length : Int) := by omega
      have h1 := hf x (List.mem_of_getElem? hx)
      have h2 : ¬ g x = 0 := of_decide_eq_false hp
      simp only [qeu, Int.natCast_nonneg, Int.toNat_natCast, List.getElem?_map, Option.map_some, hx, hi', h1, h2, qbm, Ev.exec, qb, qe, qc, qii, qag, Ev.evs, Ev.Opnd.ev, Ev.Env.get, Ev.Env.set, Ev.look, qh, qab, qax, qo, ↓qq, Ev.it1, ↓reduceIte, List.length_cons, List.length_nil, List.cons_append, List.nil_append, List.head?_cons, Nat.reduceEqDiff, decide_true, zfa, ne_eq, zfb, zfd, eq_self]
      exact ⟨_, rfl, rfl, rfl, rfl, rfl⟩
    · simp only [qeu, Int.lt_irrefl, Ev.exec, qb, qe, qc, qag, Ev.Opnd.ev, Ev.Env.get, Ev.Env.set, Ev.look, qo, ↓qq, Ev.it1, ↓reduceIte, Nat.reduceEqDiff, decide_false, zfa, eq_self]
      exact ⟨_, rfl, rfl, rfl, rfl⟩
  obtain ⟨⟨y, e, σ⟩, k1, k2⟩ := hL
  simp only at k2
  rw [qaz, qs qqx qp0]
  rcases k2 with ⟨k3, rfl, k4, rfl⟩ | ⟨k3, x, k5, rfl, k4, rfl, k6⟩
  · rw [qtu k3]
    simp only [qfu, k1, k4, hcap, qa3, qm, Ev.exec, qb, qe, qc, qag, Ev.Opnd.ev, Ev.Env.get, Ev.Env.set, Ev.look, qn, ql, qx, qae, Ev.kill, qad, qr, Ev.keep, qai, qy, qd, qay, qw, qdj, qj, qah, List.length_map, ↓qq, ↓qak, ↓reduceIte, List.length_cons, List.length_nil, zfe, Nat.reduceAdd, Nat.reduceEqDiff, reduceCtorEq, zfc, and_self, zfd, eq_self]
  · rw [qr6 k5]
    simp only [qfu, k1, k4, k6, hcap, qa3, qm, Ev.exec, qb, qe, qc, qag, Ev.Opnd.ev, Ev.Env.get, Ev.Env.set, Ev.look, qn, ql, qx, qae, Ev.kill, qad, qr, Ev.keep, qai, qy, qd, qay, qw, qdj, qj, qah, List.length_map, ↓qq, ↓qak, ↓reduceIte, List.length_cons, List.length_nil, zfe, Nat.reduceAdd, Nat.reduceEqDiff, reduceCtorEq, zfc, and_self, zfd, eq_self]
theorem q2a (l : List (List Start)) (g : List Start → Int) (hl : l.length < 2 ^ 62) (hf : ∀ p ∈ l, (evL T).call k ((.fsl ((p).map Start.r) false) :: cap) [] = some ((ii (g p)), [])) :
    qaz (evL T) qd1 [(.fsl ((l).map lpC) false), .fn (.func k) [] cap] = some (ii (qgh g l)) := by
  have hL : ∃ y, itB (exec (evL T) itL none qd9) (qr [1, 8, 9, 10] true 0) ⟨[(1, .fn (.func k) [] cap), (8, (.fsl ((l).map lpC) false)), (9, (ii l.length)), (10, (ii 0))], []⟩ [] = some y ∧ (l.all (fun x => decide (g x = 0)) = true ∧ (y.1 = .exit 0 ∧ y.2.1.marks = [] ∧ y.2.2 = []) ∨
      l.all (fun x => decide (g x = 0)) = false ∧ ∃ x, l.find? (fun x => !decide (g x = 0)) = some x ∧ (y.1 = .ret ∧ y.2.1.marks = [] ∧ y.2.2 = [] ∧ Ev.look y.2.1.vars 4 = some (ii (g x)))) := by
    refine qfd l (fun i => ⟨[(1, .fn (.func k) [] cap), (8, (.fsl ((l).map lpC) false)), (9, (ii l.length)), (10, (ii i))], []⟩) [] (fun x => decide (g x = 0)) _ (fun x y => _) ?_ ?_ ?_
    · intro i x hi hx hp
      have hi' : (i : Int) < (l.length : Int) := by omega
      have hw : IntKind.i64.wrap ((i : Int) + 1) = ((i + 1 : Nat) : Int) := by rw [qao (by omega) (by omega)]; simp
      have h1 := hf x (List.mem_of_getElem? hx)
      rw [of_decide_eq_true hp] at h1
      simp only [qd9, Int.natCast_nonneg, Int.toNat_natCast, List.getElem?_map, Option.map_some, hx, hi', hw, h1, hcap, qb1, lpC, Ev.exec, qb, qe, qc, qii, qag, Ev.evs, Ev.Opnd.ev, Ev.Env.get, Ev.Env.set, Ev.look, qh, qab, qaj, qax, qo, qr, Ev.keep, qai, qy, qd, qay, qw, qdj, qj, ↓qq, Ev.it1, ↓reduceIte, List.length_cons, List.length_nil, zfe, List.cons_append, List.nil_append, List.head?_cons, Nat.reduceEqDiff, decide_true, decide_false, zfc, zfa, and_self, ne_eq, not_true_eq_false, zfd, eq_self]
    · intro i x hi hx hp
      have hi' : (i : Int) < (l.length : Int) := by omega
      have h1 := hf x (List.mem_of_getElem? hx)
      have h2 : ¬ g x = 0 := of_decide_eq_false hp
      simp only [qd9, Int.natCast_nonneg, Int.toNat_natCast, List.getElem?_map, Option.map_some, hx, hi', h1, h2, lpC, Ev.exec, qb, qe, qc, qii, qag, Ev.evs, Ev.Opnd.ev, Ev.Env.get, Ev.Env.set, Ev.look, qh, qab, qax, qo, ↓qq, Ev.it1, ↓reduceIte, List.length_cons, List.length_nil, List.cons_append, List.nil_append, List.head?_cons, Nat.reduceEqDiff, decide_true, zfa, ne_eq, zfb, zfd, eq_self]
      exact ⟨_, rfl, rfl, rfl, rfl, rfl⟩
    · simp only [qd9, Int.lt_irrefl, Ev.exec, qb, qe, qc, qag, Ev.Opnd.ev, Ev.Env.get, Ev.Env.set, Ev.look, qo, ↓qq, Ev.it1, ↓reduceIte, Nat.reduceEqDiff, decide_false, zfa, eq_self]
      exact ⟨_, rfl, rfl, rfl, rfl⟩
  obtain ⟨⟨y, e, σ⟩, k1, k2⟩ := hL
  simp only at k2
  rw [qaz, qs qox qny]
  rcases k2 with ⟨k3, rfl, k4, rfl⟩ | ⟨k3, x, k5, rfl, k4, rfl, k6⟩
  · rw [qtu k3]
    simp only [qev, k1, k4, hcap, qb1, qm, Ev.exec, qb, qe, qc, qag, Ev.Opnd.ev, Ev.Env.get, Ev.Env.set, Ev.look, qn, ql, qx, qae, Ev.kill, qad, qr, Ev.keep, qai, qy, qd, qay, qw, qdj, qj, qah, List.length_map, ↓qq, ↓qak, ↓reduceIte, List.length_cons, List.length_nil, zfe, Nat.reduceAdd, Nat.reduceEqDiff, reduceCtorEq, zfc, and_self, zfd, eq_self]
  · rw [qr6 k5]
    simp only [qev, k1, k4, k6, hcap, qb1, qm, Ev.exec, qb, qe, qc, qag, Ev.Opnd.ev, Ev.Env.get, Ev.Env.set, Ev.look, qn, ql, qx, qae, Ev.kill, qad, qr, Ev.keep, qai, qy, qd, qay, qw, qdj, qj, qah, List.length_map, ↓qq, ↓qak, ↓reduceIte, List.length_cons, List.length_nil, zfe, Nat.reduceAdd, Nat.reduceEqDiff, reduceCtorEq, zfc, and_self, zfd, eq_self]
theorem q2o (l : List Start) (g : Start → Int) (hl : l.length < 2 ^ 62) (hf : ∀ x ∈ l, (evL T).call k (.agg [(ii x.prog), (ii x.time)] :: cap) [.row 2 [[(ii x.prog), (ii x.time)]] 0] = some ((ii (g x)), [.row 2 [[(ii x.prog), (ii x.time)]] 0])) :
    qaz (evL T) qec [(.fsl ((l).map Start.r) false), .fn (.func k) [] cap] = some (ii (qgh g l)) := by
  have hL : ∃ y, itB (exec (evL T) itL none qef) (qr [1, 8, 9, 10] true 0) ⟨[(1, .fn (.func k) [] cap), (8, (.fsl ((l).map Start.r) false)), (9, (ii l.length)), (10, (ii 0))], []⟩ [] = some y ∧ (l.all (fun x => decide (g x = 0)) = true ∧ (y.1 = .exit 0 ∧ y.2.1.marks = [] ∧ y.2.2 = []) ∨
      l.all (fun x => decide (g x = 0)) = false ∧ ∃ x, l.find? (fun x => !decide (g x = 0)) = some x ∧ (y.1 = .ret ∧ y.2.1.marks = [] ∧ y.2.2 = [.row 2 [[(ii x.prog), (ii x.time)]] 0] ∧ Ev.look y.2.1.vars 4 = some (ii (g x)))) := by
    refine qfd l (fun i => ⟨[(1, .fn (.func k) [] cap), (8, (.fsl ((l).map Start.r) false)), (9, (ii l.length)), (10, (ii i))], []⟩) [] (fun x => decide (g x = 0)) _ (fun x y => _) ?_ ?_ ?_
    · intro i x hi hx hp
      have hi' : (i : Int) < (l.length : Int) := by omega
      have hw : IntKind.i64.wrap ((i : Int) + 1) = ((i + 1 : Nat) : Int) := by rw [qao (by omega) (by omega)]; simp
      have h1 := hf x (List.mem_of_getElem? hx)
      rw [of_decide_eq_true hp] at h1
      simp only [qef, Int.natCast_nonneg, Int.toNat_natCast, List.getElem?_map, Option.map_some, hx, hi', hw, h1, hcap, qog, Start.r, Ev.exec, qb, qe, qc, qii, qag, Ev.evs, Ev.Opnd.ev, Ev.Env.get, Ev.Env.set, Ev.look, qh, qab, Ev.AV.cells, qv, Ev.AV.plain, qaj, qax, qo, qr, Ev.keep, qai, qy, qd, qay, qw, qdj, qj, ↓qq, Ev.it1, ↓reduceIte, List.length_cons, List.length_nil, List.getElem?_cons_zero, List.take_succ_cons, List.take_zero, zfe, List.drop_succ_cons, List.drop_zero, List.drop_nil, List.cons_append, List.nil_append, List.append_nil, List.set_cons_zero, Nat.reduceAdd, Nat.reduceEqDiff, decide_true, decide_false, zfc, zfa, and_self, ne_eq, zfb, not_true_eq_false, zff, zfd, Nat.le_refl, eq_self]
    · intro i x hi hx hp
      have hi' : (i : Int) < (l.length : Int) := by omega
      have h1 := hf x (List.mem_of_getElem? hx)
      have h2 : ¬ g x = 0 := of_decide_eq_false hp
      simp only [qef, Int.natCast_nonneg, Int.toNat_natCast, List.getElem?_map, Option.map_some, hx, hi', h1, h2, Start.r, Ev.exec, qb, qe, qc, qii, qag, Ev.evs, Ev.Opnd.ev, Ev.Env.get, Ev.Env.set, Ev.look, qh, qab, Ev.AV.cells, qv, Ev.AV.plain, qax, qo, ↓qq, Ev.it1, ↓reduceIte, List.length_cons, List.length_nil, List.getElem?_cons_zero, List.take_succ_cons, List.take_zero, zfe, List.drop_succ_cons, List.drop_zero, List.drop_nil, List.cons_append, List.nil_append, List.append_nil, List.set_cons_zero, Nat.reduceAdd, Nat.reduceEqDiff, decide_true, zfc, and_self, ne_eq, zfb, zff, zfd, Nat.le_refl, eq_self]
      exact ⟨_, rfl, rfl, rfl, rfl, rfl⟩
    · simp only [qef, Int.lt_irrefl, Ev.exec, qb, qe, qc, qag, Ev.Opnd.ev, Ev.Env.get, Ev.Env.set, Ev.look, qo, ↓qq, Ev.it1, ↓reduceIte, Nat.reduceEqDiff, decide_false, zfa, eq_self]
      exact ⟨_, rfl, rfl, rfl, rfl⟩
  obtain ⟨⟨y, e, σ⟩, k1, k2⟩ := hL
  simp only at k2
  rw [qaz, qs qpe qok]
  rcases k2 with ⟨k3, rfl, k4, rfl⟩ | ⟨k3, x, k5, rfl, k4, rfl, k6⟩
  · rw [qtu k3]
    simp only [qe6, k1, k4, hcap, qog, qm, Ev.exec, qb, qe, qc, qag, Ev.Opnd.ev, Ev.Env.get, Ev.Env.set, Ev.look, qn, ql, qx, qae, Ev.kill, qad, qr, Ev.keep, qai, qy, qd, qay, qw, qdj, qj, qah, List.length_map, ↓qq, ↓qak, ↓reduceIte, List.length_cons, List.length_nil, zfe, Nat.reduceAdd, Nat.reduceEqDiff, reduceCtorEq, zfc, and_self, zfd, eq_self]
  · rw [qr6 k5]
    simp only [qe6, k1, k4, k6, hcap, qog, qm, Ev.exec, qb, qe, qc, qag, Ev.Opnd.ev, Ev.Env.get, Ev.Env.set, Ev.look, qn, ql, qx, qae, Ev.kill, qad, qr, Ev.keep, qai, qy, qd, qay, qw, qdj, qj, qah, List.length_map, ↓qq, ↓qak, ↓reduceIte, List.length_cons, List.length_nil, List.take_zero, zfe, Nat.reduceAdd, Nat.reduceEqDiff, reduceCtorEq, zfc, and_self, zfd, eq_self]
end
set_option maxRecDepth 10000
section
variable (c : Cfg)
def q50 (c : Cfg) : Bool := qcn c.lps.length 1 8 && (decide ((c.progs.length : Int) ≤ 8) && (qcn c.cap 1 64 && qcn c.fin 0 1152921504606846976))
def lenB (l : List Start) : Bool := decide ((l.length : Int) ≤ 8)
def qr8 (c : Cfg) : Bool := q50 c && c.lps.all lenB
structure CfgOk (c : Cfg) : Prop where
  lps : c.lps.length < 2 ^ 62
  progs : c.progs.length < 2 ^ 62
  prog : ∀ p ∈ c.progs, p.length < 2 ^ 62
  lp : ∀ l ∈ c.lps, l.length < 2 ^ 62
theorem q94 (h : CfgOk c) (b : Bool) :
    ∃ y, itB (exec (evL T) itL none qey) (qr [3, 32, 33, 34] true 0) ⟨[(3, (bb b)), (32, (.fsl ((c.lps).map lpC) false)), (33, (ii c.lps.length)), (34, (ii 0))], []⟩ [] = some y ∧ y.1 = .exit 0 ∧ y.2.1.marks = [] ∧ y.2.2 = [] ∧ Ev.look y.2.1.vars 3 = some (bb (b && c.lps.all lenB)) := by
  have hlp := h.lps
  have := qhi (f := exec (evL T) itL none qey) (s := qr [3, 32, 33, 34] true 0) (α := Bool) (fun i b => ⟨[(3, (bb b)), (32, (.fsl ((c.lps).map lpC) false)), (33, (ii c.lps.length)), (34, (ii ((i : Int))))], []⟩) (fun _ _ => [])
    (fun i r => r = (b && (c.lps.take i).all lenB)) c.lps.length (fun y => y.1 = .exit 0 ∧ y.2.1.marks = [] ∧ y.2.2 = [] ∧ Ev.look y.2.1.vars 3 = some (bb (b && c.lps.all lenB))) ?_ ?_ 0 b (Nat.zero_le _) (by simp)
  · exact this
  · rintro i r hi hr
    obtain ⟨x, hx⟩ : ∃ x, c.lps[i]? = some x := ⟨_, List.getElem?_eq_getElem hi⟩
    have hi' : (i : Int) < (c.lps.length : Int) := by omega
    have hw : IntKind.i64.wrap ((i : Int) + 1) = ((i + 1 : Nat) : Int) := by rw [qao (by omega) (by omega)]; simp
    have hn : (b && (c.lps.take (i + 1)).all lenB) = (r && lenB x) := by rw [hr, qea hx, List.all_append, ← Bool.and_assoc]; simp
    refine .inl ⟨r && lenB x, ?_, hn.symm⟩
    cases r <;> simp only [qey, Int.natCast_nonneg, Int.toNat_natCast, List.getElem?_map, Option.map_some, hx, hi', hw, qb1, lpC, lenB, Ev.exec, qb, qe, qc, qag, Ev.Opnd.ev, Ev.Env.get, Ev.Env.set, Ev.Env.unset, Ev.look, qh, qab, qaj, qo, qku, qr, Ev.keep, qai, qy, qd, qay, qw, List.length_map, ↓qq, Ev.it1, ↓reduceIte, List.length_cons, List.length_nil, zfe, List.head?_cons, Nat.reduceEqDiff, decide_true, zfc, Bool.true_and, zfa, and_self, zfd, eq_self, Bool.false_and]
  · rintro r hr
    rw [List.take_length] at hr
    simp only [qey, Int.lt_irrefl, Ev.exec, qb, qe, qc, qag, Ev.Opnd.ev, Ev.Env.get, Ev.Env.set, Ev.look, qo, ↓qq, Ev.it1, ↓reduceIte, Nat.reduceEqDiff, decide_false, zfa, eq_self]
    exact ⟨_, rfl, rfl, rfl, rfl, by rw [← hr]; rfl⟩
theorem qyg (h : CfgOk c) : (evL T).call qd5 [(.agg [(.fsl ((c.lps).map lpC) false), (.fsl ((c.progs).map qbm) false), (ii c.look), (ii c.fin), (ii c.cap)])] [] = some ((ii (okZ (qr8 c) 1)), []) := by
  obtain ⟨⟨y, e, σ⟩, k1, k2, k3, k4, k5⟩ := q94 c h (q50 c)
  simp only at k2 k3 k4 k5
  subst k2; subst k4
  have v := qmd (qr8 c) 1
  rw [show qr8 c = (q50 c && c.lps.all lenB) from rfl] at v ⊢
  rw [qs qqq qp6]
  unfold q50 at k1 k5 v ⊢
  cases h1 : qcn c.lps.length 1 8 <;> simp only [h1, Bool.false_and, Bool.true_and] at k1 k5 v ⊢
  · simp only [qd6, qjj, h1, k1, k3, k5, v, qb1, okZ, qm, Ev.exec, qb, qe, qc, qaw, qag, Ev.evs, Ev.Opnd.ev, Ev.Env.get, Ev.Env.set, Ev.Env.unset, Ev.look, qn, qh, qab, Ev.AV.cells, qv, Ev.AV.plain, ql, qx, qae, Ev.kill, qad, qr, Ev.keep, qai, qy, qd, qay, qw, qj, qk, List.length_map, ↓qq, ↓qak, ↓reduceIte, List.length_cons, List.length_nil, zfe, List.drop_zero, List.head?_cons, Nat.reduceEqDiff, zfc, zfa, and_self, ne_eq, zfb, zff, zfd, eq_self]
  by_cases h2 : (c.progs.length : Int) ≤ 8 <;> simp only [h2, decide_true, decide_false, Bool.false_and, Bool.true_and] at k1 k5 v ⊢
  · cases h3 : qcn c.cap 1 64 <;> simp only [h3, Bool.false_and, Bool.true_and] at k1 k5 v ⊢
    · simp only [qd6, qjj, h1, h2, h3, k1, k3, k5, v, qb1, okZ, qm, Ev.exec, qb, qe, qc, qaw, qag, Ev.evs, Ev.Opnd.ev, Ev.Env.get, Ev.Env.set, Ev.Env.unset, Ev.look, qn, qh, qab, Ev.AV.cells, qv, Ev.AV.plain, qku, ql, qx, qae, Ev.kill, qad, qr, Ev.keep, qai, qy, qd, qay, qw, qj, qk, List.length_map, ↓qq, ↓qak, ↓reduceIte, List.length_cons, List.length_nil, zfe, List.drop_succ_cons, List.drop_zero, List.head?_cons, Nat.reduceEqDiff, decide_true, zfc, zfa, and_self, ne_eq, zfb, zff, zfd, eq_self]
    · simp only [qd6, qjj, h1, h2, h3, k1, k3, k5, v, qb1, okZ, qm, Ev.exec, qb, qe, qc, qaw, qag, Ev.evs, Ev.Opnd.ev, Ev.Env.get, Ev.Env.set, Ev.look, qn, qh, qab, Ev.AV.cells, qv, Ev.AV.plain, qku, ql, qx, qae, Ev.kill, qad, qr, Ev.keep, qai, qy, qd, qay, qw, qj, qk, List.length_map, ↓qq, ↓qak, ↓reduceIte, List.length_cons, List.length_nil, zfe, List.drop_succ_cons, List.drop_zero, List.head?_cons, Nat.reduceEqDiff, decide_true, zfc, zfa, and_self, ne_eq, zfb, zff, zfd, eq_self]
  · simp only [qd6, qjj, h1, h2, k1, k3, k5, v, qb1, okZ, qm, Ev.exec, qb, qe, qc, qaw, qag, Ev.evs, Ev.Opnd.ev, Ev.Env.get, Ev.Env.set, Ev.Env.unset, Ev.look, qn, qh, qab, Ev.AV.cells, qv, Ev.AV.plain, qku, ql, qx, qae, Ev.kill, qad, qr, Ev.keep, qai, qy, qd, qay, qw, qj, qk, List.length_map, ↓qq, ↓qak, ↓reduceIte, List.length_cons, List.length_nil, zfe, List.drop_succ_cons, List.drop_zero, List.head?_cons, Nat.reduceEqDiff, decide_false, zfc, zfa, and_self, ne_eq, zfb, zff, zfd, eq_self]
theorem qt6 : (evL T).call qcz [(.agg [(.fsl ((c.lps).map lpC) false), (.fsl ((c.progs).map qbm) false), (ii c.look), (ii c.fin), (ii c.cap)])] [] = some ((ii (okZ (decide (c.look ≥ 1)) 20)), []) := by
  rw [qs qnk qm6]
  have v := qmd (decide (c.look ≥ 1)) 20
  simp only [qft, v, qm, Ev.exec, qb, qe, qc, qaw, qag, Ev.evs, Ev.Opnd.ev, Ev.Env.get, Ev.Env.set, Ev.look, qn, qh, qab, Ev.AV.cells, qv, Ev.AV.plain, qb5, ql, qx, qae, Ev.kill, qad, qd, qay, qj, qk, ↓qq, ↓reduceIte, List.length_cons, List.length_nil, zfe, List.drop_succ_cons, List.drop_zero, List.head?_cons, Nat.reduceEqDiff, zfc, zfa, and_self, ne_eq, zfb, zff, zfd, eq_self]
def q17 (c : Cfg) (p : List OpI) : Int := qne p c.progs.length c.lps.length c.look
theorem q4i (h : CfgOk c) (p : List OpI) (hp : p ∈ c.progs) : (evL T).call qcr [(.fsl ((p).map OpI.r) false), (.fptr [(.fsl ((c.lps).map lpC) false), (.fsl ((c.progs).map qbm) false), (ii c.look), (ii c.fin), (ii c.cap)])] [] = some ((ii (q17 c p)), []) := by
  rw [qs qm5 qmy]
  have := h.progs
  have v := qyh p false c.progs.length c.lps.length c.look (h.prog p hp) (qao (by omega) (by omega))
  simp only [qfh, v, q17, qgm, qm, Ev.exec, qb, qe, qc, qaw, qag, Ev.evs, Ev.Opnd.ev, Ev.Env.get, Ev.Env.set, Ev.look, qn, qh, qab, ql, qx, qae, Ev.kill, qad, qd, qay, qw, qj, qk, List.length_map, ↓qq, ↓reduceIte, List.length_cons, List.length_nil, zfe, List.drop_succ_cons, List.drop_zero, List.head?_cons, Nat.reduceAdd, Nat.reduceEqDiff, reduceCtorEq, zfc, zfa, and_self, zfd, eq_self]
theorem qu5 (h : CfgOk c) : (evL T).call qc8 [(.agg [(.fsl ((c.lps).map lpC) false), (.fsl ((c.progs).map qbm) false), (ii c.look), (ii c.fin), (ii c.cap)])] [] = some ((ii (qgh (q17 c) c.progs)), []) := by
  have v := q31 qcr [(.fptr [(.fsl ((c.lps).map lpC) false), (.fsl ((c.progs).map qbm) false), (ii c.look), (ii c.fin), (ii c.cap)])] (by simp only [qb1, qa3, qay, qw, qdk, qj, qk, zfc, eq_self]) c.progs (q17 c) h.progs fun p hp => q4i c h p hp
  rw [qs qoh qnx]
  simp only [qf3, v, qb1, qa3, qm, Ev.exec, qb, qe, qc, qaw, qag, Ev.evs, Ev.Opnd.ev, Ev.Env.get, Ev.Env.set, Ev.look, qn, qh, qab, Ev.AV.cells, qv, Ev.AV.plain, ql, qx, qae, Ev.kill, qad, qd, qay, qw, qdk, qdj, qj, qk, ↓qq, ↓reduceIte, List.length_cons, List.length_nil, zfe, List.drop_succ_cons, List.drop_zero, List.head?_cons, Nat.reduceEqDiff, zfc, zfa, and_self, ne_eq, zfb, zff, zfd, eq_self]
def qq8 (c : Cfg) (s : Start) : Int := if qcn s.prog 0 ((c.progs.length : Int) - 1) = false then 22 else okZ (qcn s.time 0 1152921504606846976) 11
theorem q4n (h : CfgOk c) (s : Start) : (evL T).call qcq [.agg [(ii s.prog), (ii s.time)], (.fptr [(.fsl ((c.lps).map lpC) false), (.fsl ((c.progs).map qbm) false), (ii c.look), (ii c.fin), (ii c.cap)])] [.row 2 [[(ii s.prog), (ii s.time)]] 0] = some ((ii (qq8 c s)), [.row 2 [[(ii s.prog), (ii s.time)]] 0]) := by
  rw [qs qm4 qmu]
  have := h.progs
  have hw : IntKind.i64.wrap ((c.progs.length : Int) - 1) = (c.progs.length : Int) - 1 := qao (by omega) (by omega)
  have v := qmd (qcn s.time 0 1152921504606846976) 11
  cases h1 : qcn s.prog 0 ((c.progs.length : Int) - 1) <;> simp only [qfm, qjj, v, hw, h1, qq8, qm, Ev.exec, qb, qe, qc, qaw, qag, Ev.evs, Ev.Opnd.ev, Ev.Env.get, Ev.Env.set, Ev.look, qn, qh, qab, Ev.AV.cells, qv, Ev.AV.plain, qce, ql, qx, qae, Ev.kill, qad, qd, Ev.SObj.lo, qay, qj, qk, qaf, qaq, List.length_map, ↓qq, ↓reduceIte, List.length_cons, List.length_nil, List.take_succ_cons, zfe, List.drop_succ_cons, List.drop_zero, List.head?_cons, Nat.reduceAdd, Nat.reduceEqDiff, reduceCtorEq, zfc, Bool.not_true, Bool.not_false, zfa, Bool.true_eq_false, and_self, ne_eq, zfb, zff, zfd, eq_self]
theorem q7d (h : CfgOk c) (l : List Start) (hl : l ∈ c.lps) : (evL T).call qc9 [(.fsl ((l).map Start.r) false), (.fptr [(.fsl ((c.lps).map lpC) false), (.fsl ((c.progs).map qbm) false), (ii c.look), (ii c.fin), (ii c.cap)])] [] = some ((ii (qgh (qq8 c) l)), []) := by
  have v := q2o qcq [(.fptr [(.fsl ((c.lps).map lpC) false), (.fsl ((c.progs).map qbm) false), (ii c.look), (ii c.fin), (ii c.cap)])] (by simp only [qb1, qa3, qay, qw, qdk, qj, qk, zfc, eq_self]) l (qq8 c) (h.lp l hl) fun s _ => q4n c h s
  rw [qs qom qn2]
  simp only [qf0, v, qog, qb1, qa3, qm, Ev.exec, qb, qe, qc, qaw, qag, Ev.evs, Ev.Opnd.ev, Ev.Env.get, Ev.Env.set, Ev.look, qn, ql, qx, qae, Ev.kill, qad, qd, qay, qw, qdk, qdj, qj, qk, ↓qq, ↓reduceIte, List.length_cons, List.length_nil, zfe, Nat.reduceAdd, Nat.reduceEqDiff, reduceCtorEq, zfc, and_self, zfd, eq_self]
theorem qxb (h : CfgOk c) : (evL T).call qdq [(.agg [(.fsl ((c.lps).map lpC) false), (.fsl ((c.progs).map qbm) false), (ii c.look), (ii c.fin), (ii c.cap)])] [] = some ((ii (qgh (qgh (qq8 c)) c.lps)), []) := by
  have v := q2a qc9 [(.fptr [(.fsl ((c.lps).map lpC) false), (.fsl ((c.progs).map qbm) false), (ii c.look), (ii c.fin), (ii c.cap)])] (by simp only [qb1, qa3, qay, qw, qdk, qj, qk, zfc, eq_self]) c.lps (qgh (qq8 c)) h.lps fun l hl => q7d c h l hl
  rw [qs qqc qpb]
  simp only [qgu, v, qb1, qa3, qm, Ev.exec, qb, qe, qc, qaw, qag, Ev.evs, Ev.Opnd.ev, Ev.Env.get, Ev.Env.set, Ev.look, qn, qh, qab, Ev.AV.cells, qv, Ev.AV.plain, ql, qx, qae, Ev.kill, qad, qd, qay, qw, qdk, qdj, qj, qk, ↓qq, ↓reduceIte, List.length_cons, List.length_nil, zfe, List.drop_zero, List.head?_cons, Nat.reduceEqDiff, zfc, zfa, and_self, ne_eq, zfb, zff, zfd, eq_self]
def q37 (c : Cfg) (p : Nat × Int) : List AV := [.fn (.func p.1) [(.agg [(.fsl ((c.lps).map lpC) false), (.fsl ((c.progs).map qbm) false), (ii c.look), (ii c.fin), (ii c.cap)])] []]
theorem rule_lo (n : Nat) (p : Nat × Int) : los n (q37 c p) = true := by simp only [q37, qb1, qa3, qay, qbe, qw, qdj, qj, qk, zfc, eq_self]
theorem q4u (n : Nat) (l : List (Nat × Int)) : qi0 n (l.map (q37 c)) = true := qk5 (rule_lo c n) l
theorem q4h (l : List (Nat × Int)) (b : Bool) (hl : l.length < 2 ^ 62) (hf : ∀ p ∈ l, (evL T).call p.1 [(.agg [(.fsl ((c.lps).map lpC) false), (.fsl ((c.progs).map qbm) false), (ii c.look), (ii c.fin), (ii c.cap)])] [] = some ((ii p.2), [])) :
    qaz (evL T) qc2 [.fsl (l.map (q37 c)) b, .fn (.func qe2) [] []] = some (ii (qgh Prod.snd l)) := by
  have h1 : ∀ p ∈ l, (evL T).call qe2 [.fn (.func p.1) [(.agg [(.fsl ((c.lps).map lpC) false), (.fsl ((c.progs).map qbm) false), (ii c.look), (ii c.fin), (ii c.cap)])] []] [] = some ((ii p.2), []) := fun p hp => by
    have := hf p hp
    rw [qs qv8 qu8]
    simp only [qk6, this, qm, Ev.exec, qb, qe, qc, qii, qag, Ev.evs, Ev.Opnd.ev, Ev.Env.get, Ev.Env.set, Ev.look, qn, ql, qx, qae, Ev.kill, qad, qd, qay, ↓qq, ↓reduceIte, List.length_cons, List.length_nil, zfe, List.append_nil, reduceCtorEq, and_self, zfd, eq_self]
  have hL : ∃ y, itB (exec (evL T) itL none qdh) (qr [1, 8, 9, 10] true 0) ⟨[(1, .fn (.func qe2) [] []), (8, .fsl (l.map (q37 c)) b), (9, (ii l.length)), (10, (ii 0))], []⟩ [] = some y ∧ (l.all (fun x => decide (x.2 = 0)) = true ∧ (y.1 = .exit 0 ∧ y.2.1.marks = [] ∧ y.2.2 = []) ∨
      l.all (fun x => decide (x.2 = 0)) = false ∧ ∃ x, l.find? (fun x => !decide (x.2 = 0)) = some x ∧ (y.1 = .ret ∧ y.2.1.marks = [] ∧ y.2.2 = [] ∧ Ev.look y.2.1.vars 4 = some (ii x.2))) := by
    refine qfd l (fun i => ⟨[(1, .fn (.func qe2) [] []), (8, .fsl (l.map (q37 c)) b), (9, (ii l.length)), (10, (ii i))], []⟩) [] (fun x => decide (x.2 = 0)) _ (fun x y => _) ?_ ?_ ?_
    · intro i x hi hx hp
      have hi' : (i : Int) < (l.length : Int) := by omega
      have hw : IntKind.i64.wrap ((i : Int) + 1) = ((i + 1 : Nat) : Int) := by rw [qao (by omega) (by omega)]; simp
      have h2 := h1 x (List.mem_of_getElem? hx)
      rw [of_decide_eq_true hp] at h2
      simp only [qdh, Int.natCast_nonneg, Int.toNat_natCast, List.getElem?_map, Option.map_some, hx, hi', hw, h2, q4u, q37, Ev.exec, qb, qe, qc, qii, qag, Ev.evs, Ev.Opnd.ev, Ev.Env.get, Ev.Env.set, Ev.look, qh, qab, qaj, qax, qo, qr, Ev.keep, qai, qy, qd, qay, qw, qdj, qj, ↓qq, Ev.it1, ↓reduceIte, List.length_cons, List.length_nil, zfe, List.nil_append, List.append_nil, List.head?_cons, Nat.reduceEqDiff, decide_true, decide_false, zfc, zfa, and_self, ne_eq, not_true_eq_false, zfd, eq_self]
    · intro i x hi hx hp
      have hi' : (i : Int) < (l.length : Int) := by omega
      have h2 := h1 x (List.mem_of_getElem? hx)
      have h3 : ¬ x.2 = 0 := of_decide_eq_false hp
      simp only [qdh, Int.natCast_nonneg, Int.toNat_natCast, List.getElem?_map, Option.map_some, hx, hi', h2, h3, q37, Ev.exec, qb, qe, qc, qii, qag, Ev.evs, Ev.Opnd.ev, Ev.Env.get, Ev.Env.set, Ev.look, qh, qab, qax, qo, ↓qq, Ev.it1, ↓reduceIte, List.length_cons, List.length_nil, List.nil_append, List.append_nil, List.head?_cons, Nat.reduceEqDiff, decide_true, zfa, ne_eq, zfb, zfd, eq_self]
      exact ⟨_, rfl, rfl, rfl, rfl, rfl⟩
    · simp only [qdh, Int.lt_irrefl, Ev.exec, qb, qe, qc, qag, Ev.Opnd.ev, Ev.Env.get, Ev.Env.set, Ev.look, qo, ↓qq, Ev.it1, ↓reduceIte, Nat.reduceEqDiff, decide_false, zfa, eq_self]
      exact ⟨_, rfl, rfl, rfl, rfl⟩
  obtain ⟨⟨y, e, σ⟩, k1, k2⟩ := hL
  simp only at k2
  rw [qaz, qs qmf ql9]
  rcases k2 with ⟨k3, rfl, k4, rfl⟩ | ⟨k3, x, k5, rfl, k4, rfl, k6⟩
  · rw [qtu k3]
    simp only [qdu, k1, k4, q4u, qm, Ev.exec, qb, qe, qc, qag, Ev.Opnd.ev, Ev.Env.get, Ev.Env.set, Ev.look, qn, ql, qx, qae, Ev.kill, qad, qr, Ev.keep, qai, qy, qd, qay, qw, qdj, qj, qah, List.length_map, ↓qq, ↓qak, ↓reduceIte, List.length_cons, List.length_nil, zfe, Nat.reduceAdd, Nat.reduceEqDiff, reduceCtorEq, zfc, and_self, zfd, eq_self]
  · rw [qr6 k5]
    simp only [qdu, k1, k4, k6, q4u, qm, Ev.exec, qb, qe, qc, qag, Ev.Opnd.ev, Ev.Env.get, Ev.Env.set, Ev.look, qn, ql, qx, qae, Ev.kill, qad, qr, Ev.keep, qai, qy, qd, qay, qw, qdj, qj, qah, List.length_map, ↓qq, ↓qak, ↓reduceIte, List.length_cons, List.length_nil, zfe, Nat.reduceAdd, Nat.reduceEqDiff, reduceCtorEq, zfc, and_self, zfd, eq_self]
def cfgL (c : Cfg) : List (Nat × Int) := [(qd5, okZ (qr8 c) 1), (qcz, okZ (decide (c.look ≥ 1)) 20), (qc8, qgh (q17 c) c.progs), (qdq, qgh (qgh (qq8 c)) c.lps)]
def q3h (c : Cfg) : Int := qgh Prod.snd (cfgL c)
theorem ql2 (h : CfgOk c) : qaz (evL T) qig [(.agg [(.fsl ((c.lps).map lpC) false), (.fsl ((c.progs).map qbm) false), (ii c.look), (ii c.fin), (ii c.cap)])] = some (ii (q3h c)) := by
  have v := q4h c (cfgL c) true (by simp [cfgL]) (by
    intro p hp
    simp only [cfgL, List.mem_cons, List.not_mem_nil, or_false] at hp
    rcases hp with rfl | rfl | rfl | rfl
    · exact qyg c h
    · exact qt6 c
    · exact qu5 c h
    · exact qxb c h)
  rw [show qgh Prod.snd (cfgL c) = q3h c from rfl] at v
  have hrep : List.replicate 4 ([.v .nilFunc] : List AV) = [[.v .nilFunc], [.v .nilFunc], [.v .nilFunc], [.v .nilFunc]] := rfl
  simp only [cfgL, List.map_cons, List.map_nil, q37] at v
  rw [qaz, qs qy9 qxh]
  simp only [qmm, hrep, v, qb1, qa3, qm, Ev.exec, qb, qe, qc, qaw, qag, Ev.evs, Ev.Opnd.ev, Ev.Env.get, Ev.Env.set, Ev.look, qn, qh, qab, qff, qh9, Ev.AV.cells, Ev.AV.uc, qv, Ev.AV.plain, ql, qx, qae, Ev.kill, qad, qd, qay, qbe, qw, qdj, qj, qk, qaf, qaq, qah, ↓qq, ↓reduceIte, List.length_cons, List.length_nil, List.getElem?_cons_zero, List.take_succ_cons, List.take_zero, zfe, List.drop_succ_cons, List.drop_zero, List.drop_nil, List.nil_append, List.append_nil, List.set_cons_zero, List.set_cons_succ, Nat.reduceAdd, Nat.reduceEqDiff, Nat.reduceMul, Nat.reduceLT, Nat.reduceLeDiff, Nat.reducePow, zfc, and_self, ne_eq, zfb, zff, zfd, Nat.lt_add_one, Nat.le_refl, eq_self]
end
set_option maxRecDepth 10000
theorem q9u {c : Cfg} (h : qr8 c = false) : q3h c = 1 := by
  unfold q3h cfgL qgh; rw [h]; rfl
theorem qabw {c : Cfg} (h1 : qr8 c = true) (h2 : ¬ c.look ≥ 1) : q3h c = 20 := by
  unfold q3h cfgL qgh; rw [h1]; simp [h2, okZ]
theorem q9q {c : Cfg} (h1 : qr8 c = true) (h2 : c.look ≥ 1) (h3 : qgh (q17 c) c.progs ≠ 0) : q3h c = qgh (q17 c) c.progs := by
  unfold q3h
  generalize hz : qgh (q17 c) c.progs = z at h3
  unfold cfgL
  rw [hz, h1]
  unfold qgh; simp [h2, okZ, h3]
theorem q7n {c : Cfg} (h1 : qr8 c = true) (h2 : c.look ≥ 1) (h3 : qgh (q17 c) c.progs = 0) : q3h c = qgh (qgh (qq8 c)) c.lps := by
  unfold q3h
  generalize hz : qgh (qgh (qq8 c)) c.lps = z
  unfold cfgL
  rw [hz, h3, h1]
  by_cases h : z = 0 <;> (unfold qgh; simp [h2, okZ, h])
theorem q34 {τ : Type} (f : τ → Int) (l : List τ) : qgh f l = qq6 f l := by
  unfold qgh qq6
  cases l.find? (fun x => !decide (f x = 0)) <;> rfl
theorem qabe (c : Cfg) : qr7 c = qr8 c := by
  rw [Bool.eq_iff_iff]
  simp only [qr7, qr8, q50, qcn, lenB, len8, Bool.and_eq_true, decide_eq_true_eq, List.all_eq_true, Bool.not_eq_true', decide_eq_false_iff_not]
  constructor
  · rintro ⟨⟨h1, h2, h3⟩, h4, h5, h6, h7, h8⟩
    exact ⟨⟨⟨by omega, by omega⟩, by omega, ⟨by omega, by omega⟩, by omega, by omega⟩, fun x hx => by have := h4 x hx; omega⟩
  · rintro ⟨⟨⟨h1, h2⟩, h3, ⟨h4, h5⟩, h6, h7⟩, h8⟩
    exact ⟨⟨by omega, by omega, by omega⟩, fun x hx => by have := h8 x hx; omega, by omega, by omega, by omega, by omega⟩
theorem qabk (c : Cfg) (s : Start) : qj4 c s = qq8 c s := by
  unfold qj4 qq8 okZ qcn
  by_cases h1 : s.prog < 0 ∨ s.prog ≥ c.progs.length
  · have : (decide (s.prog ≥ 0) && decide (s.prog ≤ (c.progs.length : Int) - 1)) = false := by
      rw [Bool.and_eq_false_iff]; simp only [decide_eq_false_iff_not]; omega
    rw [if_pos h1, if_pos this]
  · have : ¬ (decide (s.prog ≥ 0) && decide (s.prog ≤ (c.progs.length : Int) - 1)) = false := by
      rw [Bool.and_eq_false_iff]; simp only [decide_eq_false_iff_not]; omega
    rw [if_neg h1, if_neg this]
    by_cases h2 : s.time < 0 ∨ s.time > 1152921504606846976
    · have : ¬ (decide (s.time ≥ 0) && decide (s.time ≤ 1152921504606846976)) = true := by
        rw [Bool.and_eq_true]; simp only [decide_eq_true_eq]; omega
      rw [if_pos h2, if_neg this]
    · have : (decide (s.time ≥ 0) && decide (s.time ≤ 1152921504606846976)) = true := by
        rw [Bool.and_eq_true]; simp only [decide_eq_true_eq]; omega
      rw [if_neg h2, if_pos this]
theorem qvl (c : Cfg) : q7r c = q3h c := by
  have e1 : rlpZ c = qgh (qq8 c) := by
    funext l; show qq6 (qj4 c) l = _
    rw [q34, show qj4 c = qq8 c from funext (qabk c)]
  have e2 : que c = q17 c := rfl
  unfold q7r
  rw [qabe, e1, e2, ← q34, ← q34]
  by_cases h1 : qr8 c = false
  · rw [if_pos h1, q9u h1]
  have h1' : qr8 c = true := by simpa using h1
  rw [if_neg h1]
  by_cases h2 : c.look < 1
  · rw [if_pos h2, qabw h1' (by omega)]
  rw [if_neg h2]
  by_cases h3 : qgh (q17 c) c.progs ≠ 0
  · rw [if_pos h3, q9q h1' (by omega) h3]
  · rw [if_neg h3, q7n h1' (by omega) (by simpa using h3)]
set_option maxRecDepth 10000
section
variable {c : Cfg} {s : Sim} {h : List Evt} {n : Nat} {L : List (Lp × Bool)} {A : qaa} {O : List (List AV)}
theorem run_ev (hn : c.lps.length = n) (lim k : Nat) (hlim : lim ≤ 60) (hk : s.n + k = lim) (H : SInv c s h) (S : SimSt n s L A O) :
    ∃ (L' : List (Lp × Bool)) (A' : qaa) (O' : List (List AV)), SimSt n (Sim.run c k s) L' A' O' ∧ (evL T).call qd7 [(.ptr (n + 2) 0 0 0), (ii lim)] (A ++ [.row 1 O 0, (.row 10 [[(.fsl ((c.lps).map lpC) false), (.fsl ((c.progs).map qbm) false), (ii c.look), (ii c.fin), (ii c.cap), .sl (n + 1) 0 0 n false, .sl 0 1 0 n false, (.fsl ((s.pend).map Evt.r) false), (ii s.n), (bb s.over)]] 0)]) = some (.tup [], (A' ++ [.row 1 O' 0, (.row 10 [[(.fsl ((c.lps).map lpC) false), (.fsl ((c.progs).map qbm) false), (ii c.look), (ii c.fin), (ii c.cap), .sl (n + 1) 0 0 n false, .sl 0 1 0 n false, (.fsl (((Sim.run c k s).pend).map Evt.r) false), (ii ((Sim.run c k s).n)), (bb ((Sim.run c k s).over))]] 0)])) := by
  obtain ⟨⟨y, e, σ⟩, k1, L', A', O', S', k2, k3, k4⟩ := run_L hn lim hlim k hk H S
  simp only at k2 k3 k4
  subst k2; subst k4
  refine ⟨L', A', O', S', ?_⟩
  have hlo := S.lo (c := c)
  have hcut := q3j S.len [.row 1 O 0, (.row 10 [[(.fsl ((c.lps).map lpC) false), (.fsl ((c.progs).map qbm) false), (ii c.look), (ii c.fin), (ii c.cap), .sl (n + 1) 0 0 n false, .sl 0 1 0 n false, (.fsl ((s.pend).map Evt.r) false), (ii s.n), (bb s.over)]] 0)]
  have hlo' := S'.lo (c := c)
  have hcut' := q3j S'.len [.row 1 O' 0, (.row 10 [[(.fsl ((c.lps).map lpC) false), (.fsl ((c.progs).map qbm) false), (ii c.look), (ii c.fin), (ii c.cap), .sl (n + 1) 0 0 n false, .sl 0 1 0 n false, (.fsl (((Sim.run c k s).pend).map Evt.r) false), (ii ((Sim.run c k s).n)), (bb ((Sim.run c k s).over))]] 0)]
  have d2 : n + 2 < n + 3 := by omega
  simp only [List.take_succ_cons, List.take_zero] at hcut hcut'
  rw [qs qq4 qp2]
  simp only [qhd, S.len, Nat.add_assoc, hlo, hcut, hlo', hcut', d2, k1, k3, qm, Ev.exec, Ev.Env.get, Ev.look, qn, ql, qae, Ev.kill, qad, qr, Ev.keep, qai, qy, qay, qbc, qlg, qj, ↓qq, ↓qak, ↓reduceIte, List.length_cons, List.length_nil, List.length_append, Nat.reduceAdd, reduceCtorEq, decide_true, zfc, and_self, zfd, eq_self]
theorem q7e (h : Small12 c) : ∃ (R : List (List AV)) (τ : qaa), (evL T).call qio [(.agg [(.fsl ((c.lps).map lpC) false), (.fsl ((c.progs).map qbm) false), (ii c.look), (ii c.fin), (ii c.cap)])] [] = some (.sl 0 0 0 c.lps.length true, .row 4 R 0 :: τ) ∧ qg8 (qg8 (Ev.frz (.dead :: τ) 5)) R = some ((qic c.lps).map lpF) := by
  obtain ⟨⟨y, e, σ⟩, k1, R, τ, k2, k3, k4, k5, k6⟩ := q5y c h
  simp only at k1 k2 k3 k4 k5 k6
  subst k2; subst k4
  have hlps := h.lps
  have b1 : (c.lps.length : Int) * 48 ≤ 140737488355328 := by omega
  have b1' : 48 * (c.lps.length : Int) ≤ 140737488355328 := by omega
  have b2 : (c.lps.length : Int) ≤ 4611686018427387904 := by omega
  refine ⟨R, τ, ?_, ?_⟩
  · rw [qs qxw qwm]
    simp only [qlz, Int.natCast_nonneg, Int.toNat_natCast, b1', b2, k1, k3, k6, Int.le_refl, qm, Ev.exec, qb, qe, qc, qag, Ev.Opnd.ev, Ev.Env.get, Ev.Env.set, Ev.look, qn, qh, qab, Ev.AV.cells, qv, Ev.AV.plain, ql, qx, qae, Ev.kill, qad, qr, Ev.keep, qd, qb2, List.length_map, ↓qq, ↓qak, ↓reduceIte, List.length_cons, List.length_nil, List.take_zero, List.drop_zero, List.nil_append, List.head?_cons, Nat.reduceAdd, Nat.reduceEqDiff, Nat.reduceLT, Int.reducePow, Int.cast_ofNat_Int, decide_true, decide_false, zfc, zfa, and_self, and_true, ne_eq, zfb, zff, zfd, eq_self]
  · exact (k5.mono (σ' := .dead :: τ) (Nat.le_refl _) (fun o h1 h2 => by
      obtain ⟨o, rfl⟩ : ∃ p, o = p + 1 := ⟨o - 1, by omega⟩
      rw [List.getElem?_cons_succ, List.getElem?_cons_succ])).frz (d := 4)
theorem q7z (hn : c.lps.length = n) (h : Small12 c) :
    ∃ (A : qaa) (O : List (List AV)), SimSt n (start c) (qic c.lps) A O ∧ (evL T).call qib [(.agg [(.fsl ((c.lps).map lpC) false), (.fsl ((c.progs).map qbm) false), (ii c.look), (ii c.fin), (ii c.cap)])] [] = some ((.ptr (n + 2) 0 0 0), (A ++ [.row 1 O 0, (.row 10 [[(.fsl ((c.lps).map lpC) false), (.fsl ((c.progs).map qbm) false), (ii c.look), (ii c.fin), (ii c.cap), .sl (n + 1) 0 0 n false, .sl 0 1 0 n false, (.fsl (((start c).pend).map Evt.r) false), (ii ((start c).n)), (bb ((start c).over))]] 0)])) := by
  obtain ⟨R, τ, hs, hf⟩ := q7e (c := c) h
  have hi := qxl c h
  have hlps := h.lps
  have hlo : qd (n + 1) (.row 4 ((qic c.lps).map lpF) 1 :: List.replicate n (.row 6 [] 0)) = true := by
    rw [qrw]
    intro x hx
    rcases List.mem_cons.1 hx with rfl | hx
    · rw [qvq]; exact qkr _ _
    · rw [List.eq_of_mem_replicate hx, qvq, qaf]
  have hO : qi0 (n + 1) ((List.range n).map fun i => [(.sl (1 + i) 0 0 0 false : AV)]) = true := by
    have : ∀ (l : List Nat), (∀ i ∈ l, i < n) → qi0 (n + 1) (l.map fun i => [(.sl (1 + i) 0 0 0 false : AV)]) = true := by
      intro l
      induction l with
      | nil => intro _; exact qaf _
      | cons a l ih =>
        intro hl
        have ha := hl a (by simp)
        have d : 1 + a < n + 1 := by omega
        rw [List.map_cons, qaq, ih (fun i hi => hl i (by simp [hi]))]
        simp only [qk, qj, qb2, d, decide_true, zfc]
    exact this _ (fun i hi => List.mem_range.1 hi)
  refine ⟨.row 4 ((qic c.lps).map lpF) 1 :: List.replicate n (.row 6 [] 0), (List.range n).map fun i => [.sl (1 + i) 0 0 0 false], ⟨by simp, rfl, by simp [qic, q2b, hn], rfl, ?_, by simp [K.start, hn], by simp, ?_, hlo, hO⟩, ?_⟩
  · intro x hx hf
    simp only [qic, q2b, List.mem_map] at hx
    obtain ⟨ps, ⟨l, _, rfl⟩, rfl⟩ := hx
    simpa [stLp] using hf
  · intro i hi
    have : qk0 (start c) i = [] := by unfold qk0; simp [K.start, hn, hi]
    refine ⟨0, ?_, ?_⟩
    · rw [this, List.getElem?_cons_succ, List.getElem?_replicate, if_pos hi]; rfl
    · rw [this, List.getElem?_map, List.getElem?_range hi, Option.map_some, Nat.add_comm]; rfl
  · have b1 : 24 * (n : Int) ≤ 140737488355328 := by omega
    have b2 : (n : Int) ≤ 4611686018427387904 := by omega
    have b3 : (n : Int) * 24 ≤ 140737488355328 := by omega
    rw [hn] at hs
    have e1 : (start c).pend = qoj (qie c.lps) := rfl
    have e2 : (start c).n = 0 := rfl
    have e3 : (start c).over = false := rfl
    rw [e1, e2, e3]
    have d1 : n + 1 + 1 = n + 2 := rfl
    rw [qs qzb qwy]
    simp only [qml, Int.natCast_nonneg, Int.toNat_natCast, hn, hs, hf, hi, b1, b2, d1, List.set_cons_zero, List.append_assoc, Nat.not_lt_zero, qb1, qa3, qm, Ev.exec, qb, qe, qc, qaw, Ev.item_H, qag, Ev.evs, Ev.Opnd.ev, Ev.Env.get, Ev.Env.set, Ev.look, qn, qh, qab, qff, Ev.AV.cells, Ev.AV.uc, qv, Ev.AV.plain, ql, qx, qae, Ev.kill, qad, qd, qay, qbe, qw, qlg, qj, qk, List.length_replicate, List.length_map, ↓qq, ↓reduceIte, List.length_cons, List.length_nil, List.length_append, List.getElem?_cons_zero, List.take_succ_cons, List.take_zero, zfe, List.drop_succ_cons, List.drop_zero, List.cons_append, List.nil_append, List.set_cons_zero, List.head?_cons, Nat.reduceAdd, Nat.reduceEqDiff, Nat.reduceLT, Nat.reduceLeDiff, Int.reducePow, Int.cast_ofNat_Int, decide_false, zfc, zfa, and_self, and_true, ne_eq, zfb, zff, zfd, Nat.le_refl, eq_self]
    rw [Nat.add_comm 1 n]
mutual
theorem q91 : ∀ (a : AV), a.shift 0 = a
  | .v _ => by simp only [AV.shift]
  | .agg cs => by simp only [AV.shift, qlb cs]
  | .tup cs => by simp only [AV.shift, qlb cs]
  | .fsl es c => by simp only [AV.shift, qsp es]
  | .fptr cs => by simp only [AV.shift, qlb cs]
  | .sl o g off len c => by simp only [AV.shift, Nat.add_zero]
  | .ptr o g i off => by simp only [AV.shift, Nat.add_zero]
  | .fn f a b => by simp only [AV.shift, qlb a, qlb b]
  | .yld o => by simp only [AV.shift, Nat.add_zero]
  | .mp o => by simp only [AV.shift, Nat.add_zero]
theorem qlb : ∀ (l : List AV), qi1 0 l = l
  | [] => by simp only [qi1]
  | a :: l => by simp only [qi1, q91 a, qlb l]
theorem qsp : ∀ (l : List (List AV)), qiu 0 l = l
  | [] => by simp only [qiu]
  | a :: l => by simp only [qiu, qlb a, qsp l]
end
theorem q6j {α β : Type} {f : α → Option β} : ∀ {l : List α} {t : List β}, l.length = t.length → (∀ (i : Nat) (a : α) (b : β), l[i]? = some a → t[i]? = some b → f a = some b) → qg8 f l = some t
  | [], [], _, _ => rfl
  | a :: l, b :: t, hl, h => by
    rw [qfc, h 0 a b rfl rfl, q6j (by simpa using hl) (fun i a b h1 h2 => h (i + 1) a b h1 h2)]; rfl
  | [], _ :: _, h, _ => by simp at h
  | _ :: _, [], h, _ => by simp at h
theorem SimSt.frzO (S : SimSt n s L A O) (d : Nat) (B : qaa) : qg8 (qg8 (Ev.frz (A ++ B) (d + 1))) O = some (s.trace.map qd8) := by
  refine q6j (by rw [List.length_map, S.ol, S.trl]) (fun i a b h1 h2 => ?_)
  have hi : i < n := by have := (List.getElem?_eq_some_iff.1 h1).1; rw [S.ol] at this; exact this
  obtain ⟨g, t1, t2⟩ := S.tr i hi
  rw [t2] at h1; cases h1
  have t3 : s.trace[i]? = some (qk0 s i) := by
    unfold qk0; rw [Int.toNat_natCast, List.getElem?_eq_getElem (by rw [S.trl]; exact hi)]; rfl
  rw [List.getElem?_map, t3] at h2; cases h2
  have hs : (A ++ B)[i + 1]? = some (.row 6 ((qk0 s i).map Evt.r) g) := by rw [List.getElem?_append_left (by rw [S.len]; omega)]; exact t1
  have tk : List.take (qk0 s i).length (List.drop 0 ((qk0 s i).map Evt.r)) = (qk0 s i).map Evt.r := by rw [List.drop_zero]; exact List.take_of_length_le (by simp)
  rw [qfc, qgx, frz_sl hs (by simp) (by rw [tk]; exact qac _ _), tk]
  rfl
def isRow : SObj → Bool
  | .row .. => true
  | _ => false
theorem imp_zero {σ : qaa} (h : ∀ x ∈ σ, isRow x = true) : qg8 (q27 0) σ = some σ := by
  refine q6j rfl (fun i a b h1 h2 => ?_)
  rw [h1] at h2; cases h2
  have := h a (List.mem_of_getElem? h1)
  cases a <;> simp only [isRow, zfa] at this
  simp only [q27, qsp]
theorem SimSt.imp (S : SimSt n s L A O) : qg8 (q27 0) (A ++ [.row 1 O 0, (.row 10 [[(.fsl ((c.lps).map lpC) false), (.fsl ((c.progs).map qbm) false), (ii c.look), (ii c.fin), (ii c.cap), .sl (n + 1) 0 0 n false, .sl 0 1 0 n false, (.fsl ((s.pend).map Evt.r) false), (ii s.n), (bb s.over)]] 0)]) = some (A ++ [.row 1 O 0, (.row 10 [[(.fsl ((c.lps).map lpC) false), (.fsl ((c.progs).map qbm) false), (ii c.look), (ii c.fin), (ii c.cap), .sl (n + 1) 0 0 n false, .sl 0 1 0 n false, (.fsl ((s.pend).map Evt.r) false), (ii s.n), (bb s.over)]] 0)]) := by
  refine imp_zero (fun x hx => ?_)
  rcases List.mem_append.1 hx with hx | hx
  · obtain ⟨i, hi⟩ := List.mem_iff_getElem?.1 hx
    have hl := (List.getElem?_eq_some_iff.1 hi).1
    rw [S.len] at hl
    cases i with
    | zero => rw [S.lps] at hi; cases hi; rfl
    | succ i => obtain ⟨g, t1, _⟩ := S.tr i (by omega); rw [t1] at hi; cases hi; rfl
  · simp only [List.mem_cons, List.not_mem_nil, or_false] at hx
    rcases hx with rfl | rfl <;> rfl
def errZ (c : Cfg) (s : Sim) : Int := if s.ready c = true then 10 else if s.over = true then 11 else 0
theorem Run_ev (hn : c.lps.length = n) (h12 : Small12 c) (hok : CfgOk c) (hz : q3h c = 0) (hv : Valid c) (lim : Nat) (hlim : lim ≤ 60) :
    ∃ L : List (Lp × Bool), L.map Prod.fst = (Sim.run c lim (start c)).lps ∧ (∀ x ∈ L, x.2 = true → x.1.procs = []) ∧
      qaz (evL T) qf9 [(.agg [(.fsl ((c.lps).map lpC) false), (.fsl ((c.progs).map qbm) false), (ii c.look), (ii c.fin), (ii c.cap)]), (ii lim)] = some (.tup [(.fsl (((Sim.run c lim (start c)).trace).map qd8) false), (.fsl ((L).map lpF) false), (ii (errZ c (Sim.run c lim (start c))))]) := by
  have hk := ql2 c hok
  rw [hz] at hk
  obtain ⟨A0, O0, S0, h0⟩ := q7z (c := c) hn h12
  obtain ⟨L, A, O, S, h1⟩ := run_ev hn lim lim hlim (by show 0 + lim = lim; omega) (SInv.start hv) S0
  have h2 := q8k (c := c) (s := Sim.run c lim (start c)) (O := O) S.len
  refine ⟨L, S.lpf, S.flag, ?_⟩
  have i1 := S0.imp (c := c)
  have fO := fun d B => S.frzO d B
  have tO : O.take n = O := List.take_of_length_le (by rw [S.ol]; omega)
  have tL : (L.map lpF).take n = L.map lpF := List.take_of_length_le (by rw [List.length_map, S.lpl]; omega)
  have hA0 := S.lps
  have p1 := fun B => q36 S.len B 0 (by omega)
  have hOl := S.ol
  have hLl := S.lpl
  have hle : n ≤ n := Nat.le_refl _
  rw [qaz, qs qug qst]
  unfold errZ
  cases hr : (Sim.run c lim (start c)).ready c with
  | true =>
    rw [hr] at h2
    simp only [qj3, q6d S.len, ql1 S.len, hk, h0, i1, h1, h2, p1, hA0, fO, tO, tL, hOl, hLl, hle, qkr, qb1, qa3, qm, Ev.exec, qb, qe, qc, qaw, qoo, qd2, Ev.AV.shift, qag, Ev.evs, Ev.Opnd.ev, Ev.Env.get, Ev.Env.set, Ev.look, qn, qh, qab, Ev.AV.cells, qv, Ev.AV.plain, qax, ql, qx, qae, Ev.kill, qad, qd, qay, qbe, qbc, qw, qb2, qj, qk, qah, qw3, qlc, qik, qgx, qfc, List.length_map, ↓qq, ↓reduceIte, List.length_cons, List.length_nil, List.getElem?_cons_zero, List.getElem?_cons_succ, List.take_succ_cons, List.take_zero, zfe, List.drop_succ_cons, List.drop_zero, List.nil_append, List.head?_cons, Nat.reduceAdd, Nat.reduceEqDiff, Nat.reduceLT, reduceCtorEq, decide_false, zfc, Bool.and_true, zfa, and_self, and_true, ne_eq, zfb, not_true_eq_false, zff, zfd, Nat.add_zero, Nat.le_refl, eq_self, Bool.and_false]
    done
  | false =>
    rw [hr] at h2
    cases ho : (Sim.run c lim (start c)).over with
    | true =>
      rw [ho] at h1 h2
      simp only [qj3, q6d S.len, ql1 S.len, hk, h0, i1, h1, h2, p1, hA0, fO, tO, tL, hOl, hLl, hle, qkr, qb1, qa3, qm, Ev.exec, qb, qe, qc, qaw, qoo, qd2, Ev.AV.shift, qag, Ev.evs, Ev.Opnd.ev, Ev.Env.get, Ev.Env.set, Ev.look, qn, qh, qab, Ev.AV.cells, qv, Ev.AV.plain, qax, ql, qx, qae, Ev.kill, qad, qd, qay, qbe, qbc, qw, qb2, qj, qk, qah, qw3, qlc, qik, qgx, qfc, List.length_map, ↓qq, ↓reduceIte, List.length_cons, List.length_nil, List.getElem?_cons_zero, List.getElem?_cons_succ, List.take_succ_cons, List.take_zero, zfe, List.drop_succ_cons, List.drop_zero, List.nil_append, List.head?_cons, Nat.reduceAdd, Nat.reduceEqDiff, Nat.reduceLT, reduceCtorEq, decide_false, zfc, Bool.and_true, zfa, and_self, and_true, ne_eq, zfb, not_true_eq_false, zff, zfd, Nat.add_zero, Nat.le_refl, eq_self, Bool.and_false]
      done
    | false =>
      rw [ho] at h1 h2
      simp only [qj3, q6d S.len, ql1 S.len, hk, h0, i1, h1, h2, p1, hA0, fO, tO, tL, hOl, hLl, hle, qkr, qb1, qa3, qm, Ev.exec, qb, qe, qc, qaw, qoo, qd2, Ev.AV.shift, qag, Ev.evs, Ev.Opnd.ev, Ev.Env.get, Ev.Env.set, Ev.look, qn, qh, qab, Ev.AV.cells, qv, Ev.AV.plain, qax, ql, qx, qae, Ev.kill, qad, qd, qay, qbe, qbc, qw, qb2, qj, qk, qah, qw3, qlc, qik, qgx, qfc, List.length_map, ↓qq, ↓reduceIte, List.length_cons, List.length_nil, List.getElem?_cons_zero, List.getElem?_cons_succ, List.take_succ_cons, List.take_zero, zfe, List.drop_succ_cons, List.drop_zero, List.nil_append, List.head?_cons, Nat.reduceAdd, Nat.reduceEqDiff, Nat.reduceLT, reduceCtorEq, decide_false, zfc, Bool.and_true, zfa, and_self, and_true, ne_eq, zfb, not_true_eq_false, zff, zfd, Nat.add_zero, Nat.le_refl, eq_self, Bool.and_false]
      done
end
set_option maxRecDepth 10000
theorem q49 (h : List Evt) : ∀ n : Nat, ((List.range n).map fun i => qnh h i).flatten.Perm (h.filter fun e => decide (0 ≤ e.lp ∧ e.lp < (n : Int)))
  | 0 => by
    have : h.filter (fun e => decide (0 ≤ e.lp ∧ e.lp < ((0 : Nat) : Int))) = [] := List.filter_eq_nil_iff.2 (fun e _ => by simp only [decide_eq_true_eq]; omega)
    rw [this]; exact .refl _
  | n + 1 => by
    rw [List.range_succ, List.map_append, List.flatten_append]
    refine (List.Perm.append (q49 h n) (.refl _)).trans ?_
    have e1 : h.filter (fun e => decide (0 ≤ e.lp ∧ e.lp < (n : Int))) = (h.filter fun e => decide (0 ≤ e.lp ∧ e.lp < ((n + 1 : Nat) : Int))).filter (fun e => decide (e.lp < (n : Int))) := by
      rw [List.filter_filter]
      refine List.filter_congr (fun e _ => ?_)
      rw [← Bool.decide_and]
      refine decide_eq_decide.2 ?_
      omega
    have e2 : ([qnh h n].flatten : List Evt) = (h.filter fun e => decide (0 ≤ e.lp ∧ e.lp < ((n + 1 : Nat) : Int))).filter (fun e => !decide (e.lp < (n : Int))) := by
      rw [List.filter_filter, List.flatten_cons, List.flatten_nil, List.append_nil]
      refine List.filter_congr (fun e _ => ?_)
      rw [← decide_not, ← Bool.decide_and]
      refine decide_eq_decide.2 ?_
      omega
    rw [e1, List.map_cons, List.map_nil, e2]
    exact List.filter_append_perm _ _
theorem own_perm {h : List Evt} {n : Nat} (hl : ∀ e ∈ h, 0 ≤ e.lp ∧ e.lp < (n : Int)) : ((List.range n).map fun i => qnh h i).flatten.Perm h := by
  have := q49 h n
  rwa [List.filter_eq_self.2 (fun e he => by simpa using hl e he)] at this
section
variable {c : Cfg} {s : Sim} {h : List Evt}
theorem SInv.traces (H : SInv c s h) : s.trace = (List.range c.lps.length).map fun i => qnh h i := by
  refine List.ext_getElem? (fun i => ?_)
  by_cases hi : i < c.lps.length
  · rw [H.tr i hi, List.getElem?_map, List.getElem?_range hi]; rfl
  · rw [List.getElem?_eq_none (by rw [H.trl]; omega), List.getElem?_eq_none (by simp; omega)]
theorem SInv.perm (H : SInv c s h) : s.trace.flatten.Perm h := by
  rw [H.traces]
  exact own_perm (fun e he => (H.ev e (List.mem_append_left _ he)).lp)
theorem SInv.count (H : SInv c s h) : s.trace.flatten.length = h.length := H.perm.length_eq
theorem SInv.mem (H : SInv c s h) {i : Nat} {x : List Evt} (hx : s.trace[i]? = some x) : ∀ e ∈ x, e ∈ h ∧ e.lp = i := by
  have hi := (List.getElem?_eq_some_iff.1 hx).1
  rw [H.trl] at hi
  rw [H.tr i hi] at hx; cases hx
  intro e he
  unfold qnh at he
  rw [List.mem_filter] at he
  exact ⟨he.1, by simpa using he.2⟩
theorem SInv.lt (H : SInv c s h) {i : Nat} {x : List Evt} (hx : s.trace[i]? = some x) : x.Pairwise (fun a b => qv4 a b < 0) := by
  have hi := (List.getElem?_eq_some_iff.1 hx).1
  rw [H.trl] at hi
  rw [H.tr i hi] at hx; cases hx
  have h1 : (qnh h i).Sublist h := List.filter_sublist
  have h2 := List.Pairwise.sublist h1 H.ord
  have h3 := List.Pairwise.sublist h1 (List.pairwise_append.1 H.keys).1
  refine (h2.and h3).imp (fun {a b} hab => ?_)
  have := hab.2
  have h4 : ¬ qv4 a b = 0 := fun e => hab.2 ((q1p _ _).1 e).2
  have := hab.1
  unfold leE at this; omega
theorem ran (hv : Valid c) (lim : Nat) (hl : lim ≤ 60) : ∃ h, SInv c (Sim.run c lim (start c)) h ∧ h.length ≤ lim ∧ (h.length = lim ∨ (Sim.run c lim (start c)).ready c = false) := by
  obtain ⟨h, h1, h2, h3⟩ := SInv.run lim (SInv.start hv) (by simpa using hl)
  exact ⟨h, by simpa using h1, h2, h3⟩
end
set_option maxRecDepth 10000
theorem q3e (xs : List (List Evt)) (cl : Bool) (hx : xs.length ≤ 1000000) (hT : xs.flatten.length ≤ 1000000) : qaz (evL T) qgl [(.fsl ((xs).map qd8) cl)] = some (ii xs.flatten.length) := by
  by_cases hne : xs = []
  · subst hne
    have h := q85 cl
    rw [qaz, qs qpy qo1]
    simp only [qjc, List.map_nil, h, qm, Ev.exec, qb, qe, qc, qoo, Ev.AV.shift, qag, Ev.evs, Ev.Opnd.ev, Ev.Env.get, Ev.Env.set, Ev.look, qn, ql, qx, qae, Ev.kill, qad, qd, qay, qw, qj, qk, qaf, qah, qgx, qgj, ↓qq, ↓reduceIte, List.length_cons, List.length_nil, zfe, List.append_nil, Int.cast_ofNat_Int, reduceCtorEq, zfc, and_self, zfd, eq_self]
    rfl
  · obtain ⟨g, h⟩ := q5o xs cl hx hT hne
    rw [qaz, qs qpy qo1]
    simp only [qjc, h, qgj, qac, qlq, qm, Ev.exec, qb, qe, qc, qoo, q27, Ev.AV.shift, qag, Ev.evs, Ev.Opnd.ev, Ev.Env.get, Ev.Env.set, Ev.look, qn, ql, qx, qae, Ev.kill, qad, qd, qay, qw, qj, qk, qah, qgx, qfc, qgj, ↓qq, ↓reduceIte, List.length_cons, List.length_nil, List.take_zero, List.nil_append, reduceCtorEq, zfc, and_self, zfd, Nat.add_zero, eq_self]
theorem Limit_ev (a : Int) (h : 0 ≤ a ∧ a ≤ 255) : qaz (evL T) qgy [(.v (.int .u8 a))] = some (ii ((((a.toNat % 41 : Nat)) : Int))) := by
  have hw : IntKind.i64.wrap a = a := qao (by omega) (by omega)
  have hr : a.tmod 41 = ((a.toNat % 41 : Nat) : Int) := by
    obtain ⟨n, rfl⟩ : ∃ n : Nat, a = n := ⟨a.toNat, by omega⟩
    rw [Int.tmod_eq_emod_of_nonneg (by omega)]; omega
  have h41 : ¬ (41 : Int) = 0 := by decide
  rw [qaz, qs q0y qyr]
  simp only [qnl, hw, hr, h41, qm, Ev.exec, qb, qe, qc, qag, Ev.Opnd.ev, Ev.Env.get, Ev.Env.set, Ev.look, qn, Ev.bin_rem, ql, qx, qae, Ev.kill, qad, qd, qay, qah, ↓qq, ↓reduceIte, List.length_cons, List.length_nil, zfe, reduceCtorEq, and_self, zfd, eq_self]
structure Good (c : Cfg) : Prop where
  h12 : Small12 c
  ok : CfgOk c
  z : q3h c = 0
  v : Valid c
def qx6 (c : Cfg) (lim : Nat) : Sim := Sim.run c lim (start c)
theorem Good.run {c : Cfg} (h : Good c) (lim : Nat) (hl : lim ≤ 60) : ∃ L : List (Lp × Bool), L.map Prod.fst = (qx6 c lim).lps ∧ (∀ x ∈ L, x.2 = true → x.1.procs = []) ∧
      qaz (evL T) qf9 [(.agg [(.fsl ((c.lps).map lpC) false), (.fsl ((c.progs).map qbm) false), (ii c.look), (ii c.fin), (ii c.cap)]), (ii lim)] = some (.tup [(.fsl (((qx6 c lim).trace).map qd8) false), (.fsl ((L).map lpF) false), (ii (errZ c (qx6 c lim)))]) :=
  Run_ev rfl h.h12 h.ok h.z h.v lim hl
structure RunF (c : Cfg) (s : Sim) (h : List Evt) : Prop where
  inv : SInv c s h
  len : h.length ≤ 60
theorem RunF.n {c : Cfg} {s : Sim} {h : List Evt} (H : RunF c s h) : s.trace.length = c.lps.length ∧ c.lps.length ≤ 8 := ⟨H.inv.trl, H.inv.valid.lps.2⟩
theorem RunF.flat {c : Cfg} {s : Sim} {h : List Evt} (H : RunF c s h) : s.trace.flatten.length = h.length := H.inv.count
theorem RunF.rowLen {c : Cfg} {s : Sim} {h : List Evt} (H : RunF c s h) {i : Nat} {x : List Evt} (hx : s.trace[i]? = some x) : x.length ≤ 60 := by
  have h1 := q4j s.trace (i + 1)
  rw [qrd hx, List.length_append, H.flat] at h1
  have := H.len; omega
theorem RunF.key {c : Cfg} {s : Sim} {h : List Evt} (H : RunF c s h) {i : Nat} {x : List Evt} (hx : s.trace[i]? = some x) : ∀ e ∈ x, e.key.length ≤ 9223372036854775807 := by
  intro e he
  have := (H.inv.ev e (List.mem_append_left _ (H.inv.mem hx e he).1)).key
  have := H.len; omega
set_option maxRecDepth 100000
theorem qrn : qaz (evL T) qlj [] = some (.v (.bool true)) := q9o 60 (by kernel_rfl)
set_option maxRecDepth 10000
section
variable (l : List Evt) (cl : Bool)
theorem q7p (out : List Evt) (x : Evt) (i : Nat) (cf : Bool) (hx : l[i]? = some x) (ho : out.length ≤ 1000000) (hk : qgo out) (hkx : x.key.length ≤ 9223372036854775807) :
    ∃ y, itB (exec (evL T) itL none qf6) (qr [0, 3, 4, 5] true 0) ⟨[(0, (.fsl ((l).map Evt.r) cl)), (3, (.fsl ((out).map Evt.r) cf)), (4, (ii i)), (5, (ii out.length))], []⟩ [] = some y ∧
      ∃ k : Nat, y.1 = .exit 2 ∧ y.2.1.marks = [] ∧ y.2.2 = [] ∧ Ev.look y.2.1.vars 0 = some (.fsl ((l).map Evt.r) cl) ∧ Ev.look y.2.1.vars 3 = some (.fsl ((out).map Evt.r) cf) ∧ Ev.look y.2.1.vars 4 = some (ii i) ∧ Ev.look y.2.1.vars 5 = some (ii k) ∧
        k ≤ out.length ∧ (∀ u, 0 < k → out[k - 1]? = some u → leE u x) ∧ (∀ v, out[k]? = some v → leE x v) := by
  refine qjn (τ := Nat) (fun k => ⟨[(0, (.fsl ((l).map Evt.r) cl)), (3, (.fsl ((out).map Evt.r) cf)), (4, (ii i)), (5, (ii k))], []⟩) (fun _ => []) (fun k => k)
    (fun k => k ≤ out.length ∧ (∀ v, out[k]? = some v → leE x v)) _ ?_ out.length ⟨Nat.le_refl _, fun v hv => by simp at hv⟩
  rintro k ⟨h1, h2⟩
  cases k with
  | zero =>
    right
    simp only [qf6, Int.lt_irrefl, Ev.exec, qb, qe, qc, qag, Ev.Opnd.ev, Ev.Env.get, Ev.Env.set, Ev.Env.unset, Ev.look, qav, ↓qq, Ev.it1, ↓reduceIte, Nat.reduceEqDiff, Int.cast_ofNat_Int, reduceCtorEq, decide_false, zfa, eq_self]
    exact ⟨_, rfl, 0, rfl, rfl, rfl, rfl, rfl, rfl, rfl, Nat.zero_le _, fun u h => by omega, h2⟩
  | succ j =>
    obtain ⟨y, hy⟩ : ∃ y, out[j]? = some y := ⟨_, List.getElem?_eq_getElem (by omega)⟩
    obtain ⟨k, hk1⟩ : ∃ k, k = j + 1 := ⟨_, rfl⟩
    rw [← hk1] at h1 h2 ⊢
    have c1 : (k : Int) > 0 := by omega
    have w1 : IntKind.i64.wrap ((k : Int) - 1) = (j : Int) := qv5 hk1 (by omega)
    have hc := qsh y x (hk y (List.mem_of_getElem? hy)) hkx
    by_cases hlt : qv4 y x > 0
    · left
      refine ⟨j, ?_, ⟨by omega, fun v hv => by rw [hy] at hv; cases hv; exact (by have := qtw y x; unfold leE; omega)⟩, by omega⟩
      obtain ⟨xt, xk, xl, xi, xp, xa⟩ := x
      obtain ⟨yt, yk, yl, yi, yp, ya⟩ := y
      simp only at hc
      simp only [qf6, Int.natCast_nonneg, Int.toNat_natCast, List.getElem?_map, Option.map_some, hx, hy, c1, w1, hc, hlt, Evt.r, qac, qar, Ev.exec, qb, qe, qc, qaw, qag, Ev.evs, Ev.Opnd.ev, Ev.Env.get, Ev.Env.set, Ev.look, qh, qab, qce, qav, qr, Ev.keep, qai, qy, qd, qay, qbe, qw, qj, qk, ↓qq, Ev.it1, ↓reduceIte, List.length_cons, List.length_nil, List.take_succ_cons, zfe, Nat.reduceAdd, Nat.reduceEqDiff, reduceCtorEq, decide_true, zfc, and_self, zfd, Nat.le_refl, eq_self]
    · right
      have hle : leE y x := by unfold leE; omega
      have h3 : ∀ u, 0 < k → out[k - 1]? = some u → leE u x := fun u _ hu => by
        rw [hk1, Nat.add_sub_cancel, hy] at hu; cases hu; exact hle
      clear hle
      obtain ⟨xt, xk, xl, xi, xp, xa⟩ := x
      obtain ⟨yt, yk, yl, yi, yp, ya⟩ := y
      simp only at hc
      simp only [qf6, Int.natCast_nonneg, Int.toNat_natCast, List.getElem?_map, Option.map_some, hx, hy, c1, w1, hc, hlt, Evt.r, qar, Ev.exec, qb, qe, qc, qaw, qag, Ev.evs, Ev.Opnd.ev, Ev.Env.get, Ev.Env.set, Ev.look, qh, qab, qce, qav, qay, qbe, qw, qj, qk, ↓qq, Ev.it1, ↓reduceIte, List.length_cons, List.length_nil, List.take_succ_cons, zfe, Nat.reduceAdd, Nat.reduceEqDiff, reduceCtorEq, decide_true, decide_false, zfc, zfa, zfd, Nat.le_refl, eq_self]
      exact ⟨_, rfl, k, rfl, rfl, rfl, rfl, rfl, rfl, rfl, h1, h3, h2⟩
theorem q6t (hl : l.length ≤ 1000000) (hk : qgo l) :
    ∃ y, itB (exec (evL T) itL none qdp) (qr [0, 3, 4] true 0) ⟨[(0, (.fsl ((l).map Evt.r) cl)), (3, .fsl [] true), (4, (ii 0))], []⟩ [] = some y ∧
      ∃ (l' : List Evt) (cf : Bool), y.1 = .exit 0 ∧ y.2.1.marks = [] ∧ y.2.2 = [] ∧ Ev.look y.2.1.vars 3 = some (.fsl ((l').map Evt.r) cf) ∧ l'.Perm l ∧ l'.Pairwise leE ∧ (l ≠ [] → cf = false) := by
  have key := qhi (f := exec (evL T) itL none qdp) (s := qr [0, 3, 4] true 0) (α := List Evt × Bool)
    (fun i a => ⟨[(0, (.fsl ((l).map Evt.r) cl)), (3, (.fsl ((a.1).map Evt.r) a.2)), (4, (ii i))], []⟩) (fun i a => [])
    (fun i a => a.1.Perm (l.take i) ∧ a.1.Pairwise leE ∧ (i ≠ 0 → a.2 = false)) l.length
    (fun y => ∃ (l' : List Evt) (cf : Bool), y.1 = .exit 0 ∧ y.2.1.marks = [] ∧ y.2.2 = [] ∧ Ev.look y.2.1.vars 3 = some (.fsl ((l').map Evt.r) cf) ∧ l'.Perm l ∧ l'.Pairwise leE ∧ (l ≠ [] → cf = false)) ?_ ?_ 0 ([], true) (Nat.zero_le _) ⟨by simp, .nil, fun h => absurd rfl h⟩
  · exact key
  · rintro i ⟨out, cf⟩ hi ⟨hp, hs, _⟩
    simp only at hp hs ⊢
    obtain ⟨x, hx⟩ : ∃ x, l[i]? = some x := ⟨_, List.getElem?_eq_getElem hi⟩
    have hi' : (i : Int) < (l.length : Int) := by omega
    have hw : IntKind.i64.wrap ((i : Int) + 1) = ((i + 1 : Nat) : Int) := by rw [qao (by omega) (by omega)]; simp
    have hol : out.length ≤ 1000000 := by have := hp.length_eq; rw [List.length_take] at this; omega
    obtain ⟨⟨y, e, σ⟩, k1, k, k2, k3, k4, k5, k6, k7, k8, k9, k10, k11⟩ := q7p l cl out x i cf hx hol (fun z hz => hk z (List.mem_of_mem_take (hp.mem_iff.1 hz))) (hk x (List.mem_of_getElem? hx))
    simp only at k1 k2 k3 k4 k5 k6 k7 k8
    subst k2; subst k4
    obtain ⟨A, B, rfl, hA⟩ : ∃ A B, out = A ++ B ∧ A.length = k := ⟨out.take k, out.drop k, (List.take_append_drop _ _).symm, by simp; omega⟩
    subst hA
    have c1 : (A.length : Int) ≤ ((A ++ B).length : Int) := by rw [List.length_append]; omega
    have c2 : (0 : Int) ≤ (A.length : Int) := by omega
    have tk : List.take A.length ((A ++ B).map Evt.r) = A.map Evt.r := by rw [List.map_append]; exact List.take_left' (by simp)
    have dr : List.drop A.length ((A ++ B).map Evt.r) = B.map Evt.r := by rw [List.map_append]; exact List.drop_left' (by simp)
    have hlen : A.length + B.length ≤ 1000000 := by rw [List.length_append] at hol; exact hol
    have new : (A ++ x :: B).Perm (l.take (i + 1)) ∧ (A ++ x :: B).Pairwise leE := by
      constructor
      · rw [qea hx]
        exact (List.perm_middle.trans ((List.Perm.cons x hp))).trans (List.perm_append_singleton x _).symm
      · refine qpt qof hs (fun u hu => ?_) (fun v hv => ?_)
        · have hlt : A.length - 1 < A.length := (List.getElem?_eq_some_iff.1 hu).1
          refine k10 u (by omega) ?_
          rw [List.getElem?_append_left hlt]; exact hu
        · refine k11 v ?_
          rw [List.getElem?_append_right (Nat.le_refl _), Nat.sub_self]; exact hv
    refine .inl ⟨(A ++ x :: B, false), ?_, new.1, new.2, fun _ => rfl⟩
    have b1 : A.length * 64 ≤ 140737488355328 := by omega
    have b2 : (A.length + 1) * 64 ≤ 140737488355328 := by omega
    have b3 : (A.length + 1 + B.length) * 64 ≤ 140737488355328 := by omega
    have tb : List.take ((A ++ B).length - A.length) (B.map Evt.r) = B.map Evt.r := List.take_of_length_le (by simp)
    have ta : List.take A.length (A.map Evt.r) = A.map Evt.r := List.take_of_length_le (by simp)
    have ta2 : ∀ e : List AV, List.take (A.length + 1) (A.map Evt.r ++ [e]) = A.map Evt.r ++ [e] := fun e => List.take_of_length_le (by simp)
    have ta3 : ∀ e : List AV, List.take (A.length + 1 + B.length) (A.map Evt.r ++ e :: B.map Evt.r) = A.map Evt.r ++ e :: B.map Evt.r := fun e => List.take_of_length_le (by simp; omega)
    have okAB : qeh 6 ((A ++ B).map Evt.r) = true := qlv _
    have goal' : (AV.fsl ((A ++ x :: B).map Evt.r) false) = AV.fsl (A.map Evt.r ++ x.r :: B.map Evt.r) false := by rw [List.map_append, List.map_cons]
    have n1 : ∀ p q : Nat, p + 1 + q ≤ p + (q + 1) := fun p q => by omega
    have n2 : ∀ q : Nat, 1 + q ≤ q + 1 := fun q => by omega
    simp only
    rw [goal']
    rcases A with _ | ⟨a, A⟩ <;> rcases B with _ | ⟨b, B⟩
    · obtain ⟨xt, xk, xl, xi, xp, xa⟩ := x
      simp only [List.nil_append, List.length_nil, List.map_nil, Int.ofNat_zero] at *
      simp only [qdp, Int.natCast_nonneg, Int.toNat_natCast, List.getElem?_map, Option.map_some, hx, hi', hw, k1, k3, k5, k6, k7, k8, c1, tk, dr, b1, b2, ta2, okAB, imp_self, Nat.sub_zero, Int.toNat_zero, Evt.r, qac, qar, Ev.exec, qb, qe, qc, qag, qsn, Ev.Opnd.ev, Ev.Env.get, Ev.Env.set, Ev.look, qjv, qh, qc0, qab, qh9, Ev.AV.cells, qv, Ev.AV.plain, qaj, qo, qr, Ev.keep, qai, qy, qd, qay, qw, qj, qk, qaf, qaq, qcc, List.replicate_one, List.length_map, ↓qq, ↓qak, Ev.it1, ↓reduceIte, List.length_cons, List.length_nil, List.getElem?_cons_zero, List.take_succ_cons, List.take_zero, zfe, List.drop_zero, List.nil_append, List.set_cons_zero, Nat.reduceAdd, Nat.reduceEqDiff, Nat.reduceMul, Nat.reduceLT, Nat.reduceLeDiff, Nat.reducePow, Int.cast_ofNat_Int, reduceCtorEq, decide_true, zfc, Bool.and_true, zfa, and_self, ne_eq, zfb, zff, zfd, Nat.add_zero, Nat.lt_add_one, Nat.le_refl, Option.isSome_some, Option.isSome_none, eq_self, implies_true]
    · generalize hRB : List.map Evt.r (b :: B) = RB at *
      have nB : ¬ RB = [] := by rw [← hRB]; simp
      have lB : RB.length = (b :: B).length := by rw [← hRB]; simp
      have oB : qeh 6 RB = true := by rw [← hRB]; exact qlv _
      have loB : ∀ n, qi0 n RB = true := fun n => by rw [← hRB]; exact qac n _
      obtain ⟨xt, xk, xl, xi, xp, xa⟩ := x
      simp only [List.nil_append, List.length_nil, List.map_nil, Int.ofNat_zero, hRB, Nat.sub_zero, List.drop_zero] at *
      generalize hrb : (b :: B).length = nb at *
      simp only [qdp, Int.natCast_nonneg, Int.toNat_natCast, List.getElem?_map, Option.map_some, hx, hi', hw, k1, k3, k5, k6, k7, k8, c1, c2, tk, b1, b2, b3, ta, ta2, ta3, tb, okAB, imp_self, n2, Int.le_refl, Nat.sub_zero, nB, lB, loB, qcb, Int.toNat_zero, Evt.r, qac, qar, Ev.exec, qb, qe, qc, qag, qsn, Ev.Opnd.ev, Ev.Env.get, Ev.Env.set, Ev.look, qjv, qh, qc0, qab, qh9, Ev.AV.cells, qv, Ev.AV.plain, qaj, qo, qr, Ev.keep, qai, qy, qd, qay, qw, qj, qk, qaq, qcb, qcc, List.replicate_one, List.length_map, ↓qq, ↓qak, Ev.it1, ↓reduceIte, List.length_cons, List.length_nil, List.getElem?_cons_zero, List.take_succ_cons, List.take_zero, zfe, List.drop_zero, List.cons_append, List.nil_append, List.set_cons_zero, Nat.reduceAdd, Nat.reduceEqDiff, Nat.reduceMul, Nat.reduceLT, Nat.reduceLeDiff, Nat.reducePow, reduceCtorEq, decide_true, zfc, Bool.and_true, zfa, and_self, ne_eq, zfb, zff, zfd, Nat.add_zero, Nat.lt_add_one, Nat.le_refl, Option.isSome_some, Option.isSome_none, eq_self, implies_true]
    · generalize hRA : List.map Evt.r (a :: A) = RA at *
      have nA : ¬ RA = [] := by rw [← hRA]; simp
      have lA : RA.length = (a :: A).length := by rw [← hRA]; simp
      have oA : qeh 6 RA = true := by rw [← hRA]; exact qlv _
      have loA : ∀ n, qi0 n RA = true := fun n => by rw [← hRA]; exact qac n _
      obtain ⟨xt, xk, xl, xi, xp, xa⟩ := x
      simp only [List.append_nil, List.length_nil, List.map_nil, hRA, Nat.add_zero, Nat.sub_self] at *
      generalize hra : (a :: A).length = na at *
      simp only [qdp, Int.natCast_nonneg, Int.toNat_natCast, List.getElem?_map, Option.map_some, hx, hi', hw, k1, k3, k5, k6, k7, k8, c1, c2, tk, dr, b1, b2, ta2, tb, okAB, imp_self, Int.le_refl, Nat.sub_zero, nA, lA, loA, qcb, zfe, qly, Evt.r, qac, qar, Ev.exec, qb, qe, qc, qag, qsn, Ev.Opnd.ev, Ev.Env.get, Ev.Env.set, Ev.look, qjv, qh, qc0, qab, qh9, Ev.AV.cells, qv, Ev.AV.plain, qaj, qo, qr, Ev.keep, qai, qy, qd, qay, qw, qj, qk, qaf, qaq, qcb, qcc, List.replicate_one, List.length_map, ↓qq, ↓qak, Ev.it1, ↓reduceIte, List.length_cons, List.length_nil, List.length_append, List.getElem?_cons_zero, List.take_succ_cons, List.take_zero, zfe, List.drop_zero, List.nil_append, List.set_cons_zero, Nat.reduceAdd, Nat.reduceEqDiff, Nat.reduceMul, Nat.reduceLT, Nat.reduceLeDiff, Nat.reducePow, Int.reduceToNat, reduceCtorEq, decide_true, zfc, Bool.and_true, zfa, and_self, ne_eq, zfb, zff, zfd, Nat.add_zero, Nat.lt_add_one, Nat.le_refl, Option.isSome_some, Option.isSome_none, eq_self, implies_true]
    · generalize hRA : List.map Evt.r (a :: A) = RA at *
      generalize hRB : List.map Evt.r (b :: B) = RB at *
      have nA : ¬ RA = [] := by rw [← hRA]; simp
      have nB : ¬ RB = [] := by rw [← hRB]; simp
      have lA : RA.length = (a :: A).length := by rw [← hRA]; simp
      have lB : RB.length = (b :: B).length := by rw [← hRB]; simp
      have oA : qeh 6 RA = true := by rw [← hRA]; exact qlv _
      have oB : qeh 6 RB = true := by rw [← hRB]; exact qlv _
      have loA : ∀ n, qi0 n RA = true := fun n => by rw [← hRA]; exact qac n _
      have loB : ∀ n, qi0 n RB = true := fun n => by rw [← hRB]; exact qac n _
      generalize hra : (a :: A).length = na at *
      generalize hrb : (b :: B).length = nb at *
      generalize (a :: A) ++ (b :: B) = AB at *
      obtain ⟨xt, xk, xl, xi, xp, xa⟩ := x
      simp only [qdp, Int.natCast_nonneg, Int.toNat_natCast, List.getElem?_map, Option.map_some, hx, hi', hw, k1, k3, k5, k6, k7, k8, c1, c2, tk, dr, b1, b2, b3, ta, ta2, ta3, tb, okAB, imp_self, n1, List.append_assoc, Int.le_refl, Nat.sub_zero, nA, nB, lA, lB, oA, oB, loA, loB, qly, Evt.r, qac, qar, Ev.exec, qb, qe, qc, qag, qsn, Ev.Opnd.ev, Ev.Env.get, Ev.Env.set, Ev.look, qjv, qh, qc0, qab, qh9, Ev.AV.cells, qv, Ev.AV.plain, qaj, qo, qr, Ev.keep, qai, qy, qd, qay, qw, qj, qk, qaq, qcb, qcc, List.replicate_one, List.length_map, ↓qq, ↓qak, Ev.it1, ↓reduceIte, List.length_cons, List.length_nil, List.length_append, List.getElem?_cons_zero, List.take_succ_cons, List.take_zero, zfe, List.drop_zero, List.cons_append, List.nil_append, List.set_cons_zero, Nat.reduceAdd, Nat.reduceEqDiff, Nat.reduceMul, Nat.reduceLT, Nat.reduceLeDiff, Nat.reducePow, Int.reduceToNat, reduceCtorEq, decide_true, zfc, Bool.and_true, zfa, and_self, ne_eq, zfb, zff, zfd, Nat.lt_add_one, Nat.le_refl, Option.isSome_some, Option.isSome_none, eq_self, implies_true]
  · rintro ⟨out, cf⟩ ⟨hp, hs, hc⟩
    rw [List.take_length] at hp
    simp only at hp hs hc ⊢
    simp only [qdp, Int.lt_irrefl, Ev.exec, qb, qe, qc, qag, Ev.Opnd.ev, Ev.Env.get, Ev.Env.set, Ev.look, qo, List.length_map, ↓qq, Ev.it1, ↓reduceIte, Nat.reduceEqDiff, reduceCtorEq, decide_false, zfa, ne_eq, eq_self]
    exact ⟨_, rfl, out, cf, rfl, rfl, rfl, rfl, hp, hs, fun h => hc (by intro e; exact h (List.eq_nil_of_length_eq_zero e))⟩
theorem quv (hl : l.length ≤ 1000000) (hk : qgo l) : ∃ (l' : List Evt) (cf : Bool), l'.Perm l ∧ l'.Pairwise leE ∧ (l ≠ [] → cf = false) ∧ qaz (evL T) qeq [(.fsl ((l).map Evt.r) cl)] = some (.fsl ((l').map Evt.r) cf) := by
  obtain ⟨⟨y, e, σ⟩, k1, l', cf, k2, k3, k4, k5, k6, k7, k8⟩ := q6t l cl hl hk
  simp only at k1 k2 k3 k4 k5
  subst k2; subst k4
  refine ⟨l', cf, k6, k7, k8, ?_⟩
  rw [qaz, qs qt0 qsl]
  simp only [qjw, k1, k3, k5, qac, qm, Ev.exec, qb, qe, qc, qag, Ev.Opnd.ev, Ev.Env.get, Ev.Env.set, Ev.look, qn, ql, qx, qae, Ev.kill, qad, qr, Ev.keep, qai, qy, qd, qay, qw, qaf, qah, ↓qq, ↓qak, ↓reduceIte, List.length_cons, List.length_nil, zfe, Nat.reduceEqDiff, reduceCtorEq, zfc, and_self, zfd, eq_self]
theorem qnd (hl : l.length ≤ 1000000) (hk : qgo l) (hd : q8w l) : ∃ cf : Bool, (l ≠ [] → cf = false) ∧ qaz (evL T) qeq [(.fsl ((l).map Evt.r) cl)] = some (.fsl ((qoj l).map Evt.r) cf) := by
  obtain ⟨l', cf, h1, h2, h3, h4⟩ := quv l cl hl hk
  rw [← qx5 hd h1 h2]; exact ⟨cf, h3, h4⟩
end
set_option maxRecDepth 10000
section
variable (c : Cfg)
theorem q6k (k : Nat) (l : List Start) (hkl : c.lps[k]? = some l) (o0 : List Evt) (g0 : Nat) (hl : l.length ≤ 12) (hk : k ≤ 12) (ho : o0.length ≤ 1000) :
    ∃ y, itB (exec (evL T) itL none qh0) (qr [1, 3, 4, 5] true 1) ⟨[(1, (.fptr [(.fsl ((c.lps).map lpC) false), (.fsl ((c.progs).map qbm) false), (ii c.look), (ii c.fin), (ii c.cap)])), (3, .sl 0 g0 0 o0.length false), (4, (ii k)), (5, (ii 0))], []⟩ [.row 6 (o0.map Evt.r) g0] = some y ∧
      ∃ g : Nat, y.1 = .exit 2 ∧ y.2.1.marks = [] ∧ y.2.2 = [.row 6 ((o0 ++ qih k l).map Evt.r) g] ∧ Ev.look y.2.1.vars 3 = some (.sl 0 g 0 (o0 ++ qih k l).length false) ∧ Ev.look y.2.1.vars 1 = some (.fptr [(.fsl ((c.lps).map lpC) false), (.fsl ((c.progs).map qbm) false), (ii c.look), (ii c.fin), (ii c.cap)]) ∧ Ev.look y.2.1.vars 4 = some (ii k) := by
  have key := qhi (f := exec (evL T) itL none qh0) (s := qr [1, 3, 4, 5] true 1) (α := List Evt × Nat)
    (fun i a => ⟨[(1, (.fptr [(.fsl ((c.lps).map lpC) false), (.fsl ((c.progs).map qbm) false), (ii c.look), (ii c.fin), (ii c.cap)])), (3, .sl 0 a.2 0 a.1.length false), (4, (ii k)), (5, (ii i))], []⟩) (fun i a => [.row 6 (a.1.map Evt.r) a.2])
    (fun i a => a.1 = o0 ++ qih k (l.take i)) l.length
    (fun y => ∃ g : Nat, y.1 = .exit 2 ∧ y.2.1.marks = [] ∧ y.2.2 = [.row 6 ((o0 ++ qih k l).map Evt.r) g] ∧ Ev.look y.2.1.vars 3 = some (.sl 0 g 0 (o0 ++ qih k l).length false) ∧ Ev.look y.2.1.vars 1 = some (.fptr [(.fsl ((c.lps).map lpC) false), (.fsl ((c.progs).map qbm) false), (ii c.look), (ii c.fin), (ii c.cap)]) ∧ Ev.look y.2.1.vars 4 = some (ii k)) ?_ ?_ 0 (o0, g0) (Nat.zero_le _) (by simp [qih])
  · exact key
  · rintro i ⟨out, g⟩ hi hout
    simp only at hout ⊢
    obtain ⟨x, hx⟩ : ∃ x, l[i]? = some x := ⟨_, List.getElem?_eq_getElem hi⟩
    have hi' : (i : Int) < (l.length : Int) := by omega
    have hw : IntKind.i64.wrap ((i : Int) + 1) = ((i + 1 : Nat) : Int) := by rw [qao (by omega) (by omega)]; simp
    have ho2 : out.length ≤ 1012 := by rw [hout, List.length_append, qxu]; have := List.length_take_le i l; omega
    have hb : (out.length + 1) * 64 ≤ 140737488355328 := by omega
    obtain ⟨t1, t2⟩ := qpx out (qhg k i x).r
    have hr : (out ++ [qhg k i x]).map Evt.r = out.map Evt.r ++ [(qhg k i x).r] := by rw [List.map_append]; rfl
    refine .inl ⟨(out ++ [qhg k i x], g + 1), ?_, by simp only; rw [q1e hx, hout, List.append_assoc]⟩
    have hlo := qac 1 (out ++ [qhg k i x])
    simp only
    rw [hr, List.length_append]
    rw [hr] at hlo
    have hrep : ∀ v : List AV, List.replicate 2 v = [v, v] := fun _ => rfl
    simp only [qhg, Evt.r, List.map_cons, List.map_nil, qcm] at t2 hlo ⊢
    simp only [qh0, Int.natCast_nonneg, Int.toNat_natCast, List.getElem?_map, Option.map_some, hx, hkl, hi', hw, hb, t1, hlo, hrep, lpC, Start.r, qb1, qa3, Ev.exec, qb, qe, qc, qag, qsn, Ev.Opnd.ev, Ev.Env.get, Ev.Env.set, Ev.look, qh, qc0, qab, qff, qh9, Ev.AV.cells, Ev.AV.uc, qv, Ev.AV.plain, qaj, qo, qr, Ev.keep, qai, qy, qd, Ev.SObj.lo, qay, qw, qdk, qb2, qj, qk, qcb, qcc, List.replicate_one, List.length_map, ↓qq, Ev.it1, ↓reduceIte, List.length_cons, List.length_nil, List.getElem?_cons_zero, List.take_succ_cons, List.take_zero, zfe, List.drop_succ_cons, List.drop_zero, List.cons_append, List.nil_append, List.set_cons_zero, List.set_cons_succ, List.head?_cons, Nat.reduceAdd, Nat.reduceEqDiff, Nat.reduceMul, Nat.reduceLT, Nat.reduceLeDiff, Nat.reducePow, decide_true, zfc, zfa, and_self, ne_eq, zfb, zff, zfd, Nat.lt_add_one, Nat.le_refl, eq_self]
  · rintro ⟨out, g⟩ hout
    rw [List.take_length] at hout
    simp only at hout ⊢
    simp only [qh0, Int.natCast_nonneg, Int.toNat_natCast, List.getElem?_map, Option.map_some, hkl, lpC, Int.lt_irrefl, Ev.exec, qb, qe, qc, qag, Ev.Opnd.ev, Ev.Env.get, Ev.Env.set, Ev.look, qh, qab, qo, List.length_map, ↓qq, Ev.it1, ↓reduceIte, List.length_cons, List.length_nil, List.length_append, List.drop_zero, List.head?_cons, Nat.reduceEqDiff, decide_false, zfa, zfd, eq_self]
    exact ⟨_, rfl, g, rfl, rfl, by rw [hout], by rw [hout, List.length_append]; rfl, rfl, rfl⟩
theorem q6s (h : Small12 c) :
    ∃ y, itB (exec (evL T) itL none qh6) (qr [1, 3, 4] true 1) ⟨[(1, (.fptr [(.fsl ((c.lps).map lpC) false), (.fsl ((c.progs).map qbm) false), (ii c.look), (ii c.fin), (ii c.cap)])), (3, .sl 0 0 0 0 false), (4, (ii 0))], []⟩ [.row 6 [] 0] = some y ∧
      ∃ g : Nat, y.1 = .exit 0 ∧ y.2.1.marks = [] ∧ y.2.2 = [.row 6 ((qie c.lps).map Evt.r) g] ∧ Ev.look y.2.1.vars 3 = some (.sl 0 g 0 (qie c.lps).length false) := by
  have key := qhi (f := exec (evL T) itL none qh6) (s := qr [1, 3, 4] true 1) (α := List Evt × Nat)
    (fun i a => ⟨[(1, (.fptr [(.fsl ((c.lps).map lpC) false), (.fsl ((c.progs).map qbm) false), (ii c.look), (ii c.fin), (ii c.cap)])), (3, .sl 0 a.2 0 a.1.length false), (4, (ii i))], []⟩) (fun i a => [.row 6 (a.1.map Evt.r) a.2])
    (fun i a => a.1 = qie (c.lps.take i)) c.lps.length
    (fun y => ∃ g : Nat, y.1 = .exit 0 ∧ y.2.1.marks = [] ∧ y.2.2 = [.row 6 ((qie c.lps).map Evt.r) g] ∧ Ev.look y.2.1.vars 3 = some (.sl 0 g 0 (qie c.lps).length false)) ?_ ?_ 0 ([], 0) (Nat.zero_le _) (by simp [qie])
  · exact key
  · rintro i ⟨out, g⟩ hi hout
    simp only at hout ⊢
    obtain ⟨x, hx⟩ : ∃ x, c.lps[i]? = some x := ⟨_, List.getElem?_eq_getElem hi⟩
    have hlps := h.lps
    have hi' : (i : Int) < (c.lps.length : Int) := by omega
    have hw : IntKind.i64.wrap ((i : Int) + 1) = ((i + 1 : Nat) : Int) := by rw [qao (by omega) (by omega)]; simp
    have hl := h.len i
    obtain ⟨⟨y, e, σ⟩, k1, g', k2, k3, k4, k5, k6, k7⟩ := q6k c i x hx out g (h.lp _ (List.mem_of_getElem? hx)) (by omega) (by rw [hout]; omega)
    simp only at k1 k2 k3 k4 k5 k6 k7
    subst k2; subst k4
    refine .inl ⟨(out ++ qih i x, g'), ?_, by simp only; rw [qw5 hx, hout]⟩
    simp only [List.length_append] at k5 ⊢
    simp only [qh6, hi', hw, k1, k3, k5, k6, k7, qac, qb1, qa3, Ev.exec, qb, qe, qc, qag, Ev.Opnd.ev, Ev.Env.get, Ev.Env.set, Ev.look, qh, qab, qaj, qo, qr, Ev.keep, qai, qy, qd, Ev.SObj.lo, qay, qw, qdk, qb2, qj, qk, List.length_map, ↓qq, ↓qak, Ev.it1, ↓reduceIte, List.length_cons, List.length_nil, List.take_succ_cons, zfe, List.drop_zero, List.head?_cons, Nat.reduceEqDiff, decide_true, zfc, zfa, and_self, zfd, Nat.lt_add_one, eq_self]
  · rintro ⟨out, g⟩ hout
    rw [List.take_length] at hout
    simp only at hout ⊢
    simp only [qh6, Int.lt_irrefl, Ev.exec, qb, qe, qc, qag, Ev.Opnd.ev, Ev.Env.get, Ev.Env.set, Ev.look, qh, qab, qo, List.length_map, ↓qq, Ev.it1, ↓reduceIte, List.drop_zero, List.head?_cons, Nat.reduceEqDiff, decide_false, zfa, eq_self]
    exact ⟨_, rfl, g, rfl, rfl, by rw [hout], by rw [hout]; rfl⟩
theorem qyq (h : Small12 c) : ∃ cf : Bool, qaz (evL T) qin [(.agg [(.fsl ((c.lps).map lpC) false), (.fsl ((c.progs).map qbm) false), (ii c.look), (ii c.fin), (ii c.cap)])] = some (.fsl ((qoj (qie c.lps)).map Evt.r) cf) := by
  obtain ⟨⟨y, e, σ⟩, k1, g, k2, k3, k4, k5⟩ := q6s c h
  simp only at k1 k2 k3 k4 k5
  subst k2; subst k4
  have hl := h.len c.lps.length
  rw [List.take_length] at hl
  obtain ⟨cf, _, hs⟩ := qnd (qie c.lps) false (by omega) (q3c _) (q26 _)
  refine ⟨cf, ?_⟩
  have t1 := (qpx (qie c.lps) []).1
  rw [qaz, qs qwt qvr]
  simp only [qlw, k1, k3, k5, hs, t1, qac, qb1, qa3, qm, Ev.exec, qb, qe, qc, qaw, qag, Ev.evs, Ev.Opnd.ev, Ev.Env.get, Ev.Env.set, Ev.look, qn, Ev.AV.cells, qv, Ev.AV.plain, ql, qx, qae, Ev.kill, qad, qr, Ev.keep, qai, qy, qd, Ev.SObj.lo, qay, qw, qdk, qb2, qj, qk, qaf, qah, List.length_map, ↓qq, ↓qak, ↓reduceIte, List.length_cons, List.length_nil, List.getElem?_cons_zero, List.take_succ_cons, List.take_zero, zfe, List.drop_zero, List.nil_append, List.set_cons_zero, Nat.reduceEqDiff, Nat.reduceLT, decide_true, zfc, and_self, ne_eq, zfb, zff, zfd, Nat.lt_add_one, Nat.le_refl, eq_self]
end
set_option maxRecDepth 10000
section
variable (D : List Evt) (G : List (List Int)) (cd cg : Bool)
theorem q7i (o : List Evt) (g i : Nat) (x : Evt) (hx : D[i]? = some x) (hG : G.length ≤ 1000) (hk : ∀ k ∈ G, k.length ≤ 9223372036854775807) (hxk : x.key.length ≤ 9223372036854775807) :
    ∃ y, itB (exec (evL T) itL none qh1) (qr [0, 1, 5, 6, 7, 8] true 1) ⟨[(0, (.fsl ((D).map Evt.r) cd)), (1, (.fsl ((G).map qfe) cg)), (5, .sl 0 g 0 o.length false), (6, (ii i)), (7, (bb false)), (8, (ii ((0 : Nat))))], []⟩ [.row 6 (o.map Evt.r) g] = some y ∧
      (y.1 = .exit 2 ∧ y.2.1.marks = [] ∧ y.2.2 = [.row 6 (o.map Evt.r) g] ∧ Ev.look y.2.1.vars 0 = some (.fsl ((D).map Evt.r) cd) ∧ Ev.look y.2.1.vars 1 = some (.fsl ((G).map qfe) cg) ∧ Ev.look y.2.1.vars 5 = some (.sl 0 g 0 o.length false) ∧ Ev.look y.2.1.vars 6 = some (ii i) ∧ Ev.look y.2.1.vars 7 = some (bb (!qda G x))) := by
  have hb : (!qda G x) = G.any fun k => decide (x.key = k) := by
    unfold qda
    rw [Bool.not_not]
    congr 1; funext k; exact decide_eq_decide.2 eq_comm
  rw [hb]
  have key := qhi (f := exec (evL T) itL none qh1) (s := qr [0, 1, 5, 6, 7, 8] true 1) (α := Unit)
    (fun j _ => ⟨[(0, (.fsl ((D).map Evt.r) cd)), (1, (.fsl ((G).map qfe) cg)), (5, .sl 0 g 0 o.length false), (6, (ii i)), (7, (bb (((G.take j).any fun k => decide (x.key = k))))), (8, (ii j))], []⟩) (fun _ _ => [.row 6 (o.map Evt.r) g])
    (fun _ _ => True) G.length
    (fun y => y.1 = .exit 2 ∧ y.2.1.marks = [] ∧ y.2.2 = [.row 6 (o.map Evt.r) g] ∧ Ev.look y.2.1.vars 0 = some (.fsl ((D).map Evt.r) cd) ∧ Ev.look y.2.1.vars 1 = some (.fsl ((G).map qfe) cg) ∧ Ev.look y.2.1.vars 5 = some (.sl 0 g 0 o.length false) ∧ Ev.look y.2.1.vars 6 = some (ii i) ∧ Ev.look y.2.1.vars 7 = some (bb ((G.any fun k => decide (x.key = k))))) ?_ ?_ 0 () (Nat.zero_le _) trivial
  · exact key
  · rintro j _ hj _
    obtain ⟨z, hz⟩ : ∃ z, G[j]? = some z := ⟨_, List.getElem?_eq_getElem hj⟩
    have hj' : (j : Int) < (G.length : Int) := by omega
    have hw : IntKind.i64.wrap ((j : Int) + 1) = ((j + 1 : Nat) : Int) := by rw [qao (by omega) (by omega)]; simp
    have e1 : ((G.take (j + 1)).any fun k => decide (x.key = k)) = (((G.take j).any fun k => decide (x.key = k)) || decide (x.key = z)) := by rw [qea hz, List.any_append]; simp
    have sk := qqs x.key z false false hxk (hk z (List.mem_of_getElem? hz))
    refine .inl ⟨(), ?_, trivial⟩
    rw [e1]
    generalize ((G.take j).any fun k => decide (x.key = k)) = f
    generalize decide (x.key = z) = f2 at *
    obtain ⟨xt, xk, xl, xi, xp, xa⟩ := x
    cases f <;> simp only [qh1, Int.natCast_nonneg, Int.toNat_natCast, List.getElem?_map, Option.map_some, hx, hz, hj', hw, sk, Evt.r, qfe, qbq, qac, qar, Ev.exec, qb, qe, qc, qaw, qag, Ev.evs, Ev.Opnd.ev, Ev.Env.get, Ev.Env.set, Ev.Env.unset, Ev.look, qh, qab, qaj, qo, qr, Ev.keep, qai, qy, qd, Ev.SObj.lo, qay, qw, qb2, qj, qk, List.length_map, ↓qq, Ev.it1, ↓reduceIte, List.length_cons, List.length_nil, List.take_succ_cons, zfe, List.drop_succ_cons, List.drop_zero, List.head?_cons, Nat.reduceAdd, Nat.reduceEqDiff, reduceCtorEq, decide_true, zfc, Bool.true_or, Bool.false_or, zfa, Bool.true_eq_false, and_self, zfd, Nat.lt_add_one, eq_self]
  · rintro _ _
    simp only [List.take_length]
    simp only [qh1, Int.lt_irrefl, Ev.exec, qb, qe, qc, qag, Ev.Opnd.ev, Ev.Env.get, Ev.Env.set, Ev.look, qo, List.length_map, ↓qq, Ev.it1, ↓reduceIte, Nat.reduceEqDiff, reduceCtorEq, decide_false, zfa, eq_self]
    exact ⟨_, rfl, rfl, rfl, rfl, rfl, rfl, rfl, rfl, rfl⟩
theorem q92 (hD : D.length ≤ 1000000) (hDk : qgo D) (hG : G.length ≤ 1000) (hk : ∀ k ∈ G, k.length ≤ 9223372036854775807) :
    qaz (evL T) qip [(.fsl ((D).map Evt.r) cd), (.fsl ((G).map qfe) cg)] = some (.fsl (((D.filter (qda G))).map Evt.r) false) := by
  have hL : ∃ y, itB (exec (evL T) itL none qgi) (qr [0, 1, 5, 6] true 1) ⟨[(0, (.fsl ((D).map Evt.r) cd)), (1, (.fsl ((G).map qfe) cg)), (5, .sl 0 0 0 0 false), (6, (ii ((0 : Nat))))], []⟩ [.row 6 [] 0] = some y ∧
      ∃ g : Nat, y.1 = .exit 0 ∧ y.2.1.marks = [] ∧ y.2.2 = [.row 6 ((D.filter (qda G)).map Evt.r) g] ∧ Ev.look y.2.1.vars 5 = some (.sl 0 g 0 (D.filter (qda G)).length false) := by
    have key := qhi (f := exec (evL T) itL none qgi) (s := qr [0, 1, 5, 6] true 1) (α := Nat)
      (fun i g => ⟨[(0, (.fsl ((D).map Evt.r) cd)), (1, (.fsl ((G).map qfe) cg)), (5, .sl 0 g 0 ((D.take i).filter (qda G)).length false), (6, (ii i))], []⟩) (fun i g => [.row 6 (((D.take i).filter (qda G)).map Evt.r) g])
      (fun _ _ => True) D.length
      (fun y => ∃ g : Nat, y.1 = .exit 0 ∧ y.2.1.marks = [] ∧ y.2.2 = [.row 6 ((D.filter (qda G)).map Evt.r) g] ∧ Ev.look y.2.1.vars 5 = some (.sl 0 g 0 (D.filter (qda G)).length false)) ?_ ?_ 0 0 (Nat.zero_le _) trivial
    · exact key
    · rintro i g hi _
      obtain ⟨x, hx⟩ : ∃ z, D[i]? = some z := ⟨_, List.getElem?_eq_getElem hi⟩
      have hi' : (i : Int) < (D.length : Int) := by omega
      have hw : IntKind.i64.wrap ((i : Int) + 1) = ((i + 1 : Nat) : Int) := by rw [qao (by omega) (by omega)]; simp
      obtain ⟨⟨y, e, σ⟩, k1, k2, k3, k4, k5, k6, k7, k8, k9⟩ := q7i D G cd cg ((D.take i).filter (qda G)) g i x hx hG hk (hDk x (List.mem_of_getElem? hx))
      simp only [Int.ofNat_zero] at k1 k2 k3 k4 k5 k6 k7 k8 k9
      subst k2; subst k4
      have hle : ((D.take i).filter (qda G)).length ≤ 1000000 := by
        have h1 := List.length_filter_le (qda G) (D.take i)
        have h2 := List.length_take_le' i D
        omega
      cases hb : qda G x with
      | true =>
        rw [hb] at k9
        have e1 : (D.take (i + 1)).filter (qda G) = (D.take i).filter (qda G) ++ [x] := by rw [qea hx, List.filter_append]; simp [hb]
        refine .inl ⟨g + 1, ?_, trivial⟩
        rw [e1]
        generalize (D.take i).filter (qda G) = W at *
        have tk : List.take W.length (W.map Evt.r) = W.map Evt.r := List.take_of_length_le (by simp)
        have b : (W.length + 1) * 64 ≤ 140737488355328 := by omega
        have hm : (W ++ [x]).map Evt.r = W.map Evt.r ++ [x.r] := by rw [List.map_append]; rfl
        have hlo : qi0 1 (W.map Evt.r ++ [x.r]) = true := by rw [← hm]; exact qac _ _
        rw [hm, List.length_append]
        obtain ⟨xt, xk, xl, xi, xp, xa⟩ := x
        simp only [Evt.r] at hlo
        simp only [qgi, Int.natCast_nonneg, Int.toNat_natCast, List.getElem?_map, Option.map_some, hx, hi', hw, k1, k3, k5, k6, k7, k8, k9, tk, b, hlo, Evt.r, qbq, qac, Ev.exec, qb, qe, qc, qag, qsn, Ev.Opnd.ev, Ev.Env.get, Ev.Env.set, Ev.look, qh, qc0, qab, qh9, Ev.AV.cells, qv, Ev.AV.plain, qaj, qo, qr, Ev.keep, qai, qy, qd, Ev.SObj.lo, qay, qw, qb2, qcb, qcc, List.replicate_one, List.length_map, ↓qq, ↓qak, Ev.it1, ↓reduceIte, List.length_cons, List.length_nil, List.getElem?_cons_zero, List.take_succ_cons, zfe, List.set_cons_zero, Nat.reduceAdd, Nat.reduceEqDiff, Nat.reduceMul, Nat.reduceLeDiff, Nat.reducePow, reduceCtorEq, decide_true, zfc, Bool.not_true, Bool.not_false, and_self, ne_eq, zfb, zff, zfd, Nat.lt_add_one, Nat.le_refl, eq_self]
      | false =>
        rw [hb] at k9
        have e1 : (D.take (i + 1)).filter (qda G) = (D.take i).filter (qda G) := by rw [qea hx, List.filter_append]; simp [hb]
        refine .inl ⟨g, ?_, trivial⟩
        rw [e1]
        generalize (D.take i).filter (qda G) = W at *
        simp only [qgi, hi', hw, k1, k3, k5, k6, k7, k8, k9, qbq, qac, Ev.exec, qb, qe, qc, qag, Ev.Opnd.ev, Ev.Env.get, Ev.Env.set, Ev.look, qaj, qo, qr, Ev.keep, qai, qy, qd, Ev.SObj.lo, qay, qw, qb2, List.length_map, ↓qq, ↓qak, Ev.it1, ↓reduceIte, List.length_cons, List.length_nil, List.take_succ_cons, zfe, Nat.reduceEqDiff, reduceCtorEq, decide_true, zfc, Bool.not_true, Bool.not_false, zfa, and_self, zfd, Nat.lt_add_one, eq_self]
    · rintro g _
      simp only [List.take_length]
      simp only [qgi, Int.lt_irrefl, Ev.exec, qb, qe, qc, qag, Ev.Opnd.ev, Ev.Env.get, Ev.Env.set, Ev.look, qo, List.length_map, ↓qq, Ev.it1, ↓reduceIte, Nat.reduceEqDiff, reduceCtorEq, decide_false, zfa, eq_self]
      exact ⟨_, rfl, g, rfl, rfl, rfl, rfl⟩
  obtain ⟨⟨y, e, σ⟩, k1, g, k2, k3, k4, k5⟩ := hL
  simp only [Int.ofNat_zero] at k1 k2 k3 k4 k5
  subst k2; subst k4
  have tk : List.take (D.filter (qda G)).length ((D.filter (qda G)).map Evt.r) = (D.filter (qda G)).map Evt.r := List.take_of_length_le (by simp)
  generalize D.filter (qda G) = W at *
  rw [qaz, qs qxo qwc]
  simp only [ql3, k1, k3, k5, tk, qbq, qac, qm, Ev.exec, qb, qe, qc, qag, Ev.Opnd.ev, Ev.Env.get, Ev.Env.set, Ev.look, qn, ql, qx, qae, Ev.kill, qad, qr, Ev.keep, qai, qy, qd, Ev.SObj.lo, qay, qw, qb2, qaf, qlc, qik, List.length_map, ↓qq, ↓qak, ↓reduceIte, List.length_cons, List.length_nil, List.getElem?_cons_zero, List.take_succ_cons, List.take_zero, zfe, List.drop_zero, List.nil_append, Nat.reduceAdd, Nat.reduceEqDiff, Nat.reduceLT, reduceCtorEq, decide_true, decide_false, zfc, zfa, and_self, and_true, zfd, Nat.lt_add_one, Nat.le_refl, eq_self]
end
theorem q0x (xs : List (List Evt)) (cl : Bool) (hx : xs.length ≤ 1000000) (hT : xs.flatten.length ≤ 1000000) : qaz (evL T) qiv [(.fsl ((xs).map qd8) cl)] = some (ii xs.flatten.length) := by
  have hL : ∃ y, itB (exec (evL T) itL none qh5) (qr [0, 3, 4] true 0) ⟨[(0, (.fsl ((xs).map qd8) cl)), (3, (ii 0)), (4, (ii 0))], []⟩ [] = some y ∧
      (y.1 = .exit 0 ∧ y.2.1.marks = [] ∧ y.2.2 = [] ∧ Ev.look y.2.1.vars 3 = some (ii xs.flatten.length)) := by
    have key := qhi (f := exec (evL T) itL none qh5) (s := qr [0, 3, 4] true 0) (α := Unit)
      (fun i _ => ⟨[(0, (.fsl ((xs).map qd8) cl)), (3, (ii ((xs.take i).flatten.length))), (4, (ii i))], []⟩) (fun _ _ => [])
      (fun _ _ => True) xs.length (fun y => y.1 = .exit 0 ∧ y.2.1.marks = [] ∧ y.2.2 = [] ∧ Ev.look y.2.1.vars 3 = some (ii xs.flatten.length)) ?_ ?_ 0 () (Nat.zero_le _) trivial
    · exact key
    · rintro i _ hi _
      obtain ⟨x, hx'⟩ : ∃ x, xs[i]? = some x := ⟨_, List.getElem?_eq_getElem hi⟩
      have hi' : (i : Int) < (xs.length : Int) := by omega
      have hw : IntKind.i64.wrap ((i : Int) + 1) = ((i + 1 : Nat) : Int) := by rw [qao (by omega) (by omega)]; simp
      have h1 := q4j xs (i + 1)
      rw [qrd hx', List.length_append] at h1
      have h2 : IntKind.i64.wrap (((xs.take i).flatten.length : Int) + (x.length : Int)) = (((xs.take i).flatten.length + x.length : Nat) : Int) := qmg (by omega)
      refine .inl ⟨(), ?_, trivial⟩
      rw [qrd hx', List.length_append]
      generalize (xs.take i).flatten.length = m at h2 h1 ⊢
      simp only [qh5, Int.natCast_nonneg, Int.toNat_natCast, List.getElem?_map, Option.map_some, hx', hi', hw, h2, qd8, qlq, Ev.exec, qb, qe, qc, qag, Ev.Opnd.ev, Ev.Env.get, Ev.Env.set, Ev.look, qh, qab, qaj, qo, qr, Ev.keep, qai, qy, qd, qay, qw, List.length_map, ↓qq, Ev.it1, ↓reduceIte, List.length_cons, List.length_nil, zfe, List.head?_cons, Nat.reduceEqDiff, reduceCtorEq, decide_true, zfc, zfa, and_self, zfd, eq_self]
    · rintro _ _
      simp only [qh5, Int.lt_irrefl, List.take_length, Ev.exec, qb, qe, qc, qag, Ev.Opnd.ev, Ev.Env.get, Ev.Env.set, Ev.look, qo, List.take_length, List.length_map, ↓qq, Ev.it1, ↓reduceIte, Nat.reduceEqDiff, reduceCtorEq, decide_false, zfa, eq_self]
      exact ⟨_, rfl, rfl, rfl, rfl, rfl⟩
  obtain ⟨⟨y, e, σ⟩, k1, k2, k3, k4, k5⟩ := hL
  simp only at k1 k2 k3 k4 k5
  subst k2; subst k4
  rw [qaz, qs qw2 qvf]
  simp only [ql0, k1, k3, k5, qlq, qm, Ev.exec, qb, qe, qc, qag, Ev.Opnd.ev, Ev.Env.get, Ev.Env.set, Ev.look, qn, ql, qx, qae, Ev.kill, qad, qr, Ev.keep, qai, qy, qd, qay, qw, qah, ↓qq, ↓qak, ↓reduceIte, List.length_cons, List.length_nil, zfe, Nat.reduceEqDiff, reduceCtorEq, zfc, and_self, zfd, eq_self]
theorem qv0 (a : List (List Evt)) (ca cb : Bool) (hal : a.length ≤ 1000000) (hs : ∀ x ∈ a, x.length ≤ 1000000) (hk : ∀ x ∈ a, ∀ e ∈ x, e.key.length ≤ 9223372036854775807) :
    qaz (evL T) qga [(.fsl ((a).map qd8) ca), (.fsl ((a).map qd8) cb)] = some (bb true) := by
  have hL : ∃ y, itB (exec (evL T) itL none qh3) (qr [0, 1, 5] true 0) ⟨[(0, (.fsl ((a).map qd8) ca)), (1, (.fsl ((a).map qd8) cb)), (5, (ii ((0 : Nat))))], []⟩ [] = some y ∧ (y.1 = .exit 0 ∧ y.2.1.marks = [] ∧ y.2.2 = []) := by
    refine itB_each a (fun i => ⟨[(0, (.fsl ((a).map qd8) ca)), (1, (.fsl ((a).map qd8) cb)), (5, (ii i))], []⟩) [] _ ?_ ?_
    · intro i x hi hx
      have hi' : (i : Int) < (a.length : Int) := by omega
      have hw : IntKind.i64.wrap ((i : Int) + 1) = ((i + 1 : Nat) : Int) := by rw [qao (by omega) (by omega)]; simp
      have hxl := hs _ (List.mem_of_getElem? hx)
      have hxk := hk _ (List.mem_of_getElem? hx)
      have he := qrm x x false false (by omega) (by omega) hxk hxk
      rw [decide_eq_true rfl] at he
      simp only [qh3, Int.natCast_nonneg, Int.toNat_natCast, List.getElem?_map, Option.map_some, hx, hi', hw, he, qd8, qlq, qac, Ev.exec, qb, qe, qc, qaw, qag, Ev.evs, Ev.Opnd.ev, Ev.Env.get, Ev.Env.set, Ev.look, qh, qab, qaj, qo, qr, Ev.keep, qai, qy, qd, qay, qw, qj, qk, List.length_map, ↓qq, Ev.it1, ↓reduceIte, List.length_cons, List.length_nil, zfe, List.head?_cons, Nat.reduceEqDiff, reduceCtorEq, decide_true, zfc, Bool.not_true, zfa, and_self, zfd, eq_self]
    · simp only [qh3, Int.lt_irrefl, Ev.exec, qb, qe, qc, qag, Ev.Opnd.ev, Ev.Env.get, Ev.Env.set, Ev.look, qo, List.length_map, ↓qq, Ev.it1, ↓reduceIte, Nat.reduceEqDiff, reduceCtorEq, decide_false, zfa, eq_self]
      exact ⟨_, rfl, rfl, rfl, rfl⟩
  obtain ⟨⟨y, e, σ⟩, k1, k2, k3, k4⟩ := hL
  simp only [Int.ofNat_zero] at k1 k2 k3 k4
  subst k2; subst k4
  rw [qaz, qs qty qta]
  simp only [qju, k1, k3, qlq, qm, Ev.exec, qb, qe, qc, qag, Ev.Opnd.ev, Ev.Env.get, Ev.Env.set, Ev.look, qn, qax, ql, qx, qae, Ev.kill, qad, qr, Ev.keep, qai, qy, qd, qay, qw, qah, List.length_map, ↓qq, ↓qak, ↓reduceIte, List.length_cons, List.length_nil, zfe, Nat.reduceAdd, Nat.reduceEqDiff, reduceCtorEq, decide_false, zfc, zfa, and_self, ne_eq, not_true_eq_false, zfd, eq_self]
set_option maxRecDepth 10000
theorem qaab (c : Cfg) (h : Small12 c) (h1 : 1 ≤ c.lps.length) : qaz (evL T) qkg [(.agg [(.fsl ((c.lps).map lpC) false), (.fsl ((c.progs).map qbm) false), (ii c.look), (ii c.fin), (ii c.cap)])] = some (.agg [(.fsl (((start c).trace).map qd8) false), (.fsl (((qic c.lps)).map lpF) false), (.fsl (((start c).pend).map Evt.r) false), (ii ((start c).n)), (bb ((start c).over))]) := by
  have hs := q1d c h
  obtain ⟨cf, hi⟩ := qyq c h
  have hlps := h.lps
  have hL : ∃ y, itB (exec (evL T) itL none qhn) (qr [1, 2, 3, 4] false 2) ⟨[(1, (.fptr [(.fsl ((c.lps).map lpC) false), (.fsl ((c.progs).map qbm) false), (ii c.look), (ii c.fin), (ii c.cap)])), (2, .ptr 0 0 0 0), (3, .ptr 1 0 0 0), (4, (ii ((0 : Nat))))], []⟩ (.row 5 [[.fsl [] false, .fsl [] false, .fsl [] false, (ii 0), (bb false)]] 0 :: .row 5 [[.fsl [] true, (.fsl (((qic c.lps)).map lpF) false), (.fsl (((qoj (qie c.lps))).map Evt.r) false), (ii 0), (bb false)]] 0 :: []) = some y ∧
      ∃ g : Nat, y.1 = .exit 0 ∧ y.2.1.marks = [] ∧ y.2.2 = [.row 5 [[.fsl [] false, .fsl [] false, .fsl [] false, (ii 0), (bb false)]] 0, .row 5 [[.sl 2 g 0 c.lps.length false, (.fsl (((qic c.lps)).map lpF) false), (.fsl (((qoj (qie c.lps))).map Evt.r) false), (ii 0), (bb false)]] 0, .row 1 (List.replicate c.lps.length (qd8 [])) g] ∧ Ev.look y.2.1.vars 2 = some (.ptr 0 0 0 0) ∧ Ev.look y.2.1.vars 3 = some (.ptr 1 0 0 0) := by
    have key := qhi (f := exec (evL T) itL none qhn) (s := qr [1, 2, 3, 4] false 2) (α := AV × qaa)
      (fun i a => ⟨[(1, (.fptr [(.fsl ((c.lps).map lpC) false), (.fsl ((c.progs).map qbm) false), (ii c.look), (ii c.fin), (ii c.cap)])), (2, .ptr 0 0 0 0), (3, .ptr 1 0 0 0), (4, (ii i))], []⟩) (fun i a => .row 5 [[.fsl [] false, .fsl [] false, .fsl [] false, (ii 0), (bb false)]] 0 :: .row 5 [[a.1, (.fsl (((qic c.lps)).map lpF) false), (.fsl (((qoj (qie c.lps))).map Evt.r) false), (ii 0), (bb false)]] 0 :: a.2)
      (fun i a => i = 0 ∧ a = (.fsl [] true, []) ∨ 0 < i ∧ ∃ g : Nat, a = (.sl 2 g 0 i false, [.row 1 (List.replicate i (qd8 [])) g])) c.lps.length
      (fun y => ∃ g : Nat, y.1 = .exit 0 ∧ y.2.1.marks = [] ∧ y.2.2 = [.row 5 [[.fsl [] false, .fsl [] false, .fsl [] false, (ii 0), (bb false)]] 0, .row 5 [[.sl 2 g 0 c.lps.length false, (.fsl (((qic c.lps)).map lpF) false), (.fsl (((qoj (qie c.lps))).map Evt.r) false), (ii 0), (bb false)]] 0, .row 1 (List.replicate c.lps.length (qd8 [])) g] ∧ Ev.look y.2.1.vars 2 = some (.ptr 0 0 0 0) ∧ Ev.look y.2.1.vars 3 = some (.ptr 1 0 0 0)) ?_ ?_ 0 (.fsl [] true, []) (Nat.zero_le _) (.inl ⟨rfl, rfl⟩)
    · exact key
    · rintro i a hi ha
      have hi' : (i : Int) < (c.lps.length : Int) := by omega
      have hw : IntKind.i64.wrap ((i : Int) + 1) = ((i + 1 : Nat) : Int) := by rw [qao (by omega) (by omega)]; simp
      rcases ha with ⟨h0, rfl⟩ | ⟨h0, g, rfl⟩
      · refine .inl ⟨(.sl 2 0 0 (i + 1) false, [.row 1 (List.replicate (i + 1) (qd8 [])) 0]), ?_, .inr ⟨by omega, 0, rfl⟩⟩
        have e1 : i + 1 = 1 := by omega
        have e2 : List.replicate (i + 1) (qd8 []) = [[.fsl [] false]] := by rw [e1]; rfl
        rw [e2]
        have e3 : (AV.sl 2 0 0 (i + 1) false) = .sl 2 0 0 1 false := by rw [e1]
        simp only [e3]
        simp only [qhn, hi', hw, Ev.exec, qb, qe, qc, qag, qsn, Ev.Opnd.ev, Ev.Env.get, Ev.Env.set, Ev.look, qh, qc0, qab, qh9, Ev.AV.cells, Ev.AV.uc, qv, Ev.AV.plain, qaj, qo, qr, Ev.keep, qcb, qcc, List.replicate_one, List.length_map, ↓qq, Ev.it1, ↓reduceIte, List.length_cons, List.length_nil, List.getElem?_cons_zero, List.getElem?_cons_succ, List.take_zero, List.drop_succ_cons, List.drop_zero, List.cons_append, List.nil_append, List.set_cons_zero, List.set_cons_succ, List.head?_cons, Nat.reduceAdd, Nat.reduceEqDiff, Nat.reduceMul, Nat.reduceLeDiff, Nat.reducePow, decide_true, zfc, zfa, and_self, ne_eq, zfb, not_true_eq_false, zff, zfd, Nat.add_zero, Nat.lt_add_one, eq_self]
      · refine .inl ⟨(.sl 2 (g + 1) 0 (i + 1) false, [.row 1 (List.replicate (i + 1) (qd8 [])) (g + 1)]), ?_, .inr ⟨by omega, g + 1, rfl⟩⟩
        have e1 : List.replicate (i + 1) (qd8 []) = List.replicate i (qd8 []) ++ [[.fsl [] false]] := by rw [List.replicate_succ']; rfl
        have b : (i + 1) * 24 ≤ 140737488355328 := by omega
        have hl : (List.replicate i (qd8 [])).length = i := List.length_replicate
        have tk : List.take i (List.replicate i (qd8 [])) = List.replicate i (qd8 []) := List.take_of_length_le (by simp)
        rw [e1]
        generalize List.replicate i (qd8 []) = RR at *
        have hle : i ≤ i := Nat.le_refl _
        simp only [qhn, hi', hw, b, hl, tk, hle, Ev.exec, qb, qe, qc, qag, qsn, Ev.Opnd.ev, Ev.Env.get, Ev.Env.set, Ev.look, qh, qc0, qab, qh9, Ev.AV.cells, Ev.AV.uc, qv, Ev.AV.plain, qaj, qo, qr, Ev.keep, qcb, qcc, List.replicate_one, List.length_map, ↓qq, Ev.it1, ↓reduceIte, List.length_cons, List.length_nil, List.getElem?_cons_zero, List.getElem?_cons_succ, List.take_zero, List.drop_succ_cons, List.drop_zero, List.cons_append, List.nil_append, List.set_cons_zero, List.set_cons_succ, List.head?_cons, Nat.reduceAdd, Nat.reduceEqDiff, Nat.reduceMul, Nat.reduceLeDiff, Nat.reducePow, decide_true, zfc, zfa, and_self, ne_eq, zfb, zff, zfd, Nat.add_zero, Nat.lt_add_one, eq_self]
    · rintro a ha
      rcases ha with ⟨h0, rfl⟩ | ⟨h0, g, rfl⟩
      · omega
      · simp only [qhn, Int.lt_irrefl, Ev.exec, qb, qe, qc, qag, Ev.Opnd.ev, Ev.Env.get, Ev.Env.set, Ev.look, qh, qab, qo, List.length_map, ↓qq, Ev.it1, ↓reduceIte, List.drop_zero, List.head?_cons, Nat.reduceEqDiff, decide_false, zfa, eq_self]
        exact ⟨_, rfl, g, rfl, rfl, rfl, rfl, rfl⟩
  obtain ⟨⟨y, e, σ⟩, k1, g, k2, k3, k4, k5, k6⟩ := hL
  simp only [Int.ofNat_zero] at k1 k2 k3 k4 k5 k6
  subst k2; subst k4
  have e1 : (start c).trace.map qd8 = List.replicate c.lps.length (qd8 []) := by simp [K.start]
  have e2 : (start c).pend = qoj (qie c.lps) := rfl
  have e3 : (start c).n = 0 := rfl
  have e4 : (start c).over = false := rfl
  rw [e1, e2, e3, e4]
  have tk : List.take c.lps.length (List.replicate c.lps.length (qd8 [])) = List.replicate c.lps.length (qd8 []) := List.take_of_length_le (by simp)
  have hlo : qi0 0 (List.replicate c.lps.length (qd8 [])) = true := q2n _ _ _ (q7x _ _)
  have hl : (List.replicate c.lps.length (qd8 [])).length = c.lps.length := List.length_replicate
  generalize List.replicate c.lps.length (qd8 []) = RR at *
  have hle : c.lps.length ≤ c.lps.length := Nat.le_refl _
  rw [qaz, qs q05 qy6]
  simp only [qno, hs, hi, k1, k3, k5, k6, tk, hlo, hl, hle, qb1, qa3, qac, qkr, qm, Ev.exec, qb, qe, qc, qaw, qag, Ev.evs, Ev.Opnd.ev, Ev.Env.get, Ev.Env.set, Ev.look, qn, qh, qab, qff, Ev.AV.cells, Ev.AV.uc, qv, Ev.AV.plain, ql, qx, qae, Ev.kill, qad, qr, Ev.keep, qd, qay, qbe, qw, qb2, qj, qk, qah, q4a, qlc, qik, qgx, qfc, ↓qq, ↓qak, ↓reduceIte, List.length_cons, List.length_nil, List.getElem?_cons_zero, List.getElem?_cons_succ, List.take_succ_cons, List.take_zero, zfe, List.drop_succ_cons, List.drop_zero, List.drop_nil, List.cons_append, List.nil_append, List.append_nil, List.set_cons_zero, List.set_cons_succ, Nat.reduceAdd, Nat.reduceEqDiff, Nat.reduceLT, Nat.reduceLeDiff, Int.cast_ofNat_Int, decide_false, zfc, Bool.and_true, zfa, and_self, and_true, ne_eq, zfb, zff, zfd, Nat.le_refl, eq_self]
section
variable {c : Cfg} {s : Sim} {h : List Evt}
theorem q9w (H : SInv c s h) {e : Evt} {rest : List Evt} (hp : s.pend = e :: rest) (hh : h.length ≤ 60) (L : List (Lp × Bool)) (hL : L.map Prod.fst = s.lps) (hfl : ∀ x ∈ L, x.2 = true → x.1.procs = []) :
    ∃ L' : List (Lp × Bool), L'.map Prod.fst = (s.step c e rest).lps ∧ (∀ x ∈ L', x.2 = true → x.1.procs = []) ∧
      qaz (evL T) qjo [(.agg [(.fsl ((c.lps).map lpC) false), (.fsl ((c.progs).map qbm) false), (ii c.look), (ii c.fin), (ii c.cap)]), (.agg [(.fsl ((s.trace).map qd8) false), (.fsl ((L).map lpF) false), (.fsl ((s.pend).map Evt.r) false), (ii s.n), (bb s.over)])] = some (.agg [(.fsl (((s.step c e rest).trace).map qd8) false), (.fsl ((L').map lpF) false), (.fsl (((s.step c e rest).pend).map Evt.r) false), (ii ((s.step c e rest).n)), (bb ((s.step c e rest).over))]) := by
  obtain ⟨x, hx, hlx, R⟩ := H.head hp hh
  have ge := H.ev e (by rw [hp]; simp)
  obtain ⟨i, hi⟩ : ∃ i : Nat, e.lp = i := ⟨_, (Int.toNat_of_nonneg ge.lp.1).symm⟩
  have hin : i < c.lps.length := by have := ge.lp; omega
  rw [hi, Int.toNat_natCast] at hx
  obtain ⟨z, hz⟩ : ∃ z, L[i]? = some z := ⟨_, List.getElem?_eq_getElem (by have := congrArg List.length hL; rw [List.length_map, H.lpl] at this; omega)⟩
  have hz1 : z.1 = x := by
    have : s.lps[i]? = some z.1 := by rw [← hL, List.getElem?_map, hz]; rfl
    rw [hx] at this; exact (Option.some.inj this).symm
  obtain ⟨z1, f⟩ := z
  simp only at hz1
  subst hz1
  have hf := hfl _ (List.mem_of_getElem? hz)
  simp only at hf
  have hsz := R.sizes
  have hkn := H.keyNe hp hh
  rw [hlx] at hkn
  obtain ⟨q1, _, q3, q4, q5, q6⟩ := hsz
  have hlen := H.len
  rw [hp] at hlen
  have ht : s.trace[i]? = some (qk0 s i) := by unfold qk0; rw [Int.toNat_natCast, List.getElem?_eq_getElem (by rw [H.trl]; exact hin)]; rfl
  have htl : (qk0 s i).length ≤ 1000 := by
    have h1 := H.tr i hin
    have : qk0 s i = qnh h i := by unfold qk0; rw [Int.toNat_natCast, h1]; rfl
    rw [this]
    have := List.length_filter_le (fun e : Evt => decide (e.lp = i)) h
    unfold qnh; omega
  have hE := qaan R f hf
  have hkr : qsw (rest ++ (qb6 c z1 e).out) := (List.pairwise_append.1 hkn).2.1
  have hko : qgo (rest ++ (qb6 c z1 e).out) := by
    intro y hy
    rcases List.mem_append.1 hy with hy | hy
    · have := (H.ev y (by rw [hp]; simp [hy])).key; omega
    · have := q4 y hy; omega
  have hsub : ((rest ++ (qb6 c z1 e).out).filter (qda (qb6 c z1 e).gone)).Sublist (rest ++ (qb6 c z1 e).out) := List.filter_sublist
  have hDl : (rest ++ (qb6 c z1 e).out).length ≤ 1000000 := by simp only [List.length_append, List.length_cons] at hlen ⊢; omega
  have hW := q92 (rest ++ (qb6 c z1 e).out) (qb6 c z1 e).gone false (qb6 c z1 e).nil hDl hko (by omega) (fun k hk => by have := q5 k hk; omega)
  obtain ⟨cf, _, hS⟩ := qnd ((rest ++ (qb6 c z1 e).out).filter (qda (qb6 c z1 e).gone)) false (by have := hsub.length_le; omega) (fun x hx => hko x (hsub.subset hx)) (List.Pairwise.sublist hsub hkr.dist)
  have hstep : s.step c e rest = ⟨s.trace.set i (qk0 s i ++ [e]), s.lps.set i (qb6 c z1 e).lp, qoj ((rest ++ (qb6 c z1 e).out).filter (qda (qb6 c z1 e).gone)), s.n + 1, s.over || (qb6 c z1 e).over⟩ := by
    unfold Sim.step; rw [hlx, hi, Int.toNat_natCast]
  refine ⟨L.set i ((qb6 c z1 e).lp, f), by rw [hstep, List.map_set, hL], fun y hy hyf => ?_, ?_⟩
  · rcases List.mem_or_eq_of_mem_set hy with hy | rfl
    · exact hfl y hy hyf
    · exact q5u (hf hyf)
  rw [hstep, hp]
  have hw : IntKind.i64.wrap ((s.n : Int) + 1) = ((s.n + 1 : Nat) : Int) := by
    have := H.n; rw [qao (by omega) (by omega)]; simp
  have htr := H.trl
  have hLl : L.length = c.lps.length := by have := congrArg List.length hL; rw [List.length_map, H.lpl] at this; exact this
  have hn8 := H.valid.lps.2
  have hnz : 1 ≤ c.lps.length := H.valid.lps.1
  simp only
  generalize hr : qb6 c z1 e = r at *
  rw [List.map_set, List.map_set]
  have g1 : (s.trace.map qd8)[i]? = some (qd8 (qk0 s i)) := by rw [List.getElem?_map, ht]; rfl
  have g2 : (L.map lpF)[i]? = some (lpF (z1, f)) := by rw [List.getElem?_map, hz]; rfl
  have ok1 := evss_ok s.trace
  have ok2 := lpFs_ok L
  have ok3 := qlv (qk0 s i)
  have ok4 := qlv rest
  have ok5 := qlv (e :: rest)
  have ok6 := qlv r.out
  have lo1 := qlq 0 (s.trace.set i (qk0 s i ++ [e]))
  have lo2 := qkr 0 (L.set i (r.lp, f))
  rw [List.map_set] at lo1 lo2
  have b1 : c.lps.length * 24 ≤ 140737488355328 := by omega
  have b2 : c.lps.length * 48 ≤ 140737488355328 := by omega
  have b3 : (qk0 s i).length * 64 ≤ 140737488355328 := by omega
  have b4 : ((qk0 s i).length + 1) * 64 ≤ 140737488355328 := by omega
  have b5 : rest.length * 64 ≤ 140737488355328 := by simp only [List.length_cons] at hlen; omega
  have b6 : (rest.length + r.out.length) * 64 ≤ 140737488355328 := by simp only [List.length_cons] at hlen; omega
  have n1 : (s.trace.map qd8) ≠ [] := by intro k; have := congrArg List.length k; simp at this; rw [this] at htr; simp at htr; omega
  have l1 : (s.trace.map qd8).length = c.lps.length := by rw [List.length_map, htr]
  have l2 : (L.map lpF).length = c.lps.length := by rw [List.length_map, hLl]
  have tk1 : ∀ v, List.take c.lps.length ((s.trace.map qd8).set i v) = (s.trace.map qd8).set i v := fun v => List.take_of_length_le (by rw [List.length_set, l1]; exact Nat.le_refl _)
  have tk2 : ∀ v, List.take c.lps.length ((L.map lpF).set i v) = (L.map lpF).set i v := fun v => List.take_of_length_le (by rw [List.length_set, l2]; exact Nat.le_refl _)
  have tk3 : List.take (qk0 s i).length ((qk0 s i).map Evt.r) = (qk0 s i).map Evt.r := List.take_of_length_le (by simp)
  have tk4 : List.take rest.length (rest.map Evt.r) = rest.map Evt.r := List.take_of_length_le (by simp)
  have tk5 : ∀ v, List.take ((qk0 s i).length + 1) ((qk0 s i).map Evt.r ++ [v]) = (qk0 s i).map Evt.r ++ [v] := fun v => List.take_of_length_le (by simp)
  have tk6 : List.take (rest.length + r.out.length) (rest.map Evt.r ++ r.out.map Evt.r) = rest.map Evt.r ++ r.out.map Evt.r := List.take_of_length_le (by simp)
  have hle : c.lps.length ≤ c.lps.length := Nat.le_refl _
  have c1 : (1 : Int) ≤ ((rest.length + 1 : Nat) : Int) := by omega
  have c2 : (((rest.length + 1 : Nat) : Int)).toNat - 1 = rest.length := by omega
  have hm : (qk0 s i ++ [e]).map Evt.r = (qk0 s i).map Evt.r ++ [e.r] := by rw [List.map_append]; rfl
  have lo3 : qi0 0 ((qk0 s i).map Evt.r ++ [e.r]) = true := by rw [← hm]; exact qac _ _
  have hmo : (rest ++ r.out).map Evt.r = rest.map Evt.r ++ r.out.map Evt.r := List.map_append
  have ev1 : qd8 (qk0 s i ++ [e]) = [.fsl ((qk0 s i).map Evt.r ++ [e.r]) false] := by unfold qd8; rw [hm]
  have ev2 : qd8 (qk0 s i) = [(.fsl (((qk0 s i)).map Evt.r) false)] := rfl
  rw [hmo] at hW
  generalize (rest ++ r.out).filter (qda r.gone) = F at hW hS ⊢
  rw [ev1] at lo1 ⊢
  rw [ev2] at g1
  obtain ⟨et, ek, el, ei, ep, ea⟩ := e
  simp only at hi
  subst hi
  simp only [List.map_cons] at ok5 ⊢
  simp only [Evt.r] at lo1 lo3 tk5 ok5 ⊢
  simp only [lpF] at g2 lo2
  rw [qaz, qs qys qws]
  have hrep : List.replicate 1 ([(ii 0), .fsl [] false, (ii 0), (ii 0), (ii 0), (ii 0)] : List AV) = [[(ii 0), .fsl [] false, (ii 0), (ii 0), (ii 0), (ii 0)]] := rfl
  by_cases ho : r.out = []
  · have ho1 : r.out.map Evt.r = [] := by rw [ho]; rfl
    have ho2 : r.out.length = 0 := by rw [ho]; rfl
    rw [ho1] at hW hE tk6
    simp only [List.append_nil, ho2, Nat.add_zero] at hW b6 tk6
    cases hov : s.over <;> simp only [qkx, hrep, g1, g2, ok1, ok2, ok3, ok4, ok5, b1, b2, b3, b4, b5, n1, l1, l2, tk1, tk2, tk3, tk4, tk5, hle, c1, lo1, lo2, hE, hW, hS, hw, hin, lpF, Int.natCast_nonneg, Int.toNat_natCast, Int.toNat_zero, Int.toNat_one, Int.le_refl, imp_self, Nat.zero_mul, Nat.zero_le, Nat.add_sub_cancel, qac, qb1, qa3, qat, qar, qbq, qm, Ev.exec, qb, qe, qc, qaw, qag, qsn, Ev.evs, Ev.Opnd.ev, Ev.Env.get, Ev.Env.set, Ev.Env.unset, Ev.look, qn, qjv, qh, qc0, qab, qh9, Ev.AV.cells, Ev.AV.uc, qv, Ev.AV.plain, qaj, ql, qx, qae, Ev.kill, qad, qd, qay, qbe, qw, qj, qk, qcb, qcc, qah, List.length_set, List.replicate_zero, List.length_map, ↓qq, ↓reduceIte, List.length_cons, List.length_nil, List.length_append, List.getElem?_cons_zero, List.getElem?_cons_succ, List.take_succ_cons, List.take_zero, zfe, List.drop_succ_cons, List.drop_zero, List.drop_nil, List.cons_append, List.nil_append, List.append_nil, List.set_cons_zero, List.set_cons_succ, List.head?_cons, Nat.reduceAdd, Nat.reduceEqDiff, Nat.reduceMul, Nat.reduceLT, Nat.reduceLeDiff, Nat.reducePow, Int.reduceLE, reduceCtorEq, decide_true, zfc, Bool.and_true, Bool.true_or, Bool.false_or, zfa, Bool.true_eq_false, and_self, ne_eq, zfb, not_true_eq_false, zff, zfd, Nat.add_zero, Nat.lt_add_one, Nat.le_refl, Option.isSome_none, eq_self, and_false]
    all_goals done
  · have ho1 : ¬ r.out.map Evt.r = [] := by simpa using ho
    cases hov : s.over <;> simp only [qkx, hrep, g1, g2, ok1, ok2, ok3, ok4, ok5, ok6, b1, b2, b3, b4, b5, b6, n1, l1, l2, tk1, tk2, tk3, tk4, tk5, tk6, hle, c1, lo1, lo2, hE, hW, hS, hw, hin, ho1, lpF, Int.natCast_nonneg, Int.toNat_natCast, Int.toNat_zero, Int.toNat_one, Int.le_refl, imp_self, Nat.zero_mul, Nat.zero_le, Nat.add_sub_cancel, qly, qac, qb1, qa3, qat, qar, qbq, qm, Ev.exec, qb, qe, qc, qaw, qag, qsn, Ev.evs, Ev.Opnd.ev, Ev.Env.get, Ev.Env.set, Ev.Env.unset, Ev.look, qn, qjv, qh, qc0, qab, qh9, Ev.AV.cells, Ev.AV.uc, qv, Ev.AV.plain, qaj, ql, qx, qae, Ev.kill, qad, qd, qay, qbe, qw, qj, qk, qcb, qcc, qah, List.length_set, List.replicate_zero, List.length_map, ↓qq, ↓reduceIte, List.length_cons, List.length_nil, List.length_append, List.getElem?_cons_zero, List.getElem?_cons_succ, List.take_succ_cons, List.take_zero, zfe, List.drop_succ_cons, List.drop_zero, List.drop_nil, List.cons_append, List.nil_append, List.append_nil, List.set_cons_zero, List.set_cons_succ, List.head?_cons, Nat.reduceAdd, Nat.reduceEqDiff, Nat.reduceMul, Nat.reduceLT, Nat.reduceLeDiff, Nat.reducePow, Int.reduceLE, reduceCtorEq, decide_true, zfc, Bool.and_true, Bool.true_or, Bool.false_or, zfa, Bool.true_eq_false, and_self, ne_eq, zfb, not_true_eq_false, zff, zfd, Nat.add_zero, Nat.lt_add_one, Nat.le_refl, Option.isSome_none, eq_self, and_false]
    all_goals done
end
set_option maxRecDepth 10000
section
variable {c : Cfg} {s : Sim} {h : List Evt}
def LOk (L : List (Lp × Bool)) (s : Sim) : Prop := L.map Prod.fst = s.lps ∧ ∀ x ∈ L, x.2 = true → x.1.procs = []
theorem rsim_L (lim : Nat) (hlim : lim ≤ 60) : ∀ (k : Nat) {s : Sim} {h : List Evt} {L : List (Lp × Bool)}, s.n + k = lim → SInv c s h → LOk L s →
    ∃ y, itB (exec (evL T) itL none qee) (qr [1, 2, 4, 5] true 2) ⟨[(1, (ii lim)), (2, (.fptr [(.fsl ((c.lps).map lpC) false), (.fsl ((c.progs).map qbm) false), (ii c.look), (ii c.fin), (ii c.cap)])), (4, .ptr 0 0 0 0), (5, .ptr 1 0 0 0)], []⟩ [.row 5 [[.fsl [] false, .fsl [] false, .fsl [] false, (ii 0), (bb false)]] 0, .row 5 [[(.fsl ((s.trace).map qd8) false), (.fsl ((L).map lpF) false), (.fsl ((s.pend).map Evt.r) false), (ii s.n), (bb s.over)]] 0] = some y ∧
      ∃ L' : List (Lp × Bool), LOk L' (Sim.run c k s) ∧ y.1 = .exit 0 ∧ y.2.1.marks = [] ∧ y.2.2 = [.row 5 [[.fsl [] false, .fsl [] false, .fsl [] false, (ii 0), (bb false)]] 0, .row 5 [[(.fsl (((Sim.run c k s).trace).map qd8) false), (.fsl ((L').map lpF) false), (.fsl (((Sim.run c k s).pend).map Evt.r) false), (ii ((Sim.run c k s).n)), (bb ((Sim.run c k s).over))]] 0] ∧ Ev.look y.2.1.vars 4 = some (.ptr 0 0 0 0) ∧ Ev.look y.2.1.vars 5 = some (.ptr 1 0 0 0) := by
  intro k
  induction k with
  | zero =>
    intro s h L hk H hL
    have c1 : ¬ (s.n : Int) < (lim : Int) := by omega
    have hx : ∃ y, it1 (exec (evL T) itL none qee) (qr [1, 2, 4, 5] true 2) ⟨[(1, (ii lim)), (2, (.fptr [(.fsl ((c.lps).map lpC) false), (.fsl ((c.progs).map qbm) false), (ii c.look), (ii c.fin), (ii c.cap)])), (4, .ptr 0 0 0 0), (5, .ptr 1 0 0 0)], []⟩ [.row 5 [[.fsl [] false, .fsl [] false, .fsl [] false, (ii 0), (bb false)]] 0, .row 5 [[(.fsl ((s.trace).map qd8) false), (.fsl ((L).map lpF) false), (.fsl ((s.pend).map Evt.r) false), (ii s.n), (bb s.over)]] 0] = some (.inr y) ∧ y.1 = .exit 0 ∧ y.2.1.marks = [] ∧ y.2.2 = [.row 5 [[.fsl [] false, .fsl [] false, .fsl [] false, (ii 0), (bb false)]] 0, .row 5 [[(.fsl ((s.trace).map qd8) false), (.fsl ((L).map lpF) false), (.fsl ((s.pend).map Evt.r) false), (ii s.n), (bb s.over)]] 0] ∧ Ev.look y.2.1.vars 4 = some (.ptr 0 0 0 0) ∧ Ev.look y.2.1.vars 5 = some (.ptr 1 0 0 0) := by
      simp only [qee, c1, Ev.exec, qb, qe, qc, qag, Ev.Opnd.ev, Ev.Env.get, Ev.Env.set, Ev.Env.unset, Ev.look, qh, qab, qo, ↓qq, Ev.it1, ↓reduceIte, List.getElem?_cons_zero, List.getElem?_cons_succ, List.drop_succ_cons, List.drop_zero, List.head?_cons, Nat.reduceEqDiff, decide_false, zfa, zfd, eq_self]
      exact ⟨_, rfl, rfl, rfl, rfl, rfl, rfl⟩
    obtain ⟨y, h1, h2, h3, h4, h5, h6⟩ := hx
    exact ⟨y, qlt h1, L, hL, h2, h3, h4, h5, h6⟩
  | succ k ih =>
    intro s h L hk H hL
    have c1 : (s.n : Int) < (lim : Int) := by omega
    have c2 : (s.n : Int) < 2000 := by omega
    by_cases hb : s.ready c = true
    · obtain ⟨e, rest, hp, hf⟩ := qxr hb
      have hhl : h.length ≤ 60 := by have := H.n; omega
      obtain ⟨L1, l1, l2, hc⟩ := q9w H hp hhl L hL.1 hL.2
      obtain ⟨y, g1, g2⟩ := ih (s := s.step c e rest) (h := h ++ [e]) (by show s.n + 1 + k = lim; omega) (H.step hp hhl hf) ⟨l1, l2⟩
      have hrun : Sim.run c (k + 1) s = Sim.run c k (s.step c e rest) := by rw [Sim.run, if_pos hb, go_eq hp]
      rw [hrun]
      refine ⟨y, qkm ?_ g1, g2⟩
      have c3 : ((rest.length + 1 : Nat) : Int) > 0 := by omega
      rw [hp] at hc ⊢
      obtain ⟨et, ek, el, ei, ep, ea⟩ := e
      simp only at hf
      simp only [List.map_cons, Evt.r] at hc ⊢
      simp only [qee, c1, c2, c3, hf, hc, Int.le_refl, Int.toNat_zero, qlq, qkr, qac, qb1, qa3, qar, Ev.exec, qb, qe, qc, qaw, qag, Ev.evs, Ev.Opnd.ev, Ev.Env.get, Ev.Env.set, Ev.look, qh, qab, Ev.AV.cells, qv, Ev.AV.plain, qo, qav, qr, Ev.keep, qai, qy, qd, Ev.SObj.lo, qay, qbe, qw, qdk, qlg, qj, qk, qaf, qaq, List.length_map, ↓qq, Ev.it1, ↓reduceIte, List.length_cons, List.length_nil, List.getElem?_cons_zero, List.getElem?_cons_succ, List.take_succ_cons, List.take_zero, zfe, List.drop_succ_cons, List.drop_zero, List.drop_nil, List.nil_append, List.append_nil, List.set_cons_zero, List.set_cons_succ, List.head?_cons, Nat.reduceAdd, Nat.reduceEqDiff, Nat.reduceLT, decide_true, zfc, zfa, and_self, zfd, Nat.lt_add_one, Nat.le_refl, eq_self]
    · have hb' : s.ready c = false := by simpa using hb
      have hrun : Sim.run c (k + 1) s = s := by rw [Sim.run, if_neg hb]
      rw [hrun]
      have hx : ∃ y, it1 (exec (evL T) itL none qee) (qr [1, 2, 4, 5] true 2) ⟨[(1, (ii lim)), (2, (.fptr [(.fsl ((c.lps).map lpC) false), (.fsl ((c.progs).map qbm) false), (ii c.look), (ii c.fin), (ii c.cap)])), (4, .ptr 0 0 0 0), (5, .ptr 1 0 0 0)], []⟩ [.row 5 [[.fsl [] false, .fsl [] false, .fsl [] false, (ii 0), (bb false)]] 0, .row 5 [[(.fsl ((s.trace).map qd8) false), (.fsl ((L).map lpF) false), (.fsl ((s.pend).map Evt.r) false), (ii s.n), (bb s.over)]] 0] = some (.inr y) ∧ y.1 = .exit 0 ∧ y.2.1.marks = [] ∧ y.2.2 = [.row 5 [[.fsl [] false, .fsl [] false, .fsl [] false, (ii 0), (bb false)]] 0, .row 5 [[(.fsl ((s.trace).map qd8) false), (.fsl ((L).map lpF) false), (.fsl ((s.pend).map Evt.r) false), (ii s.n), (bb s.over)]] 0] ∧ Ev.look y.2.1.vars 4 = some (.ptr 0 0 0 0) ∧ Ev.look y.2.1.vars 5 = some (.ptr 1 0 0 0) := by
        unfold Sim.ready at hb'
        cases hp : s.pend with
        | nil =>
          simp only [List.map_nil]
          simp only [qee, c1, c2, gt_iff_lt, Int.lt_irrefl, Ev.exec, qb, qe, qc, qag, Ev.Opnd.ev, Ev.Env.get, Ev.Env.set, Ev.Env.unset, Ev.look, qh, qab, qo, qav, ↓qq, Ev.it1, ↓reduceIte, List.length_nil, List.getElem?_cons_zero, List.getElem?_cons_succ, List.drop_succ_cons, List.drop_zero, List.head?_cons, Nat.reduceEqDiff, Int.cast_ofNat_Int, decide_true, decide_false, zfa, zfd, eq_self]
          exact ⟨_, rfl, rfl, rfl, rfl, rfl, rfl⟩
        | cons e rest =>
          rw [hp] at hb'
          simp only [decide_eq_false_iff_not] at hb'
          have c3 : ((rest.length + 1 : Nat) : Int) > 0 := by omega
          obtain ⟨et, ek, el, ei, ep, ea⟩ := e
          simp only at hb'
          simp only [List.map_cons, Evt.r]
          simp only [qee, c1, c2, c3, hb', Int.le_refl, Int.toNat_zero, Ev.exec, qb, qe, qc, qag, Ev.Opnd.ev, Ev.Env.get, Ev.Env.set, Ev.look, qh, qab, qo, qav, List.length_map, ↓qq, Ev.it1, ↓reduceIte, List.length_cons, List.length_nil, List.getElem?_cons_zero, List.getElem?_cons_succ, List.drop_succ_cons, List.drop_zero, List.head?_cons, Nat.reduceAdd, Nat.reduceEqDiff, decide_true, decide_false, zfa, zfd, eq_self]
          exact ⟨_, rfl, rfl, rfl, rfl, rfl, rfl⟩
      obtain ⟨y, h1, h2, h3, h4, h5, h6⟩ := hx
      exact ⟨y, qlt h1, L, hL, h2, h3, h4, h5, h6⟩
theorem LOk.start (c : Cfg) : LOk (qic c.lps) (start c) := by
  refine ⟨rfl, fun x hx hf => ?_⟩
  simp only [qic, q2b, List.mem_map] at hx
  obtain ⟨ps, ⟨l, _, rfl⟩, rfl⟩ := hx
  simpa [stLp] using hf
theorem q0a (G : Good c) (lim : Nat) (hlim : lim ≤ 60) : ∃ L : List (Lp × Bool), LOk L (qx6 c lim) ∧ qaz (evL T) qgn [(.agg [(.fsl ((c.lps).map lpC) false), (.fsl ((c.progs).map qbm) false), (ii c.look), (ii c.fin), (ii c.cap)]), (ii lim)] = some (.agg [(.fsl (((qx6 c lim).trace).map qd8) false), (.fsl ((L).map lpF) false), (.fsl (((qx6 c lim).pend).map Evt.r) false), (ii ((qx6 c lim).n)), (bb ((qx6 c lim).over))]) := by
  have hs := qaab c G.h12 G.v.lps.1
  obtain ⟨⟨y, e, σ⟩, k1, L, hL, k2, k3, k4, k5, k6⟩ := rsim_L (c := c) lim hlim lim (by show 0 + lim = lim; omega) (SInv.start G.v) (LOk.start c)
  simp only at k2 k3 k4 k5 k6
  subst k2; subst k4
  refine ⟨L, hL, ?_⟩
  unfold qx6
  generalize start c = s0 at *
  rw [qaz, qs qwl qu0]
  simp only [qk3, hs, k1, k3, k5, k6, qlq, qkr, qac, qb1, qa3, qm, Ev.exec, qb, qe, qc, qaw, qag, Ev.evs, Ev.Opnd.ev, Ev.Env.get, Ev.Env.set, Ev.look, qn, qh, qab, Ev.AV.cells, qv, Ev.AV.plain, ql, qx, qae, Ev.kill, qad, qr, Ev.keep, qai, qy, qd, Ev.SObj.lo, qay, qbe, qw, qdk, qlg, qj, qk, qaf, qaq, qah, ↓qq, ↓qak, ↓reduceIte, List.length_cons, List.length_nil, List.getElem?_cons_zero, List.getElem?_cons_succ, List.take_succ_cons, List.take_zero, zfe, List.drop_succ_cons, List.drop_zero, List.drop_nil, List.cons_append, List.nil_append, List.append_nil, List.set_cons_zero, List.set_cons_succ, Nat.reduceAdd, Nat.reduceEqDiff, Nat.reduceLT, reduceCtorEq, decide_true, zfc, and_self, ne_eq, zfb, zff, zfd, Nat.lt_add_one, Nat.le_refl, eq_self]
theorem RRun_ev (G : Good c) (lim : Nat) (hlim : lim ≤ 60) : ∃ L : List (Lp × Bool), LOk L (qx6 c lim) ∧
    qaz (evL T) qk9 [(.agg [(.fsl ((c.lps).map lpC) false), (.fsl ((c.progs).map qbm) false), (ii c.look), (ii c.fin), (ii c.cap)]), (ii lim)] = some (.tup [(.fsl (((qx6 c lim).trace).map qd8) false), (.fsl ((L).map lpF) false), (ii (errZ c (qx6 c lim)))]) := by
  obtain ⟨L, hL, h1⟩ := q0a G lim hlim
  have hr := qmo c
  rw [qvl, G.z] at hr
  refine ⟨L, hL, ?_⟩
  unfold errZ
  generalize qx6 c lim = s at *
  unfold Sim.ready
  rw [qaz, qs qwj qub]
  cases hp : s.pend with
  | nil =>
    rw [hp] at h1
    simp only [List.map_nil] at h1
    cases ho : s.over <;> (rw [ho] at h1; simp only [qk8, hr, h1, gt_iff_lt, Int.lt_irrefl, qlq, qkr, qb1, qa3, qm, Ev.exec, qb, qe, qc, qaw, qag, Ev.evs, Ev.Opnd.ev, Ev.Env.get, Ev.Env.set, Ev.Env.unset, Ev.look, qn, qh, qab, Ev.AV.cells, qv, Ev.AV.plain, qax, qav, ql, qx, qae, Ev.kill, qad, qd, qay, qbe, qbc, qw, qj, qk, qah, ↓qq, ↓reduceIte, List.length_cons, List.length_nil, List.getElem?_cons_zero, List.take_succ_cons, List.take_zero, zfe, List.drop_succ_cons, List.drop_zero, List.drop_nil, List.nil_append, List.append_nil, List.set_cons_zero, List.head?_cons, Nat.reduceAdd, Nat.reduceEqDiff, Int.cast_ofNat_Int, reduceCtorEq, decide_false, zfc, zfa, and_self, ne_eq, zfb, not_true_eq_false, zff, zfd, Nat.add_zero, Nat.le_refl, eq_self])
  | cons e rest =>
    rw [hp] at h1
    have c3 : ((rest.length + 1 : Nat) : Int) > 0 := by omega
    obtain ⟨et, ek, el, ei, ep, ea⟩ := e
    simp only [List.map_cons, Evt.r] at h1
    by_cases hf : et < c.fin
    · simp only [qk8, hr, h1, c3, hf, Int.le_refl, Int.toNat_zero, qlq, qkr, qb1, qa3, qm, Ev.exec, qb, qe, qc, qaw, qag, Ev.evs, Ev.Opnd.ev, Ev.Env.get, Ev.Env.set, Ev.look, qn, qh, qab, Ev.AV.cells, qv, Ev.AV.plain, qax, qo, qav, ql, qx, qae, Ev.kill, qad, qd, qay, qbe, qbc, qw, qj, qk, qah, List.length_map, ↓qq, ↓reduceIte, List.length_cons, List.length_nil, List.getElem?_cons_zero, List.take_succ_cons, List.take_zero, zfe, List.drop_succ_cons, List.drop_zero, List.drop_nil, List.nil_append, List.append_nil, List.set_cons_zero, List.head?_cons, Nat.reduceAdd, Nat.reduceEqDiff, reduceCtorEq, decide_true, decide_false, zfc, zfa, and_self, ne_eq, zfb, not_true_eq_false, zff, zfd, Nat.add_zero, Nat.le_refl, eq_self]
    · cases ho : s.over <;> (rw [ho] at h1; simp only [qk8, hr, h1, c3, hf, Int.le_refl, Int.toNat_zero, qlq, qkr, qb1, qa3, qm, Ev.exec, qb, qe, qc, qaw, qag, Ev.evs, Ev.Opnd.ev, Ev.Env.get, Ev.Env.set, Ev.look, qn, qh, qab, Ev.AV.cells, qv, Ev.AV.plain, qax, qo, qav, ql, qx, qae, Ev.kill, qad, qd, qay, qbe, qbc, qw, qj, qk, qah, List.length_map, ↓qq, ↓reduceIte, List.length_cons, List.length_nil, List.getElem?_cons_zero, List.take_succ_cons, List.take_zero, zfe, List.drop_succ_cons, List.drop_zero, List.drop_nil, List.nil_append, List.append_nil, List.set_cons_zero, List.head?_cons, Nat.reduceAdd, Nat.reduceEqDiff, reduceCtorEq, decide_true, decide_false, zfc, zfa, and_self, ne_eq, zfb, not_true_eq_false, zff, zfd, Nat.add_zero, Nat.le_refl, eq_self])
theorem q6n (G : Good c) (lim : Nat) (hlim : lim ≤ 60) : qaz (evL T) qg7 [(.agg [(.fsl ((c.lps).map lpC) false), (.fsl ((c.progs).map qbm) false), (ii c.look), (ii c.fin), (ii c.cap)]), (ii lim)] = some (.fsl (((qx6 c lim).pend).map Evt.r) false) := by
  obtain ⟨L, hL, h1⟩ := q0a G lim hlim
  have hr := qmo c
  rw [qvl, G.z] at hr
  generalize qx6 c lim = s at *
  rw [qaz, qs qqy qpq]
  simp only [qj5, hr, h1, qac, qb1, qa3, qm, Ev.exec, qb, qe, qc, qaw, qag, Ev.evs, Ev.Opnd.ev, Ev.Env.get, Ev.Env.set, Ev.look, qn, qh, qab, Ev.AV.cells, qv, Ev.AV.plain, qax, ql, qx, qae, Ev.kill, qad, qd, qay, qbe, qw, qj, qk, qah, ↓qq, ↓reduceIte, List.length_cons, List.length_nil, List.getElem?_cons_zero, List.take_succ_cons, List.take_zero, zfe, List.drop_succ_cons, List.drop_zero, List.drop_nil, List.nil_append, List.append_nil, List.set_cons_zero, List.head?_cons, Nat.reduceAdd, Nat.reduceEqDiff, reduceCtorEq, decide_false, zfc, zfa, and_self, ne_eq, zfb, not_true_eq_false, zff, zfd, Nat.le_refl, eq_self]
theorem Run_bad (hok : CfgOk c) (hz : q3h c ≠ 0) (lim : Int) : qaz (evL T) qf9 [(.agg [(.fsl ((c.lps).map lpC) false), (.fsl ((c.progs).map qbm) false), (ii c.look), (ii c.fin), (ii c.cap)]), (ii lim)] = some (.tup [.fsl [] true, .fsl [] true, (ii (q3h c))]) := by
  have hk := ql2 c hok
  rw [qaz, qs qug qst]
  simp only [qj3, hk, hz, qb1, qa3, qm, Ev.exec, qb, qe, qc, qaw, qag, Ev.evs, Ev.Opnd.ev, Ev.Env.get, Ev.Env.set, Ev.look, qn, qh, qab, Ev.AV.cells, qv, Ev.AV.plain, qax, ql, qx, qae, Ev.kill, qad, qd, qay, qbe, qbc, qw, qj, qk, qaf, qah, ↓qq, ↓reduceIte, List.length_cons, List.length_nil, List.take_succ_cons, zfe, Nat.reduceAdd, Nat.reduceEqDiff, decide_true, zfc, and_self, ne_eq, zfb, zff, zfd, Nat.le_refl, eq_self]
theorem RRun_bad (hz : q3h c ≠ 0) (lim : Int) : qaz (evL T) qk9 [(.agg [(.fsl ((c.lps).map lpC) false), (.fsl ((c.progs).map qbm) false), (ii c.look), (ii c.fin), (ii c.cap)]), (ii lim)] = some (.tup [.fsl [] true, .fsl [] true, (ii (q3h c))]) := by
  have hr := qmo c
  rw [qvl] at hr
  rw [qaz, qs qwj qub]
  simp only [qk8, hr, hz, qb1, qa3, qm, Ev.exec, qb, qe, qc, qaw, qag, Ev.evs, Ev.Opnd.ev, Ev.Env.get, Ev.Env.set, Ev.look, qn, qh, qab, Ev.AV.cells, qv, Ev.AV.plain, qax, ql, qx, qae, Ev.kill, qad, qd, qay, qbe, qbc, qw, qj, qk, qaf, qah, ↓qq, ↓reduceIte, List.length_cons, List.length_nil, List.take_succ_cons, zfe, Nat.reduceAdd, Nat.reduceEqDiff, decide_true, zfc, and_self, ne_eq, zfb, zff, zfd, Nat.le_refl, eq_self]
theorem q6g (hok : CfgOk c) (hz : q3h c ≠ 0) (lim : Int) : qaz (evL T) qfr [(.agg [(.fsl ((c.lps).map lpC) false), (.fsl ((c.progs).map qbm) false), (ii c.look), (ii c.fin), (ii c.cap)]), (ii lim)] = some (.fsl [] true) := by
  have hk := ql2 c hok
  rw [qaz, qs qpv qoz]
  simp only [qje, hk, hz, qb1, qa3, qm, Ev.exec, qb, qe, qc, qaw, qag, Ev.evs, Ev.Opnd.ev, Ev.Env.get, Ev.Env.set, Ev.look, qn, qh, qab, Ev.AV.cells, qv, Ev.AV.plain, qax, ql, qx, qae, Ev.kill, qad, qd, qay, qbe, qw, qj, qk, qaf, qah, ↓qq, ↓reduceIte, List.length_cons, List.length_nil, List.take_succ_cons, zfe, Nat.reduceAdd, Nat.reduceEqDiff, decide_true, zfc, and_self, ne_eq, zfb, zff, zfd, Nat.le_refl, eq_self]
theorem q59 (hz : q3h c ≠ 0) (lim : Int) : qaz (evL T) qg7 [(.agg [(.fsl ((c.lps).map lpC) false), (.fsl ((c.progs).map qbm) false), (ii c.look), (ii c.fin), (ii c.cap)]), (ii lim)] = some (.fsl [] true) := by
  have hr := qmo c
  rw [qvl] at hr
  rw [qaz, qs qqy qpq]
  simp only [qj5, hr, hz, qb1, qa3, qm, Ev.exec, qb, qe, qc, qaw, qag, Ev.evs, Ev.Opnd.ev, Ev.Env.get, Ev.Env.set, Ev.look, qn, qh, qab, Ev.AV.cells, qv, Ev.AV.plain, qax, ql, qx, qae, Ev.kill, qad, qd, qay, qbe, qw, qj, qk, qaf, qah, ↓qq, ↓reduceIte, List.length_cons, List.length_nil, List.take_succ_cons, zfe, Nat.reduceAdd, Nat.reduceEqDiff, decide_true, zfc, and_self, ne_eq, zfb, zff, zfd, Nat.le_refl, eq_self]
end
set_option maxRecDepth 10000
theorem q9s {c : Cfg} {n : Nat} (hn : c.lps.length = n) (G : Good c) (lim : Nat) (hlim : lim ≤ 60) : qaz (evL T) qfr [(.agg [(.fsl ((c.lps).map lpC) false), (.fsl ((c.progs).map qbm) false), (ii c.look), (ii c.fin), (ii c.cap)]), (ii lim)] = some (.fsl (((qx6 c lim).pend).map Evt.r) false) := by
  have hk := ql2 c G.ok
  rw [G.z] at hk
  obtain ⟨A0, O0, S0, h0⟩ := q7z (c := c) hn G.h12
  obtain ⟨L, A, O, S, h1⟩ := run_ev hn lim lim hlim (by show 0 + lim = lim; omega) (SInv.start G.v) S0
  have i1 := S0.imp (c := c)
  rw [qaz, qs qpv qoz]
  unfold qx6
  simp only [qje, ql1 S.len, hk, h0, i1, h1, qb1, qa3, qac, qm, Ev.exec, qb, qe, qc, qaw, qoo, qd2, Ev.AV.shift, qag, Ev.evs, Ev.Opnd.ev, Ev.Env.get, Ev.Env.set, Ev.look, qn, qh, qab, Ev.AV.cells, qv, Ev.AV.plain, qax, ql, qx, qae, Ev.kill, qad, qd, qay, qbe, qw, qj, qk, qah, ↓qq, ↓reduceIte, List.length_cons, List.length_nil, List.getElem?_cons_zero, List.getElem?_cons_succ, List.take_succ_cons, List.take_zero, zfe, List.drop_succ_cons, List.drop_zero, List.nil_append, List.head?_cons, Nat.reduceAdd, Nat.reduceEqDiff, reduceCtorEq, decide_false, zfc, zfa, and_self, ne_eq, zfb, not_true_eq_false, zff, zfd, Nat.add_zero, Nat.le_refl, eq_self]
theorem LOk.short {c : Cfg} {s : Sim} {h : List Evt} (F : RunF c s h) {L : List (Lp × Bool)} (hL : LOk L s) : ∀ x ∈ L, x.1.Short := by
  intro x hx
  have hm : x.1 ∈ s.lps := by rw [← hL.1]; exact List.mem_map_of_mem hx
  have hp := F.inv.lp x.1 hm
  have hh := F.len
  exact ⟨by have := hp.1; omega, fun q hq => by have := (hp.2 q hq).2.2.2.2; omega⟩
theorem qpl (c : Cfg) (a : Int) (ha : 0 ≤ a ∧ a ≤ 255) : qaz (evL T) qdo [(.agg [(.fsl ((c.lps).map lpC) false), (.fsl ((c.progs).map qbm) false), (ii c.look), (ii c.fin), (ii c.cap)]), (.v (.int .u8 a))] = some (bb true) := by
  have hg := q2z c
  rw [qaz, qs ql8 qhw]
  cases hgr : quc c with
  | true =>
    rw [hgr] at hg
    simp only [qct, qrn, hg, qb1, qa3, qm, Ev.exec, qb, qe, qc, qaw, qag, Ev.evs, Ev.Opnd.ev, Ev.Env.get, Ev.Env.set, Ev.look, qn, qh, qab, Ev.AV.cells, qv, Ev.AV.plain, ql, qx, qae, Ev.kill, qad, qd, qay, qbe, qw, qj, qk, qah, ↓qq, ↓reduceIte, List.length_cons, List.length_nil, List.take_succ_cons, zfe, Nat.reduceAdd, Nat.reduceEqDiff, zfc, and_self, ne_eq, zfb, zff, zfd, Nat.le_refl, eq_self]
  | false =>
    rw [hgr] at hg
    have hL := Limit_ev a ha
    obtain ⟨n, hn⟩ : ∃ n : Nat, n = a.toNat % 41 := ⟨_, rfl⟩
    rw [← hn] at hL
    obtain ⟨g1, g2, g3, g4⟩ := q67 c hgr
    have hok : CfgOk c := ⟨by omega, by omega, fun p hp => by have := g4 p hp; omega, fun l hl => by have := g3 l hl; omega⟩
    by_cases hz : q3h c = 0
    · have G : Good c := ⟨⟨g1, g3⟩, hok, hz, valid_of (by rw [qvl]; exact hz)⟩
      obtain ⟨h, H, Hl, _⟩ := ran G.v n (by omega)
      change SInv c (qx6 c n) h at H
      have F : RunF c (qx6 c n) h := ⟨H, by omega⟩
      have l8 := G.v.lps.2
      obtain ⟨L1, p1, p2, r1⟩ := G.run n (by omega)
      obtain ⟨L2, p3, r2⟩ := RRun_ev G n (by omega)
      have r3 := q9s (c := c) rfl G n (by omega)
      have r4 := q6n G n (by omega)
      have hpl := H.len
      have hpk : ∀ e ∈ (qx6 c n).pend, e.key.length ≤ 9223372036854775807 := fun e he => by
        have := (H.ev e (List.mem_append_right _ he)).key; omega
      have q1 := qv0 (qx6 c n).trace false false (by rw [H.trl]; omega) (fun x hx => by
        obtain ⟨i, hi⟩ := List.mem_iff_getElem?.1 hx
        have := F.rowLen hi; omega) (fun x hx => by
        obtain ⟨i, hi⟩ := List.mem_iff_getElem?.1 hx
        exact F.key hi)
      have ll1 : L1.length = c.lps.length := by have := congrArg List.length p1; rw [List.length_map] at this; rw [this]; exact H.lpl
      have ll2 : L2.length = c.lps.length := by have := congrArg List.length p3.1; rw [List.length_map] at this; rw [this]; exact H.lpl
      have q2 := q3b L1 L2 false false (by omega) (by omega) (LOk.short F ⟨p1, p2⟩) (LOk.short F p3)
      have e12 : L1.map Prod.fst = L2.map Prod.fst := by rw [p1, p3.1]
      rw [decide_eq_true e12] at q2
      have q3 := qrm (qx6 c n).pend (qx6 c n).pend false false (by omega) (by omega) hpk hpk
      rw [decide_eq_true rfl] at q3
      have q4 := q3e (qx6 c n).trace false (by rw [H.trl]; omega) (by rw [F.flat]; omega)
      have q5 := q0x (qx6 c n).trace false (by rw [H.trl]; omega) (by rw [F.flat]; omega)
      generalize qx6 c n = s at *
      simp only [qct, qrn, hg, hL, r1, r2, r3, r4, q1, q2, q3, q4, q5, qb1, qa3, qlq, qac, qkr, qm, Ev.exec, qb, qe, qc, qaw, qag, Ev.evs, Ev.Opnd.ev, Ev.Env.get, Ev.Env.set, Ev.look, qn, qh, qab, Ev.AV.cells, qv, Ev.AV.plain, qal, ql, qx, qae, Ev.kill, qad, qd, qay, qbe, qw, qj, qk, qah, ↓qq, ↓reduceIte, List.length_cons, List.length_nil, List.getElem?_cons_zero, List.getElem?_cons_succ, List.take_succ_cons, zfe, Nat.reduceAdd, Nat.reduceEqDiff, reduceCtorEq, decide_true, zfc, zfa, and_self, ne_eq, zfb, zff, zfd, Nat.le_refl, eq_self]
    · have r1 := Run_bad (c := c) hok hz n
      have r2 := RRun_bad (c := c) hz n
      have r3 := q6g (c := c) hok hz n
      have r4 := q59 (c := c) hz n
      have q1 := qv0 [] true true (by simp) (fun x hx => by simp at hx) (fun x hx => by simp at hx)
      have q2 := q3b [] [] true true (by simp) (by simp) (fun x hx => by simp at hx) (fun x hx => by simp at hx)
      rw [decide_eq_true rfl] at q2
      have q3 := qrm [] [] true true (by simp) (by simp) (fun x hx => by simp at hx) (fun x hx => by simp at hx)
      rw [decide_eq_true rfl] at q3
      have q4 := q3e [] true (by simp) (by simp)
      have q5 := q0x [] true (by simp) (by simp)
      simp only [List.map_nil, List.flatten_nil, List.length_nil] at q1 q2 q3 q4 q5
      simp only [qct, qrn, hg, hL, r1, r2, r3, r4, q1, q2, q3, q4, q5, qb1, qa3, qm, Ev.exec, qb, qe, qc, qaw, qag, Ev.evs, Ev.Opnd.ev, Ev.Env.get, Ev.Env.set, Ev.look, qn, qh, qab, Ev.AV.cells, qv, Ev.AV.plain, qal, ql, qx, qae, Ev.kill, qad, qd, qay, qbe, qw, qj, qk, qaf, qah, ↓qq, ↓reduceIte, List.length_cons, List.length_nil, List.getElem?_cons_zero, List.getElem?_cons_succ, List.take_succ_cons, zfe, Nat.reduceAdd, Nat.reduceEqDiff, Int.cast_ofNat_Int, reduceCtorEq, decide_true, zfc, zfa, and_self, ne_eq, zfb, zff, zfd, Nat.le_refl, eq_self]
end Go.Proofs.YthkjkdbjgpeigaaGreat.K
namespace Go.Ev
def Ctx.nil : Ctx := { n := 0, loc := fun _ => ⟨0, 0, 0, 0⟩, own := fun _ => False, far := fun _ => False }
theorem SR.nil (P : Program) (w : World) : SR P Ctx.nil [] w where
  len := rfl
  obj o ob h := by simp at h
  blk o h := absurd h (Nat.not_lt_zero _)
  inj o o' h := absurd h (Nat.not_lt_zero _)
  ownlt b h := h.elim
  farlt b h := h.elim
  sep b h := h.elim
section
variable (P : Program) {H : Type} (enc : TypeId × Value → H)
def qll (t : TypeId) {τ : Type} (c : τ → List AV) (ok : τ → Prop) : Prop :=
  ∀ (w : World) (fuel : Nat) (cs : List Value) (d : DataW H) (ps : List MemPlace), DataW.trod enc P w 0 (fun _ => true) true fuel t cs = some (d, ps) → ∃ x : τ, ok x ∧ VRs Ctx.nil w (c x) cs
variable {P enc}
theorem VRs.one {Γ : Ctx} {w : World} {a : AV} {v : Value} (h : VR Γ w a v) : VRs Γ w [a] [v] := by
  simp only [VRs]; exact ⟨v, [], rfl, h, rfl⟩
theorem q3p {t : TypeId} {k : IntKind} (hu : P.underlying t = some (.int k)) : qll P enc t (fun n : Int => [.v (.int k n)]) (fun n => (Lit.int k n).wf = true) := by
  intro w fuel cs d ps h
  cases fuel with
  | zero => simp [DataW.trod] at h
  | succ fuel =>
    unfold DataW.trod at h
    rw [hu] at h
    split at h <;> rename_i heq <;> first | (cases heq; done) | (cases h; done) | skip
    cases heq
    split at h
    · rename_i hk
      obtain ⟨rfl, hwf⟩ := hk
      exact ⟨_, hwf, VRs.one (by simp only [VR])⟩
    · cases h
variable (P enc) in
def qwi (off : Nat) (fs : List Field) {τ : Type} (c : τ → List AV) (ok : τ → Prop) (tot : Nat) : Prop :=
  ∀ (w : World) (fuel : Nat) (cs : List Value), (∀ (i : Nat) (f : Field), fs[i]? = some f → ∃ x, DataW.trod enc P w 0 (fun _ => true) true fuel f.type ((cs.drop f.offset).take (P.cellsOf f.type)) = some x) →
    ∃ x : τ, ok x ∧ VRs Ctx.nil w (c x) ((cs.drop off).take tot)
theorem qte (off : Nat) : qwi P enc off [] (fun _ : Unit => []) (fun _ => True) 0 := fun w fuel cs _ => ⟨(), trivial, by simp [VRs]⟩
theorem qfg {off : Nat} {f : Field} {fs : List Field} {α β : Type} {c1 : α → List AV} {ok1 : α → Prop} {c2 : β → List AV} {ok2 : β → Prop} {tot : Nat} {sz : Nat} (ho : f.offset = off) (hs : P.cellsOf f.type = sz)
    (h1 : qll P enc f.type c1 ok1) (h2 : qwi P enc (off + sz) fs c2 ok2 tot) : qwi P enc off (f :: fs) (fun x : α × β => c1 x.1 ++ c2 x.2) (fun x => ok1 x.1 ∧ ok2 x.2) (sz + tot) := by
  intro w fuel cs h
  obtain ⟨⟨d, ps⟩, h3⟩ := h 0 f rfl
  obtain ⟨x, k1, k2⟩ := h1 w fuel _ d ps h3
  obtain ⟨y, k3, k4⟩ := h2 w fuel cs fun i g hg => h (i + 1) g (by simpa using hg)
  refine ⟨(x, y), ⟨k1, k3⟩, ?_⟩
  rw [List.take_add, List.drop_drop]
  rw [ho, hs] at k2
  exact k2.append k4
theorem q4l {t : TypeId} {fs : Array Field} {τ : Type} {c : τ → List AV} {ok : τ → Prop} (hu : P.underlying t = some (.struct fs)) (h : qwi P enc 0 fs.toList c ok (P.cellsOf t)) : qll P enc t c ok := by
  intro w fuel cs d ps ht
  obtain ⟨xs, n, rfl, _, hl, hx, hall⟩ := DataW.trod_struct hu ht
  obtain ⟨x, k1, k2⟩ := h w n cs fun i f hf => by
    have hf' : fs[i]? = some f := by simpa using hf
    have := hall i f hf'
    have hlt : i < xs.length := by rw [hx]; exact (Array.getElem?_eq_some_iff.1 hf').1
    exact ⟨xs[i], by rw [this, List.getElem?_eq_getElem hlt]⟩
  refine ⟨x, k1, ?_⟩
  rw [List.drop_zero, ← hl, List.take_length] at k2
  exact k2
theorem qqo {t : TypeId} {fs : Array Field} {τ : Type} {c : τ → List AV} {ok : τ → Prop} {n : Nat} (hu : P.underlying t = some (.struct fs)) (h : qwi P enc 0 fs.toList c ok n) (hn : P.cellsOf t = n) : qll P enc t c ok := q4l hu (by rw [hn]; exact h)
theorem qll.map {t : TypeId} {α β : Type} {c : α → List AV} {ok : α → Prop} {c' : β → List AV} {ok' : β → Prop} (g : α → β) (h : qll P enc t c ok) (hc : ∀ x, c' (g x) = c x) (ho : ∀ x, ok x → ok' (g x)) : qll P enc t c' ok' := by
  intro w fuel cs d ps ht
  obtain ⟨x, h1, h2⟩ := h w fuel cs d ps ht
  exact ⟨g x, ho x h1, by rw [hc]; exact h2⟩
theorem q1v {τ : Type} {Q : Nat → τ → Prop} : ∀ (n : Nat), (∀ i, i < n → ∃ x, Q i x) → ∃ xs : List τ, xs.length = n ∧ ∀ (i : Nat) (x : τ), xs[i]? = some x → Q i x
  | 0, _ => ⟨[], rfl, by simp⟩
  | n + 1, h => by
    obtain ⟨xs, h1, h2⟩ := q1v n fun i hi => h i (by omega)
    obtain ⟨x, hx⟩ := h n (by omega)
    refine ⟨xs ++ [x], by simp [h1], fun i y hy => ?_⟩
    rw [List.getElem?_append] at hy
    split at hy
    · exact h2 i y hy
    · rename_i hi
      have hlt : i - xs.length < 1 := by
        have := (List.getElem?_eq_some_iff.1 hy).1
        simpa using this
      have : i = n := by omega
      subst this
      rw [h1, Nat.sub_self] at hy
      simp at hy; subst hy; exact hx
theorem q6a {Γ : Ctx} {w : World} {sz : Nat} {τ : Type} {c : τ → List AV} : ∀ (xs : List τ) (get : Nat → Option Value), (∀ (i : Nat) (x : τ), xs[i]? = some x → qan Γ w (c x) (fun j => get (j + i * sz))) → qgg Γ w sz (xs.map c) get
  | [], _, _ => by simp [qgg]
  | x :: xs, get, h => by
    simp only [List.map_cons, qgg]
    refine ⟨by simpa using h 0 x (by simp), q6a xs _ fun i y hy => ?_⟩
    refine (h (i + 1) y (by simpa using hy)).congr fun j => ?_
    congr 1
    rw [Nat.add_mul]; omega
theorem qps {t e : TypeId} {sz : Nat} {τ : Type} {c : τ → List AV} {ok : τ → Prop} (hu : P.underlying t = some (.slice e)) (hs : P.cellsOf e = sz) (h0 : 0 < sz) (hc : ∀ x, (c x).length = sz) (h : qll P enc e c ok) :
    qll P enc t (fun xs : List τ => [.fsl (xs.map c) false]) (fun xs => (∀ x ∈ xs, ok x) ∧ xs.length ≤ maxLen) := by
  intro w fuel cs d ps ht
  rcases DataW.trod_slice hu ht with ⟨rfl, _⟩ | ⟨a, len, cap, elems, rest, n, rfl, rfl, _, _, hle, hcap, hel, hall, _⟩
  · refine ⟨[], by simp, VRs.one ?_⟩
    simp only [VR]
    exact ⟨none, 0, rfl, by simp, fun h => (by cases h), .inl rfl⟩
  · have hex : ∀ i, i < len → ∃ x : τ, ok x ∧ ∃ vs, w.cells? 0 (a.add (i * sz)) sz = some vs ∧ VRs Ctx.nil w (c x) vs := by
      intro i hi
      have hb := hall i hi
      rw [List.getElem?_eq_getElem (by omega), Option.bind_eq_some_iff] at hb
      obtain ⟨vs, k1, k2⟩ := hb
      obtain ⟨x, k3, k4⟩ := h w n vs _ _ k2
      rw [hs] at k1
      exact ⟨x, k3, vs, k1, k4⟩
    obtain ⟨xs, h4, h5⟩ := q1v (Q := fun i x => ok x ∧ ∃ vs, w.cells? 0 (a.add (i * sz)) sz = some vs ∧ VRs Ctx.nil w (c x) vs) len hex
    refine ⟨xs, ⟨fun x hx => ?_, by omega⟩, VRs.one ?_⟩
    · obtain ⟨i, hi, rfl⟩ := List.mem_iff_getElem.1 hx
      exact (h5 i _ (by simp [hi])).1
    · simp only [VR]
      refine ⟨some a, cap, by simp [h4], by simp [h4]; omega, fun h => (by cases h), ?_⟩
      by_cases hx0 : xs = []
      · left; simp [hx0]
      · right
        have hlen0 : 0 < xs.length := List.length_pos_iff.2 hx0
        have hcell : ∀ (i : Nat) (x : τ), xs[i]? = some x → ∀ j, j < sz → ∃ v, w.cell? ((a.add (i * sz)).add j) = some v := by
          intro i x hx j hj
          obtain ⟨_, vs, k1, k2⟩ := h5 i x hx
          obtain ⟨_, k3, k4⟩ := World.cells?_some k1
          exact ⟨vs[j]'(by omega), by rw [k4 j hj, List.getElem?_eq_getElem (by omega)]⟩
        obtain ⟨v0, hv0⟩ := hcell 0 xs[0] (by simp [hlen0]) 0 h0
        obtain ⟨b, off, spot⟩ := a
        have hspot : spot = none := by simpa [Addr.add] using World.cell?_spot hv0
        subst hspot
        have hblt : b < w.heap.size := by
          rw [Addr.add_lit, Addr.add_lit] at hv0
          unfold World.cell? at hv0
          cases hh : w.heap[b]? with
          | none => rw [hh] at hv0; simp at hv0
          | some o => exact (Array.getElem?_eq_some_iff.1 hh).1
        refine ⟨b, off, sz, rfl, ⟨hblt, id, id⟩, h0, ?_, ?_⟩
        · intro e he
          obtain ⟨x, _, rfl⟩ := List.mem_map.1 he
          exact hc x
        · refine q6a xs _ fun i x hx => ?_
          obtain ⟨_, vs, k1, k2⟩ := h5 i x hx
          obtain ⟨_, k3, k4⟩ := World.cells?_some k1
          refine qan.of_list k2 fun j v hj => ?_
          have hjl := (List.getElem?_eq_some_iff.1 hj).1
          have := k4 j (by omega)
          rw [hj, Addr.add_lit, Addr.add_lit] at this
          rw [← this]
          congr 2
          omega
end
end Go.Ev
namespace Go.Ev
open Go.RowKit (Below)
open Go.ChangeShapes Go.WideShapes Go.ChangeAt Go.RowKit
variable {H : Type} {enc : TypeId × Value → H} {P : Program}
theorem Ext.below {w w' : World} {Γ' : Ctx} (x : Ext Ctx.nil Γ' w w') : Below w.heap.size w w' := ⟨x.os, x.tape, x.output, x.size, fun k hk => x.same k hk id⟩
theorem qwn (hl : laidOutB P = true) {w w' : World} (hb : Below w.heap.size w w') {sp : Nat → Bool} : ∀ {ts : List TypeId} {vs : List Value} {ds : List (DataW H)} {ps : List MemPlace},
    (∀ t ∈ ts, P.readableRec t = true ∧ t < P.types.size) → DataW.TrodAll enc P w 0 (fun _ => true) true ts vs ds ps → (∀ p ∈ ps, p.block < w.heap.size) → (∀ p ∈ ps, sp p.block = true) → DataW.TrodAll enc P w' 0 sp true ts vs ds ps
  | [], [], [], ps, _, h, _, _ => h
  | t :: ts, v :: vs, d :: ds, ps, ht, ⟨p, q, h1, h2, e⟩, hlt, hs => by
    subst e
    obtain ⟨r1, r2⟩ := ht t (by simp)
    exact ⟨p, q, WideElems.Trod_stays hl r1 r2 h1 (fun x hx => hb.same (hlt x (List.mem_append_left _ hx))) (fun x hx => hs x (List.mem_append_left _ hx)),
      qwn hl hb (fun u hu => ht u (by simp [hu])) h2 (fun x hx => hlt x (List.mem_append_right _ hx)) (fun x hx => hs x (List.mem_append_right _ hx)), rfl⟩
  | [], _ :: _, _, _, _, h, _, _ => h.elim
  | [], [], _ :: _, _, _, h, _, _ => h.elim
  | _ :: _, [], _, _, _, h, _, _ => h.elim
  | _ :: _, _ :: _, [], _, _, h, _, _ => h.elim
theorem frz_bool {σ : qaa} {d : Nat} {a : AV} {b : Bool} : frz σ (d + 1) a = some (.v (.bool b)) → a = .v (.bool b) := by
  intro h
  simp only [frz] at h
  split at h
  · cases h; rfl
  · cases a with
    | v x => cases h; rfl
    | sl o g off len c =>
      simp only at h
      split at h
      · split at h
        · rw [Option.bind_eq_some_iff] at h; obtain ⟨_, _, h⟩ := h; cases h
        · cases h
      · cases h
    | ptr o g i off =>
      simp only at h
      split at h
      · split at h
        · rw [Option.bind_eq_some_iff] at h; obtain ⟨_, _, h⟩ := h
          rw [Option.bind_eq_some_iff] at h; obtain ⟨_, _, h⟩ := h; cases h
        · cases h
      · cases h
    | agg cs => simp only [Option.bind_eq_some_iff] at h; obtain ⟨_, _, h⟩ := h; cases h
    | tup cs => simp only [Option.bind_eq_some_iff] at h; obtain ⟨_, _, h⟩ := h; cases h
    | fsl es c => simp only [Option.bind_eq_some_iff] at h; obtain ⟨_, _, h⟩ := h; cases h
    | fptr cs => simp only [Option.bind_eq_some_iff] at h; obtain ⟨_, _, h⟩ := h; cases h
    | fn f a b => simp only [Option.bind_eq_some_iff] at h; obtain ⟨_, _, _, _, h⟩ := h; cases h
    | yld o => cases h
    | mp o => cases h
theorem q9l {T : Tab} (hT : TabOk P T) {f : Nat} {cf : CFunc} (hc : T.code f = some cf) {as_ : List AV} {b : Bool} (h : qaz (evL T) f as_ = some (.v (.bool b))) {W : World} {args : Array Value} (hv : VRs Ctx.nil W as_ args.toList) :
    Calls P f args W fun e W' => e = .returned (.bool b) ∧ Below W.heap.size W W' := by
  unfold qaz at h
  rw [Option.bind_eq_some_iff] at h
  obtain ⟨⟨r, σ⟩, h1, h2⟩ := h
  obtain rfl := frz_bool (d := 5) h2
  have hn := evL_ok hT f as_ [] _ σ h1 Ctx.nil W args.toList (SR.nil P W) hv
  rw [Array.toArray_toList, hT.enter hc] at hn
  refine (callsIn_wide.1 hn).mono fun e W' he => ?_
  cases e with
  | returned v =>
    obtain ⟨Γ', k1, _, k3⟩ := he
    simp only [VR] at k1
    exact ⟨by rw [k1], k3.below⟩
  | panicked _ => exact he.elim
  | outgrown => exact he.elim
theorem q5n {f : Func} {s : ChangeSpec} {apart fresh handsOn again : Bool} {W W' : World} {args : Array Value} {ds gs : List (DataW H)} {before : List MemPlace} {tb : TypeId}
    (hvars : s.vars = []) (hspec : s.fn H (ds ++ gs) = { results := [.lit (.bool true)], args := ds }) (hr : f.resultTypes = #[tb]) (htb : P.underlying tb = some .bool) (hl : laidOutB P = true)
    (hts : ∀ t ∈ f.params.toList, P.readableRec t = true ∧ t < P.types.size)
    (hW : DataW.Whole enc P f.params.toList s.vars apart W args.toList ds gs before) (hb : Below W.heap.size W W') : s.post enc P f apart fresh handsOn again W args (.bool true) W' := by
  have hlt := hW.lt
  have hW' := hW
  obtain ⟨p, q, hA, hV, rfl, hz, hnd⟩ := hW
  rw [hvars] at hV
  obtain ⟨rfl, rfl⟩ := trodVars_none hV
  have hargs : ∀ sp : Nat → Bool, (∀ x ∈ p, sp x.block = true) → DataW.TrodAll enc P W' 0 sp true f.params.toList args.toList ds p := fun sp hs => qwn hl hb hts hA (fun x hx => hlt x (by simp [hx])) hs
  have hres : ∀ (bb : Nat) (sp : Nat → Bool) (hd : Bool), DataW.TrodAll enc P W' bb sp hd f.resultTypes.toList ((Value.bool true).resultList f.resultTypes.size) [.lit (.bool true)] [] := fun bb sp hd => by
    rw [hr]
    exact trodAll_mk1 (shut_bool htb true)
  refine ⟨ds, [], p ++ [], [], p, [], hW', ?_, ?_, ?_, hb.frame _, fun _ => ⟨?_, ?_⟩⟩
  · rw [hspec]; exact hres _ _ _
  · rw [hspec]; exact hargs _ fun x hx => by simpa using hlt x (by simp [hx])
  · rw [hspec, hvars]; rfl
  · exact ok_one hr rfl (okWide_bool_mk htb true)
  · refine ⟨[.lit (.bool true)] ++ ds, [], ([] ++ p) ++ [], ⟨[] ++ p, [], trodAll_append (hargs _ (fun _ _ => rfl)) (hres _ _ _), by rw [hvars]; rfl, rfl, ?_, ?_⟩, ?_⟩
    · intro b off hp
      have hp' : MemPlace.cell b off ∈ p := by simpa using hp
      have hblt : b < W.heap.size := hlt (.cell b off) (by simp [hp'])
      rw [hb.frozen (p := ⟨b, off, none⟩) hblt]
      exact hz b off (by simp [hp'])
    · intro ha
      simpa using hnd ha
    · intro x hx _
      simpa using hx
end Go.Ev
