/- For every input the statement of this claim returns true: texts of its proof, joined (part 11). -/
import Derived.ChangeShapes
import Derived.ChangeOld
import Derived.ChangeArms
import Derived.DataReads
import Derived.Carry
import Derived.ChangeSame
import Derived.OpenShut
import Derived.Handed
import Derived.RowKit3
import Derived.ChangeAt
import Derived.Test.YtbhhifdhlafklaaRows
import Derived.WalkKit
import Derived.ProofKit
import Derived.Test.YtbhhifdhlafklaaEWS3
import Derived.Test.YtbhhifdhlafklaaGWS09
set_option linter.unusedSectionVars false
set_option linter.unusedSimpArgs false
set_option linter.unusedVariables false
namespace Go.Proofs.Ytbhhifdhlafklaa.K
open Go.Ev
set_option maxRecDepth 10000
section
variable {c : Cfg} {s : Sim} {h : List Evt}
def LOk (L : List (Lp × Bool)) (s : Sim) : Prop := L.map Prod.fst = s.lps ∧ ∀ x ∈ L, x.2 = true → x.1.procs = []
theorem rsim_L (lim : Nat) (hlim : lim ≤ 60) : ∀ (k : Nat) {s : Sim} {h : List Evt} {L : List (Lp × Bool)}, s.n + k = lim → SInv c s h → LOk L s →
    ∃ y, itB (exec (evL T) itL none qda) (qr [1, 2, 4, 5] true 2) ⟨[(1, (ii lim)), (2, (.fptr [(.fsl ((c.lps).map lpC) false), (.fsl ((c.progs).map qcd) false), (ii c.look), (ii c.fin), (ii c.cap)])), (4, .ptr 0 0 0 0), (5, .ptr 1 0 0 0)], []⟩ [.row 5 [[.fsl [] false, .fsl [] false, .fsl [] false, (ii 0), (bb false)]] 0, .row 5 [[(.fsl ((s.trace).map qcu) false), (.fsl ((L).map lpF) false), (.fsl ((s.pend).map Evt.r) false), (ii s.n), (bb s.over)]] 0] = some y ∧
      ∃ L' : List (Lp × Bool), LOk L' (Sim.run c k s) ∧ y.1 = .exit 0 ∧ y.2.1.marks = [] ∧ y.2.2 = [.row 5 [[.fsl [] false, .fsl [] false, .fsl [] false, (ii 0), (bb false)]] 0, .row 5 [[(.fsl (((Sim.run c k s).trace).map qcu) false), (.fsl ((L').map lpF) false), (.fsl (((Sim.run c k s).pend).map Evt.r) false), (ii ((Sim.run c k s).n)), (bb ((Sim.run c k s).over))]] 0] ∧ Ev.look y.2.1.vars 4 = some (.ptr 0 0 0 0) ∧ Ev.look y.2.1.vars 5 = some (.ptr 1 0 0 0) := by
  intro k
  induction k with
  | zero =>
    intro s h L hk H hL
    have c1 : ¬ (s.n : Int) < (lim : Int) := by omega
    have hx : ∃ y, it1 (exec (evL T) itL none qda) (qr [1, 2, 4, 5] true 2) ⟨[(1, (ii lim)), (2, (.fptr [(.fsl ((c.lps).map lpC) false), (.fsl ((c.progs).map qcd) false), (ii c.look), (ii c.fin), (ii c.cap)])), (4, .ptr 0 0 0 0), (5, .ptr 1 0 0 0)], []⟩ [.row 5 [[.fsl [] false, .fsl [] false, .fsl [] false, (ii 0), (bb false)]] 0, .row 5 [[(.fsl ((s.trace).map qcu) false), (.fsl ((L).map lpF) false), (.fsl ((s.pend).map Evt.r) false), (ii s.n), (bb s.over)]] 0] = some (.inr y) ∧ y.1 = .exit 0 ∧ y.2.1.marks = [] ∧ y.2.2 = [.row 5 [[.fsl [] false, .fsl [] false, .fsl [] false, (ii 0), (bb false)]] 0, .row 5 [[(.fsl ((s.trace).map qcu) false), (.fsl ((L).map lpF) false), (.fsl ((s.pend).map Evt.r) false), (ii s.n), (bb s.over)]] 0] ∧ Ev.look y.2.1.vars 4 = some (.ptr 0 0 0 0) ∧ Ev.look y.2.1.vars 5 = some (.ptr 1 0 0 0) := by
      simp only [qda, c1, Ev.exec, qb, qe, qc, qah, Ev.Opnd.ev, Ev.Env.get, Ev.Env.set, Ev.Env.unset, Ev.look, qf, qv, qi, ↓qn, Ev.it1, ↓reduceIte, List.getElem?_cons_zero, List.getElem?_cons_succ, List.drop_succ_cons, List.drop_zero, List.head?_cons, Nat.reduceEqDiff, decide_false, zfa, zfd, eq_self]
      exact ⟨_, rfl, rfl, rfl, rfl, rfl, rfl⟩
    obtain ⟨y, h1, h2, h3, h4, h5, h6⟩ := hx
    exact ⟨y, qoq h1, L, hL, h2, h3, h4, h5, h6⟩
  | succ k ih =>
    intro s h L hk H hL
    have c1 : (s.n : Int) < (lim : Int) := by omega
    have c2 : (s.n : Int) < 2000 := by omega
    by_cases hb : s.ready c = true
    · obtain ⟨e, rest, hp, hf⟩ := qzl hb
      have hhl : h.length ≤ 60 := by have := H.n; omega
      obtain ⟨L1, l1, l2, hc⟩ := q46 H hp hhl L hL.1 hL.2
      obtain ⟨y, g1, g2⟩ := ih (s := s.step c e rest) (h := h ++ [e]) (by show s.n + 1 + k = lim; omega) (H.step hp (by omega) hf) ⟨l1, l2⟩
      have hrun : Sim.run c (k + 1) s = Sim.run c k (s.step c e rest) := by rw [Sim.run, if_pos hb, go_eq hp]
      rw [hrun]
      refine ⟨y, q0m ?_ g1, g2⟩
      have c3 : ((rest.length + 1 : Nat) : Int) > 0 := by omega
      rw [hp] at hc ⊢
      obtain ⟨et, ek, el, ei, ep, ea⟩ := e
      simp only at hf
      simp only [List.map_cons, Evt.r] at hc ⊢
      simp only [qda, c1, c2, c3, hf, hc, Int.le_refl, Int.toNat_zero, qja, qtn, qaa, qcb, qaw, qx, Ev.exec, qb, qe, qc, qa5, qah, Ev.evs, Ev.Opnd.ev, Ev.Env.get, Ev.Env.set, Ev.look, qf, qv, Ev.AV.cells, qo, Ev.AV.plain, qi, qbb, qr, Ev.keep, qal, qad, qg, Ev.SObj.lo, qbc, qa2, qm, qbh, qg1, qh, qd, qu, qaj, List.length_map, ↓qn, Ev.it1, ↓reduceIte, List.length_cons, List.length_nil, List.getElem?_cons_zero, List.getElem?_cons_succ, List.take_succ_cons, List.take_zero, zfe, List.drop_succ_cons, List.drop_zero, List.drop_nil, List.nil_append, List.append_nil, List.set_cons_zero, List.set_cons_succ, List.head?_cons, Nat.reduceAdd, Nat.reduceEqDiff, Nat.reduceLT, decide_true, zfc, zfa, and_self, zfd, Nat.lt_add_one, Nat.le_refl, eq_self]
    · have hb' : s.ready c = false := by simpa using hb
      have hrun : Sim.run c (k + 1) s = s := by rw [Sim.run, if_neg hb]
      rw [hrun]
      have hx : ∃ y, it1 (exec (evL T) itL none qda) (qr [1, 2, 4, 5] true 2) ⟨[(1, (ii lim)), (2, (.fptr [(.fsl ((c.lps).map lpC) false), (.fsl ((c.progs).map qcd) false), (ii c.look), (ii c.fin), (ii c.cap)])), (4, .ptr 0 0 0 0), (5, .ptr 1 0 0 0)], []⟩ [.row 5 [[.fsl [] false, .fsl [] false, .fsl [] false, (ii 0), (bb false)]] 0, .row 5 [[(.fsl ((s.trace).map qcu) false), (.fsl ((L).map lpF) false), (.fsl ((s.pend).map Evt.r) false), (ii s.n), (bb s.over)]] 0] = some (.inr y) ∧ y.1 = .exit 0 ∧ y.2.1.marks = [] ∧ y.2.2 = [.row 5 [[.fsl [] false, .fsl [] false, .fsl [] false, (ii 0), (bb false)]] 0, .row 5 [[(.fsl ((s.trace).map qcu) false), (.fsl ((L).map lpF) false), (.fsl ((s.pend).map Evt.r) false), (ii s.n), (bb s.over)]] 0] ∧ Ev.look y.2.1.vars 4 = some (.ptr 0 0 0 0) ∧ Ev.look y.2.1.vars 5 = some (.ptr 1 0 0 0) := by
        unfold Sim.ready at hb'
        cases hp : s.pend with
        | nil =>
          simp only [List.map_nil]
          simp only [qda, c1, c2, gt_iff_lt, Int.lt_irrefl, Ev.exec, qb, qe, qc, qah, Ev.Opnd.ev, Ev.Env.get, Ev.Env.set, Ev.Env.unset, Ev.look, qf, qv, qi, qbb, ↓qn, Ev.it1, ↓reduceIte, List.length_nil, List.getElem?_cons_zero, List.getElem?_cons_succ, List.drop_succ_cons, List.drop_zero, List.head?_cons, Nat.reduceEqDiff, Int.cast_ofNat_Int, decide_true, decide_false, zfa, zfd, eq_self]
          exact ⟨_, rfl, rfl, rfl, rfl, rfl, rfl⟩
        | cons e rest =>
          rw [hp] at hb'
          simp only [decide_eq_false_iff_not] at hb'
          have c3 : ((rest.length + 1 : Nat) : Int) > 0 := by omega
          obtain ⟨et, ek, el, ei, ep, ea⟩ := e
          simp only at hb'
          simp only [List.map_cons, Evt.r]
          simp only [qda, c1, c2, c3, hb', Int.le_refl, Int.toNat_zero, Ev.exec, qb, qe, qc, qah, Ev.Opnd.ev, Ev.Env.get, Ev.Env.set, Ev.look, qf, qv, qi, qbb, List.length_map, ↓qn, Ev.it1, ↓reduceIte, List.length_cons, List.length_nil, List.getElem?_cons_zero, List.getElem?_cons_succ, List.drop_succ_cons, List.drop_zero, List.head?_cons, Nat.reduceAdd, Nat.reduceEqDiff, decide_true, decide_false, zfa, zfd, eq_self]
          exact ⟨_, rfl, rfl, rfl, rfl, rfl, rfl⟩
      obtain ⟨y, h1, h2, h3, h4, h5, h6⟩ := hx
      exact ⟨y, qoq h1, L, hL, h2, h3, h4, h5, h6⟩
theorem LOk.start (c : Cfg) : LOk (qj4 c.lps) (start c) := by
  refine ⟨rfl, fun x hx hf => ?_⟩
  simp only [qj4, q5g, List.mem_map] at hx
  obtain ⟨ps, ⟨l, _, rfl⟩, rfl⟩ := hx
  simpa [stLp] using hf
theorem q2t (G : Good c) (lim : Nat) (hlim : lim ≤ 60) : ∃ L : List (Lp × Bool), LOk L (runS c lim) ∧ qa7 (evL T) qfa [(.agg [(.fsl ((c.lps).map lpC) false), (.fsl ((c.progs).map qcd) false), (ii c.look), (ii c.fin), (ii c.cap)]), (ii lim)] = some (.agg [(.fsl (((runS c lim).trace).map qcu) false), (.fsl ((L).map lpF) false), (.fsl (((runS c lim).pend).map Evt.r) false), (ii ((runS c lim).n)), (bb ((runS c lim).over))]) := by
  have hs := q8g c G.h12 G.v.lps.1
  obtain ⟨⟨y, e, σ⟩, k1, L, hL, k2, k3, k4, k5, k6⟩ := rsim_L (c := c) lim hlim lim (by show 0 + lim = lim; omega) (SInv.start G.v) (LOk.start c)
  simp only at k2 k3 k4 k5 k6
  subst k2; subst k4
  refine ⟨L, hL, ?_⟩
  unfold runS
  generalize start c = s0 at *
  rw [qa7, qae qsh qrq]
  simp only [qjz, hs, k1, k3, k5, k6, qja, qtn, qaa, qcb, qaw, qk, Ev.exec, qb, qe, qc, qa5, qah, Ev.evs, Ev.Opnd.ev, Ev.Env.get, Ev.Env.set, Ev.look, ql, qf, qv, Ev.AV.cells, qo, Ev.AV.plain, qj, qs, qak, Ev.kill, qai, qr, Ev.keep, qal, qad, qg, Ev.SObj.lo, qbc, qa2, qm, qbh, qg1, qh, qd, qu, qaj, qac, ↓qn, ↓qa0, ↓reduceIte, List.length_cons, List.length_nil, List.getElem?_cons_zero, List.getElem?_cons_succ, List.take_succ_cons, List.take_zero, zfe, List.drop_succ_cons, List.drop_zero, List.drop_nil, List.cons_append, List.nil_append, List.append_nil, List.set_cons_zero, List.set_cons_succ, Nat.reduceAdd, Nat.reduceEqDiff, Nat.reduceLT, reduceCtorEq, decide_true, zfc, and_self, ne_eq, zfb, zff, zfd, Nat.lt_add_one, Nat.le_refl, eq_self]
end
set_option maxRecDepth 10000
def qew (n : Nat) (l : List Evt) : List (List Evt) := (List.range n).map fun i => qgx (qgg l i)
theorem q41 (l : List Evt) (k : Nat) (e : Evt) (i : Nat) (h : l[k]? = some e) : qgg (l.take (k + 1)) i = if e.lp = i then qgg (l.take k) i ++ [e] else qgg (l.take k) i := by
  rw [List.take_add_one, h]; exact qqi _ _ _
theorem q5w {l : List Evt} (h : qud l) (i : Nat) : qud (qgg l i) := h.sub List.filter_sublist
section
variable (l : List Evt) (cl : Bool)
theorem q6x (hl : l.length ≤ 1000000) (hk : qg4 l) (hd : qud l) (i n : Nat) (R : List (List AV)) (g : Nat) (hlo : qiz 1 R = true) :
    ∃ y, itB (exec (evL T) itL none qf4) (qr [0, 1, 5, 6, 7, 8] true 1) ⟨[(0, (ii n)), (1, (.fsl ((l).map Evt.r) cl)), (5, .sl 0 g 0 R.length false), (6, (ii i)), (7, .fsl [] true), (8, (ii ((0 : Nat))))], []⟩ [.row 1 R g] = some y ∧
      ∃ cf : Bool, y.1 = .exit 2 ∧ y.2.1.marks = [] ∧ y.2.2 = [.row 1 R g] ∧ Ev.look y.2.1.vars 0 = some (ii n) ∧ Ev.look y.2.1.vars 1 = some (.fsl ((l).map Evt.r) cl) ∧ Ev.look y.2.1.vars 5 = some (.sl 0 g 0 R.length false) ∧ Ev.look y.2.1.vars 6 = some (ii i) ∧ Ev.look y.2.1.vars 7 = some (.fsl (((qgx (qgg l i))).map Evt.r) cf) := by
  have key := qfg (f := exec (evL T) itL none qf4) (s := qr [0, 1, 5, 6, 7, 8] true 1) (α := List Evt × Bool)
    (fun k a => ⟨[(0, (ii n)), (1, (.fsl ((l).map Evt.r) cl)), (5, .sl 0 g 0 R.length false), (6, (ii i)), (7, (.fsl ((a.1).map Evt.r) a.2)), (8, (ii k))], []⟩) (fun _ _ => [.row 1 R g]) (fun k a => a.1 = qgx (qgg (l.take k) i)) l.length
    (fun y => ∃ cf : Bool, y.1 = .exit 2 ∧ y.2.1.marks = [] ∧ y.2.2 = [.row 1 R g] ∧ Ev.look y.2.1.vars 0 = some (ii n) ∧ Ev.look y.2.1.vars 1 = some (.fsl ((l).map Evt.r) cl) ∧ Ev.look y.2.1.vars 5 = some (.sl 0 g 0 R.length false) ∧ Ev.look y.2.1.vars 6 = some (ii i) ∧ Ev.look y.2.1.vars 7 = some (.fsl (((qgx (qgg l i))).map Evt.r) cf)) ?_ ?_ 0 ([], true) (Nat.zero_le _) (by simp [qgx, qgg])
  · exact key
  · rintro k ⟨b, c⟩ hk' hb
    simp only at hb ⊢
    obtain ⟨e, he⟩ : ∃ e, l[k]? = some e := ⟨_, List.getElem?_eq_getElem hk'⟩
    have hk1 : (k : Int) < (l.length : Int) := by omega
    have hw : IntKind.i64.wrap ((k : Int) + 1) = ((k + 1 : Nat) : Int) := by rw [qar (by omega) (by omega)]; simp
    have ho := q41 l k e i he
    by_cases hi : e.lp = i
    · rw [if_pos hi] at ho
      have sl : ∀ z ∈ qgg (l.take k) i, z ∈ l := fun z hz => List.mem_of_mem_take (List.mem_filter.1 hz).1
      have hds : qud (qgg (l.take (k + 1)) i) := q5w (hd.sub (List.take_sublist _ _)) i
      rw [ho] at hds
      have pb := qek (qgg (l.take k) i)
      have hd2 : qud (e :: b) := by rw [hb]; exact hds.perm ((pb.cons e).trans (List.perm_append_singleton e _).symm)
      have hbl : b.length ≤ 1000000 := by
        rw [hb, q1q]
        have := List.length_filter_le (fun e : Evt => decide (e.lp = i)) (l.take k)
        have := List.length_take_le' k l
        unfold qgg; omega
      have hI := qx5 b c e hbl (fun z hz => hk z (sl z (pb.mem_iff.1 (by rw [← hb]; exact hz)))) (hk e (List.mem_of_getElem? he)) (by rw [hb]; exact qgl _) hd2
      have hse : qgx (e :: b) = qgx (qgg (l.take k) i ++ [e]) := qz5 hds (by rw [hb]; exact (pb.cons e).trans (List.perm_append_singleton e _).symm)
      refine .inl ⟨(qgx (e :: b), false), ?_, by simp only; rw [ho, hse]⟩
      clear hse hd2 hds ho hb
      obtain ⟨et, ek, el, ei, ep, ea⟩ := e
      simp only at hi
      subst hi
      simp only at hI
      generalize qgx (⟨et, ek, (i : Int), ei, ep, ea⟩ :: b) = B at *
      simp only [qf4, Int.natCast_nonneg, Int.toNat_natCast, List.getElem?_map, Option.map_some, he, hk1, hw, hI, hlo, Evt.r, qaa, qx, Ev.exec, qb, qe, qc, qa5, qah, Ev.evs, Ev.Opnd.ev, Ev.Env.get, Ev.Env.set, Ev.look, qf, qv, qap, qas, qi, qr, Ev.keep, qal, qad, qg, Ev.SObj.lo, qbc, qa2, qm, qdn, qh, qd, List.length_map, ↓qn, Ev.it1, ↓reduceIte, List.length_cons, List.length_nil, List.take_succ_cons, zfe, List.drop_succ_cons, List.drop_zero, List.head?_cons, Nat.reduceAdd, Nat.reduceEqDiff, reduceCtorEq, decide_true, zfc, zfa, and_self, zfd, Nat.lt_add_one, Nat.le_refl, eq_self]
    · rw [if_neg hi] at ho
      refine .inl ⟨(b, c), ?_, by simp only; rw [ho, hb]⟩
      obtain ⟨et, ek, el, ei, ep, ea⟩ := e
      simp only at hi
      simp only [qf4, Int.natCast_nonneg, Int.toNat_natCast, List.getElem?_map, Option.map_some, he, hk1, hw, hi, hlo, Evt.r, qaa, Ev.exec, qb, qe, qc, qah, Ev.Opnd.ev, Ev.Env.get, Ev.Env.set, Ev.look, qf, qv, qap, qas, qi, qr, Ev.keep, qal, qad, qg, Ev.SObj.lo, qbc, qm, qdn, List.length_map, ↓qn, Ev.it1, ↓reduceIte, List.length_cons, List.length_nil, List.take_succ_cons, zfe, List.drop_succ_cons, List.drop_zero, List.head?_cons, Nat.reduceAdd, Nat.reduceEqDiff, reduceCtorEq, decide_true, decide_false, zfc, zfa, and_self, zfd, Nat.lt_add_one, eq_self]
  · rintro ⟨b, c⟩ hb
    simp only [List.take_length] at hb ⊢
    simp only [qf4, Int.lt_irrefl, Ev.exec, qb, qe, qc, qah, Ev.Opnd.ev, Ev.Env.get, Ev.Env.set, Ev.look, qi, List.length_map, ↓qn, Ev.it1, ↓reduceIte, Nat.reduceEqDiff, reduceCtorEq, decide_false, zfa, eq_self]
    exact ⟨_, rfl, c, rfl, rfl, rfl, rfl, rfl, rfl, rfl, by rw [← hb]; rfl⟩
theorem q59 (n : Nat) (hn : n ≤ 8) (hl : l.length ≤ 1000000) (hk : qg4 l) (hd : qud l) : qa7 (evL T) qh2 [(ii n), (.fsl ((l).map Evt.r) cl)] = some (.fsl (((qew n l)).map qcu) false) := by
  have hL : ∃ y, itB (exec (evL T) itL none qih) (qr [0, 1, 5, 6] true 1) ⟨[(0, (ii n)), (1, (.fsl ((l).map Evt.r) cl)), (5, .sl 0 0 0 0 false), (6, (ii ((0 : Nat))))], []⟩ [.row 1 [] 0] = some y ∧
      ∃ g : Nat, y.1 = .exit 0 ∧ y.2.1.marks = [] ∧ y.2.2 = [.row 1 ((qew n l).map qcu) g] ∧ Ev.look y.2.1.vars 5 = some (.sl 0 g 0 n false) := by
    have key := qfg (f := exec (evL T) itL none qih) (s := qr [0, 1, 5, 6] true 1) (α := Nat)
      (fun i a => ⟨[(0, (ii n)), (1, (.fsl ((l).map Evt.r) cl)), (5, .sl 0 a 0 i false), (6, (ii i))], []⟩) (fun i a => [.row 1 ((qew i l).map qcu) a]) (fun i a => True) n
      (fun y => ∃ g : Nat, y.1 = .exit 0 ∧ y.2.1.marks = [] ∧ y.2.2 = [.row 1 ((qew n l).map qcu) g] ∧ Ev.look y.2.1.vars 5 = some (.sl 0 g 0 n false)) ?_ ?_ 0 0 (Nat.zero_le _) trivial
    · exact key
    · rintro i g hi _
      have hbl : ((qew i l).map qcu).length = i := by simp [qew]
      obtain ⟨⟨y, e, σ⟩, k1, cf, k2, k3, k4, k5, k6, k7, k8, k9⟩ := q6x l cl hl hk hd i n ((qew i l).map qcu) g (qja _ _)
      simp only [Int.ofNat_zero, hbl] at k1 k2 k3 k4 k5 k6 k7 k8 k9
      subst k2; subst k4
      have hi' : (i : Int) < (n : Int) := by omega
      have hi8 : (i : Int) < 8 := by omega
      have hw : IntKind.i64.wrap ((i : Int) + 1) = ((i + 1 : Nat) : Int) := by rw [qar (by omega) (by omega)]; simp
      have hnx : (qew (i + 1) l).map qcu = (qew i l).map qcu ++ [[(.fsl (((qgx (qgg l i))).map Evt.r) false)]] := by unfold qew; rw [List.range_succ]; simp [qcu]
      have lo := qja 1 (qew (i + 1) l)
      have lo0 := qja 1 (qew i l)
      rw [hnx] at lo
      have tk : List.take i ((qew i l).map qcu) = (qew i l).map qcu := List.take_of_length_le (by omega)
      have bd : (i + 1) * 24 ≤ 140737488355328 := by omega
      have hle : i ≤ i := Nat.le_refl _
      refine .inl ⟨g + 1, ?_, trivial⟩
      rw [hnx]
      generalize (qew i l).map qcu = R at *
      simp only [qih, hi', hi8, hw, k1, k3, k5, k6, k7, k8, k9, lo, lo0, tk, bd, hbl, hle, qaa, Ev.exec, qb, qe, qc, qah, qn4, Ev.Opnd.ev, Ev.Env.get, Ev.Env.set, Ev.look, qbt, qfz, Ev.AV.cells, Ev.AV.uc, qo, Ev.AV.plain, qap, qi, qr, Ev.keep, qal, qad, qg, Ev.SObj.lo, qbc, qm, qdn, qu, qbg, qbf, List.replicate_one, ↓qn, ↓qa0, Ev.it1, ↓reduceIte, List.length_cons, List.length_nil, List.getElem?_cons_zero, List.take_succ_cons, zfe, List.set_cons_zero, Nat.reduceEqDiff, Nat.reduceMul, Nat.reduceLeDiff, Nat.reducePow, reduceCtorEq, decide_true, zfc, and_self, ne_eq, zfb, zff, zfd, Nat.lt_add_one, eq_self]
    · rintro g _
      simp only [qih, Int.lt_irrefl, Ev.exec, qb, qe, qc, qah, Ev.Opnd.ev, Ev.Env.get, Ev.Env.set, Ev.Env.unset, Ev.look, qi, ↓qn, Ev.it1, ↓reduceIte, Nat.reduceEqDiff, reduceCtorEq, decide_false, zfa, eq_self]
      exact ⟨_, rfl, g, rfl, rfl, rfl, rfl⟩
  obtain ⟨⟨y, e, σ⟩, k1, g, k2, k3, k4, k5⟩ := hL
  simp only [Int.ofNat_zero] at k1 k2 k3 k4 k5
  subst k2; subst k4
  have hbl : (qew n l).length = n := by simp [qew]
  have tk : List.take n ((qew n l).map qcu) = (qew n l).map qcu := List.take_of_length_le (by simp [hbl])
  have hle : n ≤ n := Nat.le_refl _
  rw [qa7, qae qxp qvj]
  simp only [qlp, k1, k3, k5, tk, hbl, hle, qaa, qja, List.length_map, qk, Ev.exec, qb, qe, qc, qah, Ev.Opnd.ev, Ev.Env.get, Ev.Env.set, Ev.look, ql, qj, qs, qak, Ev.kill, qai, qr, Ev.keep, qal, qad, qg, Ev.SObj.lo, qbc, qm, qdn, qu, qg8, qe1, List.length_map, ↓qn, ↓qa0, ↓reduceIte, List.length_cons, List.length_nil, List.getElem?_cons_zero, List.take_succ_cons, List.take_zero, zfe, List.drop_zero, List.nil_append, Nat.reduceAdd, Nat.reduceEqDiff, Nat.reduceLT, reduceCtorEq, decide_true, decide_false, zfc, zfa, and_self, and_true, zfd, Nat.lt_add_one, eq_self]
end
theorem Quick_ev (c : Cfg) : ∃ b : Bool, qa7 (evL T) qhj [(.agg [(.fsl ((c.lps).map lpC) false), (.fsl ((c.progs).map qcd) false), (ii c.look), (ii c.fin), (ii c.cap)])] = some (bb b) ∧ (b = true → okB c = true ∧ c.look ≤ 8 ∧ c.lps.length ≤ 4) := by
  have hg := qyt c
  have hr := qyk c
  rw [qa7, qae qxu qu6]
  by_cases h1 : qra c = true
  · rw [h1] at hg
    exact ⟨false, by simp only [qfj, hg, qcb, qaw, qk, Ev.exec, qb, qe, qc, qa5, qah, Ev.evs, Ev.Opnd.ev, Ev.Env.get, Ev.Env.set, Ev.Env.unset, Ev.look, ql, qf, qv, Ev.AV.cells, qo, Ev.AV.plain, qj, qs, qak, Ev.kill, qai, qg, qbc, qa2, qm, qh, qd, qac, ↓qn, ↓reduceIte, List.length_cons, List.length_nil, List.take_succ_cons, zfe, Nat.reduceAdd, Nat.reduceEqDiff, zfc, Bool.true_eq_false, and_self, ne_eq, zfb, zff, zfd, Nat.le_refl, eq_self], fun h => by cases h⟩
  simp only [Bool.not_eq_true] at h1
  rw [h1] at hg
  by_cases h2 : q4p c = 0
  case neg => exact ⟨false, by simp only [qfj, hg, hr, h2, qcb, qaw, qk, Ev.exec, qb, qe, qc, qa5, qah, Ev.evs, Ev.Opnd.ev, Ev.Env.get, Ev.Env.set, Ev.Env.unset, Ev.look, ql, qf, qv, Ev.AV.cells, qo, Ev.AV.plain, qbu, qj, qs, qak, Ev.kill, qai, qg, qbc, qa2, qm, qh, qd, qac, ↓qn, ↓reduceIte, List.length_cons, List.length_nil, List.take_succ_cons, zfe, Nat.reduceAdd, Nat.reduceEqDiff, decide_true, zfc, zfa, Bool.true_eq_false, and_self, ne_eq, zfb, zff, zfd, Nat.le_refl, eq_self], fun h => by cases h⟩
  rw [h2] at hr
  by_cases h3 : c.look > 8
  · exact ⟨false, by simp only [qfj, hg, hr, h3, qcb, qaw, qk, Ev.exec, qb, qe, qc, qa5, qah, Ev.evs, Ev.Opnd.ev, Ev.Env.get, Ev.Env.set, Ev.Env.unset, Ev.look, ql, qf, qv, Ev.AV.cells, qo, Ev.AV.plain, qbu, qbb, qj, qs, qak, Ev.kill, qai, qg, qbc, qa2, qm, qh, qd, qac, ↓qn, ↓reduceIte, List.length_cons, List.length_nil, List.take_succ_cons, zfe, List.drop_succ_cons, List.drop_zero, List.head?_cons, Nat.reduceAdd, Nat.reduceEqDiff, decide_true, decide_false, zfc, zfa, Bool.true_eq_false, and_self, ne_eq, zfb, not_true_eq_false, zff, zfd, Nat.le_refl, eq_self], fun h => by cases h⟩
  by_cases h4 : (c.lps.length : Int) > 4
  · exact ⟨false, by simp only [qfj, hg, hr, h3, h4, qcb, qaw, qk, Ev.exec, qb, qe, qc, qa5, qah, Ev.evs, Ev.Opnd.ev, Ev.Env.get, Ev.Env.set, Ev.look, ql, qf, qv, Ev.AV.cells, qo, Ev.AV.plain, qbu, qbb, qj, qs, qak, Ev.kill, qai, qg, qbc, qa2, qm, qh, qd, qac, List.length_map, ↓qn, ↓reduceIte, List.length_cons, List.length_nil, List.take_succ_cons, zfe, List.drop_succ_cons, List.drop_zero, List.head?_cons, Nat.reduceAdd, Nat.reduceEqDiff, decide_true, decide_false, zfc, zfa, and_self, ne_eq, zfb, not_true_eq_false, zff, zfd, Nat.le_refl, eq_self], fun h => by cases h⟩
  have hok : okB c = true ∧ c.look ≤ 8 ∧ c.lps.length ≤ 4 := ⟨by unfold okB; rw [h1, h2]; rfl, by omega, by omega⟩
  obtain ⟨s1, s2, s3, s4⟩ := qwo c h1
  have hL1 : ∃ y, itB (exec (evL T) itL none qh7) (qr [1, 3, 4, 5] true 0) ⟨[(1, (.fptr [(.fsl ((c.lps).map lpC) false), (.fsl ((c.progs).map qcd) false), (ii c.look), (ii c.fin), (ii c.cap)])), (3, (ii 0)), (4, (ii 0)), (5, (ii ((0 : Nat))))], []⟩ [] = some y ∧ ∃ a : Int, y.1 = .exit 0 ∧ y.2.1.marks = [] ∧ y.2.2 = [] ∧ Ev.look y.2.1.vars 1 = some (.fptr [(.fsl ((c.lps).map lpC) false), (.fsl ((c.progs).map qcd) false), (ii c.look), (ii c.fin), (ii c.cap)]) ∧ Ev.look y.2.1.vars 3 = some (ii a) ∧ Ev.look y.2.1.vars 4 = some (ii 0) := by
    have key := qfg (f := exec (evL T) itL none qh7) (s := qr [1, 3, 4, 5] true 0) (α := Int) (fun i a => ⟨[(1, (.fptr [(.fsl ((c.lps).map lpC) false), (.fsl ((c.progs).map qcd) false), (ii c.look), (ii c.fin), (ii c.cap)])), (3, (ii a)), (4, (ii 0)), (5, (ii i))], []⟩) (fun _ _ => []) (fun _ _ => True) c.lps.length
      (fun y => ∃ a : Int, y.1 = .exit 0 ∧ y.2.1.marks = [] ∧ y.2.2 = [] ∧ Ev.look y.2.1.vars 1 = some (.fptr [(.fsl ((c.lps).map lpC) false), (.fsl ((c.progs).map qcd) false), (ii c.look), (ii c.fin), (ii c.cap)]) ∧ Ev.look y.2.1.vars 3 = some (ii a) ∧ Ev.look y.2.1.vars 4 = some (ii 0)) ?_ ?_ 0 0 (Nat.zero_le _) trivial
    · exact key
    · rintro i a hi _
      obtain ⟨x, hx⟩ : ∃ x, c.lps[i]? = some x := ⟨_, List.getElem?_eq_getElem hi⟩
      have hi' : (i : Int) < (c.lps.length : Int) := by omega
      have hw : IntKind.i64.wrap ((i : Int) + 1) = ((i + 1 : Nat) : Int) := by rw [qar (by omega) (by omega)]; simp
      refine .inl ⟨IntKind.i64.wrap (a + (x.length : Int)), ?_, trivial⟩
      simp only [qh7, Int.natCast_nonneg, Int.toNat_natCast, List.getElem?_map, Option.map_some, hx, hi', hw, lpC, qcb, qaw, Ev.exec, qb, qe, qc, qah, Ev.Opnd.ev, Ev.Env.get, Ev.Env.set, Ev.look, qf, qv, qap, qi, qr, Ev.keep, qal, qad, qg, qbc, qm, qbh, qh, qd, List.length_map, ↓qn, Ev.it1, ↓reduceIte, List.length_cons, List.length_nil, zfe, List.drop_zero, List.head?_cons, Nat.reduceEqDiff, decide_true, zfc, zfa, and_self, zfd, eq_self]
    · rintro a _
      simp only [qh7, Int.lt_irrefl, Ev.exec, qb, qe, qc, qah, Ev.Opnd.ev, Ev.Env.get, Ev.Env.set, Ev.look, qf, qv, qi, List.length_map, ↓qn, Ev.it1, ↓reduceIte, List.drop_zero, List.head?_cons, Nat.reduceEqDiff, decide_false, zfa, eq_self]
      exact ⟨_, rfl, a, rfl, rfl, rfl, rfl, rfl, rfl⟩
  have hL3 : ∀ (i : Nat) (p : List OpI) (a b : Int), c.progs[i]? = some p → ∃ y, itB (exec (evL T) itL none qf5) (qr [1, 3, 4, 6, 7] true 0) ⟨[(1, (.fptr [(.fsl ((c.lps).map lpC) false), (.fsl ((c.progs).map qcd) false), (ii c.look), (ii c.fin), (ii c.cap)])), (3, (ii a)), (4, (ii b)), (6, (ii i)), (7, (ii ((0 : Nat))))], []⟩ [] = some y ∧ ∃ b : Int, y.1 = .exit 4 ∧ y.2.1.marks = [] ∧ y.2.2 = [] ∧ Ev.look y.2.1.vars 1 = some (.fptr [(.fsl ((c.lps).map lpC) false), (.fsl ((c.progs).map qcd) false), (ii c.look), (ii c.fin), (ii c.cap)]) ∧ Ev.look y.2.1.vars 3 = some (ii a) ∧ Ev.look y.2.1.vars 4 = some (ii b) ∧ Ev.look y.2.1.vars 6 = some (ii i) := by
    intro i p a b hp
    have key := qfg (f := exec (evL T) itL none qf5) (s := qr [1, 3, 4, 6, 7] true 0) (α := Int) (fun k b => ⟨[(1, (.fptr [(.fsl ((c.lps).map lpC) false), (.fsl ((c.progs).map qcd) false), (ii c.look), (ii c.fin), (ii c.cap)])), (3, (ii a)), (4, (ii b)), (6, (ii i)), (7, (ii k))], []⟩) (fun _ _ => []) (fun _ _ => True) p.length
      (fun y => ∃ b : Int, y.1 = .exit 4 ∧ y.2.1.marks = [] ∧ y.2.2 = [] ∧ Ev.look y.2.1.vars 1 = some (.fptr [(.fsl ((c.lps).map lpC) false), (.fsl ((c.progs).map qcd) false), (ii c.look), (ii c.fin), (ii c.cap)]) ∧ Ev.look y.2.1.vars 3 = some (ii a) ∧ Ev.look y.2.1.vars 4 = some (ii b) ∧ Ev.look y.2.1.vars 6 = some (ii i)) ?_ ?_ 0 b (Nat.zero_le _) trivial
    · exact key
    · rintro k b hk _
      obtain ⟨x, hx⟩ : ∃ x, p[k]? = some x := ⟨_, List.getElem?_eq_getElem hk⟩
      have := s4 p (List.mem_of_getElem? hp)
      have hk' : (k : Int) < (p.length : Int) := by omega
      have hw : IntKind.i64.wrap ((k : Int) + 1) = ((k + 1 : Nat) : Int) := by rw [qar (by omega) (by omega)]; simp
      obtain ⟨xc, xa, xb, xd⟩ := x
      by_cases h : xc = 2
      · exact .inl ⟨IntKind.i64.wrap (b + 1), by simp only [qf5, Int.natCast_nonneg, Int.toNat_natCast, List.getElem?_map, Option.map_some, hp, hx, hk', hw, h, qcd, OpI.r, qcb, qaw, Ev.exec, qb, qe, qc, qah, Ev.Opnd.ev, Ev.Env.get, Ev.Env.set, Ev.look, qf, qv, qap, qas, qi, qr, Ev.keep, qal, qad, qg, qbc, qm, qbh, qh, qd, List.length_map, ↓qn, Ev.it1, ↓reduceIte, List.length_cons, List.length_nil, zfe, List.drop_succ_cons, List.drop_zero, List.head?_cons, Nat.reduceAdd, Nat.reduceEqDiff, decide_true, zfc, zfa, and_self, zfd, eq_self], trivial⟩
      · exact .inl ⟨b, by simp only [qf5, Int.natCast_nonneg, Int.toNat_natCast, List.getElem?_map, Option.map_some, hp, hx, hk', hw, h, qcd, OpI.r, qcb, qaw, Ev.exec, qb, qe, qc, qah, Ev.Opnd.ev, Ev.Env.get, Ev.Env.set, Ev.look, qf, qv, qap, qas, qi, qr, Ev.keep, qal, qad, qg, qbc, qm, qbh, qh, qd, List.length_map, ↓qn, Ev.it1, ↓reduceIte, List.length_cons, List.length_nil, zfe, List.drop_succ_cons, List.drop_zero, List.head?_cons, Nat.reduceAdd, Nat.reduceEqDiff, decide_true, decide_false, zfc, zfa, and_self, zfd, eq_self], trivial⟩
    · rintro b _
      simp only [qf5, Int.natCast_nonneg, Int.toNat_natCast, List.getElem?_map, Option.map_some, hp, Int.lt_irrefl, qcd, Ev.exec, qb, qe, qc, qah, Ev.Opnd.ev, Ev.Env.get, Ev.Env.set, Ev.look, qf, qv, qi, List.length_map, ↓qn, Ev.it1, ↓reduceIte, List.length_cons, List.length_nil, List.drop_succ_cons, List.drop_zero, List.head?_cons, Nat.reduceEqDiff, decide_false, zfa, zfd, eq_self]
      exact ⟨_, rfl, b, rfl, rfl, rfl, rfl, rfl, rfl, rfl⟩
  have hL2 : ∀ a : Int, ∃ y, itB (exec (evL T) itL none qic) (qr [1, 3, 4, 6] true 0) ⟨[(1, (.fptr [(.fsl ((c.lps).map lpC) false), (.fsl ((c.progs).map qcd) false), (ii c.look), (ii c.fin), (ii c.cap)])), (3, (ii a)), (4, (ii 0)), (6, (ii ((0 : Nat))))], []⟩ [] = some y ∧ ∃ b : Int, y.1 = .exit 2 ∧ y.2.1.marks = [] ∧ y.2.2 = [] ∧ Ev.look y.2.1.vars 3 = some (ii a) ∧ Ev.look y.2.1.vars 4 = some (ii b) := by
    intro a
    have key := qfg (f := exec (evL T) itL none qic) (s := qr [1, 3, 4, 6] true 0) (α := Int) (fun i b => ⟨[(1, (.fptr [(.fsl ((c.lps).map lpC) false), (.fsl ((c.progs).map qcd) false), (ii c.look), (ii c.fin), (ii c.cap)])), (3, (ii a)), (4, (ii b)), (6, (ii i))], []⟩) (fun _ _ => []) (fun _ _ => True) c.progs.length
      (fun y => ∃ b : Int, y.1 = .exit 2 ∧ y.2.1.marks = [] ∧ y.2.2 = [] ∧ Ev.look y.2.1.vars 3 = some (ii a) ∧ Ev.look y.2.1.vars 4 = some (ii b)) ?_ ?_ 0 0 (Nat.zero_le _) trivial
    · exact key
    · rintro i b hi _
      obtain ⟨x, hx⟩ : ∃ x, c.progs[i]? = some x := ⟨_, List.getElem?_eq_getElem hi⟩
      have hi' : (i : Int) < (c.progs.length : Int) := by omega
      have hw : IntKind.i64.wrap ((i : Int) + 1) = ((i + 1 : Nat) : Int) := by rw [qar (by omega) (by omega)]; simp
      obtain ⟨⟨y, e, σ⟩, k1, b', k2, k3, k4, k5, k6, k7, k8⟩ := hL3 i x a b hx
      simp only [Int.ofNat_zero] at k1 k2 k3 k4 k5 k6 k7 k8
      subst k2; subst k4
      refine .inl ⟨b', ?_, trivial⟩
      simp only [qic, hi', hw, k1, k3, k5, k6, k7, k8, qcb, qaw, Ev.exec, qb, qe, qc, qah, Ev.Opnd.ev, Ev.Env.get, Ev.Env.set, Ev.look, qf, qv, qap, qi, qr, Ev.keep, qal, qad, qg, qbc, qm, qbh, qh, qd, List.length_map, ↓qn, ↓qa0, Ev.it1, ↓reduceIte, List.length_nil, zfe, List.drop_succ_cons, List.drop_zero, List.head?_cons, Nat.reduceEqDiff, decide_true, zfc, zfa, and_self, eq_self]
    · rintro b _
      simp only [qic, Int.lt_irrefl, Ev.exec, qb, qe, qc, qah, Ev.Opnd.ev, Ev.Env.get, Ev.Env.set, Ev.look, qf, qv, qi, List.length_map, ↓qn, Ev.it1, ↓reduceIte, List.drop_succ_cons, List.drop_zero, List.head?_cons, Nat.reduceEqDiff, decide_false, zfa, eq_self]
      exact ⟨_, rfl, b, rfl, rfl, rfl, rfl, rfl⟩
  obtain ⟨⟨y, e, σ⟩, k1, a, k2, k3, k4, k5, k6, k7⟩ := hL1
  obtain ⟨⟨y', e', σ'⟩, m1, b, m2, m3, m4, m5, m6⟩ := hL2 a
  simp only [Int.ofNat_zero] at k1 k2 k3 k4 k5 k6 k7 m1 m2 m3 m4 m5 m6
  subst k2; subst k4; subst m2; subst m4
  by_cases h5 : a ≤ 6
  · exact ⟨decide (b ≤ 6), by simp only [qfj, hg, hr, h3, h4, h5, k1, k3, k5, k6, k7, m1, m3, m5, m6, qcb, qaw, qk, Ev.exec, qb, qe, qc, qa5, qah, Ev.evs, Ev.Opnd.ev, Ev.Env.get, Ev.Env.set, Ev.look, ql, qf, qv, Ev.AV.cells, qo, Ev.AV.plain, qbu, ql9, qbb, qj, qs, qak, Ev.kill, qai, qr, Ev.keep, qal, qad, qg, qbc, qa2, qm, qbh, qh, qd, qac, List.length_map, ↓qn, ↓qa0, ↓reduceIte, List.length_cons, List.length_nil, List.take_succ_cons, zfe, List.drop_succ_cons, List.drop_zero, List.head?_cons, Nat.reduceAdd, Nat.reduceEqDiff, decide_true, decide_false, zfc, zfa, and_self, ne_eq, zfb, not_true_eq_false, zff, zfd, Nat.le_refl, eq_self], fun _ => hok⟩
  · exact ⟨false, by simp only [qfj, hg, hr, h3, h4, h5, k1, k3, k5, k6, k7, m1, m3, m5, qcb, qaw, qk, Ev.exec, qb, qe, qc, qa5, qah, Ev.evs, Ev.Opnd.ev, Ev.Env.get, Ev.Env.set, Ev.Env.unset, Ev.look, ql, qf, qv, Ev.AV.cells, qo, Ev.AV.plain, qbu, ql9, qbb, qj, qs, qak, Ev.kill, qai, qr, Ev.keep, qal, qad, qg, qbc, qa2, qm, qbh, qh, qd, qac, List.length_map, ↓qn, ↓qa0, ↓reduceIte, List.length_cons, List.length_nil, List.take_succ_cons, zfe, List.drop_succ_cons, List.drop_zero, List.head?_cons, Nat.reduceAdd, Nat.reduceEqDiff, decide_false, zfc, zfa, and_self, ne_eq, zfb, not_true_eq_false, zff, zfd, Nat.le_refl, eq_self], fun _ => hok⟩
set_option maxRecDepth 10000
theorem q6g {l : List Evt} (hs : l.Pairwise leE) (hd : qud l) : qzb l = true := by
  rw [quk]
  intro k x y hx hy
  obtain ⟨h1, e1⟩ := List.getElem?_eq_some_iff.1 hx
  obtain ⟨h2, e2⟩ := List.getElem?_eq_some_iff.1 hy
  have h3 := List.pairwise_iff_getElem.1 hs k (k + 1) h1 h2 (by omega)
  have h4 := List.pairwise_iff_getElem.1 hd k (k + 1) h1 h2 (by omega)
  rw [e1, e2] at h3 h4
  unfold leE at h3
  omega
section
variable {c : Cfg} {i : Nat} {w : WSt} {O : List Evt} {S : Sim} {H : List Evt} {f hor : Int}
structure WTime (c : Cfg) (i : Nat) (f hor : Int) (w : WSt) : Prop where
  box : ∀ e ∈ w.box, f ≤ e.time
  done : ∀ e ∈ w.done, f ≤ e.time ∧ e.time < hor ∧ e.lp = i
  sent : ∀ e ∈ w.sent, f + c.look ≤ e.time ∧ e.lp ≠ i ∧ 0 ≤ e.lp ∧ e.lp < c.lps.length
theorem q5m (j : Int) : ∀ (l : List Evt) (p : List Evt × List Evt), ∀ e ∈ (qei j p l).1, e ∈ p.1 ∨ e ∈ l := fun l p e he => by
  have h := (qoz j l p []).mem_iff (a := e)
  have hs := qrx j l p
  rw [List.append_nil, List.append_nil] at h
  have := h.1 (List.mem_append_left _ he)
  simp only [List.mem_append] at this
  rcases this with h1 | h1 | h1
  · exact .inl h1
  · -- an element of p.2: counted on the right already
    exact (placeB_mem_aux j l p e he).elim .inl .inr
  · exact .inr h1
where
  placeB_mem_aux (j : Int) : ∀ (l : List Evt) (p : List Evt × List Evt) (e : Evt), e ∈ (qei j p l).1 → e ∈ p.1 ∨ e ∈ l
    | [], p, e, h => .inl h
    | n :: l, p, e, h => by
      rcases placeB_mem_aux j l (qlh j p n) e h with h | h
      · unfold qlh at h
        split at h
        · rcases List.mem_cons.1 ((qek _).mem_iff.1 h) with h | h
          · exact .inr (by simp [h])
          · exact .inl h
        · exact .inl h
      · exact .inr (List.mem_cons_of_mem _ h)
theorem WTime.step (h : WTime c i f hor w) {e : Evt} {rest : List Evt} (hb : w.box = e :: rest) (ht : e.time < hor) (hl : e.lp = i) (R : Ready c w.lp e) : WTime c i f hor (w.step c e rest) := by
  obtain ⟨X, _, o1, _⟩ := R.outs
  have fe := h.box e (by rw [hb]; simp)
  have out : ∀ n ∈ (qbe c w.lp e).out, ∃ k, EvOk c e X k n := fun n hn => by
    obtain ⟨k, hk⟩ := List.mem_iff_getElem?.1 hn
    exact ⟨k, o1 k n hk⟩
  refine ⟨fun n hn => ?_, fun n hn => ?_, fun n hn => ?_⟩
  · have := (qn8 _ _).subset hn
    rcases q5m _ _ _ n this with h1 | h1
    · exact h.box n (by rw [hb]; exact List.mem_cons_of_mem _ h1)
    · obtain ⟨k, hk⟩ := out n h1; have := hk.time; omega
  · rcases List.mem_append.1 hn with hn | hn
    · exact h.done n hn
    · rw [List.mem_singleton] at hn; subst hn; exact ⟨fe, ht, hl⟩
  · change n ∈ (qei e.lp (rest, w.sent) (qbe c w.lp e).out).2 at hn
    rw [qrx] at hn
    rcases List.mem_append.1 hn with hn | hn
    · exact h.sent n hn
    · rw [List.mem_filter] at hn
      obtain ⟨h1, h2⟩ := hn
      simp only [Bool.not_eq_true', decide_eq_false_iff_not] at h2
      obtain ⟨k, a1, a2, a3, a4⟩ := out n h1
      have k3 : n.kind = 3 := Classical.byContradiction fun k3 => h2 (a4 k3).1
      obtain ⟨m1, m2, m3, m4⟩ := a3 k3
      exact ⟨by omega, by rw [← hl]; exact h2, m1, m2⟩
theorem WTime.run : ∀ (k : Nat) {w : WSt} {S : Sim} {H : List Evt}, WTime c i f hor w → WInv c i w O S H → H.length + k ≤ 20000 → WTime c i f hor (WSt.run c hor k w)
  | 0, w, S, H, h, _, _ => h
  | k + 1, w, S, H, h, hI, hk => by
    unfold WSt.run
    split
    · exact h
    next e rest hb =>
      split
      next ht =>
        obtain ⟨h1, R, _⟩ := hI.ready (by omega) hb
        obtain ⟨S', g1, _⟩ := hI.step (by omega) hb
        exact WTime.run k (h.step hb ht h1 R) g1 (by simp; omega)
      · exact h
theorem q6z (c : Cfg) (hor : Int) : ∀ (k : Nat) (w : WSt), (WSt.run c hor k w).done.length = w.done.length + k ∨ ((WSt.run c hor k w).done.length ≤ w.done.length + k ∧ ((WSt.run c hor k w).box = [] ∨ ∃ e r, (WSt.run c hor k w).box = e :: r ∧ hor ≤ e.time))
  | 0, w => .inl rfl
  | k + 1, w => by
    unfold WSt.run
    split
    next hb => exact .inr ⟨by omega, .inl hb⟩
    next e rest hb =>
      split
      · have hl : (w.step c e rest).done.length = w.done.length + 1 := by simp [WSt.step]
        rcases q6z c hor k (w.step c e rest) with h | ⟨h1, h2⟩
        · exact .inl (by omega)
        · exact .inr ⟨by omega, h2⟩
      next ht => exact .inr ⟨by omega, .inr ⟨e, rest, hb, by omega⟩⟩
end
theorem q79 (r : List Int) (x : Int) : r.foldl quq x ≤ x ∧ (∀ y ∈ r, r.foldl quq x ≤ y) ∧ (r.foldl quq x = x ∨ r.foldl quq x ∈ r) := by
  induction r generalizing x with
  | nil => exact ⟨Int.le_refl _, fun y hy => by simp at hy, .inl rfl⟩
  | cons a r ih =>
    obtain ⟨h1, h2, h3⟩ := ih (quq x a)
    have hm : quq x a ≤ x ∧ quq x a ≤ a ∧ (quq x a = x ∨ quq x a = a) := by unfold quq; split <;> omega
    simp only [List.foldl_cons]
    refine ⟨by omega, fun y hy => ?_, ?_⟩
    · rcases List.mem_cons.1 hy with rfl | hy
      · omega
      · exact h2 y hy
    · rcases h3 with h3 | h3
      · rcases hm.2.2 with h4 | h4
        · exact .inl (by omega)
        · exact .inr (by rw [h3, h4]; simp)
      · exact .inr (List.mem_cons_of_mem _ h3)
theorem qze {bs : List (List Evt)} {t : Int} : t ∈ qk6 bs ↔ ∃ b ∈ bs, ∃ e r, b = e :: r ∧ e.time = t := by
  unfold qk6
  simp only [List.mem_map, List.mem_filterMap]
  constructor
  · rintro ⟨e, ⟨b, hb, hh⟩, rfl⟩
    cases b with
    | nil => simp at hh
    | cons x r => simp only [List.head?_cons, Option.some.injEq] at hh; subst hh; exact ⟨_, hb, x, r, rfl, rfl⟩
  · rintro ⟨b, hb, e, r, rfl, rfl⟩
    exact ⟨e, ⟨_, hb, rfl⟩, rfl⟩
theorem q2i {bs : List (List Evt)} {f : Int} (h : qzk bs = some f) (hs : ∀ b ∈ bs, b.Pairwise leE) : (∀ b ∈ bs, ∀ e ∈ b, f ≤ e.time) ∧ ∃ b ∈ bs, ∃ e r, b = e :: r ∧ e.time = f := by
  unfold qzk at h
  split at h
  · cases h
  next x r hf =>
    cases h
    obtain ⟨h1, h2, h3⟩ := q79 r x
    have all : ∀ t ∈ qk6 bs, r.foldl quq x ≤ t := fun t ht => by
      rw [hf] at ht
      rcases List.mem_cons.1 ht with rfl | ht
      · exact h1
      · exact h2 t ht
    refine ⟨fun b hb e he => ?_, ?_⟩
    · cases b with
      | nil => simp at he
      | cons y q =>
        have := all y.time (qze.2 ⟨_, hb, y, q, rfl, rfl⟩)
        rcases List.mem_cons.1 he with rfl | he
        · exact this
        · have := q3i ((List.pairwise_cons.1 (hs _ hb)).1 e he); omega
    · refine qze.1 ?_
      rw [hf]
      rcases h3 with h3 | h3
      · rw [h3]; simp
      · exact List.mem_cons_of_mem _ h3
structure StF (c : Cfg) (s : Sim) (h : List Evt) (L : List (Lp × Bool)) : Prop where
  inv : SInv c s h
  len : h.length ≤ 30
  lok : LOk L s
section
variable {c : Cfg} {s : Sim} {h : List Evt} {L : List (Lp × Bool)}
theorem StF.lL (F : StF c s h L) : L.length = c.lps.length := by
  have := congrArg List.length F.lok.1
  rw [List.length_map, F.inv.lpl] at this; exact this
theorem StF.at (F : StF c s h L) {i : Nat} (hi : i < c.lps.length) : ∃ x f, L[i]? = some (x, f) ∧ s.lps[i]? = some x ∧ (f = true → x.procs = []) := by
  obtain ⟨z, hz⟩ : ∃ z, L[i]? = some z := ⟨_, List.getElem?_eq_getElem (by rw [F.lL]; exact hi)⟩
  refine ⟨z.1, z.2, hz, by rw [← F.lok.1, List.getElem?_map, hz]; rfl, F.lok.2 z (List.mem_of_getElem? hz)⟩
theorem StF.dist (F : StF c s h L) : qud s.pend := qk7.dist (List.pairwise_append.1 F.inv.keys).2.1
theorem StF.keysOk (F : StF c s h L) : qg4 s.pend := fun x hx => by have := (F.inv.ev x (List.mem_append_right _ hx)).key; have := F.len; omega
theorem StF.plen (F : StF c s h L) : s.pend.length ≤ 1000 := by have := F.inv.len; have := F.len; omega
theorem q07 (n : Nat) (l : List Evt) {i : Nat} (hi : i < n) : (qew n l)[i]? = some (qgx (qgg l i)) := by unfold qew; rw [List.getElem?_map, List.getElem?_range hi]; rfl
theorem q2b (n : Nat) (l : List Evt) : ∀ b ∈ qew n l, b.Pairwise leE := fun b hb => by
  simp only [qew, List.mem_map] at hb
  obtain ⟨i, _, rfl⟩ := hb
  exact qgl _
theorem q03 : ∀ (l : List Nat) (g k : Nat → List Evt), (∀ i, (g i).Perm (k i)) → (l.map g).flatten.Perm (l.map k).flatten
  | [], _, _, _ => .refl _
  | a :: l, g, k, h => by
    simp only [List.map_cons, List.flatten_cons]
    exact (h a).append (q03 l g k h)
theorem StF.flat (F : StF c s h L) : (qew c.lps.length s.pend).flatten.Perm s.pend :=
  (q03 _ _ (fun i => qgg s.pend i) fun i => qek _).trans (own_perm fun e he => (F.inv.ev e (List.mem_append_right _ he)).lp)
theorem StF.winv (F : StF c s h L) {i : Nat} (hi : i < c.lps.length) {x : Lp} (hx : s.lps[i]? = some x) : WInv c i ⟨x, qgx (qgg s.pend i), [], [], false⟩ [] s h := by
  refine ⟨F.inv.toSInvK, hi, hx, ⟨s.pend.filter fun e => !decide (e.lp = i), ?_⟩, qgl _, fun b hb => by
    have := (qek _).mem_iff.1 hb
    unfold qgg at this
    rw [List.mem_filter] at this; simpa using this.2⟩
  simp only [List.nil_append]
  exact ((qek _).append_right _).trans (List.filter_append_perm _ _)
theorem State_ev (G : Good c) (a : Int) (ha : 0 ≤ a ∧ a ≤ 255) : ∃ (s : Sim) (h : List Evt) (L : List (Lp × Bool)), StF c s h L ∧
    qa7 (evL T) qhp [(.agg [(.fsl ((c.lps).map lpC) false), (.fsl ((c.progs).map qcd) false), (ii c.look), (ii c.fin), (ii c.cap)]), (.v (.int .u8 a))] = some (.tup [(.fsl ((L).map lpF) false), (.fsl (((qew c.lps.length s.pend)).map qcu) false)]) := by
  obtain ⟨L, hL, hS⟩ := q2t G (a.toNat % 31) (by omega)
  obtain ⟨h, h1, h2, _⟩ := ran G.v (a.toNat % 31) (by omega)
  have F : StF c (runS c (a.toNat % 31)) h L := ⟨h1, by omega, hL⟩
  refine ⟨_, h, L, F, ?_⟩
  have hw : IntKind.i64.wrap a = a := qar (by omega) (by omega)
  have hr : a.tmod 31 = ((a.toNat % 31 : Nat) : Int) := by
    obtain ⟨n, rfl⟩ : ∃ n : Nat, a = n := ⟨a.toNat, by omega⟩
    rw [Int.tmod_eq_emod_of_nonneg (by omega)]; omega
  have h31 : ¬ (31 : Int) = 0 := by decide
  have hB := q59 (runS c (a.toNat % 31)).pend false c.lps.length G.v.lps.2 (by have := F.plen; omega) F.keysOk F.dist
  generalize runS c (a.toNat % 31) = s at *
  generalize qew c.lps.length s.pend = B at *
  rw [qa7, qae qxw qu0]
  simp only [qll, hw, hr, h31, hS, hB, qtn, qja, qaa, qcb, qaw, qk, Ev.exec, qb, qe, qc, qa5, qah, Ev.evs, Ev.Opnd.ev, Ev.Env.get, Ev.Env.set, Ev.look, ql, qf, qv, Ev.AV.cells, qo, Ev.AV.plain, qz8, qj, qs, qak, Ev.kill, qai, qg, qbc, qa2, qb1, qm, qh, qd, qac, List.length_map, ↓qn, ↓reduceIte, List.length_cons, List.length_nil, List.getElem?_cons_zero, List.take_succ_cons, List.take_zero, zfe, List.drop_succ_cons, List.drop_zero, List.drop_nil, List.nil_append, List.append_nil, List.set_cons_zero, List.head?_cons, Nat.reduceAdd, Nat.reduceEqDiff, reduceCtorEq, zfc, zfa, and_self, ne_eq, zfb, zff, zfd, Nat.le_refl, eq_self]
end
set_option maxRecDepth 100000
theorem q0l : qa7 (evL T) qi2 [] = some (bb true) := q52 40 (by kernel_rfl)
theorem q2g (c : Cfg) : ∃ b : Bool, qa7 (evL T) qkt [(.agg [(.fsl ((c.lps).map lpC) false), (.fsl ((c.progs).map qcd) false), (ii c.look), (ii c.fin), (ii c.cap)])] = some (bb b) ∧ (b = true → Good c ∧ 1 ≤ c.look ∧ c.look ≤ 8 ∧ 1 ≤ c.lps.length ∧ c.lps.length ≤ 4) := by
  obtain ⟨b, h1, h2⟩ := Quick_ev c
  refine ⟨b, ?_, fun hb => by
    obtain ⟨k1, k2, k3⟩ := h2 hb
    have G := good_of k1
    exact ⟨G, G.v.look, k2, G.v.lps.1, k3⟩⟩
  rw [qa7, qae q1r qzy]
  simp only [qqn, h1, qcb, qaw, qk, Ev.exec, qb, qe, qc, qa5, qah, Ev.evs, Ev.Opnd.ev, Ev.Env.get, Ev.Env.set, Ev.look, ql, qf, qv, Ev.AV.cells, qo, Ev.AV.plain, qj, qs, qak, Ev.kill, qai, qg, qbc, qa2, qm, qh, qd, qac, ↓qn, ↓reduceIte, List.length_cons, List.length_nil, List.take_succ_cons, zfe, Nat.reduceAdd, Nat.reduceEqDiff, zfc, and_self, ne_eq, zfb, zff, zfd, Nat.le_refl, eq_self]
theorem idx_mod (a : Int) (ha : 0 ≤ a) {n : Nat} (hn : 1 ≤ n) : ∃ i : Nat, a.tmod n = (i : Int) ∧ i < n := by
  have q1 := Int.tmod_lt_of_pos a (show (0 : Int) < (n : Int) by omega)
  have q2 := Int.tmod_nonneg (n : Int) ha
  exact ⟨(a.tmod n).toNat, by omega, by omega⟩
set_option maxRecDepth 10000
section
variable (c : Cfg) (f hor : Int) (i : Nat) (w : WSt) (xf : Bool)
theorem safe_l1 (hf : 0 ≤ f ∧ f ≤ 1152921504606846976) (hl : 1 ≤ c.look ∧ c.look ≤ 8) (hh : hor ≤ f + c.look) (hT : WTime c i f hor w) (hs : w.sent.length ≤ 1000000) :
    ∃ y, itB (exec (evL T) itL none qgk) (qr [3, 7, 10, 12, 13, 15, 16, 17, 19] true 1) ⟨[(3, (.fptr [(.fsl ((c.lps).map lpC) false), (.fsl ((c.progs).map qcd) false), (ii c.look), (ii c.fin), (ii c.cap)])), (7, (bb true)), (10, (ii f)), (12, (ii hor)), (13, (ii i)), (15, (.fsl ((w.box).map Evt.r) false)), (16, (.fsl ((w.done).map Evt.r) false)), (17, (.fsl ((w.sent).map Evt.r) false)), (19, (ii ((0 : Nat))))], []⟩ [.row 4 [[(ii ((w).lp.r0)), (ii ((w).lp.r1)), (.fsl (((w).lp.procs).map Pr.r) xf), (ii ((w).lp.sum))]] 0] = some y ∧
      (y.1 = .exit 0 ∧ y.2.1.marks = [] ∧ y.2.2 = [.row 4 [[(ii ((w).lp.r0)), (ii ((w).lp.r1)), (.fsl (((w).lp.procs).map Pr.r) xf), (ii ((w).lp.sum))]] 0] ∧ Ev.look y.2.1.vars 7 = some (bb true) ∧ Ev.look y.2.1.vars 10 = some (ii f) ∧ Ev.look y.2.1.vars 12 = some (ii hor) ∧ Ev.look y.2.1.vars 13 = some (ii i) ∧ Ev.look y.2.1.vars 15 = some (.fsl ((w.box).map Evt.r) false) ∧ Ev.look y.2.1.vars 16 = some (.fsl ((w.done).map Evt.r) false)) := by
  have w1 : IntKind.i64.wrap (f + c.look) = f + c.look := qar (by omega) (by omega)
  refine q4b w.sent (fun j => ⟨[(3, (.fptr [(.fsl ((c.lps).map lpC) false), (.fsl ((c.progs).map qcd) false), (ii c.look), (ii c.fin), (ii c.cap)])), (7, (bb true)), (10, (ii f)), (12, (ii hor)), (13, (ii i)), (15, (.fsl ((w.box).map Evt.r) false)), (16, (.fsl ((w.done).map Evt.r) false)), (17, (.fsl ((w.sent).map Evt.r) false)), (19, (ii j))], []⟩) [.row 4 [[(ii ((w).lp.r0)), (ii ((w).lp.r1)), (.fsl (((w).lp.procs).map Pr.r) xf), (ii ((w).lp.sum))]] 0] _ ?_ ?_
  · intro j e hj he
    have hj' : (j : Int) < (w.sent.length : Int) := by omega
    have hw : IntKind.i64.wrap ((j : Int) + 1) = ((j + 1 : Nat) : Int) := by rw [qar (by omega) (by omega)]; simp
    obtain ⟨t1, t2, _⟩ := hT.sent e (List.mem_of_getElem? he)
    obtain ⟨et, ek, el, ei, ep, ea⟩ := e
    simp only at t1 t2
    have c1 : ¬ et < f + c.look := by omega
    have c2 : ¬ et < hor := by omega
    simp only [qgk, Int.natCast_nonneg, Int.toNat_natCast, List.getElem?_map, Option.map_some, he, hj', hw, w1, c1, c2, t2, Evt.r, qaa, qcb, qaw, qag, Ev.exec, qb, qe, qc, qah, Ev.Opnd.ev, Ev.Env.get, Ev.Env.set, Ev.look, qf, qv, qap, qas, qi, qr, Ev.keep, qal, qad, qg, Ev.SObj.lo, qbc, qm, qbh, qh, qd, qu, qaj, List.length_map, ↓qn, Ev.it1, ↓reduceIte, List.length_cons, List.length_nil, List.take_succ_cons, zfe, List.drop_succ_cons, List.drop_zero, List.head?_cons, Nat.reduceAdd, Nat.reduceEqDiff, decide_true, decide_false, zfc, zfa, and_self, zfd, eq_self]
  · simp only [qgk, Int.lt_irrefl, Ev.exec, qb, qe, qc, qah, Ev.Opnd.ev, Ev.Env.get, Ev.Env.set, Ev.look, qi, List.length_map, ↓qn, Ev.it1, ↓reduceIte, Nat.reduceEqDiff, decide_false, zfa, eq_self]
    exact ⟨_, rfl, rfl, rfl, rfl, rfl, rfl, rfl, rfl, rfl, rfl⟩
theorem safe_l2 (hT : WTime c i f hor w) (hs : w.done.length ≤ 1000000) :
    ∃ y, itB (exec (evL T) itL none qgd) (qr [7, 10, 12, 13, 15, 16, 20] true 1) ⟨[(7, (bb true)), (10, (ii f)), (12, (ii hor)), (13, (ii i)), (15, (.fsl ((w.box).map Evt.r) false)), (16, (.fsl ((w.done).map Evt.r) false)), (20, (ii ((0 : Nat))))], []⟩ [.row 4 [[(ii ((w).lp.r0)), (ii ((w).lp.r1)), (.fsl (((w).lp.procs).map Pr.r) xf), (ii ((w).lp.sum))]] 0] = some y ∧
      (y.1 = .exit 2 ∧ y.2.1.marks = [] ∧ y.2.2 = [.row 4 [[(ii ((w).lp.r0)), (ii ((w).lp.r1)), (.fsl (((w).lp.procs).map Pr.r) xf), (ii ((w).lp.sum))]] 0] ∧ Ev.look y.2.1.vars 7 = some (bb true) ∧ Ev.look y.2.1.vars 12 = some (ii hor) ∧ Ev.look y.2.1.vars 15 = some (.fsl ((w.box).map Evt.r) false) ∧ Ev.look y.2.1.vars 16 = some (.fsl ((w.done).map Evt.r) false)) := by
  refine q4b w.done (fun j => ⟨[(7, (bb true)), (10, (ii f)), (12, (ii hor)), (13, (ii i)), (15, (.fsl ((w.box).map Evt.r) false)), (16, (.fsl ((w.done).map Evt.r) false)), (20, (ii j))], []⟩) [.row 4 [[(ii ((w).lp.r0)), (ii ((w).lp.r1)), (.fsl (((w).lp.procs).map Pr.r) xf), (ii ((w).lp.sum))]] 0] _ ?_ ?_
  · intro j e hj he
    have hj' : (j : Int) < (w.done.length : Int) := by omega
    have hw : IntKind.i64.wrap ((j : Int) + 1) = ((j + 1 : Nat) : Int) := by rw [qar (by omega) (by omega)]; simp
    obtain ⟨t1, t2, t3⟩ := hT.done e (List.mem_of_getElem? he)
    obtain ⟨et, ek, el, ei, ep, ea⟩ := e
    simp only at t1 t2 t3
    have c1 : ¬ et ≥ hor := by omega
    have c2 : ¬ et < f := by omega
    simp only [qgd, Int.natCast_nonneg, Int.toNat_natCast, List.getElem?_map, Option.map_some, he, hj', hw, c1, c2, t3, Evt.r, qaa, qag, Ev.exec, qb, qe, qc, qah, Ev.Opnd.ev, Ev.Env.get, Ev.Env.set, Ev.look, qf, qv, qap, qbu, qi, qbq, qr, Ev.keep, qal, qad, qg, Ev.SObj.lo, qbc, qm, qh, qd, qu, qaj, List.length_map, ↓qn, Ev.it1, ↓reduceIte, List.length_cons, List.length_nil, List.take_succ_cons, zfe, List.drop_succ_cons, List.drop_zero, List.head?_cons, Nat.reduceAdd, Nat.reduceEqDiff, decide_true, decide_false, zfc, zfa, and_self, ne_eq, not_true_eq_false, zfd, eq_self]
  · simp only [qgd, Int.lt_irrefl, Ev.exec, qb, qe, qc, qah, Ev.Opnd.ev, Ev.Env.get, Ev.Env.set, Ev.look, qi, List.length_map, ↓qn, Ev.it1, ↓reduceIte, Nat.reduceEqDiff, decide_false, zfa, eq_self]
    exact ⟨_, rfl, rfl, rfl, rfl, rfl, rfl, rfl, rfl⟩
end
theorem law_Safe (c : Cfg) (a lp : Int) (ha : 0 ≤ a ∧ a ≤ 255) (hlp : 0 ≤ lp ∧ lp ≤ 255) : qa7 (evL T) qex [(.agg [(.fsl ((c.lps).map lpC) false), (.fsl ((c.progs).map qcd) false), (ii c.look), (ii c.fin), (ii c.cap)]), .v (.int .u8 a), .v (.int .u8 lp)] = some (bb true) := by
  have hH := q0l
  obtain ⟨b, hq, hqb⟩ := q2g c
  rw [qa7, qae qq6 qky]
  cases b with
  | false => simp only [qc6, hH, hq, qcb, qaw, qk, Ev.exec, qb, qe, qc, qa5, qah, Ev.evs, Ev.Opnd.ev, Ev.Env.get, Ev.Env.set, Ev.look, ql, qf, qv, Ev.AV.cells, qo, Ev.AV.plain, qj, qs, qak, Ev.kill, qai, qg, qbc, qa2, qm, qh, qd, qac, ↓qn, ↓reduceIte, List.length_cons, List.length_nil, List.take_succ_cons, zfe, Nat.reduceAdd, Nat.reduceEqDiff, zfc, Bool.not_false, and_self, ne_eq, zfb, zff, zfd, Nat.le_refl, eq_self]
  | true =>
  obtain ⟨G, l1, l8, n1, n4⟩ := hqb rfl
  obtain ⟨s, h, L, F, hS⟩ := State_ev G a ha
  have hF := Floor_ev (qew c.lps.length s.pend) false (by simp [qew]; omega)
  cases hfl : qzk (qew c.lps.length s.pend) with
  | none =>
    rw [hfl] at hF
    simp only [Option.getD_none, Option.isSome_none] at hF
    generalize qew c.lps.length s.pend = B at *
    simp only [qc6, hH, hq, hS, hF, qja, qcb, qaw, qk, Ev.exec, qb, qe, qc, qa5, qah, Ev.evs, Ev.Opnd.ev, Ev.Env.get, Ev.Env.set, Ev.Env.unset, Ev.look, ql, qf, qv, Ev.AV.cells, qo, Ev.AV.plain, qj, qs, qak, Ev.kill, qai, qg, qbc, qa2, qm, qh, qd, qac, ↓qn, ↓reduceIte, List.length_cons, List.length_nil, List.getElem?_cons_zero, List.getElem?_cons_succ, List.take_succ_cons, zfe, Nat.reduceAdd, Nat.reduceEqDiff, reduceCtorEq, zfc, Bool.not_true, Bool.not_false, zfa, Bool.true_eq_false, and_self, ne_eq, zfb, zff, zfd, Nat.le_refl, eq_self]
  | some f =>
  rw [hfl] at hF
  simp only [Option.getD_some, Option.isSome_some] at hF
  by_cases hff : f ≥ c.fin
  · generalize qew c.lps.length s.pend = B at *
    simp only [qc6, hH, hq, hS, hF, hff, qja, qcb, qaw, qk, Ev.exec, qb, qe, qc, qa5, qah, Ev.evs, Ev.Opnd.ev, Ev.Env.get, Ev.Env.set, Ev.look, ql, qf, qv, Ev.AV.cells, qo, Ev.AV.plain, qbq, qj, qs, qak, Ev.kill, qai, qg, qbc, qa2, qm, qh, qd, qac, ↓qn, ↓reduceIte, List.length_cons, List.length_nil, List.getElem?_cons_zero, List.getElem?_cons_succ, List.take_succ_cons, zfe, List.drop_succ_cons, List.drop_zero, List.head?_cons, Nat.reduceAdd, Nat.reduceEqDiff, reduceCtorEq, decide_true, zfc, Bool.not_true, zfa, and_self, ne_eq, zfb, zff, zfd, Nat.le_refl, eq_self]
  obtain ⟨fa, fb, hfb, fe, fr, rfl, hfe⟩ := q2i hfl (q2b _ _)
  have hmem : fe ∈ s.pend := F.flat.mem_iff.1 (List.mem_flatten.2 ⟨_, hfb, by simp⟩)
  have hft := (F.inv.ev fe (List.mem_append_right _ hmem)).time
  have hfin := G.v.fin
  have hHz := q44 c f (by omega) (by omega) hfin
  obtain ⟨hor, hhor, z1, z2, z3, z4⟩ : ∃ hor, f + quq c.look (c.fin - f) = hor ∧ f < hor ∧ hor ≤ c.fin ∧ hor ≤ f + c.look ∧ (hor = c.fin ∨ hor = f + c.look) := by
    unfold quq
    refine ⟨_, rfl, ?_⟩
    split <;> omega
  rw [hhor] at hHz
  have w1 : IntKind.i64.wrap (f + c.look) = f + c.look := qar (by omega) (by omega)
  have wl : IntKind.i64.wrap lp = lp := qar (by omega) (by omega)
  obtain ⟨i, hi, hin⟩ := idx_mod lp hlp.1 n1
  obtain ⟨x, xf, hLi, hsx, hxf⟩ := F.at hin
  have hLl := F.lL
  have W0 := F.winv hin hsx
  have hlen := F.len
  have hP := q5r hor (f := xf) (cb := false) W0 hxf (by omega)
  have hT0 : WTime c i f hor ⟨x, qgx (qgg s.pend i), [], [], false⟩ := ⟨fun e he => fa _ (List.mem_of_getElem? (q07 _ _ hin)) e he, fun e he => (by cases he), fun e he => (by cases he)⟩
  have hT := hT0.run 2000 W0 (by omega)
  obtain ⟨S', es, WI, hd, _, hel⟩ := WInv.run hor 2000 W0 (by omega)
  have hend := q6z c hor 2000 ⟨x, qgx (qgg s.pend i), [], [], false⟩
  generalize WSt.run c hor 2000 ⟨x, qgx (qgg s.pend i), [], [], false⟩ = w at *
  have hwl := WI.len
  rw [List.length_append] at hwl
  have hdl : w.done.length ≤ 2000 := by rw [hd]; simpa using hel
  obtain ⟨⟨y1, e1, σ1⟩, k1, k2, k3, k4, k5, k6, k7, k8, k9, k10⟩ := safe_l1 c f hor i w xf (by omega) ⟨l1, l8⟩ z3 hT (by omega)
  obtain ⟨⟨y2, e2, σ2⟩, m1, m2, m3, m4, m5, m6, m7, m8⟩ := safe_l2 c f hor i w xf hT (by omega)
  simp only [Int.ofNat_zero] at k1 k2 k3 k4 k5 k6 k7 k8 k9 k10 m1 m2 m3 m4 m5 m6 m7 m8
  subst k2; subst k4; subst m2; subst m4
  have hkd : qk7 w.box := by
    obtain ⟨T, hTp⟩ := WI.sub
    have := (List.pairwise_append.1 WI.K.keys).2.1
    exact (List.pairwise_append.1 (qk7.perm this hTp)).1
  have hV := qx6 w.box false (by omega) (fun z hz => by have := WI.keyLen (e := z) (.inl hz); rw [List.length_append] at this; omega)
  rw [q6g WI.sorted hkd.dist] at hV
  have hLm : (L.map lpF)[i]? = some (lpF (x, xf)) := by rw [List.getElem?_map, hLi]; rfl
  have hBm : ((qew c.lps.length s.pend).map qcu)[i]? = some (qcu (qgx (qgg s.pend i))) := by rw [List.getElem?_map, q07 _ _ hin]; rfl
  have nz : ¬ (c.lps.length : Int) = 0 := by omega
  have lo1 := qtn 0 L
  have lo2 := qja 0 (qew c.lps.length s.pend)
  have lo3 : qiz 0 ((qgx (qgg s.pend i)).map Evt.r) = true := qaa _ _
  generalize (qew c.lps.length s.pend).map qcu = BM at *
  generalize qgx (qgg s.pend i) = bi at *
  have hlm : (L.map lpF).length = c.lps.length := by rw [List.length_map]; exact hLl
  generalize L.map lpF = LM at *
  simp only [lpF] at hLm
  simp only [qcu] at hBm
  have q1 : ¬ hor ≤ f := by omega
  have q2 : ¬ hor > c.fin := by omega
  have q3 : ¬ hor > f + c.look := by omega
  have q4 : ¬ hor < (if f + c.look < c.fin then f + c.look else c.fin) := by split <;> omega
  have hi0 : (0 : Int) ≤ i := by omega
  by_cases hb0 : w.box = []
  · rw [hb0] at m1 m7 hV k1 k9 hP
    simp only [List.map_nil] at m1 m7 hV k1 k9 hP
    simp only [qc6, hH, hq, hS, hF, hff, hHz, q1, q2, q3, q4, w1, wl, hi, nz, hlm, hLm, hBm, hP, k1, k3, k5, k6, k7, k8, k9, k10, m1, m3, m5, m7, hV, lo2, lo3, hi0, Int.toNat_natCast, qaa, qcb, qaw, qag, qk, Ev.exec, qb, qe, qc, qa5, qah, Ev.evs, Ev.Opnd.ev, Ev.Env.get, Ev.Env.set, Ev.Env.unset, Ev.look, ql, qf, qv, Ev.AV.cells, qo, Ev.AV.plain, qap, qz8, qas, qi, ql9, qbb, qbq, qj, qs, qak, Ev.kill, qai, qr, Ev.keep, qal, qad, qg, Ev.SObj.lo, qbc, qa2, qm, qbh, qh, qd, qu, qaj, qac, ↓qn, ↓qa0, ↓reduceIte, List.length_cons, List.length_nil, List.getElem?_cons_zero, List.getElem?_cons_succ, List.take_succ_cons, List.take_zero, zfe, List.drop_succ_cons, List.drop_zero, List.drop_nil, List.nil_append, List.append_nil, List.set_cons_zero, List.head?_cons, Nat.reduceAdd, Nat.reduceEqDiff, Int.cast_ofNat_Int, reduceCtorEq, decide_true, decide_false, zfc, Bool.not_true, zfa, Bool.true_eq_false, and_self, ne_eq, zfb, zff, zfd, Nat.le_refl, eq_self]
  · obtain ⟨e, r, hb⟩ : ∃ e r, w.box = e :: r := by
      cases hw : w.box with
      | nil => exact absurd hw hb0
      | cons e r => exact ⟨e, r, rfl⟩
    rw [hb] at m1 m7 hV k1 k9 hP
    have b0 : ¬ ((r.length + 1 : Nat) : Int) = 0 := by omega
    by_cases ht : e.time ≥ hor
    · obtain ⟨et, ek, el, ei, ep, ea⟩ := e
      simp only at ht
      simp only [List.map_cons, Evt.r] at m1 m7 hV k1 k9 hP
      simp only [qc6, hH, hq, hS, hF, hff, hHz, q1, q2, q3, q4, w1, wl, hi, nz, hlm, hLm, hBm, hP, k1, k3, k5, k6, k7, k8, k9, k10, m1, m3, m5, m6, m7, hV, b0, ht, lo2, lo3, hi0, Int.toNat_natCast, Int.le_refl, Int.toNat_zero, qaa, qx, qcb, qaw, qag, qk, Ev.exec, qb, qe, qc, qa5, qah, Ev.evs, Ev.Opnd.ev, Ev.Env.get, Ev.Env.set, Ev.Env.unset, Ev.look, ql, qf, qv, Ev.AV.cells, qo, Ev.AV.plain, qap, qz8, qas, qi, ql9, qbb, qbq, qj, qs, qak, Ev.kill, qai, qr, Ev.keep, qal, qad, qg, Ev.SObj.lo, qbc, qa2, qm, qbh, qh, qd, qu, qaj, qac, List.length_map, ↓qn, ↓qa0, ↓reduceIte, List.length_cons, List.length_nil, List.getElem?_cons_zero, List.getElem?_cons_succ, List.take_succ_cons, List.take_zero, zfe, List.drop_succ_cons, List.drop_zero, List.drop_nil, List.nil_append, List.append_nil, List.set_cons_zero, List.head?_cons, Nat.reduceAdd, Nat.reduceEqDiff, reduceCtorEq, decide_true, decide_false, zfc, Bool.not_true, zfa, Bool.true_eq_false, and_self, ne_eq, zfb, zff, zfd, Nat.le_refl, eq_self]
    · have hdd : (w.done.length : Int) ≥ 2000 := by
        rcases hend with h1 | ⟨_, h1 | ⟨e', r', h1, h2⟩⟩
        · simp at h1; omega
        · exact absurd h1 hb0
        · rw [hb] at h1; cases h1; omega
      obtain ⟨et, ek, el, ei, ep, ea⟩ := e
      simp only at ht
      simp only [List.map_cons, Evt.r] at m1 m7 hV k1 k9 hP
      simp only [qc6, hH, hq, hS, hF, hff, hHz, q1, q2, q3, q4, w1, wl, hi, nz, hlm, hLm, hBm, hP, k1, k3, k5, k6, k7, k8, k9, k10, m1, m3, m5, m6, m7, m8, hV, b0, ht, hdd, lo2, lo3, hi0, Int.toNat_natCast, Int.le_refl, Int.toNat_zero, qaa, qx, qcb, qaw, qag, qk, Ev.exec, qb, qe, qc, qa5, qah, Ev.evs, Ev.Opnd.ev, Ev.Env.get, Ev.Env.set, Ev.look, ql, qf, qv, Ev.AV.cells, qo, Ev.AV.plain, qap, qz8, qas, qi, ql9, qbb, qbq, qj, qs, qak, Ev.kill, qai, qr, Ev.keep, qal, qad, qg, Ev.SObj.lo, qbc, qa2, qm, qbh, qh, qd, qu, qaj, qac, List.length_map, ↓qn, ↓qa0, ↓reduceIte, List.length_cons, List.length_nil, List.getElem?_cons_zero, List.getElem?_cons_succ, List.take_succ_cons, List.take_zero, zfe, List.drop_succ_cons, List.drop_zero, List.drop_nil, List.nil_append, List.append_nil, List.set_cons_zero, List.head?_cons, Nat.reduceAdd, Nat.reduceEqDiff, reduceCtorEq, decide_true, decide_false, zfc, Bool.not_true, zfa, and_self, ne_eq, zfb, zff, zfd, Nat.le_refl, eq_self]
end Go.Proofs.Ytbhhifdhlafklaa.K
namespace Go.Ev
def Ctx.nil : Ctx := { n := 0, loc := fun _ => ⟨0, 0, 0, 0⟩, own := fun _ => False, far := fun _ => False }
theorem SR.nil (P : Program) (w : World) : SR P Ctx.nil [] w where
  len := rfl
  obj o ob h := by simp at h
  blk o h := absurd h (Nat.not_lt_zero _)
  inj o o' h := absurd h (Nat.not_lt_zero _)
  ownlt b h := h.elim
  farlt b h := h.elim
  sep b h := h.elim
section
variable (P : Program) {H : Type} (enc : TypeId × Value → H)
def qj9 (t : TypeId) {τ : Type} (c : τ → List AV) (ok : τ → Prop) : Prop :=
  ∀ (w : World) (fuel : Nat) (cs : List Value) (d : DataW H) (ps : List MemPlace), DataW.trod enc P w 0 (fun _ => true) true fuel t cs = some (d, ps) → ∃ x : τ, ok x ∧ VRs Ctx.nil w (c x) cs
variable {P enc}
theorem VRs.one {Γ : Ctx} {w : World} {a : AV} {v : Value} (h : VR Γ w a v) : VRs Γ w [a] [v] := by
  simp only [VRs]; exact ⟨v, [], rfl, h, rfl⟩
theorem qzq {t : TypeId} {k : IntKind} (hu : P.underlying t = some (.int k)) : qj9 P enc t (fun n : Int => [.v (.int k n)]) (fun n => (Lit.int k n).wf = true) := by
  intro w fuel cs d ps h
  cases fuel with
  | zero => simp [DataW.trod] at h
  | succ fuel =>
    unfold DataW.trod at h
    rw [hu] at h
    split at h <;> rename_i heq <;> first | (cases heq; done) | (cases h; done) | skip
    cases heq
    split at h
    · rename_i hk
      obtain ⟨rfl, hwf⟩ := hk
      exact ⟨_, hwf, VRs.one (by simp only [VR])⟩
    · cases h
variable (P enc) in
def qss (off : Nat) (fs : List Field) {τ : Type} (c : τ → List AV) (ok : τ → Prop) (tot : Nat) : Prop :=
  ∀ (w : World) (fuel : Nat) (cs : List Value), (∀ (i : Nat) (f : Field), fs[i]? = some f → ∃ x, DataW.trod enc P w 0 (fun _ => true) true fuel f.type ((cs.drop f.offset).take (P.cellsOf f.type)) = some x) →
    ∃ x : τ, ok x ∧ VRs Ctx.nil w (c x) ((cs.drop off).take tot)
theorem qpz (off : Nat) : qss P enc off [] (fun _ : Unit => []) (fun _ => True) 0 := fun w fuel cs _ => ⟨(), trivial, by simp [VRs]⟩
theorem qd9 {off : Nat} {f : Field} {fs : List Field} {α β : Type} {c1 : α → List AV} {ok1 : α → Prop} {c2 : β → List AV} {ok2 : β → Prop} {tot : Nat} {sz : Nat} (ho : f.offset = off) (hs : P.cellsOf f.type = sz)
    (h1 : qj9 P enc f.type c1 ok1) (h2 : qss P enc (off + sz) fs c2 ok2 tot) : qss P enc off (f :: fs) (fun x : α × β => c1 x.1 ++ c2 x.2) (fun x => ok1 x.1 ∧ ok2 x.2) (sz + tot) := by
  intro w fuel cs h
  obtain ⟨⟨d, ps⟩, h3⟩ := h 0 f rfl
  obtain ⟨x, k1, k2⟩ := h1 w fuel _ d ps h3
  obtain ⟨y, k3, k4⟩ := h2 w fuel cs fun i g hg => h (i + 1) g (by simpa using hg)
  refine ⟨(x, y), ⟨k1, k3⟩, ?_⟩
  rw [List.take_add, List.drop_drop]
  rw [ho, hs] at k2
  exact k2.append k4
theorem qzz {t : TypeId} {fs : Array Field} {τ : Type} {c : τ → List AV} {ok : τ → Prop} (hu : P.underlying t = some (.struct fs)) (h : qss P enc 0 fs.toList c ok (P.cellsOf t)) : qj9 P enc t c ok := by
  intro w fuel cs d ps ht
  obtain ⟨xs, n, rfl, _, hl, hx, hall⟩ := DataW.trod_struct hu ht
  obtain ⟨x, k1, k2⟩ := h w n cs fun i f hf => by
    have hf' : fs[i]? = some f := by simpa using hf
    have := hall i f hf'
    have hlt : i < xs.length := by rw [hx]; exact (Array.getElem?_eq_some_iff.1 hf').1
    exact ⟨xs[i], by rw [this, List.getElem?_eq_getElem hlt]⟩
  refine ⟨x, k1, ?_⟩
  rw [List.drop_zero, ← hl, List.take_length] at k2
  exact k2
theorem qnz {t : TypeId} {fs : Array Field} {τ : Type} {c : τ → List AV} {ok : τ → Prop} {n : Nat} (hu : P.underlying t = some (.struct fs)) (h : qss P enc 0 fs.toList c ok n) (hn : P.cellsOf t = n) : qj9 P enc t c ok := qzz hu (by rw [hn]; exact h)
theorem qj9.map {t : TypeId} {α β : Type} {c : α → List AV} {ok : α → Prop} {c' : β → List AV} {ok' : β → Prop} (g : α → β) (h : qj9 P enc t c ok) (hc : ∀ x, c' (g x) = c x) (ho : ∀ x, ok x → ok' (g x)) : qj9 P enc t c' ok' := by
  intro w fuel cs d ps ht
  obtain ⟨x, h1, h2⟩ := h w fuel cs d ps ht
  exact ⟨g x, ho x h1, by rw [hc]; exact h2⟩
theorem qxn {τ : Type} {Q : Nat → τ → Prop} : ∀ (n : Nat), (∀ i, i < n → ∃ x, Q i x) → ∃ xs : List τ, xs.length = n ∧ ∀ (i : Nat) (x : τ), xs[i]? = some x → Q i x
  | 0, _ => ⟨[], rfl, by simp⟩
  | n + 1, h => by
    obtain ⟨xs, h1, h2⟩ := qxn n fun i hi => h i (by omega)
    obtain ⟨x, hx⟩ := h n (by omega)
    refine ⟨xs ++ [x], by simp [h1], fun i y hy => ?_⟩
    rw [List.getElem?_append] at hy
    split at hy
    · exact h2 i y hy
    · rename_i hi
      have hlt : i - xs.length < 1 := by
        have := (List.getElem?_eq_some_iff.1 hy).1
        simpa using this
      have : i = n := by omega
      subst this
      rw [h1, Nat.sub_self] at hy
      simp at hy; subst hy; exact hx
theorem q2d {Γ : Ctx} {w : World} {sz : Nat} {τ : Type} {c : τ → List AV} : ∀ (xs : List τ) (get : Nat → Option Value), (∀ (i : Nat) (x : τ), xs[i]? = some x → qy Γ w (c x) (fun j => get (j + i * sz))) → qev Γ w sz (xs.map c) get
  | [], _, _ => by simp [qev]
  | x :: xs, get, h => by
    simp only [List.map_cons, qev]
    refine ⟨by simpa using h 0 x (by simp), q2d xs _ fun i y hy => ?_⟩
    refine (h (i + 1) y (by simpa using hy)).congr fun j => ?_
    congr 1
    rw [Nat.add_mul]; omega
theorem qm8 {t e : TypeId} {sz : Nat} {τ : Type} {c : τ → List AV} {ok : τ → Prop} (hu : P.underlying t = some (.slice e)) (hs : P.cellsOf e = sz) (h0 : 0 < sz) (hc : ∀ x, (c x).length = sz) (h : qj9 P enc e c ok) :
    qj9 P enc t (fun xs : List τ => [.fsl (xs.map c) false]) (fun xs => (∀ x ∈ xs, ok x) ∧ xs.length ≤ maxLen) := by
  intro w fuel cs d ps ht
  rcases DataW.trod_slice hu ht with ⟨rfl, _⟩ | ⟨a, len, cap, elems, rest, n, rfl, rfl, _, _, hle, hcap, hel, hall, _⟩
  · refine ⟨[], by simp, VRs.one ?_⟩
    simp only [VR]
    exact ⟨none, 0, rfl, by simp, fun h => (by cases h), .inl rfl⟩
  · have hex : ∀ i, i < len → ∃ x : τ, ok x ∧ ∃ vs, w.cells? 0 (a.add (i * sz)) sz = some vs ∧ VRs Ctx.nil w (c x) vs := by
      intro i hi
      have hb := hall i hi
      rw [List.getElem?_eq_getElem (by omega), Option.bind_eq_some_iff] at hb
      obtain ⟨vs, k1, k2⟩ := hb
      obtain ⟨x, k3, k4⟩ := h w n vs _ _ k2
      rw [hs] at k1
      exact ⟨x, k3, vs, k1, k4⟩
    obtain ⟨xs, h4, h5⟩ := qxn (Q := fun i x => ok x ∧ ∃ vs, w.cells? 0 (a.add (i * sz)) sz = some vs ∧ VRs Ctx.nil w (c x) vs) len hex
    refine ⟨xs, ⟨fun x hx => ?_, by omega⟩, VRs.one ?_⟩
    · obtain ⟨i, hi, rfl⟩ := List.mem_iff_getElem.1 hx
      exact (h5 i _ (by simp [hi])).1
    · simp only [VR]
      refine ⟨some a, cap, by simp [h4], by simp [h4]; omega, fun h => (by cases h), ?_⟩
      by_cases hx0 : xs = []
      · left; simp [hx0]
      · right
        have hlen0 : 0 < xs.length := List.length_pos_iff.2 hx0
        have hcell : ∀ (i : Nat) (x : τ), xs[i]? = some x → ∀ j, j < sz → ∃ v, w.cell? ((a.add (i * sz)).add j) = some v := by
          intro i x hx j hj
          obtain ⟨_, vs, k1, k2⟩ := h5 i x hx
          obtain ⟨_, k3, k4⟩ := World.cells?_some k1
          exact ⟨vs[j]'(by omega), by rw [k4 j hj, List.getElem?_eq_getElem (by omega)]⟩
        obtain ⟨v0, hv0⟩ := hcell 0 xs[0] (by simp [hlen0]) 0 h0
        obtain ⟨b, off, spot⟩ := a
        have hspot : spot = none := by simpa [Addr.add] using World.cell?_spot hv0
        subst hspot
        have hblt : b < w.heap.size := by
          rw [Addr.add_lit, Addr.add_lit] at hv0
          unfold World.cell? at hv0
          cases hh : w.heap[b]? with
          | none => rw [hh] at hv0; simp at hv0
          | some o => exact (Array.getElem?_eq_some_iff.1 hh).1
        refine ⟨b, off, sz, rfl, ⟨hblt, id, id⟩, h0, ?_, ?_⟩
        · intro e he
          obtain ⟨x, _, rfl⟩ := List.mem_map.1 he
          exact hc x
        · refine q2d xs _ fun i x hx => ?_
          obtain ⟨_, vs, k1, k2⟩ := h5 i x hx
          obtain ⟨_, k3, k4⟩ := World.cells?_some k1
          refine qy.of_list k2 fun j v hj => ?_
          have hjl := (List.getElem?_eq_some_iff.1 hj).1
          have := k4 j (by omega)
          rw [hj, Addr.add_lit, Addr.add_lit] at this
          rw [← this]
          congr 2
          omega
end
end Go.Ev
namespace Go.Ev
open Go.RowKit (Below)
open Go.ChangeShapes Go.WideShapes Go.ChangeAt Go.RowKit
variable {H : Type} {enc : TypeId × Value → H} {P : Program}
theorem Ext.below {w w' : World} {Γ' : Ctx} (x : Ext Ctx.nil Γ' w w') : Below w.heap.size w w' := ⟨x.os, x.tape, x.output, x.size, fun k hk => x.same k hk id⟩
theorem qsf (hl : laidOutB P = true) {w w' : World} (hb : Below w.heap.size w w') {sp : Nat → Bool} : ∀ {ts : List TypeId} {vs : List Value} {ds : List (DataW H)} {ps : List MemPlace},
    (∀ t ∈ ts, P.readableRec t = true ∧ t < P.types.size) → DataW.TrodAll enc P w 0 (fun _ => true) true ts vs ds ps → (∀ p ∈ ps, p.block < w.heap.size) → (∀ p ∈ ps, sp p.block = true) → DataW.TrodAll enc P w' 0 sp true ts vs ds ps
  | [], [], [], ps, _, h, _, _ => h
  | t :: ts, v :: vs, d :: ds, ps, ht, ⟨p, q, h1, h2, e⟩, hlt, hs => by
    subst e
    obtain ⟨r1, r2⟩ := ht t (by simp)
    exact ⟨p, q, WideElems.Trod_stays hl r1 r2 h1 (fun x hx => hb.same (hlt x (List.mem_append_left _ hx))) (fun x hx => hs x (List.mem_append_left _ hx)),
      qsf hl hb (fun u hu => ht u (by simp [hu])) h2 (fun x hx => hlt x (List.mem_append_right _ hx)) (fun x hx => hs x (List.mem_append_right _ hx)), rfl⟩
  | [], _ :: _, _, _, _, h, _, _ => h.elim
  | [], [], _ :: _, _, _, h, _, _ => h.elim
  | _ :: _, [], _, _, _, h, _, _ => h.elim
  | _ :: _, _ :: _, [], _, _, h, _, _ => h.elim
theorem frz_bool {σ : qq} {d : Nat} {a : AV} {b : Bool} : frz σ (d + 1) a = some (.v (.bool b)) → a = .v (.bool b) := by
  intro h
  simp only [frz] at h
  split at h
  · cases h; rfl
  · cases a with
    | v x => cases h; rfl
    | sl o g off len c =>
      simp only at h
      split at h
      · split at h
        · rw [Option.bind_eq_some_iff] at h; obtain ⟨_, _, h⟩ := h; cases h
        · cases h
      · cases h
    | ptr o g i off =>
      simp only at h
      split at h
      · split at h
        · rw [Option.bind_eq_some_iff] at h; obtain ⟨_, _, h⟩ := h
          rw [Option.bind_eq_some_iff] at h; obtain ⟨_, _, h⟩ := h; cases h
        · cases h
      · cases h
    | agg cs => simp only [Option.bind_eq_some_iff] at h; obtain ⟨_, _, h⟩ := h; cases h
    | tup cs => simp only [Option.bind_eq_some_iff] at h; obtain ⟨_, _, h⟩ := h; cases h
    | fsl es c => simp only [Option.bind_eq_some_iff] at h; obtain ⟨_, _, h⟩ := h; cases h
    | fptr cs => simp only [Option.bind_eq_some_iff] at h; obtain ⟨_, _, h⟩ := h; cases h
    | fn f a b => simp only [Option.bind_eq_some_iff] at h; obtain ⟨_, _, _, _, h⟩ := h; cases h
    | yld o => cases h
    | mp o => cases h
theorem q4m {T : Tab} (hT : TabOk P T) {f : Nat} {cf : CFunc} (hc : T.code f = some cf) {as_ : List AV} {b : Bool} (h : qa7 (evL T) f as_ = some (.v (.bool b))) {W : World} {args : Array Value} (hv : VRs Ctx.nil W as_ args.toList) :
    Calls P f args W fun e W' => e = .returned (.bool b) ∧ Below W.heap.size W W' := by
  unfold qa7 at h
  rw [Option.bind_eq_some_iff] at h
  obtain ⟨⟨r, σ⟩, h1, h2⟩ := h
  obtain rfl := frz_bool (d := 5) h2
  have hn := evL_ok hT f as_ [] _ σ h1 Ctx.nil W args.toList (SR.nil P W) hv
  rw [Array.toArray_toList, hT.enter hc] at hn
  refine (callsIn_wide.1 hn).mono fun e W' he => ?_
  cases e with
  | returned v =>
    obtain ⟨Γ', k1, _, k3⟩ := he
    simp only [VR] at k1
    exact ⟨by rw [k1], k3.below⟩
  | panicked _ => exact he.elim
  | outgrown => exact he.elim
theorem q1k {f : Func} {s : ChangeSpec} {apart fresh handsOn again : Bool} {W W' : World} {args : Array Value} {ds gs : List (DataW H)} {before : List MemPlace} {tb : TypeId}
    (hvars : s.vars = []) (hspec : s.fn H (ds ++ gs) = { results := [.lit (.bool true)], args := ds }) (hr : f.resultTypes = #[tb]) (htb : P.underlying tb = some .bool) (hl : laidOutB P = true)
    (hts : ∀ t ∈ f.params.toList, P.readableRec t = true ∧ t < P.types.size)
    (hW : DataW.Whole enc P f.params.toList s.vars apart W args.toList ds gs before) (hb : Below W.heap.size W W') : s.post enc P f apart fresh handsOn again W args (.bool true) W' := by
  have hlt := hW.lt
  have hW' := hW
  obtain ⟨p, q, hA, hV, rfl, hz, hnd⟩ := hW
  rw [hvars] at hV
  obtain ⟨rfl, rfl⟩ := trodVars_none hV
  have hargs : ∀ sp : Nat → Bool, (∀ x ∈ p, sp x.block = true) → DataW.TrodAll enc P W' 0 sp true f.params.toList args.toList ds p := fun sp hs => qsf hl hb hts hA (fun x hx => hlt x (by simp [hx])) hs
  have hres : ∀ (bb : Nat) (sp : Nat → Bool) (hd : Bool), DataW.TrodAll enc P W' bb sp hd f.resultTypes.toList ((Value.bool true).resultList f.resultTypes.size) [.lit (.bool true)] [] := fun bb sp hd => by
    rw [hr]
    exact trodAll_mk1 (shut_bool htb true)
  refine ⟨ds, [], p ++ [], [], p, [], hW', ?_, ?_, ?_, hb.frame _, fun _ => ⟨?_, ?_⟩⟩
  · rw [hspec]; exact hres _ _ _
  · rw [hspec]; exact hargs _ fun x hx => by simpa using hlt x (by simp [hx])
  · rw [hspec, hvars]; rfl
  · exact ok_one hr rfl (okWide_bool_mk htb true)
  · refine ⟨[.lit (.bool true)] ++ ds, [], ([] ++ p) ++ [], ⟨[] ++ p, [], trodAll_append (hargs _ (fun _ _ => rfl)) (hres _ _ _), by rw [hvars]; rfl, rfl, ?_, ?_⟩, ?_⟩
    · intro b off hp
      have hp' : MemPlace.cell b off ∈ p := by simpa using hp
      have hblt : b < W.heap.size := hlt (.cell b off) (by simp [hp'])
      rw [hb.frozen (p := ⟨b, off, none⟩) hblt]
      exact hz b off (by simp [hp'])
    · intro ha
      simpa using hnd ha
    · intro x hx _
      simpa using hx
end Go.Ev
namespace Go.Ev
open Go.RowKit (Below)
open Go.ChangeShapes Go.WideShapes Go.ChangeAt Go.RowKit
section
variable {H : Type} (P : Program) (enc : TypeId × Value → H)
def qy8 (ts : List TypeId) {τ : Type} (c : τ → List AV) (ok : τ → Prop) : Prop :=
  ∀ (W : World) (args : List Value) (ds : List (DataW H)) (p : List MemPlace), DataW.TrodAll enc P W 0 (fun _ => true) true ts args ds p →
    (∀ (j : Nat) t v, ts[j]? = some t → args[j]? = some v → ∃ base, Value.okWide P W .any base t v) → ∃ x : τ, ok x ∧ VRs Ctx.nil W (c x) args ∧ ds.length = ts.length
variable {P enc}
def q71 : TypeDesc → Bool
  | .struct _ => false
  | .array _ _ => false
  | _ => true
theorem q0z {w : World} {r : Reach} {base : Nat} {t : TypeId} {v : Value} {u : TypeDesc} (hu : P.underlying t = some u) (hp : q71 u = true) (h : Value.okWide P w r base t v) : ∀ cs, v ≠ .agg cs := by
  rintro cs rfl
  unfold Value.okWide at h
  rw [hu] at h
  cases u <;> simp only [q71, Bool.false_eq_true] at hp <;> simp only [Cell.okWide, Cell.ok, hu] at h
theorem q4t : qy8 P enc [] (fun _ : Unit => []) (fun _ => True) := by
  intro W args ds p h _
  obtain ⟨rfl, rfl, rfl⟩ := trodAll_nil h
  exact ⟨(), trivial, by simp [VRs], rfl⟩
theorem qxk {t : TypeId} {ts : List TypeId} {u : TypeDesc} {α β : Type} {a : α → AV} {ok1 : α → Prop} {c2 : β → List AV} {ok2 : β → Prop} (hu : P.underlying t = some u) (hp : q71 u = true)
    (h1 : qj9 P enc t (fun x => [a x]) ok1) (h2 : qy8 P enc ts c2 ok2) : qy8 P enc (t :: ts) (fun x : α × β => a x.1 :: c2 x.2) (fun x => ok1 x.1 ∧ ok2 x.2) := by
  intro W args ds p h hval
  obtain ⟨v, vs, d, ds', p, q, rfl, rfl, rfl, ht, hr⟩ := trodAll_cons h
  obtain ⟨y, k1, k2, k3⟩ := h2 W vs ds' q hr fun j t v e1 e2 => hval (j + 1) t v (by simpa using e1) (by simpa using e2)
  obtain ⟨fuel, hf⟩ := ht
  obtain ⟨x, m1, m2⟩ := h1 W fuel _ d p hf
  obtain ⟨base, hv⟩ := hval 0 t v rfl rfl
  have hna := q0z hu hp hv
  have hc : v.cells.toList = [v] := by
    cases v with
    | agg cs => exact absurd rfl (hna cs)
    | _ => rfl
  rw [hc] at m2
  simp only [VRs] at m2
  obtain ⟨v', r, e, m3, rfl⟩ := m2
  cases e
  refine ⟨(x, y), ⟨m1, k1⟩, ?_, by simp [k3]⟩
  simp only [VRs]
  exact ⟨v, vs, rfl, m3, k2⟩
theorem q0j {t : TypeId} {ts : List TypeId} {fs : Array Field} {α β : Type} {c1 : α → List AV} {ok1 : α → Prop} {c2 : β → List AV} {ok2 : β → Prop} (hu : P.underlying t = some (.struct fs))
    (h1 : qj9 P enc t c1 ok1) (h2 : qy8 P enc ts c2 ok2) : qy8 P enc (t :: ts) (fun x : α × β => .agg (c1 x.1) :: c2 x.2) (fun x => ok1 x.1 ∧ ok2 x.2) := by
  intro W args ds p h hval
  obtain ⟨v, vs, d, ds', p, q, rfl, rfl, rfl, ht, hr⟩ := trodAll_cons h
  obtain ⟨y, k1, k2, k3⟩ := h2 W vs ds' q hr fun j t v e1 e2 => hval (j + 1) t v (by simpa using e1) (by simpa using e2)
  obtain ⟨fuel, hf⟩ := ht
  obtain ⟨x, m1, m2⟩ := h1 W fuel _ d p hf
  obtain ⟨base, hv⟩ := hval 0 t v rfl rfl
  obtain ⟨cs, rfl, _⟩ := okWide_struct hu hv
  refine ⟨(x, y), ⟨m1, k1⟩, ?_, by simp [k3]⟩
  simp only [VRs]
  refine ⟨_, vs, rfl, ?_, k2⟩
  simp only [VR]
  exact ⟨cs.toList, by simp, by simpa [Value.cells] using m2⟩
end
theorem q2v {H : Type} {enc : TypeId × Value → H} {P : Program} {T : Tab} (hT : TabOk P T) {f : Nat} {fn : Func} {cf : CFunc} (hc : T.code f = some cf) {s : ChangeSpec} {apart : Bool} {ts : List TypeId} {tb : TypeId} {τ : Type} {c : τ → List AV} {ok : τ → Prop}
    (hpar : fn.params.toList = ts) (hargs : qy8 P enc ts c ok) (hlaw : ∀ x, ok x → qa7 (evL T) f (c x) = some (.v (.bool true)))
    (hvars : s.vars = []) (hspec : ∀ ds : List (DataW H), ds.length = ts.length → s.fn H ds = { results := [.lit (.bool true)], args := ds })
    (hr : fn.resultTypes = #[tb]) (htb : P.underlying tb = some .bool) (hl : laidOutB P = true) (hts : ∀ t ∈ ts, P.readableRec t = true ∧ t < P.types.size)
    (W : World) (base : Nat) (args : Array Value) (ds gs : List (DataW H)) (before : List MemPlace) (hval : ∀ (j : Nat) t v, fn.params[j]? = some t → args[j]? = some v → Value.okWide P W .any base t v)
    (hW : DataW.Whole enc P fn.params.toList s.vars apart W args.toList ds gs before) : Calls P f args W fun e W' => ∃ v, e = .returned v ∧ s.post enc P fn apart true false false W args v W' := by
  have hW' := hW
  obtain ⟨p, q, hA, hV, rfl, hz, hnd⟩ := hW
  rw [hvars] at hV
  obtain ⟨rfl, rfl⟩ := trodVars_none hV
  obtain ⟨x, h1, h2, h3⟩ := hargs W args.toList ds p (hpar ▸ hA) fun j t v e1 e2 => ⟨base, hval j t v (by rw [← hpar] at e1; simpa using e1) (by simpa using e2)⟩
  refine (q4m hT hc (hlaw x h1) h2).mono fun e W' ⟨he, hb⟩ => ⟨_, he, ?_⟩
  exact q1k hvars (by rw [List.append_nil]; exact hspec ds h3) hr htb hl (by rw [hpar]; exact hts) hW' hb
end Go.Ev
namespace Go.Proofs.Ytbhhifdhlafklaa.K
open Go.Ev
open Go.ChangeShapes Go.WideShapes Go.ChangeAt Go.RowKit
section
variable {H : Type} {enc : TypeId × Value → H}
theorem wf_u8 {n : Int} (h : (Lit.int .u8 n).wf = true) : 0 ≤ n ∧ n ≤ 255 := by
  simp [Lit.wf] at h
  have h1 : IntKind.u8.min = 0 := rfl
  have h2 : IntKind.u8.max = 255 := rfl
  omega
theorem wf_i64 {n : Int} (h : (Lit.int .i64 n).wf = true) : -9223372036854775808 ≤ n ∧ n ≤ 9223372036854775807 := by
  simp [Lit.wf] at h
  have h1 : IntKind.i64.min = -9223372036854775808 := rfl
  have h2 : IntKind.i64.max = 9223372036854775807 := rfl
  omega
theorem qlw : qj9 Try.prog enc 3 (fun n : Int => [(ii n)]) (fun n => -9223372036854775808 ≤ n ∧ n ≤ 9223372036854775807) := (qzq Try.underlying3).map id (fun _ => rfl) (fun _ h => wf_i64 h)
theorem q7z : qj9 Try.prog enc 5 (fun n : Int => [(.v (.int .u8 n))]) (fun n => 0 ≤ n ∧ n ≤ 255) := (qzq Try.underlying5).map id (fun _ => rfl) (fun _ h => wf_u8 h)
theorem data_op : qj9 Try.prog enc 81 OpI.r (fun _ => True) := by
  have h := qnz (P := Try.prog) (enc := enc) (t := 81) Try.underlying81 (qd9 (sz := 1) rfl (by kernel_rfl) qlw (qd9 (sz := 1) rfl (by kernel_rfl) qlw (qd9 (sz := 1) rfl (by kernel_rfl) qlw (qd9 (sz := 1) rfl (by kernel_rfl) qlw (qpz _))))) (by kernel_rfl)
  exact h.map (fun x => (⟨x.1, x.2.1, x.2.2.1, x.2.2.2.1⟩ : OpI)) (fun _ => rfl) (fun _ _ => trivial)
theorem q7r : qj9 Try.prog enc 82 (fun l : List OpI => [(.fsl ((l).map OpI.r) false)]) (fun l => (∀ x ∈ l, True) ∧ l.length ≤ maxLen) := qm8 (sz := 4) Try.underlying82 (by kernel_rfl) (by decide) (fun _ => rfl) data_op
theorem q4q : qj9 Try.prog enc 23 (fun l : List (List OpI) => [(.fsl ((l).map qcd) false)]) (fun l => (∀ x ∈ l, (∀ y ∈ x, True) ∧ x.length ≤ maxLen) ∧ l.length ≤ maxLen) := qm8 (sz := 1) Try.underlying23 (by kernel_rfl) (by decide) (fun _ => rfl) q7r
theorem q4s : qj9 Try.prog enc 78 Start.r (fun _ => True) := by
  have h := qnz (P := Try.prog) (enc := enc) (t := 78) Try.underlying78 (qd9 (sz := 1) rfl (by kernel_rfl) qlw (qd9 (sz := 1) rfl (by kernel_rfl) qlw (qpz _))) (by kernel_rfl)
  exact h.map (fun x => (⟨x.1, x.2.1⟩ : Start)) (fun _ => rfl) (fun _ _ => trivial)
theorem q3m : qj9 Try.prog enc 79 (fun l : List Start => [(.fsl ((l).map Start.r) false)]) (fun l => (∀ x ∈ l, True) ∧ l.length ≤ maxLen) := qm8 (sz := 2) Try.underlying79 (by kernel_rfl) (by decide) (fun _ => rfl) q4s
theorem data_lps : qj9 Try.prog enc 22 (fun l : List (List Start) => [(.fsl ((l).map lpC) false)]) (fun l => (∀ x ∈ l, (∀ y ∈ x, True) ∧ x.length ≤ maxLen) ∧ l.length ≤ maxLen) := qm8 (sz := 1) Try.underlying22 (by kernel_rfl) (by decide) (fun _ => rfl) q3m
theorem data_cfg : qj9 Try.prog enc 25 (fun c : Cfg => [(.fsl ((c.lps).map lpC) false), (.fsl ((c.progs).map qcd) false), (ii c.look), (ii c.fin), (ii c.cap)]) (fun c => -9223372036854775808 ≤ c.look ∧ c.look ≤ 9223372036854775807) := by
  have h := qnz (P := Try.prog) (enc := enc) (t := 25) Try.underlying25 (qd9 (sz := 1) rfl (by kernel_rfl) data_lps (qd9 (sz := 1) rfl (by kernel_rfl) q4q (qd9 (sz := 1) rfl (by kernel_rfl) qlw (qd9 (sz := 1) rfl (by kernel_rfl) qlw (qd9 (sz := 1) rfl (by kernel_rfl) qlw (qpz _)))))) (by kernel_rfl)
  exact h.map (fun x => (⟨x.1, x.2.1, x.2.2.1, x.2.2.2.1, x.2.2.2.2.1⟩ : Cfg)) (fun _ => rfl) (fun _ h => h.2.2.1)
end
theorem own : ownKnob Try.prog.godebug = none := by kernel_rfl
theorem laid : laidOutB Try.prog = true := by kernel_rfl
end Go.Proofs.Ytbhhifdhlafklaa.K
