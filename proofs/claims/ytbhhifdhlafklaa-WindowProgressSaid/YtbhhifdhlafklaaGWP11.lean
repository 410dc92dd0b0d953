/- For every input the statement of this claim returns true: texts of its proof, joined (part 12). -/
import Derived.ChangeShapes
import Derived.ChangeOld
import Derived.ChangeArms
import Derived.DataReads
import Derived.Carry
import Derived.ChangeSame
import Derived.OpenShut
import Derived.Handed
import Derived.RowKit3
import Derived.ChangeAt
import Derived.Test.YtbhhifdhlafklaaRows
import Derived.WalkKit
import Derived.ProofKit
import Derived.Test.YtbhhifdhlafklaaEWP3
import Derived.Test.YtbhhifdhlafklaaGWP10
set_option linter.unusedSectionVars false
set_option linter.unusedSimpArgs false
set_option linter.unusedVariables false
namespace Go.Proofs.Ytbhhifdhlafklaa.K
open Go.Ev
set_option maxRecDepth 10000
section
variable {c : Cfg} {s : Sim} {h : List Evt}
def LOk (L : List (Lp × Bool)) (s : Sim) : Prop := L.map Prod.fst = s.lps ∧ ∀ x ∈ L, x.2 = true → x.1.procs = []
theorem rsim_L (lim : Nat) (hlim : lim ≤ 60) : ∀ (k : Nat) {s : Sim} {h : List Evt} {L : List (Lp × Bool)}, s.n + k = lim → SInv c s h → LOk L s →
  ∃ y, itB (exec (evL T) itL none qd4) (qs [1, 2, 4, 5] true 2) ⟨[(1, (ii lim)), (2, (.fptr [(.fsl ((c.lps).map lpC) false), (.fsl ((c.progs).map qc2) false), (ii c.look), (ii c.fin), (ii c.cap)])), (4, .ptr 0 0 0 0), (5, .ptr 1 0 0 0)], []⟩ [.row 5 [[.fsl [] false, .fsl [] false, .fsl [] false, (ii 0), (bb false)]] 0, .row 5 [[(.fsl ((s.trace).map qbn) false), (.fsl ((L).map lpF) false), (.fsl ((s.pend).map Evt.r) false), (ii s.n), (bb s.over)]] 0] = some y ∧
   ∃ L' : List (Lp × Bool), LOk L' (Sim.run c k s) ∧ y.1 = .exit 0 ∧ y.2.1.marks = [] ∧ y.2.2 = [.row 5 [[.fsl [] false, .fsl [] false, .fsl [] false, (ii 0), (bb false)]] 0, .row 5 [[(.fsl (((Sim.run c k s).trace).map qbn) false), (.fsl ((L').map lpF) false), (.fsl (((Sim.run c k s).pend).map Evt.r) false), (ii ((Sim.run c k s).n)), (bb ((Sim.run c k s).over))]] 0] ∧ Ev.look y.2.1.vars 4 = some (.ptr 0 0 0 0) ∧ Ev.look y.2.1.vars 5 = some (.ptr 1 0 0 0) := by
 intro k
 induction k with
 | zero =>
  intro s h L hk H hL
  have c1 : ¬ (s.n : Int) < (lim : Int) := by omega
  have hx : ∃ y, it1 (exec (evL T) itL none qd4) (qs [1, 2, 4, 5] true 2) ⟨[(1, (ii lim)), (2, (.fptr [(.fsl ((c.lps).map lpC) false), (.fsl ((c.progs).map qc2) false), (ii c.look), (ii c.fin), (ii c.cap)])), (4, .ptr 0 0 0 0), (5, .ptr 1 0 0 0)], []⟩ [.row 5 [[.fsl [] false, .fsl [] false, .fsl [] false, (ii 0), (bb false)]] 0, .row 5 [[(.fsl ((s.trace).map qbn) false), (.fsl ((L).map lpF) false), (.fsl ((s.pend).map Evt.r) false), (ii s.n), (bb s.over)]] 0] = some (.inr y) ∧ y.1 = .exit 0 ∧ y.2.1.marks = [] ∧ y.2.2 = [.row 5 [[.fsl [] false, .fsl [] false, .fsl [] false, (ii 0), (bb false)]] 0, .row 5 [[(.fsl ((s.trace).map qbn) false), (.fsl ((L).map lpF) false), (.fsl ((s.pend).map Evt.r) false), (ii s.n), (bb s.over)]] 0] ∧ Ev.look y.2.1.vars 4 = some (.ptr 0 0 0 0) ∧ Ev.look y.2.1.vars 5 = some (.ptr 1 0 0 0) := by
   simp only [qd4, c1, Ev.exec, qb, qe, qc, qai, Ev.Opnd.ev, Ev.Env.get, Ev.Env.set, Ev.Env.unset, Ev.look, qk, qad, ql, ↓qr, Ev.it1, ↓reduceIte, zgd, zge, zgf, zgg, zgh, Nat.reduceEqDiff, zgw, zfa, zfd, zgy]
   exact ⟨_, rfl, rfl, rfl, rfl, rfl, rfl⟩
  obtain ⟨y, h1, h2, h3, h4, h5, h6⟩ := hx
  exact ⟨y, qqd h1, L, hL, h2, h3, h4, h5, h6⟩
 | succ k ih =>
  intro s h L hk H hL
  have c1 : (s.n : Int) < (lim : Int) := by omega
  have c2 : (s.n : Int) < 2000 := by omega
  by_cases hb : s.ready c = true
  ·obtain ⟨e, rest, hp, hf⟩ := q2a hb
   have hhl : h.length ≤ 60 := by have := H.n; omega
   obtain ⟨L1, l1, l2, hc⟩ := q7y H hp hhl L hL.1 hL.2
   obtain ⟨y, g1, g2⟩ := ih (s := s.step c e rest) (h := h ++ [e]) (by show s.n + 1 + k = lim; omega) (H.step hp (by omega) hf) ⟨l1, l2⟩
   have hrun : Sim.run c (k + 1) s = Sim.run c k (s.step c e rest) := by rw [Sim.run, if_pos hb, go_eq hp]
   rw [hrun]
   refine ⟨y, q3f ?_ g1, g2⟩
   have c3 : ((rest.length + 1 : Nat) : Int) > 0 := by omega
   rw [hp] at hc ⊢
   obtain ⟨et, ek, el, ei, ep, ea⟩ := e
   simp only at hf
   simp only [List.map_cons, Evt.r] at hc ⊢
   simp only [qd4, c1, c2, c3, hf, hc, Int.le_refl, Int.toNat_zero, qfb, qrb, qv, qcj, qa0, qag, Ev.exec, qb, qe, qc, qa2, qai, Ev.evs, Ev.Opnd.ev, Ev.Env.get, Ev.Env.set, Ev.look, qk, qad, Ev.AV.cells, qw, Ev.AV.plain, ql, qaq, qs, Ev.keep, qae, qx, qd, Ev.SObj.lo, qa4, qbc, qu, qbq, qfw, qj, qh, qac, qan, zgi, ↓qr, Ev.it1, ↓reduceIte, zga, zgb, zgd, zge, zgc, zgo, zfe, zgf, zgg, List.drop_nil, zgl, zgn, zgj, zgk, zgh, Nat.reduceAdd, Nat.reduceEqDiff, Nat.reduceLT, zgv, zfc, zfa, zgx, zfd, zgu, Nat.le_refl, zgy]
  ·have hb' : s.ready c = false := by simpa using hb
   have hrun : Sim.run c (k + 1) s = s := by rw [Sim.run, if_neg hb]
   rw [hrun]
   have hx : ∃ y, it1 (exec (evL T) itL none qd4) (qs [1, 2, 4, 5] true 2) ⟨[(1, (ii lim)), (2, (.fptr [(.fsl ((c.lps).map lpC) false), (.fsl ((c.progs).map qc2) false), (ii c.look), (ii c.fin), (ii c.cap)])), (4, .ptr 0 0 0 0), (5, .ptr 1 0 0 0)], []⟩ [.row 5 [[.fsl [] false, .fsl [] false, .fsl [] false, (ii 0), (bb false)]] 0, .row 5 [[(.fsl ((s.trace).map qbn) false), (.fsl ((L).map lpF) false), (.fsl ((s.pend).map Evt.r) false), (ii s.n), (bb s.over)]] 0] = some (.inr y) ∧ y.1 = .exit 0 ∧ y.2.1.marks = [] ∧ y.2.2 = [.row 5 [[.fsl [] false, .fsl [] false, .fsl [] false, (ii 0), (bb false)]] 0, .row 5 [[(.fsl ((s.trace).map qbn) false), (.fsl ((L).map lpF) false), (.fsl ((s.pend).map Evt.r) false), (ii s.n), (bb s.over)]] 0] ∧ Ev.look y.2.1.vars 4 = some (.ptr 0 0 0 0) ∧ Ev.look y.2.1.vars 5 = some (.ptr 1 0 0 0) := by
    unfold Sim.ready at hb'
    cases hp : s.pend with
    | nil =>
     simp only [List.map_nil]
     simp only [qd4, c1, c2, gt_iff_lt, Int.lt_irrefl, Ev.exec, qb, qe, qc, qai, Ev.Opnd.ev, Ev.Env.get, Ev.Env.set, Ev.Env.unset, Ev.look, qk, qad, ql, qaq, ↓qr, Ev.it1, ↓reduceIte, zgb, zgd, zge, zgf, zgg, zgh, Nat.reduceEqDiff, Int.cast_ofNat_Int, zgv, zgw, zfa, zfd, zgy]
     exact ⟨_, rfl, rfl, rfl, rfl, rfl, rfl⟩
    | cons e rest =>
     rw [hp] at hb'
     simp only [decide_eq_false_iff_not] at hb'
     have c3 : ((rest.length + 1 : Nat) : Int) > 0 := by omega
     obtain ⟨et, ek, el, ei, ep, ea⟩ := e
     simp only at hb'
     simp only [List.map_cons, Evt.r]
     simp only [qd4, c1, c2, c3, hb', Int.le_refl, Int.toNat_zero, Ev.exec, qb, qe, qc, qai, Ev.Opnd.ev, Ev.Env.get, Ev.Env.set, Ev.look, qk, qad, ql, qaq, zgi, ↓qr, Ev.it1, ↓reduceIte, zga, zgb, zgd, zge, zgf, zgg, zgh, Nat.reduceAdd, Nat.reduceEqDiff, zgv, zgw, zfa, zfd, zgy]
     exact ⟨_, rfl, rfl, rfl, rfl, rfl, rfl⟩
   obtain ⟨y, h1, h2, h3, h4, h5, h6⟩ := hx
   exact ⟨y, qqd h1, L, hL, h2, h3, h4, h5, h6⟩
theorem LOk.start (c : Cfg) : LOk (qk7 c.lps) (start c) := by
 refine ⟨rfl, fun x hx hf => ?_⟩
 simp only [qk7, q7f, List.mem_map] at hx
 obtain ⟨ps, ⟨l, _, rfl⟩, rfl⟩ := hx
 simpa [stLp] using hf
theorem q5j (G : Good c) (lim : Nat) (hlim : lim ≤ 60) : ∃ L : List (Lp × Bool), LOk L (runS c lim) ∧ qbb (evL T) qge [(.agg [(.fsl ((c.lps).map lpC) false), (.fsl ((c.progs).map qc2) false), (ii c.look), (ii c.fin), (ii c.cap)]), (ii lim)] = some (.agg [(.fsl (((runS c lim).trace).map qbn) false), (.fsl ((L).map lpF) false), (.fsl (((runS c lim).pend).map Evt.r) false), (ii ((runS c lim).n)), (bb ((runS c lim).over))]) := by
 have hs := q86 c G.h12 G.v.lps.1
 obtain ⟨⟨y, e, σ⟩, k1, L, hL, k2, k3, k4, k5, k6⟩ := rsim_L (c := c) lim hlim lim (by show 0 + lim = lim; omega) (SInv.start G.v) (LOk.start c)
 simp only at k2 k3 k4 k5 k6
 subst k2; subst k4
 refine ⟨L, hL, ?_⟩
 unfold runS
 generalize start c = s0 at *
 rw [qbb, qy quf qtf]
 simp only [qk0, hs, k1, k3, k5, k6, qfb, qrb, qv, qcj, qa0, qn, Ev.exec, qb, qe, qc, qa2, qai, Ev.evs, Ev.Opnd.ev, Ev.Env.get, Ev.Env.set, Ev.look, qo, qk, qad, Ev.AV.cells, qw, Ev.AV.plain, qm, qab, qak, Ev.kill, qah, qs, Ev.keep, qae, qx, qd, Ev.SObj.lo, qa4, qbc, qu, qbq, qfw, qj, qh, qac, qan, qap, ↓qr, ↓qar, ↓reduceIte, zga, zgb, zgd, zge, zgc, zgo, zfe, zgf, zgg, List.drop_nil, zgm, zgl, zgn, zgj, zgk, Nat.reduceAdd, Nat.reduceEqDiff, Nat.reduceLT, reduceCtorEq, zgv, zfc, zgx, ne_eq, zfb, zff, zfd, zgu, Nat.le_refl, zgy]
end
set_option maxRecDepth 10000
def qet (n : Nat) (l : List Evt) : List (List Evt) := (List.range n).map fun i => sortL (qcy l i)
theorem q61 (l : List Evt) (k : Nat) (e : Evt) (i : Nat) (h : l[k]? = some e) : qcy (l.take (k + 1)) i = if e.lp = i then qcy (l.take k) i ++ [e] else qcy (l.take k) i := by
 rw [List.take_add_one, h]; exact qrw _ _ _
theorem q8e {l : List Evt} (h : qsh l) (i : Nat) : qsh (qcy l i) := h.sub List.filter_sublist
section
variable (l : List Evt) (cl : Bool)
theorem qaa2 (hl : l.length ≤ 1000000) (hk : qct l) (hd : qsh l) (i n : Nat) (R : List (List AV)) (g : Nat) (hlo : qh2 1 R = true) :
  ∃ y, itB (exec (evL T) itL none qhg) (qs [0, 1, 5, 6, 7, 8] true 1) ⟨[(0, (ii n)), (1, (.fsl ((l).map Evt.r) cl)), (5, .sl 0 g 0 R.length false), (6, (ii i)), (7, .fsl [] true), (8, (ii ((0 : Nat))))], []⟩ [.row 1 R g] = some y ∧
   ∃ cf : Bool, y.1 = .exit 2 ∧ y.2.1.marks = [] ∧ y.2.2 = [.row 1 R g] ∧ Ev.look y.2.1.vars 0 = some (ii n) ∧ Ev.look y.2.1.vars 1 = some (.fsl ((l).map Evt.r) cl) ∧ Ev.look y.2.1.vars 5 = some (.sl 0 g 0 R.length false) ∧ Ev.look y.2.1.vars 6 = some (ii i) ∧ Ev.look y.2.1.vars 7 = some (.fsl (((sortL (qcy l i))).map Evt.r) cf) := by
 have key := qfp (f := exec (evL T) itL none qhg) (s := qs [0, 1, 5, 6, 7, 8] true 1) (α := List Evt × Bool)
  (fun k a => ⟨[(0, (ii n)), (1, (.fsl ((l).map Evt.r) cl)), (5, .sl 0 g 0 R.length false), (6, (ii i)), (7, (.fsl ((a.1).map Evt.r) a.2)), (8, (ii k))], []⟩) (fun _ _ => [.row 1 R g]) (fun k a => a.1 = sortL (qcy (l.take k) i)) l.length
  (fun y => ∃ cf : Bool, y.1 = .exit 2 ∧ y.2.1.marks = [] ∧ y.2.2 = [.row 1 R g] ∧ Ev.look y.2.1.vars 0 = some (ii n) ∧ Ev.look y.2.1.vars 1 = some (.fsl ((l).map Evt.r) cl) ∧ Ev.look y.2.1.vars 5 = some (.sl 0 g 0 R.length false) ∧ Ev.look y.2.1.vars 6 = some (ii i) ∧ Ev.look y.2.1.vars 7 = some (.fsl (((sortL (qcy l i))).map Evt.r) cf)) ?_ ?_ 0 ([], true) (Nat.zero_le _) (by simp [sortL, qcy])
 ·exact key
 ·rintro k ⟨b, c⟩ hk' hb
  simp only at hb ⊢
  obtain ⟨e, he⟩ : ∃ e, l[k]? = some e := ⟨_, List.getElem?_eq_getElem hk'⟩
  have hk1 : (k : Int) < (l.length : Int) := by omega
  have hw : IntKind.i64.wrap ((k : Int) + 1) = ((k + 1 : Nat) : Int) := by rw [qax (by omega) (by omega)]; simp
  have ho := q61 l k e i he
  by_cases hi : e.lp = i
  ·rw [if_pos hi] at ho
   have sl : ∀ z ∈ qcy (l.take k) i, z ∈ l := fun z hz => List.mem_of_mem_take (List.mem_filter.1 hz).1
   have hds : qsh (qcy (l.take (k + 1)) i) := q8e (hd.sub (List.take_sublist _ _)) i
   rw [ho] at hds
   have pb := qdw (qcy (l.take k) i)
   have hd2 : qsh (e :: b) := by rw [hb]; exact hds.perm ((pb.cons e).trans (List.perm_append_singleton e _).symm)
   have hbl : b.length ≤ 1000000 := by
    rw [hb, qv5]
    have := List.length_filter_le (fun e : Evt => decide (e.lp = i)) (l.take k)
    have := List.length_take_le' k l
    unfold qcy; omega
   have hI := q01 b c e hbl (fun z hz => hk z (sl z (pb.mem_iff.1 (by rw [← hb]; exact hz)))) (hk e (List.mem_of_getElem? he)) (by rw [hb]; exact qfn _) hd2
   have hse : sortL (e :: b) = sortL (qcy (l.take k) i ++ [e]) := q2e hds (by rw [hb]; exact (pb.cons e).trans (List.perm_append_singleton e _).symm)
   refine .inl ⟨(sortL (e :: b), false), ?_, by simp only; rw [ho, hse]⟩
   clear hse hd2 hds ho hb
   obtain ⟨et, ek, el, ei, ep, ea⟩ := e
   simp only at hi
   subst hi
   simp only at hI
   generalize sortL (⟨et, ek, (i : Int), ei, ep, ea⟩ :: b) = B at *
   simp only [qhg, zgs, zgr, zgq, zgt, he, hk1, hw, hI, hlo, Evt.r, qv, qag, Ev.exec, qb, qe, qc, qa2, qai, Ev.evs, Ev.Opnd.ev, Ev.Env.get, Ev.Env.set, Ev.look, qk, qad, qaf, qaj, ql, qs, Ev.keep, qae, qx, qd, Ev.SObj.lo, qa4, qbc, qu, qbm, qj, qh, zgi, ↓qr, Ev.it1, ↓reduceIte, zga, zgb, zgc, zfe, zgf, zgg, zgh, Nat.reduceAdd, Nat.reduceEqDiff, reduceCtorEq, zgv, zfc, zfa, zgx, zfd, zgu, Nat.le_refl, zgy]
  ·rw [if_neg hi] at ho
   refine .inl ⟨(b, c), ?_, by simp only; rw [ho, hb]⟩
   obtain ⟨et, ek, el, ei, ep, ea⟩ := e
   simp only at hi
   simp only [qhg, zgs, zgr, zgq, zgt, he, hk1, hw, hi, hlo, Evt.r, qv, Ev.exec, qb, qe, qc, qai, Ev.Opnd.ev, Ev.Env.get, Ev.Env.set, Ev.look, qk, qad, qaf, qaj, ql, qs, Ev.keep, qae, qx, qd, Ev.SObj.lo, qa4, qu, qbm, zgi, ↓qr, Ev.it1, ↓reduceIte, zga, zgb, zgc, zfe, zgf, zgg, zgh, Nat.reduceAdd, Nat.reduceEqDiff, reduceCtorEq, zgv, zgw, zfc, zfa, zgx, zfd, zgu, zgy]
 ·rintro ⟨b, c⟩ hb
  simp only [List.take_length] at hb ⊢
  simp only [qhg, Int.lt_irrefl, Ev.exec, qb, qe, qc, qai, Ev.Opnd.ev, Ev.Env.get, Ev.Env.set, Ev.look, ql, zgi, ↓qr, Ev.it1, ↓reduceIte, Nat.reduceEqDiff, reduceCtorEq, zgw, zfa, zgy]
  exact ⟨_, rfl, c, rfl, rfl, rfl, rfl, rfl, rfl, rfl, by rw [← hb]; rfl⟩
theorem q9n (n : Nat) (hn : n ≤ 8) (hl : l.length ≤ 1000000) (hk : qct l) (hd : qsh l) : qbb (evL T) qit [(ii n), (.fsl ((l).map Evt.r) cl)] = some (.fsl (((qet n l)).map qbn) false) := by
 have hL : ∃ y, itB (exec (evL T) itL none qjd) (qs [0, 1, 5, 6] true 1) ⟨[(0, (ii n)), (1, (.fsl ((l).map Evt.r) cl)), (5, .sl 0 0 0 0 false), (6, (ii ((0 : Nat))))], []⟩ [.row 1 [] 0] = some y ∧
   ∃ g : Nat, y.1 = .exit 0 ∧ y.2.1.marks = [] ∧ y.2.2 = [.row 1 ((qet n l).map qbn) g] ∧ Ev.look y.2.1.vars 5 = some (.sl 0 g 0 n false) := by
  have key := qfp (f := exec (evL T) itL none qjd) (s := qs [0, 1, 5, 6] true 1) (α := Nat)
   (fun i a => ⟨[(0, (ii n)), (1, (.fsl ((l).map Evt.r) cl)), (5, .sl 0 a 0 i false), (6, (ii i))], []⟩) (fun i a => [.row 1 ((qet i l).map qbn) a]) (fun i a => True) n
   (fun y => ∃ g : Nat, y.1 = .exit 0 ∧ y.2.1.marks = [] ∧ y.2.2 = [.row 1 ((qet n l).map qbn) g] ∧ Ev.look y.2.1.vars 5 = some (.sl 0 g 0 n false)) ?_ ?_ 0 0 (Nat.zero_le _) trivial
  ·exact key
  ·rintro i g hi _
   have hbl : ((qet i l).map qbn).length = i := by simp [qet]
   obtain ⟨⟨y, e, σ⟩, k1, cf, k2, k3, k4, k5, k6, k7, k8, k9⟩ := qaa2 l cl hl hk hd i n ((qet i l).map qbn) g (qfb _ _)
   simp only [Int.ofNat_zero, hbl] at k1 k2 k3 k4 k5 k6 k7 k8 k9
   subst k2; subst k4
   have hi' : (i : Int) < (n : Int) := by omega
   have hi8 : (i : Int) < 8 := by omega
   have hw : IntKind.i64.wrap ((i : Int) + 1) = ((i + 1 : Nat) : Int) := by rw [qax (by omega) (by omega)]; simp
   have hnx : (qet (i + 1) l).map qbn = (qet i l).map qbn ++ [[(.fsl (((sortL (qcy l i))).map Evt.r) false)]] := by unfold qet; rw [List.range_succ]; simp [qbn]
   have lo := qfb 1 (qet (i + 1) l)
   have lo0 := qfb 1 (qet i l)
   rw [hnx] at lo
   have tk : List.take i ((qet i l).map qbn) = (qet i l).map qbn := List.take_of_length_le (by omega)
   have bd : (i + 1) * 24 ≤ 140737488355328 := by omega
   have hle : i ≤ i := Nat.le_refl _
   refine .inl ⟨g + 1, ?_, trivial⟩
   rw [hnx]
   generalize (qet i l).map qbn = R at *
   simp only [qjd, hi', hi8, hw, k1, k3, k5, k6, k7, k8, k9, lo, lo0, tk, bd, hbl, hle, qv, Ev.exec, qb, qe, qc, qai, qnu, Ev.Opnd.ev, Ev.Env.get, Ev.Env.set, Ev.look, qb0, qf4, Ev.AV.cells, Ev.AV.uc, qw, Ev.AV.plain, qaf, ql, qs, Ev.keep, qae, qx, qd, Ev.SObj.lo, qa4, qu, qbm, qac, qbl, qa9, List.replicate_one, ↓qr, ↓qar, Ev.it1, ↓reduceIte, zga, zgb, zgd, zgc, zfe, zgj, Nat.reduceEqDiff, Nat.reduceMul, Nat.reduceLeDiff, Nat.reducePow, reduceCtorEq, zgv, zfc, zgx, ne_eq, zfb, zff, zfd, zgu, zgy]
  ·rintro g _
   simp only [qjd, Int.lt_irrefl, Ev.exec, qb, qe, qc, qai, Ev.Opnd.ev, Ev.Env.get, Ev.Env.set, Ev.Env.unset, Ev.look, ql, ↓qr, Ev.it1, ↓reduceIte, Nat.reduceEqDiff, reduceCtorEq, zgw, zfa, zgy]
   exact ⟨_, rfl, g, rfl, rfl, rfl, rfl⟩
 obtain ⟨⟨y, e, σ⟩, k1, g, k2, k3, k4, k5⟩ := hL
 simp only [Int.ofNat_zero] at k1 k2 k3 k4 k5
 subst k2; subst k4
 have hbl : (qet n l).length = n := by simp [qet]
 have tk : List.take n ((qet n l).map qbn) = (qet n l).map qbn := List.take_of_length_le (by simp [hbl])
 have hle : n ≤ n := Nat.le_refl _
 rw [qbb, qy q0c qwr]
 simp only [qmy, k1, k3, k5, tk, hbl, hle, qv, qfb, zgi, qn, Ev.exec, qb, qe, qc, qai, Ev.Opnd.ev, Ev.Env.get, Ev.Env.set, Ev.look, qo, qm, qab, qak, Ev.kill, qah, qs, Ev.keep, qae, qx, qd, Ev.SObj.lo, qa4, qu, qbm, qac, qgk, qfa, zgi, ↓qr, ↓qar, ↓reduceIte, zga, zgb, zgd, zgc, zgo, zfe, zgg, zgl, Nat.reduceAdd, Nat.reduceEqDiff, Nat.reduceLT, reduceCtorEq, zgv, zgw, zfc, zfa, zgx, and_true, zfd, zgu, zgy]
end
theorem Quick_ev (c : Cfg) : ∃ b : Bool, qbb (evL T) qiv [(.agg [(.fsl ((c.lps).map lpC) false), (.fsl ((c.progs).map qc2) false), (ii c.look), (ii c.fin), (ii c.cap)])] = some (bb b) ∧ (b = true → okB c = true ∧ c.look ≤ 8 ∧ c.lps.length ≤ 4) := by
 have hg := q0u c
 have hr := q0m c
 rw [qbb, qy qyu qwo]
 by_cases h1 : qse c = true
 ·rw [h1] at hg
  exact ⟨false, by simp only [qgp, hg, qcj, qa0, qn, Ev.exec, qb, qe, qc, qa2, qai, Ev.evs, Ev.Opnd.ev, Ev.Env.get, Ev.Env.set, Ev.Env.unset, Ev.look, qo, qk, qad, Ev.AV.cells, qw, Ev.AV.plain, qm, qab, qak, Ev.kill, qah, qd, qa4, qbc, qu, qj, qh, qap, ↓qr, ↓reduceIte, zga, zgb, zgc, zfe, Nat.reduceAdd, Nat.reduceEqDiff, zfc, Bool.true_eq_false, zgx, ne_eq, zfb, zff, zfd, Nat.le_refl, zgy], fun h => by cases h⟩
 simp only [Bool.not_eq_true] at h1
 rw [h1] at hg
 by_cases h2 : q7h c = 0
 case neg => exact ⟨false, by simp only [qgp, hg, hr, h2, qcj, qa0, qn, Ev.exec, qb, qe, qc, qa2, qai, Ev.evs, Ev.Opnd.ev, Ev.Env.get, Ev.Env.set, Ev.Env.unset, Ev.look, qo, qk, qad, Ev.AV.cells, qw, Ev.AV.plain, qb6, qm, qab, qak, Ev.kill, qah, qd, qa4, qbc, qu, qj, qh, qap, ↓qr, ↓reduceIte, zga, zgb, zgc, zfe, Nat.reduceAdd, Nat.reduceEqDiff, zgv, zfc, zfa, Bool.true_eq_false, zgx, ne_eq, zfb, zff, zfd, Nat.le_refl, zgy], fun h => by cases h⟩
 rw [h2] at hr
 by_cases h3 : c.look > 8
 ·exact ⟨false, by simp only [qgp, hg, hr, h3, qcj, qa0, qn, Ev.exec, qb, qe, qc, qa2, qai, Ev.evs, Ev.Opnd.ev, Ev.Env.get, Ev.Env.set, Ev.Env.unset, Ev.look, qo, qk, qad, Ev.AV.cells, qw, Ev.AV.plain, qb6, qaq, qm, qab, qak, Ev.kill, qah, qd, qa4, qbc, qu, qj, qh, qap, ↓qr, ↓reduceIte, zga, zgb, zgc, zfe, zgf, zgg, zgh, Nat.reduceAdd, Nat.reduceEqDiff, zgv, zgw, zfc, zfa, Bool.true_eq_false, zgx, ne_eq, zfb, not_true_eq_false, zff, zfd, Nat.le_refl, zgy], fun h => by cases h⟩
 by_cases h4 : (c.lps.length : Int) > 4
 ·exact ⟨false, by simp only [qgp, hg, hr, h3, h4, qcj, qa0, qn, Ev.exec, qb, qe, qc, qa2, qai, Ev.evs, Ev.Opnd.ev, Ev.Env.get, Ev.Env.set, Ev.look, qo, qk, qad, Ev.AV.cells, qw, Ev.AV.plain, qb6, qaq, qm, qab, qak, Ev.kill, qah, qd, qa4, qbc, qu, qj, qh, qap, zgi, ↓qr, ↓reduceIte, zga, zgb, zgc, zfe, zgf, zgg, zgh, Nat.reduceAdd, Nat.reduceEqDiff, zgv, zgw, zfc, zfa, zgx, ne_eq, zfb, not_true_eq_false, zff, zfd, Nat.le_refl, zgy], fun h => by cases h⟩
 have hok : okB c = true ∧ c.look ≤ 8 ∧ c.lps.length ≤ 4 := ⟨by unfold okB; rw [h1, h2]; rfl, by omega, by omega⟩
 obtain ⟨s1, s2, s3, s4⟩ := qxr c h1
 have hL1 : ∃ y, itB (exec (evL T) itL none qji) (qs [1, 3, 4, 5] true 0) ⟨[(1, (.fptr [(.fsl ((c.lps).map lpC) false), (.fsl ((c.progs).map qc2) false), (ii c.look), (ii c.fin), (ii c.cap)])), (3, (ii 0)), (4, (ii 0)), (5, (ii ((0 : Nat))))], []⟩ [] = some y ∧ ∃ a : Int, y.1 = .exit 0 ∧ y.2.1.marks = [] ∧ y.2.2 = [] ∧ Ev.look y.2.1.vars 1 = some (.fptr [(.fsl ((c.lps).map lpC) false), (.fsl ((c.progs).map qc2) false), (ii c.look), (ii c.fin), (ii c.cap)]) ∧ Ev.look y.2.1.vars 3 = some (ii a) ∧ Ev.look y.2.1.vars 4 = some (ii 0) := by
  have key := qfp (f := exec (evL T) itL none qji) (s := qs [1, 3, 4, 5] true 0) (α := Int) (fun i a => ⟨[(1, (.fptr [(.fsl ((c.lps).map lpC) false), (.fsl ((c.progs).map qc2) false), (ii c.look), (ii c.fin), (ii c.cap)])), (3, (ii a)), (4, (ii 0)), (5, (ii i))], []⟩) (fun _ _ => []) (fun _ _ => True) c.lps.length
   (fun y => ∃ a : Int, y.1 = .exit 0 ∧ y.2.1.marks = [] ∧ y.2.2 = [] ∧ Ev.look y.2.1.vars 1 = some (.fptr [(.fsl ((c.lps).map lpC) false), (.fsl ((c.progs).map qc2) false), (ii c.look), (ii c.fin), (ii c.cap)]) ∧ Ev.look y.2.1.vars 3 = some (ii a) ∧ Ev.look y.2.1.vars 4 = some (ii 0)) ?_ ?_ 0 0 (Nat.zero_le _) trivial
  ·exact key
  ·rintro i a hi _
   obtain ⟨x, hx⟩ : ∃ x, c.lps[i]? = some x := ⟨_, List.getElem?_eq_getElem hi⟩
   have hi' : (i : Int) < (c.lps.length : Int) := by omega
   have hw : IntKind.i64.wrap ((i : Int) + 1) = ((i + 1 : Nat) : Int) := by rw [qax (by omega) (by omega)]; simp
   refine .inl ⟨IntKind.i64.wrap (a + (x.length : Int)), ?_, trivial⟩
   simp only [qji, zgs, zgr, zgq, zgt, hx, hi', hw, lpC, qcj, qa0, Ev.exec, qb, qe, qc, qai, Ev.Opnd.ev, Ev.Env.get, Ev.Env.set, Ev.look, qk, qad, qaf, ql, qs, Ev.keep, qae, qx, qd, qa4, qu, qbq, qj, qh, zgi, ↓qr, Ev.it1, ↓reduceIte, zga, zgb, zfe, zgg, zgh, Nat.reduceEqDiff, zgv, zfc, zfa, zgx, zfd, zgy]
  ·rintro a _
   simp only [qji, Int.lt_irrefl, Ev.exec, qb, qe, qc, qai, Ev.Opnd.ev, Ev.Env.get, Ev.Env.set, Ev.look, qk, qad, ql, zgi, ↓qr, Ev.it1, ↓reduceIte, zgg, zgh, Nat.reduceEqDiff, zgw, zfa, zgy]
   exact ⟨_, rfl, a, rfl, rfl, rfl, rfl, rfl, rfl⟩
 have hL3 : ∀ (i : Nat) (p : List OpI) (a b : Int), c.progs[i]? = some p → ∃ y, itB (exec (evL T) itL none qhd) (qs [1, 3, 4, 6, 7] true 0) ⟨[(1, (.fptr [(.fsl ((c.lps).map lpC) false), (.fsl ((c.progs).map qc2) false), (ii c.look), (ii c.fin), (ii c.cap)])), (3, (ii a)), (4, (ii b)), (6, (ii i)), (7, (ii ((0 : Nat))))], []⟩ [] = some y ∧ ∃ b : Int, y.1 = .exit 4 ∧ y.2.1.marks = [] ∧ y.2.2 = [] ∧ Ev.look y.2.1.vars 1 = some (.fptr [(.fsl ((c.lps).map lpC) false), (.fsl ((c.progs).map qc2) false), (ii c.look), (ii c.fin), (ii c.cap)]) ∧ Ev.look y.2.1.vars 3 = some (ii a) ∧ Ev.look y.2.1.vars 4 = some (ii b) ∧ Ev.look y.2.1.vars 6 = some (ii i) := by
  intro i p a b hp
  have key := qfp (f := exec (evL T) itL none qhd) (s := qs [1, 3, 4, 6, 7] true 0) (α := Int) (fun k b => ⟨[(1, (.fptr [(.fsl ((c.lps).map lpC) false), (.fsl ((c.progs).map qc2) false), (ii c.look), (ii c.fin), (ii c.cap)])), (3, (ii a)), (4, (ii b)), (6, (ii i)), (7, (ii k))], []⟩) (fun _ _ => []) (fun _ _ => True) p.length
   (fun y => ∃ b : Int, y.1 = .exit 4 ∧ y.2.1.marks = [] ∧ y.2.2 = [] ∧ Ev.look y.2.1.vars 1 = some (.fptr [(.fsl ((c.lps).map lpC) false), (.fsl ((c.progs).map qc2) false), (ii c.look), (ii c.fin), (ii c.cap)]) ∧ Ev.look y.2.1.vars 3 = some (ii a) ∧ Ev.look y.2.1.vars 4 = some (ii b) ∧ Ev.look y.2.1.vars 6 = some (ii i)) ?_ ?_ 0 b (Nat.zero_le _) trivial
  ·exact key
  ·rintro k b hk _
   obtain ⟨x, hx⟩ : ∃ x, p[k]? = some x := ⟨_, List.getElem?_eq_getElem hk⟩
   have := s4 p (List.mem_of_getElem? hp)
   have hk' : (k : Int) < (p.length : Int) := by omega
   have hw : IntKind.i64.wrap ((k : Int) + 1) = ((k + 1 : Nat) : Int) := by rw [qax (by omega) (by omega)]; simp
   obtain ⟨xc, xa, xb, xd⟩ := x
   by_cases h : xc = 2
   ·exact .inl ⟨IntKind.i64.wrap (b + 1), by simp only [qhd, zgs, zgr, zgq, zgt, hp, hx, hk', hw, h, qc2, OpI.r, qcj, qa0, Ev.exec, qb, qe, qc, qai, Ev.Opnd.ev, Ev.Env.get, Ev.Env.set, Ev.look, qk, qad, qaf, qaj, ql, qs, Ev.keep, qae, qx, qd, qa4, qu, qbq, qj, qh, zgi, ↓qr, Ev.it1, ↓reduceIte, zga, zgb, zfe, zgf, zgg, zgh, Nat.reduceAdd, Nat.reduceEqDiff, zgv, zfc, zfa, zgx, zfd, zgy], trivial⟩
   ·exact .inl ⟨b, by simp only [qhd, zgs, zgr, zgq, zgt, hp, hx, hk', hw, h, qc2, OpI.r, qcj, qa0, Ev.exec, qb, qe, qc, qai, Ev.Opnd.ev, Ev.Env.get, Ev.Env.set, Ev.look, qk, qad, qaf, qaj, ql, qs, Ev.keep, qae, qx, qd, qa4, qu, qbq, qj, qh, zgi, ↓qr, Ev.it1, ↓reduceIte, zga, zgb, zfe, zgf, zgg, zgh, Nat.reduceAdd, Nat.reduceEqDiff, zgv, zgw, zfc, zfa, zgx, zfd, zgy], trivial⟩
  ·rintro b _
   simp only [qhd, zgs, zgr, zgq, zgt, hp, Int.lt_irrefl, qc2, Ev.exec, qb, qe, qc, qai, Ev.Opnd.ev, Ev.Env.get, Ev.Env.set, Ev.look, qk, qad, ql, zgi, ↓qr, Ev.it1, ↓reduceIte, zga, zgb, zgf, zgg, zgh, Nat.reduceEqDiff, zgw, zfa, zfd, zgy]
   exact ⟨_, rfl, b, rfl, rfl, rfl, rfl, rfl, rfl, rfl⟩
 have hL2 : ∀ a : Int, ∃ y, itB (exec (evL T) itL none qjb) (qs [1, 3, 4, 6] true 0) ⟨[(1, (.fptr [(.fsl ((c.lps).map lpC) false), (.fsl ((c.progs).map qc2) false), (ii c.look), (ii c.fin), (ii c.cap)])), (3, (ii a)), (4, (ii 0)), (6, (ii ((0 : Nat))))], []⟩ [] = some y ∧ ∃ b : Int, y.1 = .exit 2 ∧ y.2.1.marks = [] ∧ y.2.2 = [] ∧ Ev.look y.2.1.vars 3 = some (ii a) ∧ Ev.look y.2.1.vars 4 = some (ii b) := by
  intro a
  have key := qfp (f := exec (evL T) itL none qjb) (s := qs [1, 3, 4, 6] true 0) (α := Int) (fun i b => ⟨[(1, (.fptr [(.fsl ((c.lps).map lpC) false), (.fsl ((c.progs).map qc2) false), (ii c.look), (ii c.fin), (ii c.cap)])), (3, (ii a)), (4, (ii b)), (6, (ii i))], []⟩) (fun _ _ => []) (fun _ _ => True) c.progs.length
   (fun y => ∃ b : Int, y.1 = .exit 2 ∧ y.2.1.marks = [] ∧ y.2.2 = [] ∧ Ev.look y.2.1.vars 3 = some (ii a) ∧ Ev.look y.2.1.vars 4 = some (ii b)) ?_ ?_ 0 0 (Nat.zero_le _) trivial
  ·exact key
  ·rintro i b hi _
   obtain ⟨x, hx⟩ : ∃ x, c.progs[i]? = some x := ⟨_, List.getElem?_eq_getElem hi⟩
   have hi' : (i : Int) < (c.progs.length : Int) := by omega
   have hw : IntKind.i64.wrap ((i : Int) + 1) = ((i + 1 : Nat) : Int) := by rw [qax (by omega) (by omega)]; simp
   obtain ⟨⟨y, e, σ⟩, k1, b', k2, k3, k4, k5, k6, k7, k8⟩ := hL3 i x a b hx
   simp only [Int.ofNat_zero] at k1 k2 k3 k4 k5 k6 k7 k8
   subst k2; subst k4
   refine .inl ⟨b', ?_, trivial⟩
   simp only [qjb, hi', hw, k1, k3, k5, k6, k7, k8, qcj, qa0, Ev.exec, qb, qe, qc, qai, Ev.Opnd.ev, Ev.Env.get, Ev.Env.set, Ev.look, qk, qad, qaf, ql, qs, Ev.keep, qae, qx, qd, qa4, qu, qbq, qj, qh, zgi, ↓qr, ↓qar, Ev.it1, ↓reduceIte, zgb, zfe, zgf, zgg, zgh, Nat.reduceEqDiff, zgv, zfc, zfa, zgx, zgy]
  ·rintro b _
   simp only [qjb, Int.lt_irrefl, Ev.exec, qb, qe, qc, qai, Ev.Opnd.ev, Ev.Env.get, Ev.Env.set, Ev.look, qk, qad, ql, zgi, ↓qr, Ev.it1, ↓reduceIte, zgf, zgg, zgh, Nat.reduceEqDiff, zgw, zfa, zgy]
   exact ⟨_, rfl, b, rfl, rfl, rfl, rfl, rfl⟩
 obtain ⟨⟨y, e, σ⟩, k1, a, k2, k3, k4, k5, k6, k7⟩ := hL1
 obtain ⟨⟨y', e', σ'⟩, m1, b, m2, m3, m4, m5, m6⟩ := hL2 a
 simp only [Int.ofNat_zero] at k1 k2 k3 k4 k5 k6 k7 m1 m2 m3 m4 m5 m6
 subst k2; subst k4; subst m2; subst m4
 by_cases h5 : a ≤ 6
 ·exact ⟨decide (b ≤ 6), by simp only [qgp, hg, hr, h3, h4, h5, k1, k3, k5, k6, k7, m1, m3, m5, m6, qcj, qa0, qn, Ev.exec, qb, qe, qc, qa2, qai, Ev.evs, Ev.Opnd.ev, Ev.Env.get, Ev.Env.set, Ev.look, qo, qk, qad, Ev.AV.cells, qw, Ev.AV.plain, qb6, qml, qaq, qm, qab, qak, Ev.kill, qah, qs, Ev.keep, qae, qx, qd, qa4, qbc, qu, qbq, qj, qh, qap, zgi, ↓qr, ↓qar, ↓reduceIte, zga, zgb, zgc, zfe, zgf, zgg, zgh, Nat.reduceAdd, Nat.reduceEqDiff, zgv, zgw, zfc, zfa, zgx, ne_eq, zfb, not_true_eq_false, zff, zfd, Nat.le_refl, zgy], fun _ => hok⟩
 ·exact ⟨false, by simp only [qgp, hg, hr, h3, h4, h5, k1, k3, k5, k6, k7, m1, m3, m5, qcj, qa0, qn, Ev.exec, qb, qe, qc, qa2, qai, Ev.evs, Ev.Opnd.ev, Ev.Env.get, Ev.Env.set, Ev.Env.unset, Ev.look, qo, qk, qad, Ev.AV.cells, qw, Ev.AV.plain, qb6, qml, qaq, qm, qab, qak, Ev.kill, qah, qs, Ev.keep, qae, qx, qd, qa4, qbc, qu, qbq, qj, qh, qap, zgi, ↓qr, ↓qar, ↓reduceIte, zga, zgb, zgc, zfe, zgf, zgg, zgh, Nat.reduceAdd, Nat.reduceEqDiff, zgw, zfc, zfa, zgx, ne_eq, zfb, not_true_eq_false, zff, zfd, Nat.le_refl, zgy], fun _ => hok⟩
set_option maxRecDepth 10000
section
variable {c : Cfg} {i : Nat} {w : WSt} {O : List Evt} {S : Sim} {H : List Evt} {f hor : Int}
structure WTime (c : Cfg) (i : Nat) (f hor : Int) (w : WSt) : Prop where
 box : ∀ e ∈ w.box, f ≤ e.time
 done : ∀ e ∈ w.done, f ≤ e.time ∧ e.time < hor ∧ e.lp = i
 sent : ∀ e ∈ w.sent, f + c.look ≤ e.time ∧ e.lp ≠ i ∧ 0 ≤ e.lp ∧ e.lp < c.lps.length
theorem q8n (j : Int) : ∀ (l : List Evt) (p : List Evt × List Evt), ∀ e ∈ (qfo j p l).1, e ∈ p.1 ∨ e ∈ l := fun l p e he => by
 have h := (qpy j l p []).mem_iff (a := e)
 have hs := qsv j l p
 rw [List.append_nil, List.append_nil] at h
 have := h.1 (List.mem_append_left _ he)
 simp only [List.mem_append] at this
 rcases this with h1 | h1 | h1
 ·exact .inl h1
 ·-- an element of p.2: counted on the right already
  exact (placeB_mem_aux j l p e he).elim .inl .inr
 ·exact .inr h1
where
 placeB_mem_aux (j : Int) : ∀ (l : List Evt) (p : List Evt × List Evt) (e : Evt), e ∈ (qfo j p l).1 → e ∈ p.1 ∨ e ∈ l
  | [], p, e, h => .inl h
  | n :: l, p, e, h => by
   rcases placeB_mem_aux j l (qmo j p n) e h with h | h
   ·unfold qmo at h
    split at h
    ·rcases List.mem_cons.1 ((qdw _).mem_iff.1 h) with h | h
     ·exact .inr (by simp [h])
     ·exact .inl h
    ·exact .inl h
   ·exact .inr (List.mem_cons_of_mem _ h)
theorem WTime.step (h : WTime c i f hor w) {e : Evt} {rest : List Evt} (hb : w.box = e :: rest) (ht : e.time < hor) (hl : e.lp = i) (R : Ready c w.lp e) : WTime c i f hor (w.step c e rest) := by
 obtain ⟨X, _, o1, _⟩ := R.outs
 have fe := h.box e (by rw [hb]; simp)
 have out : ∀ n ∈ (qbp c w.lp e).out, ∃ k, EvOk c e X k n := fun n hn => by
  obtain ⟨k, hk⟩ := List.mem_iff_getElem?.1 hn
  exact ⟨k, o1 k n hk⟩
 refine ⟨fun n hn => ?_, fun n hn => ?_, fun n hn => ?_⟩
 ·have := (qpq _ _).subset hn
  rcases q8n _ _ _ n this with h1 | h1
  ·exact h.box n (by rw [hb]; exact List.mem_cons_of_mem _ h1)
  ·obtain ⟨k, hk⟩ := out n h1; have := hk.time; omega
 ·rcases List.mem_append.1 hn with hn | hn
  ·exact h.done n hn
  ·rw [List.mem_singleton] at hn; subst hn; exact ⟨fe, ht, hl⟩
 ·change n ∈ (qfo e.lp (rest, w.sent) (qbp c w.lp e).out).2 at hn
  rw [qsv] at hn
  rcases List.mem_append.1 hn with hn | hn
  ·exact h.sent n hn
  ·rw [List.mem_filter] at hn
   obtain ⟨h1, h2⟩ := hn
   simp only [Bool.not_eq_true', decide_eq_false_iff_not] at h2
   obtain ⟨k, a1, a2, a3, a4⟩ := out n h1
   have k3 : n.kind = 3 := Classical.byContradiction fun k3 => h2 (a4 k3).1
   obtain ⟨m1, m2, m3, m4⟩ := a3 k3
   exact ⟨by omega, by rw [← hl]; exact h2, m1, m2⟩
theorem WTime.run : ∀ (k : Nat) {w : WSt} {S : Sim} {H : List Evt}, WTime c i f hor w → WInv c i w O S H → H.length + k ≤ 20000 → WTime c i f hor (WSt.run c hor k w)
 | 0, w, S, H, h, _, _ => h
 | k + 1, w, S, H, h, hI, hk => by
  unfold WSt.run
  split
  ·exact h
  next e rest hb =>
   split
   next ht =>
    obtain ⟨h1, R, _⟩ := hI.ready (by omega) hb
    obtain ⟨S', g1, _⟩ := hI.step (by omega) hb
    exact WTime.run k (h.step hb ht h1 R) g1 (by simp; omega)
   ·exact h
theorem q93 (c : Cfg) (hor : Int) : ∀ (k : Nat) (w : WSt), (WSt.run c hor k w).done.length = w.done.length + k ∨ ((WSt.run c hor k w).done.length ≤ w.done.length + k ∧ ((WSt.run c hor k w).box = [] ∨ ∃ e r, (WSt.run c hor k w).box = e :: r ∧ hor ≤ e.time))
 | 0, w => .inl rfl
 | k + 1, w => by
  unfold WSt.run
  split
  next hb => exact .inr ⟨by omega, .inl hb⟩
  next e rest hb =>
   split
   ·have hl : (w.step c e rest).done.length = w.done.length + 1 := by simp [WSt.step]
    rcases q93 c hor k (w.step c e rest) with h | ⟨h1, h2⟩
    ·exact .inl (by omega)
    ·exact .inr ⟨by omega, h2⟩
   next ht => exact .inr ⟨by omega, .inr ⟨e, rest, hb, by omega⟩⟩
end
theorem qaah (r : List Int) (x : Int) : r.foldl qv0 x ≤ x ∧ (∀ y ∈ r, r.foldl qv0 x ≤ y) ∧ (r.foldl qv0 x = x ∨ r.foldl qv0 x ∈ r) := by
 induction r generalizing x with
 | nil => exact ⟨Int.le_refl _, fun y hy => by simp at hy, .inl rfl⟩
 | cons a r ih =>
  obtain ⟨h1, h2, h3⟩ := ih (qv0 x a)
  have hm : qv0 x a ≤ x ∧ qv0 x a ≤ a ∧ (qv0 x a = x ∨ qv0 x a = a) := by unfold qv0; split <;> omega
  simp only [List.foldl_cons]
  refine ⟨by omega, fun y hy => ?_, ?_⟩
  ·rcases List.mem_cons.1 hy with rfl | hy
   ·omega
   ·exact h2 y hy
  ·rcases h3 with h3 | h3
   ·rcases hm.2.2 with h4 | h4
    ·exact .inl (by omega)
    ·exact .inr (by rw [h3, h4]; simp)
   ·exact .inr (List.mem_cons_of_mem _ h3)
theorem q1l {bs : List (List Evt)} {t : Int} : t ∈ qme bs ↔ ∃ b ∈ bs, ∃ e r, b = e :: r ∧ e.time = t := by
 unfold qme
 simp only [List.mem_map, List.mem_filterMap]
 constructor
 ·rintro ⟨e, ⟨b, hb, hh⟩, rfl⟩
  cases b with
  | nil => simp at hh
  | cons x r => simp only [zgh, Option.some.injEq] at hh; subst hh; exact ⟨_, hb, x, r, rfl, rfl⟩
 ·rintro ⟨b, hb, e, r, rfl, rfl⟩
  exact ⟨e, ⟨_, hb, rfl⟩, rfl⟩
theorem qzr {bs : List (List Evt)} {f : Int} (h : qtn bs = some f) (hs : ∀ b ∈ bs, b.Pairwise leE) : (∀ b ∈ bs, ∀ e ∈ b, f ≤ e.time) ∧ ∃ b ∈ bs, ∃ e r, b = e :: r ∧ e.time = f := by
 unfold qtn at h
 split at h
 ·cases h
 next x r hf =>
  cases h
  obtain ⟨h1, h2, h3⟩ := qaah r x
  have all : ∀ t ∈ qme bs, r.foldl qv0 x ≤ t := fun t ht => by
   rw [hf] at ht
   rcases List.mem_cons.1 ht with rfl | ht
   ·exact h1
   ·exact h2 t ht
  refine ⟨fun b hb e he => ?_, ?_⟩
  ·cases b with
   | nil => simp at he
   | cons y q =>
    have := all y.time (q1l.2 ⟨_, hb, y, q, rfl, rfl⟩)
    rcases List.mem_cons.1 he with rfl | he
    ·exact this
    ·have := qyn ((List.pairwise_cons.1 (hs _ hb)).1 e he); omega
  ·refine q1l.1 ?_
   rw [hf]
   rcases h3 with h3 | h3
   ·rw [h3]; simp
   ·exact List.mem_cons_of_mem _ h3
structure StF (c : Cfg) (s : Sim) (h : List Evt) (L : List (Lp × Bool)) : Prop where
 inv : SInv c s h
 len : h.length ≤ 30
 lok : LOk L s
section
variable {c : Cfg} {s : Sim} {h : List Evt} {L : List (Lp × Bool)}
theorem StF.lL (F : StF c s h L) : L.length = c.lps.length := by
 have := congrArg List.length F.lok.1
 rw [List.length_map, F.inv.lpl] at this; exact this
theorem StF.at (F : StF c s h L) {i : Nat} (hi : i < c.lps.length) : ∃ x f, L[i]? = some (x, f) ∧ s.lps[i]? = some x ∧ (f = true → x.procs = []) := by
 obtain ⟨z, hz⟩ : ∃ z, L[i]? = some z := ⟨_, List.getElem?_eq_getElem (by rw [F.lL]; exact hi)⟩
 refine ⟨z.1, z.2, hz, by rw [← F.lok.1, List.getElem?_map, hz]; rfl, F.lok.2 z (List.mem_of_getElem? hz)⟩
theorem StF.dist (F : StF c s h L) : qsh s.pend := qlt.dist (List.pairwise_append.1 F.inv.keys).2.1
theorem StF.keysOk (F : StF c s h L) : qct s.pend := fun x hx => by have := (F.inv.ev x (List.mem_append_right _ hx)).key; have := F.len; omega
theorem StF.plen (F : StF c s h L) : s.pend.length ≤ 1000 := by have := F.inv.len; have := F.len; omega
theorem q3o (n : Nat) (l : List Evt) {i : Nat} (hi : i < n) : (qet n l)[i]? = some (sortL (qcy l i)) := by unfold qet; rw [List.getElem?_map, List.getElem?_range hi]; rfl
theorem q4k (n : Nat) (l : List Evt) : ∀ b ∈ qet n l, b.Pairwise leE := fun b hb => by
 simp only [qet, List.mem_map] at hb
 obtain ⟨i, _, rfl⟩ := hb
 exact qfn _
theorem q3k : ∀ (l : List Nat) (g k : Nat → List Evt), (∀ i, (g i).Perm (k i)) → (l.map g).flatten.Perm (l.map k).flatten
 | [], _, _, _ => .refl _
 | a :: l, g, k, h => by
  simp only [List.map_cons, List.flatten_cons]
  exact (h a).append (q3k l g k h)
theorem StF.flat (F : StF c s h L) : (qet c.lps.length s.pend).flatten.Perm s.pend :=
 (q3k _ _ (fun i => qcy s.pend i) fun i => qdw _).trans (own_perm fun e he => (F.inv.ev e (List.mem_append_right _ he)).lp)
theorem StF.winv (F : StF c s h L) {i : Nat} (hi : i < c.lps.length) {x : Lp} (hx : s.lps[i]? = some x) : WInv c i ⟨x, sortL (qcy s.pend i), [], [], false⟩ [] s h := by
 refine ⟨F.inv.toSInvK, hi, hx, ⟨s.pend.filter fun e => !decide (e.lp = i), ?_⟩, qfn _, fun b hb => by
  have := (qdw _).mem_iff.1 hb
  unfold qcy at this
  rw [List.mem_filter] at this; simpa using this.2⟩
 simp only [zgl]
 exact ((qdw _).append_right _).trans (List.filter_append_perm _ _)
theorem State_ev (G : Good c) (a : Int) (ha : 0 ≤ a ∧ a ≤ 255) : ∃ (s : Sim) (h : List Evt) (L : List (Lp × Bool)), StF c s h L ∧
  qbb (evL T) qi0 [(.agg [(.fsl ((c.lps).map lpC) false), (.fsl ((c.progs).map qc2) false), (ii c.look), (ii c.fin), (ii c.cap)]), (.v (.int .u8 a))] = some (.tup [(.fsl ((L).map lpF) false), (.fsl (((qet c.lps.length s.pend)).map qbn) false)]) := by
 obtain ⟨L, hL, hS⟩ := q5j G (a.toNat % 31) (by omega)
 obtain ⟨h, h1, h2, _⟩ := ran G.v (a.toNat % 31) (by omega)
 have F : StF c (runS c (a.toNat % 31)) h L := ⟨h1, by omega, hL⟩
 refine ⟨_, h, L, F, ?_⟩
 have hw : IntKind.i64.wrap a = a := qax (by omega) (by omega)
 have hr : a.tmod 31 = ((a.toNat % 31 : Nat) : Int) := by
  obtain ⟨n, rfl⟩ : ∃ n : Nat, a = n := ⟨a.toNat, by omega⟩
  rw [Int.tmod_eq_emod_of_nonneg (by omega)]; omega
 have h31 : ¬ (31 : Int) = 0 := by decide
 have hB := q9n (runS c (a.toNat % 31)).pend false c.lps.length G.v.lps.2 (by have := F.plen; omega) F.keysOk F.dist
 generalize runS c (a.toNat % 31) = s at *
 generalize qet c.lps.length s.pend = B at *
 rw [qbb, qy qxv qw6]
 simp only [qmx, hw, hr, h31, hS, hB, qrb, qfb, qv, qcj, qa0, qn, Ev.exec, qb, qe, qc, qa2, qai, Ev.evs, Ev.Opnd.ev, Ev.Env.get, Ev.Env.set, Ev.look, qo, qk, qad, Ev.AV.cells, qw, Ev.AV.plain, Ev.bin_rem, qm, qab, qak, Ev.kill, qah, qd, qa4, qbc, qa8, qu, qj, qh, qap, zgi, ↓qr, ↓reduceIte, zga, zgb, zgd, zgc, zgo, zfe, zgf, zgg, List.drop_nil, zgl, zgn, zgj, zgh, Nat.reduceAdd, Nat.reduceEqDiff, reduceCtorEq, zfc, zfa, zgx, ne_eq, zfb, zff, zfd, Nat.le_refl, zgy]
end
set_option maxRecDepth 100000
theorem q23 : qbb (evL T) qjx [] = some (bb true) := q8m 40 (by kernel_rfl)
theorem q5p (c : Cfg) : ∃ b : Bool, qbb (evL T) qlz [(.agg [(.fsl ((c.lps).map lpC) false), (.fsl ((c.progs).map qc2) false), (ii c.look), (ii c.fin), (ii c.cap)])] = some (bb b) ∧ (b = true → Good c ∧ 1 ≤ c.look ∧ c.look ≤ 8 ∧ 1 ≤ c.lps.length ∧ c.lps.length ≤ 4) := by
 obtain ⟨b, h1, h2⟩ := Quick_ev c
 refine ⟨b, ?_, fun hb => by
  obtain ⟨k1, k2, k3⟩ := h2 hb
  have G := good_of k1
  exact ⟨G, G.v.look, k2, G.v.lps.1, k3⟩⟩
 rw [qbb, qy q4h q2o]
 simp only [qrp, h1, qcj, qa0, qn, Ev.exec, qb, qe, qc, qa2, qai, Ev.evs, Ev.Opnd.ev, Ev.Env.get, Ev.Env.set, Ev.look, qo, qk, qad, Ev.AV.cells, qw, Ev.AV.plain, qm, qab, qak, Ev.kill, qah, qd, qa4, qbc, qu, qj, qh, qap, ↓qr, ↓reduceIte, zga, zgb, zgc, zfe, Nat.reduceAdd, Nat.reduceEqDiff, zfc, zgx, ne_eq, zfb, zff, zfd, Nat.le_refl, zgy]
set_option maxRecDepth 10000
set_option maxRecDepth 10000
def wAt (c : Cfg) (s : Sim) (hor : Int) (i : Nat) : WSt := WSt.run c hor 2000 ⟨qun s i, sortL (qcy s.pend i), [], [], false⟩
def qdz (c : Cfg) (s : Sim) (hor : Int) (n : Nat) : List (List Evt) := (List.range n).map fun i => (wAt c s hor i).box
def qee (c : Cfg) (s : Sim) (hor : Int) (n : Nat) : List (List Evt) := (List.range n).map fun i => (wAt c s hor i).sent
def q8w (s : Sim) (n : Nat) : List Evt := s.pend.filter fun e => decide ((n : Int) ≤ e.lp)
theorem qx9 (c : Cfg) (s : Sim) (hor : Int) (n : Nat) : qdz c s hor (n + 1) = qdz c s hor n ++ [(wAt c s hor n).box] := by unfold qdz; rw [List.range_succ, List.map_append]; rfl
theorem qy4 (c : Cfg) (s : Sim) (hor : Int) (n : Nat) : qee c s hor (n + 1) = qee c s hor n ++ [(wAt c s hor n).sent] := by unfold qee; rw [List.range_succ, List.map_append]; rfl
theorem q8v (s : Sim) (n : Nat) : (qcy s.pend n ++ q8w s (n + 1)).Perm (q8w s n) := by
 have e1 : qcy s.pend n = (q8w s n).filter (fun e : Evt => decide (e.lp = (n : Int))) := by
  unfold qcy q8w
  rw [List.filter_filter]
  refine List.filter_congr fun e _ => ?_
  rw [← Bool.decide_and]; refine decide_eq_decide.2 ?_; omega
 have e2 : q8w s (n + 1) = (q8w s n).filter (fun e : Evt => !decide (e.lp = (n : Int))) := by
  unfold q8w
  rw [List.filter_filter]
  refine List.filter_congr fun e _ => ?_
  rw [← decide_not, ← Bool.decide_and]; refine decide_eq_decide.2 ?_; omega
 rw [e1, e2]; exact List.filter_append_perm _ _
section
variable {c : Cfg} {s : Sim} {h : List Evt} {L : List (Lp × Bool)} (hor : Int)
structure Comb (c : Cfg) (s : Sim) (hor : Int) (n m : Nat) (S : Sim) (H : List Evt) : Prop where
 K : SInvK c S H
 len : H.length ≤ m + 2000 * n
 lps : ∀ j, n ≤ j → S.lps[j]? = s.lps[j]?
 sub : ∃ T, ((qdz c s hor n).flatten ++ ((qee c s hor n).flatten ++ (q8w s n ++ T))).Perm S.pend
theorem StF.comb (F : StF c s h L) : ∀ n, n ≤ c.lps.length → ∃ S H, Comb c s hor n 30 S H
 | 0, _ => ⟨s, h, F.inv.toSInvK, by have := F.len; omega, fun _ _ => rfl, [], by
  have : q8w s 0 = s.pend := List.filter_eq_self.2 fun e he => by have := (F.inv.ev e (List.mem_append_right _ he)).lp; simpa using this.1
  simp [qdz, qee, this]⟩
 | n + 1, hn => by
  obtain ⟨S, H, C⟩ := F.comb n (by omega)
  obtain ⟨T, hT⟩ := C.sub
  have hv8 := F.inv.valid.lps.2
  obtain ⟨x, xf, _, hx, _⟩ := F.at (i := n) (by omega)
  have hlp : qun s n = x := by unfold qun; rw [Int.toNat_natCast, hx]; rfl
  have W : WInv c n ⟨qun s n, sortL (qcy s.pend n), [], [], false⟩ ((qdz c s hor n).flatten ++ ((qee c s hor n).flatten ++ q8w s (n + 1))) S H := by
   refine ⟨C.K, by omega, by rw [C.lps n (Nat.le_refl _), hx, hlp], ⟨T, ?_⟩, qfn _, fun b hb => by
    have := (qdw _).mem_iff.1 hb
    unfold qcy at this; rw [List.mem_filter] at this; simpa using this.2⟩
   refine List.Perm.trans ?_ hT
   have p1 := qdw (qcy s.pend n)
   have p2 := q8v s n
   refine List.perm_iff_count.2 fun a => ?_
   have q1 := p1.count_eq a
   have q2 := p2.count_eq a
   simp only [List.count_append, List.count_nil] at q1 q2 ⊢
   omega
  obtain ⟨S', es, W', hd, hl, hel⟩ := WInv.run hor 2000 W (by have := C.len; omega)
  change WInv c n (wAt c s hor n) _ S' (H ++ es) at W'
  change S'.lps = S.lps.set n (wAt c s hor n).lp at hl
  obtain ⟨T', hT'⟩ := W'.sub
  refine ⟨S', H ++ es, W'.K, by have := C.len; simp; omega, fun j hj => by rw [hl, List.getElem?_set_ne (by omega)]; exact C.lps j (by omega), T', ?_⟩
  refine List.Perm.trans ?_ hT'
  rw [qx9, qy4]
  refine List.perm_iff_count.2 fun a => ?_
  simp only [List.flatten_append, List.flatten_cons, List.flatten_nil, zgn, List.count_append]
  omega
structure WinF (c : Cfg) (s : Sim) (hor : Int) : Prop where
 keys : qlt ((qdz c s hor c.lps.length).flatten ++ (qee c s hor c.lps.length).flatten)
 len : ((qdz c s hor c.lps.length).flatten ++ (qee c s hor c.lps.length).flatten).length ≤ 300000
 kok : qct ((qdz c s hor c.lps.length).flatten ++ (qee c s hor c.lps.length).flatten)
 rng : ∀ e ∈ (qdz c s hor c.lps.length).flatten ++ (qee c s hor c.lps.length).flatten, 0 ≤ e.lp ∧ e.lp < c.lps.length
theorem StF.winF (F : StF c s h L) : WinF c s hor := by
 obtain ⟨S, H, C⟩ := F.comb hor c.lps.length (Nat.le_refl _)
 obtain ⟨T, hT⟩ := C.sub
 have hv8 := F.inv.valid.lps.2
 have hH : H.length ≤ 16030 := by have := C.len; omega
 have sub : ((qdz c s hor c.lps.length).flatten ++ (qee c s hor c.lps.length).flatten).Sublist ((qdz c s hor c.lps.length).flatten ++ ((qee c s hor c.lps.length).flatten ++ (q8w s c.lps.length ++ T))) :=
  List.Sublist.append_left (List.sublist_append_left _ _) _
 have mem : ∀ e ∈ (qdz c s hor c.lps.length).flatten ++ (qee c s hor c.lps.length).flatten, e ∈ S.pend := fun e he => hT.mem_iff.1 (sub.subset he)
 refine ⟨List.Pairwise.sublist sub (qlt.perm (List.pairwise_append.1 C.K.keys).2.1 hT), ?_, fun e he => ?_, fun e he => (C.K.ev e (List.mem_append_right _ (mem e he))).lp⟩
 ·have := sub.length_le
  rw [hT.length_eq] at this
  have := C.K.len; omega
 ·have := (C.K.ev e (List.mem_append_right _ (mem e he))).key; omega
theorem WinF.dist {hor : Int} (W : WinF c s hor) (l : List Evt) (hl : l.Perm (qee c s hor c.lps.length).flatten) : ∀ i b, (qdz c s hor c.lps.length)[i]? = some b → qsh (b ++ qcy l i) := by
 intro i b hb
 have h1 : qlt ((qdz c s hor c.lps.length).flatten ++ l) := qlt.perm W.keys (hl.append_left _)
 refine qlt.dist (List.Pairwise.sublist ?_ h1)
 exact List.Sublist.append (List.sublist_flatten_of_mem (List.mem_of_getElem? hb)) List.filter_sublist
theorem StF.wAt_inv (F : StF c s h L) {i : Nat} (hi : i < c.lps.length) : ∃ (S' : Sim) (es : List Evt), WInv c i (wAt c s hor i) [] S' (h ++ es) ∧ (wAt c s hor i).done = es ∧ es.length ≤ 2000 := by
 obtain ⟨x, xf, _, hx, _⟩ := F.at hi
 have hlp : qun s i = x := by unfold qun; rw [Int.toNat_natCast, hx]; rfl
 have W := F.winv hi hx
 obtain ⟨S', es, W', hd, _, hel⟩ := WInv.run hor 2000 W (by have := F.len; omega)
 rw [← hlp] at W' hd
 rw [List.nil_append] at hd
 exact ⟨S', es, W', hd, hel⟩
theorem StF.lefts_sorted (F : StF c s h L) : ∀ b ∈ qdz c s hor c.lps.length, b.Pairwise leE := by
 intro b hb
 simp only [qdz, List.mem_map, List.mem_range] at hb
 obtain ⟨i, hi, rfl⟩ := hb
 obtain ⟨S', es, W', _⟩ := F.wAt_inv hor hi
 exact W'.sorted
theorem q9y (c : Cfg) (hor : Int) : ∀ (k : Nat) (w : WSt), ∃ es, (WSt.run c hor k w).done = w.done ++ es
 | 0, w => ⟨[], (List.append_nil _).symm⟩
 | k + 1, w => by
  unfold WSt.run
  split
  ·exact ⟨[], (List.append_nil _).symm⟩
  next e rest hb =>
   split
   ·obtain ⟨es, h⟩ := q9y c hor k (w.step c e rest)
    exact ⟨e :: es, by rw [h]; simp [WSt.step]⟩
   ·exact ⟨[], (List.append_nil _).symm⟩
theorem q6d (c : Cfg) (hor : Int) (k : Nat) (x : Lp) (e : Evt) (r : List Evt) (ht : e.time < hor) : ∃ es, (WSt.run c hor (k + 1) ⟨x, e :: r, [], [], false⟩).done = e :: es := by
 have : WSt.run c hor (k + 1) ⟨x, e :: r, [], [], false⟩ = WSt.run c hor k ((⟨x, e :: r, [], [], false⟩ : WSt).step c e r) := by rw [WSt.run]; simp only [ht, if_true]
 rw [this]
 obtain ⟨es, h⟩ := q9y c hor k ((⟨x, e :: r, [], [], false⟩ : WSt).step c e r)
 exact ⟨es, by rw [h]; rfl⟩
end
set_option maxRecDepth 10000
section
variable {c : Cfg} {s : Sim} {h : List Evt} {L : List (Lp × Bool)} {f hor : Int}
def qss (c : Cfg) (s : Sim) (hor : Int) (n : Nat) : Nat := ((List.range n).map fun i => (wAt c s hor i).done.length).sum
theorem qvn (n : Nat) : qss c s hor (n + 1) = qss c s hor n + (wAt c s hor n).done.length := by
 unfold qss; rw [List.range_succ, List.map_append, List.sum_append]; simp
set_option maxHeartbeats 2000000 in
theorem prog_L (F : StF c s h L) (n4 : c.lps.length ≤ 4) (fh : f < hor) :
  ∃ y, itB (exec (evL T) itL none qb3) (qs [2, 5, 6, 7, 8, 10, 11, 12, 13, 14] true 2) ⟨[(2, (.fptr [(.fsl ((c.lps).map lpC) false), (.fsl ((c.progs).map qc2) false), (ii c.look), (ii c.fin), (ii c.cap)])), (5, (bb true)), (6, (.fsl ((L).map lpF) false)), (7, (.fsl (((qet c.lps.length s.pend)).map qbn) false)), (8, (ii f)), (10, (ii hor)), (11, .sl 0 0 0 (0 : Nat) false), (12, .sl 1 0 0 (0 : Nat) false), (13, (ii ((0 : Nat)))), (14, (ii ((0 : Nat))))], []⟩ [.row 1 ((qdz c s hor (0 : Nat)).map qbn) 0, .row 1 ((qee c s hor (0 : Nat)).map qbn) 0] = some y ∧
   ((y.1 = .exit 0 ∧ y.2.1.marks = [] ∧ ∃ g1 g2 : Nat, y.2.2 = [.row 1 ((qdz c s hor c.lps.length).map qbn) g1, .row 1 ((qee c s hor c.lps.length).map qbn) g2] ∧ Ev.look y.2.1.vars 5 = some (bb true) ∧ Ev.look y.2.1.vars 10 = some (ii hor) ∧ Ev.look y.2.1.vars 11 = some (.sl 0 g1 0 c.lps.length false) ∧ Ev.look y.2.1.vars 12 = some (.sl 1 g2 0 c.lps.length false) ∧ Ev.look y.2.1.vars 13 = some (ii ((qss c s hor c.lps.length))) ∧ ∀ i, i < c.lps.length → (wAt c s hor i).done.length < 2000) ∨
    (y.1 = .ret ∧ y.2.1.marks = [] ∧ Ev.look y.2.1.vars 4 = some (bb true))) := by
 have hLl := F.lL
 have hbl : (qet c.lps.length s.pend).length = c.lps.length := by simp [qet]
 have key := qfp (f := exec (evL T) itL none qb3) (s := qs [2, 5, 6, 7, 8, 10, 11, 12, 13, 14] true 2) (α := Nat × Nat)
  (fun i a => ⟨[(2, (.fptr [(.fsl ((c.lps).map lpC) false), (.fsl ((c.progs).map qc2) false), (ii c.look), (ii c.fin), (ii c.cap)])), (5, (bb true)), (6, (.fsl ((L).map lpF) false)), (7, (.fsl (((qet c.lps.length s.pend)).map qbn) false)), (8, (ii f)), (10, (ii hor)), (11, .sl 0 a.1 0 i false), (12, .sl 1 a.2 0 i false), (13, (ii ((qss c s hor i)))), (14, (ii i))], []⟩) (fun i a => [.row 1 ((qdz c s hor i).map qbn) a.1, .row 1 ((qee c s hor i).map qbn) a.2]) (fun i a => ∀ j, j < i → (wAt c s hor j).done.length < 2000) c.lps.length
  (fun y => ((y.1 = .exit 0 ∧ y.2.1.marks = [] ∧ ∃ g1 g2 : Nat, y.2.2 = [.row 1 ((qdz c s hor c.lps.length).map qbn) g1, .row 1 ((qee c s hor c.lps.length).map qbn) g2] ∧ Ev.look y.2.1.vars 5 = some (bb true) ∧ Ev.look y.2.1.vars 10 = some (ii hor) ∧ Ev.look y.2.1.vars 11 = some (.sl 0 g1 0 c.lps.length false) ∧ Ev.look y.2.1.vars 12 = some (.sl 1 g2 0 c.lps.length false) ∧ Ev.look y.2.1.vars 13 = some (ii ((qss c s hor c.lps.length))) ∧ ∀ i, i < c.lps.length → (wAt c s hor i).done.length < 2000) ∨
    (y.1 = .ret ∧ y.2.1.marks = [] ∧ Ev.look y.2.1.vars 4 = some (bb true)))) ?_ ?_ 0 (0, 0) (Nat.zero_le _) (fun j hj => by omega)
 ·exact key
 ·rintro i ⟨g1, g2⟩ hi hA
  simp only at hA ⊢
  obtain ⟨x, xf, hLi, hsx, hxf⟩ := F.at hi
  have hlp : qun s i = x := by unfold qun; rw [Int.toNat_natCast, hsx]; rfl
  have hP : qbb (evL T) qes [(.agg [(.fsl ((c.lps).map lpC) false), (.fsl ((c.progs).map qc2) false), (ii c.look), (ii c.fin), (ii c.cap)]), (.agg [(ii x.r0), (ii x.r1), (.fsl ((x.procs).map Pr.r) xf), (ii x.sum)]), (.fsl (((sortL (qcy s.pend i))).map Evt.r) false), (ii hor)] = some (.tup [(.agg [(ii ((wAt c s hor i).lp.r0)), (ii ((wAt c s hor i).lp.r1)), (.fsl (((wAt c s hor i).lp.procs).map Pr.r) xf), (ii ((wAt c s hor i).lp.sum))]), (.fsl (((wAt c s hor i).box).map Evt.r) false), (.fsl (((wAt c s hor i).done).map Evt.r) false), (.fsl (((wAt c s hor i).sent).map Evt.r) false), (bb ((wAt c s hor i).over))]) := by
   unfold wAt; rw [hlp]
   exact q8j hor (f := xf) (cb := false) (F.winv hi hsx) hxf (by have := F.len; omega)
  obtain ⟨S', es, W', hd, hel⟩ := F.wAt_inv hor hi
  have hdn : qss c s hor i ≤ 2000 * i := by
   clear hP W' hd hel hLi hsx hxf hlp hi
   induction i with
   | zero => simp [qss]
   | succ i ih => rw [qvn]; have := ih (fun j hj => hA j (by omega)); have := hA i (by omega); omega
  have hhead : ∀ e r, sortL (qcy s.pend i) = e :: r → e.time = f → ∃ es, (wAt c s hor i).done = e :: es := fun e r hb ht => by
   obtain ⟨es, h⟩ := q6d c hor 1999 (qun s i) e r (by omega)
   unfold wAt; rw [hb]; exact ⟨es, h⟩
  have hi' : (i : Int) < (c.lps.length : Int) := by omega
  have hw : IntKind.i64.wrap ((i : Int) + 1) = ((i + 1 : Nat) : Int) := by rw [qax (by omega) (by omega)]; simp
  have hLm : (L.map lpF)[i]? = some (lpF (x, xf)) := by rw [List.getElem?_map, hLi]; rfl
  have hBm : ((qet c.lps.length s.pend).map qbn)[i]? = some (qbn (sortL (qcy s.pend i))) := by rw [List.getElem?_map, q3o _ _ hi]; rfl
  have lo1 := qrb 2 L
  have lo2 := qfb 2 (qet c.lps.length s.pend)
  have lo3 := qfb 2 (qdz c s hor (i + 1))
  have lo4 := qfb 2 (qee c s hor (i + 1))
  have lo5 : ∀ n, qh2 n ((sortL (qcy s.pend i)).map Evt.r) = true := fun n => qv _ _
  have hll : ((qdz c s hor i).map qbn).length = i := by simp [qdz]
  have hsl : ((qee c s hor i).map qbn).length = i := by simp [qee]
  have tk1 : List.take i ((qdz c s hor i).map qbn) = (qdz c s hor i).map qbn := List.take_of_length_le (by omega)
  have tk2 : List.take i ((qee c s hor i).map qbn) = (qee c s hor i).map qbn := List.take_of_length_le (by omega)
  have e1 : (qdz c s hor (i + 1)).map qbn = (qdz c s hor i).map qbn ++ [[(.fsl (((wAt c s hor i).box).map Evt.r) false)]] := by rw [qx9, List.map_append]; rfl
  have e2 : (qee c s hor (i + 1)).map qbn = (qee c s hor i).map qbn ++ [[(.fsl (((wAt c s hor i).sent).map Evt.r) false)]] := by rw [qy4, List.map_append]; rfl
  have bd : (i + 1) * 24 ≤ 140737488355328 := by omega
  have hle : i ≤ i := Nat.le_refl _
  have hkd : ∀ e ∈ (wAt c s hor i).done, e.key.length ≤ 9223372036854775807 := fun e he => by
   rw [hd] at he
   have h1 := (W'.K.ev e (List.mem_append_left _ (List.mem_append_right _ he))).key
   have h2 := F.len
   rw [List.length_append] at h1
   omega
  have hdl2 : (wAt c s hor i).done.length ≤ 2000 := by rw [hd]; exact hel
  have ww : IntKind.i64.wrap ((qss c s hor i : Int) + ((wAt c s hor i).done.length : Int)) = ((qss c s hor (i + 1) : Nat) : Int) := by rw [qvn]; exact qla (by omega)
  rw [e1] at lo3
  rw [e2] at lo4
  have hke : ∀ e r, sortL (qcy s.pend i) = e :: r → e.key.length ≤ 9223372036854775807 := fun e r hb => F.keysOk e ((List.mem_filter.1 ((qdw (qcy s.pend i)).mem_iff.1 (by rw [hb]; simp))).1)
  have hlm : (L.map lpF).length = c.lps.length := by rw [List.length_map]; exact hLl
  rw [e1, e2]
  have hA' : (wAt c s hor i).done.length < 2000 → ∀ j, j < i + 1 → (wAt c s hor j).done.length < 2000 := fun h1 j hj => by
   by_cases hji : j = i
   ·rw [hji]; exact h1
   ·exact hA j (by omega)
  generalize hN : qss c s hor (i + 1) = N at *
  generalize qss c s hor i = M at *
  generalize (qdz c s hor i).map qbn = LE at *
  generalize (qee c s hor i).map qbn = SE at *
  generalize (qet c.lps.length s.pend).map qbn = BM at *
  clear hdn hN hd hel W' e1 e2 hlp hxf hsx hLi
  generalize wAt c s hor i = w at *
  generalize L.map lpF = LM at *
  simp only [lpF] at hLm
  simp only [qbn] at hBm
  obtain ⟨wlp, wb, wd, ws, wo⟩ := w
  simp only at hP hhead hkd ww hA' lo3 lo4 hdl2 ⊢
  cases hb : sortL (qcy s.pend i) with
  | nil =>
   rw [hb] at hBm hP lo5
   simp only [List.map_nil] at hBm hP lo5
   by_cases hfull : (wd.length : Int) ≥ 2000
   ·right
    simp only [qb3, zgs, zgr, hi', hlm, hLm, hBm, hP, lo5, qcj, qa0, qas, hfull, gt_iff_lt, Int.lt_irrefl, Ev.exec, qb, qe, qc, qa2, qai, Ev.evs, Ev.Opnd.ev, Ev.Env.get, Ev.Env.set, Ev.Env.unset, Ev.look, qk, qad, Ev.AV.cells, qw, Ev.AV.plain, ql, qaq, qb2, qa4, qbc, qu, qj, qh, zgi, ↓qr, Ev.it1, ↓reduceIte, zga, zgb, zgd, zge, zgc, zgo, zfe, zgf, List.drop_nil, zgm, zgl, zgn, zgj, zgk, zgh, Nat.reduceAdd, Nat.reduceEqDiff, Int.cast_ofNat_Int, zgv, zgw, zfc, zfa, zgx, ne_eq, zfb, zff, zfd, Nat.le_refl, zgy]
    exact ⟨_, rfl, .inr ⟨rfl, rfl, rfl⟩⟩
   ·left
    refine ⟨(g1 + 1, g2 + 1), ?_, hA' (by omega)⟩
    simp only [qb3, zgs, zgr, hi', hw, hlm, hLm, hBm, hP, lo1, lo2, lo3, lo4, lo5, hll, hsl, tk1, tk2, bd, hle, ww, qcj, qa0, qas, hfull, gt_iff_lt, Int.lt_irrefl, Ev.exec, qb, qe, qc, qa2, qai, qnu, Ev.evs, Ev.Opnd.ev, Ev.Env.get, Ev.Env.set, Ev.Env.unset, Ev.look, qk, qb0, qad, qf4, Ev.AV.cells, Ev.AV.uc, qw, Ev.AV.plain, qaf, ql, qaq, qb2, qs, Ev.keep, qae, qx, qd, Ev.SObj.lo, qa4, qbc, qu, qbq, qbm, qj, qh, qbl, qa9, List.replicate_one, zgi, ↓qr, Ev.it1, ↓reduceIte, zga, zgb, zgd, zge, zgc, zgo, zfe, zgf, List.drop_nil, zgm, zgl, zgn, zgj, zgk, zgh, Nat.reduceAdd, Nat.reduceEqDiff, Nat.reduceMul, Nat.reduceLT, Nat.reduceLeDiff, Nat.reducePow, Int.cast_ofNat_Int, zgv, zgw, zfc, zfa, zgx, ne_eq, zfb, zff, zfd, zgu, Nat.le_refl, zgy]
  | cons e r =>
   have hh := hhead e r hb
   have hek := hke e r hb
   rw [hb] at hBm hP lo5
   have b0 : ((r.length + 1 : Nat) : Int) > 0 := by omega
   by_cases ht : e.time = f
   ·obtain ⟨es, rfl⟩ := hh ht
    have hE := q3l e e hek hek
    rw [decide_eq_true rfl] at hE
    have d0 : ¬ ((es.length + 1 : Nat) : Int) = 0 := by omega
    obtain ⟨et, ek, el, ei, ep, ea⟩ := e
    simp only at ht
    subst ht
    simp only [List.map_cons, Evt.r, zga] at hBm hP hE ww hA' lo5 ⊢
    by_cases hfull : ((es.length + 1 : Nat) : Int) ≥ 2000
    ·right
     simp only [qb3, zgs, zgr, hi', hlm, hLm, hBm, hP, lo5, qag, qcj, qa0, qas, hfull, hE, b0, d0, Int.le_refl, Int.toNat_zero, Ev.exec, qb, qe, qc, qa2, qai, Ev.evs, Ev.Opnd.ev, Ev.Env.get, Ev.Env.set, Ev.look, qk, qad, Ev.AV.cells, qw, Ev.AV.plain, qaj, ql, qaq, qb2, qa4, qbc, qu, qj, qh, zgi, ↓qr, Ev.it1, ↓reduceIte, zga, zgb, zgd, zge, zgc, zgo, zfe, zgf, zgg, List.drop_nil, zgm, zgl, zgn, zgj, zgk, zgh, Nat.reduceAdd, Nat.reduceEqDiff, zgv, zgw, zfc, Bool.not_true, zfa, zgx, ne_eq, zfb, zff, zfd, Nat.le_refl, zgy]
     exact ⟨_, rfl, .inr ⟨rfl, rfl, rfl⟩⟩
    ·left
     refine ⟨(g1 + 1, g2 + 1), ?_, hA' (by omega)⟩
     simp only [qb3, zgs, zgr, hi', hw, hlm, hLm, hBm, hP, lo1, lo2, lo3, lo4, lo5, hll, hsl, tk1, tk2, bd, hle, ww, qag, qcj, qa0, qas, hfull, hE, b0, d0, Int.le_refl, Int.toNat_zero, Ev.exec, qb, qe, qc, qa2, qai, qnu, Ev.evs, Ev.Opnd.ev, Ev.Env.get, Ev.Env.set, Ev.look, qk, qb0, qad, qf4, Ev.AV.cells, Ev.AV.uc, qw, Ev.AV.plain, qaf, qaj, ql, qaq, qb2, qs, Ev.keep, qae, qx, qd, Ev.SObj.lo, qa4, qbc, qu, qbq, qbm, qj, qh, qbl, qa9, List.replicate_one, zgi, ↓qr, Ev.it1, ↓reduceIte, zga, zgb, zgd, zge, zgc, zgo, zfe, zgf, zgg, List.drop_nil, zgm, zgl, zgn, zgj, zgk, zgh, Nat.reduceAdd, Nat.reduceEqDiff, Nat.reduceMul, Nat.reduceLT, Nat.reduceLeDiff, Nat.reducePow, zgv, zgw, zfc, Bool.not_true, zfa, zgx, ne_eq, zfb, zff, zfd, zgu, Nat.le_refl, zgy]
   ·obtain ⟨et, ek, el, ei, ep, ea⟩ := e
    simp only at ht
    simp only [List.map_cons, Evt.r] at hBm hP lo5
    by_cases hfull : (wd.length : Int) ≥ 2000
    ·right
     simp only [qb3, zgs, zgr, hi', hlm, hLm, hBm, hP, lo5, qcj, qa0, qas, hfull, ht, b0, Int.le_refl, Int.toNat_zero, Ev.exec, qb, qe, qc, qa2, qai, Ev.evs, Ev.Opnd.ev, Ev.Env.get, Ev.Env.set, Ev.Env.unset, Ev.look, qk, qad, Ev.AV.cells, qw, Ev.AV.plain, qaj, ql, qaq, qb2, qa4, qbc, qu, qj, qh, zgi, ↓qr, Ev.it1, ↓reduceIte, zga, zgb, zgd, zge, zgc, zgo, zfe, zgf, zgg, List.drop_nil, zgm, zgl, zgn, zgj, zgk, zgh, Nat.reduceAdd, Nat.reduceEqDiff, zgv, zgw, zfc, zfa, zgx, ne_eq, zfb, zff, zfd, Nat.le_refl, zgy]
     exact ⟨_, rfl, .inr ⟨rfl, rfl, rfl⟩⟩
    ·left
     refine ⟨(g1 + 1, g2 + 1), ?_, hA' (by omega)⟩
     simp only [qb3, zgs, zgr, hi', hw, hlm, hLm, hBm, hP, lo1, lo2, lo3, lo4, lo5, hll, hsl, tk1, tk2, bd, hle, ww, qcj, qa0, qas, hfull, ht, b0, Int.le_refl, Int.toNat_zero, Ev.exec, qb, qe, qc, qa2, qai, qnu, Ev.evs, Ev.Opnd.ev, Ev.Env.get, Ev.Env.set, Ev.Env.unset, Ev.look, qk, qb0, qad, qf4, Ev.AV.cells, Ev.AV.uc, qw, Ev.AV.plain, qaf, qaj, ql, qaq, qb2, qs, Ev.keep, qae, qx, qd, Ev.SObj.lo, qa4, qbc, qu, qbq, qbm, qj, qh, qbl, qa9, List.replicate_one, zgi, ↓qr, Ev.it1, ↓reduceIte, zga, zgb, zgd, zge, zgc, zgo, zfe, zgf, zgg, List.drop_nil, zgm, zgl, zgn, zgj, zgk, zgh, Nat.reduceAdd, Nat.reduceEqDiff, Nat.reduceMul, Nat.reduceLT, Nat.reduceLeDiff, Nat.reducePow, zgv, zgw, zfc, zfa, zgx, ne_eq, zfb, zff, zfd, zgu, Nat.le_refl, zgy]
 ·rintro ⟨g1, g2⟩ hA
  simp only [qb3, hLl, Int.lt_irrefl, zgi, Ev.exec, qb, qe, qc, qai, Ev.Opnd.ev, Ev.Env.get, Ev.Env.set, Ev.look, ql, zgi, ↓qr, Ev.it1, ↓reduceIte, Nat.reduceEqDiff, zgw, zfa, zgy]
  exact ⟨_, rfl, .inl ⟨rfl, rfl, g1, g2, rfl, rfl, rfl, rfl, rfl, rfl, hA⟩⟩
theorem qaa3 {n i : Nat} (hi : i < n) (h : 0 < (wAt c s hor i).done.length) : 0 < qss c s hor n := by
 induction n with
 | zero => omega
 | succ n ih =>
  rw [qvn]
  by_cases e : i = n
  ·subst e; omega
  ·have := ih (by omega); omega
end
set_option maxHeartbeats 2000000 in
theorem q31 (c : Cfg) (a : Int) (ha : 0 ≤ a ∧ a ≤ 255) : qbb (evL T) qeh [(.agg [(.fsl ((c.lps).map lpC) false), (.fsl ((c.progs).map qc2) false), (ii c.look), (ii c.fin), (ii c.cap)]), .v (.int .u8 a)] = some (bb true) := by
 have hH := q23
 obtain ⟨b, hq, hqb⟩ := q5p c
 rw [qbb, qy qpr qkm]
 cases b with
 | false => simp only [qc3, hH, hq, qcj, qa0, qn, Ev.exec, qb, qe, qc, qa2, qai, Ev.evs, Ev.Opnd.ev, Ev.Env.get, Ev.Env.set, Ev.look, qo, qk, qad, Ev.AV.cells, qw, Ev.AV.plain, qm, qab, qak, Ev.kill, qah, qd, qa4, qbc, qu, qj, qh, qap, ↓qr, ↓reduceIte, zga, zgb, zgc, zfe, Nat.reduceAdd, Nat.reduceEqDiff, zfc, Bool.not_false, zgx, ne_eq, zfb, zff, zfd, Nat.le_refl, zgy]
 | true =>
 obtain ⟨G, l1, l8, n1, n4⟩ := hqb rfl
 obtain ⟨s, h, L, F, hS⟩ := State_ev G a ha
 have hF := q6w (qet c.lps.length s.pend) false (by simp [qet]; omega)
 cases hfl : qtn (qet c.lps.length s.pend) with
 | none =>
  rw [hfl] at hF
  simp only [Option.getD_none, Option.isSome_none] at hF
  generalize qet c.lps.length s.pend = B at *
  simp only [qc3, hH, hq, hS, hF, qfb, qcj, qa0, qn, Ev.exec, qb, qe, qc, qa2, qai, Ev.evs, Ev.Opnd.ev, Ev.Env.get, Ev.Env.set, Ev.Env.unset, Ev.look, qo, qk, qad, Ev.AV.cells, qw, Ev.AV.plain, qm, qab, qak, Ev.kill, qah, qd, qa4, qbc, qu, qj, qh, qap, ↓qr, ↓reduceIte, zga, zgb, zgd, zge, zgc, zfe, Nat.reduceAdd, Nat.reduceEqDiff, reduceCtorEq, zfc, Bool.not_true, Bool.not_false, zfa, Bool.true_eq_false, zgx, ne_eq, zfb, zff, zfd, Nat.le_refl, zgy]
 | some f =>
 rw [hfl] at hF
 simp only [Option.getD_some, Option.isSome_some] at hF
 by_cases hff : f ≥ c.fin
 ·generalize qet c.lps.length s.pend = B at *
  simp only [qc3, hH, hq, hS, hF, hff, qfb, qcj, qa0, qn, Ev.exec, qb, qe, qc, qa2, qai, Ev.evs, Ev.Opnd.ev, Ev.Env.get, Ev.Env.set, Ev.look, qo, qk, qad, Ev.AV.cells, qw, Ev.AV.plain, qb2, qm, qab, qak, Ev.kill, qah, qd, qa4, qbc, qu, qj, qh, qap, ↓qr, ↓reduceIte, zga, zgb, zgd, zge, zgc, zfe, zgf, zgg, zgh, Nat.reduceAdd, Nat.reduceEqDiff, reduceCtorEq, zgv, zfc, Bool.not_true, zfa, zgx, ne_eq, zfb, zff, zfd, Nat.le_refl, zgy]
 obtain ⟨fa, fb, hfb, fe, fr, rfl, hfe⟩ := qzr hfl (q4k _ _)
 have hmem : fe ∈ s.pend := F.flat.mem_iff.1 (List.mem_flatten.2 ⟨_, hfb, by simp⟩)
 have hft := (F.inv.ev fe (List.mem_append_right _ hmem)).time
 have hfin := G.v.fin
 have hHz := q7o c f (by omega) (by omega) hfin
 obtain ⟨hor, hhor, z1, z3⟩ : ∃ hor, f + qv0 c.look (c.fin - f) = hor ∧ f < hor ∧ hor ≤ f + c.look := by
  unfold qv0
  refine ⟨_, rfl, ?_⟩
  split <;> omega
 rw [hhor] at hHz
 obtain ⟨⟨y, e, σ⟩, k1, k2⟩ := prog_L (f := f) (hor := hor) F n4 z1
 simp only [Int.ofNat_zero, qdz, qee, List.range_zero, List.map_nil] at k1
 have d0 : qss c s hor 0 = 0 := rfl
 have lo1 := qrb 0 L
 have lo1' := qrb 2 L
 have lo2 := qfb 0 (qet c.lps.length s.pend)
 have lo2' := qfb 2 (qet c.lps.length s.pend)
 rcases k2 with ⟨k2, k3, g1, g2, k4, k5, k6, k7, k8, k9, hA⟩ | ⟨k2, k3, k4⟩
 ·simp only at k2 k3 k4 k5 k6 k7 k8 k9
  subst k2; subst k4
  have W := F.winF hor
  have wt : ∀ i, i < c.lps.length → WTime c i f hor (wAt c s hor i) := fun i hi => by
   obtain ⟨x, xf, _, hsx, _⟩ := F.at hi
   have hlp : qun s i = x := by unfold qun; rw [Int.toNat_natCast, hsx]; rfl
   have W0 := F.winv hi hsx
   have hT0 : WTime c i f hor ⟨x, sortL (qcy s.pend i), [], [], false⟩ := ⟨fun e he => fa _ (List.mem_of_getElem? (q3o _ _ hi)) e he, fun e he => (by cases he), fun e he => (by cases he)⟩
   unfold wAt; rw [hlp]
   exact hT0.run 2000 W0 (by have := F.len; omega)
  have hwf := W.len
  have hD := q7s (qdz c s hor c.lps.length) (qee c s hor c.lps.length) false false (by simp [qdz]; omega) (by simp [qee]; omega) (by omega) W.kok (F.lefts_sorted hor) (W.dist _ (.refl _)) (fun e he => by
   have := W.rng e (List.mem_append_right _ he)
   simpa [qdz] using this)
  have hF2 := q6w (qe9 (qdz c s hor c.lps.length) (qee c s hor c.lps.length).flatten) false (by simp [qe9, qdz]; omega)
  have hpos : ((qss c s hor c.lps.length : Nat) : Int) > 0 := by
   simp only [qet, List.mem_map, List.mem_range] at hfb
   obtain ⟨i, hi, hb⟩ := hfb
   obtain ⟨es, hes⟩ := q6d c hor 1999 (qun s i) fe fr (by omega)
   have : 0 < (wAt c s hor i).done.length := by unfold wAt; rw [hb, hes]; simp
   have := qaa3 hi this
   omega
  have hge : ∀ b ∈ qe9 (qdz c s hor c.lps.length) (qee c s hor c.lps.length).flatten, ∀ e ∈ b, hor ≤ e.time := by
   intro b hb e he
   simp only [qe9, List.mem_mapIdx] at hb
   obtain ⟨i, hi, rfl⟩ := hb
   have := (qdw _).mem_iff.1 he
   rcases List.mem_append.1 this with h1 | h1
   ·simp only [qdz, zgi, List.length_range] at hi
    have h2 : e ∈ (wAt c s hor i).box := by simpa [qdz] using h1
    have hend := q93 c hor 2000 ⟨qun s i, sortL (qcy s.pend i), [], [], false⟩
    change (wAt c s hor i).done.length = _ ∨ _ at hend
    have hdi := hA i hi
    rcases hend with h3 | ⟨_, h3 | ⟨e', r', h3, h4⟩⟩
    ·simp at h3; omega
    ·change (wAt c s hor i).box = [] at h3
     rw [h3] at h2; cases h2
    ·change (wAt c s hor i).box = _ at h3
     obtain ⟨S', es, W', _⟩ := F.wAt_inv hor hi
     have hs := W'.sorted
     rw [h3] at h2 hs
     rcases List.mem_cons.1 h2 with rfl | h2
     ·exact h4
     ·have := qyn ((List.pairwise_cons.1 hs).1 e h2); omega
   ·have h2 := (List.mem_filter.1 h1).1
    obtain ⟨l, hl, hel⟩ := List.mem_flatten.1 h2
    simp only [qee, List.mem_map, List.mem_range] at hl
    obtain ⟨j, hj, rfl⟩ := hl
    have := (wt j hj).sent e hel
    omega
  have hds : ∀ b ∈ qe9 (qdz c s hor c.lps.length) (qee c s hor c.lps.length).flatten, b.Pairwise leE := by
   intro b hb
   simp only [qe9, List.mem_mapIdx] at hb
   obtain ⟨i, hi, rfl⟩ := hb
   exact qfn _
  have hll : ((qdz c s hor c.lps.length).map qbn).length = c.lps.length := by simp [qdz]
  have hsl : ((qee c s hor c.lps.length).map qbn).length = c.lps.length := by simp [qee]
  have tk1 : List.take c.lps.length ((qdz c s hor c.lps.length).map qbn) = (qdz c s hor c.lps.length).map qbn := List.take_of_length_le (by omega)
  have tk2 : List.take c.lps.length ((qee c s hor c.lps.length).map qbn) = (qee c s hor c.lps.length).map qbn := List.take_of_length_le (by omega)
  have lo3 := qfb 0 (qdz c s hor c.lps.length)
  have lo4 := qfb 0 (qee c s hor c.lps.length)
  have hle : c.lps.length ≤ c.lps.length := Nat.le_refl _
  have fge : qtn (qe9 (qdz c s hor c.lps.length) (qee c s hor c.lps.length).flatten) = none ∨ ∃ g, qtn (qe9 (qdz c s hor c.lps.length) (qee c s hor c.lps.length).flatten) = some g ∧ g ≥ hor := by
   cases hg : qtn (qe9 (qdz c s hor c.lps.length) (qee c s hor c.lps.length).flatten) with
   | none => exact .inl rfl
   | some g =>
    obtain ⟨_, b, hb, e, r, rfl, hge2⟩ := qzr hg hds
    exact .inr ⟨g, rfl, by have := hge _ hb e (by simp); omega⟩
  have lo5 := qfb 0 (qe9 (qdz c s hor c.lps.length) (qee c s hor c.lps.length).flatten)
  generalize (qe9 (qdz c s hor c.lps.length) (qee c s hor c.lps.length).flatten) = DL at *
  clear hge hds W wt hwf F hA hfl fa hfb
  generalize (qdz c s hor c.lps.length).map qbn = LE at *
  generalize (qee c s hor c.lps.length).map qbn = SE at *
  generalize (qet c.lps.length s.pend).map qbn = BM at *
  generalize DL.map qbn = DM at *
  rcases fge with hg | ⟨g, hg, hg2⟩
  ·rw [hg] at hF2
   simp only [Option.getD_none, Option.isSome_none] at hF2
   simp only [qc3, hH, hq, hS, hF, hff, hHz, k1, k3, k5, k7, k8, k9, hll, hsl, tk1, tk2, hle, lo1', lo2, lo2', lo3, lo4, lo5, hD, hF2, hpos, qcj, qa0, qn, Ev.exec, qb, qe, qc, qa2, qai, Ev.evs, Ev.Opnd.ev, Ev.Env.get, Ev.Env.set, Ev.Env.unset, Ev.look, qo, qk, qad, Ev.AV.cells, qw, Ev.AV.plain, qaq, qb2, qm, qab, qak, Ev.kill, qah, qs, Ev.keep, qae, qx, qd, Ev.SObj.lo, qa4, qbc, qu, qbq, qbm, qj, qh, qac, qap, ↓qr, ↓qar, ↓reduceIte, zga, zgb, zgd, zge, zgc, zgo, zfe, zgf, zgg, zgm, zgl, zgj, zgk, zgh, Nat.reduceAdd, Nat.reduceEqDiff, Nat.reduceLT, reduceCtorEq, zgv, zgw, zfc, Bool.not_true, Bool.not_false, zfa, Bool.true_eq_false, zgx, ne_eq, zfb, zff, zfd, zgu, Nat.le_refl, zgy]
  ·rw [hg] at hF2
   simp only [Option.getD_some, Option.isSome_some] at hF2
   simp only [qc3, hH, hq, hS, hF, hff, hHz, k1, k3, k5, k6, k7, k8, k9, hll, hsl, tk1, tk2, hle, lo1', lo2, lo2', lo3, lo4, lo5, hD, hF2, hpos, hg2, qcj, qa0, qn, Ev.exec, qb, qe, qc, qa2, qai, Ev.evs, Ev.Opnd.ev, Ev.Env.get, Ev.Env.set, Ev.look, qo, qk, qad, Ev.AV.cells, qw, Ev.AV.plain, qaq, qb2, qm, qab, qak, Ev.kill, qah, qs, Ev.keep, qae, qx, qd, Ev.SObj.lo, qa4, qbc, qu, qbq, qbm, qj, qh, qac, qap, ↓qr, ↓qar, ↓reduceIte, zga, zgb, zgd, zge, zgc, zgo, zfe, zgf, zgg, zgm, zgl, zgj, zgk, zgh, Nat.reduceAdd, Nat.reduceEqDiff, Nat.reduceLT, reduceCtorEq, zgv, zgw, zfc, Bool.not_true, zfa, zgx, ne_eq, zfb, zff, zfd, zgu, Nat.le_refl, zgy]
 ·simp only at k2 k3 k4
  subst k2
  simp only [qc3, hH, hq, hS, hF, hff, hHz, k1, k3, k4, lo1', lo2, lo2', qcj, qa0, qn, Ev.exec, qb, qe, qc, qa2, qai, Ev.evs, Ev.Opnd.ev, Ev.Env.get, Ev.Env.set, Ev.look, qo, qk, qad, Ev.AV.cells, qw, Ev.AV.plain, qb2, qm, qab, qak, Ev.kill, qah, qs, Ev.keep, qae, qx, qd, Ev.SObj.lo, qa4, qbc, qu, qbq, qbm, qj, qh, qac, qap, ↓qr, ↓qar, ↓reduceIte, zga, zgb, zgd, zge, zgc, zgo, zfe, zgf, zgg, zgm, zgl, zgh, Nat.reduceAdd, Nat.reduceEqDiff, Nat.reduceLT, reduceCtorEq, zgv, zgw, zfc, Bool.not_true, zfa, zgx, ne_eq, zfb, zff, zfd, zgu, Nat.le_refl, zgy]
end Go.Proofs.Ytbhhifdhlafklaa.K
namespace Go.Ev
def Ctx.nil : Ctx := { n := 0, loc := fun _ => ⟨0, 0, 0, 0⟩, own := fun _ => False, far := fun _ => False }
theorem SR.nil (P : Program) (w : World) : SR P Ctx.nil [] w where
 len := rfl
 obj o ob h := by simp at h
 blk o h := absurd h (Nat.not_lt_zero _)
 inj o o' h := absurd h (Nat.not_lt_zero _)
 ownlt b h := h.elim
 farlt b h := h.elim
 sep b h := h.elim
section
variable (P : Program) {H : Type} (enc : TypeId × Value → H)
def qlf (t : TypeId) {τ : Type} (c : τ → List AV) (ok : τ → Prop) : Prop :=
 ∀ (w : World) (fuel : Nat) (cs : List Value) (d : DataW H) (ps : List MemPlace), DataW.trod enc P w 0 (fun _ => true) true fuel t cs = some (d, ps) → ∃ x : τ, ok x ∧ VRs Ctx.nil w (c x) cs
variable {P enc}
theorem VRs.one {Γ : Ctx} {w : World} {a : AV} {v : Value} (h : VR Γ w a v) : VRs Γ w [a] [v] := by
 simp only [VRs]; exact ⟨v, [], rfl, h, rfl⟩
theorem q1b {t : TypeId} {k : IntKind} (hu : P.underlying t = some (.int k)) : qlf P enc t (fun n : Int => [.v (.int k n)]) (fun n => (Lit.int k n).wf = true) := by
 intro w fuel cs d ps h
 cases fuel with
 | zero => simp [DataW.trod] at h
 | succ fuel =>
  unfold DataW.trod at h
  rw [hu] at h
  split at h <;> rename_i heq <;> first | (cases heq; done) | (cases h; done) | skip
  cases heq
  split at h
  ·rename_i hk
   obtain ⟨rfl, hwf⟩ := hk
   exact ⟨_, hwf, VRs.one (by simp only [VR])⟩
  ·cases h
variable (P enc) in
def qtj (off : Nat) (fs : List Field) {τ : Type} (c : τ → List AV) (ok : τ → Prop) (tot : Nat) : Prop :=
 ∀ (w : World) (fuel : Nat) (cs : List Value), (∀ (i : Nat) (f : Field), fs[i]? = some f → ∃ x, DataW.trod enc P w 0 (fun _ => true) true fuel f.type ((cs.drop f.offset).take (P.cellsOf f.type)) = some x) →
  ∃ x : τ, ok x ∧ VRs Ctx.nil w (c x) ((cs.drop off).take tot)
theorem qqv (off : Nat) : qtj P enc off [] (fun _ : Unit => []) (fun _ => True) 0 := fun w fuel cs _ => ⟨(), trivial, by simp [VRs]⟩
theorem qfg {off : Nat} {f : Field} {fs : List Field} {α β : Type} {c1 : α → List AV} {ok1 : α → Prop} {c2 : β → List AV} {ok2 : β → Prop} {tot : Nat} {sz : Nat} (ho : f.offset = off) (hs : P.cellsOf f.type = sz)
  (h1 : qlf P enc f.type c1 ok1) (h2 : qtj P enc (off + sz) fs c2 ok2 tot) : qtj P enc off (f :: fs) (fun x : α × β => c1 x.1 ++ c2 x.2) (fun x => ok1 x.1 ∧ ok2 x.2) (sz + tot) := by
 intro w fuel cs h
 obtain ⟨⟨d, ps⟩, h3⟩ := h 0 f rfl
 obtain ⟨x, k1, k2⟩ := h1 w fuel _ d ps h3
 obtain ⟨y, k3, k4⟩ := h2 w fuel cs fun i g hg => h (i + 1) g (by simpa using hg)
 refine ⟨(x, y), ⟨k1, k3⟩, ?_⟩
 rw [List.take_add, List.drop_drop]
 rw [ho, hs] at k2
 exact k2.append k4
theorem q2s {t : TypeId} {fs : Array Field} {τ : Type} {c : τ → List AV} {ok : τ → Prop} (hu : P.underlying t = some (.struct fs)) (h : qtj P enc 0 fs.toList c ok (P.cellsOf t)) : qlf P enc t c ok := by
 intro w fuel cs d ps ht
 obtain ⟨xs, n, rfl, _, hl, hx, hall⟩ := DataW.trod_struct hu ht
 obtain ⟨x, k1, k2⟩ := h w n cs fun i f hf => by
  have hf' : fs[i]? = some f := by simpa using hf
  have := hall i f hf'
  have hlt : i < xs.length := by rw [hx]; exact (Array.getElem?_eq_some_iff.1 hf').1
  exact ⟨xs[i], by rw [this, List.getElem?_eq_getElem hlt]⟩
 refine ⟨x, k1, ?_⟩
 rw [List.drop_zero, ← hl, List.take_length] at k2
 exact k2
theorem qou {t : TypeId} {fs : Array Field} {τ : Type} {c : τ → List AV} {ok : τ → Prop} {n : Nat} (hu : P.underlying t = some (.struct fs)) (h : qtj P enc 0 fs.toList c ok n) (hn : P.cellsOf t = n) : qlf P enc t c ok := q2s hu (by rw [hn]; exact h)
theorem qlf.map {t : TypeId} {α β : Type} {c : α → List AV} {ok : α → Prop} {c' : β → List AV} {ok' : β → Prop} (g : α → β) (h : qlf P enc t c ok) (hc : ∀ x, c' (g x) = c x) (ho : ∀ x, ok x → ok' (g x)) : qlf P enc t c' ok' := by
 intro w fuel cs d ps ht
 obtain ⟨x, h1, h2⟩ := h w fuel cs d ps ht
 exact ⟨g x, ho x h1, by rw [hc]; exact h2⟩
theorem qx6 {τ : Type} {Q : Nat → τ → Prop} : ∀ (n : Nat), (∀ i, i < n → ∃ x, Q i x) → ∃ xs : List τ, xs.length = n ∧ ∀ (i : Nat) (x : τ), xs[i]? = some x → Q i x
 | 0, _ => ⟨[], rfl, by simp⟩
 | n + 1, h => by
  obtain ⟨xs, h1, h2⟩ := qx6 n fun i hi => h i (by omega)
  obtain ⟨x, hx⟩ := h n (by omega)
  refine ⟨xs ++ [x], by simp [h1], fun i y hy => ?_⟩
  rw [List.getElem?_append] at hy
  split at hy
  ·exact h2 i y hy
  ·rename_i hi
   have hlt : i - xs.length < 1 := by
    have := (List.getElem?_eq_some_iff.1 hy).1
    simpa using this
   have : i = n := by omega
   subst this
   rw [h1, Nat.sub_self] at hy
   simp at hy; subst hy; exact hx
theorem q4j {Γ : Ctx} {w : World} {sz : Nat} {τ : Type} {c : τ → List AV} : ∀ (xs : List τ) (get : Nat → Option Value), (∀ (i : Nat) (x : τ), xs[i]? = some x → qam Γ w (c x) (fun j => get (j + i * sz))) → qgb Γ w sz (xs.map c) get
 | [], _, _ => by simp [qgb]
 | x :: xs, get, h => by
  simp only [List.map_cons, qgb]
  refine ⟨by simpa using h 0 x (by simp), q4j xs _ fun i y hy => ?_⟩
  refine (h (i + 1) y (by simpa using hy)).congr fun j => ?_
  congr 1
  rw [Nat.add_mul]; omega
theorem qod {t e : TypeId} {sz : Nat} {τ : Type} {c : τ → List AV} {ok : τ → Prop} (hu : P.underlying t = some (.slice e)) (hs : P.cellsOf e = sz) (h0 : 0 < sz) (hc : ∀ x, (c x).length = sz) (h : qlf P enc e c ok) :
  qlf P enc t (fun xs : List τ => [.fsl (xs.map c) false]) (fun xs => (∀ x ∈ xs, ok x) ∧ xs.length ≤ maxLen) := by
 intro w fuel cs d ps ht
 rcases DataW.trod_slice hu ht with ⟨rfl, _⟩ | ⟨a, len, cap, elems, rest, n, rfl, rfl, _, _, hle, hcap, hel, hall, _⟩
 ·refine ⟨[], by simp, VRs.one ?_⟩
  simp only [VR]
  exact ⟨none, 0, rfl, by simp, fun h => (by cases h), .inl rfl⟩
 ·have hex : ∀ i, i < len → ∃ x : τ, ok x ∧ ∃ vs, w.cells? 0 (a.add (i * sz)) sz = some vs ∧ VRs Ctx.nil w (c x) vs := by
   intro i hi
   have hb := hall i hi
   rw [List.getElem?_eq_getElem (by omega), Option.bind_eq_some_iff] at hb
   obtain ⟨vs, k1, k2⟩ := hb
   obtain ⟨x, k3, k4⟩ := h w n vs _ _ k2
   rw [hs] at k1
   exact ⟨x, k3, vs, k1, k4⟩
  obtain ⟨xs, h4, h5⟩ := qx6 (Q := fun i x => ok x ∧ ∃ vs, w.cells? 0 (a.add (i * sz)) sz = some vs ∧ VRs Ctx.nil w (c x) vs) len hex
  refine ⟨xs, ⟨fun x hx => ?_, by omega⟩, VRs.one ?_⟩
  ·obtain ⟨i, hi, rfl⟩ := List.mem_iff_getElem.1 hx
   exact (h5 i _ (by simp [hi])).1
  ·simp only [VR]
   refine ⟨some a, cap, by simp [h4], by simp [h4]; omega, fun h => (by cases h), ?_⟩
   by_cases hx0 : xs = []
   ·left; simp [hx0]
   ·right
    have hlen0 : 0 < xs.length := List.length_pos_iff.2 hx0
    have hcell : ∀ (i : Nat) (x : τ), xs[i]? = some x → ∀ j, j < sz → ∃ v, w.cell? ((a.add (i * sz)).add j) = some v := by
     intro i x hx j hj
     obtain ⟨_, vs, k1, k2⟩ := h5 i x hx
     obtain ⟨_, k3, k4⟩ := World.cells?_some k1
     exact ⟨vs[j]'(by omega), by rw [k4 j hj, List.getElem?_eq_getElem (by omega)]⟩
    obtain ⟨v0, hv0⟩ := hcell 0 xs[0] (by simp [hlen0]) 0 h0
    obtain ⟨b, off, spot⟩ := a
    have hspot : spot = none := by simpa [Addr.add] using World.cell?_spot hv0
    subst hspot
    have hblt : b < w.heap.size := by
     rw [Addr.add_lit, Addr.add_lit] at hv0
     unfold World.cell? at hv0
     cases hh : w.heap[b]? with
     | none => rw [hh] at hv0; simp at hv0
     | some o => exact (Array.getElem?_eq_some_iff.1 hh).1
    refine ⟨b, off, sz, rfl, ⟨hblt, id, id⟩, h0, ?_, ?_⟩
    ·intro e he
     obtain ⟨x, _, rfl⟩ := List.mem_map.1 he
     exact hc x
    ·refine q4j xs _ fun i x hx => ?_
     obtain ⟨_, vs, k1, k2⟩ := h5 i x hx
     obtain ⟨_, k3, k4⟩ := World.cells?_some k1
     refine qam.of_list k2 fun j v hj => ?_
     have hjl := (List.getElem?_eq_some_iff.1 hj).1
     have := k4 j (by omega)
     rw [hj, Addr.add_lit, Addr.add_lit] at this
     rw [← this]
     congr 2
     omega
end
end Go.Ev
namespace Go.Ev
open Go.RowKit (Below)
open Go.ChangeShapes Go.WideShapes Go.ChangeAt Go.RowKit
variable {H : Type} {enc : TypeId × Value → H} {P : Program}
theorem Ext.below {w w' : World} {Γ' : Ctx} (x : Ext Ctx.nil Γ' w w') : Below w.heap.size w w' := ⟨x.os, x.tape, x.output, x.size, fun k hk => x.same k hk id⟩
theorem qt2 (hl : laidOutB P = true) {w w' : World} (hb : Below w.heap.size w w') {sp : Nat → Bool} : ∀ {ts : List TypeId} {vs : List Value} {ds : List (DataW H)} {ps : List MemPlace},
  (∀ t ∈ ts, P.readableRec t = true ∧ t < P.types.size) → DataW.TrodAll enc P w 0 (fun _ => true) true ts vs ds ps → (∀ p ∈ ps, p.block < w.heap.size) → (∀ p ∈ ps, sp p.block = true) → DataW.TrodAll enc P w' 0 sp true ts vs ds ps
 | [], [], [], ps, _, h, _, _ => h
 | t :: ts, v :: vs, d :: ds, ps, ht, ⟨p, q, h1, h2, e⟩, hlt, hs => by
  subst e
  obtain ⟨r1, r2⟩ := ht t (by simp)
  exact ⟨p, q, WideElems.Trod_stays hl r1 r2 h1 (fun x hx => hb.same (hlt x (List.mem_append_left _ hx))) (fun x hx => hs x (List.mem_append_left _ hx)),
   qt2 hl hb (fun u hu => ht u (by simp [hu])) h2 (fun x hx => hlt x (List.mem_append_right _ hx)) (fun x hx => hs x (List.mem_append_right _ hx)), rfl⟩
 | [], _ :: _, _, _, _, h, _, _ => h.elim
 | [], [], _ :: _, _, _, h, _, _ => h.elim
 | _ :: _, [], _, _, _, h, _, _ => h.elim
 | _ :: _, _ :: _, [], _, _, h, _, _ => h.elim
theorem frz_bool {σ : qaa} {d : Nat} {a : AV} {b : Bool} : frz σ (d + 1) a = some (.v (.bool b)) → a = .v (.bool b) := by
 intro h
 simp only [frz] at h
 split at h
 ·cases h; rfl
 ·cases a with
  | v x => cases h; rfl
  | sl o g off len c =>
   simp only at h
   split at h
   ·split at h
    ·rw [Option.bind_eq_some_iff] at h; obtain ⟨_, _, h⟩ := h; cases h
    ·cases h
   ·cases h
  | ptr o g i off =>
   simp only at h
   split at h
   ·split at h
    ·rw [Option.bind_eq_some_iff] at h; obtain ⟨_, _, h⟩ := h
     rw [Option.bind_eq_some_iff] at h; obtain ⟨_, _, h⟩ := h; cases h
    ·cases h
   ·cases h
  | agg cs => simp only [Option.bind_eq_some_iff] at h; obtain ⟨_, _, h⟩ := h; cases h
  | tup cs => simp only [Option.bind_eq_some_iff] at h; obtain ⟨_, _, h⟩ := h; cases h
  | fsl es c => simp only [Option.bind_eq_some_iff] at h; obtain ⟨_, _, h⟩ := h; cases h
  | fptr cs => simp only [Option.bind_eq_some_iff] at h; obtain ⟨_, _, h⟩ := h; cases h
  | fn f a b => simp only [Option.bind_eq_some_iff] at h; obtain ⟨_, _, _, _, h⟩ := h; cases h
  | yld o => cases h
  | mp o => cases h
theorem q7a {T : Tab} (hT : TabOk P T) {f : Nat} {cf : CFunc} (hc : T.code f = some cf) {as_ : List AV} {b : Bool} (h : qbb (evL T) f as_ = some (.v (.bool b))) {W : World} {args : Array Value} (hv : VRs Ctx.nil W as_ args.toList) :
  Calls P f args W fun e W' => e = .returned (.bool b) ∧ Below W.heap.size W W' := by
 unfold qbb at h
 rw [Option.bind_eq_some_iff] at h
 obtain ⟨⟨r, σ⟩, h1, h2⟩ := h
 obtain rfl := frz_bool (d := 5) h2
 have hn := evL_ok hT f as_ [] _ σ h1 Ctx.nil W args.toList (SR.nil P W) hv
 rw [Array.toArray_toList, hT.enter hc] at hn
 refine (callsIn_wide.1 hn).mono fun e W' he => ?_
 cases e with
 | returned v =>
  obtain ⟨Γ', k1, _, k3⟩ := he
  simp only [VR] at k1
  exact ⟨by rw [k1], k3.below⟩
 | panicked _ => exact he.elim
 | outgrown => exact he.elim
theorem q4n {f : Func} {s : ChangeSpec} {apart fresh handsOn again : Bool} {W W' : World} {args : Array Value} {ds gs : List (DataW H)} {before : List MemPlace} {tb : TypeId}
  (hvars : s.vars = []) (hspec : s.fn H (ds ++ gs) = { results := [.lit (.bool true)], args := ds }) (hr : f.resultTypes = #[tb]) (htb : P.underlying tb = some .bool) (hl : laidOutB P = true)
  (hts : ∀ t ∈ f.params.toList, P.readableRec t = true ∧ t < P.types.size)
  (hW : DataW.Whole enc P f.params.toList s.vars apart W args.toList ds gs before) (hb : Below W.heap.size W W') : s.post enc P f apart fresh handsOn again W args (.bool true) W' := by
 have hlt := hW.lt
 have hW' := hW
 obtain ⟨p, q, hA, hV, rfl, hz, hnd⟩ := hW
 rw [hvars] at hV
 obtain ⟨rfl, rfl⟩ := trodVars_none hV
 have hargs : ∀ sp : Nat → Bool, (∀ x ∈ p, sp x.block = true) → DataW.TrodAll enc P W' 0 sp true f.params.toList args.toList ds p := fun sp hs => qt2 hl hb hts hA (fun x hx => hlt x (by simp [hx])) hs
 have hres : ∀ (bb : Nat) (sp : Nat → Bool) (hd : Bool), DataW.TrodAll enc P W' bb sp hd f.resultTypes.toList ((Value.bool true).resultList f.resultTypes.size) [.lit (.bool true)] [] := fun bb sp hd => by
  rw [hr]
  exact trodAll_mk1 (shut_bool htb true)
 refine ⟨ds, [], p ++ [], [], p, [], hW', ?_, ?_, ?_, hb.frame _, fun _ => ⟨?_, ?_⟩⟩
 ·rw [hspec]; exact hres _ _ _
 ·rw [hspec]; exact hargs _ fun x hx => by simpa using hlt x (by simp [hx])
 ·rw [hspec, hvars]; rfl
 ·exact ok_one hr rfl (okWide_bool_mk htb true)
 ·refine ⟨[.lit (.bool true)] ++ ds, [], ([] ++ p) ++ [], ⟨[] ++ p, [], trodAll_append (hargs _ (fun _ _ => rfl)) (hres _ _ _), by rw [hvars]; rfl, rfl, ?_, ?_⟩, ?_⟩
  ·intro b off hp
   have hp' : MemPlace.cell b off ∈ p := by simpa using hp
   have hblt : b < W.heap.size := hlt (.cell b off) (by simp [hp'])
   rw [hb.frozen (p := ⟨b, off, none⟩) hblt]
   exact hz b off (by simp [hp'])
  ·intro ha
   simpa using hnd ha
  ·intro x hx _
   simpa using hx
end Go.Ev
namespace Go.Ev
open Go.RowKit (Below)
open Go.ChangeShapes Go.WideShapes Go.ChangeAt Go.RowKit
section
variable {H : Type} (P : Program) (enc : TypeId × Value → H)
def q1o (ts : List TypeId) {τ : Type} (c : τ → List AV) (ok : τ → Prop) : Prop :=
 ∀ (W : World) (args : List Value) (ds : List (DataW H)) (p : List MemPlace), DataW.TrodAll enc P W 0 (fun _ => true) true ts args ds p →
  (∀ (j : Nat) t v, ts[j]? = some t → args[j]? = some v → ∃ base, Value.okWide P W .any base t v) → ∃ x : τ, ok x ∧ VRs Ctx.nil W (c x) args ∧ ds.length = ts.length
variable {P enc}
def qaag : TypeDesc → Bool
 | .struct _ => false
 | .array _ _ => false
 | _ => true
theorem q4r {w : World} {r : Reach} {base : Nat} {t : TypeId} {v : Value} {u : TypeDesc} (hu : P.underlying t = some u) (hp : qaag u = true) (h : Value.okWide P w r base t v) : ∀ cs, v ≠ .agg cs := by
 rintro cs rfl
 unfold Value.okWide at h
 rw [hu] at h
 cases u <;> simp only [qaag, Bool.false_eq_true] at hp <;> simp only [Cell.okWide, Cell.ok, hu] at h
theorem q8g : q1o P enc [] (fun _ : Unit => []) (fun _ => True) := by
 intro W args ds p h _
 obtain ⟨rfl, rfl, rfl⟩ := trodAll_nil h
 exact ⟨(), trivial, by simp [VRs], rfl⟩
theorem q5s {t : TypeId} {ts : List TypeId} {u : TypeDesc} {α β : Type} {a : α → AV} {ok1 : α → Prop} {c2 : β → List AV} {ok2 : β → Prop} (hu : P.underlying t = some u) (hp : qaag u = true)
  (h1 : qlf P enc t (fun x => [a x]) ok1) (h2 : q1o P enc ts c2 ok2) : q1o P enc (t :: ts) (fun x : α × β => a x.1 :: c2 x.2) (fun x => ok1 x.1 ∧ ok2 x.2) := by
 intro W args ds p h hval
 obtain ⟨v, vs, d, ds', p, q, rfl, rfl, rfl, ht, hr⟩ := trodAll_cons h
 obtain ⟨y, k1, k2, k3⟩ := h2 W vs ds' q hr fun j t v e1 e2 => hval (j + 1) t v (by simpa using e1) (by simpa using e2)
 obtain ⟨fuel, hf⟩ := ht
 obtain ⟨x, m1, m2⟩ := h1 W fuel _ d p hf
 obtain ⟨base, hv⟩ := hval 0 t v rfl rfl
 have hna := q4r hu hp hv
 have hc : v.cells.toList = [v] := by
  cases v with
  | agg cs => exact absurd rfl (hna cs)
  | _ => rfl
 rw [hc] at m2
 simp only [VRs] at m2
 obtain ⟨v', r, e, m3, rfl⟩ := m2
 cases e
 refine ⟨(x, y), ⟨m1, k1⟩, ?_, by simp [k3]⟩
 simp only [VRs]
 exact ⟨v, vs, rfl, m3, k2⟩
theorem q2j {t : TypeId} {ts : List TypeId} {fs : Array Field} {α β : Type} {c1 : α → List AV} {ok1 : α → Prop} {c2 : β → List AV} {ok2 : β → Prop} (hu : P.underlying t = some (.struct fs))
  (h1 : qlf P enc t c1 ok1) (h2 : q1o P enc ts c2 ok2) : q1o P enc (t :: ts) (fun x : α × β => .agg (c1 x.1) :: c2 x.2) (fun x => ok1 x.1 ∧ ok2 x.2) := by
 intro W args ds p h hval
 obtain ⟨v, vs, d, ds', p, q, rfl, rfl, rfl, ht, hr⟩ := trodAll_cons h
 obtain ⟨y, k1, k2, k3⟩ := h2 W vs ds' q hr fun j t v e1 e2 => hval (j + 1) t v (by simpa using e1) (by simpa using e2)
 obtain ⟨fuel, hf⟩ := ht
 obtain ⟨x, m1, m2⟩ := h1 W fuel _ d p hf
 obtain ⟨base, hv⟩ := hval 0 t v rfl rfl
 obtain ⟨cs, rfl, _⟩ := okWide_struct hu hv
 refine ⟨(x, y), ⟨m1, k1⟩, ?_, by simp [k3]⟩
 simp only [VRs]
 refine ⟨_, vs, rfl, ?_, k2⟩
 simp only [VR]
 exact ⟨cs.toList, by simp, by simpa [Value.cells] using m2⟩
end
theorem q49 {H : Type} {enc : TypeId × Value → H} {P : Program} {T : Tab} (hT : TabOk P T) {f : Nat} {fn : Func} {cf : CFunc} (hc : T.code f = some cf) {s : ChangeSpec} {apart : Bool} {ts : List TypeId} {tb : TypeId} {τ : Type} {c : τ → List AV} {ok : τ → Prop}
  (hpar : fn.params.toList = ts) (hargs : q1o P enc ts c ok) (hlaw : ∀ x, ok x → qbb (evL T) f (c x) = some (.v (.bool true)))
  (hvars : s.vars = []) (hspec : ∀ ds : List (DataW H), ds.length = ts.length → s.fn H ds = { results := [.lit (.bool true)], args := ds })
  (hr : fn.resultTypes = #[tb]) (htb : P.underlying tb = some .bool) (hl : laidOutB P = true) (hts : ∀ t ∈ ts, P.readableRec t = true ∧ t < P.types.size)
  (W : World) (base : Nat) (args : Array Value) (ds gs : List (DataW H)) (before : List MemPlace) (hval : ∀ (j : Nat) t v, fn.params[j]? = some t → args[j]? = some v → Value.okWide P W .any base t v)
  (hW : DataW.Whole enc P fn.params.toList s.vars apart W args.toList ds gs before) : Calls P f args W fun e W' => ∃ v, e = .returned v ∧ s.post enc P fn apart true false false W args v W' := by
 have hW' := hW
 obtain ⟨p, q, hA, hV, rfl, hz, hnd⟩ := hW
 rw [hvars] at hV
 obtain ⟨rfl, rfl⟩ := trodVars_none hV
 obtain ⟨x, h1, h2, h3⟩ := hargs W args.toList ds p (hpar ▸ hA) fun j t v e1 e2 => ⟨base, hval j t v (by rw [← hpar] at e1; simpa using e1) (by simpa using e2)⟩
 refine (q7a hT hc (hlaw x h1) h2).mono fun e W' ⟨he, hb⟩ => ⟨_, he, ?_⟩
 exact q4n hvars (by rw [List.append_nil]; exact hspec ds h3) hr htb hl (by rw [hpar]; exact hts) hW' hb
end Go.Ev
namespace Go.Proofs.Ytbhhifdhlafklaa.K
open Go.Ev
open Go.ChangeShapes Go.WideShapes Go.ChangeAt Go.RowKit
section
variable {H : Type} {enc : TypeId × Value → H}
theorem wf_u8 {n : Int} (h : (Lit.int .u8 n).wf = true) : 0 ≤ n ∧ n ≤ 255 := by
 simp [Lit.wf] at h
 have h1 : IntKind.u8.min = 0 := rfl
 have h2 : IntKind.u8.max = 255 := rfl
 omega
theorem wf_i64 {n : Int} (h : (Lit.int .i64 n).wf = true) : -9223372036854775808 ≤ n ∧ n ≤ 9223372036854775807 := by
 simp [Lit.wf] at h
 have h1 : IntKind.i64.min = -9223372036854775808 := rfl
 have h2 : IntKind.i64.max = 9223372036854775807 := rfl
 omega
theorem qm1 : qlf Try.prog enc 3 (fun n : Int => [(ii n)]) (fun n => -9223372036854775808 ≤ n ∧ n ≤ 9223372036854775807) := (q1b Try.underlying3).map id (fun _ => rfl) (fun _ h => wf_i64 h)
theorem data_u8 : qlf Try.prog enc 5 (fun n : Int => [(.v (.int .u8 n))]) (fun n => 0 ≤ n ∧ n ≤ 255) := (q1b Try.underlying5).map id (fun _ => rfl) (fun _ h => wf_u8 h)
theorem data_op : qlf Try.prog enc 81 OpI.r (fun _ => True) := by
 have h := qou (P := Try.prog) (enc := enc) (t := 81) Try.underlying81 (qfg (sz := 1) rfl (by kernel_rfl) qm1 (qfg (sz := 1) rfl (by kernel_rfl) qm1 (qfg (sz := 1) rfl (by kernel_rfl) qm1 (qfg (sz := 1) rfl (by kernel_rfl) qm1 (qqv _))))) (by kernel_rfl)
 exact h.map (fun x => (⟨x.1, x.2.1, x.2.2.1, x.2.2.2.1⟩ : OpI)) (fun _ => rfl) (fun _ _ => trivial)
theorem qaa0 : qlf Try.prog enc 82 (fun l : List OpI => [(.fsl ((l).map OpI.r) false)]) (fun l => (∀ x ∈ l, True) ∧ l.length ≤ maxLen) := qod (sz := 4) Try.underlying82 (by kernel_rfl) (by decide) (fun _ => rfl) data_op
theorem q7x : qlf Try.prog enc 23 (fun l : List (List OpI) => [(.fsl ((l).map qc2) false)]) (fun l => (∀ x ∈ l, (∀ y ∈ x, True) ∧ x.length ≤ maxLen) ∧ l.length ≤ maxLen) := qod (sz := 1) Try.underlying23 (by kernel_rfl) (by decide) (fun _ => rfl) qaa0
theorem q8b : qlf Try.prog enc 78 Start.r (fun _ => True) := by
 have h := qou (P := Try.prog) (enc := enc) (t := 78) Try.underlying78 (qfg (sz := 1) rfl (by kernel_rfl) qm1 (qfg (sz := 1) rfl (by kernel_rfl) qm1 (qqv _))) (by kernel_rfl)
 exact h.map (fun x => (⟨x.1, x.2.1⟩ : Start)) (fun _ => rfl) (fun _ _ => trivial)
theorem q5x : qlf Try.prog enc 79 (fun l : List Start => [(.fsl ((l).map Start.r) false)]) (fun l => (∀ x ∈ l, True) ∧ l.length ≤ maxLen) := qod (sz := 2) Try.underlying79 (by kernel_rfl) (by decide) (fun _ => rfl) q8b
theorem data_lps : qlf Try.prog enc 22 (fun l : List (List Start) => [(.fsl ((l).map lpC) false)]) (fun l => (∀ x ∈ l, (∀ y ∈ x, True) ∧ x.length ≤ maxLen) ∧ l.length ≤ maxLen) := qod (sz := 1) Try.underlying22 (by kernel_rfl) (by decide) (fun _ => rfl) q5x
theorem data_cfg : qlf Try.prog enc 25 (fun c : Cfg => [(.fsl ((c.lps).map lpC) false), (.fsl ((c.progs).map qc2) false), (ii c.look), (ii c.fin), (ii c.cap)]) (fun c => -9223372036854775808 ≤ c.look ∧ c.look ≤ 9223372036854775807) := by
 have h := qou (P := Try.prog) (enc := enc) (t := 25) Try.underlying25 (qfg (sz := 1) rfl (by kernel_rfl) data_lps (qfg (sz := 1) rfl (by kernel_rfl) q7x (qfg (sz := 1) rfl (by kernel_rfl) qm1 (qfg (sz := 1) rfl (by kernel_rfl) qm1 (qfg (sz := 1) rfl (by kernel_rfl) qm1 (qqv _)))))) (by kernel_rfl)
 exact h.map (fun x => (⟨x.1, x.2.1, x.2.2.1, x.2.2.2.1, x.2.2.2.2.1⟩ : Cfg)) (fun _ => rfl) (fun _ h => h.2.2.1)
end
theorem own : ownKnob Try.prog.godebug = none := by kernel_rfl
theorem laid : laidOutB Try.prog = true := by kernel_rfl
end Go.Proofs.Ytbhhifdhlafklaa.K
