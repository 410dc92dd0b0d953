/- For every input the statement of this claim returns true: texts of its proof, joined (part 12). -/
import Derived.ChangeShapes
import Derived.ChangeOld
import Derived.ChangeArms
import Derived.DataReads
import Derived.Carry
import Derived.ChangeSame
import Derived.OpenShut
import Derived.Handed
import Derived.RowKit3
import Derived.ChangeAt
import Derived.Test.YtbhhifdhlafklaaGreatRows
import Derived.WalkKit
import Derived.ProofKit
import Derived.Test.YtbhhifdhlafklaaGreatEZO3
import Derived.Test.YtbhhifdhlafklaaGreatGZO10
set_option linter.unusedSectionVars false
set_option linter.unusedSimpArgs false
set_option linter.unusedVariables false
namespace Go.Proofs.YtbhhifdhlafklaaGreat.K
open Go.Ev
set_option maxRecDepth 10000
section
variable {c : Cfg} {s : Sim} {h : List Evt}
def LOk (L : List (Lp × Bool)) (s : Sim) : Prop := L.map Prod.fst = s.lps ∧ ∀ x ∈ L, x.2 = true → x.1.procs = []
theorem rsim_L (lim : Nat) (hlim : lim ≤ 60) : ∀ (k : Nat) {s : Sim} {h : List Evt} {L : List (Lp × Bool)}, s.n + k = lim → SInv c s h → LOk L s →
  ∃ y, itB (exec (evL T) itL none qd7) (qr [1, 2, 4, 5] true 2) ⟨[(1, (ii lim)), (2, (.fptr [(.fsl ((c.lps).map lpC) false), (.fsl ((c.progs).map qc1) false), (ii c.look), (ii c.fin), (ii c.cap)])), (4, .ptr 0 0 0 0), (5, .ptr 1 0 0 0)], []⟩ [.row 5 [[.fsl [] false, .fsl [] false, .fsl [] false, (ii 0), (bb false)]] 0, .row 5 [[(.fsl ((s.trace).map qaz) false), (.fsl ((L).map lpF) false), (.fsl ((s.pend).map Evt.r) false), (ii s.n), (bb s.over)]] 0] = some y ∧
   ∃ L' : List (Lp × Bool), LOk L' (Sim.run c k s) ∧ y.1 = .exit 0 ∧ y.2.1.marks = [] ∧ y.2.2 = [.row 5 [[.fsl [] false, .fsl [] false, .fsl [] false, (ii 0), (bb false)]] 0, .row 5 [[(.fsl (((Sim.run c k s).trace).map qaz) false), (.fsl ((L').map lpF) false), (.fsl (((Sim.run c k s).pend).map Evt.r) false), (ii ((Sim.run c k s).n)), (bb ((Sim.run c k s).over))]] 0] ∧ Ev.look y.2.1.vars 4 = some (.ptr 0 0 0 0) ∧ Ev.look y.2.1.vars 5 = some (.ptr 1 0 0 0) := by
 intro k
 induction k with
 | zero =>
  intro s h L hk H hL
  have c1 : ¬ (s.n : Int) < (lim : Int) := by omega
  have hx : ∃ y, it1 (exec (evL T) itL none qd7) (qr [1, 2, 4, 5] true 2) ⟨[(1, (ii lim)), (2, (.fptr [(.fsl ((c.lps).map lpC) false), (.fsl ((c.progs).map qc1) false), (ii c.look), (ii c.fin), (ii c.cap)])), (4, .ptr 0 0 0 0), (5, .ptr 1 0 0 0)], []⟩ [.row 5 [[.fsl [] false, .fsl [] false, .fsl [] false, (ii 0), (bb false)]] 0, .row 5 [[(.fsl ((s.trace).map qaz) false), (.fsl ((L).map lpF) false), (.fsl ((s.pend).map Evt.r) false), (ii s.n), (bb s.over)]] 0] = some (.inr y) ∧ y.1 = .exit 0 ∧ y.2.1.marks = [] ∧ y.2.2 = [.row 5 [[.fsl [] false, .fsl [] false, .fsl [] false, (ii 0), (bb false)]] 0, .row 5 [[(.fsl ((s.trace).map qaz) false), (.fsl ((L).map lpF) false), (.fsl ((s.pend).map Evt.r) false), (ii s.n), (bb s.over)]] 0] ∧ Ev.look y.2.1.vars 4 = some (.ptr 0 0 0 0) ∧ Ev.look y.2.1.vars 5 = some (.ptr 1 0 0 0) := by
   simp only [qd7, c1, Ev.exec, qb, qe, qc, qai, Ev.Opnd.ev, Ev.Env.get, Ev.Env.set, Ev.Env.unset, Ev.look, qk, qae, ql, ↓qs, Ev.it1, ↓reduceIte, zgd, zge, zgf, zgg, zgh, Nat.reduceEqDiff, zgw, zfa, zfd, zgy]
   exact ⟨_, rfl, rfl, rfl, rfl, rfl, rfl⟩
  obtain ⟨y, h1, h2, h3, h4, h5, h6⟩ := hx
  exact ⟨y, qql h1, L, hL, h2, h3, h4, h5, h6⟩
 | succ k ih =>
  intro s h L hk H hL
  have c1 : (s.n : Int) < (lim : Int) := by omega
  have c2 : (s.n : Int) < 2000 := by omega
  by_cases hb : s.ready c = true
  ·obtain ⟨e, rest, hp, hf⟩ := q2z hb
   have hhl : h.length ≤ 60 := by have := H.n; omega
   obtain ⟨L1, l1, l2, hc⟩ := q9f H hp hhl L hL.1 hL.2
   obtain ⟨y, g1, g2⟩ := ih (s := s.step c e rest) (h := h ++ [e]) (by show s.n + 1 + k = lim; omega) (H.step hp (by omega) hf) ⟨l1, l2⟩
   have hrun : Sim.run c (k + 1) s = Sim.run c k (s.step c e rest) := by rw [Sim.run, if_pos hb, go_eq hp]
   rw [hrun]
   refine ⟨y, q3n ?_ g1, g2⟩
   have c3 : ((rest.length + 1 : Nat) : Int) > 0 := by omega
   rw [hp] at hc ⊢
   obtain ⟨et, ek, el, ei, ep, ea⟩ := e
   simp only at hf
   simp only [List.map_cons, Evt.r] at hc ⊢
   simp only [qd7, c1, c2, c3, hf, hc, Int.le_refl, Int.toNat_zero, qdn, qqr, qv, qc4, qbe, qag, Ev.exec, qb, qe, qc, qa5, qai, Ev.evs, Ev.Opnd.ev, Ev.Env.get, Ev.Env.set, Ev.look, qk, qae, Ev.AV.cells, qy, Ev.AV.plain, ql, qas, qr, Ev.keep, qad, qw, qd, Ev.SObj.lo, qa1, qbd, qu, qb1, qf0, qj, qh, qac, qao, zgi, ↓qs, Ev.it1, ↓reduceIte, zga, zgb, zgd, zge, zgc, zgo, zfe, zgf, zgg, List.drop_nil, zgl, zgn, zgj, zgk, zgh, Nat.reduceAdd, Nat.reduceEqDiff, Nat.reduceLT, zgv, zfc, zfa, zgx, zfd, zgu, Nat.le_refl, zgy]
  ·have hb' : s.ready c = false := by simpa using hb
   have hrun : Sim.run c (k + 1) s = s := by rw [Sim.run, if_neg hb]
   rw [hrun]
   have hx : ∃ y, it1 (exec (evL T) itL none qd7) (qr [1, 2, 4, 5] true 2) ⟨[(1, (ii lim)), (2, (.fptr [(.fsl ((c.lps).map lpC) false), (.fsl ((c.progs).map qc1) false), (ii c.look), (ii c.fin), (ii c.cap)])), (4, .ptr 0 0 0 0), (5, .ptr 1 0 0 0)], []⟩ [.row 5 [[.fsl [] false, .fsl [] false, .fsl [] false, (ii 0), (bb false)]] 0, .row 5 [[(.fsl ((s.trace).map qaz) false), (.fsl ((L).map lpF) false), (.fsl ((s.pend).map Evt.r) false), (ii s.n), (bb s.over)]] 0] = some (.inr y) ∧ y.1 = .exit 0 ∧ y.2.1.marks = [] ∧ y.2.2 = [.row 5 [[.fsl [] false, .fsl [] false, .fsl [] false, (ii 0), (bb false)]] 0, .row 5 [[(.fsl ((s.trace).map qaz) false), (.fsl ((L).map lpF) false), (.fsl ((s.pend).map Evt.r) false), (ii s.n), (bb s.over)]] 0] ∧ Ev.look y.2.1.vars 4 = some (.ptr 0 0 0 0) ∧ Ev.look y.2.1.vars 5 = some (.ptr 1 0 0 0) := by
    unfold Sim.ready at hb'
    cases hp : s.pend with
    | nil =>
     simp only [List.map_nil]
     simp only [qd7, c1, c2, gt_iff_lt, Int.lt_irrefl, Ev.exec, qb, qe, qc, qai, Ev.Opnd.ev, Ev.Env.get, Ev.Env.set, Ev.Env.unset, Ev.look, qk, qae, ql, qas, ↓qs, Ev.it1, ↓reduceIte, zgb, zgd, zge, zgf, zgg, zgh, Nat.reduceEqDiff, Int.cast_ofNat_Int, zgv, zgw, zfa, zfd, zgy]
     exact ⟨_, rfl, rfl, rfl, rfl, rfl, rfl⟩
    | cons e rest =>
     rw [hp] at hb'
     simp only [decide_eq_false_iff_not] at hb'
     have c3 : ((rest.length + 1 : Nat) : Int) > 0 := by omega
     obtain ⟨et, ek, el, ei, ep, ea⟩ := e
     simp only at hb'
     simp only [List.map_cons, Evt.r]
     simp only [qd7, c1, c2, c3, hb', Int.le_refl, Int.toNat_zero, Ev.exec, qb, qe, qc, qai, Ev.Opnd.ev, Ev.Env.get, Ev.Env.set, Ev.look, qk, qae, ql, qas, zgi, ↓qs, Ev.it1, ↓reduceIte, zga, zgb, zgd, zge, zgf, zgg, zgh, Nat.reduceAdd, Nat.reduceEqDiff, zgv, zgw, zfa, zfd, zgy]
     exact ⟨_, rfl, rfl, rfl, rfl, rfl, rfl⟩
   obtain ⟨y, h1, h2, h3, h4, h5, h6⟩ := hx
   exact ⟨y, qql h1, L, hL, h2, h3, h4, h5, h6⟩
theorem LOk.start (c : Cfg) : LOk (qlo c.lps) (start c) := by
 refine ⟨rfl, fun x hx hf => ?_⟩
 simp only [qlo, q85, List.mem_map] at hx
 obtain ⟨ps, ⟨l, _, rfl⟩, rfl⟩ := hx
 simpa [stLp] using hf
theorem q6j (G : Good c) (lim : Nat) (hlim : lim ≤ 60) : ∃ L : List (Lp × Bool), LOk L (runS c lim) ∧ qa4 (evL T) qgm [(.agg [(.fsl ((c.lps).map lpC) false), (.fsl ((c.progs).map qc1) false), (ii c.look), (ii c.fin), (ii c.cap)]), (ii lim)] = some (.agg [(.fsl (((runS c lim).trace).map qaz) false), (.fsl ((L).map lpF) false), (.fsl (((runS c lim).pend).map Evt.r) false), (ii ((runS c lim).n)), (bb ((runS c lim).over))]) := by
 have hs := qaay c G.h12 G.v.lps.1
 obtain ⟨⟨y, e, σ⟩, k1, L, hL, k2, k3, k4, k5, k6⟩ := rsim_L (c := c) lim hlim lim (by show 0 + lim = lim; omega) (SInv.start G.v) (LOk.start c)
 simp only at k2 k3 k4 k5 k6
 subst k2; subst k4
 refine ⟨L, hL, ?_⟩
 unfold runS
 generalize start c = s0 at *
 rw [qa4, qx quc qtw]
 simp only [qle, hs, k1, k3, k5, k6, qdn, qqr, qv, qc4, qbe, qn, Ev.exec, qb, qe, qc, qa5, qai, Ev.evs, Ev.Opnd.ev, Ev.Env.get, Ev.Env.set, Ev.look, qo, qk, qae, Ev.AV.cells, qy, Ev.AV.plain, qm, qab, qaj, Ev.kill, qah, qr, Ev.keep, qad, qw, qd, Ev.SObj.lo, qa1, qbd, qu, qb1, qf0, qj, qh, qac, qao, qal, ↓qs, ↓qaq, ↓reduceIte, zga, zgb, zgd, zge, zgc, zgo, zfe, zgf, zgg, List.drop_nil, zgm, zgl, zgn, zgj, zgk, Nat.reduceAdd, Nat.reduceEqDiff, Nat.reduceLT, reduceCtorEq, zgv, zfc, zgx, ne_eq, zfb, zff, zfd, zgu, Nat.le_refl, zgy]
end
set_option maxRecDepth 10000
def qfo (n : Nat) (l : List Evt) : List (List Evt) := (List.range n).map fun i => sortL (qcy l i)
theorem q9b (l : List Evt) (k : Nat) (e : Evt) (i : Nat) (h : l[k]? = some e) : qcy (l.take (k + 1)) i = if e.lp = i then qcy (l.take k) i ++ [e] else qcy (l.take k) i := by
 rw [List.take_add_one, h]; exact qsa _ _ _
theorem q9j {l : List Evt} (h : qsl l) (i : Nat) : qsl (qcy l i) := h.sub List.filter_sublist
section
variable (l : List Evt) (cl : Bool)
theorem qabr (hl : l.length ≤ 1000000) (hk : qcr l) (hd : qsl l) (i n : Nat) (R : List (List AV)) (g : Nat) (hlo : qg9 1 R = true) :
  ∃ y, itB (exec (evL T) itL none qhp) (qr [0, 1, 5, 6, 7, 8] true 1) ⟨[(0, (ii n)), (1, (.fsl ((l).map Evt.r) cl)), (5, .sl 0 g 0 R.length false), (6, (ii i)), (7, .fsl [] true), (8, (ii ((0 : Nat))))], []⟩ [.row 1 R g] = some y ∧
   ∃ cf : Bool, y.1 = .exit 2 ∧ y.2.1.marks = [] ∧ y.2.2 = [.row 1 R g] ∧ Ev.look y.2.1.vars 0 = some (ii n) ∧ Ev.look y.2.1.vars 1 = some (.fsl ((l).map Evt.r) cl) ∧ Ev.look y.2.1.vars 5 = some (.sl 0 g 0 R.length false) ∧ Ev.look y.2.1.vars 6 = some (ii i) ∧ Ev.look y.2.1.vars 7 = some (.fsl (((sortL (qcy l i))).map Evt.r) cf) := by
 have key := qeu (f := exec (evL T) itL none qhp) (s := qr [0, 1, 5, 6, 7, 8] true 1) (α := List Evt × Bool)
  (fun k a => ⟨[(0, (ii n)), (1, (.fsl ((l).map Evt.r) cl)), (5, .sl 0 g 0 R.length false), (6, (ii i)), (7, (.fsl ((a.1).map Evt.r) a.2)), (8, (ii k))], []⟩) (fun _ _ => [.row 1 R g]) (fun k a => a.1 = sortL (qcy (l.take k) i)) l.length
  (fun y => ∃ cf : Bool, y.1 = .exit 2 ∧ y.2.1.marks = [] ∧ y.2.2 = [.row 1 R g] ∧ Ev.look y.2.1.vars 0 = some (ii n) ∧ Ev.look y.2.1.vars 1 = some (.fsl ((l).map Evt.r) cl) ∧ Ev.look y.2.1.vars 5 = some (.sl 0 g 0 R.length false) ∧ Ev.look y.2.1.vars 6 = some (ii i) ∧ Ev.look y.2.1.vars 7 = some (.fsl (((sortL (qcy l i))).map Evt.r) cf)) ?_ ?_ 0 ([], true) (Nat.zero_le _) (by simp [sortL, qcy])
 ·exact key
 ·rintro k ⟨b, c⟩ hk' hb
  simp only at hb ⊢
  obtain ⟨e, he⟩ : ∃ e, l[k]? = some e := ⟨_, List.getElem?_eq_getElem hk'⟩
  have hk1 : (k : Int) < (l.length : Int) := by omega
  have hw : IntKind.i64.wrap ((k : Int) + 1) = ((k + 1 : Nat) : Int) := by rw [qaw (by omega) (by omega)]; simp
  have ho := q9b l k e i he
  by_cases hi : e.lp = i
  ·rw [if_pos hi] at ho
   have sl : ∀ z ∈ qcy (l.take k) i, z ∈ l := fun z hz => List.mem_of_mem_take (List.mem_filter.1 hz).1
   have hds : qsl (qcy (l.take (k + 1)) i) := q9j (hd.sub (List.take_sublist _ _)) i
   rw [ho] at hds
   have pb := qd2 (qcy (l.take k) i)
   have hd2 : qsl (e :: b) := by rw [hb]; exact hds.perm ((pb.cons e).trans (List.perm_append_singleton e _).symm)
   have hbl : b.length ≤ 1000000 := by
    rw [hb, qox]
    have := List.length_filter_le (fun e : Evt => decide (e.lp = i)) (l.take k)
    have := List.length_take_le' k l
    unfold qcy; omega
   have hI := q1e b c e hbl (fun z hz => hk z (sl z (pb.mem_iff.1 (by rw [← hb]; exact hz)))) (hk e (List.mem_of_getElem? he)) (by rw [hb]; exact qfj _) hd2
   have hse : sortL (e :: b) = sortL (qcy (l.take k) i ++ [e]) := qur hds (by rw [hb]; exact (pb.cons e).trans (List.perm_append_singleton e _).symm)
   refine .inl ⟨(sortL (e :: b), false), ?_, by simp only; rw [ho, hse]⟩
   clear hse hd2 hds ho hb
   obtain ⟨et, ek, el, ei, ep, ea⟩ := e
   simp only at hi
   subst hi
   simp only at hI
   generalize sortL (⟨et, ek, (i : Int), ei, ep, ea⟩ :: b) = B at *
   simp only [qhp, zgs, zgr, zgq, zgt, he, hk1, hw, hI, hlo, Evt.r, qv, qag, Ev.exec, qb, qe, qc, qa5, qai, Ev.evs, Ev.Opnd.ev, Ev.Env.get, Ev.Env.set, Ev.look, qk, qae, qaf, qam, ql, qr, Ev.keep, qad, qw, qd, Ev.SObj.lo, qa1, qbd, qu, qbn, qj, qh, zgi, ↓qs, Ev.it1, ↓reduceIte, zga, zgb, zgc, zfe, zgf, zgg, zgh, Nat.reduceAdd, Nat.reduceEqDiff, reduceCtorEq, zgv, zfc, zfa, zgx, zfd, zgu, Nat.le_refl, zgy]
  ·rw [if_neg hi] at ho
   refine .inl ⟨(b, c), ?_, by simp only; rw [ho, hb]⟩
   obtain ⟨et, ek, el, ei, ep, ea⟩ := e
   simp only at hi
   simp only [qhp, zgs, zgr, zgq, zgt, he, hk1, hw, hi, hlo, Evt.r, qv, Ev.exec, qb, qe, qc, qai, Ev.Opnd.ev, Ev.Env.get, Ev.Env.set, Ev.look, qk, qae, qaf, qam, ql, qr, Ev.keep, qad, qw, qd, Ev.SObj.lo, qa1, qu, qbn, zgi, ↓qs, Ev.it1, ↓reduceIte, zga, zgb, zgc, zfe, zgf, zgg, zgh, Nat.reduceAdd, Nat.reduceEqDiff, reduceCtorEq, zgv, zgw, zfc, zfa, zgx, zfd, zgu, zgy]
 ·rintro ⟨b, c⟩ hb
  simp only [List.take_length] at hb ⊢
  simp only [qhp, Int.lt_irrefl, Ev.exec, qb, qe, qc, qai, Ev.Opnd.ev, Ev.Env.get, Ev.Env.set, Ev.look, ql, zgi, ↓qs, Ev.it1, ↓reduceIte, Nat.reduceEqDiff, reduceCtorEq, zgw, zfa, zgy]
  exact ⟨_, rfl, c, rfl, rfl, rfl, rfl, rfl, rfl, rfl, by rw [← hb]; rfl⟩
theorem qacd (n : Nat) (hn : n ≤ 8) (hl : l.length ≤ 1000000) (hk : qcr l) (hd : qsl l) : qa4 (evL T) qi7 [(ii n), (.fsl ((l).map Evt.r) cl)] = some (.fsl (((qfo n l)).map qaz) false) := by
 have hL : ∃ y, itB (exec (evL T) itL none qjr) (qr [0, 1, 5, 6] true 1) ⟨[(0, (ii n)), (1, (.fsl ((l).map Evt.r) cl)), (5, .sl 0 0 0 0 false), (6, (ii ((0 : Nat))))], []⟩ [.row 1 [] 0] = some y ∧
   ∃ g : Nat, y.1 = .exit 0 ∧ y.2.1.marks = [] ∧ y.2.2 = [.row 1 ((qfo n l).map qaz) g] ∧ Ev.look y.2.1.vars 5 = some (.sl 0 g 0 n false) := by
  have key := qeu (f := exec (evL T) itL none qjr) (s := qr [0, 1, 5, 6] true 1) (α := Nat)
   (fun i a => ⟨[(0, (ii n)), (1, (.fsl ((l).map Evt.r) cl)), (5, .sl 0 a 0 i false), (6, (ii i))], []⟩) (fun i a => [.row 1 ((qfo i l).map qaz) a]) (fun i a => True) n
   (fun y => ∃ g : Nat, y.1 = .exit 0 ∧ y.2.1.marks = [] ∧ y.2.2 = [.row 1 ((qfo n l).map qaz) g] ∧ Ev.look y.2.1.vars 5 = some (.sl 0 g 0 n false)) ?_ ?_ 0 0 (Nat.zero_le _) trivial
  ·exact key
  ·rintro i g hi _
   have hbl : ((qfo i l).map qaz).length = i := by simp [qfo]
   obtain ⟨⟨y, e, σ⟩, k1, cf, k2, k3, k4, k5, k6, k7, k8, k9⟩ := qabr l cl hl hk hd i n ((qfo i l).map qaz) g (qdn _ _)
   simp only [Int.ofNat_zero, hbl] at k1 k2 k3 k4 k5 k6 k7 k8 k9
   subst k2; subst k4
   have hi' : (i : Int) < (n : Int) := by omega
   have hi8 : (i : Int) < 8 := by omega
   have hw : IntKind.i64.wrap ((i : Int) + 1) = ((i + 1 : Nat) : Int) := by rw [qaw (by omega) (by omega)]; simp
   have hnx : (qfo (i + 1) l).map qaz = (qfo i l).map qaz ++ [[(.fsl (((sortL (qcy l i))).map Evt.r) false)]] := by unfold qfo; rw [List.range_succ]; simp [qaz]
   have lo := qdn 1 (qfo (i + 1) l)
   have lo0 := qdn 1 (qfo i l)
   rw [hnx] at lo
   have tk : List.take i ((qfo i l).map qaz) = (qfo i l).map qaz := List.take_of_length_le (by omega)
   have bd : (i + 1) * 24 ≤ 140737488355328 := by omega
   have hle : i ≤ i := Nat.le_refl _
   refine .inl ⟨g + 1, ?_, trivial⟩
   rw [hnx]
   generalize (qfo i l).map qaz = R at *
   simp only [qjr, hi', hi8, hw, k1, k3, k5, k6, k7, k8, k9, lo, lo0, tk, bd, hbl, hle, qv, Ev.exec, qb, qe, qc, qai, qn9, Ev.Opnd.ev, Ev.Env.get, Ev.Env.set, Ev.look, qb0, qf6, Ev.AV.cells, Ev.AV.uc, qy, Ev.AV.plain, qaf, ql, qr, Ev.keep, qad, qw, qd, Ev.SObj.lo, qa1, qu, qbn, qac, qbl, qa9, List.replicate_one, ↓qs, ↓qaq, Ev.it1, ↓reduceIte, zga, zgb, zgd, zgc, zfe, zgj, Nat.reduceEqDiff, Nat.reduceMul, Nat.reduceLeDiff, Nat.reducePow, reduceCtorEq, zgv, zfc, zgx, ne_eq, zfb, zff, zfd, zgu, zgy]
  ·rintro g _
   simp only [qjr, Int.lt_irrefl, Ev.exec, qb, qe, qc, qai, Ev.Opnd.ev, Ev.Env.get, Ev.Env.set, Ev.Env.unset, Ev.look, ql, ↓qs, Ev.it1, ↓reduceIte, Nat.reduceEqDiff, reduceCtorEq, zgw, zfa, zgy]
   exact ⟨_, rfl, g, rfl, rfl, rfl, rfl⟩
 obtain ⟨⟨y, e, σ⟩, k1, g, k2, k3, k4, k5⟩ := hL
 simp only [Int.ofNat_zero] at k1 k2 k3 k4 k5
 subst k2; subst k4
 have hbl : (qfo n l).length = n := by simp [qfo]
 have tk : List.take n ((qfo n l).map qaz) = (qfo n l).map qaz := List.take_of_length_le (by simp [hbl])
 have hle : n ≤ n := Nat.le_refl _
 rw [qa4, qx qzr qxo]
 simp only [qnc, k1, k3, k5, tk, hbl, hle, qv, qdn, zgi, qn, Ev.exec, qb, qe, qc, qai, Ev.Opnd.ev, Ev.Env.get, Ev.Env.set, Ev.look, qo, qm, qab, qaj, Ev.kill, qah, qr, Ev.keep, qad, qw, qd, Ev.SObj.lo, qa1, qu, qbn, qac, qgx, qe8, zgi, ↓qs, ↓qaq, ↓reduceIte, zga, zgb, zgd, zgc, zgo, zfe, zgg, zgl, Nat.reduceAdd, Nat.reduceEqDiff, Nat.reduceLT, reduceCtorEq, zgv, zgw, zfc, zfa, zgx, and_true, zfd, zgu, zgy]
end
theorem Quick_ev (c : Cfg) : ∃ b : Bool, qa4 (evL T) qi5 [(.agg [(.fsl ((c.lps).map lpC) false), (.fsl ((c.progs).map qc1) false), (ii c.look), (ii c.fin), (ii c.cap)])] = some (bb b) ∧ (b = true → okB c = true ∧ c.look ≤ 8 ∧ c.lps.length ≤ 4) := by
 have hg := q1w c
 have hr := q2b c
 rw [qa4, qx qzt qw6]
 by_cases h1 : qs5 c = true
 ·rw [h1] at hg
  exact ⟨false, by simp only [qgs, hg, qc4, qbe, qn, Ev.exec, qb, qe, qc, qa5, qai, Ev.evs, Ev.Opnd.ev, Ev.Env.get, Ev.Env.set, Ev.Env.unset, Ev.look, qo, qk, qae, Ev.AV.cells, qy, Ev.AV.plain, qm, qab, qaj, Ev.kill, qah, qd, qa1, qbd, qu, qj, qh, qal, ↓qs, ↓reduceIte, zga, zgb, zgc, zfe, Nat.reduceAdd, Nat.reduceEqDiff, zfc, Bool.true_eq_false, zgx, ne_eq, zfb, zff, zfd, Nat.le_refl, zgy], fun h => by cases h⟩
 simp only [Bool.not_eq_true] at h1
 rw [h1] at hg
 by_cases h2 : q87 c = 0
 case neg => exact ⟨false, by simp only [qgs, hg, hr, h2, qc4, qbe, qn, Ev.exec, qb, qe, qc, qa5, qai, Ev.evs, Ev.Opnd.ev, Ev.Env.get, Ev.Env.set, Ev.Env.unset, Ev.look, qo, qk, qae, Ev.AV.cells, qy, Ev.AV.plain, qbx, qm, qab, qaj, Ev.kill, qah, qd, qa1, qbd, qu, qj, qh, qal, ↓qs, ↓reduceIte, zga, zgb, zgc, zfe, Nat.reduceAdd, Nat.reduceEqDiff, zgv, zfc, zfa, Bool.true_eq_false, zgx, ne_eq, zfb, zff, zfd, Nat.le_refl, zgy], fun h => by cases h⟩
 rw [h2] at hr
 by_cases h3 : c.look > 8
 ·exact ⟨false, by simp only [qgs, hg, hr, h3, qc4, qbe, qn, Ev.exec, qb, qe, qc, qa5, qai, Ev.evs, Ev.Opnd.ev, Ev.Env.get, Ev.Env.set, Ev.Env.unset, Ev.look, qo, qk, qae, Ev.AV.cells, qy, Ev.AV.plain, qbx, qas, qm, qab, qaj, Ev.kill, qah, qd, qa1, qbd, qu, qj, qh, qal, ↓qs, ↓reduceIte, zga, zgb, zgc, zfe, zgf, zgg, zgh, Nat.reduceAdd, Nat.reduceEqDiff, zgv, zgw, zfc, zfa, Bool.true_eq_false, zgx, ne_eq, zfb, not_true_eq_false, zff, zfd, Nat.le_refl, zgy], fun h => by cases h⟩
 by_cases h4 : (c.lps.length : Int) > 4
 ·exact ⟨false, by simp only [qgs, hg, hr, h3, h4, qc4, qbe, qn, Ev.exec, qb, qe, qc, qa5, qai, Ev.evs, Ev.Opnd.ev, Ev.Env.get, Ev.Env.set, Ev.look, qo, qk, qae, Ev.AV.cells, qy, Ev.AV.plain, qbx, qas, qm, qab, qaj, Ev.kill, qah, qd, qa1, qbd, qu, qj, qh, qal, zgi, ↓qs, ↓reduceIte, zga, zgb, zgc, zfe, zgf, zgg, zgh, Nat.reduceAdd, Nat.reduceEqDiff, zgv, zgw, zfc, zfa, zgx, ne_eq, zfb, not_true_eq_false, zff, zfd, Nat.le_refl, zgy], fun h => by cases h⟩
 have hok : okB c = true ∧ c.look ≤ 8 ∧ c.lps.length ≤ 4 := ⟨by unfold okB; rw [h1, h2]; rfl, by omega, by omega⟩
 obtain ⟨s1, s2, s3, s4⟩ := q06 c h1
 have hL1 : ∃ y, itB (exec (evL T) itL none qju) (qr [1, 3, 4, 5] true 0) ⟨[(1, (.fptr [(.fsl ((c.lps).map lpC) false), (.fsl ((c.progs).map qc1) false), (ii c.look), (ii c.fin), (ii c.cap)])), (3, (ii 0)), (4, (ii 0)), (5, (ii ((0 : Nat))))], []⟩ [] = some y ∧ ∃ a : Int, y.1 = .exit 0 ∧ y.2.1.marks = [] ∧ y.2.2 = [] ∧ Ev.look y.2.1.vars 1 = some (.fptr [(.fsl ((c.lps).map lpC) false), (.fsl ((c.progs).map qc1) false), (ii c.look), (ii c.fin), (ii c.cap)]) ∧ Ev.look y.2.1.vars 3 = some (ii a) ∧ Ev.look y.2.1.vars 4 = some (ii 0) := by
  have key := qeu (f := exec (evL T) itL none qju) (s := qr [1, 3, 4, 5] true 0) (α := Int) (fun i a => ⟨[(1, (.fptr [(.fsl ((c.lps).map lpC) false), (.fsl ((c.progs).map qc1) false), (ii c.look), (ii c.fin), (ii c.cap)])), (3, (ii a)), (4, (ii 0)), (5, (ii i))], []⟩) (fun _ _ => []) (fun _ _ => True) c.lps.length
   (fun y => ∃ a : Int, y.1 = .exit 0 ∧ y.2.1.marks = [] ∧ y.2.2 = [] ∧ Ev.look y.2.1.vars 1 = some (.fptr [(.fsl ((c.lps).map lpC) false), (.fsl ((c.progs).map qc1) false), (ii c.look), (ii c.fin), (ii c.cap)]) ∧ Ev.look y.2.1.vars 3 = some (ii a) ∧ Ev.look y.2.1.vars 4 = some (ii 0)) ?_ ?_ 0 0 (Nat.zero_le _) trivial
  ·exact key
  ·rintro i a hi _
   obtain ⟨x, hx⟩ : ∃ x, c.lps[i]? = some x := ⟨_, List.getElem?_eq_getElem hi⟩
   have hi' : (i : Int) < (c.lps.length : Int) := by omega
   have hw : IntKind.i64.wrap ((i : Int) + 1) = ((i + 1 : Nat) : Int) := by rw [qaw (by omega) (by omega)]; simp
   refine .inl ⟨IntKind.i64.wrap (a + (x.length : Int)), ?_, trivial⟩
   simp only [qju, zgs, zgr, zgq, zgt, hx, hi', hw, lpC, qc4, qbe, Ev.exec, qb, qe, qc, qai, Ev.Opnd.ev, Ev.Env.get, Ev.Env.set, Ev.look, qk, qae, qaf, ql, qr, Ev.keep, qad, qw, qd, qa1, qu, qb1, qj, qh, zgi, ↓qs, Ev.it1, ↓reduceIte, zga, zgb, zfe, zgg, zgh, Nat.reduceEqDiff, zgv, zfc, zfa, zgx, zfd, zgy]
  ·rintro a _
   simp only [qju, Int.lt_irrefl, Ev.exec, qb, qe, qc, qai, Ev.Opnd.ev, Ev.Env.get, Ev.Env.set, Ev.look, qk, qae, ql, zgi, ↓qs, Ev.it1, ↓reduceIte, zgg, zgh, Nat.reduceEqDiff, zgw, zfa, zgy]
   exact ⟨_, rfl, a, rfl, rfl, rfl, rfl, rfl, rfl⟩
 have hL3 : ∀ (i : Nat) (p : List OpI) (a b : Int), c.progs[i]? = some p → ∃ y, itB (exec (evL T) itL none qhn) (qr [1, 3, 4, 6, 7] true 0) ⟨[(1, (.fptr [(.fsl ((c.lps).map lpC) false), (.fsl ((c.progs).map qc1) false), (ii c.look), (ii c.fin), (ii c.cap)])), (3, (ii a)), (4, (ii b)), (6, (ii i)), (7, (ii ((0 : Nat))))], []⟩ [] = some y ∧ ∃ b : Int, y.1 = .exit 4 ∧ y.2.1.marks = [] ∧ y.2.2 = [] ∧ Ev.look y.2.1.vars 1 = some (.fptr [(.fsl ((c.lps).map lpC) false), (.fsl ((c.progs).map qc1) false), (ii c.look), (ii c.fin), (ii c.cap)]) ∧ Ev.look y.2.1.vars 3 = some (ii a) ∧ Ev.look y.2.1.vars 4 = some (ii b) ∧ Ev.look y.2.1.vars 6 = some (ii i) := by
  intro i p a b hp
  have key := qeu (f := exec (evL T) itL none qhn) (s := qr [1, 3, 4, 6, 7] true 0) (α := Int) (fun k b => ⟨[(1, (.fptr [(.fsl ((c.lps).map lpC) false), (.fsl ((c.progs).map qc1) false), (ii c.look), (ii c.fin), (ii c.cap)])), (3, (ii a)), (4, (ii b)), (6, (ii i)), (7, (ii k))], []⟩) (fun _ _ => []) (fun _ _ => True) p.length
   (fun y => ∃ b : Int, y.1 = .exit 4 ∧ y.2.1.marks = [] ∧ y.2.2 = [] ∧ Ev.look y.2.1.vars 1 = some (.fptr [(.fsl ((c.lps).map lpC) false), (.fsl ((c.progs).map qc1) false), (ii c.look), (ii c.fin), (ii c.cap)]) ∧ Ev.look y.2.1.vars 3 = some (ii a) ∧ Ev.look y.2.1.vars 4 = some (ii b) ∧ Ev.look y.2.1.vars 6 = some (ii i)) ?_ ?_ 0 b (Nat.zero_le _) trivial
  ·exact key
  ·rintro k b hk _
   obtain ⟨x, hx⟩ : ∃ x, p[k]? = some x := ⟨_, List.getElem?_eq_getElem hk⟩
   have := s4 p (List.mem_of_getElem? hp)
   have hk' : (k : Int) < (p.length : Int) := by omega
   have hw : IntKind.i64.wrap ((k : Int) + 1) = ((k + 1 : Nat) : Int) := by rw [qaw (by omega) (by omega)]; simp
   obtain ⟨xc, xa, xb, xd⟩ := x
   by_cases h : xc = 2
   ·exact .inl ⟨IntKind.i64.wrap (b + 1), by simp only [qhn, zgs, zgr, zgq, zgt, hp, hx, hk', hw, h, qc1, OpI.r, qc4, qbe, Ev.exec, qb, qe, qc, qai, Ev.Opnd.ev, Ev.Env.get, Ev.Env.set, Ev.look, qk, qae, qaf, qam, ql, qr, Ev.keep, qad, qw, qd, qa1, qu, qb1, qj, qh, zgi, ↓qs, Ev.it1, ↓reduceIte, zga, zgb, zfe, zgf, zgg, zgh, Nat.reduceAdd, Nat.reduceEqDiff, zgv, zfc, zfa, zgx, zfd, zgy], trivial⟩
   ·exact .inl ⟨b, by simp only [qhn, zgs, zgr, zgq, zgt, hp, hx, hk', hw, h, qc1, OpI.r, qc4, qbe, Ev.exec, qb, qe, qc, qai, Ev.Opnd.ev, Ev.Env.get, Ev.Env.set, Ev.look, qk, qae, qaf, qam, ql, qr, Ev.keep, qad, qw, qd, qa1, qu, qb1, qj, qh, zgi, ↓qs, Ev.it1, ↓reduceIte, zga, zgb, zfe, zgf, zgg, zgh, Nat.reduceAdd, Nat.reduceEqDiff, zgv, zgw, zfc, zfa, zgx, zfd, zgy], trivial⟩
  ·rintro b _
   simp only [qhn, zgs, zgr, zgq, zgt, hp, Int.lt_irrefl, qc1, Ev.exec, qb, qe, qc, qai, Ev.Opnd.ev, Ev.Env.get, Ev.Env.set, Ev.look, qk, qae, ql, zgi, ↓qs, Ev.it1, ↓reduceIte, zga, zgb, zgf, zgg, zgh, Nat.reduceEqDiff, zgw, zfa, zfd, zgy]
   exact ⟨_, rfl, b, rfl, rfl, rfl, rfl, rfl, rfl, rfl⟩
 have hL2 : ∀ a : Int, ∃ y, itB (exec (evL T) itL none qjt) (qr [1, 3, 4, 6] true 0) ⟨[(1, (.fptr [(.fsl ((c.lps).map lpC) false), (.fsl ((c.progs).map qc1) false), (ii c.look), (ii c.fin), (ii c.cap)])), (3, (ii a)), (4, (ii 0)), (6, (ii ((0 : Nat))))], []⟩ [] = some y ∧ ∃ b : Int, y.1 = .exit 2 ∧ y.2.1.marks = [] ∧ y.2.2 = [] ∧ Ev.look y.2.1.vars 3 = some (ii a) ∧ Ev.look y.2.1.vars 4 = some (ii b) := by
  intro a
  have key := qeu (f := exec (evL T) itL none qjt) (s := qr [1, 3, 4, 6] true 0) (α := Int) (fun i b => ⟨[(1, (.fptr [(.fsl ((c.lps).map lpC) false), (.fsl ((c.progs).map qc1) false), (ii c.look), (ii c.fin), (ii c.cap)])), (3, (ii a)), (4, (ii b)), (6, (ii i))], []⟩) (fun _ _ => []) (fun _ _ => True) c.progs.length
   (fun y => ∃ b : Int, y.1 = .exit 2 ∧ y.2.1.marks = [] ∧ y.2.2 = [] ∧ Ev.look y.2.1.vars 3 = some (ii a) ∧ Ev.look y.2.1.vars 4 = some (ii b)) ?_ ?_ 0 0 (Nat.zero_le _) trivial
  ·exact key
  ·rintro i b hi _
   obtain ⟨x, hx⟩ : ∃ x, c.progs[i]? = some x := ⟨_, List.getElem?_eq_getElem hi⟩
   have hi' : (i : Int) < (c.progs.length : Int) := by omega
   have hw : IntKind.i64.wrap ((i : Int) + 1) = ((i + 1 : Nat) : Int) := by rw [qaw (by omega) (by omega)]; simp
   obtain ⟨⟨y, e, σ⟩, k1, b', k2, k3, k4, k5, k6, k7, k8⟩ := hL3 i x a b hx
   simp only [Int.ofNat_zero] at k1 k2 k3 k4 k5 k6 k7 k8
   subst k2; subst k4
   refine .inl ⟨b', ?_, trivial⟩
   simp only [qjt, hi', hw, k1, k3, k5, k6, k7, k8, qc4, qbe, Ev.exec, qb, qe, qc, qai, Ev.Opnd.ev, Ev.Env.get, Ev.Env.set, Ev.look, qk, qae, qaf, ql, qr, Ev.keep, qad, qw, qd, qa1, qu, qb1, qj, qh, zgi, ↓qs, ↓qaq, Ev.it1, ↓reduceIte, zgb, zfe, zgf, zgg, zgh, Nat.reduceEqDiff, zgv, zfc, zfa, zgx, zgy]
  ·rintro b _
   simp only [qjt, Int.lt_irrefl, Ev.exec, qb, qe, qc, qai, Ev.Opnd.ev, Ev.Env.get, Ev.Env.set, Ev.look, qk, qae, ql, zgi, ↓qs, Ev.it1, ↓reduceIte, zgf, zgg, zgh, Nat.reduceEqDiff, zgw, zfa, zgy]
   exact ⟨_, rfl, b, rfl, rfl, rfl, rfl, rfl⟩
 obtain ⟨⟨y, e, σ⟩, k1, a, k2, k3, k4, k5, k6, k7⟩ := hL1
 obtain ⟨⟨y', e', σ'⟩, m1, b, m2, m3, m4, m5, m6⟩ := hL2 a
 simp only [Int.ofNat_zero] at k1 k2 k3 k4 k5 k6 k7 m1 m2 m3 m4 m5 m6
 subst k2; subst k4; subst m2; subst m4
 by_cases h5 : a ≤ 6
 ·exact ⟨decide (b ≤ 6), by simp only [qgs, hg, hr, h3, h4, h5, k1, k3, k5, k6, k7, m1, m3, m5, m6, qc4, qbe, qn, Ev.exec, qb, qe, qc, qa5, qai, Ev.evs, Ev.Opnd.ev, Ev.Env.get, Ev.Env.set, Ev.look, qo, qk, qae, Ev.AV.cells, qy, Ev.AV.plain, qbx, qmv, qas, qm, qab, qaj, Ev.kill, qah, qr, Ev.keep, qad, qw, qd, qa1, qbd, qu, qb1, qj, qh, qal, zgi, ↓qs, ↓qaq, ↓reduceIte, zga, zgb, zgc, zfe, zgf, zgg, zgh, Nat.reduceAdd, Nat.reduceEqDiff, zgv, zgw, zfc, zfa, zgx, ne_eq, zfb, not_true_eq_false, zff, zfd, Nat.le_refl, zgy], fun _ => hok⟩
 ·exact ⟨false, by simp only [qgs, hg, hr, h3, h4, h5, k1, k3, k5, k6, k7, m1, m3, m5, qc4, qbe, qn, Ev.exec, qb, qe, qc, qa5, qai, Ev.evs, Ev.Opnd.ev, Ev.Env.get, Ev.Env.set, Ev.Env.unset, Ev.look, qo, qk, qae, Ev.AV.cells, qy, Ev.AV.plain, qbx, qmv, qas, qm, qab, qaj, Ev.kill, qah, qr, Ev.keep, qad, qw, qd, qa1, qbd, qu, qb1, qj, qh, qal, zgi, ↓qs, ↓qaq, ↓reduceIte, zga, zgb, zgc, zfe, zgf, zgg, zgh, Nat.reduceAdd, Nat.reduceEqDiff, zgw, zfc, zfa, zgx, ne_eq, zfb, not_true_eq_false, zff, zfd, Nat.le_refl, zgy], fun _ => hok⟩
set_option maxRecDepth 10000
theorem qaao {l : List Evt} (hs : l.Pairwise leE) (hd : qsl l) : q2x l = true := by
 rw [qvu]
 intro k x y hx hy
 obtain ⟨h1, e1⟩ := List.getElem?_eq_some_iff.1 hx
 obtain ⟨h2, e2⟩ := List.getElem?_eq_some_iff.1 hy
 have h3 := List.pairwise_iff_getElem.1 hs k (k + 1) h1 h2 (by omega)
 have h4 := List.pairwise_iff_getElem.1 hd k (k + 1) h1 h2 (by omega)
 rw [e1, e2] at h3 h4
 unfold leE at h3
 omega
section
variable {c : Cfg} {i : Nat} {w : WSt} {O : List Evt} {S : Sim} {H : List Evt} {f hor : Int}
structure WTime (c : Cfg) (i : Nat) (f hor : Int) (w : WSt) : Prop where
 box : ∀ e ∈ w.box, f ≤ e.time
 done : ∀ e ∈ w.done, f ≤ e.time ∧ e.time < hor ∧ e.lp = i
 sent : ∀ e ∈ w.sent, f + c.look ≤ e.time ∧ e.lp ≠ i ∧ 0 ≤ e.lp ∧ e.lp < c.lps.length
end
theorem qaan (r : List Int) (x : Int) : r.foldl qxm x ≤ x ∧ (∀ y ∈ r, r.foldl qxm x ≤ y) ∧ (r.foldl qxm x = x ∨ r.foldl qxm x ∈ r) := by
 induction r generalizing x with
 | nil => exact ⟨Int.le_refl _, fun y hy => by simp at hy, .inl rfl⟩
 | cons a r ih =>
  obtain ⟨h1, h2, h3⟩ := ih (qxm x a)
  have hm : qxm x a ≤ x ∧ qxm x a ≤ a ∧ (qxm x a = x ∨ qxm x a = a) := by unfold qxm; split <;> omega
  simp only [List.foldl_cons]
  refine ⟨by omega, fun y hy => ?_, ?_⟩
  ·rcases List.mem_cons.1 hy with rfl | hy
   ·omega
   ·exact h2 y hy
  ·rcases h3 with h3 | h3
   ·rcases hm.2.2 with h4 | h4
    ·exact .inl (by omega)
    ·exact .inr (by rw [h3, h4]; simp)
   ·exact .inr (List.mem_cons_of_mem _ h3)
theorem q2l {bs : List (List Evt)} {t : Int} : t ∈ qmm bs ↔ ∃ b ∈ bs, ∃ e r, b = e :: r ∧ e.time = t := by
 unfold qmm
 simp only [List.mem_map, List.mem_filterMap]
 constructor
 ·rintro ⟨e, ⟨b, hb, hh⟩, rfl⟩
  cases b with
  | nil => simp at hh
  | cons x r => simp only [zgh, Option.some.injEq] at hh; subst hh; exact ⟨_, hb, x, r, rfl, rfl⟩
 ·rintro ⟨b, hb, e, r, rfl, rfl⟩
  exact ⟨e, ⟨_, hb, rfl⟩, rfl⟩
theorem q5u {bs : List (List Evt)} {f : Int} (h : q2m bs = some f) (hs : ∀ b ∈ bs, b.Pairwise leE) : (∀ b ∈ bs, ∀ e ∈ b, f ≤ e.time) ∧ ∃ b ∈ bs, ∃ e r, b = e :: r ∧ e.time = f := by
 unfold q2m at h
 split at h
 ·cases h
 next x r hf =>
  cases h
  obtain ⟨h1, h2, h3⟩ := qaan r x
  have all : ∀ t ∈ qmm bs, r.foldl qxm x ≤ t := fun t ht => by
   rw [hf] at ht
   rcases List.mem_cons.1 ht with rfl | ht
   ·exact h1
   ·exact h2 t ht
  refine ⟨fun b hb e he => ?_, ?_⟩
  ·cases b with
   | nil => simp at he
   | cons y q =>
    have := all y.time (q2l.2 ⟨_, hb, y, q, rfl, rfl⟩)
    rcases List.mem_cons.1 he with rfl | he
    ·exact this
    ·have := q50 ((List.pairwise_cons.1 (hs _ hb)).1 e he); omega
  ·refine q2l.1 ?_
   rw [hf]
   rcases h3 with h3 | h3
   ·rw [h3]; simp
   ·exact List.mem_cons_of_mem _ h3
structure StF (c : Cfg) (s : Sim) (h : List Evt) (L : List (Lp × Bool)) : Prop where
 inv : SInv c s h
 len : h.length ≤ 30
 lok : LOk L s
section
variable {c : Cfg} {s : Sim} {h : List Evt} {L : List (Lp × Bool)}
theorem StF.lL (F : StF c s h L) : L.length = c.lps.length := by
 have := congrArg List.length F.lok.1
 rw [List.length_map, F.inv.lpl] at this; exact this
theorem StF.at (F : StF c s h L) {i : Nat} (hi : i < c.lps.length) : ∃ x f, L[i]? = some (x, f) ∧ s.lps[i]? = some x ∧ (f = true → x.procs = []) := by
 obtain ⟨z, hz⟩ : ∃ z, L[i]? = some z := ⟨_, List.getElem?_eq_getElem (by rw [F.lL]; exact hi)⟩
 refine ⟨z.1, z.2, hz, by rw [← F.lok.1, List.getElem?_map, hz]; rfl, F.lok.2 z (List.mem_of_getElem? hz)⟩
theorem StF.dist (F : StF c s h L) : qsl s.pend := ql8.dist (List.pairwise_append.1 F.inv.keys).2.1
theorem StF.keysOk (F : StF c s h L) : qcr s.pend := fun x hx => by have := (F.inv.ev x (List.mem_append_right _ hx)).key; have := F.len; omega
theorem StF.plen (F : StF c s h L) : s.pend.length ≤ 1000 := by have := F.inv.len; have := F.len; omega
theorem qaa4 (n : Nat) (l : List Evt) {i : Nat} (hi : i < n) : (qfo n l)[i]? = some (sortL (qcy l i)) := by unfold qfo; rw [List.getElem?_map, List.getElem?_range hi]; rfl
theorem q5h (n : Nat) (l : List Evt) : ∀ b ∈ qfo n l, b.Pairwise leE := fun b hb => by
 simp only [qfo, List.mem_map] at hb
 obtain ⟨i, _, rfl⟩ := hb
 exact qfj _
theorem q0v : ∀ (l : List Nat) (g k : Nat → List Evt), (∀ i, (g i).Perm (k i)) → (l.map g).flatten.Perm (l.map k).flatten
 | [], _, _, _ => .refl _
 | a :: l, g, k, h => by
  simp only [List.map_cons, List.flatten_cons]
  exact (h a).append (q0v l g k h)
theorem StF.flat (F : StF c s h L) : (qfo c.lps.length s.pend).flatten.Perm s.pend :=
 (q0v _ _ (fun i => qcy s.pend i) fun i => qd2 _).trans (q7m fun e he => (F.inv.ev e (List.mem_append_right _ he)).lp)
theorem StF.winv (F : StF c s h L) {i : Nat} (hi : i < c.lps.length) {x : Lp} (hx : s.lps[i]? = some x) : WInv c i ⟨x, sortL (qcy s.pend i), [], [], false⟩ [] s h := by
 refine ⟨F.inv.toSInvK, hi, hx, ⟨s.pend.filter fun e => !decide (e.lp = i), ?_⟩, qfj _, fun b hb => by
  have := (qd2 _).mem_iff.1 hb
  unfold qcy at this
  rw [List.mem_filter] at this; simpa using this.2⟩
 simp only [zgl]
 exact ((qd2 _).append_right _).trans (List.filter_append_perm _ _)
theorem State_ev (G : Good c) (a : Int) (ha : 0 ≤ a ∧ a ≤ 255) : ∃ (s : Sim) (h : List Evt) (L : List (Lp × Bool)), StF c s h L ∧
  qa4 (evL T) qjd [(.agg [(.fsl ((c.lps).map lpC) false), (.fsl ((c.progs).map qc1) false), (ii c.look), (ii c.fin), (ii c.cap)]), (.v (.int .u8 a))] = some (.tup [(.fsl ((L).map lpF) false), (.fsl (((qfo c.lps.length s.pend)).map qaz) false)]) := by
 obtain ⟨L, hL, hS⟩ := q6j G (a.toNat % 31) (by omega)
 obtain ⟨h, h1, h2, _⟩ := ran G.v (a.toNat % 31) (by omega)
 have F : StF c (runS c (a.toNat % 31)) h L := ⟨h1, by omega, hL⟩
 refine ⟨_, h, L, F, ?_⟩
 have hw : IntKind.i64.wrap a = a := qaw (by omega) (by omega)
 have hr : a.tmod 31 = ((a.toNat % 31 : Nat) : Int) := by
  obtain ⟨n, rfl⟩ : ∃ n : Nat, a = n := ⟨a.toNat, by omega⟩
  rw [Int.tmod_eq_emod_of_nonneg (by omega)]; omega
 have h31 : ¬ (31 : Int) = 0 := by decide
 have hB := qacd (runS c (a.toNat % 31)).pend false c.lps.length G.v.lps.2 (by have := F.plen; omega) F.keysOk F.dist
 generalize runS c (a.toNat % 31) = s at *
 generalize qfo c.lps.length s.pend = B at *
 rw [qa4, qx qyc qxd]
 simp only [qm6, hw, hr, h31, hS, hB, qqr, qdn, qv, qc4, qbe, qn, Ev.exec, qb, qe, qc, qa5, qai, Ev.evs, Ev.Opnd.ev, Ev.Env.get, Ev.Env.set, Ev.look, qo, qk, qae, Ev.AV.cells, qy, Ev.AV.plain, qaa1, qm, qab, qaj, Ev.kill, qah, qd, qa1, qbd, qba, qu, qj, qh, qal, zgi, ↓qs, ↓reduceIte, zga, zgb, zgd, zgc, zgo, zfe, zgf, zgg, List.drop_nil, zgl, zgn, zgj, zgh, Nat.reduceAdd, Nat.reduceEqDiff, reduceCtorEq, zfc, zfa, zgx, ne_eq, zfb, zff, zfd, Nat.le_refl, zgy]
end
set_option maxRecDepth 100000
theorem q3r : qa4 (evL T) qki [] = some (bb true) := q81 40 (by kernel_rfl)
theorem q6n (c : Cfg) : ∃ b : Bool, qa4 (evL T) qmc [(.agg [(.fsl ((c.lps).map lpC) false), (.fsl ((c.progs).map qc1) false), (ii c.look), (ii c.fin), (ii c.cap)])] = some (bb b) ∧ (b = true → Good c ∧ 1 ≤ c.look ∧ c.look ≤ 8 ∧ 1 ≤ c.lps.length ∧ c.lps.length ≤ 4) := by
 obtain ⟨b, h1, h2⟩ := Quick_ev c
 refine ⟨b, ?_, fun hb => by
  obtain ⟨k1, k2, k3⟩ := h2 hb
  have G := good_of k1
  exact ⟨G, G.v.look, k2, G.v.lps.1, k3⟩⟩
 rw [qa4, qx q4x q3h]
 simp only [qsm, h1, qc4, qbe, qn, Ev.exec, qb, qe, qc, qa5, qai, Ev.evs, Ev.Opnd.ev, Ev.Env.get, Ev.Env.set, Ev.look, qo, qk, qae, Ev.AV.cells, qy, Ev.AV.plain, qm, qab, qaj, Ev.kill, qah, qd, qa1, qbd, qu, qj, qh, qal, ↓qs, ↓reduceIte, zga, zgb, zgc, zfe, Nat.reduceAdd, Nat.reduceEqDiff, zfc, zgx, ne_eq, zfb, zff, zfd, Nat.le_refl, zgy]
set_option maxRecDepth 10000
set_option maxRecDepth 10000
def wAt (c : Cfg) (s : Sim) (hor : Int) (i : Nat) : WSt := WSt.run c hor 2000 ⟨q0a s i, sortL (qcy s.pend i), [], [], false⟩
def qc9 (c : Cfg) (s : Sim) (hor : Int) (n : Nat) : List (List Evt) := (List.range n).map fun i => (wAt c s hor i).box
def qcs (c : Cfg) (s : Sim) (hor : Int) (n : Nat) : List (List Evt) := (List.range n).map fun i => (wAt c s hor i).sent
def qaa2 (s : Sim) (n : Nat) : List Evt := s.pend.filter fun e => decide ((n : Int) ≤ e.lp)
theorem qqn (c : Cfg) (s : Sim) (hor : Int) (n : Nat) : qc9 c s hor (n + 1) = qc9 c s hor n ++ [(wAt c s hor n).box] := by unfold qc9; rw [List.range_succ, List.map_append]; rfl
theorem qtn (c : Cfg) (s : Sim) (hor : Int) (n : Nat) : qcs c s hor (n + 1) = qcs c s hor n ++ [(wAt c s hor n).sent] := by unfold qcs; rw [List.range_succ, List.map_append]; rfl
theorem qaar (s : Sim) (n : Nat) : (qcy s.pend n ++ qaa2 s (n + 1)).Perm (qaa2 s n) := by
 have e1 : qcy s.pend n = (qaa2 s n).filter (fun e : Evt => decide (e.lp = (n : Int))) := by
  unfold qcy qaa2
  rw [List.filter_filter]
  refine List.filter_congr fun e _ => ?_
  rw [← Bool.decide_and]; refine decide_eq_decide.2 ?_; omega
 have e2 : qaa2 s (n + 1) = (qaa2 s n).filter (fun e : Evt => !decide (e.lp = (n : Int))) := by
  unfold qaa2
  rw [List.filter_filter]
  refine List.filter_congr fun e _ => ?_
  rw [← decide_not, ← Bool.decide_and]; refine decide_eq_decide.2 ?_; omega
 rw [e1, e2]; exact List.filter_append_perm _ _
section
variable {c : Cfg} {s : Sim} {h : List Evt} {L : List (Lp × Bool)} (hor : Int)
structure Comb (c : Cfg) (s : Sim) (hor : Int) (n m : Nat) (S : Sim) (H : List Evt) : Prop where
 K : SInvK c S H
 len : H.length ≤ m + 2000 * n
 lps : ∀ j, n ≤ j → S.lps[j]? = s.lps[j]?
 sub : ∃ T, ((qc9 c s hor n).flatten ++ ((qcs c s hor n).flatten ++ (qaa2 s n ++ T))).Perm S.pend
theorem StF.comb (F : StF c s h L) : ∀ n, n ≤ c.lps.length → ∃ S H, Comb c s hor n 30 S H
 | 0, _ => ⟨s, h, F.inv.toSInvK, by have := F.len; omega, fun _ _ => rfl, [], by
  have : qaa2 s 0 = s.pend := List.filter_eq_self.2 fun e he => by have := (F.inv.ev e (List.mem_append_right _ he)).lp; simpa using this.1
  simp [qc9, qcs, this]⟩
 | n + 1, hn => by
  obtain ⟨S, H, C⟩ := F.comb n (by omega)
  obtain ⟨T, hT⟩ := C.sub
  have hv8 := F.inv.valid.lps.2
  obtain ⟨x, xf, _, hx, _⟩ := F.at (i := n) (by omega)
  have hlp : q0a s n = x := by unfold q0a; rw [Int.toNat_natCast, hx]; rfl
  have W : WInv c n ⟨q0a s n, sortL (qcy s.pend n), [], [], false⟩ ((qc9 c s hor n).flatten ++ ((qcs c s hor n).flatten ++ qaa2 s (n + 1))) S H := by
   refine ⟨C.K, by omega, by rw [C.lps n (Nat.le_refl _), hx, hlp], ⟨T, ?_⟩, qfj _, fun b hb => by
    have := (qd2 _).mem_iff.1 hb
    unfold qcy at this; rw [List.mem_filter] at this; simpa using this.2⟩
   refine List.Perm.trans ?_ hT
   have p1 := qd2 (qcy s.pend n)
   have p2 := qaar s n
   refine List.perm_iff_count.2 fun a => ?_
   have q1 := p1.count_eq a
   have q2 := p2.count_eq a
   simp only [List.count_append, List.count_nil] at q1 q2 ⊢
   omega
  obtain ⟨S', es, W', hd, hl, hel⟩ := WInv.run hor 2000 W (by have := C.len; omega)
  change WInv c n (wAt c s hor n) _ S' (H ++ es) at W'
  change S'.lps = S.lps.set n (wAt c s hor n).lp at hl
  obtain ⟨T', hT'⟩ := W'.sub
  refine ⟨S', H ++ es, W'.K, by have := C.len; simp; omega, fun j hj => by rw [hl, List.getElem?_set_ne (by omega)]; exact C.lps j (by omega), T', ?_⟩
  refine List.Perm.trans ?_ hT'
  rw [qqn, qtn]
  refine List.perm_iff_count.2 fun a => ?_
  simp only [List.flatten_append, List.flatten_cons, List.flatten_nil, zgn, List.count_append]
  omega
structure WinF (c : Cfg) (s : Sim) (hor : Int) : Prop where
 keys : ql8 ((qc9 c s hor c.lps.length).flatten ++ (qcs c s hor c.lps.length).flatten)
 len : ((qc9 c s hor c.lps.length).flatten ++ (qcs c s hor c.lps.length).flatten).length ≤ 300000
 kok : qcr ((qc9 c s hor c.lps.length).flatten ++ (qcs c s hor c.lps.length).flatten)
 rng : ∀ e ∈ (qc9 c s hor c.lps.length).flatten ++ (qcs c s hor c.lps.length).flatten, 0 ≤ e.lp ∧ e.lp < c.lps.length
theorem StF.winF (F : StF c s h L) : WinF c s hor := by
 obtain ⟨S, H, C⟩ := F.comb hor c.lps.length (Nat.le_refl _)
 obtain ⟨T, hT⟩ := C.sub
 have hv8 := F.inv.valid.lps.2
 have hH : H.length ≤ 16030 := by have := C.len; omega
 have sub : ((qc9 c s hor c.lps.length).flatten ++ (qcs c s hor c.lps.length).flatten).Sublist ((qc9 c s hor c.lps.length).flatten ++ ((qcs c s hor c.lps.length).flatten ++ (qaa2 s c.lps.length ++ T))) :=
  List.Sublist.append_left (List.sublist_append_left _ _) _
 have mem : ∀ e ∈ (qc9 c s hor c.lps.length).flatten ++ (qcs c s hor c.lps.length).flatten, e ∈ S.pend := fun e he => hT.mem_iff.1 (sub.subset he)
 refine ⟨List.Pairwise.sublist sub (ql8.perm (List.pairwise_append.1 C.K.keys).2.1 hT), ?_, fun e he => ?_, fun e he => (C.K.ev e (List.mem_append_right _ (mem e he))).lp⟩
 ·have := sub.length_le
  rw [hT.length_eq] at this
  have := C.K.len; omega
 ·have := (C.K.ev e (List.mem_append_right _ (mem e he))).key; omega
theorem q45 (c : Cfg) (s : Sim) (hor : Int) {n i : Nat} (hi : i < n) : (qc9 c s hor n)[i]? = some (wAt c s hor i).box := by unfold qc9; rw [List.getElem?_map, List.getElem?_range hi]; rfl
theorem WinF.dist {hor : Int} (W : WinF c s hor) (l : List Evt) (hl : l.Perm (qcs c s hor c.lps.length).flatten) : ∀ i b, (qc9 c s hor c.lps.length)[i]? = some b → qsl (b ++ qcy l i) := by
 intro i b hb
 have h1 : ql8 ((qc9 c s hor c.lps.length).flatten ++ l) := ql8.perm W.keys (hl.append_left _)
 refine ql8.dist (List.Pairwise.sublist ?_ h1)
 exact List.Sublist.append (List.sublist_flatten_of_mem (List.mem_of_getElem? hb)) List.filter_sublist
theorem StF.wAt_inv (F : StF c s h L) {i : Nat} (hi : i < c.lps.length) : ∃ (S' : Sim) (es : List Evt), WInv c i (wAt c s hor i) [] S' (h ++ es) ∧ (wAt c s hor i).done = es ∧ es.length ≤ 2000 := by
 obtain ⟨x, xf, _, hx, _⟩ := F.at hi
 have hlp : q0a s i = x := by unfold q0a; rw [Int.toNat_natCast, hx]; rfl
 have W := F.winv hi hx
 obtain ⟨S', es, W', hd, _, hel⟩ := WInv.run hor 2000 W (by have := F.len; omega)
 rw [← hlp] at W' hd
 rw [List.nil_append] at hd
 exact ⟨S', es, W', hd, hel⟩
theorem StF.lefts_sorted (F : StF c s h L) : ∀ b ∈ qc9 c s hor c.lps.length, b.Pairwise leE := by
 intro b hb
 simp only [qc9, List.mem_map, List.mem_range] at hb
 obtain ⟨i, hi, rfl⟩ := hb
 obtain ⟨S', es, W', _⟩ := F.wAt_inv hor hi
 exact W'.sorted
end
set_option maxRecDepth 10000
section
variable {c : Cfg} {e : Evt} (R3 X4 X5 : SObj) (dn : List Evt) (g1 : Nat) (x : Lp) (o f : Bool)
end
section
variable {c : Cfg} {f : Bool}
end
set_option maxRecDepth 10000
theorem q5m (a : List (List Evt)) (ca cb : Bool) (hal : a.length ≤ 1000000) (hs : ∀ x ∈ a, x.length ≤ 1000000) (hk : ∀ x ∈ a, ∀ e ∈ x, e.key.length ≤ 9223372036854775807) :
  qa4 (evL T) qfs [(.fsl ((a).map qaz) ca), (.fsl ((a).map qaz) cb)] = some (bb true) := by
 have h := q4a a ca cb hal hs hk
 rw [qa4, qx qtl qsr]
 simp only [qkp, h, qdn, qn, Ev.exec, qb, qe, qc, qa5, qai, Ev.evs, Ev.Opnd.ev, Ev.Env.get, Ev.Env.set, Ev.look, qo, qm, qab, qaj, Ev.kill, qah, qd, qa1, qu, qj, qh, qal, ↓qs, ↓reduceIte, zga, zgb, zfe, Nat.reduceAdd, Nat.reduceEqDiff, reduceCtorEq, zfc, zgx, zfd, zgy]
section
variable {c : Cfg} {s : Sim} {h : List Evt} {L : List (Lp × Bool)} {f hor : Int}
def q4v (c : Cfg) (s : Sim) (hor : Int) (n : Nat) : Nat := ((List.range n).map fun i => (wAt c s hor i).sent.length + (wAt c s hor i).box.length).sum
theorem qud (n : Nat) : q4v c s hor (n + 1) = q4v c s hor n + ((wAt c s hor n).sent.length + (wAt c s hor n).box.length) := by
 unfold q4v; rw [List.range_succ, List.map_append, List.sum_append]; simp
theorem qaa3 (F : StF c s h L) : ∀ n, n ≤ c.lps.length → q4v c s hor n ≤ 40000 * n
 | 0, _ => Nat.le_refl 0
 | n + 1, hn => by
  rw [qud]
  have := qaa3 F n (by omega)
  obtain ⟨S', es, W', _, hel⟩ := F.wAt_inv hor (i := n) (by omega)
  have h1 := W'.len
  have := F.len
  rw [List.length_append] at h1
  omega
theorem ord_L1 (F : StF c s h L) (tt : Int) :
  ∃ y, itB (exec (evL T) itL none qfm) (qr [2, 3, 7, 8, 9, 12, 13, 14, 15, 16] true 2) ⟨[(2, (.v (.int .u8 tt))), (3, (.fptr [(.fsl ((c.lps).map lpC) false), (.fsl ((c.progs).map qc1) false), (ii c.look), (ii c.fin), (ii c.cap)])), (7, (bb true)), (8, (.fsl ((L).map lpF) false)), (9, (.fsl (((qfo c.lps.length s.pend)).map qaz) false)), (12, (ii hor)), (13, .sl 0 0 0 (0 : Nat) false), (14, .sl 1 0 0 (0 : Nat) false), (15, (ii ((0 : Nat)))), (16, (ii ((0 : Nat))))], []⟩ [.row 1 ((qc9 c s hor (0 : Nat)).map qaz) 0, .row 1 ((qcs c s hor (0 : Nat)).map qaz) 0] = some y ∧
   (y.1 = .exit 0 ∧ y.2.1.marks = [] ∧ ∃ g1 g2 : Nat, y.2.2 = [.row 1 ((qc9 c s hor c.lps.length).map qaz) g1, .row 1 ((qcs c s hor c.lps.length).map qaz) g2] ∧ Ev.look y.2.1.vars 2 = some (.v (.int .u8 tt)) ∧ Ev.look y.2.1.vars 7 = some (bb true) ∧ Ev.look y.2.1.vars 8 = some (.fsl ((L).map lpF) false) ∧ Ev.look y.2.1.vars 13 = some (.sl 0 g1 0 c.lps.length false) ∧ Ev.look y.2.1.vars 14 = some (.sl 1 g2 0 c.lps.length false) ∧ Ev.look y.2.1.vars 15 = some (ii ((q4v c s hor c.lps.length)))) := by
 have hLl := F.lL
 have hv8 := F.inv.valid.lps.2
 have key := qeu (f := exec (evL T) itL none qfm) (s := qr [2, 3, 7, 8, 9, 12, 13, 14, 15, 16] true 2) (α := Nat × Nat)
  (fun i a => ⟨[(2, (.v (.int .u8 tt))), (3, (.fptr [(.fsl ((c.lps).map lpC) false), (.fsl ((c.progs).map qc1) false), (ii c.look), (ii c.fin), (ii c.cap)])), (7, (bb true)), (8, (.fsl ((L).map lpF) false)), (9, (.fsl (((qfo c.lps.length s.pend)).map qaz) false)), (12, (ii hor)), (13, .sl 0 a.1 0 i false), (14, .sl 1 a.2 0 i false), (15, (ii ((q4v c s hor i)))), (16, (ii i))], []⟩) (fun i a => [.row 1 ((qc9 c s hor i).map qaz) a.1, .row 1 ((qcs c s hor i).map qaz) a.2]) (fun i a => True) c.lps.length
  (fun y => y.1 = .exit 0 ∧ y.2.1.marks = [] ∧ ∃ g1 g2 : Nat, y.2.2 = [.row 1 ((qc9 c s hor c.lps.length).map qaz) g1, .row 1 ((qcs c s hor c.lps.length).map qaz) g2] ∧ Ev.look y.2.1.vars 2 = some (.v (.int .u8 tt)) ∧ Ev.look y.2.1.vars 7 = some (bb true) ∧ Ev.look y.2.1.vars 8 = some (.fsl ((L).map lpF) false) ∧ Ev.look y.2.1.vars 13 = some (.sl 0 g1 0 c.lps.length false) ∧ Ev.look y.2.1.vars 14 = some (.sl 1 g2 0 c.lps.length false) ∧ Ev.look y.2.1.vars 15 = some (ii ((q4v c s hor c.lps.length)))) ?_ ?_ 0 (0, 0) (Nat.zero_le _) trivial
 ·exact key
 ·rintro i ⟨g1, g2⟩ hi _
  simp only
  obtain ⟨x, xf, hLi, hsx, hxf⟩ := F.at hi
  have hlp : q0a s i = x := by unfold q0a; rw [Int.toNat_natCast, hsx]; rfl
  have hP : qa4 (evL T) qep [(.agg [(.fsl ((c.lps).map lpC) false), (.fsl ((c.progs).map qc1) false), (ii c.look), (ii c.fin), (ii c.cap)]), (.agg [(ii x.r0), (ii x.r1), (.fsl ((x.procs).map Pr.r) xf), (ii x.sum)]), (.fsl (((sortL (qcy s.pend i))).map Evt.r) false), (ii hor)] = some (.tup [(.agg [(ii ((wAt c s hor i).lp.r0)), (ii ((wAt c s hor i).lp.r1)), (.fsl (((wAt c s hor i).lp.procs).map Pr.r) xf), (ii ((wAt c s hor i).lp.sum))]), (.fsl (((wAt c s hor i).box).map Evt.r) false), (.fsl (((wAt c s hor i).done).map Evt.r) false), (.fsl (((wAt c s hor i).sent).map Evt.r) false), (bb ((wAt c s hor i).over))]) := by
   unfold wAt; rw [hlp]
   exact q89 hor (f := xf) (cb := false) (F.winv hi hsx) hxf (by have := F.len; omega)
  have hi' : (i : Int) < (c.lps.length : Int) := by omega
  have hw : IntKind.i64.wrap ((i : Int) + 1) = ((i + 1 : Nat) : Int) := by rw [qaw (by omega) (by omega)]; simp
  have hLm : (L.map lpF)[i]? = some (lpF (x, xf)) := by rw [List.getElem?_map, hLi]; rfl
  have hBm : ((qfo c.lps.length s.pend).map qaz)[i]? = some (qaz (sortL (qcy s.pend i))) := by rw [List.getElem?_map, qaa4 _ _ hi]; rfl
  have lo1 := qqr 2 L
  have lo2 := qdn 2 (qfo c.lps.length s.pend)
  have lo3 := qdn 2 (qc9 c s hor (i + 1))
  have lo4 := qdn 2 (qcs c s hor (i + 1))
  have lo5 : ∀ n, qg9 n ((sortL (qcy s.pend i)).map Evt.r) = true := fun n => qv _ _
  have hll : ((qc9 c s hor i).map qaz).length = i := by simp [qc9]
  have hsl : ((qcs c s hor i).map qaz).length = i := by simp [qcs]
  have tk1 : List.take i ((qc9 c s hor i).map qaz) = (qc9 c s hor i).map qaz := List.take_of_length_le (by omega)
  have tk2 : List.take i ((qcs c s hor i).map qaz) = (qcs c s hor i).map qaz := List.take_of_length_le (by omega)
  have e1 : (qc9 c s hor (i + 1)).map qaz = (qc9 c s hor i).map qaz ++ [[(.fsl (((wAt c s hor i).box).map Evt.r) false)]] := by rw [qqn, List.map_append]; rfl
  have e2 : (qcs c s hor (i + 1)).map qaz = (qcs c s hor i).map qaz ++ [[(.fsl (((wAt c s hor i).sent).map Evt.r) false)]] := by rw [qtn, List.map_append]; rfl
  have bd : (i + 1) * 24 ≤ 140737488355328 := by omega
  have hle : i ≤ i := Nat.le_refl _
  have hsz := qaa3 (hor := hor) F (i + 1) (by omega)
  have ww1 : IntKind.i64.wrap ((q4v c s hor i : Int) + ((wAt c s hor i).sent.length : Int)) = ((q4v c s hor i + (wAt c s hor i).sent.length : Nat) : Int) := by rw [qud] at hsz; exact qke (by omega)
  have ww2 : IntKind.i64.wrap (((q4v c s hor i + (wAt c s hor i).sent.length : Nat) : Int) + ((wAt c s hor i).box.length : Int)) = ((q4v c s hor (i + 1) : Nat) : Int) := by rw [qud] at hsz ⊢; rw [qke (by omega)]; congr 1; omega
  rw [e1] at lo3
  rw [e2] at lo4
  have hlm : (L.map lpF).length = c.lps.length := by rw [List.length_map]; exact hLl
  refine .inl ⟨(g1 + 1, g2 + 1), ?_, trivial⟩
  simp only
  rw [e1, e2]
  generalize q4v c s hor (i + 1) = N at *
  generalize q4v c s hor i = M at *
  generalize (qc9 c s hor i).map qaz = LE at *
  generalize (qcs c s hor i).map qaz = SE at *
  generalize (qfo c.lps.length s.pend).map qaz = BM at *
  clear e1 e2 hlp hxf hsx hLi
  generalize wAt c s hor i = w at *
  generalize L.map lpF = LM at *
  simp only [lpF] at hLm
  simp only [qaz] at hBm
  obtain ⟨wlp, wb, wd, ws, wo⟩ := w
  simp only at hP ww1 ww2 lo3 lo4 ⊢
  generalize sortL (qcy s.pend i) = bi at *
  simp only [qfm, zgs, zgr, hi', hw, hlm, hLm, hBm, hP, lo1, lo2, lo3, lo4, lo5, hll, hsl, tk1, tk2, bd, hle, ww1, ww2, qc4, qbe, qau, Ev.exec, qb, qe, qc, qa5, qai, qn9, Ev.evs, Ev.Opnd.ev, Ev.Env.get, Ev.Env.set, Ev.look, qk, qb0, qae, qf6, Ev.AV.cells, Ev.AV.uc, qy, Ev.AV.plain, qaf, ql, qr, Ev.keep, qad, qw, qd, Ev.SObj.lo, qa1, qbd, qu, qb1, qbn, qj, qh, qbl, qa9, List.replicate_one, zgi, ↓qs, Ev.it1, ↓reduceIte, zga, zgb, zgd, zge, zgc, zgo, zfe, zgf, List.drop_nil, zgm, zgl, zgn, zgj, zgk, zgh, Nat.reduceAdd, Nat.reduceEqDiff, Nat.reduceMul, Nat.reduceLT, Nat.reduceLeDiff, Nat.reducePow, zgv, zfc, zfa, zgx, ne_eq, zfb, zff, zfd, zgu, Nat.le_refl, zgy]
 ·rintro ⟨g1, g2⟩ _
  simp only [qfm, hLl, Int.lt_irrefl, zgi, Ev.exec, qb, qe, qc, qai, Ev.Opnd.ev, Ev.Env.get, Ev.Env.set, Ev.look, ql, zgi, ↓qs, Ev.it1, ↓reduceIte, Nat.reduceEqDiff, zgw, zfa, zgy]
  exact ⟨_, rfl, rfl, rfl, g1, g2, rfl, rfl, rfl, rfl, rfl, rfl, rfl⟩
def qm1 (l : List (List Evt)) (t n : Nat) : List (List Evt) := (List.range n).map fun i => (l.getD ((i + t) % l.length) []).reverse
end
section
variable (N : Nat) (tt t0 : Int) (LM LE SE : List (List AV)) (g1 g2 : Nat) (z : Int) (lL : Nat)
theorem ord_L3 (R : List (List AV)) (g3 i : Nat) (hLM : qg9 4 LM = true) (hLE : qg9 4 LE = true) (hSE : qg9 4 SE = true) (hR : qg9 4 R = true) (l : List Evt) (hl : l.length ≤ 1000000) (X : SObj) :
  ∃ y, itB (exec (evL T) itL none qfn) (qr [2, 7, 8, 13, 14, 15, 22, 23, 24, 25, 26] true 4) ⟨[(2, (.v (.int .u8 tt))), (7, (bb true)), (8, .fsl LM false), (13, .sl 0 g1 0 N false), (14, .sl 1 g2 0 N false), (15, (ii z)), (22, .sl 2 g3 0 i false), (23, (ii i)), (24, .sl 3 0 0 0 false), (25, (.fsl ((l).map Evt.r) false)), (26, (ii ((l.length : Int) - 1)))], []⟩ [.row 1 LE g1, .row 1 SE g2, .row 1 R g3, .row 6 [] 0] = some y ∧
   (y.1 = .exit 4 ∧ y.2.1.marks = [] ∧ ∃ g : Nat, y.2.2 = [.row 1 LE g1, .row 1 SE g2, .row 1 R g3, .row 6 (l.reverse.map Evt.r) g] ∧ Ev.look y.2.1.vars 2 = some (.v (.int .u8 tt)) ∧ Ev.look y.2.1.vars 7 = some (bb true) ∧ Ev.look y.2.1.vars 8 = some (.fsl LM false) ∧ Ev.look y.2.1.vars 13 = some (.sl 0 g1 0 N false) ∧ Ev.look y.2.1.vars 14 = some (.sl 1 g2 0 N false) ∧ Ev.look y.2.1.vars 15 = some (ii z) ∧ Ev.look y.2.1.vars 22 = some (.sl 2 g3 0 i false) ∧ Ev.look y.2.1.vars 23 = some (ii i) ∧ Ev.look y.2.1.vars 24 = some (.sl 3 g 0 l.length false)) := by
 have key := qeu (f := exec (evL T) itL none qfn) (s := qr [2, 7, 8, 13, 14, 15, 22, 23, 24, 25, 26] true 4) (α := Nat)
  (fun k g => ⟨[(2, (.v (.int .u8 tt))), (7, (bb true)), (8, .fsl LM false), (13, .sl 0 g1 0 N false), (14, .sl 1 g2 0 N false), (15, (ii z)), (22, .sl 2 g3 0 i false), (23, (ii i)), (24, .sl 3 g 0 k false), (25, (.fsl ((l).map Evt.r) false)), (26, (ii ((l.length : Int) - 1 - k)))], []⟩) (fun k g => [.row 1 LE g1, .row 1 SE g2, .row 1 R g3, .row 6 ((l.reverse.take k).map Evt.r) g]) (fun _ _ => True) l.length
  (fun y => y.1 = .exit 4 ∧ y.2.1.marks = [] ∧ ∃ g : Nat, y.2.2 = [.row 1 LE g1, .row 1 SE g2, .row 1 R g3, .row 6 (l.reverse.map Evt.r) g] ∧ Ev.look y.2.1.vars 2 = some (.v (.int .u8 tt)) ∧ Ev.look y.2.1.vars 7 = some (bb true) ∧ Ev.look y.2.1.vars 8 = some (.fsl LM false) ∧ Ev.look y.2.1.vars 13 = some (.sl 0 g1 0 N false) ∧ Ev.look y.2.1.vars 14 = some (.sl 1 g2 0 N false) ∧ Ev.look y.2.1.vars 15 = some (ii z) ∧ Ev.look y.2.1.vars 22 = some (.sl 2 g3 0 i false) ∧ Ev.look y.2.1.vars 23 = some (ii i) ∧ Ev.look y.2.1.vars 24 = some (.sl 3 g 0 l.length false)) ?_ ?_ 0 0 (Nat.zero_le _) trivial
 ·simp only [Int.ofNat_zero, Int.sub_zero, zgo, List.map_nil] at key; exact key
 ·rintro k g hk _
  obtain ⟨e, he⟩ : ∃ e, l[l.length - 1 - k]? = some e := ⟨_, List.getElem?_eq_getElem (by omega)⟩
  have hn : (l.length : Int) - 1 - k ≥ 0 := by omega
  have hnat : ((l.length : Int) - 1 - k).toNat = l.length - 1 - k := by omega
  have hw : IntKind.i64.wrap ((l.length : Int) - 1 - k - 1) = (l.length : Int) - 1 - ((k + 1 : Nat) : Int) := by rw [qaw (by omega) (by omega)]; omega
  have hrv : l.reverse[k]? = some e := by rw [List.getElem?_reverse hk]; exact he
  have hnx : (l.reverse.take (k + 1)).map Evt.r = (l.reverse.take k).map Evt.r ++ [e.r] := by rw [List.take_add_one, hrv, List.map_append]; rfl
  have hlk : ((l.reverse.take k).map Evt.r).length = k := by simp; omega
  have tk : List.take k ((l.reverse.take k).map Evt.r) = (l.reverse.take k).map Evt.r := List.take_of_length_le (by omega)
  have lo := qv 4 (l.reverse.take (k + 1))
  have bd : (k + 1) * 64 ≤ 140737488355328 := by omega
  have hle : k ≤ k := Nat.le_refl _
  rw [hnx] at lo
  refine .inl ⟨g + 1, ?_, trivial⟩
  rw [hnx]
  generalize (l.reverse.take k).map Evt.r = RV at *
  obtain ⟨et, ek, el, ei, ep, ea⟩ := e
  simp only [Evt.r] at lo ⊢
  simp only [qfn, zgq, zgt, he, hn, hnat, hw, hlk, tk, lo, bd, hle, hLM, hLE, hSE, hR, Evt.r, qv, Ev.exec, qb, qe, qc, qai, qn9, Ev.Opnd.ev, Ev.Env.get, Ev.Env.set, Ev.look, qk, qb0, qae, qf6, Ev.AV.cells, qy, Ev.AV.plain, qb8, qch, qr, Ev.keep, qad, qw, qd, Ev.SObj.lo, qa1, qu, qbn, qbl, qa9, List.replicate_one, ↓qs, Ev.it1, ↓reduceIte, zga, zgb, zgd, zge, zgc, zfe, zgj, zgk, Nat.reduceAdd, Nat.reduceEqDiff, Nat.reduceMul, Nat.reduceLT, Nat.reduceLeDiff, Nat.reducePow, zgv, zfc, zgx, ne_eq, zfb, zff, zfd, zgu, Nat.le_refl, zgy]
 ·rintro g _
  have hn : ¬ (l.length : Int) - 1 - (l.length : Int) ≥ 0 := by omega
  have tk : l.reverse.take l.length = l.reverse := List.take_of_length_le (by simp)
  rw [tk]
  simp only [qfn, hn, Ev.exec, qb, qe, qc, qai, Ev.Opnd.ev, Ev.Env.get, Ev.Env.set, Ev.look, qch, ↓qs, Ev.it1, ↓reduceIte, Nat.reduceEqDiff, zgw, zfa, zgy]
  exact ⟨_, rfl, rfl, rfl, g, rfl, rfl, rfl, rfl, rfl, rfl, rfl, rfl, rfl, rfl⟩
end
theorem turn_map {α : Type} (f : Nat → α) (t n : Nat) (hn : 1 ≤ n) : (List.range n).map (fun i => f ((i + t) % n)) = (List.range (n - t % n)).map (fun i => f (i + t % n)) ++ (List.range (t % n)).map f := by
 have hk : t % n < n := Nat.mod_lt _ hn
 have hmod : ∀ i, (i + t) % n = (i + t % n) % n := fun i => by rw [Nat.add_mod, Nat.add_mod i (t % n), Nat.mod_mod]
 generalize hkk : t % n = k at *
 refine List.ext_getElem (by simp; omega) (fun i h1 h2 => ?_)
 simp only [zgi, List.length_range] at h1
 rw [List.getElem_map, List.getElem_range, hmod i]
 by_cases h : i < n - k
 ·rw [List.getElem_append_left (by simpa using h), List.getElem_map, List.getElem_range, Nat.mod_eq_of_lt (by omega)]
 ·rw [List.getElem_append_right (by simp; omega), List.getElem_map, List.getElem_range]
  simp only [zgi, List.length_range]
  congr 1
  rw [Nat.mod_eq_sub_mod (by omega), Nat.mod_eq_of_lt (by omega)]; omega
theorem qaag {α : Type} (f : Nat → α) (k n : Nat) (hk : k ≤ n) : (List.range n).map f = (List.range k).map f ++ (List.range (n - k)).map (fun i => f (i + k)) := by
 refine List.ext_getElem (by simp; omega) (fun i h1 h2 => ?_)
 simp only [zgi, List.length_range] at h1
 rw [List.getElem_map, List.getElem_range]
 by_cases h : i < k
 ·rw [List.getElem_append_left (by simpa using h), List.getElem_map, List.getElem_range]
 ·rw [List.getElem_append_right (by simp; omega), List.getElem_map, List.getElem_range]
  simp only [zgi, List.length_range]
  congr 1; omega
theorem qaae (l : List (List Evt)) (t : Nat) (hn : 1 ≤ l.length) : (qm1 l t l.length).flatten.Perm l.flatten := by
 have h1 : (qm1 l t l.length).flatten.Perm ((List.range l.length).map fun i => l.getD ((i + t) % l.length) []).flatten := q0v _ _ (fun i => l.getD ((i + t) % l.length) []) fun i => List.reverse_perm _
 have h2 : l = (List.range l.length).map fun i => l.getD i [] := by
  refine List.ext_getElem (by simp) (fun i h1 h2 => ?_)
  rw [List.getElem_map, List.getElem_range, List.getD_eq_getElem?_getD, List.getElem?_eq_getElem h1]; rfl
 have hk : t % l.length < l.length := Nat.mod_lt _ hn
 refine h1.trans ?_
 rw [turn_map (fun i => l.getD i []) t l.length hn]
 have h3 := qaag (fun i => l.getD i []) (t % l.length) l.length (by omega)
 have h4 : l.flatten = ((List.range (t % l.length)).map (fun i => l.getD i []) ++ (List.range (l.length - t % l.length)).map (fun i => l.getD (i + t % l.length) [])).flatten := by rw [← h3, ← h2]
 rw [h4, List.flatten_append, List.flatten_append]
 exact List.perm_append_comm
theorem turn_get (l : List (List Evt)) (t n : Nat) {i : Nat} (hi : i < l.length) : l[(i + t) % l.length]? = some (l.getD ((i + t) % l.length) []) := by
 have : (i + t) % l.length < l.length := Nat.mod_lt _ (by omega)
 rw [List.getD_eq_getElem?_getD, List.getElem?_eq_getElem this]; rfl
section
variable (tt : Int) (LM LE : List (List AV)) (ss : List (List Evt)) (g1 g2 : Nat) (z : Int)
theorem ord_L2 (hLM : qg9 3 LM = true) (hLE : qg9 3 LE = true) (htt : 0 ≤ tt ∧ tt ≤ 255) (h8 : ss.length ≤ 8) (hs : ∀ l ∈ ss, l.length ≤ 1000000) :
  ∃ y, itB (exec (evL T) itL none qfq) (qr [2, 7, 8, 13, 14, 15, 22, 23] true 3) ⟨[(2, (.v (.int .u8 tt))), (7, (bb true)), (8, .fsl LM false), (13, .sl 0 g1 0 ss.length false), (14, .sl 1 g2 0 ss.length false), (15, (ii z)), (22, .sl 2 0 0 0 false), (23, (ii ((0 : Nat))))], []⟩ [.row 1 LE g1, .row 1 (ss.map qaz) g2, .row 1 [] 0] = some y ∧
   (y.1 = .exit 2 ∧ y.2.1.marks = [] ∧ ∃ g : Nat, y.2.2 = [.row 1 LE g1, .row 1 (ss.map qaz) g2, .row 1 ((qm1 ss tt.toNat ss.length).map qaz) g] ∧ Ev.look y.2.1.vars 7 = some (bb true) ∧ Ev.look y.2.1.vars 8 = some (.fsl LM false) ∧ Ev.look y.2.1.vars 13 = some (.sl 0 g1 0 ss.length false) ∧ Ev.look y.2.1.vars 14 = some (.sl 1 g2 0 ss.length false) ∧ Ev.look y.2.1.vars 15 = some (ii z) ∧ Ev.look y.2.1.vars 22 = some (.sl 2 g 0 ss.length false)) := by
 have hLM4 : qg9 4 LM = true := qkj (by omega) _ hLM
 have hLE4 : qg9 4 LE = true := qkj (by omega) _ hLE
 have key := qeu (f := exec (evL T) itL none qfq) (s := qr [2, 7, 8, 13, 14, 15, 22, 23] true 3) (α := Nat)
  (fun i g => ⟨[(2, (.v (.int .u8 tt))), (7, (bb true)), (8, .fsl LM false), (13, .sl 0 g1 0 ss.length false), (14, .sl 1 g2 0 ss.length false), (15, (ii z)), (22, .sl 2 g 0 i false), (23, (ii i))], []⟩) (fun i g => [.row 1 LE g1, .row 1 (ss.map qaz) g2, .row 1 ((qm1 ss tt.toNat i).map qaz) g]) (fun _ _ => True) ss.length
  (fun y => y.1 = .exit 2 ∧ y.2.1.marks = [] ∧ ∃ g : Nat, y.2.2 = [.row 1 LE g1, .row 1 (ss.map qaz) g2, .row 1 ((qm1 ss tt.toNat ss.length).map qaz) g] ∧ Ev.look y.2.1.vars 7 = some (bb true) ∧ Ev.look y.2.1.vars 8 = some (.fsl LM false) ∧ Ev.look y.2.1.vars 13 = some (.sl 0 g1 0 ss.length false) ∧ Ev.look y.2.1.vars 14 = some (.sl 1 g2 0 ss.length false) ∧ Ev.look y.2.1.vars 15 = some (ii z) ∧ Ev.look y.2.1.vars 22 = some (.sl 2 g 0 ss.length false)) ?_ ?_ 0 0 (Nat.zero_le _) trivial
 ·exact key
 ·rintro i g hi _
  obtain ⟨t, ht⟩ : ∃ t : Nat, tt = t := ⟨tt.toNat, by omega⟩
  subst ht
  rw [Int.toNat_natCast]
  have hget := turn_get ss t ss.length hi
  have hmem := hs _ (List.mem_of_getElem? hget)
  have hnx : (qm1 ss t (i + 1)).map qaz = (qm1 ss t i).map qaz ++ [[(.fsl (((ss.getD ((i + t) % ss.length) []).reverse).map Evt.r) false)]] := by unfold qm1; rw [List.range_succ]; simp [qaz]
  have hlt : ((qm1 ss t i).map qaz).length = i := by simp [qm1]
  obtain ⟨⟨y, e, σ⟩, k1, k2, k3, g', k4, k5, k6, k7, k8, k9, k10, k11, k12, k13⟩ := ord_L3 ss.length (t : Int) LM LE (ss.map qaz) g1 g2 z ((qm1 ss t i).map qaz) g i hLM4 hLE4 (qdn _ _) (qdn _ _) (ss.getD ((i + t) % ss.length) []) hmem (.dead)
  simp only at k1 k2 k3 k4 k5 k6 k7 k8 k9 k10 k11 k12 k13
  subst k2; subst k4
  have hi' : (i : Int) < (ss.length : Int) := by omega
  have hw : IntKind.i64.wrap ((i : Int) + 1) = ((i + 1 : Nat) : Int) := by rw [qaw (by omega) (by omega)]; simp
  have wt : IntKind.i64.wrap (t : Int) = (t : Int) := qaw (by omega) (by omega)
  have wit : IntKind.i64.wrap ((i : Int) + (t : Int)) = ((i + t : Nat) : Int) := qke (by omega)
  have wm : ((i + t : Nat) : Int).tmod (ss.length : Int) = (((i + t) % ss.length : Nat) : Int) := by rw [Int.tmod_eq_emod_of_nonneg (by omega)]; omega
  have nz : ¬ (ss.length : Int) = 0 := by omega
  have hml : (i + t) % ss.length < ss.length := Nat.mod_lt _ (by omega)
  have wl : IntKind.i64.wrap (((ss.getD ((i + t) % ss.length) []).length : Int) - 1) = ((ss.getD ((i + t) % ss.length) []).length : Int) - 1 := qaw (by omega) (by omega)
  have lo := qdn 3 (qm1 ss t (i + 1))
  have loS := qdn 3 ss
  have loS4 := qdn 4 ss
  have loR4 := qdn 4 (qm1 ss t i)
  have tk : List.take i ((qm1 ss t i).map qaz) = (qm1 ss t i).map qaz := List.take_of_length_le (by omega)
  have tkr : List.take (ss.getD ((i + t) % ss.length) []).length ((ss.getD ((i + t) % ss.length) []).reverse.map Evt.r) = (ss.getD ((i + t) % ss.length) []).reverse.map Evt.r := List.take_of_length_le (by simp)
  have lol : ∀ n, qg9 n ((ss.getD ((i + t) % ss.length) []).map Evt.r) = true := fun n => qv _ _
  have bd : (i + 1) * 24 ≤ 140737488355328 := by omega
  have hle : i ≤ i := Nat.le_refl _
  have lorv : qg9 4 ((ss.getD ((i + t) % ss.length) []).reverse.map Evt.r) = true := qv _ _
  have lorv3 : qg9 3 ((ss.getD ((i + t) % ss.length) []).reverse.map Evt.r) = true := qv _ _
  have hrl : ((ss.getD ((i + t) % ss.length) []).reverse.map Evt.r).length = (ss.getD ((i + t) % ss.length) []).length := by simp
  have hgm : (ss.map qaz)[(i + t) % ss.length]? = some (qaz (ss.getD ((i + t) % ss.length) [])) := by rw [List.getElem?_map, hget]; rfl
  have hlm : (ss.map qaz).length = ss.length := List.length_map ..
  rw [hnx] at lo
  refine .inl ⟨g + 1, ?_, trivial⟩
  rw [hnx]
  clear hnx hget hmem
  generalize ss.getD ((i + t) % ss.length) [] = l at *
  generalize (qm1 ss t i).map qaz = R at *
  generalize l.reverse.map Evt.r = RV at *
  generalize ss.map qaz = SM at *
  simp only [qaz] at hgm
  generalize (i + t) % ss.length = q at *
  simp only [qfq, zgs, zgr, hi', hw, wt, wit, wm, nz, hml, wl, hgm, hlt, k1, k3, k5, k6, k7, k8, k9, k10, k11, k12, k13, lo, loS, loS4, loR4, tk, tkr, lol, hrl, bd, hle, hLM, hLM4, hLE, hLE4, Ev.exec, qb, qe, qc, qai, qn9, Ev.Opnd.ev, Ev.Env.get, Ev.Env.set, Ev.look, qk, qb0, qae, qf6, Ev.AV.cells, Ev.AV.uc, qy, Ev.AV.plain, qaf, qb8, qaa1, ql, qr, Ev.keep, qad, qw, qd, Ev.SObj.lo, qa1, qu, qbn, qac, qbl, qa9, List.replicate_one, zgi, ↓qs, ↓qaq, Ev.it1, ↓reduceIte, zga, zgb, zgd, zge, zgc, zgo, zfe, zgg, zgm, zgl, zgj, zgk, zgh, Nat.reduceAdd, Nat.reduceEqDiff, Nat.reduceMul, Nat.reduceLT, Nat.reduceLeDiff, Nat.reducePow, zgv, zfc, zfa, zgx, ne_eq, zfb, zff, zfd, zgu, Nat.le_refl, zgy]
 ·rintro g _
  simp only [qfq, Int.lt_irrefl, Ev.exec, qb, qe, qc, qai, Ev.Opnd.ev, Ev.Env.get, Ev.Env.set, Ev.look, ql, ↓qs, Ev.it1, ↓reduceIte, Nat.reduceEqDiff, zgw, zfa, zgy]
  exact ⟨_, rfl, rfl, rfl, g, rfl, rfl, rfl, rfl, rfl, rfl, rfl⟩
end
theorem qnb (c : Cfg) (s : Sim) (hor : Int) (D : List Evt) (n : Nat) : qd4 (qc9 c s hor n) D = (List.range n).map fun i => sortL ((wAt c s hor i).box ++ qcy D i) := by
 unfold qd4 qc9
 refine List.ext_getElem (by simp) (fun i h1 h2 => ?_)
 simp only [List.getElem_mapIdx, List.getElem_map, List.getElem_range]
theorem q0c (c : Cfg) (s : Sim) (hor : Int) (D : List Evt) : ∀ n : Nat, (qd4 (qc9 c s hor n) D).flatten.length = (qc9 c s hor n).flatten.length + ((List.range n).map fun i => qcy D i).flatten.length
 | 0 => by simp [qd4, qc9]
 | n + 1 => by
  have ih := q0c c s hor D n
  rw [qnb] at ih ⊢
  rw [qqn, List.range_succ]
  simp only [List.map_append, List.map_cons, List.map_nil, List.flatten_append, List.flatten_cons, List.flatten_nil, zgn, zgp, qox] at ih ⊢
  omega
theorem qab5 (c : Cfg) (s : Sim) (hor : Int) : ∀ n : Nat, q4v c s hor n = (qc9 c s hor n).flatten.length + (qcs c s hor n).flatten.length
 | 0 => by simp [q4v, qc9, qcs]
 | n + 1 => by
  rw [qud, qab5 c s hor n, qqn, qtn]
  simp only [List.flatten_append, List.flatten_cons, List.flatten_nil, zgn, zgp]
  omega
section
variable (LM : List (List AV)) (a b : List (List Evt))
theorem ord_L4 (hLM : qg9 3 LM = true) (ha8 : a.length ≤ 8) (hal : a.flatten.length ≤ 1000000) (hV : ∀ x ∈ a, qa4 (evL T) qh0 [(.fsl ((x).map Evt.r) false)] = some (bb true)) :
  ∃ y, itB (exec (evL T) itL none qfp) (qr [7, 8, 15, 27, 28, 29] true 3) ⟨[(7, (bb true)), (8, .fsl LM false), (15, (ii a.flatten.length)), (27, (.fsl ((a).map qaz) false)), (28, (.fsl ((b).map qaz) false)), (29, (ii ((0 : Nat))))], []⟩ [.dead, .dead, .dead] = some y ∧
   (y.1 = .exit 6 ∧ y.2.1.marks = [] ∧ y.2.2 = [.dead, .dead, .dead] ∧ Ev.look y.2.1.vars 7 = some (bb true) ∧ Ev.look y.2.1.vars 8 = some (.fsl LM false) ∧ Ev.look y.2.1.vars 15 = some (ii 0) ∧ Ev.look y.2.1.vars 27 = some (.fsl ((a).map qaz) false) ∧ Ev.look y.2.1.vars 28 = some (.fsl ((b).map qaz) false)) := by
 have key := qeu (f := exec (evL T) itL none qfp) (s := qr [7, 8, 15, 27, 28, 29] true 3) (α := Unit)
  (fun i _ => ⟨[(7, (bb true)), (8, .fsl LM false), (15, (ii ((a.flatten.length - (a.take i).flatten.length : Nat)))), (27, (.fsl ((a).map qaz) false)), (28, (.fsl ((b).map qaz) false)), (29, (ii i))], []⟩) (fun _ _ => [.dead, .dead, .dead]) (fun _ _ => True) a.length
  (fun y => y.1 = .exit 6 ∧ y.2.1.marks = [] ∧ y.2.2 = [.dead, .dead, .dead] ∧ Ev.look y.2.1.vars 7 = some (bb true) ∧ Ev.look y.2.1.vars 8 = some (.fsl LM false) ∧ Ev.look y.2.1.vars 15 = some (ii 0) ∧ Ev.look y.2.1.vars 27 = some (.fsl ((a).map qaz) false) ∧ Ev.look y.2.1.vars 28 = some (.fsl ((b).map qaz) false)) ?_ ?_ 0 () (Nat.zero_le _) trivial
 ·simp only [zgo, List.flatten_nil, zgb, Nat.sub_zero] at key; exact key
 ·rintro i _ hi _
  obtain ⟨x, hx⟩ : ∃ x, a[i]? = some x := ⟨_, List.getElem?_eq_getElem hi⟩
  have hi' : (i : Int) < (a.length : Int) := by omega
  have hw : IntKind.i64.wrap ((i : Int) + 1) = ((i + 1 : Nat) : Int) := by rw [qaw (by omega) (by omega)]; simp
  have hv := hV x (List.mem_of_getElem? hx)
  have h1 := q61 a (i + 1)
  have h2 : (a.take (i + 1)).flatten.length = (a.take i).flatten.length + x.length := by rw [quq hx, List.length_append]
  have ws : IntKind.i64.wrap (((a.flatten.length - (a.take i).flatten.length : Nat) : Int) - (x.length : Int)) = ((a.flatten.length - (a.take (i + 1)).flatten.length : Nat) : Int) := by
   rw [qaw (by omega) (by omega)]; omega
  refine .inl ⟨(), ?_, trivial⟩
  generalize a.flatten.length - (a.take (i + 1)).flatten.length = N at *
  generalize a.flatten.length - (a.take i).flatten.length = M at *
  have lox : ∀ n, qg9 n (x.map Evt.r) = true := fun n => qv _ _
  simp only [qfp, zgs, zgr, zgq, zgt, hx, hi', hw, hv, ws, qaz, lox, hLM, qdn, Ev.exec, qb, qe, qc, qa5, qai, Ev.evs, Ev.Opnd.ev, Ev.Env.get, Ev.Env.set, Ev.look, qk, qae, qaf, qb8, ql, qr, Ev.keep, qad, qw, qd, Ev.SObj.lo, qa1, qu, qj, qh, zgi, ↓qs, Ev.it1, ↓reduceIte, zga, zgb, zgc, zfe, zgh, Nat.reduceEqDiff, zgv, zfc, Bool.not_true, zfa, zgx, zfd, zgy]
 ·rintro _ _
  have h0 : ((a.flatten.length - (a.take a.length).flatten.length : Nat) : Int) = 0 := by rw [List.take_length]; omega
  rw [h0]
  simp only [qfp, Int.lt_irrefl, Ev.exec, qb, qe, qc, qai, Ev.Opnd.ev, Ev.Env.get, Ev.Env.set, Ev.look, ql, zgi, ↓qs, Ev.it1, ↓reduceIte, Nat.reduceEqDiff, zgw, zfa, zgy]
  exact ⟨_, rfl, rfl, rfl, rfl, rfl, rfl, rfl, rfl, rfl⟩
end
set_option maxHeartbeats 2000000 in
theorem qaaq (c : Cfg) (a tt : Int) (ha : 0 ≤ a ∧ a ≤ 255) (htt : 0 ≤ tt ∧ tt ≤ 255) : qa4 (evL T) qfu [(.agg [(.fsl ((c.lps).map lpC) false), (.fsl ((c.progs).map qc1) false), (ii c.look), (ii c.fin), (ii c.cap)]), .v (.int .u8 a), .v (.int .u8 tt)] = some (bb true) := by
 have hH := q3r
 obtain ⟨b, hq, hqb⟩ := q6n c
 rw [qa4, qx qre qma]
 cases b with
 | false => simp only [qfv, hH, hq, qc4, qbe, qn, Ev.exec, qb, qe, qc, qa5, qai, Ev.evs, Ev.Opnd.ev, Ev.Env.get, Ev.Env.set, Ev.look, qo, qk, qae, Ev.AV.cells, qy, Ev.AV.plain, qm, qab, qaj, Ev.kill, qah, qd, qa1, qbd, qu, qj, qh, qal, ↓qs, ↓reduceIte, zga, zgb, zgc, zfe, Nat.reduceAdd, Nat.reduceEqDiff, zfc, Bool.not_false, zgx, ne_eq, zfb, zff, zfd, Nat.le_refl, zgy]
 | true =>
 obtain ⟨G, l1, l8, n1, n4⟩ := hqb rfl
 obtain ⟨s, h, L, F, hS⟩ := State_ev G a ha
 have hF := Floor_ev (qfo c.lps.length s.pend) false (by simp [qfo]; omega)
 cases hfl : q2m (qfo c.lps.length s.pend) with
 | none =>
  rw [hfl] at hF
  simp only [Option.getD_none, Option.isSome_none] at hF
  generalize qfo c.lps.length s.pend = B at *
  simp only [qfv, hH, hq, hS, hF, qdn, qc4, qbe, qn, Ev.exec, qb, qe, qc, qa5, qai, Ev.evs, Ev.Opnd.ev, Ev.Env.get, Ev.Env.set, Ev.look, qo, qk, qae, Ev.AV.cells, qy, Ev.AV.plain, qm, qab, qaj, Ev.kill, qah, qd, qa1, qbd, qu, qj, qh, qal, ↓qs, ↓reduceIte, zga, zgb, zgd, zge, zgc, zfe, Nat.reduceAdd, Nat.reduceEqDiff, reduceCtorEq, zfc, Bool.not_true, Bool.not_false, zfa, zgx, ne_eq, zfb, zff, zfd, Nat.le_refl, zgy]
 | some f =>
 rw [hfl] at hF
 simp only [Option.getD_some, Option.isSome_some] at hF
 obtain ⟨fa, fb, hfb, fe, fr, rfl, hfe⟩ := q5u hfl (q5h _ _)
 have hmem : fe ∈ s.pend := F.flat.mem_iff.1 (List.mem_flatten.2 ⟨_, hfb, by simp⟩)
 have hft := (F.inv.ev fe (List.mem_append_right _ hmem)).time
 have hfin := G.v.fin
 have hHz := q8c c f (by omega) (by omega) hfin
 generalize f + qxm c.look (c.fin - f) = hor at *
 have hLl := F.lL
 have W := F.winF hor
 have hwf := W.len
 rw [List.length_append] at hwf
 have hsl0 : (qcs c s hor c.lps.length).length = c.lps.length := by simp [qcs]
 have hll0 : (qc9 c s hor c.lps.length).length = c.lps.length := by simp [qc9]
 obtain ⟨⟨y1, e1, σ1⟩, k1, k2, k3, g1, g2, k4, k5, k6, k7, k8, k9, k10⟩ := ord_L1 (hor := hor) F tt
 have hsl : ∀ l ∈ qcs c s hor c.lps.length, l.length ≤ 1000000 := fun l hl => by
  have := (List.sublist_flatten_of_mem hl).length_le; omega
 obtain ⟨⟨y2, e2, σ2⟩, m1, m2, m3, g3, m4, m5, m6, m7, m8, m9, m10⟩ := ord_L2 tt (L.map lpF) ((qc9 c s hor c.lps.length).map qaz) (qcs c s hor c.lps.length) g1 g2 ((q4v c s hor c.lps.length : Nat) : Int) (qqr _ _) (qdn _ _) htt (by omega) hsl
 have hpm := qaae (qcs c s hor c.lps.length) tt.toNat (by omega)
 have htl : (qm1 (qcs c s hor c.lps.length) tt.toNat (qcs c s hor c.lps.length).length).length = c.lps.length := by simp [qm1, hsl0]
 have hD1 := q2f (qc9 c s hor c.lps.length) (qcs c s hor c.lps.length) false false (by omega) (by omega) (by rw [List.length_append]; omega) W.kok (F.lefts_sorted hor) (W.dist _ (.refl _)) (fun e he => by
  have := W.rng e (List.mem_append_right _ he)
  rw [hll0]; exact this)
 have hD2 := q2f (qc9 c s hor c.lps.length) (qm1 (qcs c s hor c.lps.length) tt.toNat (qcs c s hor c.lps.length).length) false false (by omega) (by omega) (by rw [List.length_append, hpm.length_eq]; omega) (fun e he => W.kok e (by
  rcases List.mem_append.1 he with he | he
  ·exact List.mem_append_left _ he
  ·exact List.mem_append_right _ (hpm.mem_iff.1 he))) (F.lefts_sorted hor) (W.dist _ hpm) (fun e he => by
  have := W.rng e (List.mem_append_right _ (hpm.mem_iff.1 he))
  rw [hll0]; exact this)
 have hsame : qd4 (qc9 c s hor c.lps.length) (qm1 (qcs c s hor c.lps.length) tt.toNat (qcs c s hor c.lps.length).length).flatten = qd4 (qc9 c s hor c.lps.length) (qcs c s hor c.lps.length).flatten := by
  rw [qnb, qnb]
  refine List.map_congr_left fun i hi => ?_
  have hd := W.dist _ (.refl _) i _ (q45 c s hor (List.mem_range.1 hi))
  exact qur hd ((hpm.filter _).append_left _)
 rw [hsame] at hD2
 have hsz := qab5 c s hor c.lps.length
 have hop := q7m (h := (qcs c s hor c.lps.length).flatten) (n := c.lps.length) (fun e he => W.rng e (List.mem_append_right _ he))
 have hdl := q0c c s hor (qcs c s hor c.lps.length).flatten c.lps.length
 rw [hop.length_eq, ← hsz] at hdl
 have hDn : (qd4 (qc9 c s hor c.lps.length) (qcs c s hor c.lps.length).flatten).length = c.lps.length := by unfold qd4; rw [List.length_mapIdx]; exact hll0
 have memD : ∀ x ∈ qd4 (qc9 c s hor c.lps.length) (qcs c s hor c.lps.length).flatten, x.length ≤ 1000000 ∧ (∀ e ∈ x, e.key.length ≤ 9223372036854775807) ∧ x.Pairwise leE ∧ qsl x := by
  intro x hx
  rw [qnb] at hx
  simp only [List.mem_map, List.mem_range] at hx
  obtain ⟨i, hi, rfl⟩ := hx
  have hg := q45 c s hor hi
  have hd := W.dist _ (.refl _) i _ hg
  have h1 := (List.sublist_flatten_of_mem (List.mem_of_getElem? hg)).length_le
  have h2 := List.length_filter_le (fun e : Evt => decide (e.lp = i)) (qcs c s hor c.lps.length).flatten
  refine ⟨by rw [qox, List.length_append]; unfold qcy; omega, fun e he => ?_, qfj _, hd.perm (qd2 _)⟩
  refine W.kok e ?_
  rcases List.mem_append.1 ((qd2 _).mem_iff.1 he) with he | he
  ·exact List.mem_append_left _ (List.mem_flatten.2 ⟨_, List.mem_of_getElem? hg, he⟩)
  ·exact List.mem_append_right _ (List.mem_filter.1 he).1
 have hSB := q5m (qd4 (qc9 c s hor c.lps.length) (qcs c s hor c.lps.length).flatten) false false (by omega) (fun x hx => (memD x hx).1) (fun x hx => (memD x hx).2.1)
 obtain ⟨⟨y4, e4, σ4⟩, p1, p2, p3, p4, p5, p6, p7, p8, p9⟩ := ord_L4 (L.map lpF) (qd4 (qc9 c s hor c.lps.length) (qcs c s hor c.lps.length).flatten) (qd4 (qc9 c s hor c.lps.length) (qcs c s hor c.lps.length).flatten) (qqr _ _) (by omega) (by omega) (fun x hx => by
  have hm := memD x hx
  have hV := q2c x false hm.1 hm.2.1
  rw [qaao hm.2.2.1 hm.2.2.2] at hV; exact hV)
 rw [hdl] at p1
 simp only [Int.ofNat_zero, qc9, qcs, List.range_zero, List.map_nil] at k1
 simp only [Int.ofNat_zero] at m1 p1
 simp only at k2 k3 k4 k5 k6 k7 k8 k9 k10 m2 m3 m4 m5 m6 m7 m8 m9 m10 p2 p3 p4 p5 p6 p7 p8 p9
 subst k2; subst k4; subst m2; subst m4; subst p2; subst p4
 have z0 : q4v c s hor 0 = 0 := rfl
 have lo1 := fun n => qqr n L
 have lo2 := fun n => qdn n (qfo c.lps.length s.pend)
 have lo3 := fun n => qdn n (qc9 c s hor c.lps.length)
 have lo4 := fun n => qdn n (qcs c s hor c.lps.length)
 have lo5 := fun n => qdn n (qd4 (qc9 c s hor c.lps.length) (qcs c s hor c.lps.length).flatten)
 have lo6 := fun n => qdn n (qm1 (qcs c s hor c.lps.length) tt.toNat (qcs c s hor c.lps.length).length)
 have hll : ((qc9 c s hor c.lps.length).map qaz).length = c.lps.length := by rw [List.length_map]; exact hll0
 have hslm : ((qcs c s hor c.lps.length).map qaz).length = c.lps.length := by rw [List.length_map]; exact hsl0
 have htlm : ((qm1 (qcs c s hor c.lps.length) tt.toNat (qcs c s hor c.lps.length).length).map qaz).length = c.lps.length := by rw [List.length_map]; exact htl
 have hDlm : ((qd4 (qc9 c s hor c.lps.length) (qcs c s hor c.lps.length).flatten).map qaz).length = c.lps.length := by rw [List.length_map]; exact hDn
 have hlm : (L.map lpF).length = c.lps.length := by rw [List.length_map]; exact hLl
 have tk1 : List.take c.lps.length ((qc9 c s hor c.lps.length).map qaz) = (qc9 c s hor c.lps.length).map qaz := List.take_of_length_le (by omega)
 have tk2 : List.take c.lps.length ((qcs c s hor c.lps.length).map qaz) = (qcs c s hor c.lps.length).map qaz := List.take_of_length_le (by omega)
 have tk3 : List.take c.lps.length ((qm1 (qcs c s hor c.lps.length) tt.toNat (qcs c s hor c.lps.length).length).map qaz) = (qm1 (qcs c s hor c.lps.length) tt.toNat (qcs c s hor c.lps.length).length).map qaz := List.take_of_length_le (by omega)
 have hle : c.lps.length ≤ c.lps.length := Nat.le_refl _
 simp only [hsl0] at m1 m7 m8 m9 m10 p1 tk3 htlm hD2 lo6
 clear memD hsame hop hpm W F fa hfb hfl hmem
 generalize (qc9 c s hor c.lps.length).map qaz = LE at *
 generalize (qm1 (qcs c s hor c.lps.length) tt.toNat c.lps.length).map qaz = TE at *
 generalize (qd4 (qc9 c s hor c.lps.length) (qcs c s hor c.lps.length).flatten).map qaz = DM at *
 generalize (qcs c s hor c.lps.length).map qaz = SE at *
 generalize (qfo c.lps.length s.pend).map qaz = BM at *
 generalize L.map lpF = LM at *
 simp only [qfv, hH, hq, hS, hF, hHz, k1, k3, k5, k6, k7, k8, k9, k10, m1, m3, m5, m6, m7, m8, m9, m10, hD1, hD2, p1, p3, p5, p6, p7, p8, p9, hSB, lo1, lo2, lo3, lo4, lo5, lo6, hll, hslm, htlm, hDlm, hlm, tk1, tk2, tk3, hle, qc4, qbe, Ev.iceE, qn, Ev.exec, qb, qe, qc, qa5, qai, Ev.evs, Ev.Opnd.ev, Ev.Env.get, Ev.Env.set, Ev.look, qo, qk, qae, Ev.AV.cells, qy, Ev.AV.plain, qam, qm, qab, qaj, Ev.kill, qah, qr, Ev.keep, qad, qw, qd, Ev.SObj.lo, qa1, qbd, qu, qb1, qbn, qj, qh, qac, qal, ↓qs, ↓qaq, ↓reduceIte, zga, zgb, zgd, zge, zgc, zgo, zfe, zgg, zgm, zgl, zgj, zgk, Nat.reduceAdd, Nat.reduceEqDiff, Nat.reduceLT, reduceCtorEq, zgv, zfc, Bool.not_true, zfa, zgx, ne_eq, zfb, zff, zfd, zgu, Nat.le_refl, zgy]
end Go.Proofs.YtbhhifdhlafklaaGreat.K
namespace Go.Ev
def Ctx.nil : Ctx := { n := 0, loc := fun _ => ⟨0, 0, 0, 0⟩, own := fun _ => False, far := fun _ => False }
theorem SR.nil (P : Program) (w : World) : SR P Ctx.nil [] w where
 len := rfl
 obj o ob h := by simp at h
 blk o h := absurd h (Nat.not_lt_zero _)
 inj o o' h := absurd h (Nat.not_lt_zero _)
 ownlt b h := h.elim
 farlt b h := h.elim
 sep b h := h.elim
section
variable (P : Program) {H : Type} (enc : TypeId × Value → H)
def qlr (t : TypeId) {τ : Type} (c : τ → List AV) (ok : τ → Prop) : Prop :=
 ∀ (w : World) (fuel : Nat) (cs : List Value) (d : DataW H) (ps : List MemPlace), DataW.trod enc P w 0 (fun _ => true) true fuel t cs = some (d, ps) → ∃ x : τ, ok x ∧ VRs Ctx.nil w (c x) cs
variable {P enc}
theorem VRs.one {Γ : Ctx} {w : World} {a : AV} {v : Value} (h : VR Γ w a v) : VRs Γ w [a] [v] := by
 simp only [VRs]; exact ⟨v, [], rfl, h, rfl⟩
theorem q2i {t : TypeId} {k : IntKind} (hu : P.underlying t = some (.int k)) : qlr P enc t (fun n : Int => [.v (.int k n)]) (fun n => (Lit.int k n).wf = true) := by
 intro w fuel cs d ps h
 cases fuel with
 | zero => simp [DataW.trod] at h
 | succ fuel =>
  unfold DataW.trod at h
  rw [hu] at h
  split at h <;> rename_i heq <;> first | (cases heq; done) | (cases h; done) | skip
  cases heq
  split at h
  ·rename_i hk
   obtain ⟨rfl, hwf⟩ := hk
   exact ⟨_, hwf, VRs.one (by simp only [VR])⟩
  ·cases h
variable (P enc) in
def qu5 (off : Nat) (fs : List Field) {τ : Type} (c : τ → List AV) (ok : τ → Prop) (tot : Nat) : Prop :=
 ∀ (w : World) (fuel : Nat) (cs : List Value), (∀ (i : Nat) (f : Field), fs[i]? = some f → ∃ x, DataW.trod enc P w 0 (fun _ => true) true fuel f.type ((cs.drop f.offset).take (P.cellsOf f.type)) = some x) →
  ∃ x : τ, ok x ∧ VRs Ctx.nil w (c x) ((cs.drop off).take tot)
theorem qrz (off : Nat) : qu5 P enc off [] (fun _ : Unit => []) (fun _ => True) 0 := fun w fuel cs _ => ⟨(), trivial, by simp [VRs]⟩
theorem qfg {off : Nat} {f : Field} {fs : List Field} {α β : Type} {c1 : α → List AV} {ok1 : α → Prop} {c2 : β → List AV} {ok2 : β → Prop} {tot : Nat} {sz : Nat} (ho : f.offset = off) (hs : P.cellsOf f.type = sz)
  (h1 : qlr P enc f.type c1 ok1) (h2 : qu5 P enc (off + sz) fs c2 ok2 tot) : qu5 P enc off (f :: fs) (fun x : α × β => c1 x.1 ++ c2 x.2) (fun x => ok1 x.1 ∧ ok2 x.2) (sz + tot) := by
 intro w fuel cs h
 obtain ⟨⟨d, ps⟩, h3⟩ := h 0 f rfl
 obtain ⟨x, k1, k2⟩ := h1 w fuel _ d ps h3
 obtain ⟨y, k3, k4⟩ := h2 w fuel cs fun i g hg => h (i + 1) g (by simpa using hg)
 refine ⟨(x, y), ⟨k1, k3⟩, ?_⟩
 rw [List.take_add, List.drop_drop]
 rw [ho, hs] at k2
 exact k2.append k4
theorem q4g {t : TypeId} {fs : Array Field} {τ : Type} {c : τ → List AV} {ok : τ → Prop} (hu : P.underlying t = some (.struct fs)) (h : qu5 P enc 0 fs.toList c ok (P.cellsOf t)) : qlr P enc t c ok := by
 intro w fuel cs d ps ht
 obtain ⟨xs, n, rfl, _, hl, hx, hall⟩ := DataW.trod_struct hu ht
 obtain ⟨x, k1, k2⟩ := h w n cs fun i f hf => by
  have hf' : fs[i]? = some f := by simpa using hf
  have := hall i f hf'
  have hlt : i < xs.length := by rw [hx]; exact (Array.getElem?_eq_some_iff.1 hf').1
  exact ⟨xs[i], by rw [this, List.getElem?_eq_getElem hlt]⟩
 refine ⟨x, k1, ?_⟩
 rw [List.drop_zero, ← hl, List.take_length] at k2
 exact k2
theorem qo8 {t : TypeId} {fs : Array Field} {τ : Type} {c : τ → List AV} {ok : τ → Prop} {n : Nat} (hu : P.underlying t = some (.struct fs)) (h : qu5 P enc 0 fs.toList c ok n) (hn : P.cellsOf t = n) : qlr P enc t c ok := q4g hu (by rw [hn]; exact h)
theorem qlr.map {t : TypeId} {α β : Type} {c : α → List AV} {ok : α → Prop} {c' : β → List AV} {ok' : β → Prop} (g : α → β) (h : qlr P enc t c ok) (hc : ∀ x, c' (g x) = c x) (ho : ∀ x, ok x → ok' (g x)) : qlr P enc t c' ok' := by
 intro w fuel cs d ps ht
 obtain ⟨x, h1, h2⟩ := h w fuel cs d ps ht
 exact ⟨g x, ho x h1, by rw [hc]; exact h2⟩
theorem q0x {τ : Type} {Q : Nat → τ → Prop} : ∀ (n : Nat), (∀ i, i < n → ∃ x, Q i x) → ∃ xs : List τ, xs.length = n ∧ ∀ (i : Nat) (x : τ), xs[i]? = some x → Q i x
 | 0, _ => ⟨[], rfl, by simp⟩
 | n + 1, h => by
  obtain ⟨xs, h1, h2⟩ := q0x n fun i hi => h i (by omega)
  obtain ⟨x, hx⟩ := h n (by omega)
  refine ⟨xs ++ [x], by simp [h1], fun i y hy => ?_⟩
  rw [List.getElem?_append] at hy
  split at hy
  ·exact h2 i y hy
  ·rename_i hi
   have hlt : i - xs.length < 1 := by
    have := (List.getElem?_eq_some_iff.1 hy).1
    simpa using this
   have : i = n := by omega
   subst this
   rw [h1, Nat.sub_self] at hy
   simp at hy; subst hy; exact hx
theorem q5q {Γ : Ctx} {w : World} {sz : Nat} {τ : Type} {c : τ → List AV} : ∀ (xs : List τ) (get : Nat → Option Value), (∀ (i : Nat) (x : τ), xs[i]? = some x → qan Γ w (c x) (fun j => get (j + i * sz))) → qgd Γ w sz (xs.map c) get
 | [], _, _ => by simp [qgd]
 | x :: xs, get, h => by
  simp only [List.map_cons, qgd]
  refine ⟨by simpa using h 0 x (by simp), q5q xs _ fun i y hy => ?_⟩
  refine (h (i + 1) y (by simpa using hy)).congr fun j => ?_
  congr 1
  rw [Nat.add_mul]; omega
theorem qou {t e : TypeId} {sz : Nat} {τ : Type} {c : τ → List AV} {ok : τ → Prop} (hu : P.underlying t = some (.slice e)) (hs : P.cellsOf e = sz) (h0 : 0 < sz) (hc : ∀ x, (c x).length = sz) (h : qlr P enc e c ok) :
  qlr P enc t (fun xs : List τ => [.fsl (xs.map c) false]) (fun xs => (∀ x ∈ xs, ok x) ∧ xs.length ≤ maxLen) := by
 intro w fuel cs d ps ht
 rcases DataW.trod_slice hu ht with ⟨rfl, _⟩ | ⟨a, len, cap, elems, rest, n, rfl, rfl, _, _, hle, hcap, hel, hall, _⟩
 ·refine ⟨[], by simp, VRs.one ?_⟩
  simp only [VR]
  exact ⟨none, 0, rfl, by simp, fun h => (by cases h), .inl rfl⟩
 ·have hex : ∀ i, i < len → ∃ x : τ, ok x ∧ ∃ vs, w.cells? 0 (a.add (i * sz)) sz = some vs ∧ VRs Ctx.nil w (c x) vs := by
   intro i hi
   have hb := hall i hi
   rw [List.getElem?_eq_getElem (by omega), Option.bind_eq_some_iff] at hb
   obtain ⟨vs, k1, k2⟩ := hb
   obtain ⟨x, k3, k4⟩ := h w n vs _ _ k2
   rw [hs] at k1
   exact ⟨x, k3, vs, k1, k4⟩
  obtain ⟨xs, h4, h5⟩ := q0x (Q := fun i x => ok x ∧ ∃ vs, w.cells? 0 (a.add (i * sz)) sz = some vs ∧ VRs Ctx.nil w (c x) vs) len hex
  refine ⟨xs, ⟨fun x hx => ?_, by omega⟩, VRs.one ?_⟩
  ·obtain ⟨i, hi, rfl⟩ := List.mem_iff_getElem.1 hx
   exact (h5 i _ (by simp [hi])).1
  ·simp only [VR]
   refine ⟨some a, cap, by simp [h4], by simp [h4]; omega, fun h => (by cases h), ?_⟩
   by_cases hx0 : xs = []
   ·left; simp [hx0]
   ·right
    have hlen0 : 0 < xs.length := List.length_pos_iff.2 hx0
    have hcell : ∀ (i : Nat) (x : τ), xs[i]? = some x → ∀ j, j < sz → ∃ v, w.cell? ((a.add (i * sz)).add j) = some v := by
     intro i x hx j hj
     obtain ⟨_, vs, k1, k2⟩ := h5 i x hx
     obtain ⟨_, k3, k4⟩ := World.cells?_some k1
     exact ⟨vs[j]'(by omega), by rw [k4 j hj, List.getElem?_eq_getElem (by omega)]⟩
    obtain ⟨v0, hv0⟩ := hcell 0 xs[0] (by simp [hlen0]) 0 h0
    obtain ⟨b, off, spot⟩ := a
    have hspot : spot = none := by simpa [Addr.add] using World.cell?_spot hv0
    subst hspot
    have hblt : b < w.heap.size := by
     rw [Addr.add_lit, Addr.add_lit] at hv0
     unfold World.cell? at hv0
     cases hh : w.heap[b]? with
     | none => rw [hh] at hv0; simp at hv0
     | some o => exact (Array.getElem?_eq_some_iff.1 hh).1
    refine ⟨b, off, sz, rfl, ⟨hblt, id, id⟩, h0, ?_, ?_⟩
    ·intro e he
     obtain ⟨x, _, rfl⟩ := List.mem_map.1 he
     exact hc x
    ·refine q5q xs _ fun i x hx => ?_
     obtain ⟨_, vs, k1, k2⟩ := h5 i x hx
     obtain ⟨_, k3, k4⟩ := World.cells?_some k1
     refine qan.of_list k2 fun j v hj => ?_
     have hjl := (List.getElem?_eq_some_iff.1 hj).1
     have := k4 j (by omega)
     rw [hj, Addr.add_lit, Addr.add_lit] at this
     rw [← this]
     congr 2
     omega
end
end Go.Ev
namespace Go.Ev
open Go.RowKit (Below)
open Go.ChangeShapes Go.WideShapes Go.ChangeAt Go.RowKit
variable {H : Type} {enc : TypeId × Value → H} {P : Program}
theorem Ext.below {w w' : World} {Γ' : Ctx} (x : Ext Ctx.nil Γ' w w') : Below w.heap.size w w' := ⟨x.os, x.tape, x.output, x.size, fun k hk => x.same k hk id⟩
theorem quk (hl : laidOutB P = true) {w w' : World} (hb : Below w.heap.size w w') {sp : Nat → Bool} : ∀ {ts : List TypeId} {vs : List Value} {ds : List (DataW H)} {ps : List MemPlace},
  (∀ t ∈ ts, P.readableRec t = true ∧ t < P.types.size) → DataW.TrodAll enc P w 0 (fun _ => true) true ts vs ds ps → (∀ p ∈ ps, p.block < w.heap.size) → (∀ p ∈ ps, sp p.block = true) → DataW.TrodAll enc P w' 0 sp true ts vs ds ps
 | [], [], [], ps, _, h, _, _ => h
 | t :: ts, v :: vs, d :: ds, ps, ht, ⟨p, q, h1, h2, e⟩, hlt, hs => by
  subst e
  obtain ⟨r1, r2⟩ := ht t (by simp)
  exact ⟨p, q, WideElems.Trod_stays hl r1 r2 h1 (fun x hx => hb.same (hlt x (List.mem_append_left _ hx))) (fun x hx => hs x (List.mem_append_left _ hx)),
   quk hl hb (fun u hu => ht u (by simp [hu])) h2 (fun x hx => hlt x (List.mem_append_right _ hx)) (fun x hx => hs x (List.mem_append_right _ hx)), rfl⟩
 | [], _ :: _, _, _, _, h, _, _ => h.elim
 | [], [], _ :: _, _, _, h, _, _ => h.elim
 | _ :: _, [], _, _, _, h, _, _ => h.elim
 | _ :: _, _ :: _, [], _, _, h, _, _ => h.elim
theorem frz_bool {σ : qaa} {d : Nat} {a : AV} {b : Bool} : frz σ (d + 1) a = some (.v (.bool b)) → a = .v (.bool b) := by
 intro h
 simp only [frz] at h
 split at h
 ·cases h; rfl
 ·cases a with
  | v x => cases h; rfl
  | sl o g off len c =>
   simp only at h
   split at h
   ·split at h
    ·rw [Option.bind_eq_some_iff] at h; obtain ⟨_, _, h⟩ := h; cases h
    ·cases h
   ·cases h
  | ptr o g i off =>
   simp only at h
   split at h
   ·split at h
    ·rw [Option.bind_eq_some_iff] at h; obtain ⟨_, _, h⟩ := h
     rw [Option.bind_eq_some_iff] at h; obtain ⟨_, _, h⟩ := h; cases h
    ·cases h
   ·cases h
  | agg cs => simp only [Option.bind_eq_some_iff] at h; obtain ⟨_, _, h⟩ := h; cases h
  | tup cs => simp only [Option.bind_eq_some_iff] at h; obtain ⟨_, _, h⟩ := h; cases h
  | fsl es c => simp only [Option.bind_eq_some_iff] at h; obtain ⟨_, _, h⟩ := h; cases h
  | fptr cs => simp only [Option.bind_eq_some_iff] at h; obtain ⟨_, _, h⟩ := h; cases h
  | fn f a b => simp only [Option.bind_eq_some_iff] at h; obtain ⟨_, _, _, _, h⟩ := h; cases h
  | yld o => cases h
  | mp o => cases h
theorem q8z {T : Tab} (hT : TabOk P T) {f : Nat} {cf : CFunc} (hc : T.code f = some cf) {as_ : List AV} {b : Bool} (h : qa4 (evL T) f as_ = some (.v (.bool b))) {W : World} {args : Array Value} (hv : VRs Ctx.nil W as_ args.toList) :
  Calls P f args W fun e W' => e = .returned (.bool b) ∧ Below W.heap.size W W' := by
 unfold qa4 at h
 rw [Option.bind_eq_some_iff] at h
 obtain ⟨⟨r, σ⟩, h1, h2⟩ := h
 obtain rfl := frz_bool (d := 5) h2
 have hn := evL_ok hT f as_ [] _ σ h1 Ctx.nil W args.toList (SR.nil P W) hv
 rw [Array.toArray_toList, hT.enter hc] at hn
 refine (callsIn_wide.1 hn).mono fun e W' he => ?_
 cases e with
 | returned v =>
  obtain ⟨Γ', k1, _, k3⟩ := he
  simp only [VR] at k1
  exact ⟨by rw [k1], k3.below⟩
 | panicked _ => exact he.elim
 | outgrown => exact he.elim
theorem q5g {f : Func} {s : ChangeSpec} {apart fresh handsOn again : Bool} {W W' : World} {args : Array Value} {ds gs : List (DataW H)} {before : List MemPlace} {tb : TypeId}
  (hvars : s.vars = []) (hspec : s.fn H (ds ++ gs) = { results := [.lit (.bool true)], args := ds }) (hr : f.resultTypes = #[tb]) (htb : P.underlying tb = some .bool) (hl : laidOutB P = true)
  (hts : ∀ t ∈ f.params.toList, P.readableRec t = true ∧ t < P.types.size)
  (hW : DataW.Whole enc P f.params.toList s.vars apart W args.toList ds gs before) (hb : Below W.heap.size W W') : s.post enc P f apart fresh handsOn again W args (.bool true) W' := by
 have hlt := hW.lt
 have hW' := hW
 obtain ⟨p, q, hA, hV, rfl, hz, hnd⟩ := hW
 rw [hvars] at hV
 obtain ⟨rfl, rfl⟩ := trodVars_none hV
 have hargs : ∀ sp : Nat → Bool, (∀ x ∈ p, sp x.block = true) → DataW.TrodAll enc P W' 0 sp true f.params.toList args.toList ds p := fun sp hs => quk hl hb hts hA (fun x hx => hlt x (by simp [hx])) hs
 have hres : ∀ (bb : Nat) (sp : Nat → Bool) (hd : Bool), DataW.TrodAll enc P W' bb sp hd f.resultTypes.toList ((Value.bool true).resultList f.resultTypes.size) [.lit (.bool true)] [] := fun bb sp hd => by
  rw [hr]
  exact trodAll_mk1 (shut_bool htb true)
 refine ⟨ds, [], p ++ [], [], p, [], hW', ?_, ?_, ?_, hb.frame _, fun _ => ⟨?_, ?_⟩⟩
 ·rw [hspec]; exact hres _ _ _
 ·rw [hspec]; exact hargs _ fun x hx => by simpa using hlt x (by simp [hx])
 ·rw [hspec, hvars]; rfl
 ·exact ok_one hr rfl (okWide_bool_mk htb true)
 ·refine ⟨[.lit (.bool true)] ++ ds, [], ([] ++ p) ++ [], ⟨[] ++ p, [], trodAll_append (hargs _ (fun _ _ => rfl)) (hres _ _ _), by rw [hvars]; rfl, rfl, ?_, ?_⟩, ?_⟩
  ·intro b off hp
   have hp' : MemPlace.cell b off ∈ p := by simpa using hp
   have hblt : b < W.heap.size := hlt (.cell b off) (by simp [hp'])
   rw [hb.frozen (p := ⟨b, off, none⟩) hblt]
   exact hz b off (by simp [hp'])
  ·intro ha
   simpa using hnd ha
  ·intro x hx _
   simpa using hx
end Go.Ev
namespace Go.Ev
open Go.RowKit (Below)
open Go.ChangeShapes Go.WideShapes Go.ChangeAt Go.RowKit
section
variable {H : Type} (P : Program) (enc : TypeId × Value → H)
def q2v (ts : List TypeId) {τ : Type} (c : τ → List AV) (ok : τ → Prop) : Prop :=
 ∀ (W : World) (args : List Value) (ds : List (DataW H)) (p : List MemPlace), DataW.TrodAll enc P W 0 (fun _ => true) true ts args ds p →
  (∀ (j : Nat) t v, ts[j]? = some t → args[j]? = some v → ∃ base, Value.okWide P W .any base t v) → ∃ x : τ, ok x ∧ VRs Ctx.nil W (c x) args ∧ ds.length = ts.length
variable {P enc}
def q9v : TypeDesc → Bool
 | .struct _ => false
 | .array _ _ => false
 | _ => true
theorem q5f {w : World} {r : Reach} {base : Nat} {t : TypeId} {v : Value} {u : TypeDesc} (hu : P.underlying t = some u) (hp : q9v u = true) (h : Value.okWide P w r base t v) : ∀ cs, v ≠ .agg cs := by
 rintro cs rfl
 unfold Value.okWide at h
 rw [hu] at h
 cases u <;> simp only [q9v, Bool.false_eq_true] at hp <;> simp only [Cell.okWide, Cell.ok, hu] at h
theorem q71 : q2v P enc [] (fun _ : Unit => []) (fun _ => True) := by
 intro W args ds p h _
 obtain ⟨rfl, rfl, rfl⟩ := trodAll_nil h
 exact ⟨(), trivial, by simp [VRs], rfl⟩
theorem q0k {t : TypeId} {ts : List TypeId} {u : TypeDesc} {α β : Type} {a : α → AV} {ok1 : α → Prop} {c2 : β → List AV} {ok2 : β → Prop} (hu : P.underlying t = some u) (hp : q9v u = true)
  (h1 : qlr P enc t (fun x => [a x]) ok1) (h2 : q2v P enc ts c2 ok2) : q2v P enc (t :: ts) (fun x : α × β => a x.1 :: c2 x.2) (fun x => ok1 x.1 ∧ ok2 x.2) := by
 intro W args ds p h hval
 obtain ⟨v, vs, d, ds', p, q, rfl, rfl, rfl, ht, hr⟩ := trodAll_cons h
 obtain ⟨y, k1, k2, k3⟩ := h2 W vs ds' q hr fun j t v e1 e2 => hval (j + 1) t v (by simpa using e1) (by simpa using e2)
 obtain ⟨fuel, hf⟩ := ht
 obtain ⟨x, m1, m2⟩ := h1 W fuel _ d p hf
 obtain ⟨base, hv⟩ := hval 0 t v rfl rfl
 have hna := q5f hu hp hv
 have hc : v.cells.toList = [v] := by
  cases v with
  | agg cs => exact absurd rfl (hna cs)
  | _ => rfl
 rw [hc] at m2
 simp only [VRs] at m2
 obtain ⟨v', r, e, m3, rfl⟩ := m2
 cases e
 refine ⟨(x, y), ⟨m1, k1⟩, ?_, by simp [k3]⟩
 simp only [VRs]
 exact ⟨v, vs, rfl, m3, k2⟩
theorem q33 {t : TypeId} {ts : List TypeId} {fs : Array Field} {α β : Type} {c1 : α → List AV} {ok1 : α → Prop} {c2 : β → List AV} {ok2 : β → Prop} (hu : P.underlying t = some (.struct fs))
  (h1 : qlr P enc t c1 ok1) (h2 : q2v P enc ts c2 ok2) : q2v P enc (t :: ts) (fun x : α × β => .agg (c1 x.1) :: c2 x.2) (fun x => ok1 x.1 ∧ ok2 x.2) := by
 intro W args ds p h hval
 obtain ⟨v, vs, d, ds', p, q, rfl, rfl, rfl, ht, hr⟩ := trodAll_cons h
 obtain ⟨y, k1, k2, k3⟩ := h2 W vs ds' q hr fun j t v e1 e2 => hval (j + 1) t v (by simpa using e1) (by simpa using e2)
 obtain ⟨fuel, hf⟩ := ht
 obtain ⟨x, m1, m2⟩ := h1 W fuel _ d p hf
 obtain ⟨base, hv⟩ := hval 0 t v rfl rfl
 obtain ⟨cs, rfl, _⟩ := okWide_struct hu hv
 refine ⟨(x, y), ⟨m1, k1⟩, ?_, by simp [k3]⟩
 simp only [VRs]
 refine ⟨_, vs, rfl, ?_, k2⟩
 simp only [VR]
 exact ⟨cs.toList, by simp, by simpa [Value.cells] using m2⟩
end
theorem q6x {H : Type} {enc : TypeId × Value → H} {P : Program} {T : Tab} (hT : TabOk P T) {f : Nat} {fn : Func} {cf : CFunc} (hc : T.code f = some cf) {s : ChangeSpec} {apart : Bool} {ts : List TypeId} {tb : TypeId} {τ : Type} {c : τ → List AV} {ok : τ → Prop}
  (hpar : fn.params.toList = ts) (hargs : q2v P enc ts c ok) (hlaw : ∀ x, ok x → qa4 (evL T) f (c x) = some (.v (.bool true)))
  (hvars : s.vars = []) (hspec : ∀ ds : List (DataW H), ds.length = ts.length → s.fn H ds = { results := [.lit (.bool true)], args := ds })
  (hr : fn.resultTypes = #[tb]) (htb : P.underlying tb = some .bool) (hl : laidOutB P = true) (hts : ∀ t ∈ ts, P.readableRec t = true ∧ t < P.types.size)
  (W : World) (base : Nat) (args : Array Value) (ds gs : List (DataW H)) (before : List MemPlace) (hval : ∀ (j : Nat) t v, fn.params[j]? = some t → args[j]? = some v → Value.okWide P W .any base t v)
  (hW : DataW.Whole enc P fn.params.toList s.vars apart W args.toList ds gs before) : Calls P f args W fun e W' => ∃ v, e = .returned v ∧ s.post enc P fn apart true false false W args v W' := by
 have hW' := hW
 obtain ⟨p, q, hA, hV, rfl, hz, hnd⟩ := hW
 rw [hvars] at hV
 obtain ⟨rfl, rfl⟩ := trodVars_none hV
 obtain ⟨x, h1, h2, h3⟩ := hargs W args.toList ds p (hpar ▸ hA) fun j t v e1 e2 => ⟨base, hval j t v (by rw [← hpar] at e1; simpa using e1) (by simpa using e2)⟩
 refine (q8z hT hc (hlaw x h1) h2).mono fun e W' ⟨he, hb⟩ => ⟨_, he, ?_⟩
 exact q5g hvars (by rw [List.append_nil]; exact hspec ds h3) hr htb hl (by rw [hpar]; exact hts) hW' hb
end Go.Ev
namespace Go.Proofs.YtbhhifdhlafklaaGreat.K
open Go.Ev
open Go.ChangeShapes Go.WideShapes Go.ChangeAt Go.RowKit
section
variable {H : Type} {enc : TypeId × Value → H}
theorem wf_u8 {n : Int} (h : (Lit.int .u8 n).wf = true) : 0 ≤ n ∧ n ≤ 255 := by
 simp [Lit.wf] at h
 have h1 : IntKind.u8.min = 0 := rfl
 have h2 : IntKind.u8.max = 255 := rfl
 omega
theorem wf_i64 {n : Int} (h : (Lit.int .i64 n).wf = true) : -9223372036854775808 ≤ n ∧ n ≤ 9223372036854775807 := by
 simp [Lit.wf] at h
 have h1 : IntKind.i64.min = -9223372036854775808 := rfl
 have h2 : IntKind.i64.max = 9223372036854775807 := rfl
 omega
theorem qm5 : qlr Tryz.prog enc 3 (fun n : Int => [(ii n)]) (fun n => -9223372036854775808 ≤ n ∧ n ≤ 9223372036854775807) := (q2i Tryz.underlying3).map id (fun _ => rfl) (fun _ h => wf_i64 h)
theorem qaaw : qlr Tryz.prog enc 5 (fun n : Int => [(.v (.int .u8 n))]) (fun n => 0 ≤ n ∧ n ≤ 255) := (q2i Tryz.underlying5).map id (fun _ => rfl) (fun _ h => wf_u8 h)
theorem data_op : qlr Tryz.prog enc 93 OpI.r (fun _ => True) := by
 have h := qo8 (P := Tryz.prog) (enc := enc) (t := 93) Tryz.underlying93 (qfg (sz := 1) rfl (by kernel_rfl) qm5 (qfg (sz := 1) rfl (by kernel_rfl) qm5 (qfg (sz := 1) rfl (by kernel_rfl) qm5 (qfg (sz := 1) rfl (by kernel_rfl) qm5 (qrz _))))) (by kernel_rfl)
 exact h.map (fun x => (⟨x.1, x.2.1, x.2.2.1, x.2.2.2.1⟩ : OpI)) (fun _ => rfl) (fun _ _ => trivial)
theorem qaab : qlr Tryz.prog enc 94 (fun l : List OpI => [(.fsl ((l).map OpI.r) false)]) (fun l => (∀ x ∈ l, True) ∧ l.length ≤ maxLen) := qou (sz := 4) Tryz.underlying94 (by kernel_rfl) (by decide) (fun _ => rfl) data_op
theorem q9n : qlr Tryz.prog enc 23 (fun l : List (List OpI) => [(.fsl ((l).map qc1) false)]) (fun l => (∀ x ∈ l, (∀ y ∈ x, True) ∧ x.length ≤ maxLen) ∧ l.length ≤ maxLen) := qou (sz := 1) Tryz.underlying23 (by kernel_rfl) (by decide) (fun _ => rfl) qaab
theorem q8i : qlr Tryz.prog enc 90 Start.r (fun _ => True) := by
 have h := qo8 (P := Tryz.prog) (enc := enc) (t := 90) Tryz.underlying90 (qfg (sz := 1) rfl (by kernel_rfl) qm5 (qfg (sz := 1) rfl (by kernel_rfl) qm5 (qrz _))) (by kernel_rfl)
 exact h.map (fun x => (⟨x.1, x.2.1⟩ : Start)) (fun _ => rfl) (fun _ _ => trivial)
theorem q6u : qlr Tryz.prog enc 91 (fun l : List Start => [(.fsl ((l).map Start.r) false)]) (fun l => (∀ x ∈ l, True) ∧ l.length ≤ maxLen) := qou (sz := 2) Tryz.underlying91 (by kernel_rfl) (by decide) (fun _ => rfl) q8i
theorem data_lps : qlr Tryz.prog enc 22 (fun l : List (List Start) => [(.fsl ((l).map lpC) false)]) (fun l => (∀ x ∈ l, (∀ y ∈ x, True) ∧ x.length ≤ maxLen) ∧ l.length ≤ maxLen) := qou (sz := 1) Tryz.underlying22 (by kernel_rfl) (by decide) (fun _ => rfl) q6u
theorem data_cfg : qlr Tryz.prog enc 25 (fun c : Cfg => [(.fsl ((c.lps).map lpC) false), (.fsl ((c.progs).map qc1) false), (ii c.look), (ii c.fin), (ii c.cap)]) (fun c => -9223372036854775808 ≤ c.look ∧ c.look ≤ 9223372036854775807) := by
 have h := qo8 (P := Tryz.prog) (enc := enc) (t := 25) Tryz.underlying25 (qfg (sz := 1) rfl (by kernel_rfl) data_lps (qfg (sz := 1) rfl (by kernel_rfl) q9n (qfg (sz := 1) rfl (by kernel_rfl) qm5 (qfg (sz := 1) rfl (by kernel_rfl) qm5 (qfg (sz := 1) rfl (by kernel_rfl) qm5 (qrz _)))))) (by kernel_rfl)
 exact h.map (fun x => (⟨x.1, x.2.1, x.2.2.1, x.2.2.2.1, x.2.2.2.2.1⟩ : Cfg)) (fun _ => rfl) (fun _ h => h.2.2.1)
end
theorem own : ownKnob Tryz.prog.godebug = none := by kernel_rfl
theorem laid : laidOutB Tryz.prog = true := by kernel_rfl
end Go.Proofs.YtbhhifdhlafklaaGreat.K
