/- For every input the statement of this claim returns true: texts of its proof, joined (part 11). -/
import Derived.ChangeShapes
import Derived.ChangeOld
import Derived.ChangeArms
import Derived.DataReads
import Derived.Carry
import Derived.ChangeSame
import Derived.OpenShut
import Derived.Handed
import Derived.RowKit3
import Derived.ChangeAt
import Derived.Test.YtbhhifdhlafklaaRows
import Derived.WalkKit
import Derived.ProofKit
import Derived.Test.YtbhhifdhlafklaaEWT3
import Derived.Test.YtbhhifdhlafklaaGWT07
import Derived.Test.YtbhhifdhlafklaaGWT09
set_option linter.unusedSectionVars false
set_option linter.unusedSimpArgs false
set_option linter.unusedVariables false
namespace Go.Proofs.Ytbhhifdhlafklaa.K
open Go.Ev
set_option maxRecDepth 10000
theorem q8j (c : Cfg) (h : Small12 c) (h1 : 1 ≤ c.lps.length) : qa4 (evL T) qh2 [(.agg [(.fsl ((c.lps).map lpC) false), (.fsl ((c.progs).map qce) false), (ii c.look), (ii c.fin), (ii c.cap)])] = some (.agg [(.fsl (((start c).trace).map qcp) false), (.fsl (((qkb c.lps)).map lpF) false), (.fsl (((start c).pend).map Evt.r) false), (ii ((start c).n)), (bb ((start c).over))]) := by
  have hs := qwy c h
  obtain ⟨cf, hi⟩ := qv3 c h
  have hlps := h.lps
  have hL : ∃ y, itB (exec (evL T) itL none qgd) (qs [1, 2, 3, 4] false 2) ⟨[(1, (.fptr [(.fsl ((c.lps).map lpC) false), (.fsl ((c.progs).map qce) false), (ii c.look), (ii c.fin), (ii c.cap)])), (2, .ptr 0 0 0 0), (3, .ptr 1 0 0 0), (4, (ii ((0 : Nat))))], []⟩ (.row 5 [[.fsl [] false, .fsl [] false, .fsl [] false, (ii 0), (bb false)]] 0 :: .row 5 [[.fsl [] true, (.fsl (((qkb c.lps)).map lpF) false), (.fsl (((qga (qjq c.lps))).map Evt.r) false), (ii 0), (bb false)]] 0 :: []) = some y ∧
      ∃ g : Nat, y.1 = .exit 0 ∧ y.2.1.marks = [] ∧ y.2.2 = [.row 5 [[.fsl [] false, .fsl [] false, .fsl [] false, (ii 0), (bb false)]] 0, .row 5 [[.sl 2 g 0 c.lps.length false, (.fsl (((qkb c.lps)).map lpF) false), (.fsl (((qga (qjq c.lps))).map Evt.r) false), (ii 0), (bb false)]] 0, .row 1 (List.replicate c.lps.length (qcp [])) g] ∧ Ev.look y.2.1.vars 2 = some (.ptr 0 0 0 0) ∧ Ev.look y.2.1.vars 3 = some (.ptr 1 0 0 0) := by
    have key := qf2 (f := exec (evL T) itL none qgd) (s := qs [1, 2, 3, 4] false 2) (α := AV × qr)
      (fun i a => ⟨[(1, (.fptr [(.fsl ((c.lps).map lpC) false), (.fsl ((c.progs).map qce) false), (ii c.look), (ii c.fin), (ii c.cap)])), (2, .ptr 0 0 0 0), (3, .ptr 1 0 0 0), (4, (ii i))], []⟩) (fun i a => .row 5 [[.fsl [] false, .fsl [] false, .fsl [] false, (ii 0), (bb false)]] 0 :: .row 5 [[a.1, (.fsl (((qkb c.lps)).map lpF) false), (.fsl (((qga (qjq c.lps))).map Evt.r) false), (ii 0), (bb false)]] 0 :: a.2)
      (fun i a => i = 0 ∧ a = (.fsl [] true, []) ∨ 0 < i ∧ ∃ g : Nat, a = (.sl 2 g 0 i false, [.row 1 (List.replicate i (qcp [])) g])) c.lps.length
      (fun y => ∃ g : Nat, y.1 = .exit 0 ∧ y.2.1.marks = [] ∧ y.2.2 = [.row 5 [[.fsl [] false, .fsl [] false, .fsl [] false, (ii 0), (bb false)]] 0, .row 5 [[.sl 2 g 0 c.lps.length false, (.fsl (((qkb c.lps)).map lpF) false), (.fsl (((qga (qjq c.lps))).map Evt.r) false), (ii 0), (bb false)]] 0, .row 1 (List.replicate c.lps.length (qcp [])) g] ∧ Ev.look y.2.1.vars 2 = some (.ptr 0 0 0 0) ∧ Ev.look y.2.1.vars 3 = some (.ptr 1 0 0 0)) ?_ ?_ 0 (.fsl [] true, []) (Nat.zero_le _) (.inl ⟨rfl, rfl⟩)
    · exact key
    · rintro i a hi ha
      have hi' : (i : Int) < (c.lps.length : Int) := by omega
      have hw : IntKind.i64.wrap ((i : Int) + 1) = ((i + 1 : Nat) : Int) := by rw [qas (by omega) (by omega)]; simp
      rcases ha with ⟨h0, rfl⟩ | ⟨h0, g, rfl⟩
      · refine .inl ⟨(.sl 2 0 0 (i + 1) false, [.row 1 (List.replicate (i + 1) (qcp [])) 0]), ?_, .inr ⟨by omega, 0, rfl⟩⟩
        have e1 : i + 1 = 1 := by omega
        have e2 : List.replicate (i + 1) (qcp []) = [[.fsl [] false]] := by rw [e1]; rfl
        rw [e2]
        have e3 : (AV.sl 2 0 0 (i + 1) false) = .sl 2 0 0 1 false := by rw [e1]
        simp only [e3]
        simp only [qgd, hi', hw, Ev.exec, qb, qe, qc, qai, qm4, Ev.Opnd.ev, Ev.Env.get, Ev.Env.set, Ev.look, qf, qbq, qv, qfm, Ev.AV.cells, Ev.AV.uc, qo, Ev.AV.plain, qao, ql, qs, Ev.keep, qbc, qbg, List.replicate_one, List.length_map, ↓qn, Ev.it1, ↓reduceIte, List.length_cons, List.length_nil, List.getElem?_cons_zero, List.getElem?_cons_succ, List.take_zero, List.drop_succ_cons, List.drop_zero, List.cons_append, List.nil_append, List.set_cons_zero, List.set_cons_succ, List.head?_cons, Nat.reduceAdd, Nat.reduceEqDiff, Nat.reduceMul, Nat.reduceLeDiff, Nat.reducePow, decide_true, zfc, zfa, and_self, ne_eq, zfb, not_true_eq_false, zff, zfd, Nat.add_zero, Nat.lt_add_one, eq_self]
      · refine .inl ⟨(.sl 2 (g + 1) 0 (i + 1) false, [.row 1 (List.replicate (i + 1) (qcp [])) (g + 1)]), ?_, .inr ⟨by omega, g + 1, rfl⟩⟩
        have e1 : List.replicate (i + 1) (qcp []) = List.replicate i (qcp []) ++ [[.fsl [] false]] := by rw [List.replicate_succ']; rfl
        have b : (i + 1) * 24 ≤ 140737488355328 := by omega
        have hl : (List.replicate i (qcp [])).length = i := List.length_replicate
        have tk : List.take i (List.replicate i (qcp [])) = List.replicate i (qcp []) := List.take_of_length_le (by simp)
        rw [e1]
        generalize List.replicate i (qcp []) = RR at *
        have hle : i ≤ i := Nat.le_refl _
        simp only [qgd, hi', hw, b, hl, tk, hle, Ev.exec, qb, qe, qc, qai, qm4, Ev.Opnd.ev, Ev.Env.get, Ev.Env.set, Ev.look, qf, qbq, qv, qfm, Ev.AV.cells, Ev.AV.uc, qo, Ev.AV.plain, qao, ql, qs, Ev.keep, qbc, qbg, List.replicate_one, List.length_map, ↓qn, Ev.it1, ↓reduceIte, List.length_cons, List.length_nil, List.getElem?_cons_zero, List.getElem?_cons_succ, List.take_zero, List.drop_succ_cons, List.drop_zero, List.cons_append, List.nil_append, List.set_cons_zero, List.set_cons_succ, List.head?_cons, Nat.reduceAdd, Nat.reduceEqDiff, Nat.reduceMul, Nat.reduceLeDiff, Nat.reducePow, decide_true, zfc, zfa, and_self, ne_eq, zfb, zff, zfd, Nat.add_zero, Nat.lt_add_one, eq_self]
    · rintro a ha
      rcases ha with ⟨h0, rfl⟩ | ⟨h0, g, rfl⟩
      · omega
      · simp only [qgd, Int.lt_irrefl, Ev.exec, qb, qe, qc, qai, Ev.Opnd.ev, Ev.Env.get, Ev.Env.set, Ev.look, qf, qv, ql, List.length_map, ↓qn, Ev.it1, ↓reduceIte, List.drop_zero, List.head?_cons, Nat.reduceEqDiff, decide_false, zfa, eq_self]
        exact ⟨_, rfl, g, rfl, rfl, rfl, rfl, rfl⟩
  obtain ⟨⟨y, e, σ⟩, k1, g, k2, k3, k4, k5, k6⟩ := hL
  simp only [Int.ofNat_zero] at k1 k2 k3 k4 k5 k6
  subst k2; subst k4
  have e1 : (start c).trace.map qcp = List.replicate c.lps.length (qcp []) := by simp [K.start]
  have e2 : (start c).pend = qga (qjq c.lps) := rfl
  have e3 : (start c).n = 0 := rfl
  have e4 : (start c).over = false := rfl
  rw [e1, e2, e3, e4]
  have tk : List.take c.lps.length (List.replicate c.lps.length (qcp [])) = List.replicate c.lps.length (qcp []) := List.take_of_length_le (by simp)
  have hlo : qiu 0 (List.replicate c.lps.length (qcp [])) = true := qys _ _ _ (q4p _ _)
  have hl : (List.replicate c.lps.length (qcp [])).length = c.lps.length := List.length_replicate
  generalize List.replicate c.lps.length (qcp []) = RR at *
  have hle : c.lps.length ≤ c.lps.length := Nat.le_refl _
  rw [qa4, qad qxa qv8]
  simp only [qly, hs, hi, k1, k3, k5, k6, tk, hlo, hl, hle, qcb, qax, qaa, qt1, qj, Ev.exec, qb, qe, qc, qaw, qai, Ev.evs, Ev.Opnd.ev, Ev.Env.get, Ev.Env.set, Ev.look, qk, qf, qv, qfz, Ev.AV.cells, Ev.AV.uc, qo, Ev.AV.plain, qi, qq, qaj, Ev.kill, qag, qs, Ev.keep, qg, qbb, qa2, qm, qds, qh, qd, qx, q04, qhg, qe3, qgx, qel, ↓qn, ↓qa3, ↓reduceIte, List.length_cons, List.length_nil, List.getElem?_cons_zero, List.getElem?_cons_succ, List.take_succ_cons, List.take_zero, zfe, List.drop_succ_cons, List.drop_zero, List.drop_nil, List.cons_append, List.nil_append, List.append_nil, List.set_cons_zero, List.set_cons_succ, Nat.reduceAdd, Nat.reduceEqDiff, Nat.reduceLT, Nat.reduceLeDiff, Int.cast_ofNat_Int, decide_false, zfc, Bool.and_true, zfa, and_self, and_true, ne_eq, zfb, zff, zfd, Nat.le_refl, eq_self]
section
variable {c : Cfg} {s : Sim} {h : List Evt}
theorem q5j (H : SInv c s h) {e : Evt} {rest : List Evt} (hp : s.pend = e :: rest) (hh : h.length ≤ 60) (L : List (Lp × Bool)) (hL : L.map Prod.fst = s.lps) (hfl : ∀ x ∈ L, x.2 = true → x.1.procs = []) :
    ∃ L' : List (Lp × Bool), L'.map Prod.fst = (s.step c e rest).lps ∧ (∀ x ∈ L', x.2 = true → x.1.procs = []) ∧
      qa4 (evL T) qg1 [(.agg [(.fsl ((c.lps).map lpC) false), (.fsl ((c.progs).map qce) false), (ii c.look), (ii c.fin), (ii c.cap)]), (.agg [(.fsl ((s.trace).map qcp) false), (.fsl ((L).map lpF) false), (.fsl ((s.pend).map Evt.r) false), (ii s.n), (bb s.over)])] = some (.agg [(.fsl (((s.step c e rest).trace).map qcp) false), (.fsl ((L').map lpF) false), (.fsl (((s.step c e rest).pend).map Evt.r) false), (ii ((s.step c e rest).n)), (bb ((s.step c e rest).over))]) := by
  obtain ⟨x, hx, hlx, R⟩ := H.head hp (by omega)
  have ge := H.ev e (by rw [hp]; simp)
  obtain ⟨i, hi⟩ : ∃ i : Nat, e.lp = i := ⟨_, (Int.toNat_of_nonneg ge.lp.1).symm⟩
  have hin : i < c.lps.length := by have := ge.lp; omega
  rw [hi, Int.toNat_natCast] at hx
  obtain ⟨z, hz⟩ : ∃ z, L[i]? = some z := ⟨_, List.getElem?_eq_getElem (by have := congrArg List.length hL; rw [List.length_map, H.lpl] at this; omega)⟩
  have hz1 : z.1 = x := by
    have : s.lps[i]? = some z.1 := by rw [← hL, List.getElem?_map, hz]; rfl
    rw [hx] at this; exact (Option.some.inj this).symm
  obtain ⟨z1, f⟩ := z
  simp only at hz1
  subst hz1
  have hf := hfl _ (List.mem_of_getElem? hz)
  simp only at hf
  have hsz := R.sizes
  have hkn := H.keyNe hp (by omega)
  rw [hlx] at hkn
  obtain ⟨q1, _, q3, q4, q5, q6⟩ := hsz
  have hlen := H.len
  rw [hp] at hlen
  have ht : s.trace[i]? = some (qsm s i) := by unfold qsm; rw [Int.toNat_natCast, List.getElem?_eq_getElem (by rw [H.trl]; exact hin)]; rfl
  have htl : (qsm s i).length ≤ 1000 := by
    have h1 := H.tr i hin
    have : qsm s i = qf8 h i := by unfold qsm; rw [Int.toNat_natCast, h1]; rfl
    rw [this]
    have := List.length_filter_le (fun e : Evt => decide (e.lp = i)) h
    unfold qf8; omega
  have hE := q63 R f hf
  have hkr : ql6 (rest ++ (qbf c z1 e).out) := (List.pairwise_append.1 hkn).2.1
  have hko : qic (rest ++ (qbf c z1 e).out) := by
    intro y hy
    rcases List.mem_append.1 hy with hy | hy
    · have := (H.ev y (by rw [hp]; simp [hy])).key; omega
    · have := q4 y hy; omega
  have hsub : ((rest ++ (qbf c z1 e).out).filter (qjs (qbf c z1 e).gone)).Sublist (rest ++ (qbf c z1 e).out) := List.filter_sublist
  have hDl : (rest ++ (qbf c z1 e).out).length ≤ 1000000 := by simp only [List.length_append, List.length_cons] at hlen ⊢; omega
  have hW := q5y (rest ++ (qbf c z1 e).out) (qbf c z1 e).gone false (qbf c z1 e).nil hDl hko (by omega) (fun k hk => by have := q5 k hk; omega)
  obtain ⟨cf, _, hS⟩ := qlj ((rest ++ (qbf c z1 e).out).filter (qjs (qbf c z1 e).gone)) false (by have := hsub.length_le; omega) (fun x hx => hko x (hsub.subset hx)) (List.Pairwise.sublist hsub hkr.dist)
  have hstep : s.step c e rest = ⟨s.trace.set i (qsm s i ++ [e]), s.lps.set i (qbf c z1 e).lp, qga ((rest ++ (qbf c z1 e).out).filter (qjs (qbf c z1 e).gone)), s.n + 1, s.over || (qbf c z1 e).over⟩ := by
    unfold Sim.step; rw [hlx, hi, Int.toNat_natCast]
  refine ⟨L.set i ((qbf c z1 e).lp, f), by rw [hstep, List.map_set, hL], fun y hy hyf => ?_, ?_⟩
  · rcases List.mem_or_eq_of_mem_set hy with hy | rfl
    · exact hfl y hy hyf
    · exact qx9 (hf hyf)
  rw [hstep, hp]
  have hw : IntKind.i64.wrap ((s.n : Int) + 1) = ((s.n + 1 : Nat) : Int) := by
    have := H.n; rw [qas (by omega) (by omega)]; simp
  have htr := H.trl
  have hLl : L.length = c.lps.length := by have := congrArg List.length hL; rw [List.length_map, H.lpl] at this; exact this
  have hn8 := H.valid.lps.2
  have hnz : 1 ≤ c.lps.length := H.valid.lps.1
  simp only
  generalize hr : qbf c z1 e = r at *
  rw [List.map_set, List.map_set]
  have g1 : (s.trace.map qcp)[i]? = some (qcp (qsm s i)) := by rw [List.getElem?_map, ht]; rfl
  have g2 : (L.map lpF)[i]? = some (lpF (z1, f)) := by rw [List.getElem?_map, hz]; rfl
  have ok1 := evss_ok s.trace
  have ok2 := lpFs_ok L
  have ok3 := qe1 (qsm s i)
  have ok4 := qe1 rest
  have ok5 := qe1 (e :: rest)
  have ok6 := qe1 r.out
  have lo1 := qjr 0 (s.trace.set i (qsm s i ++ [e]))
  have lo2 := qt1 0 (L.set i (r.lp, f))
  rw [List.map_set] at lo1 lo2
  have b1 : c.lps.length * 24 ≤ 140737488355328 := by omega
  have b2 : c.lps.length * 48 ≤ 140737488355328 := by omega
  have b3 : (qsm s i).length * 64 ≤ 140737488355328 := by omega
  have b4 : ((qsm s i).length + 1) * 64 ≤ 140737488355328 := by omega
  have b5 : rest.length * 64 ≤ 140737488355328 := by simp only [List.length_cons] at hlen; omega
  have b6 : (rest.length + r.out.length) * 64 ≤ 140737488355328 := by simp only [List.length_cons] at hlen; omega
  have n1 : (s.trace.map qcp) ≠ [] := by intro k; have := congrArg List.length k; simp at this; rw [this] at htr; simp at htr; omega
  have l1 : (s.trace.map qcp).length = c.lps.length := by rw [List.length_map, htr]
  have l2 : (L.map lpF).length = c.lps.length := by rw [List.length_map, hLl]
  have tk1 : ∀ v, List.take c.lps.length ((s.trace.map qcp).set i v) = (s.trace.map qcp).set i v := fun v => List.take_of_length_le (by rw [List.length_set, l1]; exact Nat.le_refl _)
  have tk2 : ∀ v, List.take c.lps.length ((L.map lpF).set i v) = (L.map lpF).set i v := fun v => List.take_of_length_le (by rw [List.length_set, l2]; exact Nat.le_refl _)
  have tk3 : List.take (qsm s i).length ((qsm s i).map Evt.r) = (qsm s i).map Evt.r := List.take_of_length_le (by simp)
  have tk4 : List.take rest.length (rest.map Evt.r) = rest.map Evt.r := List.take_of_length_le (by simp)
  have tk5 : ∀ v, List.take ((qsm s i).length + 1) ((qsm s i).map Evt.r ++ [v]) = (qsm s i).map Evt.r ++ [v] := fun v => List.take_of_length_le (by simp)
  have tk6 : List.take (rest.length + r.out.length) (rest.map Evt.r ++ r.out.map Evt.r) = rest.map Evt.r ++ r.out.map Evt.r := List.take_of_length_le (by simp)
  have hle : c.lps.length ≤ c.lps.length := Nat.le_refl _
  have c1 : (1 : Int) ≤ ((rest.length + 1 : Nat) : Int) := by omega
  have c2 : (((rest.length + 1 : Nat) : Int)).toNat - 1 = rest.length := by omega
  have hm : (qsm s i ++ [e]).map Evt.r = (qsm s i).map Evt.r ++ [e.r] := by rw [List.map_append]; rfl
  have lo3 : qiu 0 ((qsm s i).map Evt.r ++ [e.r]) = true := by rw [← hm]; exact qaa _ _
  have hmo : (rest ++ r.out).map Evt.r = rest.map Evt.r ++ r.out.map Evt.r := List.map_append
  have ev1 : qcp (qsm s i ++ [e]) = [.fsl ((qsm s i).map Evt.r ++ [e.r]) false] := by unfold qcp; rw [hm]
  have ev2 : qcp (qsm s i) = [(.fsl (((qsm s i)).map Evt.r) false)] := rfl
  rw [hmo] at hW
  generalize (rest ++ r.out).filter (qjs r.gone) = F at hW hS ⊢
  rw [ev1] at lo1 ⊢
  rw [ev2] at g1
  obtain ⟨et, ek, el, ei, ep, ea⟩ := e
  simp only at hi
  subst hi
  simp only [List.map_cons] at ok5 ⊢
  simp only [Evt.r] at lo1 lo3 tk5 ok5 ⊢
  simp only [lpF] at g2 lo2
  rw [qa4, qad qvt qtz]
  have hrep : List.replicate 1 ([(ii 0), .fsl [] false, (ii 0), (ii 0), (ii 0), (ii 0)] : List AV) = [[(ii 0), .fsl [] false, (ii 0), (ii 0), (ii 0), (ii 0)]] := rfl
  by_cases ho : r.out = []
  · have ho1 : r.out.map Evt.r = [] := by rw [ho]; rfl
    have ho2 : r.out.length = 0 := by rw [ho]; rfl
    rw [ho1] at hW hE tk6
    simp only [List.append_nil, ho2, Nat.add_zero] at hW b6 tk6
    cases hov : s.over <;> simp only [qjz, hrep, g1, g2, ok1, ok2, ok3, ok4, ok5, b1, b2, b3, b4, b5, n1, l1, l2, tk1, tk2, tk3, tk4, tk5, hle, c1, lo1, lo2, hE, hW, hS, hw, hin, lpF, Int.natCast_nonneg, Int.toNat_natCast, Int.toNat_zero, Int.toNat_one, Int.le_refl, imp_self, Nat.zero_mul, Nat.zero_le, Nat.add_sub_cancel, qaa, qcb, qax, qae, qw, qbn, qj, Ev.exec, qb, qe, qc, qaw, qai, qm4, Ev.evs, Ev.Opnd.ev, Ev.Env.get, Ev.Env.set, Ev.Env.unset, Ev.look, qk, qf9, qf, qbq, qv, qfm, Ev.AV.cells, Ev.AV.uc, qo, Ev.AV.plain, qao, qi, qq, qaj, Ev.kill, qag, qg, qbb, qa2, qm, qh, qd, qbc, qbg, qx, List.length_set, List.replicate_zero, List.length_map, ↓qn, ↓reduceIte, List.length_cons, List.length_nil, List.length_append, List.getElem?_cons_zero, List.getElem?_cons_succ, List.take_succ_cons, List.take_zero, zfe, List.drop_succ_cons, List.drop_zero, List.drop_nil, List.cons_append, List.nil_append, List.append_nil, List.set_cons_zero, List.set_cons_succ, List.head?_cons, Nat.reduceAdd, Nat.reduceEqDiff, Nat.reduceMul, Nat.reduceLT, Nat.reduceLeDiff, Nat.reducePow, Int.reduceLE, reduceCtorEq, decide_true, zfc, Bool.and_true, Bool.true_or, Bool.false_or, zfa, Bool.true_eq_false, and_self, ne_eq, zfb, not_true_eq_false, zff, zfd, Nat.add_zero, Nat.lt_add_one, Nat.le_refl, Option.isSome_none, eq_self, and_false]
    all_goals done
  · have ho1 : ¬ r.out.map Evt.r = [] := by simpa using ho
    cases hov : s.over <;> simp only [qjz, hrep, g1, g2, ok1, ok2, ok3, ok4, ok5, ok6, b1, b2, b3, b4, b5, b6, n1, l1, l2, tk1, tk2, tk3, tk4, tk5, tk6, hle, c1, lo1, lo2, hE, hW, hS, hw, hin, ho1, lpF, Int.natCast_nonneg, Int.toNat_natCast, Int.toNat_zero, Int.toNat_one, Int.le_refl, imp_self, Nat.zero_mul, Nat.zero_le, Nat.add_sub_cancel, qjk, qaa, qcb, qax, qae, qw, qbn, qj, Ev.exec, qb, qe, qc, qaw, qai, qm4, Ev.evs, Ev.Opnd.ev, Ev.Env.get, Ev.Env.set, Ev.Env.unset, Ev.look, qk, qf9, qf, qbq, qv, qfm, Ev.AV.cells, Ev.AV.uc, qo, Ev.AV.plain, qao, qi, qq, qaj, Ev.kill, qag, qg, qbb, qa2, qm, qh, qd, qbc, qbg, qx, List.length_set, List.replicate_zero, List.length_map, ↓qn, ↓reduceIte, List.length_cons, List.length_nil, List.length_append, List.getElem?_cons_zero, List.getElem?_cons_succ, List.take_succ_cons, List.take_zero, zfe, List.drop_succ_cons, List.drop_zero, List.drop_nil, List.cons_append, List.nil_append, List.append_nil, List.set_cons_zero, List.set_cons_succ, List.head?_cons, Nat.reduceAdd, Nat.reduceEqDiff, Nat.reduceMul, Nat.reduceLT, Nat.reduceLeDiff, Nat.reducePow, Int.reduceLE, reduceCtorEq, decide_true, zfc, Bool.and_true, Bool.true_or, Bool.false_or, zfa, Bool.true_eq_false, and_self, ne_eq, zfb, not_true_eq_false, zff, zfd, Nat.add_zero, Nat.lt_add_one, Nat.le_refl, Option.isSome_none, eq_self, and_false]
    all_goals done
end
set_option maxRecDepth 10000
section
variable {c : Cfg} {s : Sim} {h : List Evt}
def LOk (L : List (Lp × Bool)) (s : Sim) : Prop := L.map Prod.fst = s.lps ∧ ∀ x ∈ L, x.2 = true → x.1.procs = []
theorem rsim_L (lim : Nat) (hlim : lim ≤ 60) : ∀ (k : Nat) {s : Sim} {h : List Evt} {L : List (Lp × Bool)}, s.n + k = lim → SInv c s h → LOk L s →
    ∃ y, itB (exec (evL T) itL none qda) (qs [1, 2, 4, 5] true 2) ⟨[(1, (ii lim)), (2, (.fptr [(.fsl ((c.lps).map lpC) false), (.fsl ((c.progs).map qce) false), (ii c.look), (ii c.fin), (ii c.cap)])), (4, .ptr 0 0 0 0), (5, .ptr 1 0 0 0)], []⟩ [.row 5 [[.fsl [] false, .fsl [] false, .fsl [] false, (ii 0), (bb false)]] 0, .row 5 [[(.fsl ((s.trace).map qcp) false), (.fsl ((L).map lpF) false), (.fsl ((s.pend).map Evt.r) false), (ii s.n), (bb s.over)]] 0] = some y ∧
      ∃ L' : List (Lp × Bool), LOk L' (Sim.run c k s) ∧ y.1 = .exit 0 ∧ y.2.1.marks = [] ∧ y.2.2 = [.row 5 [[.fsl [] false, .fsl [] false, .fsl [] false, (ii 0), (bb false)]] 0, .row 5 [[(.fsl (((Sim.run c k s).trace).map qcp) false), (.fsl ((L').map lpF) false), (.fsl (((Sim.run c k s).pend).map Evt.r) false), (ii ((Sim.run c k s).n)), (bb ((Sim.run c k s).over))]] 0] ∧ Ev.look y.2.1.vars 4 = some (.ptr 0 0 0 0) ∧ Ev.look y.2.1.vars 5 = some (.ptr 1 0 0 0) := by
  intro k
  induction k with
  | zero =>
    intro s h L hk H hL
    have c1 : ¬ (s.n : Int) < (lim : Int) := by omega
    have hx : ∃ y, it1 (exec (evL T) itL none qda) (qs [1, 2, 4, 5] true 2) ⟨[(1, (ii lim)), (2, (.fptr [(.fsl ((c.lps).map lpC) false), (.fsl ((c.progs).map qce) false), (ii c.look), (ii c.fin), (ii c.cap)])), (4, .ptr 0 0 0 0), (5, .ptr 1 0 0 0)], []⟩ [.row 5 [[.fsl [] false, .fsl [] false, .fsl [] false, (ii 0), (bb false)]] 0, .row 5 [[(.fsl ((s.trace).map qcp) false), (.fsl ((L).map lpF) false), (.fsl ((s.pend).map Evt.r) false), (ii s.n), (bb s.over)]] 0] = some (.inr y) ∧ y.1 = .exit 0 ∧ y.2.1.marks = [] ∧ y.2.2 = [.row 5 [[.fsl [] false, .fsl [] false, .fsl [] false, (ii 0), (bb false)]] 0, .row 5 [[(.fsl ((s.trace).map qcp) false), (.fsl ((L).map lpF) false), (.fsl ((s.pend).map Evt.r) false), (ii s.n), (bb s.over)]] 0] ∧ Ev.look y.2.1.vars 4 = some (.ptr 0 0 0 0) ∧ Ev.look y.2.1.vars 5 = some (.ptr 1 0 0 0) := by
      simp only [qda, c1, Ev.exec, qb, qe, qc, qai, Ev.Opnd.ev, Ev.Env.get, Ev.Env.set, Ev.Env.unset, Ev.look, qf, qv, ql, ↓qn, Ev.it1, ↓reduceIte, List.getElem?_cons_zero, List.getElem?_cons_succ, List.drop_succ_cons, List.drop_zero, List.head?_cons, Nat.reduceEqDiff, decide_false, zfa, zfd, eq_self]
      exact ⟨_, rfl, rfl, rfl, rfl, rfl, rfl⟩
    obtain ⟨y, h1, h2, h3, h4, h5, h6⟩ := hx
    exact ⟨y, qow h1, L, hL, h2, h3, h4, h5, h6⟩
  | succ k ih =>
    intro s h L hk H hL
    have c1 : (s.n : Int) < (lim : Int) := by omega
    have c2 : (s.n : Int) < 2000 := by omega
    by_cases hb : s.ready c = true
    · obtain ⟨e, rest, hp, hf⟩ := qz1 hb
      have hhl : h.length ≤ 60 := by have := H.n; omega
      obtain ⟨L1, l1, l2, hc⟩ := q5j H hp hhl L hL.1 hL.2
      obtain ⟨y, g1, g2⟩ := ih (s := s.step c e rest) (h := h ++ [e]) (by show s.n + 1 + k = lim; omega) (H.step hp (by omega) hf) ⟨l1, l2⟩
      have hrun : Sim.run c (k + 1) s = Sim.run c k (s.step c e rest) := by rw [Sim.run, if_pos hb, go_eq hp]
      rw [hrun]
      refine ⟨y, q0h ?_ g1, g2⟩
      have c3 : ((rest.length + 1 : Nat) : Int) > 0 := by omega
      rw [hp] at hc ⊢
      obtain ⟨et, ek, el, ei, ep, ea⟩ := e
      simp only at hf
      simp only [List.map_cons, Evt.r] at hc ⊢
      simp only [qda, c1, c2, c3, hf, hc, Int.le_refl, Int.toNat_zero, qjr, qt1, qaa, qcb, qax, qw, Ev.exec, qb, qe, qc, qaw, qai, Ev.evs, Ev.Opnd.ev, Ev.Env.get, Ev.Env.set, Ev.look, qf, qv, Ev.AV.cells, qo, Ev.AV.plain, ql, qbh, qs, Ev.keep, qal, qaf, qg, Ev.SObj.lo, qbb, qa2, qm, qbm, qg6, qh, qd, qu, qak, List.length_map, ↓qn, Ev.it1, ↓reduceIte, List.length_cons, List.length_nil, List.getElem?_cons_zero, List.getElem?_cons_succ, List.take_succ_cons, List.take_zero, zfe, List.drop_succ_cons, List.drop_zero, List.drop_nil, List.nil_append, List.append_nil, List.set_cons_zero, List.set_cons_succ, List.head?_cons, Nat.reduceAdd, Nat.reduceEqDiff, Nat.reduceLT, decide_true, zfc, zfa, and_self, zfd, Nat.lt_add_one, Nat.le_refl, eq_self]
    · have hb' : s.ready c = false := by simpa using hb
      have hrun : Sim.run c (k + 1) s = s := by rw [Sim.run, if_neg hb]
      rw [hrun]
      have hx : ∃ y, it1 (exec (evL T) itL none qda) (qs [1, 2, 4, 5] true 2) ⟨[(1, (ii lim)), (2, (.fptr [(.fsl ((c.lps).map lpC) false), (.fsl ((c.progs).map qce) false), (ii c.look), (ii c.fin), (ii c.cap)])), (4, .ptr 0 0 0 0), (5, .ptr 1 0 0 0)], []⟩ [.row 5 [[.fsl [] false, .fsl [] false, .fsl [] false, (ii 0), (bb false)]] 0, .row 5 [[(.fsl ((s.trace).map qcp) false), (.fsl ((L).map lpF) false), (.fsl ((s.pend).map Evt.r) false), (ii s.n), (bb s.over)]] 0] = some (.inr y) ∧ y.1 = .exit 0 ∧ y.2.1.marks = [] ∧ y.2.2 = [.row 5 [[.fsl [] false, .fsl [] false, .fsl [] false, (ii 0), (bb false)]] 0, .row 5 [[(.fsl ((s.trace).map qcp) false), (.fsl ((L).map lpF) false), (.fsl ((s.pend).map Evt.r) false), (ii s.n), (bb s.over)]] 0] ∧ Ev.look y.2.1.vars 4 = some (.ptr 0 0 0 0) ∧ Ev.look y.2.1.vars 5 = some (.ptr 1 0 0 0) := by
        unfold Sim.ready at hb'
        cases hp : s.pend with
        | nil =>
          simp only [List.map_nil]
          simp only [qda, c1, c2, gt_iff_lt, Int.lt_irrefl, Ev.exec, qb, qe, qc, qai, Ev.Opnd.ev, Ev.Env.get, Ev.Env.set, Ev.Env.unset, Ev.look, qf, qv, ql, qbh, ↓qn, Ev.it1, ↓reduceIte, List.length_nil, List.getElem?_cons_zero, List.getElem?_cons_succ, List.drop_succ_cons, List.drop_zero, List.head?_cons, Nat.reduceEqDiff, Int.cast_ofNat_Int, decide_true, decide_false, zfa, zfd, eq_self]
          exact ⟨_, rfl, rfl, rfl, rfl, rfl, rfl⟩
        | cons e rest =>
          rw [hp] at hb'
          simp only [decide_eq_false_iff_not] at hb'
          have c3 : ((rest.length + 1 : Nat) : Int) > 0 := by omega
          obtain ⟨et, ek, el, ei, ep, ea⟩ := e
          simp only at hb'
          simp only [List.map_cons, Evt.r]
          simp only [qda, c1, c2, c3, hb', Int.le_refl, Int.toNat_zero, Ev.exec, qb, qe, qc, qai, Ev.Opnd.ev, Ev.Env.get, Ev.Env.set, Ev.look, qf, qv, ql, qbh, List.length_map, ↓qn, Ev.it1, ↓reduceIte, List.length_cons, List.length_nil, List.getElem?_cons_zero, List.getElem?_cons_succ, List.drop_succ_cons, List.drop_zero, List.head?_cons, Nat.reduceAdd, Nat.reduceEqDiff, decide_true, decide_false, zfa, zfd, eq_self]
          exact ⟨_, rfl, rfl, rfl, rfl, rfl, rfl⟩
      obtain ⟨y, h1, h2, h3, h4, h5, h6⟩ := hx
      exact ⟨y, qow h1, L, hL, h2, h3, h4, h5, h6⟩
theorem LOk.start (c : Cfg) : LOk (qkb c.lps) (start c) := by
  refine ⟨rfl, fun x hx hf => ?_⟩
  simp only [qkb, q5w, List.mem_map] at hx
  obtain ⟨ps, ⟨l, _, rfl⟩, rfl⟩ := hx
  simpa [stLp] using hf
theorem q3n (G : Good c) (lim : Nat) (hlim : lim ≤ 60) : ∃ L : List (Lp × Bool), LOk L (runS c lim) ∧ qa4 (evL T) qfe [(.agg [(.fsl ((c.lps).map lpC) false), (.fsl ((c.progs).map qce) false), (ii c.look), (ii c.fin), (ii c.cap)]), (ii lim)] = some (.agg [(.fsl (((runS c lim).trace).map qcp) false), (.fsl ((L).map lpF) false), (.fsl (((runS c lim).pend).map Evt.r) false), (ii ((runS c lim).n)), (bb ((runS c lim).over))]) := by
  have hs := q8j c G.h12 G.v.lps.1
  obtain ⟨⟨y, e, σ⟩, k1, L, hL, k2, k3, k4, k5, k6⟩ := rsim_L (c := c) lim hlim lim (by show 0 + lim = lim; omega) (SInv.start G.v) (LOk.start c)
  simp only at k2 k3 k4 k5 k6
  subst k2; subst k4
  refine ⟨L, hL, ?_⟩
  unfold runS
  generalize start c = s0 at *
  rw [qa4, qad qs6 qr8]
  simp only [qj1, hs, k1, k3, k5, k6, qjr, qt1, qaa, qcb, qax, qj, Ev.exec, qb, qe, qc, qaw, qai, Ev.evs, Ev.Opnd.ev, Ev.Env.get, Ev.Env.set, Ev.look, qk, qf, qv, Ev.AV.cells, qo, Ev.AV.plain, qi, qq, qaj, Ev.kill, qag, qs, Ev.keep, qal, qaf, qg, Ev.SObj.lo, qbb, qa2, qm, qbm, qg6, qh, qd, qu, qak, qx, ↓qn, ↓qa3, ↓reduceIte, List.length_cons, List.length_nil, List.getElem?_cons_zero, List.getElem?_cons_succ, List.take_succ_cons, List.take_zero, zfe, List.drop_succ_cons, List.drop_zero, List.drop_nil, List.cons_append, List.nil_append, List.append_nil, List.set_cons_zero, List.set_cons_succ, Nat.reduceAdd, Nat.reduceEqDiff, Nat.reduceLT, reduceCtorEq, decide_true, zfc, and_self, ne_eq, zfb, zff, zfd, Nat.lt_add_one, Nat.le_refl, eq_self]
end
set_option maxRecDepth 10000
def qe2 (n : Nat) (l : List Evt) : List (List Evt) := (List.range n).map fun i => qga (qf8 l i)
theorem q6c (l : List Evt) (k : Nat) (e : Evt) (i : Nat) (h : l[k]? = some e) : qf8 (l.take (k + 1)) i = if e.lp = i then qf8 (l.take k) i ++ [e] else qf8 (l.take k) i := by
  rw [List.take_add_one, h]; exact qq2 _ _ _
theorem q4x {l : List Evt} (h : qvd l) (i : Nat) : qvd (qf8 l i) := h.sub List.filter_sublist
section
variable (l : List Evt) (cl : Bool)
theorem q7f (hl : l.length ≤ 1000000) (hk : qic l) (hd : qvd l) (i n : Nat) (R : List (List AV)) (g : Nat) (hlo : qiu 1 R = true) :
    ∃ y, itB (exec (evL T) itL none qgh) (qs [0, 1, 5, 6, 7, 8] true 1) ⟨[(0, (ii n)), (1, (.fsl ((l).map Evt.r) cl)), (5, .sl 0 g 0 R.length false), (6, (ii i)), (7, .fsl [] true), (8, (ii ((0 : Nat))))], []⟩ [.row 1 R g] = some y ∧
      ∃ cf : Bool, y.1 = .exit 2 ∧ y.2.1.marks = [] ∧ y.2.2 = [.row 1 R g] ∧ Ev.look y.2.1.vars 0 = some (ii n) ∧ Ev.look y.2.1.vars 1 = some (.fsl ((l).map Evt.r) cl) ∧ Ev.look y.2.1.vars 5 = some (.sl 0 g 0 R.length false) ∧ Ev.look y.2.1.vars 6 = some (ii i) ∧ Ev.look y.2.1.vars 7 = some (.fsl (((qga (qf8 l i))).map Evt.r) cf) := by
  have key := qf2 (f := exec (evL T) itL none qgh) (s := qs [0, 1, 5, 6, 7, 8] true 1) (α := List Evt × Bool)
    (fun k a => ⟨[(0, (ii n)), (1, (.fsl ((l).map Evt.r) cl)), (5, .sl 0 g 0 R.length false), (6, (ii i)), (7, (.fsl ((a.1).map Evt.r) a.2)), (8, (ii k))], []⟩) (fun _ _ => [.row 1 R g]) (fun k a => a.1 = qga (qf8 (l.take k) i)) l.length
    (fun y => ∃ cf : Bool, y.1 = .exit 2 ∧ y.2.1.marks = [] ∧ y.2.2 = [.row 1 R g] ∧ Ev.look y.2.1.vars 0 = some (ii n) ∧ Ev.look y.2.1.vars 1 = some (.fsl ((l).map Evt.r) cl) ∧ Ev.look y.2.1.vars 5 = some (.sl 0 g 0 R.length false) ∧ Ev.look y.2.1.vars 6 = some (ii i) ∧ Ev.look y.2.1.vars 7 = some (.fsl (((qga (qf8 l i))).map Evt.r) cf)) ?_ ?_ 0 ([], true) (Nat.zero_le _) (by simp [qga, qf8])
  · exact key
  · rintro k ⟨b, c⟩ hk' hb
    simp only at hb ⊢
    obtain ⟨e, he⟩ : ∃ e, l[k]? = some e := ⟨_, List.getElem?_eq_getElem hk'⟩
    have hk1 : (k : Int) < (l.length : Int) := by omega
    have hw : IntKind.i64.wrap ((k : Int) + 1) = ((k + 1 : Nat) : Int) := by rw [qas (by omega) (by omega)]; simp
    have ho := q6c l k e i he
    by_cases hi : e.lp = i
    · rw [if_pos hi] at ho
      have sl : ∀ z ∈ qf8 (l.take k) i, z ∈ l := fun z hz => List.mem_of_mem_take (List.mem_filter.1 hz).1
      have hds : qvd (qf8 (l.take (k + 1)) i) := q4x (hd.sub (List.take_sublist _ _)) i
      rw [ho] at hds
      have pb := qfa (qf8 (l.take k) i)
      have hd2 : qvd (e :: b) := by rw [hb]; exact hds.perm ((pb.cons e).trans (List.perm_append_singleton e _).symm)
      have hbl : b.length ≤ 1000000 := by
        rw [hb, q1r]
        have := List.length_filter_le (fun e : Evt => decide (e.lp = i)) (l.take k)
        have := List.length_take_le' k l
        unfold qf8; omega
      have hI := qza b c e hbl (fun z hz => hk z (sl z (pb.mem_iff.1 (by rw [← hb]; exact hz)))) (hk e (List.mem_of_getElem? he)) (by rw [hb]; exact qgj _) hd2
      have hse : qga (e :: b) = qga (qf8 (l.take k) i ++ [e]) := q0y hds (by rw [hb]; exact (pb.cons e).trans (List.perm_append_singleton e _).symm)
      refine .inl ⟨(qga (e :: b), false), ?_, by simp only; rw [ho, hse]⟩
      clear hse hd2 hds ho hb
      obtain ⟨et, ek, el, ei, ep, ea⟩ := e
      simp only at hi
      subst hi
      simp only at hI
      generalize qga (⟨et, ek, (i : Int), ei, ep, ea⟩ :: b) = B at *
      simp only [qgh, Int.natCast_nonneg, Int.toNat_natCast, List.getElem?_map, Option.map_some, he, hk1, hw, hI, hlo, Evt.r, qaa, qw, Ev.exec, qb, qe, qc, qaw, qai, Ev.evs, Ev.Opnd.ev, Ev.Env.get, Ev.Env.set, Ev.look, qf, qv, qao, qar, ql, qs, Ev.keep, qal, qaf, qg, Ev.SObj.lo, qbb, qa2, qm, qds, qh, qd, List.length_map, ↓qn, Ev.it1, ↓reduceIte, List.length_cons, List.length_nil, List.take_succ_cons, zfe, List.drop_succ_cons, List.drop_zero, List.head?_cons, Nat.reduceAdd, Nat.reduceEqDiff, reduceCtorEq, decide_true, zfc, zfa, and_self, zfd, Nat.lt_add_one, Nat.le_refl, eq_self]
    · rw [if_neg hi] at ho
      refine .inl ⟨(b, c), ?_, by simp only; rw [ho, hb]⟩
      obtain ⟨et, ek, el, ei, ep, ea⟩ := e
      simp only at hi
      simp only [qgh, Int.natCast_nonneg, Int.toNat_natCast, List.getElem?_map, Option.map_some, he, hk1, hw, hi, hlo, Evt.r, qaa, Ev.exec, qb, qe, qc, qai, Ev.Opnd.ev, Ev.Env.get, Ev.Env.set, Ev.look, qf, qv, qao, qar, ql, qs, Ev.keep, qal, qaf, qg, Ev.SObj.lo, qbb, qm, qds, List.length_map, ↓qn, Ev.it1, ↓reduceIte, List.length_cons, List.length_nil, List.take_succ_cons, zfe, List.drop_succ_cons, List.drop_zero, List.head?_cons, Nat.reduceAdd, Nat.reduceEqDiff, reduceCtorEq, decide_true, decide_false, zfc, zfa, and_self, zfd, Nat.lt_add_one, eq_self]
  · rintro ⟨b, c⟩ hb
    simp only [List.take_length] at hb ⊢
    simp only [qgh, Int.lt_irrefl, Ev.exec, qb, qe, qc, qai, Ev.Opnd.ev, Ev.Env.get, Ev.Env.set, Ev.look, ql, List.length_map, ↓qn, Ev.it1, ↓reduceIte, Nat.reduceEqDiff, reduceCtorEq, decide_false, zfa, eq_self]
    exact ⟨_, rfl, c, rfl, rfl, rfl, rfl, rfl, rfl, rfl, by rw [← hb]; rfl⟩
theorem q61 (n : Nat) (hn : n ≤ 8) (hl : l.length ≤ 1000000) (hk : qic l) (hd : qvd l) : qa4 (evL T) qh1 [(ii n), (.fsl ((l).map Evt.r) cl)] = some (.fsl (((qe2 n l)).map qcp) false) := by
  have hL : ∃ y, itB (exec (evL T) itL none qif) (qs [0, 1, 5, 6] true 1) ⟨[(0, (ii n)), (1, (.fsl ((l).map Evt.r) cl)), (5, .sl 0 0 0 0 false), (6, (ii ((0 : Nat))))], []⟩ [.row 1 [] 0] = some y ∧
      ∃ g : Nat, y.1 = .exit 0 ∧ y.2.1.marks = [] ∧ y.2.2 = [.row 1 ((qe2 n l).map qcp) g] ∧ Ev.look y.2.1.vars 5 = some (.sl 0 g 0 n false) := by
    have key := qf2 (f := exec (evL T) itL none qif) (s := qs [0, 1, 5, 6] true 1) (α := Nat)
      (fun i a => ⟨[(0, (ii n)), (1, (.fsl ((l).map Evt.r) cl)), (5, .sl 0 a 0 i false), (6, (ii i))], []⟩) (fun i a => [.row 1 ((qe2 i l).map qcp) a]) (fun i a => True) n
      (fun y => ∃ g : Nat, y.1 = .exit 0 ∧ y.2.1.marks = [] ∧ y.2.2 = [.row 1 ((qe2 n l).map qcp) g] ∧ Ev.look y.2.1.vars 5 = some (.sl 0 g 0 n false)) ?_ ?_ 0 0 (Nat.zero_le _) trivial
    · exact key
    · rintro i g hi _
      have hbl : ((qe2 i l).map qcp).length = i := by simp [qe2]
      obtain ⟨⟨y, e, σ⟩, k1, cf, k2, k3, k4, k5, k6, k7, k8, k9⟩ := q7f l cl hl hk hd i n ((qe2 i l).map qcp) g (qjr _ _)
      simp only [Int.ofNat_zero, hbl] at k1 k2 k3 k4 k5 k6 k7 k8 k9
      subst k2; subst k4
      have hi' : (i : Int) < (n : Int) := by omega
      have hi8 : (i : Int) < 8 := by omega
      have hw : IntKind.i64.wrap ((i : Int) + 1) = ((i + 1 : Nat) : Int) := by rw [qas (by omega) (by omega)]; simp
      have hnx : (qe2 (i + 1) l).map qcp = (qe2 i l).map qcp ++ [[(.fsl (((qga (qf8 l i))).map Evt.r) false)]] := by unfold qe2; rw [List.range_succ]; simp [qcp]
      have lo := qjr 1 (qe2 (i + 1) l)
      have lo0 := qjr 1 (qe2 i l)
      rw [hnx] at lo
      have tk : List.take i ((qe2 i l).map qcp) = (qe2 i l).map qcp := List.take_of_length_le (by omega)
      have bd : (i + 1) * 24 ≤ 140737488355328 := by omega
      have hle : i ≤ i := Nat.le_refl _
      refine .inl ⟨g + 1, ?_, trivial⟩
      rw [hnx]
      generalize (qe2 i l).map qcp = R at *
      simp only [qif, hi', hi8, hw, k1, k3, k5, k6, k7, k8, k9, lo, lo0, tk, bd, hbl, hle, qaa, Ev.exec, qb, qe, qc, qai, qm4, Ev.Opnd.ev, Ev.Env.get, Ev.Env.set, Ev.look, qbq, qfm, Ev.AV.cells, Ev.AV.uc, qo, Ev.AV.plain, qao, ql, qs, Ev.keep, qal, qaf, qg, Ev.SObj.lo, qbb, qm, qds, qu, qbc, qbg, List.replicate_one, ↓qn, ↓qa3, Ev.it1, ↓reduceIte, List.length_cons, List.length_nil, List.getElem?_cons_zero, List.take_succ_cons, zfe, List.set_cons_zero, Nat.reduceEqDiff, Nat.reduceMul, Nat.reduceLeDiff, Nat.reducePow, reduceCtorEq, decide_true, zfc, and_self, ne_eq, zfb, zff, zfd, Nat.lt_add_one, eq_self]
    · rintro g _
      simp only [qif, Int.lt_irrefl, Ev.exec, qb, qe, qc, qai, Ev.Opnd.ev, Ev.Env.get, Ev.Env.set, Ev.Env.unset, Ev.look, ql, ↓qn, Ev.it1, ↓reduceIte, Nat.reduceEqDiff, reduceCtorEq, decide_false, zfa, eq_self]
      exact ⟨_, rfl, g, rfl, rfl, rfl, rfl⟩
  obtain ⟨⟨y, e, σ⟩, k1, g, k2, k3, k4, k5⟩ := hL
  simp only [Int.ofNat_zero] at k1 k2 k3 k4 k5
  subst k2; subst k4
  have hbl : (qe2 n l).length = n := by simp [qe2]
  have tk : List.take n ((qe2 n l).map qcp) = (qe2 n l).map qcp := List.take_of_length_le (by simp [hbl])
  have hle : n ≤ n := Nat.le_refl _
  rw [qa4, qad qw6 qvv]
  simp only [qlt, k1, k3, k5, tk, hbl, hle, qaa, qjr, List.length_map, qj, Ev.exec, qb, qe, qc, qai, Ev.Opnd.ev, Ev.Env.get, Ev.Env.set, Ev.look, qk, qi, qq, qaj, Ev.kill, qag, qs, Ev.keep, qal, qaf, qg, Ev.SObj.lo, qbb, qm, qds, qu, qhg, qe3, List.length_map, ↓qn, ↓qa3, ↓reduceIte, List.length_cons, List.length_nil, List.getElem?_cons_zero, List.take_succ_cons, List.take_zero, zfe, List.drop_zero, List.nil_append, Nat.reduceAdd, Nat.reduceEqDiff, Nat.reduceLT, reduceCtorEq, decide_true, decide_false, zfc, zfa, and_self, and_true, zfd, Nat.lt_add_one, eq_self]
end
theorem Quick_ev (c : Cfg) : ∃ b : Bool, qa4 (evL T) qhw [(.agg [(.fsl ((c.lps).map lpC) false), (.fsl ((c.progs).map qce) false), (ii c.look), (ii c.fin), (ii c.cap)])] = some (bb b) ∧ (b = true → okB c = true ∧ c.look ≤ 8 ∧ c.lps.length ≤ 4) := by
  have hg := qy8 c
  have hr := qy3 c
  rw [qa4, qad qxe qv4]
  by_cases h1 : qrh c = true
  · rw [h1] at hg
    exact ⟨false, by simp only [qfo, hg, qcb, qax, qj, Ev.exec, qb, qe, qc, qaw, qai, Ev.evs, Ev.Opnd.ev, Ev.Env.get, Ev.Env.set, Ev.Env.unset, Ev.look, qk, qf, qv, Ev.AV.cells, qo, Ev.AV.plain, qi, qq, qaj, Ev.kill, qag, qg, qbb, qa2, qm, qh, qd, qx, ↓qn, ↓reduceIte, List.length_cons, List.length_nil, List.take_succ_cons, zfe, Nat.reduceAdd, Nat.reduceEqDiff, zfc, Bool.true_eq_false, and_self, ne_eq, zfb, zff, zfd, Nat.le_refl, eq_self], fun h => by cases h⟩
  simp only [Bool.not_eq_true] at h1
  rw [h1] at hg
  by_cases h2 : q5l c = 0
  case neg => exact ⟨false, by simp only [qfo, hg, hr, h2, qcb, qax, qj, Ev.exec, qb, qe, qc, qaw, qai, Ev.evs, Ev.Opnd.ev, Ev.Env.get, Ev.Env.set, Ev.Env.unset, Ev.look, qk, qf, qv, Ev.AV.cells, qo, Ev.AV.plain, qbe, qi, qq, qaj, Ev.kill, qag, qg, qbb, qa2, qm, qh, qd, qx, ↓qn, ↓reduceIte, List.length_cons, List.length_nil, List.take_succ_cons, zfe, Nat.reduceAdd, Nat.reduceEqDiff, decide_true, zfc, zfa, Bool.true_eq_false, and_self, ne_eq, zfb, zff, zfd, Nat.le_refl, eq_self], fun h => by cases h⟩
  rw [h2] at hr
  by_cases h3 : c.look > 8
  · exact ⟨false, by simp only [qfo, hg, hr, h3, qcb, qax, qj, Ev.exec, qb, qe, qc, qaw, qai, Ev.evs, Ev.Opnd.ev, Ev.Env.get, Ev.Env.set, Ev.Env.unset, Ev.look, qk, qf, qv, Ev.AV.cells, qo, Ev.AV.plain, qbe, qbh, qi, qq, qaj, Ev.kill, qag, qg, qbb, qa2, qm, qh, qd, qx, ↓qn, ↓reduceIte, List.length_cons, List.length_nil, List.take_succ_cons, zfe, List.drop_succ_cons, List.drop_zero, List.head?_cons, Nat.reduceAdd, Nat.reduceEqDiff, decide_true, decide_false, zfc, zfa, Bool.true_eq_false, and_self, ne_eq, zfb, not_true_eq_false, zff, zfd, Nat.le_refl, eq_self], fun h => by cases h⟩
  by_cases h4 : (c.lps.length : Int) > 4
  · exact ⟨false, by simp only [qfo, hg, hr, h3, h4, qcb, qax, qj, Ev.exec, qb, qe, qc, qaw, qai, Ev.evs, Ev.Opnd.ev, Ev.Env.get, Ev.Env.set, Ev.look, qk, qf, qv, Ev.AV.cells, qo, Ev.AV.plain, qbe, qbh, qi, qq, qaj, Ev.kill, qag, qg, qbb, qa2, qm, qh, qd, qx, List.length_map, ↓qn, ↓reduceIte, List.length_cons, List.length_nil, List.take_succ_cons, zfe, List.drop_succ_cons, List.drop_zero, List.head?_cons, Nat.reduceAdd, Nat.reduceEqDiff, decide_true, decide_false, zfc, zfa, and_self, ne_eq, zfb, not_true_eq_false, zff, zfd, Nat.le_refl, eq_self], fun h => by cases h⟩
  have hok : okB c = true ∧ c.look ≤ 8 ∧ c.lps.length ≤ 4 := ⟨by unfold okB; rw [h1, h2]; rfl, by omega, by omega⟩
  obtain ⟨s1, s2, s3, s4⟩ := qwv c h1
  have hL1 : ∃ y, itB (exec (evL T) itL none qid) (qs [1, 3, 4, 5] true 0) ⟨[(1, (.fptr [(.fsl ((c.lps).map lpC) false), (.fsl ((c.progs).map qce) false), (ii c.look), (ii c.fin), (ii c.cap)])), (3, (ii 0)), (4, (ii 0)), (5, (ii ((0 : Nat))))], []⟩ [] = some y ∧ ∃ a : Int, y.1 = .exit 0 ∧ y.2.1.marks = [] ∧ y.2.2 = [] ∧ Ev.look y.2.1.vars 1 = some (.fptr [(.fsl ((c.lps).map lpC) false), (.fsl ((c.progs).map qce) false), (ii c.look), (ii c.fin), (ii c.cap)]) ∧ Ev.look y.2.1.vars 3 = some (ii a) ∧ Ev.look y.2.1.vars 4 = some (ii 0) := by
    have key := qf2 (f := exec (evL T) itL none qid) (s := qs [1, 3, 4, 5] true 0) (α := Int) (fun i a => ⟨[(1, (.fptr [(.fsl ((c.lps).map lpC) false), (.fsl ((c.progs).map qce) false), (ii c.look), (ii c.fin), (ii c.cap)])), (3, (ii a)), (4, (ii 0)), (5, (ii i))], []⟩) (fun _ _ => []) (fun _ _ => True) c.lps.length
      (fun y => ∃ a : Int, y.1 = .exit 0 ∧ y.2.1.marks = [] ∧ y.2.2 = [] ∧ Ev.look y.2.1.vars 1 = some (.fptr [(.fsl ((c.lps).map lpC) false), (.fsl ((c.progs).map qce) false), (ii c.look), (ii c.fin), (ii c.cap)]) ∧ Ev.look y.2.1.vars 3 = some (ii a) ∧ Ev.look y.2.1.vars 4 = some (ii 0)) ?_ ?_ 0 0 (Nat.zero_le _) trivial
    · exact key
    · rintro i a hi _
      obtain ⟨x, hx⟩ : ∃ x, c.lps[i]? = some x := ⟨_, List.getElem?_eq_getElem hi⟩
      have hi' : (i : Int) < (c.lps.length : Int) := by omega
      have hw : IntKind.i64.wrap ((i : Int) + 1) = ((i + 1 : Nat) : Int) := by rw [qas (by omega) (by omega)]; simp
      refine .inl ⟨IntKind.i64.wrap (a + (x.length : Int)), ?_, trivial⟩
      simp only [qid, Int.natCast_nonneg, Int.toNat_natCast, List.getElem?_map, Option.map_some, hx, hi', hw, lpC, qcb, qax, Ev.exec, qb, qe, qc, qai, Ev.Opnd.ev, Ev.Env.get, Ev.Env.set, Ev.look, qf, qv, qao, ql, qs, Ev.keep, qal, qaf, qg, qbb, qm, qbm, qh, qd, List.length_map, ↓qn, Ev.it1, ↓reduceIte, List.length_cons, List.length_nil, zfe, List.drop_zero, List.head?_cons, Nat.reduceEqDiff, decide_true, zfc, zfa, and_self, zfd, eq_self]
    · rintro a _
      simp only [qid, Int.lt_irrefl, Ev.exec, qb, qe, qc, qai, Ev.Opnd.ev, Ev.Env.get, Ev.Env.set, Ev.look, qf, qv, ql, List.length_map, ↓qn, Ev.it1, ↓reduceIte, List.drop_zero, List.head?_cons, Nat.reduceEqDiff, decide_false, zfa, eq_self]
      exact ⟨_, rfl, a, rfl, rfl, rfl, rfl, rfl, rfl⟩
  have hL3 : ∀ (i : Nat) (p : List OpI) (a b : Int), c.progs[i]? = some p → ∃ y, itB (exec (evL T) itL none qgb) (qs [1, 3, 4, 6, 7] true 0) ⟨[(1, (.fptr [(.fsl ((c.lps).map lpC) false), (.fsl ((c.progs).map qce) false), (ii c.look), (ii c.fin), (ii c.cap)])), (3, (ii a)), (4, (ii b)), (6, (ii i)), (7, (ii ((0 : Nat))))], []⟩ [] = some y ∧ ∃ b : Int, y.1 = .exit 4 ∧ y.2.1.marks = [] ∧ y.2.2 = [] ∧ Ev.look y.2.1.vars 1 = some (.fptr [(.fsl ((c.lps).map lpC) false), (.fsl ((c.progs).map qce) false), (ii c.look), (ii c.fin), (ii c.cap)]) ∧ Ev.look y.2.1.vars 3 = some (ii a) ∧ Ev.look y.2.1.vars 4 = some (ii b) ∧ Ev.look y.2.1.vars 6 = some (ii i) := by
    intro i p a b hp
    have key := qf2 (f := exec (evL T) itL none qgb) (s := qs [1, 3, 4, 6, 7] true 0) (α := Int) (fun k b => ⟨[(1, (.fptr [(.fsl ((c.lps).map lpC) false), (.fsl ((c.progs).map qce) false), (ii c.look), (ii c.fin), (ii c.cap)])), (3, (ii a)), (4, (ii b)), (6, (ii i)), (7, (ii k))], []⟩) (fun _ _ => []) (fun _ _ => True) p.length
      (fun y => ∃ b : Int, y.1 = .exit 4 ∧ y.2.1.marks = [] ∧ y.2.2 = [] ∧ Ev.look y.2.1.vars 1 = some (.fptr [(.fsl ((c.lps).map lpC) false), (.fsl ((c.progs).map qce) false), (ii c.look), (ii c.fin), (ii c.cap)]) ∧ Ev.look y.2.1.vars 3 = some (ii a) ∧ Ev.look y.2.1.vars 4 = some (ii b) ∧ Ev.look y.2.1.vars 6 = some (ii i)) ?_ ?_ 0 b (Nat.zero_le _) trivial
    · exact key
    · rintro k b hk _
      obtain ⟨x, hx⟩ : ∃ x, p[k]? = some x := ⟨_, List.getElem?_eq_getElem hk⟩
      have := s4 p (List.mem_of_getElem? hp)
      have hk' : (k : Int) < (p.length : Int) := by omega
      have hw : IntKind.i64.wrap ((k : Int) + 1) = ((k + 1 : Nat) : Int) := by rw [qas (by omega) (by omega)]; simp
      obtain ⟨xc, xa, xb, xd⟩ := x
      by_cases h : xc = 2
      · exact .inl ⟨IntKind.i64.wrap (b + 1), by simp only [qgb, Int.natCast_nonneg, Int.toNat_natCast, List.getElem?_map, Option.map_some, hp, hx, hk', hw, h, qce, OpI.r, qcb, qax, Ev.exec, qb, qe, qc, qai, Ev.Opnd.ev, Ev.Env.get, Ev.Env.set, Ev.look, qf, qv, qao, qar, ql, qs, Ev.keep, qal, qaf, qg, qbb, qm, qbm, qh, qd, List.length_map, ↓qn, Ev.it1, ↓reduceIte, List.length_cons, List.length_nil, zfe, List.drop_succ_cons, List.drop_zero, List.head?_cons, Nat.reduceAdd, Nat.reduceEqDiff, decide_true, zfc, zfa, and_self, zfd, eq_self], trivial⟩
      · exact .inl ⟨b, by simp only [qgb, Int.natCast_nonneg, Int.toNat_natCast, List.getElem?_map, Option.map_some, hp, hx, hk', hw, h, qce, OpI.r, qcb, qax, Ev.exec, qb, qe, qc, qai, Ev.Opnd.ev, Ev.Env.get, Ev.Env.set, Ev.look, qf, qv, qao, qar, ql, qs, Ev.keep, qal, qaf, qg, qbb, qm, qbm, qh, qd, List.length_map, ↓qn, Ev.it1, ↓reduceIte, List.length_cons, List.length_nil, zfe, List.drop_succ_cons, List.drop_zero, List.head?_cons, Nat.reduceAdd, Nat.reduceEqDiff, decide_true, decide_false, zfc, zfa, and_self, zfd, eq_self], trivial⟩
    · rintro b _
      simp only [qgb, Int.natCast_nonneg, Int.toNat_natCast, List.getElem?_map, Option.map_some, hp, Int.lt_irrefl, qce, Ev.exec, qb, qe, qc, qai, Ev.Opnd.ev, Ev.Env.get, Ev.Env.set, Ev.look, qf, qv, ql, List.length_map, ↓qn, Ev.it1, ↓reduceIte, List.length_cons, List.length_nil, List.drop_succ_cons, List.drop_zero, List.head?_cons, Nat.reduceEqDiff, decide_false, zfa, zfd, eq_self]
      exact ⟨_, rfl, b, rfl, rfl, rfl, rfl, rfl, rfl, rfl⟩
  have hL2 : ∀ a : Int, ∃ y, itB (exec (evL T) itL none qig) (qs [1, 3, 4, 6] true 0) ⟨[(1, (.fptr [(.fsl ((c.lps).map lpC) false), (.fsl ((c.progs).map qce) false), (ii c.look), (ii c.fin), (ii c.cap)])), (3, (ii a)), (4, (ii 0)), (6, (ii ((0 : Nat))))], []⟩ [] = some y ∧ ∃ b : Int, y.1 = .exit 2 ∧ y.2.1.marks = [] ∧ y.2.2 = [] ∧ Ev.look y.2.1.vars 3 = some (ii a) ∧ Ev.look y.2.1.vars 4 = some (ii b) := by
    intro a
    have key := qf2 (f := exec (evL T) itL none qig) (s := qs [1, 3, 4, 6] true 0) (α := Int) (fun i b => ⟨[(1, (.fptr [(.fsl ((c.lps).map lpC) false), (.fsl ((c.progs).map qce) false), (ii c.look), (ii c.fin), (ii c.cap)])), (3, (ii a)), (4, (ii b)), (6, (ii i))], []⟩) (fun _ _ => []) (fun _ _ => True) c.progs.length
      (fun y => ∃ b : Int, y.1 = .exit 2 ∧ y.2.1.marks = [] ∧ y.2.2 = [] ∧ Ev.look y.2.1.vars 3 = some (ii a) ∧ Ev.look y.2.1.vars 4 = some (ii b)) ?_ ?_ 0 0 (Nat.zero_le _) trivial
    · exact key
    · rintro i b hi _
      obtain ⟨x, hx⟩ : ∃ x, c.progs[i]? = some x := ⟨_, List.getElem?_eq_getElem hi⟩
      have hi' : (i : Int) < (c.progs.length : Int) := by omega
      have hw : IntKind.i64.wrap ((i : Int) + 1) = ((i + 1 : Nat) : Int) := by rw [qas (by omega) (by omega)]; simp
      obtain ⟨⟨y, e, σ⟩, k1, b', k2, k3, k4, k5, k6, k7, k8⟩ := hL3 i x a b hx
      simp only [Int.ofNat_zero] at k1 k2 k3 k4 k5 k6 k7 k8
      subst k2; subst k4
      refine .inl ⟨b', ?_, trivial⟩
      simp only [qig, hi', hw, k1, k3, k5, k6, k7, k8, qcb, qax, Ev.exec, qb, qe, qc, qai, Ev.Opnd.ev, Ev.Env.get, Ev.Env.set, Ev.look, qf, qv, qao, ql, qs, Ev.keep, qal, qaf, qg, qbb, qm, qbm, qh, qd, List.length_map, ↓qn, ↓qa3, Ev.it1, ↓reduceIte, List.length_nil, zfe, List.drop_succ_cons, List.drop_zero, List.head?_cons, Nat.reduceEqDiff, decide_true, zfc, zfa, and_self, eq_self]
    · rintro b _
      simp only [qig, Int.lt_irrefl, Ev.exec, qb, qe, qc, qai, Ev.Opnd.ev, Ev.Env.get, Ev.Env.set, Ev.look, qf, qv, ql, List.length_map, ↓qn, Ev.it1, ↓reduceIte, List.drop_succ_cons, List.drop_zero, List.head?_cons, Nat.reduceEqDiff, decide_false, zfa, eq_self]
      exact ⟨_, rfl, b, rfl, rfl, rfl, rfl, rfl⟩
  obtain ⟨⟨y, e, σ⟩, k1, a, k2, k3, k4, k5, k6, k7⟩ := hL1
  obtain ⟨⟨y', e', σ'⟩, m1, b, m2, m3, m4, m5, m6⟩ := hL2 a
  simp only [Int.ofNat_zero] at k1 k2 k3 k4 k5 k6 k7 m1 m2 m3 m4 m5 m6
  subst k2; subst k4; subst m2; subst m4
  by_cases h5 : a ≤ 6
  · exact ⟨decide (b ≤ 6), by simp only [qfo, hg, hr, h3, h4, h5, k1, k3, k5, k6, k7, m1, m3, m5, m6, qcb, qax, qj, Ev.exec, qb, qe, qc, qaw, qai, Ev.evs, Ev.Opnd.ev, Ev.Env.get, Ev.Env.set, Ev.look, qk, qf, qv, Ev.AV.cells, qo, Ev.AV.plain, qbe, qqm, qbh, qi, qq, qaj, Ev.kill, qag, qs, Ev.keep, qal, qaf, qg, qbb, qa2, qm, qbm, qh, qd, qx, List.length_map, ↓qn, ↓qa3, ↓reduceIte, List.length_cons, List.length_nil, List.take_succ_cons, zfe, List.drop_succ_cons, List.drop_zero, List.head?_cons, Nat.reduceAdd, Nat.reduceEqDiff, decide_true, decide_false, zfc, zfa, and_self, ne_eq, zfb, not_true_eq_false, zff, zfd, Nat.le_refl, eq_self], fun _ => hok⟩
  · exact ⟨false, by simp only [qfo, hg, hr, h3, h4, h5, k1, k3, k5, k6, k7, m1, m3, m5, qcb, qax, qj, Ev.exec, qb, qe, qc, qaw, qai, Ev.evs, Ev.Opnd.ev, Ev.Env.get, Ev.Env.set, Ev.Env.unset, Ev.look, qk, qf, qv, Ev.AV.cells, qo, Ev.AV.plain, qbe, qqm, qbh, qi, qq, qaj, Ev.kill, qag, qs, Ev.keep, qal, qaf, qg, qbb, qa2, qm, qbm, qh, qd, qx, List.length_map, ↓qn, ↓qa3, ↓reduceIte, List.length_cons, List.length_nil, List.take_succ_cons, zfe, List.drop_succ_cons, List.drop_zero, List.head?_cons, Nat.reduceAdd, Nat.reduceEqDiff, decide_false, zfc, zfa, and_self, ne_eq, zfb, not_true_eq_false, zff, zfd, Nat.le_refl, eq_self], fun _ => hok⟩
set_option maxRecDepth 10000
section
variable {c : Cfg} {i : Nat} {w : WSt} {O : List Evt} {S : Sim} {H : List Evt} {f hor : Int}
structure WTime (c : Cfg) (i : Nat) (f hor : Int) (w : WSt) : Prop where
  box : ∀ e ∈ w.box, f ≤ e.time
  done : ∀ e ∈ w.done, f ≤ e.time ∧ e.time < hor ∧ e.lp = i
  sent : ∀ e ∈ w.sent, f + c.look ≤ e.time ∧ e.lp ≠ i ∧ 0 ≤ e.lp ∧ e.lp < c.lps.length
end
theorem q6o (r : List Int) (x : Int) : r.foldl qu7 x ≤ x ∧ (∀ y ∈ r, r.foldl qu7 x ≤ y) ∧ (r.foldl qu7 x = x ∨ r.foldl qu7 x ∈ r) := by
  induction r generalizing x with
  | nil => exact ⟨Int.le_refl _, fun y hy => by simp at hy, .inl rfl⟩
  | cons a r ih =>
    obtain ⟨h1, h2, h3⟩ := ih (qu7 x a)
    have hm : qu7 x a ≤ x ∧ qu7 x a ≤ a ∧ (qu7 x a = x ∨ qu7 x a = a) := by unfold qu7; split <;> omega
    simp only [List.foldl_cons]
    refine ⟨by omega, fun y hy => ?_, ?_⟩
    · rcases List.mem_cons.1 hy with rfl | hy
      · omega
      · exact h2 y hy
    · rcases h3 with h3 | h3
      · rcases hm.2.2 with h4 | h4
        · exact .inl (by omega)
        · exact .inr (by rw [h3, h4]; simp)
      · exact .inr (List.mem_cons_of_mem _ h3)
theorem qzm {bs : List (List Evt)} {t : Int} : t ∈ qk6 bs ↔ ∃ b ∈ bs, ∃ e r, b = e :: r ∧ e.time = t := by
  unfold qk6
  simp only [List.mem_map, List.mem_filterMap]
  constructor
  · rintro ⟨e, ⟨b, hb, hh⟩, rfl⟩
    cases b with
    | nil => simp at hh
    | cons x r => simp only [List.head?_cons, Option.some.injEq] at hh; subst hh; exact ⟨_, hb, x, r, rfl, rfl⟩
  · rintro ⟨b, hb, e, r, rfl, rfl⟩
    exact ⟨e, ⟨_, hb, rfl⟩, rfl⟩
theorem q3w {bs : List (List Evt)} {f : Int} (h : qzo bs = some f) (hs : ∀ b ∈ bs, b.Pairwise leE) : (∀ b ∈ bs, ∀ e ∈ b, f ≤ e.time) ∧ ∃ b ∈ bs, ∃ e r, b = e :: r ∧ e.time = f := by
  unfold qzo at h
  split at h
  · cases h
  next x r hf =>
    cases h
    obtain ⟨h1, h2, h3⟩ := q6o r x
    have all : ∀ t ∈ qk6 bs, r.foldl qu7 x ≤ t := fun t ht => by
      rw [hf] at ht
      rcases List.mem_cons.1 ht with rfl | ht
      · exact h1
      · exact h2 t ht
    refine ⟨fun b hb e he => ?_, ?_⟩
    · cases b with
      | nil => simp at he
      | cons y q =>
        have := all y.time (qzm.2 ⟨_, hb, y, q, rfl, rfl⟩)
        rcases List.mem_cons.1 he with rfl | he
        · exact this
        · have := q2v ((List.pairwise_cons.1 (hs _ hb)).1 e he); omega
    · refine qzm.1 ?_
      rw [hf]
      rcases h3 with h3 | h3
      · rw [h3]; simp
      · exact List.mem_cons_of_mem _ h3
structure StF (c : Cfg) (s : Sim) (h : List Evt) (L : List (Lp × Bool)) : Prop where
  inv : SInv c s h
  len : h.length ≤ 30
  lok : LOk L s
section
variable {c : Cfg} {s : Sim} {h : List Evt} {L : List (Lp × Bool)}
theorem StF.lL (F : StF c s h L) : L.length = c.lps.length := by
  have := congrArg List.length F.lok.1
  rw [List.length_map, F.inv.lpl] at this; exact this
theorem StF.at (F : StF c s h L) {i : Nat} (hi : i < c.lps.length) : ∃ x f, L[i]? = some (x, f) ∧ s.lps[i]? = some x ∧ (f = true → x.procs = []) := by
  obtain ⟨z, hz⟩ : ∃ z, L[i]? = some z := ⟨_, List.getElem?_eq_getElem (by rw [F.lL]; exact hi)⟩
  refine ⟨z.1, z.2, hz, by rw [← F.lok.1, List.getElem?_map, hz]; rfl, F.lok.2 z (List.mem_of_getElem? hz)⟩
theorem StF.dist (F : StF c s h L) : qvd s.pend := ql6.dist (List.pairwise_append.1 F.inv.keys).2.1
theorem StF.keysOk (F : StF c s h L) : qic s.pend := fun x hx => by have := (F.inv.ev x (List.mem_append_right _ hx)).key; have := F.len; omega
theorem StF.plen (F : StF c s h L) : s.pend.length ≤ 1000 := by have := F.inv.len; have := F.len; omega
theorem q65 (n : Nat) (l : List Evt) {i : Nat} (hi : i < n) : (qe2 n l)[i]? = some (qga (qf8 l i)) := by unfold qe2; rw [List.getElem?_map, List.getElem?_range hi]; rfl
theorem q2e (n : Nat) (l : List Evt) : ∀ b ∈ qe2 n l, b.Pairwise leE := fun b hb => by
  simp only [qe2, List.mem_map] at hb
  obtain ⟨i, _, rfl⟩ := hb
  exact qgj _
theorem q2j : ∀ (l : List Nat) (g k : Nat → List Evt), (∀ i, (g i).Perm (k i)) → (l.map g).flatten.Perm (l.map k).flatten
  | [], _, _, _ => .refl _
  | a :: l, g, k, h => by
    simp only [List.map_cons, List.flatten_cons]
    exact (h a).append (q2j l g k h)
theorem StF.flat (F : StF c s h L) : (qe2 c.lps.length s.pend).flatten.Perm s.pend :=
  (q2j _ _ (fun i => qf8 s.pend i) fun i => qfa _).trans (own_perm fun e he => (F.inv.ev e (List.mem_append_right _ he)).lp)
theorem StF.winv (F : StF c s h L) {i : Nat} (hi : i < c.lps.length) {x : Lp} (hx : s.lps[i]? = some x) : WInv c i ⟨x, qga (qf8 s.pend i), [], [], false⟩ [] s h := by
  refine ⟨F.inv.toSInvK, hi, hx, ⟨s.pend.filter fun e => !decide (e.lp = i), ?_⟩, qgj _, fun b hb => by
    have := (qfa _).mem_iff.1 hb
    unfold qf8 at this
    rw [List.mem_filter] at this; simpa using this.2⟩
  simp only [List.nil_append]
  exact ((qfa _).append_right _).trans (List.filter_append_perm _ _)
theorem State_ev (G : Good c) (a : Int) (ha : 0 ≤ a ∧ a ≤ 255) : ∃ (s : Sim) (h : List Evt) (L : List (Lp × Bool)), StF c s h L ∧
    qa4 (evL T) qhy [(.agg [(.fsl ((c.lps).map lpC) false), (.fsl ((c.progs).map qce) false), (ii c.look), (ii c.fin), (ii c.cap)]), (.v (.int .u8 a))] = some (.tup [(.fsl ((L).map lpF) false), (.fsl (((qe2 c.lps.length s.pend)).map qcp) false)]) := by
  obtain ⟨L, hL, hS⟩ := q3n G (a.toNat % 31) (by omega)
  obtain ⟨h, h1, h2, _⟩ := ran G.v (a.toNat % 31) (by omega)
  have F : StF c (runS c (a.toNat % 31)) h L := ⟨h1, by omega, hL⟩
  refine ⟨_, h, L, F, ?_⟩
  have hw : IntKind.i64.wrap a = a := qas (by omega) (by omega)
  have hr : a.tmod 31 = ((a.toNat % 31 : Nat) : Int) := by
    obtain ⟨n, rfl⟩ : ∃ n : Nat, a = n := ⟨a.toNat, by omega⟩
    rw [Int.tmod_eq_emod_of_nonneg (by omega)]; omega
  have h31 : ¬ (31 : Int) = 0 := by decide
  have hB := q61 (runS c (a.toNat % 31)).pend false c.lps.length G.v.lps.2 (by have := F.plen; omega) F.keysOk F.dist
  generalize runS c (a.toNat % 31) = s at *
  generalize qe2 c.lps.length s.pend = B at *
  rw [qa4, qad qwx qvq]
  simp only [qlo, hw, hr, h31, hS, hB, qt1, qjr, qaa, qcb, qax, qj, Ev.exec, qb, qe, qc, qaw, qai, Ev.evs, Ev.Opnd.ev, Ev.Env.get, Ev.Env.set, Ev.look, qk, qf, qv, Ev.AV.cells, qo, Ev.AV.plain, qux, qi, qq, qaj, Ev.kill, qag, qg, qbb, qa2, qb1, qm, qh, qd, qx, List.length_map, ↓qn, ↓reduceIte, List.length_cons, List.length_nil, List.getElem?_cons_zero, List.take_succ_cons, List.take_zero, zfe, List.drop_succ_cons, List.drop_zero, List.drop_nil, List.nil_append, List.append_nil, List.set_cons_zero, List.head?_cons, Nat.reduceAdd, Nat.reduceEqDiff, reduceCtorEq, zfc, zfa, and_self, ne_eq, zfb, zff, zfd, Nat.le_refl, eq_self]
end
set_option maxRecDepth 100000
theorem qz8 : qa4 (evL T) qi5 [] = some (bb true) := q47 40 (by kernel_rfl)
theorem q3c (c : Cfg) : ∃ b : Bool, qa4 (evL T) qku [(.agg [(.fsl ((c.lps).map lpC) false), (.fsl ((c.progs).map qce) false), (ii c.look), (ii c.fin), (ii c.cap)])] = some (bb b) ∧ (b = true → Good c ∧ 1 ≤ c.look ∧ c.look ≤ 8 ∧ 1 ≤ c.lps.length ∧ c.lps.length ≤ 4) := by
  obtain ⟨b, h1, h2⟩ := Quick_ev c
  refine ⟨b, ?_, fun hb => by
    obtain ⟨k1, k2, k3⟩ := h2 hb
    have G := good_of k1
    exact ⟨G, G.v.look, k2, G.v.lps.1, k3⟩⟩
  rw [qa4, qad q1g q0q]
  simp only [qqu, h1, qcb, qax, qj, Ev.exec, qb, qe, qc, qaw, qai, Ev.evs, Ev.Opnd.ev, Ev.Env.get, Ev.Env.set, Ev.look, qk, qf, qv, Ev.AV.cells, qo, Ev.AV.plain, qi, qq, qaj, Ev.kill, qag, qg, qbb, qa2, qm, qh, qd, qx, ↓qn, ↓reduceIte, List.length_cons, List.length_nil, List.take_succ_cons, zfe, Nat.reduceAdd, Nat.reduceEqDiff, zfc, and_self, ne_eq, zfb, zff, zfd, Nat.le_refl, eq_self]
theorem idx_mod (a : Int) (ha : 0 ≤ a) {n : Nat} (hn : 1 ≤ n) : ∃ i : Nat, a.tmod n = (i : Int) ∧ i < n := by
  have q1 := Int.tmod_lt_of_pos a (show (0 : Int) < (n : Int) by omega)
  have q2 := Int.tmod_nonneg (n : Int) ha
  exact ⟨(a.tmod n).toNat, by omega, by omega⟩
set_option maxRecDepth 10000
def WSt.pre (d s : List Evt) (o : Bool) (w : WSt) : WSt := ⟨w.lp, w.box, d ++ w.done, s ++ w.sent, o || w.over⟩
theorem qzt (i : Int) (s : List Evt) : ∀ (l : List Evt) (p : List Evt × List Evt), qev i (p.1, s ++ p.2) l = ((qev i p l).1, s ++ (qev i p l).2)
  | [], p => rfl
  | n :: l, p => by
    rw [qyf, qyf]
    have : qla i (p.1, s ++ p.2) n = ((qla i p n).1, s ++ (qla i p n).2) := by
      unfold qla; split <;> simp
    rw [this]; exact qzt i s l _
theorem pre_step (c : Cfg) (d s : List Evt) (o : Bool) (w : WSt) (e : Evt) (rest : List Evt) : (w.pre d s o).step c e rest = (w.step c e rest).pre d s o := by
  unfold WSt.step WSt.pre
  simp only
  have := qzt e.lp s (qbf c w.lp e).out (rest, w.sent)
  simp only at this
  rw [this]
  simp only [List.append_assoc, Bool.or_assoc]
theorem q8g (c : Cfg) (hor : Int) (d s : List Evt) (o : Bool) : ∀ (k : Nat) (w : WSt), WSt.run c hor k (w.pre d s o) = (WSt.run c hor k w).pre d s o
  | 0, w => rfl
  | k + 1, w => by
    cases hb : w.box with
    | nil =>
      have h1 : WSt.run c hor (k + 1) w = w := by rw [WSt.run, hb]
      have h2 : WSt.run c hor (k + 1) (w.pre d s o) = w.pre d s o := by rw [WSt.run]; show (match w.box with | [] => _ | e :: rest => _) = _; rw [hb]
      rw [h1, h2]
    | cons e rest =>
      by_cases ht : e.time < hor
      · have h1 : WSt.run c hor (k + 1) w = WSt.run c hor k (w.step c e rest) := by rw [WSt.run, hb]; simp only [ht, if_true]
        have h2 : WSt.run c hor (k + 1) (w.pre d s o) = WSt.run c hor k ((w.pre d s o).step c e rest) := by
          rw [WSt.run]; show (match w.box with | [] => _ | e :: rest => _) = _; rw [hb]; simp only [ht, if_true]
        rw [h1, h2, pre_step]; exact q8g c hor d s o k _
      · have h1 : WSt.run c hor (k + 1) w = w := by rw [WSt.run, hb]; simp only [ht, if_false]
        have h2 : WSt.run c hor (k + 1) (w.pre d s o) = w.pre d s o := by rw [WSt.run]; show (match w.box with | [] => _ | e :: rest => _) = _; rw [hb]; simp only [ht, if_false]
        rw [h1, h2]
theorem q2k (c : Cfg) (mid hor : Int) (hm : mid ≤ hor) : ∀ (k : Nat) (w : WSt), ∃ j, j ≤ k ∧ (WSt.run c mid k w).done.length = w.done.length + j ∧ WSt.run c hor k w = WSt.run c hor (k - j) (WSt.run c mid k w)
  | 0, w => ⟨0, Nat.le_refl _, rfl, rfl⟩
  | k + 1, w => by
    cases hb : w.box with
    | nil =>
      have h1 : WSt.run c mid (k + 1) w = w := by rw [WSt.run, hb]
      exact ⟨0, Nat.zero_le _, by rw [h1]; rfl, by rw [h1]; rfl⟩
    | cons e rest =>
      by_cases ht : e.time < mid
      · have h1 : WSt.run c mid (k + 1) w = WSt.run c mid k (w.step c e rest) := by rw [WSt.run, hb]; simp only [ht, if_true]
        have ht2 : e.time < hor := by omega
        have h2 : WSt.run c hor (k + 1) w = WSt.run c hor k (w.step c e rest) := by rw [WSt.run, hb]; simp only [ht2, if_true]
        obtain ⟨j, j1, j2, j3⟩ := q2k c mid hor hm k (w.step c e rest)
        refine ⟨j + 1, by omega, by rw [h1, j2]; simp [WSt.step]; omega, ?_⟩
        rw [h1, h2, j3, show k + 1 - (j + 1) = k - j by omega]
      · have h1 : WSt.run c mid (k + 1) w = w := by rw [WSt.run, hb]; simp only [ht, if_false]
        exact ⟨0, Nat.zero_le _, by rw [h1]; rfl, by rw [h1]; rfl⟩
theorem q4k (c : Cfg) (hor : Int) : ∀ (k m : Nat) (w : WSt), (WSt.run c hor k w).done.length < w.done.length + k → WSt.run c hor (k + m) w = WSt.run c hor k w
  | 0, m, w, h => by simp [WSt.run] at h
  | k + 1, m, w, h => by
    rw [show k + 1 + m = (k + m) + 1 by omega]
    cases hb : w.box with
    | nil =>
      have h1 : ∀ n, WSt.run c hor (n + 1) w = w := fun n => by rw [WSt.run, hb]
      rw [h1, h1]
    | cons e rest =>
      by_cases ht : e.time < hor
      · have h1 : ∀ n, WSt.run c hor (n + 1) w = WSt.run c hor n (w.step c e rest) := fun n => by rw [WSt.run, hb]; simp only [ht, if_true]
        rw [h1] at h
        rw [h1, h1]
        have hl : (w.step c e rest).done.length = w.done.length + 1 := by simp [WSt.step]
        exact q4k c hor k m _ (by omega)
      · have h1 : ∀ n, WSt.run c hor (n + 1) w = w := fun n => by rw [WSt.run, hb]; simp only [ht, if_false]
        rw [h1, h1]
theorem qxq (c : Cfg) (hor : Int) : ∀ (k : Nat) (w : WSt), w.done.length ≤ (WSt.run c hor k w).done.length
  | 0, w => Nat.le_refl _
  | k + 1, w => by
    unfold WSt.run
    split
    · exact Nat.le_refl _
    · split
      · have := qxq c hor k (w.step c ‹_› ‹_›)
        simp [WSt.step] at this ⊢; omega
      · exact Nat.le_refl _
theorem q8r (c : Cfg) (mid hor : Int) (hm : mid ≤ hor) (x : Lp) (b : List Evt) (hd : (WSt.run c hor 2000 ⟨x, b, [], [], false⟩).done.length < 1000) :
    WSt.run c hor 2000 ⟨x, b, [], [], false⟩ = (WSt.run c hor 2000 ⟨(WSt.run c mid 2000 ⟨x, b, [], [], false⟩).lp, (WSt.run c mid 2000 ⟨x, b, [], [], false⟩).box, [], [], false⟩).pre
      (WSt.run c mid 2000 ⟨x, b, [], [], false⟩).done (WSt.run c mid 2000 ⟨x, b, [], [], false⟩).sent (WSt.run c mid 2000 ⟨x, b, [], [], false⟩).over := by
  obtain ⟨j, j1, j2, j3⟩ := q2k c mid hor hm 2000 ⟨x, b, [], [], false⟩
  generalize WSt.run c mid 2000 ⟨x, b, [], [], false⟩ = v at *
  have h1 := qxq c hor (2000 - j) v
  rw [j3] at hd ⊢
  simp only [List.length_nil, zfd] at j2
  have h2 := q4k c hor (2000 - j) j v (by omega)
  rw [show 2000 - j + j = 2000 by omega] at h2
  rw [← h2]
  have e1 : v = (⟨v.lp, v.box, [], [], false⟩ : WSt).pre v.done v.sent v.over := by
    unfold WSt.pre; simp
  have h3 := q8g c hor v.done v.sent v.over 2000 ⟨v.lp, v.box, [], [], false⟩
  rw [← e1] at h3
  exact h3
set_option maxRecDepth 10000
set_option maxHeartbeats 2000000 in
theorem q7w (c : Cfg) (a lp tt : Int) (ha : 0 ≤ a ∧ a ≤ 255) (hlp : 0 ≤ lp ∧ lp ≤ 255) (htt : 0 ≤ tt ∧ tt ≤ 65535) : qa4 (evL T) qen [(.agg [(.fsl ((c.lps).map lpC) false), (.fsl ((c.progs).map qce) false), (ii c.look), (ii c.fin), (ii c.cap)]), .v (.int .u8 a), .v (.int .u8 lp), .v (.int .u16 tt)] = some (bb true) := by
  have hH := qz8
  obtain ⟨b, hq, hqb⟩ := q3c c
  rw [qa4, qad qp9 qkr]
  cases b with
  | false => simp only [qcm, hH, hq, qcb, qax, qj, Ev.exec, qb, qe, qc, qaw, qai, Ev.evs, Ev.Opnd.ev, Ev.Env.get, Ev.Env.set, Ev.look, qk, qf, qv, Ev.AV.cells, qo, Ev.AV.plain, qi, qq, qaj, Ev.kill, qag, qg, qbb, qa2, qm, qh, qd, qx, ↓qn, ↓reduceIte, List.length_cons, List.length_nil, List.take_succ_cons, zfe, Nat.reduceAdd, Nat.reduceEqDiff, zfc, Bool.not_false, and_self, ne_eq, zfb, zff, zfd, Nat.le_refl, eq_self]
  | true =>
  obtain ⟨G, l1, l8, n1, n4⟩ := hqb rfl
  obtain ⟨s, h, L, F, hS⟩ := State_ev G a ha
  have hF := Floor_ev (qe2 c.lps.length s.pend) false (by simp [qe2]; omega)
  cases hfl : qzo (qe2 c.lps.length s.pend) with
  | none =>
    rw [hfl] at hF
    simp only [Option.getD_none, Option.isSome_none] at hF
    generalize qe2 c.lps.length s.pend = B at *
    simp only [qcm, hH, hq, hS, hF, qjr, qcb, qax, qj, Ev.exec, qb, qe, qc, qaw, qai, Ev.evs, Ev.Opnd.ev, Ev.Env.get, Ev.Env.set, Ev.look, qk, qf, qv, Ev.AV.cells, qo, Ev.AV.plain, qi, qq, qaj, Ev.kill, qag, qg, qbb, qa2, qm, qh, qd, qx, ↓qn, ↓reduceIte, List.length_cons, List.length_nil, List.getElem?_cons_zero, List.getElem?_cons_succ, List.take_succ_cons, zfe, Nat.reduceAdd, Nat.reduceEqDiff, reduceCtorEq, zfc, Bool.not_true, Bool.not_false, zfa, and_self, ne_eq, zfb, zff, zfd, Nat.le_refl, eq_self]
  | some f =>
  rw [hfl] at hF
  simp only [Option.getD_some, Option.isSome_some] at hF
  obtain ⟨fa, fb, hfb, fe, fr, rfl, hfe⟩ := q3w hfl (q2e _ _)
  have hmem : fe ∈ s.pend := F.flat.mem_iff.1 (List.mem_flatten.2 ⟨_, hfb, by simp⟩)
  have hft := (F.inv.ev fe (List.mem_append_right _ hmem)).time
  have hfin := G.v.fin
  have hHz := q44 c f (by omega) (by omega) hfin
  obtain ⟨hor, hhor, z3⟩ : ∃ hor, f + qu7 c.look (c.fin - f) = hor ∧ hor ≤ f + c.look := by
    unfold qu7
    refine ⟨_, rfl, ?_⟩
    split <;> omega
  rw [hhor] at hHz
  have wl : IntKind.i64.wrap lp = lp := qas (by omega) (by omega)
  have wt : IntKind.i64.wrap tt = tt := qas (by omega) (by omega)
  have wlk : c.look.tmod 1000 = c.look := by
    obtain ⟨n, hn⟩ : ∃ n : Nat, c.look = n := ⟨c.look.toNat, by omega⟩
    rw [hn, Int.tmod_eq_emod_of_nonneg (by omega)]; omega
  have wl1 : IntKind.i64.wrap (c.look + 1) = c.look + 1 := qas (by omega) (by omega)
  obtain ⟨q, hqm, hq0, hq9⟩ : ∃ q, tt.tmod (c.look + 1) = q ∧ 0 ≤ q ∧ q ≤ 8 := by
    have q1 := Int.tmod_lt_of_pos tt (show (0 : Int) < c.look + 1 by omega)
    have q2 := Int.tmod_nonneg (c.look + 1) htt.1
    exact ⟨_, rfl, q2, by omega⟩
  have wq : IntKind.i64.wrap (f + q) = f + q := qas (by omega) (by omega)
  have n1000 : ¬ (1000 : Int) = 0 := by decide
  have nl : ¬ c.look + 1 = 0 := by omega
  obtain ⟨mid, hmid, hml⟩ : ∃ mid, (if f + q < hor then f + q else hor) = mid ∧ mid ≤ hor := by
    refine ⟨_, rfl, ?_⟩; split <;> omega
  obtain ⟨i, hi, hin⟩ := idx_mod lp hlp.1 n1
  obtain ⟨x, xf, hLi, hsx, hxf⟩ := F.at hin
  have hLl := F.lL
  have W0 := F.winv hin hsx
  have hlen := F.len
  have hP1 := quz hor (f := xf) (cb := false) W0 hxf (by omega)
  have hP2 := quz mid (f := xf) (cb := false) W0 hxf (by omega)
  obtain ⟨S1, es1, WI1, hd1, _, hel1⟩ := WInv.run hor 2000 W0 (by omega)
  obtain ⟨S2, es2, WI2, hd2, _, hel2⟩ := WInv.run mid 2000 W0 (by omega)
  have hsp := q8r c mid hor hml x (qga (qf8 s.pend i))
  have procs0 : ∀ (hor : Int) (k : Nat) (w : WSt), w.lp.procs = [] → (WSt.run c hor k w).lp.procs = [] := by
    intro hor k
    induction k with
    | zero => intro w h; exact h
    | succ k ih =>
      intro w h
      unfold WSt.run
      split
      · exact h
      · split
        · exact ih _ (qx9 h)
        · exact h
  have hvf : xf = true → (WSt.run c mid 2000 ⟨x, qga (qf8 s.pend i), [], [], false⟩).lp.procs = [] := fun k => procs0 mid 2000 _ (hxf k)
  generalize WSt.run c hor 2000 ⟨x, qga (qf8 s.pend i), [], [], false⟩ = w at *
  generalize WSt.run c mid 2000 ⟨x, qga (qf8 s.pend i), [], [], false⟩ = v at *
  have W1 : WInv c i ⟨v.lp, v.box, [], [], false⟩ v.sent S2 (h ++ es2) := by
    refine ⟨WI2.K, WI2.il, WI2.lp, ?_, WI2.sorted, WI2.own⟩
    obtain ⟨T, hT⟩ := WI2.sub
    exact ⟨T, by simpa using hT⟩
  have hP3 := quz hor (f := xf) (cb := false) W1 hvf (by simp; omega)
  obtain ⟨S3, es3, WI3, hd3, _, hel3⟩ := WInv.run hor 2000 W1 (by simp; omega)
  generalize WSt.run c hor 2000 ⟨v.lp, v.box, [], [], false⟩ = u at *
  have hLm : (L.map lpF)[i]? = some (lpF (x, xf)) := by rw [List.getElem?_map, hLi]; rfl
  have hBm : ((qe2 c.lps.length s.pend).map qcp)[i]? = some (qcp (qga (qf8 s.pend i))) := by rw [List.getElem?_map, q65 _ _ hin]; rfl
  have nz : ¬ (c.lps.length : Int) = 0 := by omega
  have lo1 := qt1 0 L
  have lo2 := qjr 0 (qe2 c.lps.length s.pend)
  have lo3 : qiu 0 ((qga (qf8 s.pend i)).map Evt.r) = true := qaa _ _
  have hlm : (L.map lpF).length = c.lps.length := by rw [List.length_map]; exact hLl
  have hi0 : (0 : Int) ≤ i := by omega
  by_cases hdd : (w.done.length : Int) ≥ 1000
  · generalize (qe2 c.lps.length s.pend).map qcp = BM at *
    generalize qga (qf8 s.pend i) = bi at *
    generalize L.map lpF = LM at *
    simp only [lpF] at hLm
    simp only [qcp] at hBm
    simp only [qcm, hH, hq, hS, hF, hHz, wl, wt, wlk, wl1, hqm, wq, n1000, nl, hmid, hi, nz, hlm, hLm, hBm, hP1, hP2, hP3, hdd, lo2, lo3, hi0, Int.toNat_natCast, qaa, qcb, qax, qae, qj, Ev.exec, qb, qe, qc, qaw, qai, Ev.evs, Ev.Opnd.ev, Ev.Env.get, Ev.Env.set, Ev.look, qk, qf, qv, Ev.AV.cells, qo, Ev.AV.plain, qao, qux, qbu, qi, qq, qaj, Ev.kill, qag, qg, qbb, qa2, qm, qh, qd, qx, List.length_map, ↓qn, ↓reduceIte, List.length_cons, List.length_nil, List.getElem?_cons_zero, List.getElem?_cons_succ, List.take_succ_cons, List.take_zero, zfe, List.drop_succ_cons, List.drop_zero, List.drop_nil, List.cons_append, List.nil_append, List.append_nil, List.set_cons_zero, List.set_cons_succ, List.head?_cons, Nat.reduceAdd, Nat.reduceEqDiff, reduceCtorEq, decide_true, zfc, Bool.not_true, zfa, and_self, ne_eq, zfb, zff, zfd, Nat.le_refl, eq_self]
  have hwu := hsp (by omega)
  have kl : ∀ {z : WSt} {O : List Evt} {S : Sim} {H : List Evt}, WInv c i z O S H → H.length ≤ 20000 → (z.box.length ≤ 1000000 ∧ z.sent.length ≤ 1000000 ∧ (∀ e ∈ z.box, e.key.length ≤ 9223372036854775807) ∧ ∀ e ∈ z.sent, e.key.length ≤ 9223372036854775807) := fun W hh => by
    have := W.len
    exact ⟨by omega, by omega, fun e he => by have := W.keyLen (e := e) (.inl he); omega, fun e he => by have := W.keyLen (e := e) (.inr (.inl he)); omega⟩
  obtain ⟨b1, b2, b3, b4⟩ := kl WI1 (by simp; omega)
  obtain ⟨v1, v2, v3, v4⟩ := kl WI2 (by simp; omega)
  obtain ⟨u1, u2, u3, u4⟩ := kl WI3 (by simp; omega)
  have hko : ∀ {S : Sim} {H : List Evt}, SInvK c S H → H.length ≤ 20000 → ∀ e ∈ H, e.key.length ≤ 9223372036854775807 := fun K hh e he => by
    have := (K.ev e (List.mem_append_left _ he)).key; omega
  have dk1 : ∀ e ∈ w.done, e.key.length ≤ 9223372036854775807 := fun e he => hko WI1.K (by simp; omega) e (by rw [hd1] at he; simp at he; simp [he])
  have hshort : w.lp.Short := by
    have := WI1.K.lp w.lp (List.mem_of_getElem? WI1.lp)
    exact ⟨by have := this.1; omega, fun q hq => by have := (this.2 q hq).2.2.2.2; simp at this; omega⟩
  have e1 : w.lp = u.lp := by rw [hwu]; rfl
  have e2 : w.box = u.box := by rw [hwu]; rfl
  have e3 : w.done = v.done ++ u.done := by rw [hwu]; rfl
  have e4 : w.sent = v.sent ++ u.sent := by rw [hwu]; rfl
  have e5 : w.over = (v.over || u.over) := by rw [hwu]; rfl
  have dl : w.done.length ≤ 2000 := by rw [hd1]; simpa using hel1
  have hLP := q5q w.lp w.lp xf xf hshort hshort
  have hE2 := qo3 w.box w.box false false (by omega) (by omega) b3 b3
  have hE3 := qo3 w.done w.done false false (by omega) (by omega) dk1 dk1
  have hE4 := qo3 w.sent w.sent false false (by omega) (by omega) b4 b4
  rw [decide_eq_true rfl] at hLP hE2 hE3 hE4
  have m3 : w.done.map Evt.r = v.done.map Evt.r ++ u.done.map Evt.r := by rw [e3, List.map_append]
  have m4 : w.sent.map Evt.r = v.sent.map Evt.r ++ u.sent.map Evt.r := by rw [e4, List.map_append]
  have l3 : w.done.length = v.done.length + u.done.length := by rw [e3, List.length_append]
  have l4 : w.sent.length = v.sent.length + u.sent.length := by rw [e4, List.length_append]
  have ok1 := qe1 v.done
  have ok2 := qe1 u.done
  have ok3 := qe1 v.sent
  have ok4 := qe1 u.sent
  have k1 : v.done.length * 64 ≤ 140737488355328 := by omega
  have k2 : (v.done.length + u.done.length) * 64 ≤ 140737488355328 := by omega
  have k3 : v.sent.length * 64 ≤ 140737488355328 := by omega
  have k4 : (v.sent.length + u.sent.length) * 64 ≤ 140737488355328 := by omega
  have t1 : List.take v.done.length (v.done.map Evt.r) = v.done.map Evt.r := List.take_of_length_le (by simp)
  have t2 : List.take (v.done.length + u.done.length) (v.done.map Evt.r ++ u.done.map Evt.r) = v.done.map Evt.r ++ u.done.map Evt.r := List.take_of_length_le (by simp)
  have t3 : List.take v.sent.length (v.sent.map Evt.r) = v.sent.map Evt.r := List.take_of_length_le (by simp)
  have t4 : List.take (v.sent.length + u.sent.length) (v.sent.map Evt.r ++ u.sent.map Evt.r) = v.sent.map Evt.r ++ u.sent.map Evt.r := List.take_of_length_le (by simp)
  have lo4 : qiu 0 (v.done.map Evt.r ++ u.done.map Evt.r) = true := by rw [← m3]; exact qaa _ _
  have lo5 : qiu 0 (v.sent.map Evt.r ++ u.sent.map Evt.r) = true := by rw [← m4]; exact qaa _ _
  have hle : ∀ n : Nat, n ≤ n := fun n => Nat.le_refl n
  rw [e1] at hLP
  rw [e2] at hE2
  rw [m3] at hE3
  rw [m4] at hE4
  rw [e1, e2, m3, m4, e5] at hP1
  rw [l3] at hdd
  clear hwu hsp WI1 WI2 WI3 W1 W0 hd1 hd2 hd3 hel1 hel2 hel3 hko kl F G hfl hfb fa hmem
  generalize (qe2 c.lps.length s.pend).map qcp = BM at *
  generalize qga (qf8 s.pend i) = bi at *
  generalize L.map lpF = LM at *
  simp only [lpF] at hLm
  simp only [qcp] at hBm
  have fin : ∀ (VD UD VS US : List (List AV)), VD.length = v.done.length → UD.length = u.done.length → VS.length = v.sent.length → US.length = u.sent.length → True := fun _ _ _ _ _ _ _ _ => trivial
  by_cases d0 : u.done = [] <;> by_cases s0 : u.sent = []
  · simp only [d0, s0, List.map_nil, List.append_nil, List.length_nil, Nat.add_zero] at *
    cases hvo : v.over <;> cases huo : u.over <;> simp only [hvo, huo] at hP1 hP2 hP3 <;> simp only [qcm, hH, hq, hS, hF, hHz, wl, wt, wlk, wl1, hqm, wq, n1000, nl, hmid, hi, nz, hlm, hLm, hBm, hP1, hP2, hP3, hdd, hLP, hE2, hE3, hE4, ok1, ok3, k1, k3, t1, t3, hle, lo2, lo3, lo4, lo5, hi0, Int.toNat_natCast, qaa, qcb, qax, qae, Bool.or_self, qj, Ev.exec, qb, qe, qc, qaw, qai, qm4, qx3, Ev.evs, Ev.Opnd.ev, Ev.Env.get, Ev.Env.set, Ev.Env.unset, Ev.look, qk, qf, qbq, qv, qfm, Ev.AV.cells, qo, Ev.AV.plain, qao, qux, qbu, qi, qq, qaj, Ev.kill, qag, qg, qbb, qa2, qm, qh, qd, qbc, qx, List.replicate_zero, List.length_map, ↓qn, ↓reduceIte, List.length_cons, List.length_nil, List.getElem?_cons_zero, List.getElem?_cons_succ, List.take_succ_cons, List.take_zero, zfe, List.drop_succ_cons, List.drop_zero, List.drop_nil, List.cons_append, List.nil_append, List.append_nil, List.set_cons_zero, List.set_cons_succ, List.head?_cons, Nat.reduceAdd, Nat.reduceEqDiff, Nat.reduceMul, Nat.reduceLT, Nat.reduceLeDiff, Nat.reducePow, reduceCtorEq, decide_false, zfc, Bool.or_true, Bool.or_false, Bool.not_true, zfa, Bool.true_eq_false, and_self, ne_eq, zfb, not_true_eq_false, zff, zfd, Nat.add_zero, eq_self, beq_self_eq_true, and_false]
    all_goals done
  · have s1 : ¬ u.sent.map Evt.r = [] := by simpa using s0
    simp only [d0, List.map_nil, List.append_nil, List.length_nil, Nat.add_zero] at *
    cases hvo : v.over <;> cases huo : u.over <;> simp only [hvo, huo] at hP1 hP2 hP3 <;> simp only [qcm, hH, hq, hS, hF, hHz, wl, wt, wlk, wl1, hqm, wq, n1000, nl, hmid, hi, nz, hlm, hLm, hBm, hP1, hP2, hP3, hdd, hLP, hE2, hE3, hE4, s1, ok1, ok3, ok4, k1, k3, k4, t1, t3, t4, hle, lo2, lo3, lo4, lo5, hi0, Int.toNat_natCast, qaa, qcb, qax, qae, Bool.or_self, qj, Ev.exec, qb, qe, qc, qaw, qai, qm4, qx3, Ev.evs, Ev.Opnd.ev, Ev.Env.get, Ev.Env.set, Ev.Env.unset, Ev.look, qk, qf, qbq, qv, qfm, Ev.AV.cells, qo, Ev.AV.plain, qao, qux, qbu, qi, qq, qaj, Ev.kill, qag, qg, qbb, qa2, qm, qh, qd, qbc, qx, List.replicate_zero, List.length_map, ↓qn, ↓reduceIte, List.length_cons, List.length_nil, List.length_append, List.getElem?_cons_zero, List.getElem?_cons_succ, List.take_succ_cons, List.take_zero, zfe, List.drop_succ_cons, List.drop_zero, List.drop_nil, List.cons_append, List.nil_append, List.append_nil, List.set_cons_zero, List.set_cons_succ, List.head?_cons, Nat.reduceAdd, Nat.reduceEqDiff, Nat.reduceMul, Nat.reduceLT, Nat.reduceLeDiff, Nat.reducePow, reduceCtorEq, decide_false, zfc, Bool.or_true, Bool.or_false, Bool.not_true, zfa, Bool.true_eq_false, and_self, ne_eq, zfb, not_true_eq_false, zff, zfd, Nat.add_zero, eq_self, beq_self_eq_true, and_false]
    all_goals done
  · have d1 : ¬ u.done.map Evt.r = [] := by simpa using d0
    simp only [s0, List.map_nil, List.append_nil, List.length_nil, Nat.add_zero] at *
    cases hvo : v.over <;> cases huo : u.over <;> simp only [hvo, huo] at hP1 hP2 hP3 <;> simp only [qcm, hH, hq, hS, hF, hHz, wl, wt, wlk, wl1, hqm, wq, n1000, nl, hmid, hi, nz, hlm, hLm, hBm, hP1, hP2, hP3, hdd, hLP, hE2, hE3, hE4, d1, ok1, ok2, ok3, k1, k2, k3, t1, t2, t3, hle, lo2, lo3, lo4, lo5, hi0, Int.toNat_natCast, qaa, qcb, qax, qae, Bool.or_self, qj, Ev.exec, qb, qe, qc, qaw, qai, qm4, qx3, Ev.evs, Ev.Opnd.ev, Ev.Env.get, Ev.Env.set, Ev.Env.unset, Ev.look, qk, qf, qbq, qv, qfm, Ev.AV.cells, qo, Ev.AV.plain, qao, qux, qbu, qi, qq, qaj, Ev.kill, qag, qg, qbb, qa2, qm, qh, qd, qbc, qx, List.replicate_zero, List.length_map, ↓qn, ↓reduceIte, List.length_cons, List.length_nil, List.length_append, List.getElem?_cons_zero, List.getElem?_cons_succ, List.take_succ_cons, List.take_zero, zfe, List.drop_succ_cons, List.drop_zero, List.drop_nil, List.cons_append, List.nil_append, List.append_nil, List.set_cons_zero, List.set_cons_succ, List.head?_cons, Nat.reduceAdd, Nat.reduceEqDiff, Nat.reduceMul, Nat.reduceLT, Nat.reduceLeDiff, Nat.reducePow, reduceCtorEq, decide_false, zfc, Bool.or_true, Bool.or_false, Bool.not_true, zfa, Bool.true_eq_false, and_self, ne_eq, zfb, not_true_eq_false, zff, zfd, Nat.add_zero, eq_self, beq_self_eq_true, and_false]
    all_goals done
  · have d1 : ¬ u.done.map Evt.r = [] := by simpa using d0
    have s1 : ¬ u.sent.map Evt.r = [] := by simpa using s0
    cases hvo : v.over <;> cases huo : u.over <;> simp only [hvo, huo] at hP1 hP2 hP3 <;> simp only [qcm, hH, hq, hS, hF, hHz, wl, wt, wlk, wl1, hqm, wq, n1000, nl, hmid, hi, nz, hlm, hLm, hBm, hP1, hP2, hP3, hdd, hLP, hE2, hE3, hE4, d1, s1, ok1, ok2, ok3, ok4, k1, k2, k3, k4, t1, t2, t3, t4, hle, lo2, lo3, lo4, lo5, hi0, Int.toNat_natCast, qaa, qcb, qax, qae, Bool.or_self, qj, Ev.exec, qb, qe, qc, qaw, qai, qm4, qx3, Ev.evs, Ev.Opnd.ev, Ev.Env.get, Ev.Env.set, Ev.Env.unset, Ev.look, qk, qf, qbq, qv, qfm, Ev.AV.cells, qo, Ev.AV.plain, qao, qux, qbu, qi, qq, qaj, Ev.kill, qag, qg, qbb, qa2, qm, qh, qd, qx, List.replicate_zero, List.length_map, ↓qn, ↓reduceIte, List.length_cons, List.length_nil, List.length_append, List.getElem?_cons_zero, List.getElem?_cons_succ, List.take_succ_cons, List.take_zero, zfe, List.drop_succ_cons, List.drop_zero, List.drop_nil, List.cons_append, List.nil_append, List.append_nil, List.set_cons_zero, List.set_cons_succ, List.head?_cons, Nat.reduceAdd, Nat.reduceEqDiff, Nat.reduceMul, Nat.reduceLT, Nat.reduceLeDiff, Nat.reducePow, reduceCtorEq, decide_false, zfc, Bool.or_true, Bool.or_false, Bool.not_true, zfa, Bool.true_eq_false, and_self, ne_eq, zfb, not_true_eq_false, zff, zfd, eq_self, beq_self_eq_true, and_false]
    all_goals done
end Go.Proofs.Ytbhhifdhlafklaa.K
namespace Go.Ev
def Ctx.nil : Ctx := { n := 0, loc := fun _ => ⟨0, 0, 0, 0⟩, own := fun _ => False, far := fun _ => False }
theorem SR.nil (P : Program) (w : World) : SR P Ctx.nil [] w where
  len := rfl
  obj o ob h := by simp at h
  blk o h := absurd h (Nat.not_lt_zero _)
  inj o o' h := absurd h (Nat.not_lt_zero _)
  ownlt b h := h.elim
  farlt b h := h.elim
  sep b h := h.elim
section
variable (P : Program) {H : Type} (enc : TypeId × Value → H)
def qjx (t : TypeId) {τ : Type} (c : τ → List AV) (ok : τ → Prop) : Prop :=
  ∀ (w : World) (fuel : Nat) (cs : List Value) (d : DataW H) (ps : List MemPlace), DataW.trod enc P w 0 (fun _ => true) true fuel t cs = some (d, ps) → ∃ x : τ, ok x ∧ VRs Ctx.nil w (c x) cs
variable {P enc}
theorem VRs.one {Γ : Ctx} {w : World} {a : AV} {v : Value} (h : VR Γ w a v) : VRs Γ w [a] [v] := by
  simp only [VRs]; exact ⟨v, [], rfl, h, rfl⟩
theorem qts {t : TypeId} {k : IntKind} (hu : P.underlying t = some (.int k)) : qjx P enc t (fun n : Int => [.v (.int k n)]) (fun n => (Lit.int k n).wf = true) := by
  intro w fuel cs d ps h
  cases fuel with
  | zero => simp [DataW.trod] at h
  | succ fuel =>
    unfold DataW.trod at h
    rw [hu] at h
    split at h <;> rename_i heq <;> first | (cases heq; done) | (cases h; done) | skip
    cases heq
    split at h
    · rename_i hk
      obtain ⟨rfl, hwf⟩ := hk
      exact ⟨_, hwf, VRs.one (by simp only [VR])⟩
    · cases h
variable (P enc) in
def qtc (off : Nat) (fs : List Field) {τ : Type} (c : τ → List AV) (ok : τ → Prop) (tot : Nat) : Prop :=
  ∀ (w : World) (fuel : Nat) (cs : List Value), (∀ (i : Nat) (f : Field), fs[i]? = some f → ∃ x, DataW.trod enc P w 0 (fun _ => true) true fuel f.type ((cs.drop f.offset).take (P.cellsOf f.type)) = some x) →
    ∃ x : τ, ok x ∧ VRs Ctx.nil w (c x) ((cs.drop off).take tot)
theorem qqb (off : Nat) : qtc P enc off [] (fun _ : Unit => []) (fun _ => True) 0 := fun w fuel cs _ => ⟨(), trivial, by simp [VRs]⟩
theorem qei {off : Nat} {f : Field} {fs : List Field} {α β : Type} {c1 : α → List AV} {ok1 : α → Prop} {c2 : β → List AV} {ok2 : β → Prop} {tot : Nat} {sz : Nat} (ho : f.offset = off) (hs : P.cellsOf f.type = sz)
    (h1 : qjx P enc f.type c1 ok1) (h2 : qtc P enc (off + sz) fs c2 ok2 tot) : qtc P enc off (f :: fs) (fun x : α × β => c1 x.1 ++ c2 x.2) (fun x => ok1 x.1 ∧ ok2 x.2) (sz + tot) := by
  intro w fuel cs h
  obtain ⟨⟨d, ps⟩, h3⟩ := h 0 f rfl
  obtain ⟨x, k1, k2⟩ := h1 w fuel _ d ps h3
  obtain ⟨y, k3, k4⟩ := h2 w fuel cs fun i g hg => h (i + 1) g (by simpa using hg)
  refine ⟨(x, y), ⟨k1, k3⟩, ?_⟩
  rw [List.take_add, List.drop_drop]
  rw [ho, hs] at k2
  exact k2.append k4
theorem q0i {t : TypeId} {fs : Array Field} {τ : Type} {c : τ → List AV} {ok : τ → Prop} (hu : P.underlying t = some (.struct fs)) (h : qtc P enc 0 fs.toList c ok (P.cellsOf t)) : qjx P enc t c ok := by
  intro w fuel cs d ps ht
  obtain ⟨xs, n, rfl, _, hl, hx, hall⟩ := DataW.trod_struct hu ht
  obtain ⟨x, k1, k2⟩ := h w n cs fun i f hf => by
    have hf' : fs[i]? = some f := by simpa using hf
    have := hall i f hf'
    have hlt : i < xs.length := by rw [hx]; exact (Array.getElem?_eq_some_iff.1 hf').1
    exact ⟨xs[i], by rw [this, List.getElem?_eq_getElem hlt]⟩
  refine ⟨x, k1, ?_⟩
  rw [List.drop_zero, ← hl, List.take_length] at k2
  exact k2
theorem qnu {t : TypeId} {fs : Array Field} {τ : Type} {c : τ → List AV} {ok : τ → Prop} {n : Nat} (hu : P.underlying t = some (.struct fs)) (h : qtc P enc 0 fs.toList c ok n) (hn : P.cellsOf t = n) : qjx P enc t c ok := q0i hu (by rw [hn]; exact h)
theorem qjx.map {t : TypeId} {α β : Type} {c : α → List AV} {ok : α → Prop} {c' : β → List AV} {ok' : β → Prop} (g : α → β) (h : qjx P enc t c ok) (hc : ∀ x, c' (g x) = c x) (ho : ∀ x, ok x → ok' (g x)) : qjx P enc t c' ok' := by
  intro w fuel cs d ps ht
  obtain ⟨x, h1, h2⟩ := h w fuel cs d ps ht
  exact ⟨g x, ho x h1, by rw [hc]; exact h2⟩
theorem qxd {τ : Type} {Q : Nat → τ → Prop} : ∀ (n : Nat), (∀ i, i < n → ∃ x, Q i x) → ∃ xs : List τ, xs.length = n ∧ ∀ (i : Nat) (x : τ), xs[i]? = some x → Q i x
  | 0, _ => ⟨[], rfl, by simp⟩
  | n + 1, h => by
    obtain ⟨xs, h1, h2⟩ := qxd n fun i hi => h i (by omega)
    obtain ⟨x, hx⟩ := h n (by omega)
    refine ⟨xs ++ [x], by simp [h1], fun i y hy => ?_⟩
    rw [List.getElem?_append] at hy
    split at hy
    · exact h2 i y hy
    · rename_i hi
      have hlt : i - xs.length < 1 := by
        have := (List.getElem?_eq_some_iff.1 hy).1
        simpa using this
      have : i = n := by omega
      subst this
      rw [h1, Nat.sub_self] at hy
      simp at hy; subst hy; exact hx
theorem q2g {Γ : Ctx} {w : World} {sz : Nat} {τ : Type} {c : τ → List AV} : ∀ (xs : List τ) (get : Nat → Option Value), (∀ (i : Nat) (x : τ), xs[i]? = some x → qab Γ w (c x) (fun j => get (j + i * sz))) → qe8 Γ w sz (xs.map c) get
  | [], _, _ => by simp [qe8]
  | x :: xs, get, h => by
    simp only [List.map_cons, qe8]
    refine ⟨by simpa using h 0 x (by simp), q2g xs _ fun i y hy => ?_⟩
    refine (h (i + 1) y (by simpa using hy)).congr fun j => ?_
    congr 1
    rw [Nat.add_mul]; omega
theorem qnc {t e : TypeId} {sz : Nat} {τ : Type} {c : τ → List AV} {ok : τ → Prop} (hu : P.underlying t = some (.slice e)) (hs : P.cellsOf e = sz) (h0 : 0 < sz) (hc : ∀ x, (c x).length = sz) (h : qjx P enc e c ok) :
    qjx P enc t (fun xs : List τ => [.fsl (xs.map c) false]) (fun xs => (∀ x ∈ xs, ok x) ∧ xs.length ≤ maxLen) := by
  intro w fuel cs d ps ht
  rcases DataW.trod_slice hu ht with ⟨rfl, _⟩ | ⟨a, len, cap, elems, rest, n, rfl, rfl, _, _, hle, hcap, hel, hall, _⟩
  · refine ⟨[], by simp, VRs.one ?_⟩
    simp only [VR]
    exact ⟨none, 0, rfl, by simp, fun h => (by cases h), .inl rfl⟩
  · have hex : ∀ i, i < len → ∃ x : τ, ok x ∧ ∃ vs, w.cells? 0 (a.add (i * sz)) sz = some vs ∧ VRs Ctx.nil w (c x) vs := by
      intro i hi
      have hb := hall i hi
      rw [List.getElem?_eq_getElem (by omega), Option.bind_eq_some_iff] at hb
      obtain ⟨vs, k1, k2⟩ := hb
      obtain ⟨x, k3, k4⟩ := h w n vs _ _ k2
      rw [hs] at k1
      exact ⟨x, k3, vs, k1, k4⟩
    obtain ⟨xs, h4, h5⟩ := qxd (Q := fun i x => ok x ∧ ∃ vs, w.cells? 0 (a.add (i * sz)) sz = some vs ∧ VRs Ctx.nil w (c x) vs) len hex
    refine ⟨xs, ⟨fun x hx => ?_, by omega⟩, VRs.one ?_⟩
    · obtain ⟨i, hi, rfl⟩ := List.mem_iff_getElem.1 hx
      exact (h5 i _ (by simp [hi])).1
    · simp only [VR]
      refine ⟨some a, cap, by simp [h4], by simp [h4]; omega, fun h => (by cases h), ?_⟩
      by_cases hx0 : xs = []
      · left; simp [hx0]
      · right
        have hlen0 : 0 < xs.length := List.length_pos_iff.2 hx0
        have hcell : ∀ (i : Nat) (x : τ), xs[i]? = some x → ∀ j, j < sz → ∃ v, w.cell? ((a.add (i * sz)).add j) = some v := by
          intro i x hx j hj
          obtain ⟨_, vs, k1, k2⟩ := h5 i x hx
          obtain ⟨_, k3, k4⟩ := World.cells?_some k1
          exact ⟨vs[j]'(by omega), by rw [k4 j hj, List.getElem?_eq_getElem (by omega)]⟩
        obtain ⟨v0, hv0⟩ := hcell 0 xs[0] (by simp [hlen0]) 0 h0
        obtain ⟨b, off, spot⟩ := a
        have hspot : spot = none := by simpa [Addr.add] using World.cell?_spot hv0
        subst hspot
        have hblt : b < w.heap.size := by
          rw [Addr.add_lit, Addr.add_lit] at hv0
          unfold World.cell? at hv0
          cases hh : w.heap[b]? with
          | none => rw [hh] at hv0; simp at hv0
          | some o => exact (Array.getElem?_eq_some_iff.1 hh).1
        refine ⟨b, off, sz, rfl, ⟨hblt, id, id⟩, h0, ?_, ?_⟩
        · intro e he
          obtain ⟨x, _, rfl⟩ := List.mem_map.1 he
          exact hc x
        · refine q2g xs _ fun i x hx => ?_
          obtain ⟨_, vs, k1, k2⟩ := h5 i x hx
          obtain ⟨_, k3, k4⟩ := World.cells?_some k1
          refine qab.of_list k2 fun j v hj => ?_
          have hjl := (List.getElem?_eq_some_iff.1 hj).1
          have := k4 j (by omega)
          rw [hj, Addr.add_lit, Addr.add_lit] at this
          rw [← this]
          congr 2
          omega
end
end Go.Ev
namespace Go.Ev
open Go.RowKit (Below)
open Go.ChangeShapes Go.WideShapes Go.ChangeAt Go.RowKit
variable {H : Type} {enc : TypeId × Value → H} {P : Program}
theorem Ext.below {w w' : World} {Γ' : Ctx} (x : Ext Ctx.nil Γ' w w') : Below w.heap.size w w' := ⟨x.os, x.tape, x.output, x.size, fun k hk => x.same k hk id⟩
theorem qtj (hl : laidOutB P = true) {w w' : World} (hb : Below w.heap.size w w') {sp : Nat → Bool} : ∀ {ts : List TypeId} {vs : List Value} {ds : List (DataW H)} {ps : List MemPlace},
    (∀ t ∈ ts, P.readableRec t = true ∧ t < P.types.size) → DataW.TrodAll enc P w 0 (fun _ => true) true ts vs ds ps → (∀ p ∈ ps, p.block < w.heap.size) → (∀ p ∈ ps, sp p.block = true) → DataW.TrodAll enc P w' 0 sp true ts vs ds ps
  | [], [], [], ps, _, h, _, _ => h
  | t :: ts, v :: vs, d :: ds, ps, ht, ⟨p, q, h1, h2, e⟩, hlt, hs => by
    subst e
    obtain ⟨r1, r2⟩ := ht t (by simp)
    exact ⟨p, q, WideElems.Trod_stays hl r1 r2 h1 (fun x hx => hb.same (hlt x (List.mem_append_left _ hx))) (fun x hx => hs x (List.mem_append_left _ hx)),
      qtj hl hb (fun u hu => ht u (by simp [hu])) h2 (fun x hx => hlt x (List.mem_append_right _ hx)) (fun x hx => hs x (List.mem_append_right _ hx)), rfl⟩
  | [], _ :: _, _, _, _, h, _, _ => h.elim
  | [], [], _ :: _, _, _, h, _, _ => h.elim
  | _ :: _, [], _, _, _, h, _, _ => h.elim
  | _ :: _, _ :: _, [], _, _, h, _, _ => h.elim
theorem frz_bool {σ : qr} {d : Nat} {a : AV} {b : Bool} : frz σ (d + 1) a = some (.v (.bool b)) → a = .v (.bool b) := by
  intro h
  simp only [frz] at h
  split at h
  · cases h; rfl
  · cases a with
    | v x => cases h; rfl
    | sl o g off len c =>
      simp only at h
      split at h
      · split at h
        · rw [Option.bind_eq_some_iff] at h; obtain ⟨_, _, h⟩ := h; cases h
        · cases h
      · cases h
    | ptr o g i off =>
      simp only at h
      split at h
      · split at h
        · rw [Option.bind_eq_some_iff] at h; obtain ⟨_, _, h⟩ := h
          rw [Option.bind_eq_some_iff] at h; obtain ⟨_, _, h⟩ := h; cases h
        · cases h
      · cases h
    | agg cs => simp only [Option.bind_eq_some_iff] at h; obtain ⟨_, _, h⟩ := h; cases h
    | tup cs => simp only [Option.bind_eq_some_iff] at h; obtain ⟨_, _, h⟩ := h; cases h
    | fsl es c => simp only [Option.bind_eq_some_iff] at h; obtain ⟨_, _, h⟩ := h; cases h
    | fptr cs => simp only [Option.bind_eq_some_iff] at h; obtain ⟨_, _, h⟩ := h; cases h
    | fn f a b => simp only [Option.bind_eq_some_iff] at h; obtain ⟨_, _, _, _, h⟩ := h; cases h
    | yld o => cases h
    | mp o => cases h
theorem q42 {T : Tab} (hT : TabOk P T) {f : Nat} {cf : CFunc} (hc : T.code f = some cf) {as_ : List AV} {b : Bool} (h : qa4 (evL T) f as_ = some (.v (.bool b))) {W : World} {args : Array Value} (hv : VRs Ctx.nil W as_ args.toList) :
    Calls P f args W fun e W' => e = .returned (.bool b) ∧ Below W.heap.size W W' := by
  unfold qa4 at h
  rw [Option.bind_eq_some_iff] at h
  obtain ⟨⟨r, σ⟩, h1, h2⟩ := h
  obtain rfl := frz_bool (d := 5) h2
  have hn := evL_ok hT f as_ [] _ σ h1 Ctx.nil W args.toList (SR.nil P W) hv
  rw [Array.toArray_toList, hT.enter hc] at hn
  refine (callsIn_wide.1 hn).mono fun e W' he => ?_
  cases e with
  | returned v =>
    obtain ⟨Γ', k1, _, k3⟩ := he
    simp only [VR] at k1
    exact ⟨by rw [k1], k3.below⟩
  | panicked _ => exact he.elim
  | outgrown => exact he.elim
theorem q1u {f : Func} {s : ChangeSpec} {apart fresh handsOn again : Bool} {W W' : World} {args : Array Value} {ds gs : List (DataW H)} {before : List MemPlace} {tb : TypeId}
    (hvars : s.vars = []) (hspec : s.fn H (ds ++ gs) = { results := [.lit (.bool true)], args := ds }) (hr : f.resultTypes = #[tb]) (htb : P.underlying tb = some .bool) (hl : laidOutB P = true)
    (hts : ∀ t ∈ f.params.toList, P.readableRec t = true ∧ t < P.types.size)
    (hW : DataW.Whole enc P f.params.toList s.vars apart W args.toList ds gs before) (hb : Below W.heap.size W W') : s.post enc P f apart fresh handsOn again W args (.bool true) W' := by
  have hlt := hW.lt
  have hW' := hW
  obtain ⟨p, q, hA, hV, rfl, hz, hnd⟩ := hW
  rw [hvars] at hV
  obtain ⟨rfl, rfl⟩ := trodVars_none hV
  have hargs : ∀ sp : Nat → Bool, (∀ x ∈ p, sp x.block = true) → DataW.TrodAll enc P W' 0 sp true f.params.toList args.toList ds p := fun sp hs => qtj hl hb hts hA (fun x hx => hlt x (by simp [hx])) hs
  have hres : ∀ (bb : Nat) (sp : Nat → Bool) (hd : Bool), DataW.TrodAll enc P W' bb sp hd f.resultTypes.toList ((Value.bool true).resultList f.resultTypes.size) [.lit (.bool true)] [] := fun bb sp hd => by
    rw [hr]
    exact trodAll_mk1 (shut_bool htb true)
  refine ⟨ds, [], p ++ [], [], p, [], hW', ?_, ?_, ?_, hb.frame _, fun _ => ⟨?_, ?_⟩⟩
  · rw [hspec]; exact hres _ _ _
  · rw [hspec]; exact hargs _ fun x hx => by simpa using hlt x (by simp [hx])
  · rw [hspec, hvars]; rfl
  · exact ok_one hr rfl (okWide_bool_mk htb true)
  · refine ⟨[.lit (.bool true)] ++ ds, [], ([] ++ p) ++ [], ⟨[] ++ p, [], trodAll_append (hargs _ (fun _ _ => rfl)) (hres _ _ _), by rw [hvars]; rfl, rfl, ?_, ?_⟩, ?_⟩
    · intro b off hp
      have hp' : MemPlace.cell b off ∈ p := by simpa using hp
      have hblt : b < W.heap.size := hlt (.cell b off) (by simp [hp'])
      rw [hb.frozen (p := ⟨b, off, none⟩) hblt]
      exact hz b off (by simp [hp'])
    · intro ha
      simpa using hnd ha
    · intro x hx _
      simpa using hx
end Go.Ev
namespace Go.Ev
open Go.RowKit (Below)
open Go.ChangeShapes Go.WideShapes Go.ChangeAt Go.RowKit
section
variable {H : Type} (P : Program) (enc : TypeId × Value → H)
def qz5 (ts : List TypeId) {τ : Type} (c : τ → List AV) (ok : τ → Prop) : Prop :=
  ∀ (W : World) (args : List Value) (ds : List (DataW H)) (p : List MemPlace), DataW.TrodAll enc P W 0 (fun _ => true) true ts args ds p →
    (∀ (j : Nat) t v, ts[j]? = some t → args[j]? = some v → ∃ base, Value.okWide P W .any base t v) → ∃ x : τ, ok x ∧ VRs Ctx.nil W (c x) args ∧ ds.length = ts.length
variable {P enc}
def q6m : TypeDesc → Bool
  | .struct _ => false
  | .array _ _ => false
  | _ => true
theorem q1i {w : World} {r : Reach} {base : Nat} {t : TypeId} {v : Value} {u : TypeDesc} (hu : P.underlying t = some u) (hp : q6m u = true) (h : Value.okWide P w r base t v) : ∀ cs, v ≠ .agg cs := by
  rintro cs rfl
  unfold Value.okWide at h
  rw [hu] at h
  cases u <;> simp only [q6m, Bool.false_eq_true] at hp <;> simp only [Cell.okWide, Cell.ok, hu] at h
theorem q6b : qz5 P enc [] (fun _ : Unit => []) (fun _ => True) := by
  intro W args ds p h _
  obtain ⟨rfl, rfl, rfl⟩ := trodAll_nil h
  exact ⟨(), trivial, by simp [VRs], rfl⟩
theorem qrz {t : TypeId} {ts : List TypeId} {u : TypeDesc} {α β : Type} {a : α → AV} {ok1 : α → Prop} {c2 : β → List AV} {ok2 : β → Prop} (hu : P.underlying t = some u) (hp : q6m u = true)
    (h1 : qjx P enc t (fun x => [a x]) ok1) (h2 : qz5 P enc ts c2 ok2) : qz5 P enc (t :: ts) (fun x : α × β => a x.1 :: c2 x.2) (fun x => ok1 x.1 ∧ ok2 x.2) := by
  intro W args ds p h hval
  obtain ⟨v, vs, d, ds', p, q, rfl, rfl, rfl, ht, hr⟩ := trodAll_cons h
  obtain ⟨y, k1, k2, k3⟩ := h2 W vs ds' q hr fun j t v e1 e2 => hval (j + 1) t v (by simpa using e1) (by simpa using e2)
  obtain ⟨fuel, hf⟩ := ht
  obtain ⟨x, m1, m2⟩ := h1 W fuel _ d p hf
  obtain ⟨base, hv⟩ := hval 0 t v rfl rfl
  have hna := q1i hu hp hv
  have hc : v.cells.toList = [v] := by
    cases v with
    | agg cs => exact absurd rfl (hna cs)
    | _ => rfl
  rw [hc] at m2
  simp only [VRs] at m2
  obtain ⟨v', r, e, m3, rfl⟩ := m2
  cases e
  refine ⟨(x, y), ⟨m1, k1⟩, ?_, by simp [k3]⟩
  simp only [VRs]
  exact ⟨v, vs, rfl, m3, k2⟩
theorem q0t {t : TypeId} {ts : List TypeId} {fs : Array Field} {α β : Type} {c1 : α → List AV} {ok1 : α → Prop} {c2 : β → List AV} {ok2 : β → Prop} (hu : P.underlying t = some (.struct fs))
    (h1 : qjx P enc t c1 ok1) (h2 : qz5 P enc ts c2 ok2) : qz5 P enc (t :: ts) (fun x : α × β => .agg (c1 x.1) :: c2 x.2) (fun x => ok1 x.1 ∧ ok2 x.2) := by
  intro W args ds p h hval
  obtain ⟨v, vs, d, ds', p, q, rfl, rfl, rfl, ht, hr⟩ := trodAll_cons h
  obtain ⟨y, k1, k2, k3⟩ := h2 W vs ds' q hr fun j t v e1 e2 => hval (j + 1) t v (by simpa using e1) (by simpa using e2)
  obtain ⟨fuel, hf⟩ := ht
  obtain ⟨x, m1, m2⟩ := h1 W fuel _ d p hf
  obtain ⟨base, hv⟩ := hval 0 t v rfl rfl
  obtain ⟨cs, rfl, _⟩ := okWide_struct hu hv
  refine ⟨(x, y), ⟨m1, k1⟩, ?_, by simp [k3]⟩
  simp only [VRs]
  refine ⟨_, vs, rfl, ?_, k2⟩
  simp only [VR]
  exact ⟨cs.toList, by simp, by simpa [Value.cells] using m2⟩
end
theorem q2s {H : Type} {enc : TypeId × Value → H} {P : Program} {T : Tab} (hT : TabOk P T) {f : Nat} {fn : Func} {cf : CFunc} (hc : T.code f = some cf) {s : ChangeSpec} {apart : Bool} {ts : List TypeId} {tb : TypeId} {τ : Type} {c : τ → List AV} {ok : τ → Prop}
    (hpar : fn.params.toList = ts) (hargs : qz5 P enc ts c ok) (hlaw : ∀ x, ok x → qa4 (evL T) f (c x) = some (.v (.bool true)))
    (hvars : s.vars = []) (hspec : ∀ ds : List (DataW H), ds.length = ts.length → s.fn H ds = { results := [.lit (.bool true)], args := ds })
    (hr : fn.resultTypes = #[tb]) (htb : P.underlying tb = some .bool) (hl : laidOutB P = true) (hts : ∀ t ∈ ts, P.readableRec t = true ∧ t < P.types.size)
    (W : World) (base : Nat) (args : Array Value) (ds gs : List (DataW H)) (before : List MemPlace) (hval : ∀ (j : Nat) t v, fn.params[j]? = some t → args[j]? = some v → Value.okWide P W .any base t v)
    (hW : DataW.Whole enc P fn.params.toList s.vars apart W args.toList ds gs before) : Calls P f args W fun e W' => ∃ v, e = .returned v ∧ s.post enc P fn apart true false false W args v W' := by
  have hW' := hW
  obtain ⟨p, q, hA, hV, rfl, hz, hnd⟩ := hW
  rw [hvars] at hV
  obtain ⟨rfl, rfl⟩ := trodVars_none hV
  obtain ⟨x, h1, h2, h3⟩ := hargs W args.toList ds p (hpar ▸ hA) fun j t v e1 e2 => ⟨base, hval j t v (by rw [← hpar] at e1; simpa using e1) (by simpa using e2)⟩
  refine (q42 hT hc (hlaw x h1) h2).mono fun e W' ⟨he, hb⟩ => ⟨_, he, ?_⟩
  exact q1u hvars (by rw [List.append_nil]; exact hspec ds h3) hr htb hl (by rw [hpar]; exact hts) hW' hb
end Go.Ev
namespace Go.Proofs.Ytbhhifdhlafklaa.K
open Go.Ev
open Go.ChangeShapes Go.WideShapes Go.ChangeAt Go.RowKit
section
variable {H : Type} {enc : TypeId × Value → H}
theorem wf_u8 {n : Int} (h : (Lit.int .u8 n).wf = true) : 0 ≤ n ∧ n ≤ 255 := by
  simp [Lit.wf] at h
  have h1 : IntKind.u8.min = 0 := rfl
  have h2 : IntKind.u8.max = 255 := rfl
  omega
theorem wf_u16 {n : Int} (h : (Lit.int .u16 n).wf = true) : 0 ≤ n ∧ n ≤ 65535 := by
  simp [Lit.wf] at h
  have h1 : IntKind.u16.min = 0 := rfl
  have h2 : IntKind.u16.max = 65535 := rfl
  omega
theorem wf_i64 {n : Int} (h : (Lit.int .i64 n).wf = true) : -9223372036854775808 ≤ n ∧ n ≤ 9223372036854775807 := by
  simp [Lit.wf] at h
  have h1 : IntKind.i64.min = -9223372036854775808 := rfl
  have h2 : IntKind.i64.max = 9223372036854775807 := rfl
  omega
theorem qll : qjx Try.prog enc 3 (fun n : Int => [(ii n)]) (fun n => -9223372036854775808 ≤ n ∧ n ≤ 9223372036854775807) := (qts Try.underlying3).map id (fun _ => rfl) (fun _ h => wf_i64 h)
theorem q74 : qjx Try.prog enc 5 (fun n : Int => [(.v (.int .u8 n))]) (fun n => 0 ≤ n ∧ n ≤ 255) := (qts Try.underlying5).map id (fun _ => rfl) (fun _ h => wf_u8 h)
theorem data_u16 : qjx Try.prog enc 50 (fun n : Int => [(.v (.int .u16 n))]) (fun n => 0 ≤ n ∧ n ≤ 65535) := (qts Try.underlying50).map id (fun _ => rfl) (fun _ h => wf_u16 h)
theorem data_op : qjx Try.prog enc 81 OpI.r (fun _ => True) := by
  have h := qnu (P := Try.prog) (enc := enc) (t := 81) Try.underlying81 (qei (sz := 1) rfl (by kernel_rfl) qll (qei (sz := 1) rfl (by kernel_rfl) qll (qei (sz := 1) rfl (by kernel_rfl) qll (qei (sz := 1) rfl (by kernel_rfl) qll (qqb _))))) (by kernel_rfl)
  exact h.map (fun x => (⟨x.1, x.2.1, x.2.2.1, x.2.2.2.1⟩ : OpI)) (fun _ => rfl) (fun _ _ => trivial)
theorem q6i : qjx Try.prog enc 82 (fun l : List OpI => [(.fsl ((l).map OpI.r) false)]) (fun l => (∀ x ∈ l, True) ∧ l.length ≤ maxLen) := qnc (sz := 4) Try.underlying82 (by kernel_rfl) (by decide) (fun _ => rfl) data_op
theorem q5t : qjx Try.prog enc 23 (fun l : List (List OpI) => [(.fsl ((l).map qce) false)]) (fun l => (∀ x ∈ l, (∀ y ∈ x, True) ∧ x.length ≤ maxLen) ∧ l.length ≤ maxLen) := qnc (sz := 1) Try.underlying23 (by kernel_rfl) (by decide) (fun _ => rfl) q6i
theorem q5h : qjx Try.prog enc 78 Start.r (fun _ => True) := by
  have h := qnu (P := Try.prog) (enc := enc) (t := 78) Try.underlying78 (qei (sz := 1) rfl (by kernel_rfl) qll (qei (sz := 1) rfl (by kernel_rfl) qll (qqb _))) (by kernel_rfl)
  exact h.map (fun x => (⟨x.1, x.2.1⟩ : Start)) (fun _ => rfl) (fun _ _ => trivial)
theorem q3l : qjx Try.prog enc 79 (fun l : List Start => [(.fsl ((l).map Start.r) false)]) (fun l => (∀ x ∈ l, True) ∧ l.length ≤ maxLen) := qnc (sz := 2) Try.underlying79 (by kernel_rfl) (by decide) (fun _ => rfl) q5h
theorem data_lps : qjx Try.prog enc 22 (fun l : List (List Start) => [(.fsl ((l).map lpC) false)]) (fun l => (∀ x ∈ l, (∀ y ∈ x, True) ∧ x.length ≤ maxLen) ∧ l.length ≤ maxLen) := qnc (sz := 1) Try.underlying22 (by kernel_rfl) (by decide) (fun _ => rfl) q3l
theorem data_cfg : qjx Try.prog enc 25 (fun c : Cfg => [(.fsl ((c.lps).map lpC) false), (.fsl ((c.progs).map qce) false), (ii c.look), (ii c.fin), (ii c.cap)]) (fun c => -9223372036854775808 ≤ c.look ∧ c.look ≤ 9223372036854775807) := by
  have h := qnu (P := Try.prog) (enc := enc) (t := 25) Try.underlying25 (qei (sz := 1) rfl (by kernel_rfl) data_lps (qei (sz := 1) rfl (by kernel_rfl) q5t (qei (sz := 1) rfl (by kernel_rfl) qll (qei (sz := 1) rfl (by kernel_rfl) qll (qei (sz := 1) rfl (by kernel_rfl) qll (qqb _)))))) (by kernel_rfl)
  exact h.map (fun x => (⟨x.1, x.2.1, x.2.2.1, x.2.2.2.1, x.2.2.2.2.1⟩ : Cfg)) (fun _ => rfl) (fun _ h => h.2.2.1)
end
theorem own : ownKnob Try.prog.godebug = none := by kernel_rfl
theorem laid : laidOutB Try.prog = true := by kernel_rfl
end Go.Proofs.Ytbhhifdhlafklaa.K
