/- For every input the statement of this claim returns true: texts of its proof, joined (part 9). -/
import Derived.Test.YtbhhifdhlafklaaGWT06
import Derived.Test.YtbhhifdhlafklaaGWT07
set_option linter.unusedSectionVars false
set_option linter.unusedSimpArgs false
set_option linter.unusedVariables false
namespace Go.Proofs.Ytbhhifdhlafklaa.K
open Go.Ev
set_option maxRecDepth 10000
section
variable (c : Cfg) (x : Lp) (e : Evt)
theorem q7r (hk : e.kind = 3) : qa3 (evL T) qeu [(.agg [(.fsl ((c.lps).map lpC) false), (.fsl ((c.progs).map qcf) false), (ii c.look), (ii c.fin), (ii c.cap)]), (.agg [(ii x.r0), (ii x.r1), (.fsl ((x.procs).map Pr.r) false), (ii x.sum)]), (.agg [(ii e.time), (.fsl ((e.key).map qby) false), (ii e.lp), (ii e.kind), (ii e.proc), (ii e.arg)])] = some (.tup [(.agg [(ii ((⟨x.r0, x.r1, x.procs, w64 (x.sum + e.arg)⟩ : Lp).r0)), (ii ((⟨x.r0, x.r1, x.procs, w64 (x.sum + e.arg)⟩ : Lp).r1)), (.fsl (((⟨x.r0, x.r1, x.procs, w64 (x.sum + e.arg)⟩ : Lp).procs).map Pr.r) false), (ii ((⟨x.r0, x.r1, x.procs, w64 (x.sum + e.arg)⟩ : Lp).sum))]), .fsl [] true, .fsl [] true, (bb false)]) := by
 rw [qa3, qad qk1 qkn]
 simp only [qb1, hk, qae, Nat.reduceLeDiff, qj, Ev.exec, qb, qe, qc, qai, Ev.Opnd.ev, Ev.Env.get, Ev.Env.set, Ev.look, qk, qf, qv, qfz, Ev.AV.cells, Ev.AV.uc, qo, Ev.AV.plain, qao, qar, qi, qq, qaj, Ev.kill, qag, qg, qba, qa2, qb0, qm, qh, qd, qu, qx, ↓qn, ↓reduceIte, zga, zgb, zgd, zge, zgc, zgo, zfe, zgf, zgg, List.drop_nil, zgm, zgl, zgn, zgj, zgk, zgh, Nat.reduceAdd, Nat.reduceEqDiff, Nat.reduceLeDiff, reduceCtorEq, zgv, zfc, zfa, zgx, ne_eq, zfb, zff, zfd, Nat.add_zero, Nat.le_refl, zgy]
theorem q58 (hk : ¬ e.kind = 3) (ha : qlc x e = none) : qa3 (evL T) qeu [(.agg [(.fsl ((c.lps).map lpC) false), (.fsl ((c.progs).map qcf) false), (ii c.look), (ii c.fin), (ii c.cap)]), (.agg [(ii x.r0), (ii x.r1), (.fsl ((x.procs).map Pr.r) false), (ii x.sum)]), (.agg [(ii e.time), (.fsl ((e.key).map qby) false), (ii e.lp), (ii e.kind), (ii e.proc), (ii e.arg)])] = some (.tup [(.agg [(ii x.r0), (ii x.r1), (.fsl ((x.procs).map Pr.r) false), (ii x.sum)]), .fsl [] true, .fsl [] true, (bb false)]) := by
 rw [qa3, qad qk1 qkn]
 by_cases k1 : e.kind = 1
 case neg =>
  by_cases k2 : e.kind = 2
  case neg => simp only [qb1, hk, k1, k2, qae, Nat.reduceLeDiff, qj, Ev.exec, qb, qe, qc, qai, Ev.Opnd.ev, Ev.Env.get, Ev.Env.set, Ev.Env.unset, Ev.look, qk, qf, qv, qfz, Ev.AV.cells, qo, Ev.AV.plain, qar, qbe, qi, qq, qaj, Ev.kill, qag, qg, qba, qa2, qb0, qm, qh, qd, qu, qx, ↓qn, ↓reduceIte, zga, zgb, zgd, zge, zgc, zgo, zfe, zgf, zgg, List.drop_nil, zgm, zgl, zgn, zgj, zgk, zgh, Nat.reduceAdd, Nat.reduceEqDiff, Nat.reduceLeDiff, reduceCtorEq, zgv, zgw, zfc, zfa, Bool.true_eq_false, zgx, ne_eq, zfb, zff, zfd, Nat.le_refl, zgy]
  by_cases h1 : e.proc < 0
  ·simp only [qb1, k2, h1, qae, Nat.reduceLeDiff, qj, Ev.exec, qb, qe, qc, qai, Ev.Opnd.ev, Ev.Env.get, Ev.Env.set, Ev.Env.unset, Ev.look, qk, qf, qv, qfz, Ev.AV.cells, qo, Ev.AV.plain, qar, qbe, ql, qi, qq, qaj, Ev.kill, qag, qg, qba, qa2, qb0, qm, qh, qd, qu, qx, ↓qn, ↓reduceIte, zga, zgb, zgd, zge, zgc, zgo, zfe, zgf, zgg, List.drop_nil, zgm, zgl, zgn, zgj, zgk, zgh, Nat.reduceAdd, Nat.reduceEqDiff, Nat.reduceLeDiff, Int.reduceEq, reduceCtorEq, zgv, zgw, zfc, zfa, Bool.true_eq_false, zgx, ne_eq, zfb, not_true_eq_false, zff, zfd, Nat.le_refl, zgy]
  by_cases h2 : e.proc ≥ (x.procs.length : Int)
  ·simp only [qb1, k2, h1, h2, qae, Nat.reduceLeDiff, qj, Ev.exec, qb, qe, qc, qai, Ev.Opnd.ev, Ev.Env.get, Ev.Env.set, Ev.Env.unset, Ev.look, qk, qf, qv, qfz, Ev.AV.cells, qo, Ev.AV.plain, qar, qbe, ql, qbu, qi, qq, qaj, Ev.kill, qag, qg, qba, qa2, qb0, qm, qh, qd, qu, qx, zgi, ↓qn, ↓reduceIte, zga, zgb, zgd, zge, zgc, zgo, zfe, zgf, zgg, List.drop_nil, zgm, zgl, zgn, zgj, zgk, zgh, Nat.reduceAdd, Nat.reduceEqDiff, Nat.reduceLeDiff, Int.reduceEq, reduceCtorEq, zgv, zgw, zfc, zfa, Bool.true_eq_false, zgx, ne_eq, zfb, not_true_eq_false, zff, zfd, Nat.le_refl, zgy]
  obtain ⟨q, hq⟩ : ∃ q, x.procs[e.proc.toNat]? = some q := ⟨_, List.getElem?_eq_getElem (by omega)⟩
  have h0 : 0 ≤ e.proc := by omega
  have hal : q.alive = false := by
   unfold qlc at ha
   rw [if_pos ⟨.inr k2, h0⟩, hq] at ha
   cases h : q.alive with
   | false => rfl
   | true => simp [h] at ha
  simp only [qb1, k2, h0, h1, h2, hq, hal, zgq, zgt, Pr.r, qae, Nat.reduceLeDiff, qj, Ev.exec, qb, qe, qc, qai, Ev.Opnd.ev, Ev.Env.get, Ev.Env.set, Ev.look, qk, qf, qv, qfz, Ev.AV.cells, qo, Ev.AV.plain, qar, qbe, ql, qbu, qi, qq, qaj, Ev.kill, qag, qg, qba, qa2, qb0, qm, qh, qd, qu, qx, zgi, ↓qn, ↓reduceIte, zga, zgb, zgd, zge, zgc, zgo, zfe, zgf, zgg, List.drop_nil, zgm, zgl, zgn, zgj, zgk, zgh, Nat.reduceAdd, Nat.reduceEqDiff, Nat.reduceLeDiff, Int.reduceEq, reduceCtorEq, zgv, zgw, zfc, Bool.not_false, zfa, zgx, ne_eq, zfb, not_true_eq_false, zff, zfd, Nat.le_refl, zgy]
 by_cases h1 : e.proc < 0
 ·simp only [qb1, k1, h1, qae, Nat.reduceLeDiff, qj, Ev.exec, qb, qe, qc, qai, Ev.Opnd.ev, Ev.Env.get, Ev.Env.set, Ev.Env.unset, Ev.look, qk, qf, qv, qfz, Ev.AV.cells, qo, Ev.AV.plain, qar, qbe, ql, qi, qq, qaj, Ev.kill, qag, qg, qba, qa2, qb0, qm, qh, qd, qu, qx, ↓qn, ↓reduceIte, zga, zgb, zgd, zge, zgc, zgo, zfe, zgf, zgg, List.drop_nil, zgm, zgl, zgn, zgj, zgk, zgh, Nat.reduceAdd, Nat.reduceEqDiff, Nat.reduceLeDiff, Int.reduceEq, reduceCtorEq, zgv, zgw, zfc, zfa, Bool.true_eq_false, zgx, ne_eq, zfb, not_true_eq_false, zff, zfd, Nat.le_refl, zgy]
 by_cases h2 : e.proc ≥ (x.procs.length : Int)
 ·simp only [qb1, k1, h1, h2, qae, Nat.reduceLeDiff, qj, Ev.exec, qb, qe, qc, qai, Ev.Opnd.ev, Ev.Env.get, Ev.Env.set, Ev.Env.unset, Ev.look, qk, qf, qv, qfz, Ev.AV.cells, qo, Ev.AV.plain, qar, qbe, ql, qbu, qi, qq, qaj, Ev.kill, qag, qg, qba, qa2, qb0, qm, qh, qd, qu, qx, zgi, ↓qn, ↓reduceIte, zga, zgb, zgd, zge, zgc, zgo, zfe, zgf, zgg, List.drop_nil, zgm, zgl, zgn, zgj, zgk, zgh, Nat.reduceAdd, Nat.reduceEqDiff, Nat.reduceLeDiff, Int.reduceEq, reduceCtorEq, zgv, zgw, zfc, zfa, Bool.true_eq_false, zgx, ne_eq, zfb, not_true_eq_false, zff, zfd, Nat.le_refl, zgy]
 obtain ⟨q, hq⟩ : ∃ q, x.procs[e.proc.toNat]? = some q := ⟨_, List.getElem?_eq_getElem (by omega)⟩
 have h0 : 0 ≤ e.proc := by omega
 have hal : q.alive = false := by
  unfold qlc at ha
  rw [if_pos ⟨.inl k1, h0⟩, hq] at ha
  cases h : q.alive with
  | false => rfl
  | true => simp [h] at ha
 simp only [qb1, k1, h0, h1, h2, hq, hal, zgq, zgt, Pr.r, qae, Nat.reduceLeDiff, qj, Ev.exec, qb, qe, qc, qai, Ev.Opnd.ev, Ev.Env.get, Ev.Env.set, Ev.Env.unset, Ev.look, qk, qf, qv, qfz, Ev.AV.cells, qo, Ev.AV.plain, qar, qbe, ql, qbu, qi, qq, qaj, Ev.kill, qag, qg, qba, qa2, qb0, qm, qh, qd, qu, qx, zgi, ↓qn, ↓reduceIte, zga, zgb, zgd, zge, zgc, zgo, zfe, zgf, zgg, List.drop_nil, zgm, zgl, zgn, zgj, zgk, zgh, Nat.reduceAdd, Nat.reduceEqDiff, Nat.reduceLeDiff, Int.reduceEq, reduceCtorEq, zgw, zfc, Bool.not_false, zfa, zgx, ne_eq, zfb, not_true_eq_false, zff, zfd, Nat.le_refl, zgy]
theorem q7e (h : qs6 c x e) {q : Pr} (ha : qlc x e = some q) :
  qa3 (evL T) qeu [(.agg [(.fsl ((c.lps).map lpC) false), (.fsl ((c.progs).map qcf) false), (ii c.look), (ii c.fin), (ii c.cap)]), (.agg [(ii x.r0), (ii x.r1), (.fsl ((x.procs).map Pr.r) false), (ii x.sum)]), (.agg [(ii e.time), (.fsl ((e.key).map qby) false), (ii e.lp), (ii e.kind), (ii e.proc), (ii e.arg)])] = some (.tup [(.agg [(ii ((q09 (qpg c x e q)).r0)), (ii ((q09 (qpg c x e q)).r1)), (.fsl (((q09 (qpg c x e q)).procs).map Pr.r) false), (ii ((q09 (qpg c x e q)).sum))]), (.fsl (((qpg c x e q).out).map Evt.r) false), (.fsl (((qpg c x e q).gone).map qep) false), (bb ((qpg c x e q).over))]) := by
 unfold qlc at ha
 split at ha
 case isFalse => cases ha
 rename_i hc
 obtain ⟨hkind, h0⟩ := hc
 obtain ⟨i, hi⟩ : ∃ i : Nat, e.proc = i := ⟨_, (Int.toNat_of_nonneg h0).symm⟩
 have hin : e.proc.toNat = i := by omega
 rw [hin, Option.bind_eq_some_iff] at ha
 obtain ⟨q', hq, ha⟩ := ha
 split at ha
 case isFalse => cases ha
 rename_i hal
 cases ha
 have hlt := (List.getElem?_eq_some_iff.1 hq).1
 obtain ⟨p1, p2, p3, p4, p5⟩ := h.proc q (List.mem_of_getElem? hq)
 obtain ⟨p, hp⟩ : ∃ p, c.progs[q.prog.toNat]? = some p := ⟨_, List.getElem?_eq_getElem (by omega)⟩
 obtain ⟨pl, pok⟩ := h.prog p (List.mem_of_getElem? hp)
 have hinv := qx1 c x e h hi hq
 have hxp : ∃ q', ((qcg x e).setP i (qib e q)).procs[i]? = some q' ∧ q'.prog = q.prog := ⟨qib e q, by simp only [Ex.setP, qcg]; rw [List.getElem?_set_self hlt], qx7 e q⟩
 have hact := qty c e i p q.prog h.key hi pl pok p1 hp ((qcg x e).setP i (qib e q)) hinv hxp
 have hrun : qpg c x e q = qkg p i 16 ((qcg x e).setP i (qib e q)) := by unfold qpg; rw [hin, hp]; rfl
 rw [hrun]
 generalize qkg p i 16 ((qcg x e).setP i (qib e q)) = F at hact
 have h1 : ¬ e.proc < 0 := by omega
 have h2 : ¬ e.proc ≥ (x.procs.length : Int) := by omega
 have h3 : ¬ e.kind = 3 := by omega
 rw [hi] at h0 h1 h2
 rw [qa3, qad qk1 qkn]
 rcases hkind with k1 | k2
 ·have hwk : qib e q = q := by unfold qib; rw [if_neg (by omega)]
  have hss : x.procs.set i q = x.procs := by
   obtain ⟨hlt', hge⟩ := List.getElem?_eq_some_iff.1 hq
   rw [← hge, List.set_getElem_self]
  have k3 : ¬ (1 : Int) = 3 := by decide
  have k4 : ¬ (1 : Int) = 2 := by decide
  rw [hwk] at hact
  simp only [qcg, Ex.setP, hss, List.map_nil, hi, k1] at hact
  simp only [qb1, k1, k3, k4, h0, h1, h2, hi, hq, hal, hact, q09, zgr, zgq, zgt, Pr.r, qcb, qax, qw, qae, qaa, qbk, Nat.reduceLeDiff, qj, Ev.exec, qb, qe, qc, qav, qai, Ev.evs, Ev.Opnd.ev, Ev.Env.get, Ev.Env.set, Ev.Env.unset, Ev.look, qk, qf, qv, qfz, Ev.AV.cells, qo, Ev.AV.plain, qar, qbe, ql, qbu, qi, qq, qaj, Ev.kill, qag, qg, qba, qa2, qb0, qm, qmd, Ev.AV.obj?, qh, qd, qu, qx, zgi, ↓qn, ↓reduceIte, zga, zgb, zgd, zge, zgc, zgo, zfe, zgf, zgg, List.drop_nil, zgm, zgl, zgn, zgj, zgk, zgh, Nat.reduceAdd, Nat.reduceEqDiff, Nat.reduceBEq, Nat.reduceLeDiff, reduceCtorEq, zgw, zfc, Bool.not_true, Bool.not_false, zfa, zgx, ne_eq, zfb, not_true_eq_false, zff, zfd, Nat.add_zero, Nat.le_refl, zgy]
  done
 ·have k1 : ¬ (2 : Int) = 1 := by decide
  have k3 : ¬ (2 : Int) = 3 := by decide
  have hkl := h.key
  have hwk : qib e q = { q with pc := e.arg, timer := if q.timer = e.key then [] else q.timer } := by unfold qib; rw [if_pos k2]
  obtain ⟨qp, qpc, qa, qt⟩ := q
  dsimp only at *
  subst hal
  have heq := qoi qt e.key false false (by omega) (by omega)
  rw [hwk] at hact
  have hpt : ∀ q0 : Pr, qa3 (evL T) qd4 [(.agg [(ii ((qcg x e).r0)), (ii ((qcg x e).r1)), (.fsl (((qcg x e).procs).map Pr.r) false), (ii ((qcg x e).sum)), (ii ((qcg x e).ev.time)), (.fsl (((qcg x e).ev.key).map qby) false), (ii ((qcg x e).ev.lp)), (ii ((qcg x e).ev.kind)), (ii ((qcg x e).ev.proc)), (ii ((qcg x e).ev.arg)), (.fsl (((qcg x e).out).map Evt.r) false), (.fsl (((qcg x e).gone).map qep) false), (ii ((qcg x e).n)), (bb ((qcg x e).over))]), (ii i), (.agg [(ii q0.prog), (ii q0.pc), (bb q0.alive), (.fsl ((q0.timer).map qby) false)])] = some (.agg [(ii (((qcg x e).setP i q0).r0)), (ii (((qcg x e).setP i q0).r1)), (.fsl ((((qcg x e).setP i q0).procs).map Pr.r) false), (ii (((qcg x e).setP i q0).sum)), (ii (((qcg x e).setP i q0).ev.time)), (.fsl ((((qcg x e).setP i q0).ev.key).map qby) false), (ii (((qcg x e).setP i q0).ev.lp)), (ii (((qcg x e).setP i q0).ev.kind)), (ii (((qcg x e).setP i q0).ev.proc)), (ii (((qcg x e).setP i q0).ev.arg)), (.fsl ((((qcg x e).setP i q0).out).map Evt.r) false), (.fsl ((((qcg x e).setP i q0).gone).map qep) false), (ii (((qcg x e).setP i q0).n)), (bb (((qcg x e).setP i q0).over))]) := fun q0 => qdn (qcg x e) (by show x.procs.length ≤ 1000; have := h.procs; omega) i hlt q0
  by_cases ht : qt = e.key
  ·have hp2 := hpt ⟨qp, e.arg, true, []⟩
   simp only [ht, if_true] at hact
   simp only [ht, zgv] at heq
   simp only [qcg, Ex.setP, List.map_nil, hi, k2] at hact hp2
   by_cases hz : e.key = []
   ·have z0 : ¬ (0 : Int) > 0 := by decide
    have hl0 : (([] : List Int).length : Int) = 0 := rfl
    rw [hz] at ht
    simp only [hz, List.map_nil] at hact hp2
    simp only [qb1, k1, k2, k3, h0, h1, h2, hi, hq, hz, z0, hp2, ht, hact, List.map_nil, zgb, q09, zgr, zgq, zgt, Pr.r, qcb, qax, qae, qaa, qbk, Nat.reduceLeDiff, qj, Ev.exec, qb, qe, qc, qav, qai, Ev.evs, Ev.Opnd.ev, Ev.Env.get, Ev.Env.set, Ev.Env.unset, Ev.look, qk, qf, qv, qfz, Ev.AV.cells, Ev.AV.uc, qo, Ev.AV.plain, qar, qbe, ql, qbh, qbu, qi, qq, qaj, Ev.kill, qag, qg, qba, qa2, qb0, qm, qmd, Ev.AV.obj?, qh, qd, qu, qx, zgi, ↓qn, ↓reduceIte, zga, zgb, zgd, zge, zgc, zgo, zfe, zgf, zgg, List.drop_nil, zgm, zgl, zgn, zgj, zgk, zgh, Nat.reduceAdd, Nat.reduceEqDiff, Nat.reduceBEq, Nat.reduceLeDiff, Int.cast_ofNat_Int, reduceCtorEq, zgv, zgw, zfc, Bool.not_true, Bool.not_false, zfa, zgx, ne_eq, zfb, not_true_eq_false, zff, zfd, Nat.add_zero, Nat.le_refl, zgy]
    done
   ·have hz' : (e.key.length : Int) > 0 := by have := List.length_pos_iff.2 hz; omega
    simp only [qb1, k1, k2, k3, h0, h1, h2, hi, hq, hz', heq, hp2, ht, hact, q09, zgr, zgq, zgt, Pr.r, qcb, qax, qw, qae, qaa, qbk, Nat.reduceLeDiff, qj, Ev.exec, qb, qe, qc, qav, qai, Ev.evs, Ev.Opnd.ev, Ev.Env.get, Ev.Env.set, Ev.look, qk, qf, qv, qfz, Ev.AV.cells, Ev.AV.uc, qo, Ev.AV.plain, qar, qbe, ql, qbh, qbu, qi, qq, qaj, Ev.kill, qag, qg, qba, qa2, qb0, qm, qmd, Ev.AV.obj?, qh, qd, qu, qx, zgi, ↓qn, ↓reduceIte, zga, zgb, zgd, zge, zgc, zgo, zfe, zgf, zgg, List.drop_nil, zgm, zgl, zgn, zgj, zgk, zgh, Nat.reduceAdd, Nat.reduceEqDiff, Nat.reduceBEq, Nat.reduceLeDiff, reduceCtorEq, zgv, zgw, zfc, Bool.not_true, Bool.not_false, zfa, zgx, ne_eq, zfb, not_true_eq_false, zff, zfd, Nat.add_zero, Nat.le_refl, zgy]
    done
  ·have hp2 := hpt ⟨qp, e.arg, true, qt⟩
   simp only [ht, if_false] at hact
   simp only [ht, zgw] at heq
   simp only [qcg, Ex.setP, List.map_nil, hi, k2] at hact hp2
   by_cases hz : (qt.length : Int) > 0
   ·simp only [qb1, k1, k2, k3, h0, h1, h2, hi, hq, hz, heq, hp2, hact, q09, zgr, zgq, zgt, Pr.r, qcb, qax, qw, qae, qaa, qbk, Nat.reduceLeDiff, qj, Ev.exec, qb, qe, qc, qav, qai, Ev.evs, Ev.Opnd.ev, Ev.Env.get, Ev.Env.set, Ev.look, qk, qf, qv, qfz, Ev.AV.cells, Ev.AV.uc, qo, Ev.AV.plain, qar, qbe, ql, qbh, qbu, qi, qq, qaj, Ev.kill, qag, qg, qba, qa2, qb0, qm, qmd, Ev.AV.obj?, qh, qd, qu, qx, zgi, ↓qn, ↓reduceIte, zga, zgb, zgd, zge, zgc, zgo, zfe, zgf, zgg, List.drop_nil, zgm, zgl, zgn, zgj, zgk, zgh, Nat.reduceAdd, Nat.reduceEqDiff, Nat.reduceBEq, Nat.reduceLeDiff, reduceCtorEq, zgv, zgw, zfc, Bool.not_true, Bool.not_false, zfa, zgx, ne_eq, zfb, not_true_eq_false, zff, zfd, Nat.add_zero, Nat.le_refl, zgy]
    done
   ·simp only [qb1, k1, k2, k3, h0, h1, h2, hi, hq, hz, hp2, hact, q09, zgr, zgq, zgt, Pr.r, qcb, qax, qw, qae, qaa, qbk, Nat.reduceLeDiff, qj, Ev.exec, qb, qe, qc, qav, qai, Ev.evs, Ev.Opnd.ev, Ev.Env.get, Ev.Env.set, Ev.Env.unset, Ev.look, qk, qf, qv, qfz, Ev.AV.cells, Ev.AV.uc, qo, Ev.AV.plain, qar, qbe, ql, qbh, qbu, qi, qq, qaj, Ev.kill, qag, qg, qba, qa2, qb0, qm, qmd, Ev.AV.obj?, qh, qd, qu, qx, zgi, ↓qn, ↓reduceIte, zga, zgb, zgd, zge, zgc, zgo, zfe, zgf, zgg, List.drop_nil, zgm, zgl, zgn, zgj, zgk, zgh, Nat.reduceAdd, Nat.reduceEqDiff, Nat.reduceBEq, Nat.reduceLeDiff, reduceCtorEq, zgv, zgw, zfc, Bool.not_true, Bool.not_false, zfa, zgx, ne_eq, zfb, not_true_eq_false, zff, zfd, Nat.add_zero, Nat.le_refl, zgy]
    done
end
set_option maxRecDepth 10000
def qrk {τ : Type} (f : τ → Int) (l : List τ) : Int := match l.find? (fun x => !decide (f x = 0)) with
 | some x => f x
 | none => 0
theorem qqn {τ : Type} {f : τ → Int} {l : List τ} (h : l.all (fun x => decide (f x = 0)) = true) : qrk f l = 0 := by
 unfold qrk
 have : l.find? (fun x => !decide (f x = 0)) = none := by
  rw [List.find?_eq_none]; intro x hx; rw [List.all_eq_true] at h; simp [of_decide_eq_true (h x hx)]
 rw [this]
theorem qmi {τ : Type} {f : τ → Int} {l : List τ} {x : τ} (h : l.find? (fun x => !decide (f x = 0)) = some x) : qrk f l = f x := by unfold qrk; rw [h]
theorem qr5 {τ : Type} {f : τ → Int} {l : List τ} : qrk f l = 0 ↔ ∀ x ∈ l, f x = 0 := by
 cases h : l.find? (fun x => !decide (f x = 0)) with
 | none =>
  rw [List.find?_eq_none] at h
  have h1 : ∀ x ∈ l, f x = 0 := fun x hx => by simpa using h x hx
  exact ⟨fun _ => h1, fun _ => qqn (by rw [List.all_eq_true]; intro x hx; simp [h1 x hx])⟩
 | some x =>
  have h1 := List.find?_some h
  have h2 := List.mem_of_find?_eq_some h
  rw [qmi h]
  exact ⟨fun k => by simp [k] at h1, fun k => k x h2⟩
section
variable (c : Cfg)
def len8 (l : List Start) : Bool := !decide ((l.length : Int) > 8)
def qse (c : Cfg) : Bool := decide (1 ≤ c.lps.length ∧ c.lps.length ≤ 8 ∧ c.progs.length ≤ 8) && (c.lps.all len8 && decide (1 ≤ c.cap ∧ c.cap ≤ 64 ∧ 0 ≤ c.fin ∧ c.fin ≤ 1152921504606846976))
theorem qy1 : qa3 (evL T) qhy [(.agg [(.fsl ((c.lps).map lpC) false), (.fsl ((c.progs).map qcf) false), (ii c.look), (ii c.fin), (ii c.cap)])] = some (bb (qse c)) := by
 unfold qse
 rw [qa3, qad qxy qvp]
 by_cases h1 : (c.lps.length : Int) < 1
 ·have : ¬ (1 ≤ c.lps.length ∧ c.lps.length ≤ 8 ∧ c.progs.length ≤ 8) := by omega
  simp only [qdu, h1, this, zgw, Bool.false_and, qj, Ev.exec, qb, qe, qc, qai, Ev.Opnd.ev, Ev.Env.get, Ev.Env.set, Ev.Env.unset, Ev.look, qk, qf, qv, Ev.AV.cells, qo, Ev.AV.plain, ql, qi, qq, qaj, Ev.kill, qag, qg, qba, qx, zgi, ↓qn, ↓reduceIte, zga, zgb, zfe, zgg, zgh, Nat.reduceEqDiff, zgv, zgw, zfc, zfa, Bool.true_eq_false, zgx, ne_eq, zfb, zff, zfd, zgy, Bool.false_and]
 by_cases h2 : (c.lps.length : Int) > 8
 ·have : ¬ (1 ≤ c.lps.length ∧ c.lps.length ≤ 8 ∧ c.progs.length ≤ 8) := by omega
  simp only [qdu, h1, h2, this, zgw, Bool.false_and, qj, Ev.exec, qb, qe, qc, qai, Ev.Opnd.ev, Ev.Env.get, Ev.Env.set, Ev.Env.unset, Ev.look, qk, qf, qv, Ev.AV.cells, qo, Ev.AV.plain, ql, qbh, qi, qq, qaj, Ev.kill, qag, qg, qba, qx, zgi, ↓qn, ↓reduceIte, zga, zgb, zfe, zgg, zgh, Nat.reduceEqDiff, zgv, zgw, zfc, zfa, Bool.true_eq_false, zgx, ne_eq, zfb, zff, zfd, zgy, Bool.false_and]
 by_cases h3 : (c.progs.length : Int) > 8
 ·have : ¬ (1 ≤ c.lps.length ∧ c.lps.length ≤ 8 ∧ c.progs.length ≤ 8) := by omega
  simp only [qdu, h1, h2, h3, this, zgw, Bool.false_and, qj, Ev.exec, qb, qe, qc, qai, Ev.Opnd.ev, Ev.Env.get, Ev.Env.set, Ev.look, qk, qf, qv, Ev.AV.cells, qo, Ev.AV.plain, ql, qbh, qi, qq, qaj, Ev.kill, qag, qg, qba, qx, zgi, ↓qn, ↓reduceIte, zga, zgb, zfe, zgf, zgg, zgh, Nat.reduceEqDiff, zgv, zgw, zfc, zfa, zgx, ne_eq, zfb, zff, zfd, zgy, Bool.false_and]
 have h4 : (1 ≤ c.lps.length ∧ c.lps.length ≤ 8 ∧ c.progs.length ≤ 8) := by omega
 have hL : ∃ y, itB (exec (evL T) itL none qil) (qs [1, 3] true 0) ⟨[(1, (.fptr [(.fsl ((c.lps).map lpC) false), (.fsl ((c.progs).map qcf) false), (ii c.look), (ii c.fin), (ii c.cap)])), (3, (ii 0))], []⟩ [] = some y ∧ (c.lps.all len8 = true ∧ (y.1 = .exit 0 ∧ y.2.1.marks = [] ∧ y.2.2 = [] ∧ Ev.look y.2.1.vars 1 = some (.fptr [(.fsl ((c.lps).map lpC) false), (.fsl ((c.progs).map qcf) false), (ii c.look), (ii c.fin), (ii c.cap)])) ∨
   c.lps.all len8 = false ∧ ∃ x, c.lps.find? (fun x => !len8 x) = some x ∧ (y.1 = .ret ∧ y.2.1.marks = [] ∧ y.2.2 = [] ∧ Ev.look y.2.1.vars 2 = some (bb false))) := by
  refine qg9 c.lps (fun i => ⟨[(1, (.fptr [(.fsl ((c.lps).map lpC) false), (.fsl ((c.progs).map qcf) false), (ii c.look), (ii c.fin), (ii c.cap)])), (3, (ii i))], []⟩) [] len8 _ (fun _ y => _) ?_ ?_ ?_
  ·intro i x hi hx hp
   have hi' : (i : Int) < (c.lps.length : Int) := by omega
   have hw : IntKind.i64.wrap ((i : Int) + 1) = ((i + 1 : Nat) : Int) := by rw [qas (by omega) (by omega)]; simp
   have h1 : ¬ (x.length : Int) > 8 := by simpa [len8] using hp
   simp only [qil, zgs, zgr, zgq, zgt, hx, hi', hw, h1, qcb, qax, lpC, Ev.exec, qb, qe, qc, qai, Ev.Opnd.ev, Ev.Env.get, Ev.Env.set, Ev.look, qf, qv, qao, ql, qbh, qs, Ev.keep, qal, qaf, qg, qba, qm, qbm, qh, qd, zgi, ↓qn, Ev.it1, ↓reduceIte, zga, zgb, zfe, zgg, zgh, Nat.reduceEqDiff, zgv, zgw, zfc, zfa, zgx, zfd, zgy]
  ·intro i x hi hx hp
   have hi' : (i : Int) < (c.lps.length : Int) := by omega
   have h1 : (x.length : Int) > 8 := by simpa [len8] using hp
   simp only [qil, zgs, zgr, zgq, zgt, hx, hi', h1, lpC, Ev.exec, qb, qe, qc, qai, Ev.Opnd.ev, Ev.Env.get, Ev.Env.set, Ev.look, qf, qv, ql, qbh, zgi, ↓qn, Ev.it1, ↓reduceIte, zga, zgb, zgg, zgh, Nat.reduceEqDiff, zgv, zfa, zfd, zgy]
   exact ⟨_, rfl, rfl, rfl, rfl, rfl⟩
  ·simp only [qil, Int.lt_irrefl, Ev.exec, qb, qe, qc, qai, Ev.Opnd.ev, Ev.Env.get, Ev.Env.set, Ev.look, qf, qv, ql, zgi, ↓qn, Ev.it1, ↓reduceIte, zgg, zgh, Nat.reduceEqDiff, zgw, zfa, zgy]
   exact ⟨_, rfl, rfl, rfl, rfl, rfl⟩
 obtain ⟨⟨y, e, σ⟩, k1, k2⟩ := hL
 simp only at k2
 rcases k2 with ⟨k3, rfl, k4, rfl, k5⟩ | ⟨k3, x, _, rfl, k4, rfl, k5⟩
 ·by_cases g1 : c.cap ≥ 1
  case neg =>
   have : ¬ (1 ≤ c.cap ∧ c.cap ≤ 64 ∧ 0 ≤ c.fin ∧ c.fin ≤ 1152921504606846976) := by omega
   simp only [qdu, h1, h2, h3, h4, k1, k3, k4, k5, g1, qcb, qax, zgw, Bool.and_false, qj, Ev.exec, qb, qe, qc, qai, Ev.Opnd.ev, Ev.Env.get, Ev.Env.set, Ev.Env.unset, Ev.look, qk, qf, qv, Ev.AV.cells, qo, Ev.AV.plain, ql, qbh, qbu, qi, qq, qaj, Ev.kill, qag, qs, Ev.keep, qal, qaf, qg, qba, qm, qbm, qh, qd, qx, zgi, ↓qn, ↓qa4, ↓reduceIte, zga, zgb, zfe, zgf, zgg, zgh, Nat.reduceEqDiff, zgv, zgw, zfc, zfa, zgx, ne_eq, zfb, zff, zfd, zgy, Bool.and_false, false_and]
  by_cases g2 : c.cap ≤ 64
  case neg =>
   have : ¬ (1 ≤ c.cap ∧ c.cap ≤ 64 ∧ 0 ≤ c.fin ∧ c.fin ≤ 1152921504606846976) := by omega
   simp only [qdu, h1, h2, h3, h4, k1, k3, k4, k5, g1, g2, qcb, qax, zgw, Bool.and_false, qj, Ev.exec, qb, qe, qc, qai, Ev.Opnd.ev, Ev.Env.get, Ev.Env.set, Ev.Env.unset, Ev.look, qk, qf, qv, Ev.AV.cells, qo, Ev.AV.plain, ql, qqc, qbh, qbu, qi, qq, qaj, Ev.kill, qag, qs, Ev.keep, qal, qaf, qg, qba, qm, qbm, qh, qd, qx, zgi, ↓qn, ↓qa4, ↓reduceIte, zga, zgb, zfe, zgf, zgg, zgh, Nat.reduceEqDiff, zgv, zgw, zfc, zfa, zgx, ne_eq, zfb, zff, zfd, zgy, Bool.and_false, false_and, and_false]
  by_cases g3 : c.fin ≥ 0
  case neg =>
   have : ¬ (1 ≤ c.cap ∧ c.cap ≤ 64 ∧ 0 ≤ c.fin ∧ c.fin ≤ 1152921504606846976) := by omega
   simp only [qdu, h1, h2, h3, h4, k1, k3, k4, k5, g1, g2, g3, qcb, qax, zgw, Bool.and_false, qj, Ev.exec, qb, qe, qc, qai, Ev.Opnd.ev, Ev.Env.get, Ev.Env.set, Ev.Env.unset, Ev.look, qk, qf, qv, Ev.AV.cells, qo, Ev.AV.plain, ql, qqc, qbh, qbu, qi, qq, qaj, Ev.kill, qag, qs, Ev.keep, qal, qaf, qg, qba, qm, qbm, qh, qd, qx, zgi, ↓qn, ↓qa4, ↓reduceIte, zga, zgb, zfe, zgf, zgg, zgh, Nat.reduceEqDiff, zgv, zgw, zfc, zfa, zgx, ne_eq, zfb, zff, zfd, zgy, Bool.and_false, false_and, and_false]
  by_cases g4 : c.fin ≤ 1152921504606846976
  case neg =>
   have : ¬ (1 ≤ c.cap ∧ c.cap ≤ 64 ∧ 0 ≤ c.fin ∧ c.fin ≤ 1152921504606846976) := by omega
   simp only [qdu, h1, h2, h3, h4, k1, k3, k4, k5, g1, g2, g3, g4, qcb, qax, zgw, Bool.and_false, qj, Ev.exec, qb, qe, qc, qai, Ev.Opnd.ev, Ev.Env.get, Ev.Env.set, Ev.look, qk, qf, qv, Ev.AV.cells, qo, Ev.AV.plain, ql, qqc, qbh, qbu, qi, qq, qaj, Ev.kill, qag, qs, Ev.keep, qal, qaf, qg, qba, qm, qbm, qh, qd, qx, zgi, ↓qn, ↓qa4, ↓reduceIte, zga, zgb, zfe, zgf, zgg, zgh, Nat.reduceEqDiff, zgv, zgw, zfc, zfa, zgx, ne_eq, zfb, zff, zfd, zgy, Bool.and_false, and_false]
  have : (1 ≤ c.cap ∧ c.cap ≤ 64 ∧ 0 ≤ c.fin ∧ c.fin ≤ 1152921504606846976) := by omega
  simp only [qdu, h1, h2, h3, h4, k1, k3, k4, k5, g1, g2, g3, g4, qcb, qax, zgx, zgv, qj, Ev.exec, qb, qe, qc, qai, Ev.Opnd.ev, Ev.Env.get, Ev.Env.set, Ev.look, qk, qf, qv, Ev.AV.cells, qo, Ev.AV.plain, ql, qqc, qbh, qbu, qi, qq, qaj, Ev.kill, qag, qs, Ev.keep, qal, qaf, qg, qba, qm, qbm, qh, qd, qx, zgi, ↓qn, ↓qa4, ↓reduceIte, zga, zgb, zfe, zgf, zgg, zgh, Nat.reduceEqDiff, zgv, zgw, zfc, zfa, zgx, ne_eq, zfb, zff, zfd, zgy]
 ·simp only [qdu, h1, h2, h3, h4, k1, k3, k4, k5, qcb, qax, zgv, Bool.and_false, Bool.false_and, qj, Ev.exec, qb, qe, qc, qai, Ev.Opnd.ev, Ev.Env.get, Ev.Env.set, Ev.look, qk, qf, qv, Ev.AV.cells, qo, Ev.AV.plain, ql, qbh, qi, qq, qaj, Ev.kill, qag, qs, Ev.keep, qal, qaf, qg, qba, qm, qbm, qh, qd, qx, zgi, ↓qn, ↓qa4, ↓reduceIte, zga, zgb, zfe, zgf, zgg, zgh, Nat.reduceEqDiff, zgv, zgw, zfc, zfa, zgx, ne_eq, zfb, zff, zfd, zgy, Bool.false_and, Bool.and_false]
def qsp (c : Cfg) (p : List OpI) : Int := qpb p c.progs.length c.lps.length c.look
def qkt (c : Cfg) (s : Start) : Int := if s.prog < 0 ∨ s.prog ≥ c.progs.length then 22 else if s.time < 0 ∨ s.time > 1152921504606846976 then 11 else 0
def rlpZ (c : Cfg) (l : List Start) : Int := qrk (qkt c) l
def q44 (c : Cfg) : Int := if qse c = false then 1 else if c.look < 1 then 20 else if qrk (qsp c) c.progs ≠ 0 then qrk (qsp c) c.progs else qrk (rlpZ c) c.lps
theorem q8f (hl : c.progs.length ≤ 8) :
  ∃ y, itB (exec (evL T) itL none qij) (qs [1, 3] true 0) ⟨[(1, (.fptr [(.fsl ((c.lps).map lpC) false), (.fsl ((c.progs).map qcf) false), (ii c.look), (ii c.fin), (ii c.cap)])), (3, (ii 0))], []⟩ [] = some y ∧ (c.progs.all (fun p => decide (qsp c p = 0)) = true ∧ (y.1 = .exit 0 ∧ y.2.1.marks = [] ∧ y.2.2 = [] ∧ Ev.look y.2.1.vars 1 = some (.fptr [(.fsl ((c.lps).map lpC) false), (.fsl ((c.progs).map qcf) false), (ii c.look), (ii c.fin), (ii c.cap)])) ∨
   c.progs.all (fun p => decide (qsp c p = 0)) = false ∧ ∃ x, c.progs.find? (fun p => !decide (qsp c p = 0)) = some x ∧ (y.1 = .ret ∧ y.2.1.marks = [] ∧ y.2.2 = [] ∧ Ev.look y.2.1.vars 2 = some (ii (qsp c x)))) := by
 refine qg9 c.progs (fun i => ⟨[(1, (.fptr [(.fsl ((c.lps).map lpC) false), (.fsl ((c.progs).map qcf) false), (ii c.look), (ii c.fin), (ii c.cap)])), (3, (ii i))], []⟩) [] (fun p => decide (qsp c p = 0)) _ (fun x y => _) ?_ ?_ ?_
 ·intro i x hi hx hp
  have hi' : (i : Int) < (c.progs.length : Int) := by omega
  have hw : IntKind.i64.wrap ((i : Int) + 1) = ((i + 1 : Nat) : Int) := by rw [qas (by omega) (by omega)]; simp
  have hv := qrh x false c.progs.length c.lps.length c.look
  rw [show qpb x c.progs.length c.lps.length c.look = 0 from of_decide_eq_true hp] at hv
  simp only [qij, zgs, zgr, zgq, zgt, hx, hi', hw, hv, qcb, qax, qhq, qcf, Ev.exec, qb, qe, qc, qav, qai, Ev.evs, Ev.Opnd.ev, Ev.Env.get, Ev.Env.set, Ev.look, qf, qv, qao, qbe, ql, qs, Ev.keep, qal, qaf, qg, qba, qm, qbm, qh, qd, zgi, ↓qn, Ev.it1, ↓reduceIte, zga, zgb, zfe, zgf, zgg, zgh, Nat.reduceEqDiff, zgv, zgw, zfc, zfa, zgx, ne_eq, not_true_eq_false, zfd, zgy]
 ·intro i x hi hx hp
  have hi' : (i : Int) < (c.progs.length : Int) := by omega
  have hv := qrh x false c.progs.length c.lps.length c.look
  have hz : ¬ qpb x c.progs.length c.lps.length c.look = 0 := of_decide_eq_false hp
  simp only [qij, zgs, zgr, zgq, zgt, hx, hi', hv, hz, qhq, qcf, Ev.exec, qb, qe, qc, qav, qai, Ev.evs, Ev.Opnd.ev, Ev.Env.get, Ev.Env.set, Ev.look, qf, qv, qbe, ql, qba, qm, qh, qd, zgi, ↓qn, Ev.it1, ↓reduceIte, zga, zgb, zgf, zgg, zgh, Nat.reduceEqDiff, zgv, zfc, zfa, ne_eq, zfb, zfd, zgy]
  exact ⟨_, rfl, rfl, rfl, rfl, rfl⟩
 ·simp only [qij, Int.lt_irrefl, Ev.exec, qb, qe, qc, qai, Ev.Opnd.ev, Ev.Env.get, Ev.Env.set, Ev.look, qf, qv, ql, zgi, ↓qn, Ev.it1, ↓reduceIte, zgf, zgg, zgh, Nat.reduceEqDiff, zgw, zfa, zgy]
  exact ⟨_, rfl, rfl, rfl, rfl, rfl⟩
theorem q2p (i : Nat) (l : List Start) (hx : c.lps[i]? = some l) (hl : l.length ≤ 8) :
  ∃ y, itB (exec (evL T) itL none qej) (qs [1, 5, 6] true 0) ⟨[(1, (.fptr [(.fsl ((c.lps).map lpC) false), (.fsl ((c.progs).map qcf) false), (ii c.look), (ii c.fin), (ii c.cap)])), (5, (ii i)), (6, (ii 0))], []⟩ [] = some y ∧ (l.all (fun s => decide (qkt c s = 0)) = true ∧ (y.1 = .exit 4 ∧ y.2.1.marks = [] ∧ y.2.2 = [] ∧ Ev.look y.2.1.vars 1 = some (.fptr [(.fsl ((c.lps).map lpC) false), (.fsl ((c.progs).map qcf) false), (ii c.look), (ii c.fin), (ii c.cap)]) ∧ Ev.look y.2.1.vars 5 = some (ii i)) ∨
   l.all (fun s => decide (qkt c s = 0)) = false ∧ ∃ x, l.find? (fun s => !decide (qkt c s = 0)) = some x ∧ (y.1 = .ret ∧ y.2.1.marks = [] ∧ y.2.2 = [.row 2 [x.r] 0] ∧ Ev.look y.2.1.vars 2 = some (ii (qkt c x)))) := by
 refine qg9 l (fun k => ⟨[(1, (.fptr [(.fsl ((c.lps).map lpC) false), (.fsl ((c.progs).map qcf) false), (ii c.look), (ii c.fin), (ii c.cap)])), (5, (ii i)), (6, (ii k))], []⟩) [] (fun s => decide (qkt c s = 0)) _ (fun x y => _) ?_ ?_ ?_
 ·intro k s hk hs hp
  have hk' : (k : Int) < (l.length : Int) := by omega
  have hw : IntKind.i64.wrap ((k : Int) + 1) = ((k + 1 : Nat) : Int) := by rw [qas (by omega) (by omega)]; simp
  have hz : qkt c s = 0 := of_decide_eq_true hp
  unfold qkt at hz
  by_cases g1 : s.prog < 0
  ·rw [if_pos (.inl g1)] at hz; cases hz
  by_cases g2 : s.prog ≥ (c.progs.length : Int)
  ·rw [if_pos (.inr g2)] at hz; cases hz
  by_cases g3 : s.time < 0
  ·rw [if_neg (by omega), if_pos (.inl g3)] at hz; cases hz
  by_cases g4 : s.time > 1152921504606846976
  ·rw [if_neg (by omega), if_pos (.inr g4)] at hz; cases hz
  simp only [qej, zgs, zgr, zgq, zgt, hx, hs, hk', hw, g1, g2, g3, g4, qcb, qax, lpC, Start.r, Ev.exec, qb, qe, qc, qai, Ev.Opnd.ev, Ev.Env.get, Ev.Env.set, Ev.look, qf, qv, Ev.AV.cells, qo, Ev.AV.plain, qao, ql, qbh, qbu, qs, Ev.keep, qal, qaf, qg, qba, qm, qbm, qh, qd, zgi, ↓qn, Ev.it1, ↓reduceIte, zga, zgb, zgd, zgc, zgo, zfe, zgf, zgg, List.drop_nil, zgl, zgn, zgj, zgh, Nat.reduceAdd, Nat.reduceEqDiff, zgv, zgw, zfc, zfa, zgx, ne_eq, zfb, zff, zfd, Nat.add_zero, Nat.le_refl, zgy]
 ·intro k s hk hs hp
  have hk' : (k : Int) < (l.length : Int) := by omega
  have hz : ¬ qkt c s = 0 := of_decide_eq_false hp
  unfold qkt at hz ⊢
  by_cases g1 : s.prog < 0
  ·rw [if_pos (.inl g1)]
   simp only [qej, zgs, zgr, zgq, zgt, hx, hs, hk', g1, lpC, Start.r, Ev.exec, qb, qe, qc, qai, Ev.Opnd.ev, Ev.Env.get, Ev.Env.set, Ev.Env.unset, Ev.look, qf, qv, Ev.AV.cells, qo, Ev.AV.plain, ql, zgi, ↓qn, Ev.it1, ↓reduceIte, zga, zgb, zgd, zgc, zgo, zfe, zgf, zgg, List.drop_nil, zgl, zgn, zgj, zgh, Nat.reduceAdd, Nat.reduceEqDiff, zgv, zfc, zfa, Bool.true_eq_false, zgx, ne_eq, zfb, zff, zfd, Nat.add_zero, Nat.le_refl, zgy]
   exact ⟨_, rfl, rfl, rfl, rfl, rfl⟩
  by_cases g2 : s.prog ≥ (c.progs.length : Int)
  ·rw [if_pos (.inr g2)]
   simp only [qej, zgs, zgr, zgq, zgt, hx, hs, hk', g1, g2, lpC, Start.r, Ev.exec, qb, qe, qc, qai, Ev.Opnd.ev, Ev.Env.get, Ev.Env.set, Ev.look, qf, qv, Ev.AV.cells, qo, Ev.AV.plain, ql, qbu, zgi, ↓qn, Ev.it1, ↓reduceIte, zga, zgb, zgd, zgc, zgo, zfe, zgf, zgg, List.drop_nil, zgl, zgn, zgj, zgh, Nat.reduceAdd, Nat.reduceEqDiff, zgv, zgw, zfc, zfa, zgx, ne_eq, zfb, zff, zfd, Nat.add_zero, Nat.le_refl, zgy]
   exact ⟨_, rfl, rfl, rfl, rfl, rfl⟩
  rw [if_neg (by omega)] at hz ⊢
  by_cases g3 : s.time < 0
  ·rw [if_pos (.inl g3)]
   simp only [qej, zgs, zgr, zgq, zgt, hx, hs, hk', g1, g2, g3, lpC, Start.r, Ev.exec, qb, qe, qc, qai, Ev.Opnd.ev, Ev.Env.get, Ev.Env.set, Ev.Env.unset, Ev.look, qf, qv, Ev.AV.cells, qo, Ev.AV.plain, ql, qbu, zgi, ↓qn, Ev.it1, ↓reduceIte, zga, zgb, zgd, zgc, zgo, zfe, zgf, zgg, List.drop_nil, zgl, zgn, zgj, zgh, Nat.reduceAdd, Nat.reduceEqDiff, zgv, zgw, zfc, zfa, Bool.true_eq_false, zgx, ne_eq, zfb, zff, zfd, Nat.add_zero, Nat.le_refl, zgy]
   exact ⟨_, rfl, rfl, rfl, rfl, rfl⟩
  by_cases g4 : s.time > 1152921504606846976
  ·rw [if_pos (.inr g4)]
   simp only [qej, zgs, zgr, zgq, zgt, hx, hs, hk', g1, g2, g3, g4, lpC, Start.r, Ev.exec, qb, qe, qc, qai, Ev.Opnd.ev, Ev.Env.get, Ev.Env.set, Ev.look, qf, qv, Ev.AV.cells, qo, Ev.AV.plain, ql, qbh, qbu, zgi, ↓qn, Ev.it1, ↓reduceIte, zga, zgb, zgd, zgc, zgo, zfe, zgf, zgg, List.drop_nil, zgl, zgn, zgj, zgh, Nat.reduceAdd, Nat.reduceEqDiff, zgv, zgw, zfc, zfa, zgx, ne_eq, zfb, zff, zfd, Nat.add_zero, Nat.le_refl, zgy]
   exact ⟨_, rfl, rfl, rfl, rfl, rfl⟩
  ·exact absurd (by rw [if_neg (by omega)]) hz
 ·simp only [qej, zgs, zgr, zgq, zgt, hx, Int.lt_irrefl, lpC, Ev.exec, qb, qe, qc, qai, Ev.Opnd.ev, Ev.Env.get, Ev.Env.set, Ev.look, qf, qv, ql, zgi, ↓qn, Ev.it1, ↓reduceIte, zga, zgb, zgg, zgh, Nat.reduceEqDiff, zgw, zfa, zfd, zgy]
  exact ⟨_, rfl, rfl, rfl, rfl, rfl, rfl⟩
theorem q66 (hl : c.lps.length ≤ 8) (hll : ∀ l ∈ c.lps, l.length ≤ 8) :
  ∃ y, itB (exec (evL T) itL none qio) (qs [1, 5] true 0) ⟨[(1, (.fptr [(.fsl ((c.lps).map lpC) false), (.fsl ((c.progs).map qcf) false), (ii c.look), (ii c.fin), (ii c.cap)])), (5, (ii 0))], []⟩ [] = some y ∧ (c.lps.all (fun l => decide (rlpZ c l = 0)) = true ∧ (y.1 = .exit 2 ∧ y.2.1.marks = [] ∧ y.2.2 = []) ∨
   c.lps.all (fun l => decide (rlpZ c l = 0)) = false ∧ ∃ x, c.lps.find? (fun l => !decide (rlpZ c l = 0)) = some x ∧ (y.1 = .ret ∧ y.2.1.marks = [] ∧ (∃ s : Start, y.2.2 = [.row 2 [s.r] 0]) ∧ Ev.look y.2.1.vars 2 = some (ii (rlpZ c x)))) := by
 refine qg9 c.lps (fun i => ⟨[(1, (.fptr [(.fsl ((c.lps).map lpC) false), (.fsl ((c.progs).map qcf) false), (ii c.look), (ii c.fin), (ii c.cap)])), (5, (ii i))], []⟩) [] (fun l => decide (rlpZ c l = 0)) _ (fun x y => _) ?_ ?_ ?_
 ·intro i l hi hx hp
  have hi' : (i : Int) < (c.lps.length : Int) := by omega
  have hw : IntKind.i64.wrap ((i : Int) + 1) = ((i + 1 : Nat) : Int) := by rw [qas (by omega) (by omega)]; simp
  have hz : rlpZ c l = 0 := of_decide_eq_true hp
  obtain ⟨⟨y, e, σ⟩, k1, k2⟩ := q2p c i l hx (hll l (List.mem_of_getElem? hx))
  simp only at k2
  rcases k2 with ⟨k3, rfl, k4, rfl, k5, k6⟩ | ⟨k3, x, k7, rfl, k4, rfl, k5⟩
  ·simp only [qio, hi', hw, k1, k4, k5, k6, qcb, qax, Ev.exec, qb, qe, qc, qai, Ev.Opnd.ev, Ev.Env.get, Ev.Env.set, Ev.look, qf, qv, qao, ql, qs, Ev.keep, qal, qaf, qg, qba, qm, qbm, qh, qd, zgi, ↓qn, ↓qa4, Ev.it1, ↓reduceIte, zgb, zfe, zgg, zgh, Nat.reduceEqDiff, zgv, zfc, zfa, zgx, zgy]
  ·have h1 := List.find?_some k7
   have h2 : qkt c x = 0 := by rw [← qmi k7]; exact hz
   simp [h2] at h1
 ·intro i l hi hx hp
  have hi' : (i : Int) < (c.lps.length : Int) := by omega
  have hz : ¬ rlpZ c l = 0 := of_decide_eq_false hp
  obtain ⟨⟨y, e, σ⟩, k1, k2⟩ := q2p c i l hx (hll l (List.mem_of_getElem? hx))
  simp only at k2
  rcases k2 with ⟨k3, rfl, k4, rfl, k5, k6⟩ | ⟨k3, x, k7, rfl, k4, rfl, k5⟩
  ·exact absurd (qqn k3) hz
  ·rw [show rlpZ c l = qkt c x from qmi k7]
   simp only [qio, hi', k1, qcb, qax, Ev.exec, qb, qe, qc, qai, Ev.Opnd.ev, Ev.Env.get, Ev.Env.set, Ev.look, qf, qv, ql, qs, Ev.keep, qal, qaf, qg, qba, qm, qbm, qh, qd, zgi, ↓qn, ↓qa4, Ev.it1, ↓reduceIte, zgb, zfe, zgg, zgh, Nat.reduceEqDiff, zgv, zfc, zfa, zgx, zgy]
   exact ⟨_, rfl, rfl, k4, ⟨x, rfl⟩, k5⟩
 ·simp only [qio, Int.lt_irrefl, Ev.exec, qb, qe, qc, qai, Ev.Opnd.ev, Ev.Env.get, Ev.Env.set, Ev.look, qf, qv, ql, zgi, ↓qn, Ev.it1, ↓reduceIte, zgg, zgh, Nat.reduceEqDiff, zgw, zfa, zgy]
  exact ⟨_, rfl, rfl, rfl, rfl⟩
theorem qzf : qa3 (evL T) qh9 [(.agg [(.fsl ((c.lps).map lpC) false), (.fsl ((c.progs).map qcf) false), (ii c.look), (ii c.fin), (ii c.cap)])] = some (ii (q44 c)) := by
 have hs := qy1 c
 unfold q44
 rw [qa3, qad qw5 qvh]
 cases h1 : qse c with
 | false =>
  rw [h1] at hs
  simp only [qgv, hs, qcb, qax, qj, Ev.exec, qb, qe, qc, qav, qai, Ev.evs, Ev.Opnd.ev, Ev.Env.get, Ev.Env.set, Ev.look, qk, qf, qv, Ev.AV.cells, qo, Ev.AV.plain, qi, qq, qaj, Ev.kill, qag, qg, qba, qa2, qm, qh, qd, qx, ↓qn, ↓reduceIte, zga, zgb, zgc, zfe, Nat.reduceAdd, Nat.reduceEqDiff, zfc, Bool.not_false, zgx, ne_eq, zfb, zff, zfd, Nat.le_refl, zgy]
 | true =>
  rw [h1] at hs
  have h2 := h1
  simp only [qse, Bool.and_eq_true, decide_eq_true_eq, List.all_eq_true] at h2
  obtain ⟨⟨s1, s2, s3⟩, s4, s5⟩ := h2
  have s6 : ∀ l ∈ c.lps, l.length ≤ 8 := fun l hl => by have := s4 l hl; simp [len8] at this; omega
  simp only [Bool.true_eq_false, if_false]
  by_cases hk : c.look < 1
  ·simp only [qgv, hs, hk, qcb, qax, qj, Ev.exec, qb, qe, qc, qav, qai, Ev.evs, Ev.Opnd.ev, Ev.Env.get, Ev.Env.set, Ev.look, qk, qf, qv, Ev.AV.cells, qo, Ev.AV.plain, ql, qi, qq, qaj, Ev.kill, qag, qg, qba, qa2, qm, qh, qd, qx, ↓qn, ↓reduceIte, zga, zgb, zgc, zfe, zgf, zgg, zgh, Nat.reduceAdd, Nat.reduceEqDiff, zgv, zfc, Bool.not_true, zfa, zgx, ne_eq, zfb, zff, zfd, Nat.le_refl, zgy]
  rw [if_neg hk]
  obtain ⟨⟨y, e, σ⟩, k1, k2⟩ := q8f c s3
  obtain ⟨⟨y', e', σ'⟩, m1, m2⟩ := q66 c s2 s6
  simp only at k2 m2
  rcases k2 with ⟨k3, rfl, k4, rfl, k5⟩ | ⟨k3, x, k7, rfl, k4, rfl, k5⟩
  ·rw [qqn k3, if_neg (by simp)]
   rcases m2 with ⟨m3, rfl, m4, rfl⟩ | ⟨m3, x, m7, rfl, m4, ⟨s, rfl⟩, m5⟩
   ·rw [qqn m3]
    simp only [qgv, hs, hk, k1, k4, k5, m1, m4, qcb, qax, qj, Ev.exec, qb, qe, qc, qav, qai, Ev.evs, Ev.Opnd.ev, Ev.Env.get, Ev.Env.set, Ev.look, qk, qf, qv, Ev.AV.cells, qo, Ev.AV.plain, ql, qi, qq, qaj, Ev.kill, qag, qs, Ev.keep, qal, qaf, qg, qba, qa2, qm, qbm, qh, qd, qx, ↓qn, ↓qa4, ↓reduceIte, zga, zgb, zgc, zfe, zgf, zgg, zgh, Nat.reduceAdd, Nat.reduceEqDiff, zgw, zfc, Bool.not_true, zfa, zgx, ne_eq, zfb, zff, zfd, Nat.le_refl, zgy]
   ·rw [qmi m7]
    simp only [qgv, hs, hk, k1, k4, k5, m1, m4, m5, qcb, qax, qj, Ev.exec, qb, qe, qc, qav, qai, Ev.evs, Ev.Opnd.ev, Ev.Env.get, Ev.Env.set, Ev.look, qk, qf, qv, Ev.AV.cells, qo, Ev.AV.plain, ql, qi, qq, qaj, Ev.kill, qag, qs, Ev.keep, qal, qaf, qg, qba, qa2, qm, qbm, qh, qd, qx, ↓qn, ↓qa4, ↓reduceIte, zga, zgb, zgc, zgo, zfe, zgf, zgg, zgh, Nat.reduceAdd, Nat.reduceEqDiff, zgw, zfc, Bool.not_true, zfa, zgx, ne_eq, zfb, zff, zfd, Nat.le_refl, zgy]
  ·have hz := List.find?_some k7
   have hz' : ¬ qsp c x = 0 := by simpa using hz
   rw [qmi k7, if_pos hz']
   simp only [qgv, hs, hk, k1, k4, k5, qcb, qax, qj, Ev.exec, qb, qe, qc, qav, qai, Ev.evs, Ev.Opnd.ev, Ev.Env.get, Ev.Env.set, Ev.look, qk, qf, qv, Ev.AV.cells, qo, Ev.AV.plain, ql, qi, qq, qaj, Ev.kill, qag, qs, Ev.keep, qal, qaf, qg, qba, qa2, qm, qbm, qh, qd, qx, ↓qn, ↓qa4, ↓reduceIte, zga, zgb, zgc, zfe, zgf, zgg, zgh, Nat.reduceAdd, Nat.reduceEqDiff, zgw, zfc, Bool.not_true, zfa, zgx, ne_eq, zfb, zff, zfd, Nat.le_refl, zgy]
end
set_option maxRecDepth 10000
section
variable (c : Cfg)
def l12 (l : List Start) : Bool := !decide ((l.length : Int) > 12)
def l30 (p : List OpI) : Bool := !decide ((p.length : Int) > 30)
def qrp (c : Cfg) : Bool := decide ((c.lps.length : Int) > 12) || (decide ((c.progs.length : Int) > 12) || (!(c.lps.all l12) || !(c.progs.all l30)))
theorem great_l1 (hl : c.lps.length ≤ 12) :
  ∃ y, itB (exec (evL T) itL none qik) (qs [1, 3] true 0) ⟨[(1, (.fptr [(.fsl ((c.lps).map lpC) false), (.fsl ((c.progs).map qcf) false), (ii c.look), (ii c.fin), (ii c.cap)])), (3, (ii 0))], []⟩ [] = some y ∧ (c.lps.all l12 = true ∧ (y.1 = .exit 0 ∧ y.2.1.marks = [] ∧ y.2.2 = [] ∧ Ev.look y.2.1.vars 1 = some (.fptr [(.fsl ((c.lps).map lpC) false), (.fsl ((c.progs).map qcf) false), (ii c.look), (ii c.fin), (ii c.cap)])) ∨
   c.lps.all l12 = false ∧ ∃ x, c.lps.find? (fun x => !l12 x) = some x ∧ (y.1 = .ret ∧ y.2.1.marks = [] ∧ y.2.2 = [] ∧ Ev.look y.2.1.vars 2 = some (bb true))) := by
 refine qg9 c.lps (fun i => ⟨[(1, (.fptr [(.fsl ((c.lps).map lpC) false), (.fsl ((c.progs).map qcf) false), (ii c.look), (ii c.fin), (ii c.cap)])), (3, (ii i))], []⟩) [] l12 _ (fun _ y => _) ?_ ?_ ?_
 ·intro i x hi hx hp
  have hi' : (i : Int) < (c.lps.length : Int) := by omega
  have hw : IntKind.i64.wrap ((i : Int) + 1) = ((i + 1 : Nat) : Int) := by rw [qas (by omega) (by omega)]; simp
  have h1 : ¬ (x.length : Int) > 12 := by simpa [l12] using hp
  simp only [qik, zgs, zgr, zgq, zgt, hx, hi', hw, h1, qcb, qax, lpC, Ev.exec, qb, qe, qc, qai, Ev.Opnd.ev, Ev.Env.get, Ev.Env.set, Ev.look, qf, qv, qao, ql, qbh, qs, Ev.keep, qal, qaf, qg, qba, qm, qbm, qh, qd, zgi, ↓qn, Ev.it1, ↓reduceIte, zga, zgb, zfe, zgg, zgh, Nat.reduceEqDiff, zgv, zgw, zfc, zfa, zgx, zfd, zgy]
 ·intro i x hi hx hp
  have hi' : (i : Int) < (c.lps.length : Int) := by omega
  have h1 : (x.length : Int) > 12 := by simpa [l12] using hp
  simp only [qik, zgs, zgr, zgq, zgt, hx, hi', h1, lpC, Ev.exec, qb, qe, qc, qai, Ev.Opnd.ev, Ev.Env.get, Ev.Env.set, Ev.look, qf, qv, ql, qbh, zgi, ↓qn, Ev.it1, ↓reduceIte, zga, zgb, zgg, zgh, Nat.reduceEqDiff, zgv, zfa, zfd, zgy]
  exact ⟨_, rfl, rfl, rfl, rfl, rfl⟩
 ·simp only [qik, Int.lt_irrefl, Ev.exec, qb, qe, qc, qai, Ev.Opnd.ev, Ev.Env.get, Ev.Env.set, Ev.look, qf, qv, ql, zgi, ↓qn, Ev.it1, ↓reduceIte, zgg, zgh, Nat.reduceEqDiff, zgw, zfa, zgy]
  exact ⟨_, rfl, rfl, rfl, rfl, rfl⟩
theorem great_l2 (hl : c.progs.length ≤ 12) :
  ∃ y, itB (exec (evL T) itL none qic) (qs [1, 4] true 0) ⟨[(1, (.fptr [(.fsl ((c.lps).map lpC) false), (.fsl ((c.progs).map qcf) false), (ii c.look), (ii c.fin), (ii c.cap)])), (4, (ii 0))], []⟩ [] = some y ∧ (c.progs.all l30 = true ∧ (y.1 = .exit 2 ∧ y.2.1.marks = [] ∧ y.2.2 = []) ∨
   c.progs.all l30 = false ∧ ∃ x, c.progs.find? (fun x => !l30 x) = some x ∧ (y.1 = .ret ∧ y.2.1.marks = [] ∧ y.2.2 = [] ∧ Ev.look y.2.1.vars 2 = some (bb true))) := by
 refine qg9 c.progs (fun i => ⟨[(1, (.fptr [(.fsl ((c.lps).map lpC) false), (.fsl ((c.progs).map qcf) false), (ii c.look), (ii c.fin), (ii c.cap)])), (4, (ii i))], []⟩) [] l30 _ (fun _ y => _) ?_ ?_ ?_
 ·intro i x hi hx hp
  have hi' : (i : Int) < (c.progs.length : Int) := by omega
  have hw : IntKind.i64.wrap ((i : Int) + 1) = ((i + 1 : Nat) : Int) := by rw [qas (by omega) (by omega)]; simp
  have h1 : ¬ (x.length : Int) > 30 := by simpa [l30] using hp
  simp only [qic, zgs, zgr, zgq, zgt, hx, hi', hw, h1, qcb, qax, qcf, Ev.exec, qb, qe, qc, qai, Ev.Opnd.ev, Ev.Env.get, Ev.Env.set, Ev.look, qf, qv, qao, ql, qbh, qs, Ev.keep, qal, qaf, qg, qba, qm, qbm, qh, qd, zgi, ↓qn, Ev.it1, ↓reduceIte, zga, zgb, zfe, zgf, zgg, zgh, Nat.reduceEqDiff, zgv, zgw, zfc, zfa, zgx, zfd, zgy]
 ·intro i x hi hx hp
  have hi' : (i : Int) < (c.progs.length : Int) := by omega
  have h1 : (x.length : Int) > 30 := by simpa [l30] using hp
  simp only [qic, zgs, zgr, zgq, zgt, hx, hi', h1, qcf, Ev.exec, qb, qe, qc, qai, Ev.Opnd.ev, Ev.Env.get, Ev.Env.set, Ev.look, qf, qv, ql, qbh, zgi, ↓qn, Ev.it1, ↓reduceIte, zga, zgb, zgf, zgg, zgh, Nat.reduceEqDiff, zgv, zfa, zfd, zgy]
  exact ⟨_, rfl, rfl, rfl, rfl, rfl⟩
 ·simp only [qic, Int.lt_irrefl, Ev.exec, qb, qe, qc, qai, Ev.Opnd.ev, Ev.Env.get, Ev.Env.set, Ev.look, qf, qv, ql, zgi, ↓qn, Ev.it1, ↓reduceIte, zgf, zgg, zgh, Nat.reduceEqDiff, zgw, zfa, zgy]
  exact ⟨_, rfl, rfl, rfl, rfl⟩
theorem qyr : qa3 (evL T) qh2 [(.agg [(.fsl ((c.lps).map lpC) false), (.fsl ((c.progs).map qcf) false), (ii c.look), (ii c.fin), (ii c.cap)])] = some (bb (qrp c)) := by
 rw [qa3, qad qwt qvz]
 by_cases h1 : (c.lps.length : Int) > 12
 ·simp only [qgk, qrp, h1, qj, Ev.exec, qb, qe, qc, qai, Ev.Opnd.ev, Ev.Env.get, Ev.Env.set, Ev.Env.unset, Ev.look, qk, qf, qv, Ev.AV.cells, qo, Ev.AV.plain, qbh, qi, qq, qaj, Ev.kill, qag, qg, qba, qx, zgi, ↓qn, ↓reduceIte, zga, zgb, zfe, zgg, zgh, Nat.reduceEqDiff, zgv, zfc, Bool.true_or, zfa, Bool.true_eq_false, zgx, ne_eq, zfb, zff, zfd, zgy]
 by_cases h2 : (c.progs.length : Int) > 12
 ·simp only [qgk, qrp, h1, h2, qj, Ev.exec, qb, qe, qc, qai, Ev.Opnd.ev, Ev.Env.get, Ev.Env.set, Ev.look, qk, qf, qv, Ev.AV.cells, qo, Ev.AV.plain, qbh, qi, qq, qaj, Ev.kill, qag, qg, qba, qx, zgi, ↓qn, ↓reduceIte, zga, zgb, zfe, zgf, zgg, zgh, Nat.reduceEqDiff, zgv, zgw, zfc, Bool.true_or, Bool.or_true, zfa, zgx, ne_eq, zfb, zff, zfd, zgy]
 obtain ⟨⟨y, e, σ⟩, k1, k2⟩ := great_l1 c (by omega)
 obtain ⟨⟨y', e', σ'⟩, m1, m2⟩ := great_l2 c (by omega)
 simp only at k2 m2
 rcases k2 with ⟨k3, rfl, k4, rfl, k5⟩ | ⟨k3, x, _, rfl, k4, rfl, k5⟩
 ·rcases m2 with ⟨m3, rfl, m4, rfl⟩ | ⟨m3, x, _, rfl, m4, rfl, m5⟩
  ·simp only [qgk, qrp, h1, h2, k1, k3, k4, k5, m1, m3, m4, qcb, qax, Bool.or_self, qj, Ev.exec, qb, qe, qc, qai, Ev.Opnd.ev, Ev.Env.get, Ev.Env.set, Ev.look, qk, qf, qv, Ev.AV.cells, qo, Ev.AV.plain, qbh, qi, qq, qaj, Ev.kill, qag, qs, Ev.keep, qal, qaf, qg, qba, qm, qbm, qh, qd, qx, zgi, ↓qn, ↓qa4, ↓reduceIte, zga, zgb, zfe, zgf, zgg, zgh, Nat.reduceEqDiff, zgw, zfc, Bool.not_true, zfa, zgx, ne_eq, zfb, zff, zfd, zgy]
  ·simp only [qgk, qrp, h1, h2, k1, k3, k4, k5, m1, m3, m4, m5, qcb, qax, Bool.or_true, qj, Ev.exec, qb, qe, qc, qai, Ev.Opnd.ev, Ev.Env.get, Ev.Env.set, Ev.look, qk, qf, qv, Ev.AV.cells, qo, Ev.AV.plain, qbh, qi, qq, qaj, Ev.kill, qag, qs, Ev.keep, qal, qaf, qg, qba, qm, qbm, qh, qd, qx, zgi, ↓qn, ↓qa4, ↓reduceIte, zga, zgb, zfe, zgf, zgg, zgh, Nat.reduceEqDiff, zgw, zfc, Bool.or_true, Bool.not_true, Bool.not_false, zfa, zgx, ne_eq, zfb, zff, zfd, zgy]
 ·simp only [qgk, qrp, h1, h2, k1, k3, k4, k5, qcb, qax, Bool.or_true, Bool.true_or, qj, Ev.exec, qb, qe, qc, qai, Ev.Opnd.ev, Ev.Env.get, Ev.Env.set, Ev.look, qk, qf, qv, Ev.AV.cells, qo, Ev.AV.plain, qbh, qi, qq, qaj, Ev.kill, qag, qs, Ev.keep, qal, qaf, qg, qba, qm, qbm, qh, qd, qx, zgi, ↓qn, ↓qa4, ↓reduceIte, zga, zgb, zfe, zgf, zgg, zgh, Nat.reduceEqDiff, zgw, zfc, Bool.true_or, Bool.or_true, Bool.not_false, zfa, zgx, ne_eq, zfb, zff, zfd, zgy]
theorem qwp (h : qrp c = false) : c.lps.length ≤ 12 ∧ c.progs.length ≤ 12 ∧ (∀ l ∈ c.lps, l.length ≤ 12) ∧ ∀ p ∈ c.progs, p.length ≤ 30 := by
 simp only [qrp, Bool.or_eq_false_iff, decide_eq_false_iff_not, Bool.not_eq_false', List.all_eq_true] at h
 obtain ⟨h1, h2, h3, h4⟩ := h
 exact ⟨by omega, by omega, fun l hl => by have := h3 l hl; simp [l12] at this; omega, fun p hp => by have := h4 p hp; simp [l30] at this; omega⟩
def okB (c : Cfg) : Bool := !qrp c && decide (q44 c = 0)
end
structure OpFull (c : Cfg) (p : List OpI) (op : OpI) : Prop where
 code : 1 ≤ op.code ∧ op.code ≤ 8
 hold : op.code = 1 → 1 ≤ op.a ∧ op.a ≤ 1099511627776
 send : op.code = 2 → 0 ≤ op.a ∧ op.a < c.lps.length ∧ 1 ≤ op.c ∧ op.c ≤ 1099511627776 ∧ c.look ≤ op.c
 timer : op.code = 3 → 1 ≤ op.a ∧ op.a ≤ 1099511627776 ∧ 0 ≤ op.b ∧ op.b < p.length
 spawn : op.code = 5 → 0 ≤ op.a ∧ op.a < c.progs.length ∧ 1 ≤ op.b ∧ op.b ≤ 1099511627776
 reg : op.code = 6 ∨ op.code = 7 → op.a = 0 ∨ op.a = 1
 to : op.code = 7 → 0 ≤ op.c ∧ op.c < p.length
theorem q1i {p : List OpI} {ps lps look : Int} (h : qpb p ps lps look = 0) : qqh p = true ∧ p.all (fun x => qy8 x p.length ps) = true ∧ p.all (q7b lps) = true ∧ p.all (qpz look) = true := by
 unfold qpb at h
 cases h1 : qqh p with
 | false => rw [if_pos h1] at h; cases h
 | true =>
  rw [if_neg (by simp [h1])] at h
  cases h2 : p.all (fun x => qy8 x p.length ps) with
  | false => rw [if_pos h2] at h; cases h
  | true =>
   rw [if_neg (by simp [h2])] at h
   cases h3 : p.all (q7b lps) with
   | false => rw [if_pos h3] at h; cases h
   | true =>
    rw [if_neg (by simp [h3])] at h
    cases h4 : p.all (qpz look) with
    | false => rw [if_pos h4] at h; cases h
    | true => exact ⟨rfl, rfl, rfl, rfl⟩
theorem qq1 {n : Int} : qqk n = true ↔ 1 ≤ n ∧ n ≤ 1099511627776 := by simp [qqk]
structure Valid (c : Cfg) : Prop where
 lps : 1 ≤ c.lps.length ∧ c.lps.length ≤ 8
 progs : c.progs.length ≤ 8
 lp : ∀ l ∈ c.lps, l.length ≤ 8
 cap : 1 ≤ c.cap ∧ c.cap ≤ 64
 fin : 0 ≤ c.fin ∧ c.fin ≤ 1152921504606846976
 look : 1 ≤ c.look
 prog : ∀ p ∈ c.progs, 1 ≤ p.length ∧ p.length ≤ 16 ∧ ∀ op ∈ p, OpFull c p op
 start : ∀ l ∈ c.lps, ∀ s ∈ l, 0 ≤ s.prog ∧ s.prog < c.progs.length ∧ 0 ≤ s.time ∧ s.time ≤ 1152921504606846976
theorem q78 {c : Cfg} {p : List OpI} (h : qpb p c.progs.length c.lps.length c.look = 0) : 1 ≤ p.length ∧ p.length ≤ 16 ∧ ∀ op ∈ p, OpFull c p op := by
 obtain ⟨h1, h2, h3, h4⟩ := q1i h
 simp only [qqh, Bool.and_eq_true, decide_eq_true_eq, List.all_eq_true] at h1 h2 h3 h4
 obtain ⟨⟨h5, h6⟩, h7⟩ := h1
 refine ⟨h5, h6, fun op ho => ?_⟩
 have g1 := h7 op ho
 have g2 := h2 op ho
 have g3 := h3 op ho
 have g4 := h4 op ho
 simp only [q2h, Bool.and_eq_true, decide_eq_true_eq] at g1
 simp only [q7b, qpz, Bool.not_eq_true', Bool.and_eq_false_iff, decide_eq_false_iff_not] at g3 g4
 unfold qy8 at g2
 refine ⟨⟨by omega, by omega⟩, ?_, ?_, ?_, ?_, ?_, ?_⟩
 ·intro k; rw [if_pos k] at g2
  simp only [Bool.and_eq_true, qq1, decide_eq_true_eq] at g2; exact g2.1
 ·intro k
  rw [if_neg (by omega), if_pos k] at g2
  simp only [Bool.and_eq_true, qq1, decide_eq_true_eq] at g2
  refine ⟨g2.1, ?_, g2.2.2.1, g2.2.2.2, ?_⟩
  ·rcases g3 with g3 | g3
   ·exact absurd k g3
   ·omega
  ·rcases g4 with g4 | g4
   ·exact absurd k g4
   ·omega
 ·intro k
  rw [if_neg (by omega), if_neg (by omega), if_pos k] at g2
  simp only [Bool.and_eq_true, qq1, decide_eq_true_eq] at g2
  exact ⟨g2.1.1, g2.1.2, g2.2.1, g2.2.2.1⟩
 ·intro k
  rw [if_neg (by omega), if_neg (by omega), if_neg (by omega), if_pos k] at g2
  simp only [Bool.and_eq_true, qq1, decide_eq_true_eq] at g2
  exact ⟨g2.1, g2.2.1, g2.2.2.1.1, g2.2.2.1.2⟩
 ·rintro (k | k)
  ·rw [if_neg (by omega), if_neg (by omega), if_neg (by omega), if_neg (by omega), if_pos k] at g2
   simp only [Bool.and_eq_true, decide_eq_true_eq] at g2
   obtain ⟨q1, q2, _⟩ := g2
   omega
  ·rw [if_neg (by omega), if_neg (by omega), if_neg (by omega), if_neg (by omega), if_neg (by omega), if_pos k] at g2
   simp only [Bool.and_eq_true, decide_eq_true_eq] at g2
   obtain ⟨q1, q2, _⟩ := g2
   omega
 ·intro k
  rw [if_neg (by omega), if_neg (by omega), if_neg (by omega), if_neg (by omega), if_neg (by omega), if_pos k] at g2
  simp only [Bool.and_eq_true, decide_eq_true_eq] at g2
  exact ⟨g2.2.2.2.1, g2.2.2.2.2⟩
theorem valid_of {c : Cfg} (h : q44 c = 0) : Valid c := by
 unfold q44 at h
 cases h1 : qse c with
 | false => rw [if_pos h1] at h; cases h
 | true =>
  rw [if_neg (by simp [h1])] at h
  by_cases h2 : c.look < 1
  ·rw [if_pos h2] at h; cases h
  rw [if_neg h2] at h
  by_cases h3 : qrk (qsp c) c.progs ≠ 0
  ·rw [if_pos h3] at h; exact absurd h h3
  rw [if_neg h3] at h
  have h4 := qr5.1 (Decidable.of_not_not h3)
  have h5 := qr5.1 h
  simp only [qse, Bool.and_eq_true, decide_eq_true_eq, List.all_eq_true] at h1
  obtain ⟨⟨s1, s2, s3⟩, s4, s5⟩ := h1
  refine ⟨⟨s1, s2⟩, s3, fun l hl => by have := s4 l hl; simp [len8] at this; omega, ⟨s5.1, s5.2.1⟩, ⟨s5.2.2.1, s5.2.2.2⟩, by omega, fun p hp => q78 (h4 p hp), fun l hl s hs => ?_⟩
  have h6 := qr5.1 (h5 l hl) s hs
  unfold qkt at h6
  split at h6
  ·cases h6
  split at h6
  ·cases h6
  ·omega
def qpd (t0 : List Int) (x : Ex) (g : List Int) : Prop := g.length ≤ 40000 ∧ (x.over = true ∨ g = t0 ∨ ∃ ev ∈ x.out, ev.kind = 2 ∧ ev.key = g)
structure EvOk (c : Cfg) (e : Evt) (x : Ex) (k : Nat) (ev : Evt) : Prop where
 time : e.time < ev.time ∧ ev.time ≤ 1152921504606846976
 key : ∃ m : Int, ev.key = e.key ++ [m] ∧ (k : Int) ≤ m ∧ m < x.n
 msg : ev.kind = 3 → 0 ≤ ev.lp ∧ ev.lp < c.lps.length ∧ e.time + c.look ≤ ev.time ∧ c.look ≤ 1099511627776
 own : ev.kind ≠ 3 → ev.lp = e.lp ∧ 0 ≤ ev.proc ∧ ev.proc < x.procs.length ∧ (ev.kind = 1 ∨ ev.kind = 2)
structure EInv (c : Cfg) (e : Evt) (i : Nat) (X : List Pr) (pr : Int) (p : List OpI) (t0 : List Int) (n : Nat) (x : Ex) : Prop where
 ev : x.ev = e
 len : X.length ≤ x.procs.length ∧ x.procs.length ≤ 8
 own : ∃ q, x.procs[i]? = some q ∧ q.prog = pr ∧ 0 ≤ q.pc ∧ q.pc ≤ p.length ∧ (q.timer = [] ∨ qpd t0 x q.timer)
 old : ∀ j, j ≠ i → j < X.length → x.procs[j]? = X[j]?
 new : ∀ j q, X.length ≤ j → x.procs[j]? = some q → q.alive = true ∧ q.pc = 0 ∧ q.timer = [] ∧ 0 ≤ q.prog ∧ q.prog < c.progs.length
 cnt : 0 ≤ x.n ∧ x.n ≤ n ∧ (x.out.length : Int) ≤ x.n
 outs : ∀ k ev, x.out[k]? = some ev → EvOk c e x k ev
 inc : ∀ k ev ev', x.out[k]? = some ev → x.out[k + 1]? = some ev' → ∃ m m', ev.key = e.key ++ [m] ∧ ev'.key = e.key ++ [m'] ∧ m < m'
 gone : ∀ g ∈ x.gone, qpd t0 x g
section
variable {c : Cfg} {e : Evt} {i : Nat} {X : List Pr} {pr : Int} {p : List OpI} {t0 : List Int} {n : Nat} {x : Ex}
theorem EInv.lt (h : EInv c e i X pr p t0 n x) : i < x.procs.length := by
 obtain ⟨q, h1, _⟩ := h.own; exact (List.getElem?_eq_some_iff.1 h1).1
theorem EInv.more (h : EInv c e i X pr p t0 n x) : EInv c e i X pr p t0 (n + 1) x :=
 ⟨h.ev, h.len, h.own, h.old, h.new, by have := h.cnt; omega, h.outs, h.inc, h.gone⟩
theorem EInv.setP (h : EInv c e i X pr p t0 n x) (hiX : i < X.length) {q : Pr} (h1 : q.prog = pr) (h2 : 0 ≤ q.pc ∧ q.pc ≤ p.length) (h3 : q.timer = [] ∨ qpd t0 x q.timer) : EInv c e i X pr p t0 n (x.setP i q) := by
 have hlt := h.lt
 refine ⟨h.ev, by simp only [Ex.setP, List.length_set]; exact h.len, ⟨q, by simp only [Ex.setP]; rw [List.getElem?_set_self hlt], h1, h2.1, h2.2, h3⟩, ?_, ?_, h.cnt, ?_, h.inc, h.gone⟩
 ·intro j hj hl; simp only [Ex.setP]; rw [List.getElem?_set_ne (Ne.symm hj)]; exact h.old j hj hl
 ·intro j q' hl hq; simp only [Ex.setP] at hq; rw [List.getElem?_set_ne (by omega)] at hq; exact h.new j q' hl hq
 ·intro k ev hk
  obtain ⟨a, b, d, f⟩ := h.outs k ev hk
  exact ⟨a, b, d, by simpa only [Ex.setP, List.length_set] using f⟩
theorem EInv.push (h : EInv c e i X pr p t0 n x) {g : List Int} (hg : qpd t0 x g) : EInv c e i X pr p t0 n { x with gone := x.gone ++ [g] } := by
 refine ⟨h.ev, h.len, h.own, h.old, h.new, h.cnt, fun k ev hk => ?_, h.inc, ?_⟩
 ·obtain ⟨a, b, d, f⟩ := h.outs k ev hk; exact ⟨a, b, d, f⟩
 ·intro g' hg'
  rcases List.mem_append.1 hg' with hg' | hg'
  ·exact h.gone g' hg'
  ·simp at hg'; subst hg'; exact hg
theorem EInv.reg (h : EInv c e i X pr p t0 n x) (k v : Int) : EInv c e i X pr p t0 n (x.setReg k v) := by
 unfold Ex.setReg
 split
 ·exact ⟨h.ev, h.len, h.own, h.old, h.new, h.cnt, fun k ev hk => by obtain ⟨a, b, d, f⟩ := h.outs k ev hk; exact ⟨a, b, d, f⟩, h.inc, h.gone⟩
 ·exact ⟨h.ev, h.len, h.own, h.old, h.new, h.cnt, fun k ev hk => by obtain ⟨a, b, d, f⟩ := h.outs k ev hk; exact ⟨a, b, d, f⟩, h.inc, h.gone⟩
theorem EInv.spawn (h : EInv c e i X pr p t0 n x) (hiX : i < X.length) (hl : x.procs.length < 8) {a : Int} (ha : 0 ≤ a ∧ a < c.progs.length) : EInv c e i X pr p t0 n { x with procs := x.procs ++ [⟨a, 0, true, []⟩] } := by
 have hlt := h.lt
 have hln := h.len
 refine ⟨h.ev, by simp; omega, ?_, ?_, ?_, h.cnt, ?_, h.inc, h.gone⟩
 ·obtain ⟨q, h1, h2⟩ := h.own
  exact ⟨q, by show (x.procs ++ _)[i]? = _; rw [List.getElem?_append_left hlt]; exact h1, h2⟩
 ·intro j hj hl'; show (x.procs ++ _)[j]? = _; rw [List.getElem?_append_left (by omega)]; exact h.old j hj hl'
 ·intro j q hj hq
  change (x.procs ++ [⟨a, 0, true, []⟩])[j]? = some q at hq
  by_cases hjl : j < x.procs.length
  ·rw [List.getElem?_append_left hjl] at hq; exact h.new j q hj hq
  ·have hj2 := (List.getElem?_eq_some_iff.1 hq).1
   simp at hj2
   have hje : j = x.procs.length := by omega
   subst hje
   simp at hq
   subst hq
   exact ⟨rfl, rfl, rfl, ha⟩
 ·intro k ev hk
  obtain ⟨a, b, d, f⟩ := h.outs k ev hk
  exact ⟨a, b, d, fun hk' => by obtain ⟨f1, f2, f3, f4⟩ := f hk'; exact ⟨f1, f2, by simp; omega, f4⟩⟩
theorem create_over {d : Int} {s : Evt} (h : x.over = true) : (x.create d s).over = true := by unfold Ex.create; simp only; split <;> first | rfl | exact h
theorem q5i {d : Int} {s ev : Evt} (h : ev ∈ x.out) : ev ∈ (x.create d s).out := by unfold Ex.create; simp only; split <;> first | exact h | exact List.mem_append_left _ h
theorem qpd.create {g : List Int} (h : qpd t0 x g) (d : Int) (s : Evt) : qpd t0 (x.create d s) g := by
 refine ⟨h.1, ?_⟩
 rcases h.2 with h | h | ⟨ev, h1, h2⟩
 ·exact .inl (create_over h)
 ·exact .inr (.inl h)
 ·exact .inr (.inr ⟨ev, q5i h1, h2⟩)
theorem EInv.create (h : EInv c e i X pr p t0 n x) (hn : n ≤ 90) (he : 0 ≤ e.time ∧ e.time ≤ 1152921504606846976) (hk : e.key.length ≤ 30000) {d : Int} (hd : 1 ≤ d ∧ d ≤ 1099511627776) {s : Evt}
  (hm : s.kind = 3 → 0 ≤ s.lp ∧ s.lp < c.lps.length ∧ c.look ≤ d) (ho : s.kind ≠ 3 → s.lp = e.lp ∧ 0 ≤ s.proc ∧ s.proc < x.procs.length ∧ (s.kind = 1 ∨ s.kind = 2)) :
  EInv c e i X pr p t0 (n + 1) (x.create d s) ∧ (s.kind = 2 → qpd t0 (x.create d s) x.kid) := by
 obtain ⟨c1, c2, c3⟩ := h.cnt
 have hw : w64 (x.n + 1) = x.n + 1 := qas (by omega) (by omega)
 have ht : w64 (x.ev.time + d) = e.time + d := by rw [h.ev]; exact qas (by omega) (by omega)
 have hown : ∃ q, (x.create d s).procs[i]? = some q ∧ q.prog = pr ∧ 0 ≤ q.pc ∧ q.pc ≤ p.length ∧ (q.timer = [] ∨ qpd t0 (x.create d s) q.timer) := by
  obtain ⟨q, h1, h2, h3, h4, h5⟩ := h.own
  exact ⟨q, h1, h2, h3, h4, h5.imp id fun g => g.create d s⟩
 have hgone : ∀ g ∈ (x.create d s).gone, qpd t0 (x.create d s) g := fun g hg => (h.gone g hg).create d s
 have hkid : x.kid.length ≤ 40000 := by unfold Ex.kid; rw [h.ev]; simp; omega
 by_cases hov : e.time + d > 1152921504606846976
 ·have hx : x.create d s = { x with n := x.n + 1, over := true } := by unfold Ex.create; rw [hw, ht, if_pos hov, if_pos hov]
  rw [hx] at hown hgone ⊢
  refine ⟨⟨h.ev, h.len, hown, h.old, h.new, ⟨by show 0 ≤ x.n + 1; omega, by show x.n + 1 ≤ ((n + 1 : Nat) : Int); omega, by show (x.out.length : Int) ≤ x.n + 1; omega⟩, fun k ev hk' => ?_, h.inc, hgone⟩, fun _ => ⟨hkid, .inl rfl⟩⟩
  obtain ⟨a, ⟨m, b1, b2, b3⟩, d, f⟩ := h.outs k ev hk'
  exact ⟨a, ⟨m, b1, b2, by show m < x.n + 1; omega⟩, d, f⟩
 ·have hx : x.create d s = { x with n := x.n + 1, out := x.out ++ [⟨e.time + d, e.key ++ [x.n], s.lp, s.kind, s.proc, s.arg⟩] } := by unfold Ex.create Ex.kid; rw [hw, ht, if_neg hov, if_neg hov, h.ev]
  rw [hx] at hown hgone ⊢
  refine ⟨⟨h.ev, h.len, hown, h.old, h.new, ⟨by show 0 ≤ x.n + 1; omega, by show x.n + 1 ≤ ((n + 1 : Nat) : Int); omega, by show ((x.out ++ _).length : Int) ≤ x.n + 1; simp; omega⟩, fun k ev hk' => ?_, ?_, hgone⟩, fun hs => ⟨hkid, .inr (.inr ⟨_, List.mem_append_right _ (List.mem_singleton.2 rfl), hs, by unfold Ex.kid; rw [h.ev]⟩)⟩⟩
  ·change (x.out ++ [_])[k]? = some ev at hk'
   by_cases hkl : k < x.out.length
   ·rw [List.getElem?_append_left hkl] at hk'
    obtain ⟨a, ⟨m, b1, b2, b3⟩, d, f⟩ := h.outs k ev hk'
    exact ⟨a, ⟨m, b1, b2, by show m < x.n + 1; omega⟩, d, f⟩
   ·have hk2 := (List.getElem?_eq_some_iff.1 hk').1
    simp at hk2
    have hke : k = x.out.length := by omega
    subst hke
    simp at hk'
    subst hk'
    refine ⟨⟨by show e.time < e.time + d; omega, by show e.time + d ≤ _; omega⟩, ⟨x.n, rfl, c3, by show x.n < x.n + 1; omega⟩, fun hs => ?_, fun hs => ho hs⟩
    obtain ⟨m1, m2, m3⟩ := hm hs
    exact ⟨m1, m2, by show e.time + c.look ≤ e.time + d; omega, by omega⟩
  ·intro k ev ev' h1 h2
   change (x.out ++ [_])[k]? = some ev at h1
   change (x.out ++ [_])[k + 1]? = some ev' at h2
   have hk2 := (List.getElem?_eq_some_iff.1 h2).1
   simp at hk2
   rw [List.getElem?_append_left (by omega)] at h1
   by_cases hkl : k + 1 < x.out.length
   ·rw [List.getElem?_append_left hkl] at h2; exact h.inc k ev ev' h1 h2
   ·have hke : k + 1 = x.out.length := by omega
    rw [hke] at h2
    simp at h2
    subst h2
    obtain ⟨m, b1, b2, b3⟩ := (h.outs k ev h1).key
    exact ⟨m, x.n, b1, rfl, b3⟩
theorem EInv.stop (h : EInv c e i X pr p t0 n x) (hiX : i < X.length) {q : Pr} (hq : x.procs[i]? = some q) : EInv c e i X pr p t0 n (x.stopE i q) := by
 obtain ⟨q', h1, h2, h3, h4, h5⟩ := h.own
 rw [hq] at h1; cases h1
 unfold Ex.stopE
 split
 next hl =>
  have hg : qpd t0 x q.timer := by
   rcases h5 with h5 | h5
   ·rw [h5] at hl; simp at hl
   ·exact h5
  exact (h.push hg).setP (q := { q with timer := [] }) hiX h2 ⟨h3, h4⟩ (.inl rfl)
 next => exact h
theorem EInv.step (h : EInv c e i X pr p t0 n x) (hiX : i < X.length) (hn : n ≤ 90) (he : 0 ≤ e.time ∧ e.time ≤ 1152921504606846976) (hk : e.key.length ≤ 30000) (hpr : e.proc = i) {q : Pr} (hq : x.procs[i]? = some q) {op : OpI} (ho : OpFull c p op) :
  EInv c e i X pr p t0 (n + 1) (qc4 x i q op).1 := by
 have hlt := h.lt
 obtain ⟨q', h1, h2, h3, h4, h5⟩ := h.own
 rw [hq] at h1; cases h1
 unfold qc4
 split
 next k => exact (h.create hn he hk (ho.hold k) (fun hs => absurd hs (by show ¬ (1 : Int) = 3; decide)) (fun _ => ⟨by show x.ev.lp = e.lp; rw [h.ev], by show 0 ≤ x.ev.proc; rw [h.ev, hpr]; omega, by show x.ev.proc < _; rw [h.ev, hpr]; omega, .inl rfl⟩)).1
 split
 next k =>
  obtain ⟨s1, s2, s3, s4, s5⟩ := ho.send k
  exact (h.create hn he hk ⟨s3, s4⟩ (s := ⟨0, [], op.a, 3, 0, op.b⟩) (fun _ => ⟨s1, s2, s5⟩) (fun hs => absurd rfl hs)).1
 split
 next k =>
  obtain ⟨s1, s2, s3, s4⟩ := ho.timer k
  have hst := h.stop hiX hq
  obtain ⟨g1, g2⟩ := hst.create hn he hk ⟨s1, s2⟩ (s := x.ownE 2 x.ev.proc op.b) (fun hs => absurd hs (by show ¬ (2 : Int) = 3; decide)) (fun _ => ⟨by show x.ev.lp = e.lp; rw [h.ev], by show 0 ≤ x.ev.proc; rw [h.ev, hpr]; omega, by show x.ev.proc < _; rw [h.ev, hpr]; have := hst.lt; omega, .inr rfl⟩)
  exact g1.setP (q := { q with timer := (x.stopE i q).kid }) hiX h2 ⟨h3, h4⟩ (.inr (g2 rfl))
 split
 next k => exact (h.stop hiX hq).more
 split
 next k =>
  obtain ⟨s1, s2, s3, s4⟩ := ho.spawn k
  unfold Ex.spawnE
  split
  next hl => exact ((h.spawn hiX hl ⟨s1, s2⟩).create hn he hk ⟨s3, s4⟩ (s := x.ownE 1 x.procs.length 0) (fun hs => absurd hs (by show ¬ (1 : Int) = 3; decide)) (fun _ => ⟨by show x.ev.lp = e.lp; rw [h.ev], by show (0 : Int) ≤ (x.procs.length : Int); omega, by show (x.procs.length : Int) < _; simp; omega, .inl rfl⟩)).1
  next => exact h.more
 split
 next k => exact (h.reg _ _).more
 split
 next k =>
  obtain ⟨s1, s2⟩ := ho.to k
  split
  ·exact (h.setP (q := { q with pc := op.c }) hiX h2 ⟨s1, by show op.c ≤ _; omega⟩ h5).more
  ·exact h.more
 next => exact h.more
theorem EInv.kill (h : EInv c e i X pr p t0 n x) (hiX : i < X.length) : EInv c e i X pr p t0 n (qk5 x i) := by
 obtain ⟨q, h1, h2, h3, h4, h5⟩ := h.own
 unfold qk5; rw [h1]
 exact h.setP (q := { q with alive := false }) hiX h2 ⟨h3, h4⟩ h5
theorem EInv.stepR (h : EInv c e i X pr p t0 n x) (hiX : i < X.length) (hn : n ≤ 90) (he : 0 ≤ e.time ∧ e.time ≤ 1152921504606846976) (hk : e.key.length ≤ 30000) (hpl : p.length ≤ 1000) (hpr : e.proc = i) {q : Pr} (hq : x.procs[i]? = some q) {op : OpI} (hop : p[q.pc.toNat]? = some op) (ho : OpFull c p op) :
  EInv c e i X pr p t0 (n + 1) (stepR x i q op).1 := by
 have hlt := h.lt
 obtain ⟨q', h1, h2, h3, h4, h5⟩ := h.own
 rw [hq] at h1; cases h1
 have hpc := (List.getElem?_eq_some_iff.1 hop).1
 have hw : w64 (q.pc + 1) = q.pc + 1 := qas (by omega) (by omega)
 have hz := h.setP (q := q.inc) hiX h2 ⟨by show 0 ≤ w64 (q.pc + 1); rw [hw]; omega, by show w64 (q.pc + 1) ≤ _; rw [hw]; omega⟩ h5
 have hzq : (x.setP i q.inc).procs[i]? = some q.inc := by simp only [Ex.setP]; rw [List.getElem?_set_self hlt]
 have hs := hz.step hiX hn he hk hpr hzq ho
 unfold K.stepR
 split
 ·exact hs
 split
 ·exact hs.kill hiX
 ·exact hs
theorem EInv.act (hiX : i < X.length) (he : 0 ≤ e.time ∧ e.time ≤ 1152921504606846976) (hk : e.key.length ≤ 30000) (hpl : p.length ≤ 1000) (hpr : e.proc = i) (ho : ∀ op ∈ p, OpFull c p op) :
  ∀ (m n : Nat) (x : Ex), n + m ≤ 90 → EInv c e i X pr p t0 n x → EInv c e i X pr p t0 (n + m) (qkg p i m x)
 | 0, n, x, _, h => h.kill hiX
 | m + 1, n, x, hnm, h => by
  obtain ⟨q, h1, h2⟩ := h.own
  have mono : ∀ {k : Nat} {y : Ex}, EInv c e i X pr p t0 k y → ∀ l, k ≤ l → EInv c e i X pr p t0 l y := by
   intro k y hy l hl
   exact ⟨hy.ev, hy.len, hy.own, hy.old, hy.new, by have := hy.cnt; omega, hy.outs, hy.inc, hy.gone⟩
  rw [qwl p i m x q h1]
  cases hop : p[q.pc.toNat]? with
  | none => exact mono (h.kill hiX) _ (by omega)
  | some op =>
   have hs := h.stepR hiX (by omega) he hk hpl hpr h1 hop (ho op (List.mem_of_getElem? hop))
   simp only
   split
   ·exact mono hs _ (by omega)
   ·have := EInv.act hiX he hk hpl hpr ho m (n + 1) _ (by omega) hs
    rw [show n + (m + 1) = n + 1 + m from by omega]; exact this
end
set_option maxRecDepth 10000
def badP (c : Cfg) (q : Pr) : Bool := !(decide (0 ≤ q.prog) && (decide (q.prog < c.progs.length) && (decide (0 ≤ q.pc) && decide (q.pc ≤ (((c.progs[q.prog.toNat]?).getD []).length : Int)))))
theorem not_lt_zero {x : Int} (h : ¬ x < 0) : 0 ≤ x := by omega
set_option maxRecDepth 10000
set_option maxRecDepth 10000
structure Ready (c : Cfg) (x : Lp) (e : Evt) : Prop where
 valid : Valid c
 len : x.procs.length ≤ 8
 proc : ∀ q ∈ x.procs, 0 ≤ q.prog ∧ q.prog < c.progs.length ∧ 0 ≤ q.pc ∧ q.pc ≤ ((c.progs[q.prog.toNat]?).getD []).length ∧ q.timer.length ≤ 30000
 time : 0 ≤ e.time ∧ e.time ≤ 1152921504606846976
 key : e.key.length ≤ 30000
 arg : ∀ q, qlc x e = some q → e.kind = 2 → 0 ≤ e.arg ∧ e.arg ≤ ((c.progs[q.prog.toNat]?).getD []).length
theorem q6p {c : Cfg} {p : List OpI} {op : OpI} (h : OpFull c p op) (hp : p.length ≤ 16) : OpOk' op := ⟨h.code, h.reg, fun k => by have := h.to k; omega⟩
section
variable {c : Cfg} {x : Lp} {e : Evt}
theorem q1d {q : Pr} (h : qlc x e = some q) : (e.kind = 1 ∨ e.kind = 2) ∧ 0 ≤ e.proc ∧ x.procs[e.proc.toNat]? = some q ∧ q.alive = true := by
 unfold qlc at h
 split at h
 case isFalse => cases h
 rename_i hc
 rw [Option.bind_eq_some_iff] at h
 obtain ⟨q', hq, ha⟩ := h
 split at ha
 case isFalse => cases ha
 rename_i hal
 cases ha
 exact ⟨hc.1, hc.2, hq, hal⟩
theorem Ready.ops (h : Ready c x e) {p : List OpI} (hp : p ∈ c.progs) : p.length ≤ 16 ∧ ∀ op ∈ p, OpFull c p op := ⟨(h.valid.prog p hp).2.1, (h.valid.prog p hp).2.2⟩
theorem Ready.plen (h : Ready c x e) (k : Nat) : ((c.progs[k]?).getD []).length ≤ 16 := by
 cases hk : c.progs[k]? with
 | none => simp
 | some p => simpa using (h.ops (List.mem_of_getElem? hk)).1
theorem Ready.execOk (h : Ready c x e) {q : Pr} (ha : qlc x e = some q) : qs6 c x e :=
 ⟨by have := h.len; omega, by have := h.key; omega, fun q hq => by obtain ⟨a, b, d, f, g⟩ := h.proc q hq; have := h.plen q.prog.toNat; exact ⟨a, b, d, by omega, by omega⟩,
  fun p hp => ⟨by have := (h.ops hp).1; omega, fun op ho => q6p ((h.ops hp).2 op ho) (h.ops hp).1⟩, fun k => by have := h.arg q ha k; have := h.plen q.prog.toNat; omega⟩
theorem Ready.inv (h : Ready c x e) {q : Pr} (ha : qlc x e = some q) : ∃ (i : Nat) (p : List OpI), e.proc = i ∧ x.procs[i]? = some q ∧ p ∈ c.progs ∧ c.progs[q.prog.toNat]? = some p ∧ EInv c e i x.procs q.prog p q.timer 16 (qpg c x e q) := by
 obtain ⟨a1, a2, a3, a4⟩ := q1d ha
 obtain ⟨i, hi⟩ : ∃ i : Nat, e.proc = i := ⟨_, (Int.toNat_of_nonneg a2).symm⟩
 have hin : e.proc.toNat = i := by omega
 rw [hin] at a3
 obtain ⟨p1, p2, p3, p4, p5⟩ := h.proc q (List.mem_of_getElem? a3)
 obtain ⟨p, hp⟩ : ∃ p, c.progs[q.prog.toNat]? = some p := ⟨_, List.getElem?_eq_getElem (by omega)⟩
 have hpm := List.mem_of_getElem? hp
 have hlt := (List.getElem?_eq_some_iff.1 a3).1
 have hgd : ((c.progs[q.prog.toNat]?).getD []).length = p.length := by rw [hp]; rfl
 rw [hgd] at p4
 refine ⟨i, p, hi, a3, hpm, hp, ?_⟩
 have hrun : qpg c x e q = qkg p i 16 ((qcg x e).setP i (qib e q)) := by unfold qpg; rw [hin, hp]; rfl
 rw [hrun]
 have hg : q.timer = [] ∨ qpd q.timer (qcg x e) q.timer := .inr ⟨by omega, .inr (.inl rfl)⟩
 have h0 : EInv c e i x.procs q.prog p q.timer 0 (qcg x e) := by
  refine ⟨rfl, ⟨Nat.le_refl _, h.len⟩, ⟨q, a3, rfl, p3, p4, hg⟩, fun j _ _ => rfl, fun j q' hj hq' => ?_, ⟨Int.le_refl 0, Int.le_refl 0, Int.le_refl 0⟩, fun k ev hk => by simp [qcg] at hk, fun k ev ev' hk => by simp [qcg] at hk, fun g hg => by simp [qcg] at hg⟩
  have := (List.getElem?_eq_some_iff.1 hq').1
  change j < x.procs.length at this
  omega
 have h1 : EInv c e i x.procs q.prog p q.timer 0 ((qcg x e).setP i (qib e q)) := by
  refine h0.setP hlt (qx7 e q) ?_ ?_
  ·unfold qib; split
   next k => have := h.arg q ha k; rw [hgd] at this; exact this
   next => exact ⟨p3, p4⟩
  ·unfold qib; split
   ·by_cases ht : q.timer = e.key
    ·simp [ht]
    ·simp only [ht, if_false]; exact hg
   ·exact hg
 have := EInv.act hlt h.time (by have := h.key; omega) (by have := (h.ops hpm).1; omega) hi (h.ops hpm).2 16 0 _ (by omega) h1
 exact this
theorem ActInv.act {i : Nat} {p : List OpI} (hpl : p.length ≤ 1000) (ho : ∀ op ∈ p, OpOk' op) : ∀ (m n : Nat) (y : Ex), ActInv e i n y → ActInv e i (n + m) (qkg p i m y)
 | 0, n, y, h => by
  obtain ⟨q, h1, h2⟩ := h.has
  show ActInv e i n (qk5 y i)
  unfold qk5; rw [h1]; exact h.pc h1 h2 false
 | m + 1, n, y, h => by
  have mono : ∀ {k : Nat} {z : Ex}, ActInv e i k z → ∀ l, k ≤ l → ActInv e i l z := fun hz l hl => ⟨hz.ev, hz.has, hz.procs, by have := hz.out; omega, by have := hz.gone; omega⟩
  obtain ⟨q, h1, h2⟩ := h.has
  rw [qwl p i m y q h1]
  cases hop : p[q.pc.toNat]? with
  | none =>
   refine mono (k := n) ?_ _ (by omega)
   show ActInv e i n (qk5 y i)
   unfold qk5; rw [h1]; exact h.pc h1 h2 false
  | some op =>
   have hlp := (List.getElem?_eq_some_iff.1 hop).1
   have hs := h.stepR h1 ⟨by omega, by omega⟩ (ho op (List.mem_of_getElem? hop))
   simp only
   split
   ·exact mono hs _ (by omega)
   ·have := ActInv.act hpl ho m (n + 1) _ hs
    rw [show n + (m + 1) = n + 1 + m from by omega]; exact this
theorem Ready.goneLen (h : Ready c x e) {q : Pr} (ha : qlc x e = some q) : (qpg c x e q).gone.length ≤ 16 := by
 obtain ⟨i, p, hi, hq, hpm, hp, _⟩ := h.inv ha
 have hin : e.proc.toNat = i := by omega
 have hrun : qpg c x e q = qkg p i 16 ((qcg x e).setP i (qib e q)) := by unfold qpg; rw [hin, hp]; rfl
 have h0 := qx1 c x e (h.execOk ha) hi hq
 have := ActInv.act (by have := (h.ops hpm).1; omega) (fun op ho => q6p ((h.ops hpm).2 op ho) (h.ops hpm).1) 16 0 _ h0
 rw [hrun]; have := this.gone; omega
structure XRes where
 lp : Lp
 out : List Evt
 gone : List (List Int)
 over : Bool
 nil : Bool
def qbf (c : Cfg) (x : Lp) (e : Evt) : XRes :=
 if e.kind = 3 then ⟨⟨x.r0, x.r1, x.procs, w64 (x.sum + e.arg)⟩, [], [], false, true⟩
 else match qlc x e with
  | none => ⟨x, [], [], false, true⟩
  | some q => ⟨q09 (qpg c x e q), (qpg c x e q).out, (qpg c x e q).gone, (qpg c x e q).over, false⟩
theorem Exec_ev (h : Ready c x e) : qa3 (evL T) qdp [(.agg [(.fsl ((c.lps).map lpC) false), (.fsl ((c.progs).map qcf) false), (ii c.look), (ii c.fin), (ii c.cap)]), (.agg [(ii x.r0), (ii x.r1), (.fsl ((x.procs).map Pr.r) false), (ii x.sum)]), (.agg [(ii e.time), (.fsl ((e.key).map qby) false), (ii e.lp), (ii e.kind), (ii e.proc), (ii e.arg)])] = some (.tup [(.agg [(ii ((qbf c x e).lp.r0)), (ii ((qbf c x e).lp.r1)), (.fsl (((qbf c x e).lp.procs).map Pr.r) false), (ii ((qbf c x e).lp.sum))]), (.fsl (((qbf c x e).out).map Evt.r) (qbf c x e).nil), (.fsl (((qbf c x e).gone).map qep) (qbf c x e).nil), (bb ((qbf c x e).over))]) := by
 unfold qbf
 by_cases hk : e.kind = 3
 ·rw [if_pos hk]; exact Exec_msg c x e hk
 rw [if_neg hk]
 cases ha : qlc x e with
 | none => exact q7y c x e hk ha
 | some q => exact Exec_run c x e (h.execOk ha) ha
theorem RExec_ev (h : Ready c x e) : qa3 (evL T) qeu [(.agg [(.fsl ((c.lps).map lpC) false), (.fsl ((c.progs).map qcf) false), (ii c.look), (ii c.fin), (ii c.cap)]), (.agg [(ii x.r0), (ii x.r1), (.fsl ((x.procs).map Pr.r) false), (ii x.sum)]), (.agg [(ii e.time), (.fsl ((e.key).map qby) false), (ii e.lp), (ii e.kind), (ii e.proc), (ii e.arg)])] = some (.tup [(.agg [(ii ((qbf c x e).lp.r0)), (ii ((qbf c x e).lp.r1)), (.fsl (((qbf c x e).lp.procs).map Pr.r) false), (ii ((qbf c x e).lp.sum))]), (.fsl (((qbf c x e).out).map Evt.r) (qbf c x e).nil), (.fsl (((qbf c x e).gone).map qep) (qbf c x e).nil), (bb ((qbf c x e).over))]) := by
 unfold qbf
 by_cases hk : e.kind = 3
 ·rw [if_pos hk]; exact q7r c x e hk
 rw [if_neg hk]
 cases ha : qlc x e with
 | none => exact q58 c x e hk ha
 | some q => exact q7e c x e (h.execOk ha) ha
theorem Ready.sizes (h : Ready c x e) : (qbf c x e).lp.procs.length ≤ 8 ∧ (∀ q ∈ (qbf c x e).lp.procs, q.timer.length ≤ 40000) ∧ (qbf c x e).out.length ≤ 16 ∧ (∀ ev ∈ (qbf c x e).out, ev.key.length ≤ 40000) ∧ (∀ g ∈ (qbf c x e).gone, g.length ≤ 40000) ∧ (qbf c x e).gone.length ≤ 16 := by
 unfold qbf
 by_cases hk : e.kind = 3
 ·rw [if_pos hk]
  exact ⟨h.len, fun q hq => by have := (h.proc q hq).2.2.2.2; omega, by simp, fun _ h => by simp at h, fun _ h => by simp at h, by simp⟩
 rw [if_neg hk]
 cases ha : qlc x e with
 | none => exact ⟨h.len, fun q hq => by have := (h.proc q hq).2.2.2.2; omega, by simp, fun _ h => by simp at h, fun _ h => by simp at h, by simp⟩
 | some q =>
  obtain ⟨i, p, hi, hq, hpm, hp, hI⟩ := h.inv ha
  refine ⟨hI.len.2, fun q' hq' => ?_, by have := hI.cnt; show (qpg c x e q).out.length ≤ 16; omega, fun ev hev => ?_, fun g hg => (hI.gone g hg).1, h.goneLen ha⟩
  ·obtain ⟨j, hj⟩ := List.mem_iff_getElem?.1 hq'
   change (qpg c x e q).procs[j]? = some q' at hj
   by_cases hji : j = i
   ·obtain ⟨q2, b1, _, _, _, b5⟩ := hI.own
    subst hji
    rw [hj] at b1; cases b1
    rcases b5 with b5 | b5
    ·rw [b5]; simp
    ·exact b5.1
   ·by_cases hjl : j < x.procs.length
    ·rw [hI.old j hji hjl] at hj
     have := (h.proc q' (List.mem_of_getElem? hj)).2.2.2.2; omega
    ·rw [(hI.new j q' (by omega) hj).2.2.1]; simp
  ·obtain ⟨k, hk'⟩ := List.mem_iff_getElem?.1 hev
   obtain ⟨m, hm, _⟩ := (hI.outs k ev hk').key
   rw [hm]; have := h.key; simp; omega
end
set_option maxRecDepth 10000
section
variable {c : Cfg} {x : Lp} {e : Evt}
theorem Ready.cases (h : Ready c x e) : (e.kind = 3 ∧ qbf c x e = ⟨⟨x.r0, x.r1, x.procs, w64 (x.sum + e.arg)⟩, [], [], false, true⟩) ∨ (¬ e.kind = 3 ∧ qlc x e = none ∧ qbf c x e = ⟨x, [], [], false, true⟩) ∨
  ∃ q, ¬ e.kind = 3 ∧ qlc x e = some q ∧ qbf c x e = ⟨q09 (qpg c x e q), (qpg c x e q).out, (qpg c x e q).gone, (qpg c x e q).over, false⟩ := by
 unfold qbf
 by_cases hk : e.kind = 3
 ·exact .inl ⟨hk, if_pos hk⟩
 ·rw [if_neg hk]
  cases ha : qlc x e with
  | none => exact .inr (.inl ⟨hk, rfl, rfl⟩)
  | some q => exact .inr (.inr ⟨q, hk, rfl, rfl⟩)
theorem Ready.outs (h : Ready c x e) : ∃ X : Ex, X.procs = (qbf c x e).lp.procs ∧ (∀ k ev, (qbf c x e).out[k]? = some ev → EvOk c e X k ev) ∧
  ∀ k ev ev', (qbf c x e).out[k]? = some ev → (qbf c x e).out[k + 1]? = some ev' → ∃ m m', ev.key = e.key ++ [m] ∧ ev'.key = e.key ++ [m'] ∧ m < m' := by
 rcases h.cases with ⟨_, hx⟩ | ⟨_, _, hx⟩ | ⟨q, _, ha, hx⟩
 ·rw [hx]; exact ⟨qcg x e, rfl, fun k ev hk => by simp at hk, fun k ev ev' hk => by simp at hk⟩
 ·rw [hx]; exact ⟨qcg x e, rfl, fun k ev hk => by simp at hk, fun k ev ev' hk => by simp at hk⟩
 ·rw [hx]
  obtain ⟨i, p, hi, hq, hpm, hp, hI⟩ := h.inv ha
  exact ⟨qpg c x e q, rfl, hI.outs, hI.inc⟩
theorem Ready.state (h : Ready c x e) : x.procs.length ≤ (qbf c x e).lp.procs.length ∧ ∀ (j : Nat) (q' : Pr), (qbf c x e).lp.procs[j]? = some q' →
  (badP c q' = false ∧ (x.procs.length ≤ j → q'.alive = true ∧ q'.pc = 0) ∧ ∀ q, x.procs[j]? = some q → q'.prog = q.prog ∧ ((j : Int) ≠ e.proc → q' = q)) := by
 have old : ∀ q ∈ x.procs, badP c q = false := by
  intro q hq
  obtain ⟨a, b, d, f, g⟩ := h.proc q hq
  simp only [badP, a, b, d, f, zgv, zfc, Bool.not_true]
 rcases h.cases with ⟨_, hx⟩ | ⟨_, _, hx⟩ | ⟨q0, _, ha, hx⟩
 ·rw [hx]
  refine ⟨Nat.le_refl _, fun j q' hj => ⟨old q' (List.mem_of_getElem? hj), fun hl => ?_, fun q hq => ?_⟩⟩
  ·have := (List.getElem?_eq_some_iff.1 hj).1; simp only at this; omega
  ·simp only at hj; rw [hq] at hj; cases hj; exact ⟨rfl, fun _ => rfl⟩
 ·rw [hx]
  refine ⟨Nat.le_refl _, fun j q' hj => ⟨old q' (List.mem_of_getElem? hj), fun hl => ?_, fun q hq => ?_⟩⟩
  ·have := (List.getElem?_eq_some_iff.1 hj).1; simp only at this; omega
  ·simp only at hj; rw [hq] at hj; cases hj; exact ⟨rfl, fun _ => rfl⟩
 ·rw [hx]
  obtain ⟨i, p, hi, hq0, hpm, hp, hI⟩ := h.inv ha
  have hlt := (List.getElem?_eq_some_iff.1 hq0).1
  obtain ⟨p1, p2, p3, p4, p5⟩ := h.proc q0 (List.mem_of_getElem? hq0)
  refine ⟨hI.len.1, fun j q' hj => ?_⟩
  change (qpg c x e q0).procs[j]? = some q' at hj
  by_cases hji : j = i
  ·subst hji
   obtain ⟨q2, b1, b2, b3, b4, b5⟩ := hI.own
   rw [hj] at b1; cases b1
   refine ⟨?_, fun hl => by omega, fun q hq => ?_⟩
   ·simp only [badP, b2, b3, b4, hp, p1, p2, Option.getD_some, zgv, zfc, Bool.not_true]
   ·rw [hq0] at hq; cases hq; exact ⟨b2, fun hne => absurd hi.symm hne⟩
  ·by_cases hjl : j < x.procs.length
   ·rw [hI.old j hji hjl] at hj
    refine ⟨old q' (List.mem_of_getElem? hj), fun hl => by omega, fun q hq => ?_⟩
    rw [hq] at hj; cases hj; exact ⟨rfl, fun _ => rfl⟩
   ·obtain ⟨n1, n2, n3, n4, n5⟩ := hI.new j q' (by omega) hj
    refine ⟨?_, fun _ => ⟨n1, n2⟩, fun q hq => ?_⟩
    ·simp [badP, n2, n4, n5]
    ·have := (List.getElem?_eq_some_iff.1 hq).1; omega
end
set_option maxRecDepth 10000
structure TOk (e : Evt) (L : Nat) (ev : Evt) : Prop where
 tim : ev.kind = 2 → ev.proc = e.proc ∧ 0 ≤ ev.arg ∧ ev.arg < L
 msg : ev.kind = 3 → ev.proc = 0
def qpw (e : Evt) (L B : Nat) (x : Ex) : Prop := x.ev = e ∧ (∀ ev ∈ x.out, TOk e L ev) ∧ ∀ q ∈ x.procs, q.timer.length ≤ B
section
variable {e : Evt} {L B : Nat} {x : Ex}
theorem qpw.same (h : qpw e L B x) {y : Ex} (h1 : y.ev = x.ev) (h2 : y.out = x.out) (h3 : y.procs = x.procs) : qpw e L B y := ⟨by rw [h1]; exact h.1, by rw [h2]; exact h.2.1, by rw [h3]; exact h.2.2⟩
theorem qpw.setP (h : qpw e L B x) (i : Nat) {q : Pr} (hq : q.timer.length ≤ B) : qpw e L B (x.setP i q) := by
 refine ⟨h.1, h.2.1, fun q' hq' => ?_⟩
 rcases List.mem_or_eq_of_mem_set hq' with hq' | rfl
 ·exact h.2.2 q' hq'
 ·exact hq
theorem qpw.at (h : qpw e L B x) {i : Nat} {q : Pr} (hq : x.procs[i]? = some q) : q.timer.length ≤ B := h.2.2 q (List.mem_of_getElem? hq)
theorem qpw.create (h : qpw e L B x) (d : Int) {s : Evt} (hs : s.kind = 2 → s.proc = e.proc ∧ 0 ≤ s.arg ∧ s.arg < L) (hm : s.kind = 3 → s.proc = 0) : qpw e L B (x.create d s) := by
 refine ⟨h.1, fun ev hev => ?_, h.2.2⟩
 unfold Ex.create at hev
 simp only at hev
 split at hev
 ·exact h.2.1 ev hev
 ·rcases List.mem_append.1 hev with hev | hev
  ·exact h.2.1 ev hev
  ·rw [List.mem_singleton] at hev; subst hev; exact ⟨hs, hm⟩
theorem qpw.stop (h : qpw e L B x) (i : Nat) (q : Pr) : qpw e L B (x.stopE i q) := by
 unfold Ex.stopE; split
 ·exact qpw.same (h.setP i (q := { q with timer := [] }) (Nat.zero_le _)) rfl rfl rfl
 ·exact h
theorem qpw.kill (h : qpw e L B x) (i : Nat) : qpw e L B (qk5 x i) := by
 unfold qk5; split
 next q hq => exact h.setP i (q := { q with alive := false }) (show q.timer.length ≤ B from h.at hq)
 ·exact h
theorem qpw.step (h : qpw e L B x) (i : Nat) (q : Pr) (op : OpI) (hq : q.timer.length ≤ B) (hB : e.key.length + 1 ≤ B) (ho : op.code = 3 → 0 ≤ op.b ∧ op.b < L) : qpw e L B (qc4 x i q op).1 := by
 have he := h.1
 unfold qc4
 split
 ·exact h.create _ (fun k => absurd k (by show ¬ (1 : Int) = 2; decide)) (fun k => absurd k (by show ¬ (1 : Int) = 3; decide))
 split
 ·exact h.create _ (fun k => absurd k (by show ¬ (3 : Int) = 2; decide)) (fun _ => rfl)
 split
 next k =>
  show qpw e L B (x.timerE i q op)
  unfold Ex.timerE
  refine qpw.setP ((h.stop i q).create op.a (s := x.ownE 2 x.ev.proc op.b) (fun _ => ⟨by show x.ev.proc = e.proc; rw [he], ho k⟩) (fun k => absurd k (by show ¬ (2 : Int) = 3; decide))) i ?_
  show (x.stopE i q).kid.length ≤ B
  unfold Ex.kid
  rw [(h.stop i q).1]; simp; exact hB
 split
 ·exact h.stop i q
 split
 ·show qpw e L B (x.spawnE op)
  unfold Ex.spawnE; split
  ·have h2 : qpw e L B ({ x with procs := x.procs ++ [⟨op.a, 0, true, []⟩] } : Ex) := by
    refine ⟨h.1, h.2.1, fun q' hq' => ?_⟩
    rcases List.mem_append.1 hq' with hq' | hq'
    ·exact h.2.2 q' hq'
    ·rw [List.mem_singleton] at hq'; subst hq'; exact Nat.zero_le _
   exact h2.create _ (fun k => absurd k (by show ¬ (1 : Int) = 2; decide)) (fun k => absurd k (by show ¬ (1 : Int) = 3; decide))
  ·exact h
 split
 ·show qpw e L B (x.setReg _ _)
  unfold Ex.setReg; split <;> exact h.same rfl rfl rfl
 split
 ·show qpw e L B (if _ then _ else _)
  split
  ·exact h.setP i (q := { q with pc := op.c }) hq
  ·exact h
 ·exact h
theorem qpw.act {p : List OpI} (hB : e.key.length + 1 ≤ B) (ho : ∀ op ∈ p, op.code = 3 → 0 ≤ op.b ∧ op.b < L) (i : Nat) : ∀ (m : Nat) {x : Ex}, qpw e L B x → qpw e L B (qkg p i m x)
 | 0, x, h => h.kill i
 | m + 1, x, h => by
  unfold qkg
  split
  ·exact h
  rename_i q hq
  split
  ·exact h.kill i
  rename_i op hop
  have h0 : qpw e L B (x.setP i { q with pc := w64 (q.pc + 1) }) := h.setP i (show q.timer.length ≤ B from h.at hq)
  have hs := h0.step i { q with pc := w64 (q.pc + 1) } op (show q.timer.length ≤ B from h.at hq) hB (ho op (List.mem_of_getElem? hop))
  split
  ·exact hs
  split
  ·exact hs.kill i
  ·exact qpw.act hB ho i m hs
end
theorem Ready.tims {c : Cfg} {x : Lp} {e : Evt} (h : Ready c x e) {B : Nat} (hB : e.key.length + 1 ≤ B) (hx : ∀ q ∈ x.procs, q.timer.length ≤ B) : (∀ ev ∈ (qbf c x e).out, (ev.kind = 3 → ev.proc = 0) ∧ (ev.kind = 2 → ∃ q p, x.procs[e.proc.toNat]? = some q ∧ c.progs[q.prog.toNat]? = some p ∧ ev.proc = e.proc ∧ 0 ≤ ev.arg ∧ ev.arg < p.length)) ∧ ∀ q ∈ (qbf c x e).lp.procs, q.timer.length ≤ B := by
 rcases h.cases with ⟨_, hx'⟩ | ⟨_, _, hx'⟩ | ⟨q, _, ha, hx'⟩
 ·rw [hx']; exact ⟨fun ev hev => by simp at hev, hx⟩
 ·rw [hx']; exact ⟨fun ev hev => by simp at hev, hx⟩
 ·rw [hx']
  obtain ⟨i, p, hi, hq, hpm, hp, _⟩ := h.inv ha
  have hw : (qib e q).timer.length ≤ B := by
   have := hx q (List.mem_of_getElem? hq)
   unfold qib; split
   ·show (if q.timer = e.key then [] else q.timer).length ≤ B
    split
    ·exact Nat.zero_le _
    ·exact this
   ·exact this
  have h0 : qpw e p.length B (qcg x e) := ⟨rfl, fun ev hev => (by cases hev), hx⟩
  have hT : qpw e p.length B (qpg c x e q) := by
   unfold qpg
   rw [hp]
   exact qpw.act hB (fun op ho k => by have := ((h.ops hpm).2 op ho).timer k; exact ⟨this.2.2.1, this.2.2.2⟩) _ 16 (h0.setP e.proc.toNat hw)
  refine ⟨fun ev hev => ?_, hT.2.2⟩
  have := hT.2.1 ev hev
  exact ⟨this.msg, fun k => ⟨q, p, by rw [hi, Int.toNat_natCast]; exact hq, hp, this.tim k⟩⟩
set_option maxRecDepth 10000
def qiw (k i : Nat) (s : Start) : Evt := ⟨s.time, [(k : Int), (i : Int)], k, 1, i, 0⟩
def qjy (k : Nat) (l : List Start) : List Evt := l.mapIdx (fun i s => qiw k i s)
def qjp (lps : List (List Start)) : List Evt := (lps.mapIdx (fun k l => qjy k l)).flatten
theorem q27 (k : Nat) (l : List Start) (s : Start) : qjy k (l ++ [s]) = qjy k l ++ [qiw k l.length s] := by simp [qjy, List.mapIdx_append]
theorem q4z (lps : List (List Start)) (l : List Start) : qjp (lps ++ [l]) = qjp lps ++ qjy lps.length l := by simp [qjp, List.mapIdx_append]
theorem qzk (k : Nat) (l : List Start) : (qjy k l).length = l.length := by simp [qjy]
theorem qoj {k : Nat} {l : List Start} {x : Evt} (h : x ∈ qjy k l) : ∃ i s, l[i]? = some s ∧ x = qiw k i s := by
 simp only [qjy] at h
 obtain ⟨i, hi⟩ := List.mem_iff_getElem?.1 h
 rw [List.getElem?_mapIdx] at hi
 cases hl : l[i]? with
 | none => rw [hl] at hi; cases hi
 | some s => rw [hl] at hi; cases hi; exact ⟨i, s, hl, rfl⟩
theorem qs8 {lps : List (List Start)} {x : Evt} (h : x ∈ qjp lps) : ∃ k l i s, lps[k]? = some l ∧ l[i]? = some s ∧ x = qiw k i s := by
 simp only [qjp, List.mem_flatten] at h
 obtain ⟨r, hr, hx⟩ := h
 obtain ⟨k, hk⟩ := List.mem_iff_getElem?.1 hr
 rw [List.getElem?_mapIdx] at hk
 cases hl : lps[k]? with
 | none => rw [hl] at hk; cases hk
 | some l =>
  rw [hl] at hk; cases hk
  obtain ⟨i, s, h1, h2⟩ := qoj hx
  exact ⟨k, l, i, s, hl, h1, h2⟩
theorem q5l (lps : List (List Start)) : qid (qjp lps) := by
 intro x hx
 obtain ⟨k, l, i, s, _, _, rfl⟩ := qs8 hx
 simp [qiw]
theorem q2d {k k' i i' : Nat} {s s' : Start} (h : qr7 (qiw k i s) (qiw k' i' s') = 0) : k = k' ∧ i = i' := by
 have := ((q1b _ _).1 h).2
 simp only [qiw, List.cons.injEq, and_true] at this
 omega
theorem q5z (lps : List (List Start)) : qu6 (qjp lps) := by
 unfold qu6 qjp
 rw [List.pairwise_flatten]
 constructor
 ·intro r hr
  obtain ⟨k, hk⟩ := List.mem_iff_getElem?.1 hr
  rw [List.getElem?_mapIdx] at hk
  cases hl : lps[k]? with
  | none => rw [hl] at hk; cases hk
  | some l =>
   rw [hl] at hk; cases hk
   rw [List.pairwise_iff_getElem]
   intro i j hi hj hij h
   simp only [qjy, List.getElem_mapIdx] at h
   have := (q2d h).2; omega
 ·rw [List.pairwise_iff_getElem]
  intro k k' hk hk' hkk x hx y hy h
  simp only [List.getElem_mapIdx] at hx hy
  obtain ⟨i, s, _, rfl⟩ := qoj hx
  obtain ⟨i', s', _, rfl⟩ := qoj hy
  have := (q2d h).1; omega
theorem q3m {k i : Nat} {l : List Start} {s : Start} (h : l[i]? = some s) : qjy k (l.take (i + 1)) = qjy k (l.take i) ++ [qiw k i s] := by
 have hi : i < l.length := (List.getElem?_eq_some_iff.1 h).1
 rw [qjb h, q27, List.length_take, Nat.min_eq_left (by omega)]
theorem qzt {k : Nat} {lps : List (List Start)} {l : List Start} (h : lps[k]? = some l) : qjp (lps.take (k + 1)) = qjp (lps.take k) ++ qjy k l := by
 have hi : k < lps.length := (List.getElem?_eq_some_iff.1 h).1
 rw [qjb h, q4z, List.length_take, Nat.min_eq_left (by omega)]
theorem q2a : ∀ {lps : List (List Start)} {m : Nat}, (∀ l ∈ lps, l.length ≤ m) → (qjp lps).length ≤ lps.length * m := by
 intro lps m h
 have : ∀ n, n ≤ lps.length → (qjp (lps.take n)).length ≤ n * m := by
  intro n
  induction n with
  | zero => intro _; simp [qjp]
  | succ n ih =>
   intro hn
   obtain ⟨l, hl⟩ : ∃ l, lps[n]? = some l := ⟨_, List.getElem?_eq_getElem (by omega)⟩
   rw [qzt hl, List.length_append, qzk, Nat.succ_mul]
   have := ih (by omega)
   have := h l (List.mem_of_getElem? hl)
   omega
 have := this lps.length (Nat.le_refl _)
 rwa [List.take_length] at this
section
variable (c : Cfg)
theorem qu3 (out : List Evt) (e : List AV) : List.take out.length (out.map Evt.r) = out.map Evt.r ∧ List.take (out.length + 1) (out.map Evt.r ++ [e]) = out.map Evt.r ++ [e] := ⟨List.take_of_length_le (by simp), List.take_of_length_le (by simp)⟩
end
set_option maxRecDepth 10000
section
variable (c : Cfg)
structure Small12 (c : Cfg) : Prop where
 lps : c.lps.length ≤ 12
 lp : ∀ l ∈ c.lps, l.length ≤ 12
theorem Small12.len {c : Cfg} (h : Small12 c) (k : Nat) : (qjp (c.lps.take k)).length ≤ 144 := by
 have := q2a (lps := c.lps.take k) (m := 12) (fun l hl => h.lp l (List.mem_of_mem_take hl))
 have := List.length_take_le k c.lps
 have := List.length_take_le' k c.lps
 have := h.lps
 omega
end
set_option maxRecDepth 10000
def stP (s : Start) : Pr := ⟨s.prog, 0, true, []⟩
def stLp (ps : List Pr) : Lp × Bool := (⟨0, 0, ps, 0⟩, decide (ps = []))
def q2l (σ : qr) (lim : Nat) (row : List AV) (ps : List Pr) : Prop :=
 ps = [] ∧ row = [(ii 0), (ii 0), .fsl [] true, (ii 0)] ∨ ps ≠ [] ∧ ∃ o g, 0 < o ∧ o < lim ∧ row = [(ii 0), (ii 0), .sl o g 0 ps.length false, (ii 0)] ∧ σ[o]? = some (.row 4 (ps.map Pr.r) g)
theorem q2l.frz {σ : qr} {lim d : Nat} {row : List AV} {ps : List Pr} (h : q2l σ lim row ps) : qgx (Ev.frz σ (d + 1)) row = some (lpF (stLp ps)) := by
 rcases h with ⟨rfl, rfl⟩ | ⟨h1, o, g, _, _, rfl, h2⟩
 ·rfl
 ·have t1 : List.take ps.length (ps.map Pr.r) = ps.map Pr.r := List.take_of_length_le (by simp)
  simp only [qel, qgs, qhb, h2, t1, qe3, qae, lpF, stLp, h1, qba, qx, qhb, qe3, qgs, qel, zgi, ↓qn, ↓reduceIte, zgg, zgw, zgx, zfd, Nat.le_refl, zgy]
def qkj (σ : qr) (lim : Nat) : List (List AV) → List (List Pr) → Prop
 | [], [] => True
 | r :: rs, p :: ps => q2l σ lim r p ∧ qkj σ lim rs ps
 | _, _ => False
theorem q2l.mono {σ σ' : qr} {lim lim' : Nat} {row : List AV} {ps : List Pr} (h : q2l σ lim row ps) (hl : lim ≤ lim') (hσ : ∀ o, 0 < o → o < lim → σ'[o]? = σ[o]?) : q2l σ' lim' row ps := by
 rcases h with h | ⟨h1, o, g, h2, h3, h4, h5⟩
 ·exact .inl h
 ·exact .inr ⟨h1, o, g, h2, by omega, h4, by rw [hσ o h2 h3]; exact h5⟩
theorem qkj.mono {σ σ' : qr} {lim lim' : Nat} (hl : lim ≤ lim') (hσ : ∀ o, 0 < o → o < lim → σ'[o]? = σ[o]?) : ∀ {rs : List (List AV)} {ps : List (List Pr)}, qkj σ lim rs ps → qkj σ' lim' rs ps
 | [], [], h => trivial
 | r :: rs, p :: ps, h => ⟨h.1.mono hl hσ, qkj.mono hl hσ h.2⟩
 | [], _ :: _, h => h.elim
 | _ :: _, [], h => h.elim
theorem qkj.snoc {σ : qr} {lim : Nat} {r : List AV} {p : List Pr} (hr : q2l σ lim r p) : ∀ {rs : List (List AV)} {ps : List (List Pr)}, qkj σ lim rs ps → qkj σ lim (rs ++ [r]) (ps ++ [p])
 | [], [], h => ⟨hr, trivial⟩
 | r' :: rs, p' :: ps, h => ⟨h.1, qkj.snoc hr h.2⟩
 | [], _ :: _, h => h.elim
 | _ :: _, [], h => h.elim
theorem qkj.frz {σ : qr} {lim d : Nat} : ∀ {rs : List (List AV)} {ps : List (List Pr)}, qkj σ lim rs ps → qgx (qgx (Ev.frz σ (d + 1))) rs = some ((ps.map stLp).map lpF)
 | [], [], h => rfl
 | r :: rs, p :: ps, h => by rw [qel, h.1.frz, qkj.frz h.2]; rfl
 | [], _ :: _, h => h.elim
 | _ :: _, [], h => h.elim
theorem qkj.len {σ : qr} {lim : Nat} : ∀ {rs : List (List AV)} {ps : List (List Pr)}, qkj σ lim rs ps → rs.length = ps.length
 | [], [], h => rfl
 | r :: rs, p :: ps, h => by rw [List.length_cons, List.length_cons, qkj.len h.2]
 | [], _ :: _, h => h.elim
 | _ :: _, [], h => h.elim
section
variable (c : Cfg)
end
set_option maxRecDepth 10000
def q46 (lps : List (List Start)) : List (List Pr) := lps.map fun l => l.map stP
def qj6 (lps : List (List Start)) : List (Lp × Bool) := (q46 lps).map stLp
section
variable (c : Cfg)
end
set_option maxRecDepth 10000
section
variable (c : Cfg)
def q7q (b i : Nat) (l : List Start) (W : qr) : Prop :=
 i = 0 ∧ W = [.row 4 [[(ii 0), (ii 0), .fsl [] true, (ii 0)]] 0] ∨ 0 < i ∧ ∃ g, W = [.row 4 [[(ii 0), (ii 0), .sl (b + 1 + 1) g 0 i false, (ii 0)]] 0, .row 4 (((l.take i).map stP).map Pr.r) g]
theorem q7q.row {b : Nat} {l : List Start} {τ0 W : qr} (hb : b = τ0.length) (h : q7q b l.length l W) :
  ∃ rk, (∃ w : List SObj, W = .row 4 [rk] 0 :: w) ∧ rk.length = 4 ∧ qo rk = true ∧ ∀ x : SObj, q2l (x :: (τ0 ++ W)) ((τ0 ++ W).length + 1) rk (l.map stP) := by
 rcases h with ⟨h1, rfl⟩ | ⟨h1, g, rfl⟩
 ·refine ⟨[(ii 0), (ii 0), .fsl [] true, (ii 0)], ⟨[], rfl⟩, rfl, rfl, fun x => .inl ⟨?_, rfl⟩⟩
  rw [List.eq_nil_of_length_eq_zero h1]; rfl
 ·refine ⟨_, ⟨_, rfl⟩, rfl, rfl, fun x => .inr ⟨fun e => by rw [List.map_eq_nil_iff] at e; subst e; simp at h1, b + 1 + 1, g, by omega, by simp; omega, by rw [List.length_map], ?_⟩⟩
  rw [List.take_length, List.getElem?_cons_succ, hb, List.getElem?_append_right (by omega)]
  simp
theorem q0n (k g b : Nat) (l : List Start) (R : List (List AV)) (hkl : c.lps[k]? = some l) (hl : l.length ≤ 12) (τ0 : qr) (hb : b = τ0.length) :
  ∃ y, itB (exec (evL T) itL none qfy) (qs [1, 3, 4, 5, 6] false (b + 1 + 1)) ⟨[(1, (.fptr [(.fsl ((c.lps).map lpC) false), (.fsl ((c.progs).map qcf) false), (ii c.look), (ii c.fin), (ii c.cap)])), (3, .sl 0 g 0 R.length false), (4, (ii k)), (5, .ptr (b + 1) 0 0 0), (6, (ii 0))], []⟩ (.row 4 R g :: (τ0 ++ [.row 4 [[(ii 0), (ii 0), .fsl [] true, (ii 0)]] 0])) = some y ∧
   ∃ W : List SObj, y.1 = .exit 2 ∧ y.2.1.marks = [] ∧ y.2.2 = .row 4 R g :: (τ0 ++ W) ∧ q7q b l.length l W ∧ Ev.look y.2.1.vars 1 = some (.fptr [(.fsl ((c.lps).map lpC) false), (.fsl ((c.progs).map qcf) false), (ii c.look), (ii c.fin), (ii c.cap)]) ∧ Ev.look y.2.1.vars 3 = some (.sl 0 g 0 R.length false) ∧ Ev.look y.2.1.vars 4 = some (ii k) ∧ Ev.look y.2.1.vars 5 = some (.ptr (b + 1) 0 0 0) := by
 have key := qf4 (f := exec (evL T) itL none qfy) (s := qs [1, 3, 4, 5, 6] false (b + 1 + 1)) (α := List SObj)
  (fun i a => ⟨[(1, (.fptr [(.fsl ((c.lps).map lpC) false), (.fsl ((c.progs).map qcf) false), (ii c.look), (ii c.fin), (ii c.cap)])), (3, .sl 0 g 0 R.length false), (4, (ii k)), (5, .ptr (b + 1) 0 0 0), (6, (ii i))], []⟩) (fun i a => .row 4 R g :: (τ0 ++ a))
  (fun i a => q7q b i l a) l.length
  (fun y => ∃ W : List SObj, y.1 = .exit 2 ∧ y.2.1.marks = [] ∧ y.2.2 = .row 4 R g :: (τ0 ++ W) ∧ q7q b l.length l W ∧ Ev.look y.2.1.vars 1 = some (.fptr [(.fsl ((c.lps).map lpC) false), (.fsl ((c.progs).map qcf) false), (ii c.look), (ii c.fin), (ii c.cap)]) ∧ Ev.look y.2.1.vars 3 = some (.sl 0 g 0 R.length false) ∧ Ev.look y.2.1.vars 4 = some (ii k) ∧ Ev.look y.2.1.vars 5 = some (.ptr (b + 1) 0 0 0)) ?_ ?_ 0 [.row 4 [[(ii 0), (ii 0), .fsl [] true, (ii 0)]] 0] (Nat.zero_le _) (.inl ⟨rfl, rfl⟩)
 ·exact key
 ·rintro i W hi h
  obtain ⟨x, hx⟩ : ∃ x, l[i]? = some x := ⟨_, List.getElem?_eq_getElem hi⟩
  have hi' : (i : Int) < (l.length : Int) := by omega
  have hw : IntKind.i64.wrap ((i : Int) + 1) = ((i + 1 : Nat) : Int) := by rw [qas (by omega) (by omega)]; simp
  have tg : ∀ (v : SObj) (w : List SObj), (τ0 ++ v :: w)[b]? = some v := fun v w => by rw [hb]; simp
  have tg2 : ∀ v w : SObj, (τ0 ++ [v, w])[b + 1]? = some w := fun v w => by rw [hb, List.getElem?_append_right (by omega)]; simp
  have ts : ∀ (v u : SObj) (w : List SObj), (τ0 ++ v :: w).set b u = τ0 ++ u :: w := fun v u w => by rw [hb]; simp []
  have ts2 : ∀ v w u : SObj, (τ0 ++ [v, w]).set (b + 1) u = τ0 ++ [v, u] := fun v w u => by rw [hb, List.set_append, if_neg (by omega)]; simp
  obtain ⟨xp, xt⟩ := x
  have hbl : List.length τ0 = b := hb.symm
  rcases h with ⟨hi0, rfl⟩ | ⟨h3, g', rfl⟩
  ·refine .inl ⟨[.row 4 [[(ii 0), (ii 0), .sl (b + 1 + 1) 0 0 1 false, (ii 0)]] 0, .row 4 [(stP ⟨xp, xt⟩).r] 0], ?_, .inr ⟨by omega, 0, ?_⟩⟩
   ·simp only [qfy, zgs, zgr, zgq, zgt, hkl, hx, hi', hw, tg, ts, hbl, List.append_assoc, List.map_nil, Start.r, stP, Pr.r, lpC, Ev.exec, qb, qe, qc, qai, qm5, Ev.Opnd.ev, Ev.Env.get, Ev.Env.set, Ev.look, qf, qbq, qv, qfz, qfk, Ev.AV.cells, Ev.AV.uc, qo, Ev.AV.plain, qao, ql, qs, Ev.keep, qbc, qbg, List.replicate_one, zgi, ↓qn, Ev.it1, ↓reduceIte, zga, zgb, zgp, zgd, zge, zgc, zgo, zgf, zgg, zgm, zgl, zgj, zgk, zgh, Nat.reduceAdd, Nat.reduceEqDiff, Nat.reduceMul, Nat.reduceLT, Nat.reduceLeDiff, Nat.reducePow, zgv, zfc, zfa, zgx, ne_eq, zfb, not_true_eq_false, zff, zfd, zgu, zgy]
   ·rw [qjb hx, hi0]; simp
  ·have ln : (((l.take i).map stP).map Pr.r).length = i := by simp; omega
   have tk : List.take i (((l.take i).map stP).map Pr.r) = ((l.take i).map stP).map Pr.r := List.take_of_length_le (by simp; omega)
   have bd : (i + 1) * 48 ≤ 140737488355328 := by omega
   have il : i ≤ i := Nat.le_refl _
   have nx : ((l.take (i + 1)).map stP).map Pr.r = ((l.take i).map stP).map Pr.r ++ [(stP ⟨xp, xt⟩).r] := by rw [qjb hx]; simp
   refine .inl ⟨[.row 4 [[(ii 0), (ii 0), .sl (b + 1 + 1) (g' + 1) 0 (i + 1) false, (ii 0)]] 0, .row 4 (((l.take (i + 1)).map stP).map Pr.r) (g' + 1)], ?_, .inr ⟨by omega, g' + 1, rfl⟩⟩
   rw [nx]
   generalize ((l.take i).map stP).map Pr.r = PR at ln tk ⊢
   simp only [qfy, zgs, zgr, zgq, zgt, hkl, hx, hi', hw, tg, tg2, ts, ts2, ln, tk, bd, il, List.map_nil, Start.r, stP, Pr.r, lpC, Ev.exec, qb, qe, qc, qai, qm5, Ev.Opnd.ev, Ev.Env.get, Ev.Env.set, Ev.look, qf, qbq, qv, qfz, qfk, Ev.AV.cells, Ev.AV.uc, qo, Ev.AV.plain, qao, ql, qs, Ev.keep, qbc, qbg, List.replicate_one, zgi, ↓qn, Ev.it1, ↓reduceIte, zga, zgb, zgd, zge, zgc, zgo, zgf, zgg, zgm, zgl, zgj, zgk, zgh, Nat.reduceAdd, Nat.reduceEqDiff, Nat.reduceMul, Nat.reduceLeDiff, Nat.reducePow, zgv, zfc, zfa, zgx, ne_eq, zfb, zff, zfd, zgu, zgy]
 ·rintro W h
  simp only [qfy, zgs, zgr, zgq, zgt, hkl, lpC, Int.lt_irrefl, Ev.exec, qb, qe, qc, qai, Ev.Opnd.ev, Ev.Env.get, Ev.Env.set, Ev.look, qf, qv, ql, zgi, ↓qn, Ev.it1, ↓reduceIte, zga, zgb, zgg, zgh, Nat.reduceEqDiff, zgw, zfa, zfd, zgy]
  exact ⟨_, rfl, W, rfl, rfl, rfl, h, rfl, rfl, rfl, rfl⟩
theorem q0y (h : Small12 c) :
  ∃ y, itB (exec (evL T) itL none qfx) (qs [1, 3, 4] false 1) ⟨[(1, (.fptr [(.fsl ((c.lps).map lpC) false), (.fsl ((c.progs).map qcf) false), (ii c.look), (ii c.fin), (ii c.cap)])), (3, .sl 0 0 0 0 false), (4, (ii 0))], []⟩ [.row 4 [] 0] = some y ∧
   ∃ (R : List (List AV)) (g : Nat) (τ : qr), y.1 = .exit 0 ∧ y.2.1.marks = [] ∧ y.2.2 = .row 4 R g :: τ ∧ qkj y.2.2 (τ.length + 1) R (q46 c.lps) ∧ Ev.look y.2.1.vars 3 = some (.sl 0 g 0 R.length false) := by
 have key := qf4 (f := exec (evL T) itL none qfx) (s := qs [1, 3, 4] false 1) (α := List (List AV) × Nat × qr)
  (fun i a => ⟨[(1, (.fptr [(.fsl ((c.lps).map lpC) false), (.fsl ((c.progs).map qcf) false), (ii c.look), (ii c.fin), (ii c.cap)])), (3, .sl 0 a.2.1 0 a.1.length false), (4, (ii i))], []⟩) (fun i a => .row 4 a.1 a.2.1 :: a.2.2)
  (fun i a => ∀ x : SObj, qkj (x :: a.2.2) (a.2.2.length + 1) a.1 (q46 (c.lps.take i))) c.lps.length
  (fun y => ∃ (R : List (List AV)) (g : Nat) (τ : qr), y.1 = .exit 0 ∧ y.2.1.marks = [] ∧ y.2.2 = .row 4 R g :: τ ∧ qkj y.2.2 (τ.length + 1) R (q46 c.lps) ∧ Ev.look y.2.1.vars 3 = some (.sl 0 g 0 R.length false)) ?_ ?_ 0 ([], 0, []) (Nat.zero_le _) (fun _ => trivial)
 ·exact key
 ·rintro i ⟨R, g, τ⟩ hi hR
  simp only at hR ⊢
  obtain ⟨x, hx⟩ : ∃ x, c.lps[i]? = some x := ⟨_, List.getElem?_eq_getElem hi⟩
  have hlps := h.lps
  have hi' : (i : Int) < (c.lps.length : Int) := by omega
  have hw : IntKind.i64.wrap ((i : Int) + 1) = ((i + 1 : Nat) : Int) := by rw [qas (by omega) (by omega)]; simp
  have hRl : R.length = i := by rw [(hR .dead).len]; simp [q46]; omega
  obtain ⟨b, hb⟩ : ∃ b, b = τ.length := ⟨_, rfl⟩
  have hbl : List.length τ = b := hb.symm
  obtain ⟨⟨y, e, σ⟩, k1, W, k2, k3, k4, k5, k6, k7, k8, k9⟩ := q0n c i g b x R hx (h.lp _ (List.mem_of_getElem? hx)) τ hb
  simp only at k1 k2 k3 k4 k6 k7 k8 k9
  subst k2; subst k4
  obtain ⟨rk, ⟨w, hW⟩, _, _, hrow⟩ := k5.row hb
  have tg : ∀ (v : SObj) (w : List SObj), (τ ++ v :: w)[b]? = some v := fun v w => by rw [hb]; simp
  have bd : (i + 1) * 48 ≤ 140737488355328 := by omega
  have il : i ≤ i := Nat.le_refl _
  have tk : List.take i R = R := List.take_of_length_le (by omega)
  refine .inl ⟨(R ++ [rk], g + 1, τ ++ W), ?_, fun z => ?_⟩
  ·simp only [zgp, zga, zgb, hRl] at k1 k7 ⊢
   rcases k5 with ⟨_, rfl⟩ | ⟨_, g', rfl⟩
   ·simp only [List.cons.injEq, SObj.row.injEq, true_and, and_true] at hW
    obtain ⟨rfl, rfl⟩ := hW
    simp only [qfx, hi', hw, hbl, hRl, k1, k3, k6, k7, k8, k9, tg, bd, il, tk, Ev.exec, qb, qe, qc, qai, qm5, Ev.Opnd.ev, Ev.Env.get, Ev.Env.set, Ev.look, qf, qbq, qv, qfk, Ev.AV.cells, qo, Ev.AV.plain, qao, ql, qs, Ev.keep, qbc, qbg, List.replicate_one, zgi, ↓qn, ↓qa4, Ev.it1, ↓reduceIte, zga, zgb, zgp, zgd, zge, zgc, zfe, zgg, zgm, zgj, zgh, Nat.reduceAdd, Nat.reduceEqDiff, Nat.reduceMul, Nat.reduceLeDiff, Nat.reducePow, zgv, zfc, zfa, zgx, ne_eq, zfb, zff, zfd, zgu, Nat.le_refl, zgy]
   ·simp only [List.cons.injEq, SObj.row.injEq, true_and, and_true] at hW
    obtain ⟨rfl, rfl⟩ := hW
    simp only [qfx, hi', hw, hbl, hRl, k1, k3, k6, k7, k8, k9, tg, bd, il, tk, Ev.exec, qb, qe, qc, qai, qm5, Ev.Opnd.ev, Ev.Env.get, Ev.Env.set, Ev.look, qf, qbq, qv, qfk, Ev.AV.cells, qo, Ev.AV.plain, qao, ql, qs, Ev.keep, qbc, qbg, List.replicate_one, List.take_length, zgi, ↓qn, ↓qa4, Ev.it1, ↓reduceIte, zga, zgb, zgp, zgd, zge, zgc, zfe, zgg, zgm, zgj, zgh, Nat.reduceAdd, Nat.reduceEqDiff, Nat.reduceMul, Nat.reduceLeDiff, Nat.reducePow, zgv, zfc, zfa, zgx, ne_eq, zfb, zff, zfd, zgu, Nat.le_refl, zgy]
  ·have : q46 (c.lps.take (i + 1)) = q46 (c.lps.take i) ++ [x.map stP] := by rw [qjb hx]; simp [q46]
   simp only
   rw [this]
   refine qkj.snoc (hrow z) ((hR z).mono (by simp) (fun o h1 h2 => ?_))
   obtain ⟨o, rfl⟩ : ∃ p, o = p + 1 := ⟨o - 1, by omega⟩
   rw [List.getElem?_cons_succ, List.getElem?_cons_succ]
   exact List.getElem?_append_left (by omega)
 ·rintro ⟨R, g, τ⟩ hR
  rw [List.take_length] at hR
  simp only at hR ⊢
  simp only [qfx, Int.lt_irrefl, Ev.exec, qb, qe, qc, qai, Ev.Opnd.ev, Ev.Env.get, Ev.Env.set, Ev.look, qf, qv, ql, zgi, ↓qn, Ev.it1, ↓reduceIte, zgg, zgh, Nat.reduceEqDiff, zgw, zfa, zgy]
  exact ⟨_, rfl, R, g, τ, rfl, rfl, rfl, hR _, rfl⟩
theorem qw8 (h : Small12 c) : qa3 (evL T) qfv [(.agg [(.fsl ((c.lps).map lpC) false), (.fsl ((c.progs).map qcf) false), (ii c.look), (ii c.fin), (ii c.cap)])] = some (.fsl ((qj6 c.lps).map lpF) false) := by
 obtain ⟨⟨y, e, σ⟩, k1, R, g, τ, k2, k3, k4, k5, k6⟩ := q0y c h
 simp only at k1 k2 k3 k4 k5 k6
 subst k2; subst k4
 have tk : List.take R.length R = R := List.take_length
 have hf := fun d => k5.frz (d := d)
 have hle : R.length ≤ R.length := Nat.le_refl _
 rw [qa3, qad qvn quw]
 simp only [qkz, k1, k3, k6, hle, tk, qj, Ev.exec, qb, qe, qc, qai, Ev.Opnd.ev, Ev.Env.get, Ev.Env.set, Ev.look, qk, Ev.AV.cells, qo, Ev.AV.plain, qi, qq, qaj, Ev.kill, qag, qs, Ev.keep, qg, qdq, qhb, ↓qn, ↓qa4, ↓reduceIte, zga, zgb, zgd, zgo, zgg, zgl, Nat.reduceEqDiff, Nat.reduceLT, zgw, zfc, zfa, zgx, and_true, ne_eq, zfb, zff, zfd, zgy]
 rw [show (5 : Nat) = 4 + 1 from rfl, hf 4]
 rfl
end
set_option maxRecDepth 10000
structure Sim where
 trace : List (List Evt)
 lps : List Lp
 pend : List Evt
 n : Nat
 over : Bool
def q3u (s : Sim) (i : Int) : Lp := (s.lps[i.toNat]?).getD ⟨0, 0, [], 0⟩
def qsm (s : Sim) (i : Int) : List Evt := (s.trace[i.toNat]?).getD []
def qjs (gone : List (List Int)) (x : Evt) : Bool := !(gone.any fun g => decide (g = x.key))
def Sim.step (c : Cfg) (s : Sim) (e : Evt) (rest : List Evt) : Sim :=
 ⟨s.trace.set e.lp.toNat (qsm s e.lp ++ [e]), s.lps.set e.lp.toNat (qbf c (q3u s e.lp) e).lp, qga ((rest ++ (qbf c (q3u s e.lp) e).out).filter (qjs (qbf c (q3u s e.lp) e).gone)), s.n + 1, s.over || (qbf c (q3u s e.lp) e).over⟩
def Sim.ready (c : Cfg) (s : Sim) : Bool := match s.pend with
 | [] => false
 | e :: _ => decide (e.time < c.fin)
def Sim.go (c : Cfg) (s : Sim) : Sim := match s.pend with
 | [] => s
 | e :: rest => s.step c e rest
def Sim.run (c : Cfg) : Nat → Sim → Sim
 | 0, s => s
 | k + 1, s => if s.ready c = true then Sim.run c k (s.go c) else s
def start (c : Cfg) : Sim := ⟨List.replicate c.lps.length [], (qj6 c.lps).map Prod.fst, qga (qjp c.lps), 0, false⟩
structure EvG (c : Cfg) (n : Nat) (e : Evt) : Prop where
 lp : 0 ≤ e.lp ∧ e.lp < c.lps.length
 time : 0 ≤ e.time ∧ e.time ≤ 1152921504606846976
 key : 2 ≤ e.key.length ∧ e.key.length ≤ 2 + n
 proc : 0 ≤ e.proc ∧ e.proc < 8
 arg : e.kind = 2 → 0 ≤ e.arg ∧ e.arg < 16
theorem EvG.mono {c : Cfg} {n m : Nat} {e : Evt} (h : EvG c n e) (hm : n ≤ m) : EvG c m e := ⟨h.lp, h.time, ⟨h.key.1, by have := h.key.2; omega⟩, h.proc, h.arg⟩
def LpG (c : Cfg) (n : Nat) (x : Lp) : Prop := x.procs.length ≤ 8 ∧ ∀ q ∈ x.procs, 0 ≤ q.prog ∧ q.prog < c.progs.length ∧ 0 ≤ q.pc ∧ q.pc ≤ ((c.progs[q.prog.toNat]?).getD []).length ∧ q.timer.length ≤ 2 + n
def qma (l : List Evt) : Prop := l.Pairwise (fun a b => ¬ a.key = b.key)
def q75 (c : Cfg) (x : Lp) (l : List Evt) : Lp := l.foldl (fun x e => (qbf c x e).lp) x
def qf8 (h : List Evt) (i : Nat) : List Evt := h.filter fun e => decide (e.lp = i)
structure SInvK (c : Cfg) (s : Sim) (h : List Evt) : Prop where
 valid : Valid c
 n : s.n = h.length
 trl : s.trace.length = c.lps.length
 tr : ∀ i, i < c.lps.length → s.trace[i]? = some (qf8 h i)
 lpl : s.lps.length = c.lps.length
 lp : ∀ x ∈ s.lps, LpG c h.length x
 keys : qma (h ++ s.pend)
 ev : ∀ e ∈ h ++ s.pend, EvG c h.length e
 tim : ∀ e ∈ s.pend, e.kind = 2 → ∃ x q p, s.lps[e.lp.toNat]? = some x ∧ x.procs[e.proc.toNat]? = some q ∧ c.progs[q.prog.toNat]? = some p ∧ 0 ≤ e.arg ∧ e.arg < p.length
 par : ∀ e ∈ h ++ s.pend, e.key.length = 2 ∨ ∃ p ∈ h, ∃ m, e.key = p.key ++ [m] ∧ p.time < e.time
 len : s.pend.length ≤ 64 + 16 * h.length
 rep : ∀ i, i < c.lps.length → s.lps[i]? = some (q75 c ((((qj6 c.lps).map Prod.fst)[i]?).getD ⟨0, 0, [], 0⟩) (qf8 h i))
 rdy : ∀ i, i < c.lps.length → ∀ k e, (qf8 h i)[k]? = some e → Ready c (q75 c ((((qj6 c.lps).map Prod.fst)[i]?).getD ⟨0, 0, [], 0⟩) ((qf8 h i).take k)) e
structure SInv (c : Cfg) (s : Sim) (h : List Evt) : Prop extends SInvK c s h where
 sorted : s.pend.Pairwise leE
 ord : h.Pairwise leE
 ord2 : ∀ a ∈ h, ∀ b ∈ s.pend, leE a b
 fin : ∀ e ∈ h, e.time < c.fin
theorem qma.dist {l : List Evt} (h : qma l) : qu6 l := h.imp fun hk hc => hk ((q1b _ _).1 hc).2
theorem qma.perm {l l' : List Evt} (h : qma l) (p : l'.Perm l) : qma l' := (p.pairwise_iff (fun {x y} hxy hyx => hxy hyx.symm)).2 h
theorem leE_time {a b : Evt} (h : a.time < b.time) : leE a b := by
 have := qip a.time b.time
 unfold leE qr7
 rw [if_neg (by omega)]; omega
theorem q3d {a b : Evt} (h : leE a b) : a.time ≤ b.time := by
 have := qip a.time b.time
 unfold leE qr7 at h
 by_cases e : qos a.time b.time = 0
 ·omega
 ·rw [if_neg e] at h; omega
section
variable {c : Cfg} {s : Sim} {h : List Evt}
theorem SInvK.headM (H : SInvK c s h) {e : Evt} (hm : e ∈ s.pend) (hn : h.length ≤ 20000) : ∃ x, s.lps[e.lp.toNat]? = some x ∧ q3u s e.lp = x ∧ Ready c x e := by
 have he : e ∈ h ++ s.pend := List.mem_append_right _ hm
 have g := H.ev e he
 obtain ⟨x, hx⟩ : ∃ x, s.lps[e.lp.toNat]? = some x := ⟨_, List.getElem?_eq_getElem (by rw [H.lpl]; have := g.lp; omega)⟩
 have hl := H.lp x (List.mem_of_getElem? hx)
 refine ⟨x, hx, by unfold q3u; rw [hx]; rfl, H.valid, hl.1, fun q hq => ?_, g.time, by have := g.key; omega, fun q ha hk => ?_⟩
 ·obtain ⟨a, b, d, f, k⟩ := hl.2 q hq; exact ⟨a, b, d, f, by omega⟩
 ·obtain ⟨_, _, hq, _⟩ := q1d ha
  obtain ⟨x', q', p, h1, h2, h3, h4, h5⟩ := H.tim e hm hk
  rw [hx] at h1; cases h1
  rw [hq] at h2; cases h2
  rw [h3]; exact ⟨h4, by show e.arg ≤ (p.length : Int); omega⟩
theorem SInv.head (H : SInv c s h) {e : Evt} {rest : List Evt} (hp : s.pend = e :: rest) (hn : h.length ≤ 20000) : ∃ x, s.lps[e.lp.toNat]? = some x ∧ q3u s e.lp = x ∧ Ready c x e :=
 H.toSInvK.headM (by rw [hp]; simp) hn
theorem q3x {e : Evt} {out : List Evt} (h : ∀ k ev ev', out[k]? = some ev → out[k + 1]? = some ev' → ∃ m m' : Int, ev.key = e.key ++ [m] ∧ ev'.key = e.key ++ [m'] ∧ m < m') :
  ∀ (d i : Nat) (a b : Evt), out[i]? = some a → out[i + d + 1]? = some b → ∃ m m' : Int, a.key = e.key ++ [m] ∧ b.key = e.key ++ [m'] ∧ m < m'
 | 0, i, a, b, ha, hb => h i a b ha hb
 | d + 1, i, a, b, ha, hb => by
  have hlt := (List.getElem?_eq_some_iff.1 hb).1
  obtain ⟨x, hx⟩ : ∃ x, out[i + d + 1]? = some x := ⟨_, List.getElem?_eq_getElem (by omega)⟩
  obtain ⟨m, m1, h1, h2, h3⟩ := q3x h d i a x ha hx
  obtain ⟨m2, m3, h4, h5, h6⟩ := h (i + d + 1) x b hx hb
  rw [h2] at h4
  have := List.append_cancel_left h4
  simp only [List.cons.injEq, and_true] at this
  exact ⟨m, m3, h1, h5, by omega⟩
theorem q5q {e : Evt} {out : List Evt} (h : ∀ k ev ev', out[k]? = some ev → out[k + 1]? = some ev' → ∃ m m' : Int, ev.key = e.key ++ [m] ∧ ev'.key = e.key ++ [m'] ∧ m < m') : qma out := by
 unfold qma
 rw [List.pairwise_iff_getElem]
 intro i j hi hj hij hk
 obtain ⟨m, m', h1, h2, h3⟩ := q3x h (j - i - 1) i out[i] out[j] (List.getElem?_eq_getElem hi) (by rw [show i + (j - i - 1) + 1 = j by omega]; exact List.getElem?_eq_getElem hj)
 rw [hk, h2] at h1
 have := List.append_cancel_left h1
 simp only [List.cons.injEq, and_true] at this
 omega
theorem SInvK.keyNeP (H : SInvK c s h) {e : Evt} {rest : List Evt} (hp : s.pend.Perm (e :: rest)) (hn : h.length ≤ 20000) : qma ((h ++ [e]) ++ (rest ++ (qbf c (q3u s e.lp) e).out)) := by
 have hme : e ∈ s.pend := hp.mem_iff.2 (by simp)
 obtain ⟨x, hx, hlx, R⟩ := H.headM hme hn
 rw [hlx]
 obtain ⟨X, _, o1, o2⟩ := R.outs
 have hk : qma (h ++ e :: rest) := qma.perm H.keys (hp.symm.append_left h)
 have e1 : (h ++ [e]) ++ (rest ++ (qbf c x e).out) = (h ++ e :: rest) ++ (qbf c x e).out := by simp
 rw [e1]
 unfold qma at hk ⊢
 rw [List.pairwise_append]
 refine ⟨hk, q5q o2, fun a ha b hb hab => ?_⟩
 obtain ⟨k, hkb⟩ := List.mem_iff_getElem?.1 hb
 obtain ⟨m, hm, _⟩ := (o1 k b hkb).key
 have ha' : a ∈ h ++ s.pend := by
  rcases List.mem_append.1 ha with ha | ha
  ·exact List.mem_append_left _ ha
  ·exact List.mem_append_right _ (hp.mem_iff.2 ha)
 have ge := H.ev e (List.mem_append_right _ hme)
 rw [hm] at hab
 rcases H.par a ha' with h2 | ⟨p, hp1, m', h2, _⟩
 ·rw [hab] at h2; simp at h2; have := ge.key; omega
 ·rw [hab] at h2
  have hlen := congrArg List.length h2
  simp at hlen
  have := (List.append_inj h2 hlen).1
  rw [List.pairwise_append] at hk
  exact hk.2.2 p hp1 e (by simp) this.symm
theorem SInv.keyNe (H : SInv c s h) {e : Evt} {rest : List Evt} (hp : s.pend = e :: rest) (hn : h.length ≤ 20000) : qma ((h ++ [e]) ++ (rest ++ (qbf c (q3u s e.lp) e).out)) :=
 H.toSInvK.keyNeP (by rw [hp]) hn
end
set_option maxRecDepth 10000
section
variable (G : List (List Int)) (c : Bool) (x : Evt)
end
set_option maxRecDepth 10000
structure GoneAt (σ : qr) (p : Nat) (G : List (List Int)) : Prop where
 at_ : σ[p]? = some (.row 1 [[(.fsl ((G).map qep) false)]] 1)
 len : G.length ≤ 1000
 key : ∀ k ∈ G, k.length ≤ 9223372036854775807
section
variable (σ : qr) (p o g : Nat) (G : List (List Int)) (D : List Evt)
def zEvt : Evt := ⟨0, [], 0, 0, 0, 0⟩
theorem zEvt_r : zEvt.r = [(ii 0), .fsl [] false, (ii 0), (ii 0), (ii 0), (ii 0)] := rfl
structure DelInv (G : List (List Int)) (D : List Evt) (j : Nat) (E : List Evt) : Prop where
 len : E.length = D.length
 kept : E.take ((D.take j).filter (qjs G)).length = (D.take j).filter (qjs G)
 rest : E.drop j = D.drop j
 lt : ((D.take j).filter (qjs G)).length < j
end
set_option maxRecDepth 10000
section
variable (σ : qr) (p o g n : Nat) (G : List (List Int)) (D : List Evt)
structure Grown (τ : qr) (n o : Nat) (R : List (List AV)) (g : Nat) : Prop where
 len : τ.length = n
 lt : o < n
 at_ : τ[o]? = some (.row 6 R g)
 lo : qg n τ = true
end
set_option maxRecDepth 10000
def qcp (l : List Evt) : List AV := [(.fsl ((l).map Evt.r) false)]
theorem q3z (n : Nat) (l : List Evt) : los n (qcp l) = true := by simp only [qcp, los, AV.lo, qaa, zfc]
theorem evtsC_pl (l : List Evt) : (qcp l).length = 1 ∧ qo (qcp l) = true := ⟨rfl, rfl⟩
theorem qjr (n : Nat) (l : List (List Evt)) : qiu n (l.map qcp) = true := qko (q3z n) l
theorem evss_ok (l : List (List Evt)) : qcd 1 (l.map qcp) = true := qkw evtsC_pl l
theorem grow_ev (n : Nat) (h : n ≤ 1000000) : (evL T).call qaw [.fsl [] true, (ii n)] [] =
  if n = 0 then some (.fsl [] true, []) else some (.sl 0 0 0 0 false, [.row 6 ((List.replicate n zEvt).map Evt.r) 0]) := by
 have c1 : ¬ (n : Int) < 0 := by omega
 have w : IntKind.i64.wrap ((n : Int) - ((0 : Nat) : Int)) = n := by rw [qas (by omega) (by omega)]; omega
 have w0 : IntKind.i64.wrap 0 = 0 := rfl
 have w1 : IntKind.i64.wrap ((n : Int) - 0) = n := by rw [qas (by omega) (by omega)]; omega
 have ok := qew (List.replicate n zEvt)
 rw [List.map_replicate] at ok ⊢
 have b : n * 64 ≤ 140737488355328 := by omega
 rw [qad qig qh3]
 by_cases h0 : n = 0
 ·subst h0
  rw [if_pos rfl]
  simp only [qbw, Int.lt_irrefl, w0, Int.sub_zero, gt_iff_lt, qj, Ev.exec, qb, qe, qc, qai, Ev.Opnd.ev, Ev.Env.get, Ev.Env.set, Ev.look, qk, qsf, ql, qbh, qi, qq, qaj, Ev.kill, qag, qg, qm, qu, ↓qn, ↓reduceIte, zga, zgb, zfe, Nat.reduceAdd, Nat.reduceEqDiff, Int.cast_ofNat_Int, reduceCtorEq, zgw, zfa, zgx, zfd, zgy]
 ·have c2 : (n : Int) > 0 := by omega
  rw [if_neg h0]
  simp only [zEvt_r] at ok ⊢
  simp only [qbw, zgr, c1, c2, w0, w1, ok, b, zgs, Nat.sub_zero, Int.le_refl, qj, Ev.exec, qb, qe, qc, qai, Ev.Opnd.ev, Ev.Env.get, Ev.Env.set, Ev.look, qk, qf9, qsf, ql, qbh, qi, qq, qaj, Ev.kill, qag, qg, qdq, qbc, ↓qn, ↓reduceIte, zga, zgb, zgd, zgo, zfe, List.drop_nil, zgl, Nat.reduceAdd, Nat.reduceEqDiff, Nat.reduceLT, Nat.reducePow, Int.reduceSub, Int.reduceToNat, Int.cast_ofNat_Int, reduceCtorEq, zgv, zgw, zfc, zfa, zgx, and_true, zfd, Nat.add_zero, Option.isSome_some, Option.isSome_none, zgy, implies_true, Bool.false_and]
set_option maxRecDepth 10000
section
variable (xs : List (List Evt)) (cl : Bool)
theorem qye {xs : List (List Evt)} {i : Nat} {x : List Evt} (h : xs[i]? = some x) : (xs.take (i + 1)).flatten = (xs.take i).flatten ++ x := by rw [qjb h, List.flatten_append]; simp
theorem q8n (xs : List (List Evt)) (i : Nat) : (xs.take i).flatten.length ≤ xs.flatten.length := by
 have : xs.flatten = (xs.take i).flatten ++ (xs.drop i).flatten := by rw [← List.flatten_append, List.take_append_drop]
 rw [this, List.length_append]; omega
theorem q6z (hx : xs.length ≤ 1000000) (hT : xs.flatten.length ≤ 1000000) :
  ∃ y, itB (exec (evL T) itL none qbn) (qs [0, 3, 9, 10, 11] true 0) ⟨[(0, (.fsl ((xs).map qcp) cl)), (3, (ii 0)), (9, (.fsl ((xs).map qcp) cl)), (10, (ii xs.length)), (11, (ii 0))], []⟩ [] = some y ∧
   y.1 = .exit 0 ∧ y.2.1.marks = [] ∧ y.2.2 = [] ∧ Ev.look y.2.1.vars 0 = some (.fsl ((xs).map qcp) cl) ∧ Ev.look y.2.1.vars 3 = some (ii xs.flatten.length) := by
 have key := qf4 (f := exec (evL T) itL none qbn) (s := qs [0, 3, 9, 10, 11] true 0) (α := Unit)
  (fun i _ => ⟨[(0, (.fsl ((xs).map qcp) cl)), (3, (ii ((xs.take i).flatten.length))), (9, (.fsl ((xs).map qcp) cl)), (10, (ii xs.length)), (11, (ii i))], []⟩) (fun _ _ => [])
  (fun _ _ => True) xs.length (fun y => y.1 = .exit 0 ∧ y.2.1.marks = [] ∧ y.2.2 = [] ∧ Ev.look y.2.1.vars 0 = some (.fsl ((xs).map qcp) cl) ∧ Ev.look y.2.1.vars 3 = some (ii xs.flatten.length)) ?_ ?_ 0 () (Nat.zero_le _) trivial
 ·exact key
 ·rintro i _ hi _
  obtain ⟨x, hx'⟩ : ∃ x, xs[i]? = some x := ⟨_, List.getElem?_eq_getElem hi⟩
  have hi' : (i : Int) < (xs.length : Int) := by omega
  have hw : IntKind.i64.wrap ((i : Int) + 1) = ((i + 1 : Nat) : Int) := by rw [qas (by omega) (by omega)]; simp
  have h1 := q8n xs (i + 1)
  rw [qye hx', List.length_append] at h1
  have h2 : IntKind.i64.wrap (((xs.take i).flatten.length : Int) + (x.length : Int)) = (((xs.take i).flatten.length + x.length : Nat) : Int) := q7x (by omega)
  refine .inl ⟨(), ?_, trivial⟩
  rw [qye hx', List.length_append]
  generalize (xs.take i).flatten.length = m at h2 h1 ⊢
  have h3 : ¬ ((m + x.length : Nat) : Int) < 0 := by omega
  simp only [qbn, zgs, zgr, zgq, zgt, hx', hi', hw, h2, h3, qcp, qjr, Ev.exec, qb, qe, qc, qai, Ev.Opnd.ev, Ev.Env.get, Ev.Env.set, Ev.look, qf, qv, qao, ql, qs, Ev.keep, qal, qaf, qg, qba, qm, zgi, ↓qn, Ev.it1, ↓reduceIte, zga, zgb, zfe, zgh, Nat.reduceEqDiff, reduceCtorEq, zgv, zgw, zfc, zfa, zgx, zfd, zgy]
 ·rintro _ _
  simp only [qbn, Int.lt_irrefl, List.take_length, Ev.exec, qb, qe, qc, qai, Ev.Opnd.ev, Ev.Env.get, Ev.Env.set, Ev.look, ql, List.take_length, ↓qn, Ev.it1, ↓reduceIte, Nat.reduceEqDiff, reduceCtorEq, zgw, zfa, zgy]
  exact ⟨_, rfl, rfl, rfl, rfl, rfl, rfl⟩
def CInv (xs : List (List Evt)) (i : Nat) (a : AV × qr) : Prop :=
 (i = 0 ∧ xs.flatten.length = 0 ∧ a = (.fsl [] true, [])) ∨
 ∃ (g : Nat) (W : List Evt), a = (.sl 0 g 0 (xs.take i).flatten.length false, [.row 6 (W.map Evt.r) g]) ∧ (W = (xs.take i).flatten ∨ (xs.take i).flatten = [] ∧ 0 < xs.flatten.length)
theorem q64 (hx : xs.length ≤ 1000000) (hT : xs.flatten.length ≤ 1000000) (a : AV × qr) (ha : CInv xs 0 a) (n : Nat) :
  ∃ y, itB (exec (evL T) itL none qat) (qs [6, 25, 26, 27] false n) ⟨[(6, a.1), (25, (.fsl ((xs).map qcp) cl)), (26, (ii xs.length)), (27, (ii 0))], []⟩ a.2 = some y ∧
   ∃ b, CInv xs xs.length b ∧ y.1 = .exit 2 ∧ y.2.1.marks = [] ∧ y.2.2 = b.2 ∧ Ev.look y.2.1.vars 6 = some b.1 := by
 have key := qf4 (f := exec (evL T) itL none qat) (s := qs [6, 25, 26, 27] false n) (α := AV × qr)
  (fun i a => ⟨[(6, a.1), (25, (.fsl ((xs).map qcp) cl)), (26, (ii xs.length)), (27, (ii i))], []⟩) (fun _ a => a.2)
  (fun i a => CInv xs i a) xs.length (fun y => ∃ b, CInv xs xs.length b ∧ y.1 = .exit 2 ∧ y.2.1.marks = [] ∧ y.2.2 = b.2 ∧ Ev.look y.2.1.vars 6 = some b.1) ?_ ?_ 0 a (Nat.zero_le _) ha
 ·exact key
 ·rintro i a hi ha
  obtain ⟨x, hx'⟩ : ∃ x, xs[i]? = some x := ⟨_, List.getElem?_eq_getElem hi⟩
  have hi' : (i : Int) < (xs.length : Int) := by omega
  have hw : IntKind.i64.wrap ((i : Int) + 1) = ((i + 1 : Nat) : Int) := by rw [qas (by omega) (by omega)]; simp
  have h1 := q8n xs (i + 1)
  have hfl := qye hx'
  rw [hfl, List.length_append] at h1
  have ok := qew x
  rcases ha with ⟨hi0, h0, rfl⟩ | ⟨g, W, rfl, hW⟩
  ·have hfi : (xs.take i).flatten = [] := by rw [hi0]; rfl
   have hx0 : x = [] := List.eq_nil_of_length_eq_zero (by omega)
   subst hx0
   refine .inl ⟨(.sl 0 0 0 0 false, [.row 6 [] 0]), ?_, .inr ⟨0, [], ?_, .inl ?_⟩⟩
   ·simp only [qat, zgs, zgr, zgq, zgt, hx', hi', hw, qcp, List.map_nil, Nat.zero_mul, Nat.zero_le, Ev.exec, qb, qe, qc, qai, qm5, Ev.Opnd.ev, Ev.Env.get, Ev.Env.set, Ev.look, qf, qbq, qv, qao, ql, qs, Ev.keep, qbc, ↓qn, Ev.it1, ↓reduceIte, zga, zgb, zgl, zgn, zgh, Nat.reduceEqDiff, Nat.reduceLT, Nat.reducePow, zgv, zfa, zgx, ne_eq, not_true_eq_false, zfd, Nat.add_zero, zgy, and_false]
   ·rw [hfl, hfi]; simp
   ·rw [hfl, hfi]; simp
  ·by_cases hx0 : x = []
   ·subst hx0
    rw [List.append_nil] at hfl
    refine .inl ⟨(.sl 0 g 0 (xs.take i).flatten.length false, [.row 6 (W.map Evt.r) g]), ?_, .inr ⟨g, W, by rw [hfl], by rw [hfl]; exact hW⟩⟩
    have hWl : (xs.take i).flatten.length ≤ W.length := by
     rcases hW with rfl | ⟨h, _⟩
     ·exact Nat.le_refl _
     ·rw [h]; exact Nat.zero_le _
    have b : (xs.take i).flatten.length * 64 ≤ 140737488355328 := by have := h1; simp at this; omega
    simp only [qat, zgs, zgr, zgq, zgt, hx', hi', hw, qcp, List.map_nil, hWl, b, Ev.exec, qb, qe, qc, qai, qm5, Ev.Opnd.ev, Ev.Env.get, Ev.Env.set, Ev.look, qf, qbq, qv, qao, ql, qs, Ev.keep, qbc, zgi, ↓qn, Ev.it1, ↓reduceIte, zga, zgb, zgd, zgh, Nat.reduceEqDiff, Nat.reducePow, zgv, zfa, zgx, zfd, Nat.add_zero, zgy]
   ·have hWl : (xs.take i).flatten.length ≤ W.length ∧ W.take (xs.take i).flatten.length = (xs.take i).flatten := by
     rcases hW with rfl | ⟨h, _⟩
     ·exact ⟨Nat.le_refl _, List.take_length⟩
     ·rw [h]; exact ⟨Nat.zero_le _, rfl⟩
    obtain ⟨w1, w2⟩ := hWl
    have hm : x.map Evt.r ≠ [] := by simpa using hx0
    have w3 : (W.map Evt.r).take (xs.take i).flatten.length = ((xs.take i).flatten).map Evt.r := by rw [← List.map_take, w2]
    have b : ((xs.take i).flatten.length + x.length) * 64 ≤ 140737488355328 := by omega
    refine .inl ⟨(.sl 0 (g + 1) 0 ((xs.take i).flatten.length + x.length) false, [.row 6 (((xs.take i).flatten ++ x).map Evt.r) (g + 1)]), ?_, .inr ⟨g + 1, _, by rw [hfl, List.length_append], .inl hfl.symm⟩⟩
    rw [List.map_append]
    generalize (xs.take i).flatten = F at *
    simp only [qat, zgs, zgr, zgq, zgt, hx', hi', hw, qcp, ok, hm, w1, w3, b, Ev.exec, qb, qe, qc, qai, qm5, Ev.Opnd.ev, Ev.Env.get, Ev.Env.set, Ev.look, qf, qbq, qv, qao, ql, qs, Ev.keep, zgi, ↓qn, Ev.it1, ↓reduceIte, zga, zgb, zgd, zgj, zgh, Nat.reduceEqDiff, Nat.reducePow, zgv, zfa, zgx, zfd, zgy]
 ·rintro a ha
  simp only [qat, Int.lt_irrefl, Ev.exec, qb, qe, qc, qai, Ev.Opnd.ev, Ev.Env.get, Ev.Env.set, Ev.look, ql, ↓qn, Ev.it1, ↓reduceIte, Nat.reduceEqDiff, zgw, zfa, zgy]
  exact ⟨_, rfl, a, ha, rfl, rfl, rfl, rfl⟩
theorem q7o (hx : xs.length ≤ 1000000) (hT : xs.flatten.length ≤ 1000000) (hne : xs ≠ []) :
  ∃ g : Nat, (evL T).call qaq [(.fsl ((xs).map qcp) cl)] [] = some (.sl 0 g 0 xs.flatten.length false, [.row 6 (xs.flatten.map Evt.r) g]) := by
 obtain ⟨⟨y, e, σ⟩, k1, k2, k3, k4, k5, k6⟩ := q6z xs cl hx hT
 simp only at k1 k2 k3 k4 k5 k6
 subst k2; subst k4
 have hg := grow_ev xs.flatten.length hT
 obtain ⟨a, n, ha, hc, hn⟩ : ∃ (a : AV × qr) (n : Nat), CInv xs 0 a ∧ (evL T).call qaw [.fsl [] true, (ii xs.flatten.length)] [] = some a ∧ a.2.length = n := by
  by_cases h0 : xs.flatten.length = 0
  ·exact ⟨_, _, .inl ⟨rfl, h0, rfl⟩, by rw [hg, if_pos h0], rfl⟩
  ·exact ⟨(.sl 0 0 0 0 false, [.row 6 ((List.replicate xs.flatten.length zEvt).map Evt.r) 0]), _, .inr ⟨0, _, rfl, .inr ⟨rfl, by omega⟩⟩, by rw [hg, if_neg h0], rfl⟩
 obtain ⟨⟨y', e', σ'⟩, l1, b, hb, l2, l3, l4, l5⟩ := q64 xs cl hx hT a ha n
 simp only at l1 l2 l3 l4 l5
 subst l2; subst l4
 have hb' : ∃ g : Nat, b = (.sl 0 g 0 xs.flatten.length false, [.row 6 (xs.flatten.map Evt.r) g]) := by
  rcases hb with ⟨h, _⟩ | ⟨g, W, rfl, hW⟩
  ·exact absurd (List.eq_nil_of_length_eq_zero h) hne
  ·rw [List.take_length] at hW ⊢
   rcases hW with rfl | ⟨h, h2⟩
   ·exact ⟨g, rfl⟩
   ·rw [h] at h2; simp at h2
 obtain ⟨g, rfl⟩ := hb'
 refine ⟨g, ?_⟩
 have himp : qgx (q2m 0) a.2 = some a.2 ∧ a.1.shift 0 = a.1 := by
  rcases ha with ⟨_, _, rfl⟩ | ⟨g, W, rfl, _⟩
  ·exact ⟨rfl, rfl⟩
  ·refine ⟨?_, rfl⟩
   simp only [q2m, qel, qgs, qhi, qaa, q2m, qgs, qel, qhi, ↓qn, zgy]
 obtain ⟨i1, i2⟩ := himp
 rw [qad qhn qhd]
 simp only [qcc, k1, k3, k5, k6, hc, hn, i1, i2, l1, l3, l5, qjr, qj, Ev.exec, qb, qe, qc, qrg, qai, Ev.evs, Ev.Opnd.ev, Ev.Env.get, Ev.Env.set, Ev.look, qk, qi, qq, qaj, Ev.kill, qag, qs, Ev.keep, qal, qaf, qg, qba, qm, qdq, qh, qd, qu, zgi, ↓qn, ↓qa4, ↓reduceIte, zga, zgb, zgo, zfe, zgl, Nat.reduceEqDiff, Nat.reduceLT, reduceCtorEq, zgw, zfc, zfa, zgx, and_true, zfd, zgy]
end
set_option maxRecDepth 10000
section
variable (l : List Evt) (c : Bool) (k : List Int) (d : Bool)
theorem q53 (x : Evt) (kx : x.key.length ≤ 9223372036854775807) (kk : k.length ≤ 9223372036854775807) : (evL T).call qcv [(.agg [(ii x.time), (.fsl ((x.key).map qby) false), (ii x.lp), (ii x.kind), (ii x.proc), (ii x.arg)]), (.fptr [(.fsl ((k).map qby) d)])] [] = some ((bb (decide (x.key = k))), []) := by
 have h := qp2 x.key k false d kx kk
 obtain ⟨xt, xk, xl, xi, xp, xa⟩ := x
 simp only at h
 rw [qad qq5 qpu]
 simp only [qiv, h, qw, qj, Ev.exec, qb, qe, qc, qav, qai, Ev.evs, Ev.Opnd.ev, Ev.Env.get, Ev.Env.set, Ev.look, qk, qf, qv, Ev.AV.cells, qo, Ev.AV.plain, qi, qq, qaj, Ev.kill, qag, qg, qba, qm, qh, qd, ↓qn, ↓reduceIte, zga, zgb, zfe, zgf, zgg, zgh, Nat.reduceAdd, Nat.reduceEqDiff, reduceCtorEq, zfc, zfa, zgx, ne_eq, zfb, zff, zfd, zgy]
theorem canIdx_L (hl : l.length ≤ 1000000) (hk : qid l) (kk : k.length ≤ 9223372036854775807) :
  ∃ y, itB (exec (evL T) itL none qaz) (qs [0, 1, 7, 8] true 0) ⟨[(0, (.fsl ((l).map Evt.r) c)), (1, (.fn (.func qcv) [] [(.fptr [(.fsl ((k).map qby) d)])])), (7, (ii l.length)), (8, (ii 0))], []⟩ [] = some y ∧
   ((y.1 = .exit 0 ∧ y.2.1.marks = [] ∧ y.2.2 = [] ∧ qg2 l k = (l, false)) ∨
    ∃ (i : Nat) (x : Evt), y.1 = .ret ∧ y.2.1.marks = [] ∧ y.2.2 = [] ∧ Ev.look y.2.1.vars 4 = some (ii i) ∧ l[i]? = some x ∧ qg2 l k = (l.take i ++ l.drop (i + 1), true)) := by
 have key := qf4 (f := exec (evL T) itL none qaz) (s := qs [0, 1, 7, 8] true 0) (α := Unit)
  (fun i a => ⟨[(0, (.fsl ((l).map Evt.r) c)), (1, (.fn (.func qcv) [] [(.fptr [(.fsl ((k).map qby) d)])])), (7, (ii l.length)), (8, (ii i))], []⟩) (fun i a => [])
  (fun i a => ∀ (j : Nat) (z : Evt), j < i → l[j]? = some z → ¬ z.key = k) l.length
  (fun y => ((y.1 = .exit 0 ∧ y.2.1.marks = [] ∧ y.2.2 = [] ∧ qg2 l k = (l, false)) ∨
    ∃ (i : Nat) (x : Evt), y.1 = .ret ∧ y.2.1.marks = [] ∧ y.2.2 = [] ∧ Ev.look y.2.1.vars 4 = some (ii i) ∧ l[i]? = some x ∧ qg2 l k = (l.take i ++ l.drop (i + 1), true))) ?_ ?_ 0 () (Nat.zero_le _) (fun j z h => by omega)
 ·exact key
 ·rintro i _ hi hinv
  obtain ⟨x, hx⟩ : ∃ x, l[i]? = some x := ⟨_, List.getElem?_eq_getElem hi⟩
  have hi' : (i : Int) < (l.length : Int) := by omega
  have hw : IntKind.i64.wrap ((i : Int) + 1) = ((i + 1 : Nat) : Int) := q0e (by omega)
  have hc := q53 k d x (hk x (List.mem_of_getElem? hx)) kk
  by_cases hxk : x.key = k
  ·have hE := q8j l k hx hxk hinv
   rw [decide_eq_true hxk] at hc
   refine .inr ?_
   generalize qg2 l k = R at *
   have hx' := hx
   clear hinv hxk
   obtain ⟨xt, xk, xl, xi, xp, xa⟩ := x
   simp only at hc
   simp only [qaz, zgs, zgr, zgq, zgt, hx, hi', hc, Evt.r, Ev.exec, qb, qe, qc, qtl, qai, Ev.evs, Ev.Opnd.ev, Ev.Env.get, Ev.Env.set, Ev.look, qf, qv, ql, ↓qn, Ev.it1, ↓reduceIte, zga, zgb, zgc, zfe, zgm, zgl, Nat.reduceAdd, Nat.reduceEqDiff, reduceCtorEq, zgv, zfd, Nat.le_refl, zgy]
   exact ⟨_, rfl, .inr ⟨i, _, rfl, rfl, rfl, rfl, hx', hE⟩⟩
  ·refine .inl ⟨(), ?_, fun j z hj hz => ?_⟩
   ·rw [decide_eq_false hxk] at hc
    clear hinv
    obtain ⟨xt, xk, xl, xi, xp, xa⟩ := x
    simp only at hc
    simp only [qaz, zgs, zgr, zgq, zgt, hx, hi', hw, hc, Evt.r, qaa, qw, Ev.exec, qb, qe, qc, qtl, qai, Ev.evs, Ev.Opnd.ev, Ev.Env.get, Ev.Env.set, Ev.look, qf, qv, qao, ql, qs, Ev.keep, qal, qaf, qg, qba, qm, qbm, qzd, qh, qd, ↓qn, Ev.it1, ↓reduceIte, zga, zgb, zgc, zfe, zgm, zgl, Nat.reduceAdd, Nat.reduceEqDiff, reduceCtorEq, zgv, zfc, zfa, zgx, zfd, Nat.le_refl, zgy]
   ·rcases Nat.lt_or_ge j i with h1 | h1
    ·exact hinv j z h1 hz
    ·have : j = i := by omega
     subst this
     rw [hx] at hz; cases hz; exact hxk
 ·rintro _ hinv
  have hE := q3f l k fun x hx => by
   obtain ⟨j, hj⟩ := List.mem_iff_getElem?.1 hx
   exact hinv j x (List.getElem?_eq_some_iff.1 hj).1 hj
  generalize qg2 l k = R at *
  simp only [qaz, Int.lt_irrefl, Ev.exec, qb, qe, qc, qai, Ev.Opnd.ev, Ev.Env.get, Ev.Env.set, Ev.look, ql, ↓qn, Ev.it1, ↓reduceIte, Nat.reduceEqDiff, reduceCtorEq, zgw, zfa, zgy]
  exact ⟨_, rfl, .inl ⟨rfl, rfl, rfl, hE⟩⟩
theorem q62 (hl : l.length ≤ 1000000) (hk : qid l) (kk : k.length ≤ 9223372036854775807) :
  ∃ z : Int, (evL T).call qau [(.fsl ((l).map Evt.r) c), (.fn (.func qcv) [] [(.fptr [(.fsl ((k).map qby) d)])])] [] = some ((ii z), []) ∧ ((z = -1 ∧ qg2 l k = (l, false)) ∨ ∃ (i : Nat) (x : Evt), z = i ∧ l[i]? = some x ∧ qg2 l k = (l.take i ++ l.drop (i + 1), true)) := by
 obtain ⟨⟨y, e, σ⟩, h1, h⟩ := canIdx_L l c k d hl hk kk
 rw [qad qg1 qgu]
 rcases h with ⟨h2, h3, h4, h5⟩ | ⟨i, x, h2, h3, h4, h5, h6, h7⟩ <;> simp only at h2 h3 h4 <;> subst h2 <;> subst h4
 ·refine ⟨-1, ?_, .inl ⟨rfl, h5⟩⟩
  simp only [qbo, h1, h3, qaa, qw, qj, Ev.exec, qb, qe, qc, qai, Ev.Opnd.ev, Ev.Env.get, Ev.Env.set, Ev.look, qk, qi, qq, qaj, Ev.kill, qag, qs, Ev.keep, qal, qaf, qg, qba, qm, qbm, qzd, qh, qd, zgi, ↓qn, ↓qa4, ↓reduceIte, zga, zgb, zfe, Nat.reduceAdd, Nat.reduceEqDiff, Int.reduceNeg, reduceCtorEq, zfc, zgx, zfd, zgy]
 ·refine ⟨i, ?_, .inr ⟨i, x, rfl, h6, h7⟩⟩
  simp only at h5
  simp only [qbo, h1, h3, h5, qaa, qw, qj, Ev.exec, qb, qe, qc, qai, Ev.Opnd.ev, Ev.Env.get, Ev.Env.set, Ev.look, qk, qi, qq, qaj, Ev.kill, qag, qs, Ev.keep, qal, qaf, qg, qba, qm, qbm, qzd, qh, qd, zgi, ↓qn, ↓qa4, ↓reduceIte, zga, zgb, zfe, Nat.reduceAdd, Nat.reduceEqDiff, Int.reduceNeg, reduceCtorEq, zfc, zgx, zfd, zgy]
theorem qtv (hl : l.length ≤ 1000000) (hk : qid l) (kk : k.length ≤ 9223372036854775807) (hc0 : l ≠ [] → c = false) :
  ∃ cf : Bool, ((qg2 l k).1 ≠ [] → cf = false) ∧ qa3 (evL T) qff [(.fsl ((l).map Evt.r) c), (.fsl ((k).map qby) d)] = some (.tup [(.fsl (((qg2 l k).1).map Evt.r) cf), (bb ((qg2 l k).2))]) := by
 obtain ⟨z, h1, h⟩ := q62 l c k false hl hk kk
 rcases h with ⟨rfl, h2⟩ | ⟨i, x, rfl, hx, h2⟩
 ·rw [h2]
  refine ⟨c, hc0, ?_⟩
  rw [qa3, qad qm8 qme]
  simp only [qin, h1, qaa, qj, Ev.exec, qb, qe, qc, qjv, qai, Ev.evs, Ev.Opnd.ev, Ev.Env.get, Ev.Env.set, Ev.look, qk, Ev.AV.cells, Ev.AV.uc, qo, Ev.AV.plain, ql, qi, qq, qaj, Ev.kill, qag, qg, qba, qb0, qm, qh, qd, qx, ↓qn, ↓reduceIte, zga, zgb, zfe, Nat.reduceAdd, Nat.reduceEqDiff, Int.reduceLT, Int.reduceNeg, reduceCtorEq, zgv, zfc, zgx, ne_eq, zfb, zff, zfd, zgy]
 ·rw [h2]
  obtain ⟨hi, _⟩ := List.getElem?_eq_some_iff.1 hx
  obtain rfl : c = false := hc0 (by intro h; subst h; simp at hi)
  refine ⟨false, fun _ => rfl, ?_⟩
  have c0 : ¬ (i : Int) < 0 := by omega
  have c1 : (i : Int) ≤ (l.length : Int) := by omega
  have c2 : (0 : Int) ≤ (i : Int) := by omega
  have c3 : ((i + 1 : Nat) : Int) ≤ (l.length : Int) := by omega
  have c4 : (0 : Int) ≤ ((i + 1 : Nat) : Int) := by omega
  have hw : IntKind.i64.wrap ((i : Int) + 1) = ((i + 1 : Nat) : Int) := q0e (by omega)
  obtain ⟨g, hcc⟩ := q7o [l.take i, l.drop (i + 1)] true (by simp) (by simp; omega) (by simp)
  simp only [List.flatten_cons, List.flatten_nil, zgn, List.map_cons, List.map_nil, qcp] at hcc
  have tk : List.take i (l.map Evt.r) = (l.take i).map Evt.r := by rw [List.map_take]
  have dr : List.drop (i + 1) (l.map Evt.r) = (l.drop (i + 1)).map Evt.r := by rw [List.map_drop]
  have tb : List.take (l.length - (i + 1)) ((l.drop (i + 1)).map Evt.r) = (l.drop (i + 1)).map Evt.r := List.take_of_length_le (by simp)
  have okl := qew l
  have htk : ∀ R : List Evt, (R.map Evt.r).take R.length = R.map Evt.r := fun R => List.take_of_length_le (by simp)
  have htk2 : List.take ((l.take i).length + (l.drop (i + 1)).length) ((l.take i ++ l.drop (i + 1)).map Evt.r) = (l.take i ++ l.drop (i + 1)).map Evt.r := List.take_of_length_le (by rw [List.length_map, List.length_append]; exact Nat.le_refl _)
  rw [qa3, qad qm8 qme]
  simp only [qin, zgr, h1, htk2, c0, c1, c2, c3, c4, hw, hcc, tk, dr, tb, okl, Int.le_refl, Nat.sub_zero, zgg, imp_self, show ∀ v : List AV, List.replicate 2 v = [v, v] from fun _ => rfl, Int.toNat_zero, qaa, qj, Ev.exec, qb, qe, qc, qrg, qjv, q2m, Ev.AV.shift, qai, Ev.evs, Ev.Opnd.ev, Ev.Env.get, Ev.Env.set, Ev.look, qk, qf9, qfk, Ev.AV.cells, Ev.AV.uc, qo, Ev.AV.plain, qao, ql, qi, qq, qaj, Ev.kill, qag, qg, qba, qb0, qm, qdq, qh, qd, qu, qak, qx, quu, qhb, qe3, qgs, qel, qhi, zgi, ↓qn, ↓reduceIte, zga, zgb, zgp, zgd, zgo, zgg, zgl, zgj, zgk, Nat.reduceAdd, Nat.reduceEqDiff, Nat.reduceMul, Nat.reduceLT, Nat.reduceLeDiff, Nat.reducePow, reduceCtorEq, zgv, zgw, zfc, Bool.and_true, zfa, zgx, and_true, ne_eq, zfb, zff, zfd, Nat.add_zero, zgu, Nat.le_refl, Option.isSome_some, Option.isSome_none, zgy, implies_true, Bool.false_and]
end
set_option maxRecDepth 10000
section
variable {c : Cfg} {s : Sim} {h : List Evt}
theorem qqu (h : List Evt) (e : Evt) (i : Nat) : qf8 (h ++ [e]) i = if e.lp = i then qf8 h i ++ [e] else qf8 h i := by
 unfold qf8
 rw [List.filter_append, List.filter_cons, List.filter_nil]
 by_cases k : e.lp = i
 ·rw [if_pos k, if_pos (by simpa using k)]
 ·rw [if_neg k, if_neg (by simpa using k), List.append_nil]
theorem badP_iff {c : Cfg} {q : Pr} (h : badP c q = false) : 0 ≤ q.prog ∧ q.prog < c.progs.length ∧ 0 ≤ q.pc ∧ q.pc ≤ ((c.progs[q.prog.toNat]?).getD []).length := by
 simp only [badP, Bool.not_eq_false', Bool.and_eq_true, decide_eq_true_eq] at h
 omega
theorem SInvK.stepP (H : SInvK c s h) {e : Evt} {rest P T : List Evt} (ov : Bool) (hp : s.pend.Perm (e :: rest)) (hn : h.length ≤ 20000) (hP : (P ++ T).Perm (rest ++ (qbf c (q3u s e.lp) e).out)) :
  SInvK c ⟨s.trace.set e.lp.toNat (qsm s e.lp ++ [e]), s.lps.set e.lp.toNat (qbf c (q3u s e.lp) e).lp, P, s.n + 1, ov⟩ (h ++ [e]) := by
 have hme : e ∈ s.pend := hp.mem_iff.2 (by simp)
 obtain ⟨x, hx, hlx, R⟩ := H.headM hme hn
 have hkn := H.keyNeP hp hn
 have ge := H.ev e (List.mem_append_right _ hme)
 have hxl := H.lp x (List.mem_of_getElem? hx)
 obtain ⟨X, oX, o1, o2⟩ := R.outs
 obtain ⟨z1, _, z3, _, _, _⟩ := R.sizes
 obtain ⟨t1, t2⟩ := R.tims (B := 2 + (h.length + 1)) (by have := ge.key; omega) (fun q hq => by have := (hxl.2 q hq).2.2.2.2; omega)
 obtain ⟨st1, st2⟩ := R.state
 rw [hlx] at hkn hP
 have hmem : ∀ b, b ∈ P → b ∈ rest ∨ b ∈ (qbf c x e).out := fun b hb => List.mem_append.1 (hP.mem_iff.1 (List.mem_append_left _ hb))
 have hlpn : e.lp.toNat < c.lps.length := by have := ge.lp; omega
 have hout : ∀ b ∈ (qbf c x e).out, ∃ k, EvOk c e X k b := fun b hb => by
  obtain ⟨k, hk⟩ := List.mem_iff_getElem?.1 hb
  exact ⟨k, o1 k b hk⟩
 have rpe : ∀ b ∈ rest, b ∈ s.pend := fun b hb => hp.mem_iff.2 (List.mem_cons_of_mem _ hb)
 have rev : ∀ b ∈ rest, b ∈ h ++ s.pend := fun b hb => List.mem_append_right _ (rpe b hb)
 have evOut : ∀ b ∈ (qbf c x e).out, EvG c (h.length + 1) b := fun b hb => by
  obtain ⟨k, a1, ⟨m, hm, _⟩, a3, a4⟩ := hout b hb
  obtain ⟨u1, u2⟩ := t1 b hb
  have hkl : b.key.length = e.key.length + 1 := by rw [hm]; simp
  by_cases k3 : b.kind = 3
  ·obtain ⟨c1, c2, _⟩ := a3 k3
   exact ⟨⟨c1, c2⟩, by have := ge.time; omega, by have := ge.key; omega, by rw [u1 k3]; omega, fun k2 => by omega⟩
  ·obtain ⟨c1, c2, c3, c4⟩ := a4 k3
   rw [oX] at c3
   refine ⟨by rw [c1]; exact ge.lp, by have := ge.time; omega, by have := ge.key; omega, by omega, fun k2 => ?_⟩
   obtain ⟨q, p, _, hpp, _, d1, d2⟩ := u2 k2
   have := (H.valid.prog p (List.mem_of_getElem? hpp)).2.1
   omega
 have newProg : ∀ (j : Nat) (q : Pr), x.procs[j]? = some q → ∃ q', (qbf c x e).lp.procs[j]? = some q' ∧ q'.prog = q.prog := fun j q hq => by
  have hj := (List.getElem?_eq_some_iff.1 hq).1
  obtain ⟨q', hq'⟩ : ∃ q', (qbf c x e).lp.procs[j]? = some q' := ⟨_, List.getElem?_eq_getElem (by omega)⟩
  exact ⟨q', hq', ((st2 j q' hq').2.2 q hq).1⟩
 have setSelf : (s.lps.set e.lp.toNat (qbf c x e).lp)[e.lp.toNat]? = some (qbf c x e).lp := List.getElem?_set_self (by rw [H.lpl]; exact hlpn)
 rw [hlx]
 refine ⟨H.valid, by show s.n + 1 = _; rw [H.n]; simp, by show (s.trace.set _ _).length = _; rw [List.length_set]; exact H.trl, ?_, by show (s.lps.set _ _).length = _; rw [List.length_set]; exact H.lpl, ?_, ?_, ?_, ?_, ?_, ?_, ?_, ?_⟩
 ·intro i hi
  show (s.trace.set e.lp.toNat (qsm s e.lp ++ [e]))[i]? = _
  rw [qqu]
  by_cases k : e.lp = i
  ·have : e.lp.toNat = i := by omega
   rw [if_pos k, this, List.getElem?_set_self (by rw [H.trl]; exact hi)]
   unfold qsm
   rw [this, H.tr i hi]; rfl
  ·rw [if_neg k, List.getElem?_set_ne (by have := ge.lp; omega)]; exact H.tr i hi
 ·intro y hy
  rw [List.length_append]
  rcases List.mem_or_eq_of_mem_set hy with hy | rfl
  ·have := H.lp y hy
   exact ⟨this.1, fun q hq => by obtain ⟨a, b, d, f, g⟩ := this.2 q hq; exact ⟨a, b, d, f, by omega⟩⟩
  ·refine ⟨z1, fun q hq => ?_⟩
   obtain ⟨j, hj⟩ := List.mem_iff_getElem?.1 hq
   obtain ⟨a, b, d, f⟩ := badP_iff (st2 j q hj).1
   exact ⟨a, b, d, f, t2 q hq⟩
 ·show qma ((h ++ [e]) ++ P)
  have := qma.perm hkn (hP.append_left (h ++ [e]))
  exact List.Pairwise.sublist ((List.sublist_append_left P T).append_left _) this
 ·intro b hb
  rw [List.length_append]
  rcases List.mem_append.1 hb with hb | hb
  ·refine (H.ev b ?_).mono (by simp)
   rcases List.mem_append.1 hb with hb | hb
   ·exact List.mem_append_left _ hb
   ·rw [List.mem_singleton] at hb; subst hb; exact List.mem_append_right _ hme
  ·rcases hmem b hb with hb | hb
   ·exact (H.ev b (rev b hb)).mono (by simp)
   ·exact evOut b hb
 ·intro b hb hk
  show ∃ x' q p, (s.lps.set e.lp.toNat (qbf c x e).lp)[b.lp.toNat]? = some x' ∧ _
  rcases hmem b hb with hb | hb
  ·obtain ⟨x', q, p, h1, h2, h3, h4⟩ := H.tim b (rpe b hb) hk
   by_cases k : e.lp.toNat = b.lp.toNat
   ·rw [← k] at h1; rw [hx] at h1; cases h1
    obtain ⟨q', g1, g2⟩ := newProg _ q h2
    exact ⟨_, q', p, by rw [← k]; exact setSelf, g1, by rw [g2]; exact h3, h4⟩
   ·exact ⟨x', q, p, by rw [List.getElem?_set_ne k]; exact h1, h2, h3, h4⟩
  ·obtain ⟨k, _, _, _, a4⟩ := hout b hb
   obtain ⟨c1, _⟩ := a4 (by omega)
   obtain ⟨q, p, g1, g2, g3, g4⟩ := (t1 b hb).2 hk
   obtain ⟨q', g5, g6⟩ := newProg _ q g1
   exact ⟨_, q', p, by rw [c1]; exact setSelf, by rw [g3]; exact g5, by rw [g6]; exact g2, g4⟩
 ·intro b hb
  have old : b ∈ h ++ s.pend → b.key.length = 2 ∨ ∃ p ∈ h ++ [e], ∃ m, b.key = p.key ++ [m] ∧ p.time < b.time := fun hb => by
   rcases H.par b hb with g | ⟨p, g1, g2⟩
   ·exact .inl g
   ·exact .inr ⟨p, List.mem_append_left _ g1, g2⟩
  rcases List.mem_append.1 hb with hb | hb
  ·refine old ?_
   rcases List.mem_append.1 hb with hb | hb
   ·exact List.mem_append_left _ hb
   ·rw [List.mem_singleton] at hb; subst hb; exact List.mem_append_right _ hme
  ·rcases hmem b hb with hb | hb
   ·exact old (rev b hb)
   ·obtain ⟨k, a1, ⟨m, hm, _⟩, _⟩ := hout b hb
    exact .inr ⟨e, by simp, m, hm, a1.1⟩
 ·show P.length ≤ _
  have h1 := hP.length_eq
  have h2 := H.len
  rw [hp.length_eq] at h2
  simp only [zgp, zga, zgb] at h1 h2 ⊢
  omega
 ·intro i hi
  show (s.lps.set e.lp.toNat (qbf c x e).lp)[i]? = _
  rw [qqu]
  by_cases k : e.lp = i
  ·have hki : e.lp.toNat = i := by omega
   have hr := H.rep i hi
   rw [← hki, hx, hki] at hr
   rw [if_pos k]
   unfold q75 at hr ⊢
   rw [List.foldl_append, List.foldl_cons, List.foldl_nil, ← Option.some.inj hr]
   have := setSelf; rw [hki] at this ⊢; exact this
  ·rw [if_neg k, List.getElem?_set_ne (by have := ge.lp; omega)]; exact H.rep i hi
 ·intro i hi k b hb
  rw [qqu] at hb ⊢
  by_cases hl : e.lp = i
  ·rw [if_pos hl] at hb ⊢
   by_cases hk : k < (qf8 h i).length
   ·rw [List.getElem?_append_left hk] at hb
    rw [List.take_append_of_le_length (by omega)]
    exact H.rdy i hi k b hb
   ·have hk2 := (List.getElem?_eq_some_iff.1 hb).1
    simp at hk2
    obtain rfl : k = (qf8 h i).length := by omega
    simp at hb
    subst hb
    rw [List.take_append_of_le_length (Nat.le_refl _), List.take_length]
    have hr := H.rep i hi
    have hki : e.lp.toNat = i := by omega
    rw [← hki, hx, hki] at hr
    rw [← Option.some.inj hr]
    exact R
  ·rw [if_neg hl] at hb ⊢
   exact H.rdy i hi k b hb
theorem SInv.step (H : SInv c s h) {e : Evt} {rest : List Evt} (hp : s.pend = e :: rest) (hn : h.length ≤ 20000) (hf : e.time < c.fin) : SInv c (s.step c e rest) (h ++ [e]) := by
 obtain ⟨x, hx, hlx, R⟩ := H.head hp hn
 obtain ⟨X, oX, o1, o2⟩ := R.outs
 have hP : ∃ T, (qga ((rest ++ (qbf c (q3u s e.lp) e).out).filter (qjs (qbf c (q3u s e.lp) e).gone)) ++ T).Perm (rest ++ (qbf c (q3u s e.lp) e).out) :=
  ⟨_, ((qe6 _).append_right _).trans (List.filter_append_perm _ _)⟩
 obtain ⟨T, hT⟩ := hP
 refine ⟨H.toSInvK.stepP _ (by rw [hp]) hn hT, qgr _, ?_, ?_, ?_⟩
 ·rw [List.pairwise_append]
  exact ⟨H.ord, List.pairwise_singleton _ _, fun a ha b hb => by rw [List.mem_singleton] at hb; subst hb; exact H.ord2 a ha b (by rw [hp]; simp)⟩
 ·intro a ha b hb
  have hb' : b ∈ rest ∨ b ∈ (qbf c x e).out := by
   rw [← hlx]; exact List.mem_append.1 (hT.mem_iff.1 (List.mem_append_left _ hb))
  have lee : leE e b := by
   rcases hb' with hb | hb
   ·have := H.sorted; rw [hp, List.pairwise_cons] at this; exact this.1 b hb
   ·obtain ⟨k, hk⟩ := List.mem_iff_getElem?.1 hb; exact leE_time (o1 k b hk).1.1
  rcases List.mem_append.1 ha with ha | ha
  ·exact qth a e b (H.ord2 a ha e (by rw [hp]; simp)) lee
  ·rw [List.mem_singleton] at ha; subst ha; exact lee
 ·intro a ha
  rcases List.mem_append.1 ha with ha | ha
  ·exact H.fin a ha
  ·rw [List.mem_singleton] at ha; subst ha; exact hf
end
set_option maxRecDepth 10000
theorem q2x (lps : List (List Start)) : qma (qjp lps) := by
 have ne : ∀ {k k' i i' : Nat} {s s' : Start}, (qiw k i s).key = (qiw k' i' s').key → k = k' ∧ i = i' := by
  intro k k' i i' s s' h
  simp only [qiw, List.cons.injEq, and_true] at h
  omega
 unfold qma qjp
 rw [List.pairwise_flatten]
 constructor
 ·intro r hr
  obtain ⟨k, hk⟩ := List.mem_iff_getElem?.1 hr
  rw [List.getElem?_mapIdx] at hk
  cases hl : lps[k]? with
  | none => rw [hl] at hk; cases hk
  | some l =>
   rw [hl] at hk; cases hk
   rw [List.pairwise_iff_getElem]
   intro i j hi hj hij h
   simp only [qjy, List.getElem_mapIdx] at h
   have := (ne h).2; omega
 ·rw [List.pairwise_iff_getElem]
  intro k k' hk hk' hkk x hx y hy h
  simp only [List.getElem_mapIdx] at hx hy
  obtain ⟨i, s, _, rfl⟩ := qoj hx
  obtain ⟨i', s', _, rfl⟩ := qoj hy
  have := (ne h).1; omega
section
variable {c : Cfg}
theorem q1w (c : Cfg) : (start c).lps = (q46 c.lps).map fun ps => (⟨0, 0, ps, 0⟩ : Lp) := by
 simp only [start, qj6, List.map_map]; rfl
theorem SInv.start (hv : Valid c) : SInv c (start c) [] := by
 have hm : ∀ e ∈ qga (qjp c.lps), e ∈ qjp c.lps := fun e he => (qe6 _).mem_iff.1 he
 have hv1 := hv.lps
 refine ⟨⟨hv, rfl, by simp [K.start], fun i hi => ?_, by rw [q1w]; simp [q46], ?_, ?_, ?_, ?_, ?_, ?_, ?_, fun i hi k e he => by simp [qf8] at he⟩, qgr _, .nil, fun a ha => by simp at ha, fun e he => by simp at he⟩
 ·simp [K.start, qf8, hi]
 ·intro x hx
  rw [q1w, List.mem_map] at hx
  obtain ⟨ps, hps, rfl⟩ := hx
  simp only [q46, List.mem_map] at hps
  obtain ⟨l, hl, rfl⟩ := hps
  refine ⟨by have := hv.lp l hl; simp; omega, fun q hq => ?_⟩
  simp only [List.mem_map] at hq
  obtain ⟨st, hst, rfl⟩ := hq
  obtain ⟨a, b, _⟩ := hv.start l hl st hst
  exact ⟨a, b, by simp [stP], by simp [stP], by simp [stP]⟩
 ·rw [List.nil_append]; exact qma.perm (q2x _) (qe6 _)
 ·intro e he
  rw [List.nil_append] at he
  obtain ⟨k, l, i, s, h1, h2, rfl⟩ := qs8 (hm e he)
  have k1 := (List.getElem?_eq_some_iff.1 h1).1
  have k2 := (List.getElem?_eq_some_iff.1 h2).1
  have k3 := hv.lp l (List.mem_of_getElem? h1)
  obtain ⟨a, b, d, f⟩ := hv.start l (List.mem_of_getElem? h1) s (List.mem_of_getElem? h2)
  exact ⟨by simp only [qiw]; omega, ⟨d, f⟩, by simp [qiw], by simp only [qiw]; omega, fun hk => by simp [qiw] at hk⟩
 ·intro e he hk
  obtain ⟨k, l, i, s, h1, h2, rfl⟩ := qs8 (hm e he)
  simp [qiw] at hk
 ·intro e he
  rw [List.nil_append] at he
  obtain ⟨k, l, i, s, h1, h2, rfl⟩ := qs8 (hm e he)
  exact .inl (by simp [qiw])
 ·show (qga _).length ≤ _
  rw [(qe6 _).length_eq]
  have := q2a (lps := c.lps) (m := 8) (fun l hl => hv.lp l hl)
  simp only [zgb]; omega
 ·intro i hi
  show ((qj6 c.lps).map Prod.fst)[i]? = _
  have : i < ((qj6 c.lps).map Prod.fst).length := by simp [qj6, q46]; exact hi
  rw [List.getElem?_eq_getElem this]; rfl
variable {s : Sim} {h : List Evt}
theorem qz6 (hr : s.ready c = true) : ∃ e rest, s.pend = e :: rest ∧ e.time < c.fin := by
 unfold Sim.ready at hr
 split at hr
 ·cases hr
 next e rest hp => exact ⟨e, rest, hp, of_decide_eq_true hr⟩
theorem go_eq {e : Evt} {rest : List Evt} (hp : s.pend = e :: rest) : s.go c = s.step c e rest := by unfold Sim.go; rw [hp]
theorem SInv.run : ∀ (k : Nat) {s : Sim} {h : List Evt}, SInv c s h → h.length + k ≤ 20000 → ∃ h', SInv c (Sim.run c k s) (h ++ h') ∧ h'.length ≤ k ∧ (h'.length = k ∨ (Sim.run c k s).ready c = false)
 | 0, s, h, H, _ => ⟨[], by rw [List.append_nil]; exact H, Nat.le_refl _, .inl rfl⟩
 | k + 1, s, h, H, hk => by
  unfold Sim.run
  by_cases hr : s.ready c = true
  ·rw [if_pos hr]
   obtain ⟨e, rest, hp, hf⟩ := qz6 hr
   rw [go_eq hp]
   obtain ⟨h', g1, g2, g3⟩ := SInv.run k (H.step hp (by omega) hf) (by simp; omega)
   refine ⟨e :: h', by simpa using g1, by simp; omega, ?_⟩
   rcases g3 with g3 | g3
   ·exact .inl (by simp; omega)
   ·exact .inr g3
  ·rw [if_neg hr]
   exact ⟨[], by rw [List.append_nil]; exact H, Nat.zero_le _, .inr (by simpa using hr)⟩
end
end Go.Proofs.Ytbhhifdhlafklaa.K
