/- For every input the statement of this claim returns true: texts of its proof, joined (part 9). -/
import Derived.Test.YtbhhifdhlafklaaGWT06
import Derived.Test.YtbhhifdhlafklaaGWT07
set_option linter.unusedSectionVars false
set_option linter.unusedSimpArgs false
set_option linter.unusedVariables false
namespace Go.Proofs.Ytbhhifdhlafklaa.K
open Go.Ev
set_option maxRecDepth 10000
theorem q6a (x : Ex) (i : Nat) {q : Pr} (hq : x.procs[i]? = some q) : ∃ q', (qk2 x i).procs[i]? = some q' ∧ q'.prog = q.prog := by
  have hl := (List.getElem?_eq_some_iff.1 hq).1
  refine ⟨{ q with alive := false }, ?_, rfl⟩
  unfold qk2; rw [hq]; simp only [Ex.setP]; rw [List.getElem?_set_self hl]
theorem q52 (x : Ex) (i : Nat) (q : Pr) (op : OpI) (hq : x.procs[i]? = some q) : ∃ q', (qc4 x i q op).1.procs[i]? = some q' ∧ q'.prog = q.prog := by
  have hl := (List.getElem?_eq_some_iff.1 hq).1
  have hst : ∃ q', (x.stopE i q).procs[i]? = some q' ∧ q'.prog = q.prog := by
    unfold Ex.stopE; split
    · exact ⟨{ q with timer := [] }, by simp only; rw [List.getElem?_set_self hl], rfl⟩
    · exact ⟨q, hq, rfl⟩
  unfold qc4
  split
  · exact ⟨q, hq, rfl⟩
  split
  · exact ⟨q, hq, rfl⟩
  split
  · obtain ⟨q', h1, _⟩ := hst
    have hl2 := (List.getElem?_eq_some_iff.1 h1).1
    exact ⟨{ q with timer := (x.stopE i q).kid }, by show ((x.stopE i q).procs.set i _)[i]? = _; rw [List.getElem?_set_self hl2], rfl⟩
  split
  · exact hst
  split
  · refine ⟨q, ?_, rfl⟩
    unfold Ex.spawnE; split
    · show (x.procs ++ [_])[i]? = _
      rw [List.getElem?_append_left hl]; exact hq
    · exact hq
  split
  · refine ⟨q, ?_, rfl⟩
    unfold Ex.setReg; split <;> exact hq
  split
  · split
    · exact ⟨{ q with pc := op.c }, by simp only [Ex.setP]; rw [List.getElem?_set_self hl], rfl⟩
    · exact ⟨q, hq, rfl⟩
  · exact ⟨q, hq, rfl⟩
theorem q56 (x : Ex) (i : Nat) (q : Pr) (op : OpI) (hq : x.procs[i]? = some q) : ∃ q', (stepR x i q op).1.procs[i]? = some q' ∧ q'.prog = q.prog := by
  have hl := (List.getElem?_eq_some_iff.1 hq).1
  have h0 : (x.setP i q.inc).procs[i]? = some q.inc := by simp only [Ex.setP]; rw [List.getElem?_set_self hl]
  obtain ⟨q', h1, h2⟩ := q52 (x.setP i q.inc) i q.inc op h0
  unfold stepR
  split
  · exact ⟨q', h1, h2⟩
  split
  · obtain ⟨q2, h3, h4⟩ := q6a _ i h1
    exact ⟨q2, h3, h4.trans h2⟩
  · exact ⟨q', h1, h2⟩
theorem ActInv.stepR {e : Evt} {i n : Nat} {x : Ex} (h : ActInv e i n x) {q : Pr} (hq : x.procs[i]? = some q) (hpc : 0 ≤ q.pc ∧ q.pc + 1 ≤ 1000000) {op : OpI} (ho : OpOk' op) : ActInv e i (n + 1) (stepR x i q op).1 := by
  have hlt := (List.getElem?_eq_some_iff.1 hq).1
  have hwq : w64 (q.pc + 1) = q.pc + 1 := qas (by omega) (by omega)
  have hz : ActInv e i n (x.setP i q.inc) := by
    have := h.pc hq (pc := q.pc + 1) ⟨by omega, by omega⟩ q.alive
    unfold Pr.inc; rw [hwq]; exact this
  have hzq : (x.setP i q.inc).procs[i]? = some q.inc := by simp only [Ex.setP]; rw [List.getElem?_set_self hlt]
  have hn := hz.step hzq (show 0 ≤ q.inc.pc ∧ q.inc.pc ≤ 1000000 by unfold Pr.inc; simp only [hwq]; omega) ho
  unfold K.stepR
  split
  · exact hn
  split
  · obtain ⟨q', h1, h2⟩ := hn.has
    have := hn.pc h1 h2 false
    unfold qk2; rw [h1]; exact this
  · exact hn
section
variable (c : Cfg) (e0 : Evt) (i : Nat) (p : List OpI) (pr : Int)
def RefEnd (e0 : Evt) (i : Nat) (F : Ex) (y : CExit × Env × qr) : Prop :=
  y.2.1.marks = [] ∧ ((y.1 = .ret ∧ Ev.look y.2.1.vars 6 = some (.ptr 1 0 0 0) ∧ ∃ q : Pr, y.2.2 = [.row 14 [[(ii F.r0), (ii F.r1), (.fsl ((F.procs).map Pr.r) false), (ii F.sum), (ii F.ev.time), (.fsl ((F.ev.key).map qby) false), (ii F.ev.lp), (ii F.ev.kind), (ii F.ev.proc), (ii F.ev.arg), (.fsl ((F.out).map Evt.r) false), (.fsl ((F.gone).map qep) false), (ii F.n), (bb F.over)]] 0, .row 14 [[(ii F.r0), (ii F.r1), (.fsl ((F.procs).map Pr.r) false), (ii F.sum), (ii F.ev.time), (.fsl ((F.ev.key).map qby) false), (ii F.ev.lp), (ii F.ev.kind), (ii F.ev.proc), (ii F.ev.arg), (.fsl ((F.out).map Evt.r) false), (.fsl ((F.gone).map qep) false), (ii F.n), (bb F.over)]] 0, .row 4 [q.r] 0, .row 14 [[(ii F.r0), (ii F.r1), (.fsl ((F.procs).map Pr.r) false), (ii F.sum), (ii F.ev.time), (.fsl ((F.ev.key).map qby) false), (ii F.ev.lp), (ii F.ev.kind), (ii F.ev.proc), (ii F.ev.arg), (.fsl ((F.out).map Evt.r) false), (.fsl ((F.gone).map qep) false), (ii F.n), (bb F.over)]] 0]) ∨
    (y.1 = .exit 0 ∧ ∃ z : Ex, ActInv e0 i 16 z ∧ qk2 z i = F ∧ Ev.look y.2.1.vars 4 = some (.ptr 0 0 0 0) ∧ Ev.look y.2.1.vars 6 = some (.ptr 1 0 0 0) ∧ Ev.look y.2.1.vars 2 = some (ii i) ∧
      (y.2.2 = [.row 14 [[(ii z.r0), (ii z.r1), (.fsl ((z.procs).map Pr.r) false), (ii z.sum), (ii z.ev.time), (.fsl ((z.ev.key).map qby) false), (ii z.ev.lp), (ii z.ev.kind), (ii z.ev.proc), (ii z.ev.arg), (.fsl ((z.out).map Evt.r) false), (.fsl ((z.gone).map qep) false), (ii z.n), (bb z.over)]] 0, .row 14 [[(ii 0), (ii 0), .fsl [] false, (ii 0), (ii 0), .fsl [] false, (ii 0), (ii 0), (ii 0), (ii 0), .fsl [] false, .fsl [] false, (ii 0), (bb false)]] 0] ∨ ∃ q : Pr, y.2.2 = [.row 14 [[(ii z.r0), (ii z.r1), (.fsl ((z.procs).map Pr.r) false), (ii z.sum), (ii z.ev.time), (.fsl ((z.ev.key).map qby) false), (ii z.ev.lp), (ii z.ev.kind), (ii z.ev.proc), (ii z.ev.arg), (.fsl ((z.out).map Evt.r) false), (.fsl ((z.gone).map qep) false), (ii z.n), (bb z.over)]] 0, .row 14 [[(ii 0), (ii 0), .fsl [] false, (ii 0), (ii 0), .fsl [] false, (ii 0), (ii 0), (ii 0), (ii 0), .fsl [] false, .fsl [] false, (ii 0), (bb false)]] 0, .row 4 [q.r] 0])))
theorem q70 (hk : e0.key.length ≤ 100000) (hpr : e0.proc = i) (hpl : p.length ≤ 1000) (hok : ∀ op ∈ p, OpOk' op) (h0 : 0 ≤ pr) (hp : c.progs[pr.toNat]? = some p) (x : Ex) (hx : ActInv e0 i 0 x) (hxp : ∃ q, x.procs[i]? = some q ∧ q.prog = pr) :
    ∃ y, itB (exec (evL T) itL none qd0) (qs [2, 3, 4, 6, 7] true 2) ⟨[(2, (ii i)), (3, (.fptr [(.fsl ((c.lps).map lpC) false), (.fsl ((c.progs).map qce) false), (ii c.look), (ii c.fin), (ii c.cap)])), (4, .ptr 0 0 0 0), (6, .ptr 1 0 0 0), (7, (ii 0))], []⟩ [.row 14 [[(ii x.r0), (ii x.r1), (.fsl ((x.procs).map Pr.r) false), (ii x.sum), (ii x.ev.time), (.fsl ((x.ev.key).map qby) false), (ii x.ev.lp), (ii x.ev.kind), (ii x.ev.proc), (ii x.ev.arg), (.fsl ((x.out).map Evt.r) false), (.fsl ((x.gone).map qep) false), (ii x.n), (bb x.over)]] 0, .row 14 [[(ii 0), (ii 0), .fsl [] false, (ii 0), (ii 0), .fsl [] false, (ii 0), (ii 0), (ii 0), (ii 0), .fsl [] false, .fsl [] false, (ii 0), (bb false)]] 0] = some y ∧ RefEnd e0 i (qkg p i 16 x) y := by
  have := qf2 (f := exec (evL T) itL none qd0) (s := qs [2, 3, 4, 6, 7] true 2) (α := Ex) (fun j _ => ⟨[(2, (ii i)), (3, (.fptr [(.fsl ((c.lps).map lpC) false), (.fsl ((c.progs).map qce) false), (ii c.look), (ii c.fin), (ii c.cap)])), (4, .ptr 0 0 0 0), (6, .ptr 1 0 0 0), (7, (ii ((j : Int))))], []⟩) (fun _ a => [.row 14 [[(ii a.r0), (ii a.r1), (.fsl ((a.procs).map Pr.r) false), (ii a.sum), (ii a.ev.time), (.fsl ((a.ev.key).map qby) false), (ii a.ev.lp), (ii a.ev.kind), (ii a.ev.proc), (ii a.ev.arg), (.fsl ((a.out).map Evt.r) false), (.fsl ((a.gone).map qep) false), (ii a.n), (bb a.over)]] 0, .row 14 [[(ii 0), (ii 0), .fsl [] false, (ii 0), (ii 0), .fsl [] false, (ii 0), (ii 0), (ii 0), (ii 0), .fsl [] false, .fsl [] false, (ii 0), (bb false)]] 0])
    (fun j a => ActInv e0 i j a ∧ (∃ q, a.procs[i]? = some q ∧ q.prog = pr) ∧ qkg p i (16 - j) a = qkg p i 16 x) 16 (RefEnd e0 i (qkg p i 16 x)) ?_ ?_ 0 x (Nat.zero_le _) ⟨hx, hxp, rfl⟩
  · exact this
  · rintro j y hj ⟨hi1, ⟨q, hq, hqp⟩, hi2⟩
    have hpc : 0 ≤ q.pc ∧ q.pc ≤ 1000000 := by obtain ⟨q', h1, h2⟩ := hi1.has; rw [hq] at h1; cases h1; exact h2
    have hlt := (List.getElem?_eq_some_iff.1 hq).1
    have hpr' : y.ev.proc = i := by rw [hi1.ev]; exact hpr
    have hj' : (j : Int) < 16 := by omega
    have hw : IntKind.i64.wrap ((j : Int) + 1) = ((j + 1 : Nat) : Int) := by rw [qas (by omega) (by omega)]; simp
    rw [show 16 - j = (16 - (j + 1)) + 1 from by omega, qwq p i _ y q hq] at hi2
    cases hop : p[q.pc.toNat]? with
    | none =>
      rw [hop] at hi2
      simp only at hi2
      have hge : q.pc ≥ (p.length : Int) := by have := List.getElem?_eq_none_iff.1 hop; omega
      right
      simp only [qd0, hj', hge, Int.natCast_nonneg, Int.toNat_natCast, List.getElem?_map, Option.map_some, hq, hqp, h0, hp, Pr.r, qce, Ev.exec, qb, qe, qc, qai, Ev.Opnd.ev, Ev.Env.get, Ev.Env.set, Ev.look, qf, qv, Ev.AV.cells, qo, Ev.AV.plain, ql, qbu, List.length_map, ↓qn, Ev.it1, ↓reduceIte, List.length_cons, List.length_nil, List.getElem?_cons_zero, List.getElem?_cons_succ, List.take_succ_cons, List.take_zero, zfe, List.drop_succ_cons, List.drop_zero, List.drop_nil, List.cons_append, List.nil_append, List.append_nil, List.set_cons_zero, List.set_cons_succ, List.head?_cons, Nat.reduceAdd, Nat.reduceEqDiff, reduceCtorEq, decide_true, zfc, zfa, and_self, ne_eq, zfb, zff, zfd, Nat.add_zero, Nat.le_refl, eq_self]
      exact ⟨_, rfl, rfl, .inr ⟨rfl, y, ⟨hi1.ev, hi1.has, hi1.procs, by have := hi1.out; omega, by have := hi1.gone; omega⟩, hi2, rfl, rfl, rfl, .inr ⟨⟨pr, q.pc, q.alive, q.timer⟩, rfl⟩⟩⟩
    | some op =>
      rw [hop] at hi2
      simp only at hi2
      have hlp := (List.getElem?_eq_some_iff.1 hop).1
      have hge : ¬ q.pc ≥ (p.length : Int) := by omega
      have hoo := hok op (List.mem_of_getElem? hop)
      have hv := rstep_ev y i op q (hi1.small (by omega) hk) (by have := hi1.gone; omega) hpr' hq hoo
      have hn := hi1.stepR hq ⟨by omega, by omega⟩ hoo
      have hnp := q56 y i q op hq
      rw [hqp] at hnp
      generalize stepR y i q op = S at hi2 hn hv hnp
      obtain ⟨z, b⟩ := S
      simp only at hi2 hn hv hnp
      cases b with
      | true =>
        right
        simp only [if_true] at hi2
        simp only [qd0, hj', hge, hv, Int.natCast_nonneg, Int.toNat_natCast, List.getElem?_map, Option.map_some, hq, hqp, h0, hp, hpc, hop, Pr.r, OpI.r, qce, qw, qae, qaa, qbn, Ev.exec, qb, qe, qc, qaw, qai, Ev.evs, Ev.Opnd.ev, Ev.Env.get, Ev.Env.set, Ev.look, qf, qv, Ev.AV.cells, qo, Ev.AV.plain, ql, qbu, qbb, qa2, qm, qh, qd, List.length_map, ↓qn, Ev.it1, ↓reduceIte, List.length_cons, List.length_nil, List.getElem?_cons_zero, List.getElem?_cons_succ, List.take_succ_cons, List.take_zero, zfe, List.drop_succ_cons, List.drop_zero, List.drop_nil, List.cons_append, List.nil_append, List.append_nil, List.set_cons_zero, List.set_cons_succ, List.head?_cons, Nat.reduceAdd, Nat.reduceEqDiff, decide_true, decide_false, zfc, zfa, and_self, ne_eq, zfb, zff, zfd, Nat.add_zero, Nat.le_refl, eq_self]
        exact ⟨_, rfl, rfl, .inl ⟨rfl, rfl, ⟨pr, q.pc, q.alive, q.timer⟩, by rw [← hi2]; rfl⟩⟩
      | false =>
        left
        simp only [zfa, if_false] at hi2
        refine ⟨z, ?_, hn, hnp, hi2⟩
        simp only [qd0, hj', hge, hv, hw, Int.natCast_nonneg, Int.toNat_natCast, List.getElem?_map, Option.map_some, hq, hqp, h0, hp, hpc, hop, Pr.r, OpI.r, qce, qax, qcb, qw, qae, qaa, qbn, Nat.reduceLT, Ev.exec, qb, qe, qc, qaw, qai, Ev.evs, Ev.Opnd.ev, Ev.Env.get, Ev.Env.set, Ev.look, qf, qv, Ev.AV.cells, qo, Ev.AV.plain, qao, ql, qbu, qs, Ev.keep, qal, qaf, qg, Ev.SObj.lo, qbb, qa2, qm, qbm, qg6, qh, qd, qu, qak, List.length_map, ↓qn, Ev.it1, ↓reduceIte, List.length_cons, List.length_nil, List.getElem?_cons_zero, List.getElem?_cons_succ, List.take_succ_cons, List.take_zero, zfe, List.drop_succ_cons, List.drop_zero, List.drop_nil, List.cons_append, List.nil_append, List.append_nil, List.set_cons_zero, List.set_cons_succ, List.head?_cons, Nat.reduceAdd, Nat.reduceEqDiff, Nat.reduceLT, decide_true, decide_false, zfc, zfa, and_self, ne_eq, zfb, zff, zfd, Nat.add_zero, Nat.lt_add_one, Nat.le_refl, eq_self]
  · rintro y ⟨hi1, _, hi2⟩
    simp only [qd0, Int.lt_irrefl, Ev.exec, qb, qe, qc, qai, Ev.Opnd.ev, Ev.Env.get, Ev.Env.set, Ev.look, ql, ↓qn, Ev.it1, ↓reduceIte, Nat.reduceEqDiff, Int.cast_ofNat_Int, decide_false, zfa, eq_self]
    exact ⟨_, rfl, rfl, .inr ⟨rfl, y, hi1, hi2, rfl, rfl, rfl, .inl rfl⟩⟩
theorem quq (hk : e0.key.length ≤ 100000) (hpr : e0.proc = i) (hpl : p.length ≤ 1000) (hok : ∀ op ∈ p, OpOk' op) (h0 : 0 ≤ pr) (hp : c.progs[pr.toNat]? = some p) (x : Ex) (hx : ActInv e0 i 0 x) (hxp : ∃ q, x.procs[i]? = some q ∧ q.prog = pr) :
    qa4 (evL T) qff [(.agg [(.fsl ((c.lps).map lpC) false), (.fsl ((c.progs).map qce) false), (ii c.look), (ii c.fin), (ii c.cap)]), (.agg [(ii x.r0), (ii x.r1), (.fsl ((x.procs).map Pr.r) false), (ii x.sum), (ii x.ev.time), (.fsl ((x.ev.key).map qby) false), (ii x.ev.lp), (ii x.ev.kind), (ii x.ev.proc), (ii x.ev.arg), (.fsl ((x.out).map Evt.r) false), (.fsl ((x.gone).map qep) false), (ii x.n), (bb x.over)]), (ii i)] = some (.agg [(ii ((qkg p i 16 x).r0)), (ii ((qkg p i 16 x).r1)), (.fsl (((qkg p i 16 x).procs).map Pr.r) false), (ii ((qkg p i 16 x).sum)), (ii ((qkg p i 16 x).ev.time)), (.fsl (((qkg p i 16 x).ev.key).map qby) false), (ii ((qkg p i 16 x).ev.lp)), (ii ((qkg p i 16 x).ev.kind)), (ii ((qkg p i 16 x).ev.proc)), (ii ((qkg p i 16 x).ev.arg)), (.fsl (((qkg p i 16 x).out).map Evt.r) false), (.fsl (((qkg p i 16 x).gone).map qep) false), (ii ((qkg p i 16 x).n)), (bb ((qkg p i 16 x).over))]) := by
  obtain ⟨⟨y, e, σ⟩, k1, k2, k3⟩ := q70 c e0 i p pr hk hpr hpl hok h0 hp x hx hxp
  simp only at k2 k3
  generalize qkg p i 16 x = F at k3
  rw [qa4, qad qsz qrt]
  rcases k3 with ⟨rfl, k4, q, rfl⟩ | ⟨rfl, z, kz, k4, k5, k6, k7, k8⟩
  · simp only [qgg, k1, k2, k4, qax, qcb, qw, qae, qaa, qbn, Nat.reduceLT, qj, Ev.exec, qb, qe, qc, qai, Ev.Opnd.ev, Ev.Env.get, Ev.Env.set, Ev.look, qk, qf, qv, Ev.AV.cells, qo, Ev.AV.plain, qi, qq, qaj, Ev.kill, qag, qs, Ev.keep, qal, qaf, qg, Ev.SObj.lo, qbb, qa2, qm, qbm, qg6, qh, qd, qu, qak, qx, ↓qn, ↓qa3, ↓reduceIte, List.length_cons, List.length_nil, List.getElem?_cons_zero, List.getElem?_cons_succ, List.take_succ_cons, List.take_zero, zfe, List.drop_zero, List.cons_append, List.nil_append, Nat.reduceAdd, Nat.reduceEqDiff, Nat.reduceLT, reduceCtorEq, decide_true, zfc, and_self, ne_eq, zfb, zff, zfd, Nat.lt_add_one, Nat.le_refl, eq_self]
  · obtain ⟨q, hq, hpc⟩ := kz.has
    have hlt := (List.getElem?_eq_some_iff.1 hq).1
    have hv := qdn z (by have := kz.procs; omega) i hlt { q with alive := false }
    have hkz : qk2 z i = z.setP i { q with alive := false } := by unfold qk2; rw [hq]
    rw [hkz] at k4
    subst k4
    simp only at hv
    rcases k8 with rfl | ⟨q2, rfl⟩
    · simp only [qgg, k1, k2, k5, k6, k7, hq, hv, Pr.r, Int.natCast_nonneg, Int.toNat_natCast, List.getElem?_map, Option.map_some, qax, qcb, qw, qae, qaa, qbn, Nat.reduceLT, Nat.reduceLeDiff, qj, Ev.exec, qb, qe, qc, qaw, qai, Ev.evs, Ev.Opnd.ev, Ev.Env.get, Ev.Env.set, Ev.look, qk, qf, qv, Ev.AV.cells, Ev.AV.uc, qo, Ev.AV.plain, qi, qq, qaj, Ev.kill, qag, qs, Ev.keep, qal, qaf, qg, Ev.SObj.lo, qbb, qa2, qm, qbm, qg6, qh, qd, qu, qak, qx, ↓qn, ↓qa3, ↓reduceIte, List.length_cons, List.length_nil, List.getElem?_cons_zero, List.getElem?_cons_succ, List.take_succ_cons, List.take_zero, zfe, List.drop_succ_cons, List.drop_zero, List.drop_nil, List.cons_append, List.nil_append, List.append_nil, List.set_cons_zero, List.set_cons_succ, List.head?_cons, Nat.reduceAdd, Nat.reduceEqDiff, Nat.reduceLT, Nat.reduceLeDiff, reduceCtorEq, decide_true, zfc, zfa, and_self, ne_eq, zfb, zff, zfd, Nat.add_zero, Nat.lt_add_one, Nat.le_refl, eq_self]
    · simp only [qgg, k1, k2, k5, k6, k7, hq, hv, Pr.r, Int.natCast_nonneg, Int.toNat_natCast, List.getElem?_map, Option.map_some, qax, qcb, qw, qae, qaa, qbn, Nat.reduceLT, Nat.reduceLeDiff, qj, Ev.exec, qb, qe, qc, qaw, qai, Ev.evs, Ev.Opnd.ev, Ev.Env.get, Ev.Env.set, Ev.look, qk, qf, qv, Ev.AV.cells, Ev.AV.uc, qo, Ev.AV.plain, qi, qq, qaj, Ev.kill, qag, qs, Ev.keep, qal, qaf, qg, Ev.SObj.lo, qbb, qa2, qm, qbm, qg6, qh, qd, qu, qak, qx, ↓qn, ↓qa3, ↓reduceIte, List.length_cons, List.length_nil, List.getElem?_cons_zero, List.getElem?_cons_succ, List.take_succ_cons, List.take_zero, zfe, List.drop_succ_cons, List.drop_zero, List.drop_nil, List.cons_append, List.nil_append, List.append_nil, List.set_cons_zero, List.set_cons_succ, List.head?_cons, Nat.reduceAdd, Nat.reduceEqDiff, Nat.reduceLT, Nat.reduceLeDiff, reduceCtorEq, decide_true, zfc, zfa, and_self, ne_eq, zfb, zff, zfd, Nat.add_zero, Nat.lt_add_one, Nat.le_refl, eq_self]
end
set_option maxRecDepth 10000
section
variable (c : Cfg) (x : Lp) (e : Evt)
theorem q8i (hk : e.kind = 3) : qa4 (evL T) qex [(.agg [(.fsl ((c.lps).map lpC) false), (.fsl ((c.progs).map qce) false), (ii c.look), (ii c.fin), (ii c.cap)]), (.agg [(ii x.r0), (ii x.r1), (.fsl ((x.procs).map Pr.r) false), (ii x.sum)]), (.agg [(ii e.time), (.fsl ((e.key).map qby) false), (ii e.lp), (ii e.kind), (ii e.proc), (ii e.arg)])] = some (.tup [(.agg [(ii ((⟨x.r0, x.r1, x.procs, w64 (x.sum + e.arg)⟩ : Lp).r0)), (ii ((⟨x.r0, x.r1, x.procs, w64 (x.sum + e.arg)⟩ : Lp).r1)), (.fsl (((⟨x.r0, x.r1, x.procs, w64 (x.sum + e.arg)⟩ : Lp).procs).map Pr.r) false), (ii ((⟨x.r0, x.r1, x.procs, w64 (x.sum + e.arg)⟩ : Lp).sum))]), .fsl [] true, .fsl [] true, (bb false)]) := by
  rw [qa4, qad qkz qkm]
  simp only [qb0, hk, qae, Nat.reduceLeDiff, qj, Ev.exec, qb, qe, qc, qai, Ev.Opnd.ev, Ev.Env.get, Ev.Env.set, Ev.look, qk, qf, qv, qfz, Ev.AV.cells, Ev.AV.uc, qo, Ev.AV.plain, qao, qar, qi, qq, qaj, Ev.kill, qag, qg, qbb, qa2, qb1, qm, qh, qd, qu, qx, ↓qn, ↓reduceIte, List.length_cons, List.length_nil, List.getElem?_cons_zero, List.getElem?_cons_succ, List.take_succ_cons, List.take_zero, zfe, List.drop_succ_cons, List.drop_zero, List.drop_nil, List.cons_append, List.nil_append, List.append_nil, List.set_cons_zero, List.set_cons_succ, List.head?_cons, Nat.reduceAdd, Nat.reduceEqDiff, Nat.reduceLeDiff, reduceCtorEq, decide_true, zfc, zfa, and_self, ne_eq, zfb, zff, zfd, Nat.add_zero, Nat.le_refl, eq_self]
theorem q5e (hk : ¬ e.kind = 3) (ha : qlf x e = none) : qa4 (evL T) qex [(.agg [(.fsl ((c.lps).map lpC) false), (.fsl ((c.progs).map qce) false), (ii c.look), (ii c.fin), (ii c.cap)]), (.agg [(ii x.r0), (ii x.r1), (.fsl ((x.procs).map Pr.r) false), (ii x.sum)]), (.agg [(ii e.time), (.fsl ((e.key).map qby) false), (ii e.lp), (ii e.kind), (ii e.proc), (ii e.arg)])] = some (.tup [(.agg [(ii x.r0), (ii x.r1), (.fsl ((x.procs).map Pr.r) false), (ii x.sum)]), .fsl [] true, .fsl [] true, (bb false)]) := by
  rw [qa4, qad qkz qkm]
  by_cases k1 : e.kind = 1
  case neg =>
    by_cases k2 : e.kind = 2
    case neg => simp only [qb0, hk, k1, k2, qae, Nat.reduceLeDiff, qj, Ev.exec, qb, qe, qc, qai, Ev.Opnd.ev, Ev.Env.get, Ev.Env.set, Ev.Env.unset, Ev.look, qk, qf, qv, qfz, Ev.AV.cells, qo, Ev.AV.plain, qar, qbe, qi, qq, qaj, Ev.kill, qag, qg, qbb, qa2, qb1, qm, qh, qd, qu, qx, ↓qn, ↓reduceIte, List.length_cons, List.length_nil, List.getElem?_cons_zero, List.getElem?_cons_succ, List.take_succ_cons, List.take_zero, zfe, List.drop_succ_cons, List.drop_zero, List.drop_nil, List.cons_append, List.nil_append, List.append_nil, List.set_cons_zero, List.set_cons_succ, List.head?_cons, Nat.reduceAdd, Nat.reduceEqDiff, Nat.reduceLeDiff, reduceCtorEq, decide_true, decide_false, zfc, zfa, Bool.true_eq_false, and_self, ne_eq, zfb, zff, zfd, Nat.le_refl, eq_self]
    by_cases h1 : e.proc < 0
    · simp only [qb0, k2, h1, qae, Nat.reduceLeDiff, qj, Ev.exec, qb, qe, qc, qai, Ev.Opnd.ev, Ev.Env.get, Ev.Env.set, Ev.Env.unset, Ev.look, qk, qf, qv, qfz, Ev.AV.cells, qo, Ev.AV.plain, qar, qbe, ql, qi, qq, qaj, Ev.kill, qag, qg, qbb, qa2, qb1, qm, qh, qd, qu, qx, ↓qn, ↓reduceIte, List.length_cons, List.length_nil, List.getElem?_cons_zero, List.getElem?_cons_succ, List.take_succ_cons, List.take_zero, zfe, List.drop_succ_cons, List.drop_zero, List.drop_nil, List.cons_append, List.nil_append, List.append_nil, List.set_cons_zero, List.set_cons_succ, List.head?_cons, Nat.reduceAdd, Nat.reduceEqDiff, Nat.reduceLeDiff, Int.reduceEq, reduceCtorEq, decide_true, decide_false, zfc, zfa, Bool.true_eq_false, and_self, ne_eq, zfb, not_true_eq_false, zff, zfd, Nat.le_refl, eq_self]
    by_cases h2 : e.proc ≥ (x.procs.length : Int)
    · simp only [qb0, k2, h1, h2, qae, Nat.reduceLeDiff, qj, Ev.exec, qb, qe, qc, qai, Ev.Opnd.ev, Ev.Env.get, Ev.Env.set, Ev.Env.unset, Ev.look, qk, qf, qv, qfz, Ev.AV.cells, qo, Ev.AV.plain, qar, qbe, ql, qbu, qi, qq, qaj, Ev.kill, qag, qg, qbb, qa2, qb1, qm, qh, qd, qu, qx, List.length_map, ↓qn, ↓reduceIte, List.length_cons, List.length_nil, List.getElem?_cons_zero, List.getElem?_cons_succ, List.take_succ_cons, List.take_zero, zfe, List.drop_succ_cons, List.drop_zero, List.drop_nil, List.cons_append, List.nil_append, List.append_nil, List.set_cons_zero, List.set_cons_succ, List.head?_cons, Nat.reduceAdd, Nat.reduceEqDiff, Nat.reduceLeDiff, Int.reduceEq, reduceCtorEq, decide_true, decide_false, zfc, zfa, Bool.true_eq_false, and_self, ne_eq, zfb, not_true_eq_false, zff, zfd, Nat.le_refl, eq_self]
    obtain ⟨q, hq⟩ : ∃ q, x.procs[e.proc.toNat]? = some q := ⟨_, List.getElem?_eq_getElem (by omega)⟩
    have h0 : 0 ≤ e.proc := by omega
    have hal : q.alive = false := by
      unfold qlf at ha
      rw [if_pos ⟨.inr k2, h0⟩, hq] at ha
      cases h : q.alive with
      | false => rfl
      | true => simp [h] at ha
    simp only [qb0, k2, h0, h1, h2, hq, hal, List.getElem?_map, Option.map_some, Pr.r, qae, Nat.reduceLeDiff, qj, Ev.exec, qb, qe, qc, qai, Ev.Opnd.ev, Ev.Env.get, Ev.Env.set, Ev.look, qk, qf, qv, qfz, Ev.AV.cells, qo, Ev.AV.plain, qar, qbe, ql, qbu, qi, qq, qaj, Ev.kill, qag, qg, qbb, qa2, qb1, qm, qh, qd, qu, qx, List.length_map, ↓qn, ↓reduceIte, List.length_cons, List.length_nil, List.getElem?_cons_zero, List.getElem?_cons_succ, List.take_succ_cons, List.take_zero, zfe, List.drop_succ_cons, List.drop_zero, List.drop_nil, List.cons_append, List.nil_append, List.append_nil, List.set_cons_zero, List.set_cons_succ, List.head?_cons, Nat.reduceAdd, Nat.reduceEqDiff, Nat.reduceLeDiff, Int.reduceEq, reduceCtorEq, decide_true, decide_false, zfc, Bool.not_false, zfa, and_self, ne_eq, zfb, not_true_eq_false, zff, zfd, Nat.le_refl, eq_self]
  by_cases h1 : e.proc < 0
  · simp only [qb0, k1, h1, qae, Nat.reduceLeDiff, qj, Ev.exec, qb, qe, qc, qai, Ev.Opnd.ev, Ev.Env.get, Ev.Env.set, Ev.Env.unset, Ev.look, qk, qf, qv, qfz, Ev.AV.cells, qo, Ev.AV.plain, qar, qbe, ql, qi, qq, qaj, Ev.kill, qag, qg, qbb, qa2, qb1, qm, qh, qd, qu, qx, ↓qn, ↓reduceIte, List.length_cons, List.length_nil, List.getElem?_cons_zero, List.getElem?_cons_succ, List.take_succ_cons, List.take_zero, zfe, List.drop_succ_cons, List.drop_zero, List.drop_nil, List.cons_append, List.nil_append, List.append_nil, List.set_cons_zero, List.set_cons_succ, List.head?_cons, Nat.reduceAdd, Nat.reduceEqDiff, Nat.reduceLeDiff, Int.reduceEq, reduceCtorEq, decide_true, decide_false, zfc, zfa, Bool.true_eq_false, and_self, ne_eq, zfb, not_true_eq_false, zff, zfd, Nat.le_refl, eq_self]
  by_cases h2 : e.proc ≥ (x.procs.length : Int)
  · simp only [qb0, k1, h1, h2, qae, Nat.reduceLeDiff, qj, Ev.exec, qb, qe, qc, qai, Ev.Opnd.ev, Ev.Env.get, Ev.Env.set, Ev.Env.unset, Ev.look, qk, qf, qv, qfz, Ev.AV.cells, qo, Ev.AV.plain, qar, qbe, ql, qbu, qi, qq, qaj, Ev.kill, qag, qg, qbb, qa2, qb1, qm, qh, qd, qu, qx, List.length_map, ↓qn, ↓reduceIte, List.length_cons, List.length_nil, List.getElem?_cons_zero, List.getElem?_cons_succ, List.take_succ_cons, List.take_zero, zfe, List.drop_succ_cons, List.drop_zero, List.drop_nil, List.cons_append, List.nil_append, List.append_nil, List.set_cons_zero, List.set_cons_succ, List.head?_cons, Nat.reduceAdd, Nat.reduceEqDiff, Nat.reduceLeDiff, Int.reduceEq, reduceCtorEq, decide_true, decide_false, zfc, zfa, Bool.true_eq_false, and_self, ne_eq, zfb, not_true_eq_false, zff, zfd, Nat.le_refl, eq_self]
  obtain ⟨q, hq⟩ : ∃ q, x.procs[e.proc.toNat]? = some q := ⟨_, List.getElem?_eq_getElem (by omega)⟩
  have h0 : 0 ≤ e.proc := by omega
  have hal : q.alive = false := by
    unfold qlf at ha
    rw [if_pos ⟨.inl k1, h0⟩, hq] at ha
    cases h : q.alive with
    | false => rfl
    | true => simp [h] at ha
  simp only [qb0, k1, h0, h1, h2, hq, hal, List.getElem?_map, Option.map_some, Pr.r, qae, Nat.reduceLeDiff, qj, Ev.exec, qb, qe, qc, qai, Ev.Opnd.ev, Ev.Env.get, Ev.Env.set, Ev.Env.unset, Ev.look, qk, qf, qv, qfz, Ev.AV.cells, qo, Ev.AV.plain, qar, qbe, ql, qbu, qi, qq, qaj, Ev.kill, qag, qg, qbb, qa2, qb1, qm, qh, qd, qu, qx, List.length_map, ↓qn, ↓reduceIte, List.length_cons, List.length_nil, List.getElem?_cons_zero, List.getElem?_cons_succ, List.take_succ_cons, List.take_zero, zfe, List.drop_succ_cons, List.drop_zero, List.drop_nil, List.cons_append, List.nil_append, List.append_nil, List.set_cons_zero, List.set_cons_succ, List.head?_cons, Nat.reduceAdd, Nat.reduceEqDiff, Nat.reduceLeDiff, Int.reduceEq, reduceCtorEq, decide_false, zfc, Bool.not_false, zfa, and_self, ne_eq, zfb, not_true_eq_false, zff, zfd, Nat.le_refl, eq_self]
theorem q69 (h : qth c x e) {q : Pr} (ha : qlf x e = some q) :
    qa4 (evL T) qex [(.agg [(.fsl ((c.lps).map lpC) false), (.fsl ((c.progs).map qce) false), (ii c.look), (ii c.fin), (ii c.cap)]), (.agg [(ii x.r0), (ii x.r1), (.fsl ((x.procs).map Pr.r) false), (ii x.sum)]), (.agg [(ii e.time), (.fsl ((e.key).map qby) false), (ii e.lp), (ii e.kind), (ii e.proc), (ii e.arg)])] = some (.tup [(.agg [(ii ((q09 (qpe c x e q)).r0)), (ii ((q09 (qpe c x e q)).r1)), (.fsl (((q09 (qpe c x e q)).procs).map Pr.r) false), (ii ((q09 (qpe c x e q)).sum))]), (.fsl (((qpe c x e q).out).map Evt.r) false), (.fsl (((qpe c x e q).gone).map qep) false), (bb ((qpe c x e q).over))]) := by
  unfold qlf at ha
  split at ha
  case isFalse => cases ha
  rename_i hc
  obtain ⟨hkind, h0⟩ := hc
  obtain ⟨i, hi⟩ : ∃ i : Nat, e.proc = i := ⟨_, (Int.toNat_of_nonneg h0).symm⟩
  have hin : e.proc.toNat = i := by omega
  rw [hin, Option.bind_eq_some_iff] at ha
  obtain ⟨q', hq, ha⟩ := ha
  split at ha
  case isFalse => cases ha
  rename_i hal
  cases ha
  have hlt := (List.getElem?_eq_some_iff.1 hq).1
  obtain ⟨p1, p2, p3, p4, p5⟩ := h.proc q (List.mem_of_getElem? hq)
  obtain ⟨p, hp⟩ : ∃ p, c.progs[q.prog.toNat]? = some p := ⟨_, List.getElem?_eq_getElem (by omega)⟩
  obtain ⟨pl, pok⟩ := h.prog p (List.mem_of_getElem? hp)
  have hinv := qx2 c x e h hi hq
  have hxp : ∃ q', ((qcg x e).setP i (qii e q)).procs[i]? = some q' ∧ q'.prog = q.prog := ⟨qii e q, by simp only [Ex.setP, qcg]; rw [List.getElem?_set_self hlt], qw5 e q⟩
  have hact := quq c e i p q.prog h.key hi pl pok p1 hp ((qcg x e).setP i (qii e q)) hinv hxp
  have hrun : qpe c x e q = qkg p i 16 ((qcg x e).setP i (qii e q)) := by unfold qpe; rw [hin, hp]; rfl
  rw [hrun]
  generalize qkg p i 16 ((qcg x e).setP i (qii e q)) = F at hact
  have h1 : ¬ e.proc < 0 := by omega
  have h2 : ¬ e.proc ≥ (x.procs.length : Int) := by omega
  have h3 : ¬ e.kind = 3 := by omega
  rw [hi] at h0 h1 h2
  rw [qa4, qad qkz qkm]
  rcases hkind with k1 | k2
  · have hwk : qii e q = q := by unfold qii; rw [if_neg (by omega)]
    have hss : x.procs.set i q = x.procs := by
      obtain ⟨hlt', hge⟩ := List.getElem?_eq_some_iff.1 hq
      rw [← hge, List.set_getElem_self]
    have k3 : ¬ (1 : Int) = 3 := by decide
    have k4 : ¬ (1 : Int) = 2 := by decide
    rw [hwk] at hact
    simp only [qcg, Ex.setP, hss, List.map_nil, hi, k1] at hact
    simp only [qb0, k1, k3, k4, h0, h1, h2, hi, hq, hal, hact, q09, Int.toNat_natCast, List.getElem?_map, Option.map_some, Pr.r, qcb, qax, qw, qae, qaa, qbn, Nat.reduceLeDiff, qj, Ev.exec, qb, qe, qc, qaw, qai, Ev.evs, Ev.Opnd.ev, Ev.Env.get, Ev.Env.set, Ev.Env.unset, Ev.look, qk, qf, qv, qfz, Ev.AV.cells, qo, Ev.AV.plain, qar, qbe, ql, qbu, qi, qq, qaj, Ev.kill, qag, qg, qbb, qa2, qb1, qm, qmh, Ev.AV.obj?, qh, qd, qu, qx, List.length_map, ↓qn, ↓reduceIte, List.length_cons, List.length_nil, List.getElem?_cons_zero, List.getElem?_cons_succ, List.take_succ_cons, List.take_zero, zfe, List.drop_succ_cons, List.drop_zero, List.drop_nil, List.cons_append, List.nil_append, List.append_nil, List.set_cons_zero, List.set_cons_succ, List.head?_cons, Nat.reduceAdd, Nat.reduceEqDiff, Nat.reduceBEq, Nat.reduceLeDiff, reduceCtorEq, decide_false, zfc, Bool.not_true, Bool.not_false, zfa, and_self, ne_eq, zfb, not_true_eq_false, zff, zfd, Nat.add_zero, Nat.le_refl, eq_self]
    done
  · have k1 : ¬ (2 : Int) = 1 := by decide
    have k3 : ¬ (2 : Int) = 3 := by decide
    have hkl := h.key
    have hwk : qii e q = { q with pc := e.arg, timer := if q.timer = e.key then [] else q.timer } := by unfold qii; rw [if_pos k2]
    obtain ⟨qp, qpc, qa, qt⟩ := q
    dsimp only at *
    subst hal
    have heq := qof qt e.key false false (by omega) (by omega)
    rw [hwk] at hact
    have hpt : ∀ q0 : Pr, qa4 (evL T) qd3 [(.agg [(ii ((qcg x e).r0)), (ii ((qcg x e).r1)), (.fsl (((qcg x e).procs).map Pr.r) false), (ii ((qcg x e).sum)), (ii ((qcg x e).ev.time)), (.fsl (((qcg x e).ev.key).map qby) false), (ii ((qcg x e).ev.lp)), (ii ((qcg x e).ev.kind)), (ii ((qcg x e).ev.proc)), (ii ((qcg x e).ev.arg)), (.fsl (((qcg x e).out).map Evt.r) false), (.fsl (((qcg x e).gone).map qep) false), (ii ((qcg x e).n)), (bb ((qcg x e).over))]), (ii i), (.agg [(ii q0.prog), (ii q0.pc), (bb q0.alive), (.fsl ((q0.timer).map qby) false)])] = some (.agg [(ii (((qcg x e).setP i q0).r0)), (ii (((qcg x e).setP i q0).r1)), (.fsl ((((qcg x e).setP i q0).procs).map Pr.r) false), (ii (((qcg x e).setP i q0).sum)), (ii (((qcg x e).setP i q0).ev.time)), (.fsl ((((qcg x e).setP i q0).ev.key).map qby) false), (ii (((qcg x e).setP i q0).ev.lp)), (ii (((qcg x e).setP i q0).ev.kind)), (ii (((qcg x e).setP i q0).ev.proc)), (ii (((qcg x e).setP i q0).ev.arg)), (.fsl ((((qcg x e).setP i q0).out).map Evt.r) false), (.fsl ((((qcg x e).setP i q0).gone).map qep) false), (ii (((qcg x e).setP i q0).n)), (bb (((qcg x e).setP i q0).over))]) := fun q0 => qdn (qcg x e) (by show x.procs.length ≤ 1000; have := h.procs; omega) i hlt q0
    by_cases ht : qt = e.key
    · have hp2 := hpt ⟨qp, e.arg, true, []⟩
      simp only [ht, if_true] at hact
      simp only [ht, decide_true] at heq
      simp only [qcg, Ex.setP, List.map_nil, hi, k2] at hact hp2
      by_cases hz : e.key = []
      · have z0 : ¬ (0 : Int) > 0 := by decide
        have hl0 : (([] : List Int).length : Int) = 0 := rfl
        rw [hz] at ht
        simp only [hz, List.map_nil] at hact hp2
        simp only [qb0, k1, k2, k3, h0, h1, h2, hi, hq, hz, z0, hp2, ht, hact, List.map_nil, List.length_nil, q09, Int.toNat_natCast, List.getElem?_map, Option.map_some, Pr.r, qcb, qax, qae, qaa, qbn, Nat.reduceLeDiff, qj, Ev.exec, qb, qe, qc, qaw, qai, Ev.evs, Ev.Opnd.ev, Ev.Env.get, Ev.Env.set, Ev.Env.unset, Ev.look, qk, qf, qv, qfz, Ev.AV.cells, Ev.AV.uc, qo, Ev.AV.plain, qar, qbe, ql, qbh, qbu, qi, qq, qaj, Ev.kill, qag, qg, qbb, qa2, qb1, qm, qmh, Ev.AV.obj?, qh, qd, qu, qx, List.length_map, ↓qn, ↓reduceIte, List.length_cons, List.length_nil, List.getElem?_cons_zero, List.getElem?_cons_succ, List.take_succ_cons, List.take_zero, zfe, List.drop_succ_cons, List.drop_zero, List.drop_nil, List.cons_append, List.nil_append, List.append_nil, List.set_cons_zero, List.set_cons_succ, List.head?_cons, Nat.reduceAdd, Nat.reduceEqDiff, Nat.reduceBEq, Nat.reduceLeDiff, Int.cast_ofNat_Int, reduceCtorEq, decide_true, decide_false, zfc, Bool.not_true, Bool.not_false, zfa, and_self, ne_eq, zfb, not_true_eq_false, zff, zfd, Nat.add_zero, Nat.le_refl, eq_self]
        done
      · have hz' : (e.key.length : Int) > 0 := by have := List.length_pos_iff.2 hz; omega
        simp only [qb0, k1, k2, k3, h0, h1, h2, hi, hq, hz', heq, hp2, ht, hact, q09, Int.toNat_natCast, List.getElem?_map, Option.map_some, Pr.r, qcb, qax, qw, qae, qaa, qbn, Nat.reduceLeDiff, qj, Ev.exec, qb, qe, qc, qaw, qai, Ev.evs, Ev.Opnd.ev, Ev.Env.get, Ev.Env.set, Ev.look, qk, qf, qv, qfz, Ev.AV.cells, Ev.AV.uc, qo, Ev.AV.plain, qar, qbe, ql, qbh, qbu, qi, qq, qaj, Ev.kill, qag, qg, qbb, qa2, qb1, qm, qmh, Ev.AV.obj?, qh, qd, qu, qx, List.length_map, ↓qn, ↓reduceIte, List.length_cons, List.length_nil, List.getElem?_cons_zero, List.getElem?_cons_succ, List.take_succ_cons, List.take_zero, zfe, List.drop_succ_cons, List.drop_zero, List.drop_nil, List.cons_append, List.nil_append, List.append_nil, List.set_cons_zero, List.set_cons_succ, List.head?_cons, Nat.reduceAdd, Nat.reduceEqDiff, Nat.reduceBEq, Nat.reduceLeDiff, reduceCtorEq, decide_true, decide_false, zfc, Bool.not_true, Bool.not_false, zfa, and_self, ne_eq, zfb, not_true_eq_false, zff, zfd, Nat.add_zero, Nat.le_refl, eq_self]
        done
    · have hp2 := hpt ⟨qp, e.arg, true, qt⟩
      simp only [ht, if_false] at hact
      simp only [ht, decide_false] at heq
      simp only [qcg, Ex.setP, List.map_nil, hi, k2] at hact hp2
      by_cases hz : (qt.length : Int) > 0
      · simp only [qb0, k1, k2, k3, h0, h1, h2, hi, hq, hz, heq, hp2, hact, q09, Int.toNat_natCast, List.getElem?_map, Option.map_some, Pr.r, qcb, qax, qw, qae, qaa, qbn, Nat.reduceLeDiff, qj, Ev.exec, qb, qe, qc, qaw, qai, Ev.evs, Ev.Opnd.ev, Ev.Env.get, Ev.Env.set, Ev.look, qk, qf, qv, qfz, Ev.AV.cells, Ev.AV.uc, qo, Ev.AV.plain, qar, qbe, ql, qbh, qbu, qi, qq, qaj, Ev.kill, qag, qg, qbb, qa2, qb1, qm, qmh, Ev.AV.obj?, qh, qd, qu, qx, List.length_map, ↓qn, ↓reduceIte, List.length_cons, List.length_nil, List.getElem?_cons_zero, List.getElem?_cons_succ, List.take_succ_cons, List.take_zero, zfe, List.drop_succ_cons, List.drop_zero, List.drop_nil, List.cons_append, List.nil_append, List.append_nil, List.set_cons_zero, List.set_cons_succ, List.head?_cons, Nat.reduceAdd, Nat.reduceEqDiff, Nat.reduceBEq, Nat.reduceLeDiff, reduceCtorEq, decide_true, decide_false, zfc, Bool.not_true, Bool.not_false, zfa, and_self, ne_eq, zfb, not_true_eq_false, zff, zfd, Nat.add_zero, Nat.le_refl, eq_self]
        done
      · simp only [qb0, k1, k2, k3, h0, h1, h2, hi, hq, hz, hp2, hact, q09, Int.toNat_natCast, List.getElem?_map, Option.map_some, Pr.r, qcb, qax, qw, qae, qaa, qbn, Nat.reduceLeDiff, qj, Ev.exec, qb, qe, qc, qaw, qai, Ev.evs, Ev.Opnd.ev, Ev.Env.get, Ev.Env.set, Ev.Env.unset, Ev.look, qk, qf, qv, qfz, Ev.AV.cells, Ev.AV.uc, qo, Ev.AV.plain, qar, qbe, ql, qbh, qbu, qi, qq, qaj, Ev.kill, qag, qg, qbb, qa2, qb1, qm, qmh, Ev.AV.obj?, qh, qd, qu, qx, List.length_map, ↓qn, ↓reduceIte, List.length_cons, List.length_nil, List.getElem?_cons_zero, List.getElem?_cons_succ, List.take_succ_cons, List.take_zero, zfe, List.drop_succ_cons, List.drop_zero, List.drop_nil, List.cons_append, List.nil_append, List.append_nil, List.set_cons_zero, List.set_cons_succ, List.head?_cons, Nat.reduceAdd, Nat.reduceEqDiff, Nat.reduceBEq, Nat.reduceLeDiff, reduceCtorEq, decide_true, decide_false, zfc, Bool.not_true, Bool.not_false, zfa, and_self, ne_eq, zfb, not_true_eq_false, zff, zfd, Nat.add_zero, Nat.le_refl, eq_self]
        done
end
set_option maxRecDepth 10000
def qrp {τ : Type} (f : τ → Int) (l : List τ) : Int := match l.find? (fun x => !decide (f x = 0)) with
  | some x => f x
  | none => 0
theorem qqn {τ : Type} {f : τ → Int} {l : List τ} (h : l.all (fun x => decide (f x = 0)) = true) : qrp f l = 0 := by
  unfold qrp
  have : l.find? (fun x => !decide (f x = 0)) = none := by
    rw [List.find?_eq_none]; intro x hx; rw [List.all_eq_true] at h; simp [of_decide_eq_true (h x hx)]
  rw [this]
theorem qmc {τ : Type} {f : τ → Int} {l : List τ} {x : τ} (h : l.find? (fun x => !decide (f x = 0)) = some x) : qrp f l = f x := by unfold qrp; rw [h]
theorem qse {τ : Type} {f : τ → Int} {l : List τ} : qrp f l = 0 ↔ ∀ x ∈ l, f x = 0 := by
  cases h : l.find? (fun x => !decide (f x = 0)) with
  | none =>
    rw [List.find?_eq_none] at h
    have h1 : ∀ x ∈ l, f x = 0 := fun x hx => by simpa using h x hx
    exact ⟨fun _ => h1, fun _ => qqn (by rw [List.all_eq_true]; intro x hx; simp [h1 x hx])⟩
  | some x =>
    have h1 := List.find?_some h
    have h2 := List.mem_of_find?_eq_some h
    rw [qmc h]
    exact ⟨fun k => by simp [k] at h1, fun k => k x h2⟩
section
variable (c : Cfg)
def len8 (l : List Start) : Bool := !decide ((l.length : Int) > 8)
def qsf (c : Cfg) : Bool := decide (1 ≤ c.lps.length ∧ c.lps.length ≤ 8 ∧ c.progs.length ≤ 8) && (c.lps.all len8 && decide (1 ≤ c.cap ∧ c.cap ≤ 64 ∧ 0 ≤ c.fin ∧ c.fin ≤ 1152921504606846976))
theorem qyr : qa4 (evL T) qhq [(.agg [(.fsl ((c.lps).map lpC) false), (.fsl ((c.progs).map qce) false), (ii c.look), (ii c.fin), (ii c.cap)])] = some (bb (qsf c)) := by
  unfold qsf
  rw [qa4, qad qye qvy]
  by_cases h1 : (c.lps.length : Int) < 1
  · have : ¬ (1 ≤ c.lps.length ∧ c.lps.length ≤ 8 ∧ c.progs.length ≤ 8) := by omega
    simp only [qdu, h1, this, decide_false, Bool.false_and, qj, Ev.exec, qb, qe, qc, qai, Ev.Opnd.ev, Ev.Env.get, Ev.Env.set, Ev.Env.unset, Ev.look, qk, qf, qv, Ev.AV.cells, qo, Ev.AV.plain, ql, qi, qq, qaj, Ev.kill, qag, qg, qbb, qx, List.length_map, ↓qn, ↓reduceIte, List.length_cons, List.length_nil, zfe, List.drop_zero, List.head?_cons, Nat.reduceEqDiff, decide_true, decide_false, zfc, zfa, Bool.true_eq_false, and_self, ne_eq, zfb, zff, zfd, eq_self, Bool.false_and]
  by_cases h2 : (c.lps.length : Int) > 8
  · have : ¬ (1 ≤ c.lps.length ∧ c.lps.length ≤ 8 ∧ c.progs.length ≤ 8) := by omega
    simp only [qdu, h1, h2, this, decide_false, Bool.false_and, qj, Ev.exec, qb, qe, qc, qai, Ev.Opnd.ev, Ev.Env.get, Ev.Env.set, Ev.Env.unset, Ev.look, qk, qf, qv, Ev.AV.cells, qo, Ev.AV.plain, ql, qbh, qi, qq, qaj, Ev.kill, qag, qg, qbb, qx, List.length_map, ↓qn, ↓reduceIte, List.length_cons, List.length_nil, zfe, List.drop_zero, List.head?_cons, Nat.reduceEqDiff, decide_true, decide_false, zfc, zfa, Bool.true_eq_false, and_self, ne_eq, zfb, zff, zfd, eq_self, Bool.false_and]
  by_cases h3 : (c.progs.length : Int) > 8
  · have : ¬ (1 ≤ c.lps.length ∧ c.lps.length ≤ 8 ∧ c.progs.length ≤ 8) := by omega
    simp only [qdu, h1, h2, h3, this, decide_false, Bool.false_and, qj, Ev.exec, qb, qe, qc, qai, Ev.Opnd.ev, Ev.Env.get, Ev.Env.set, Ev.look, qk, qf, qv, Ev.AV.cells, qo, Ev.AV.plain, ql, qbh, qi, qq, qaj, Ev.kill, qag, qg, qbb, qx, List.length_map, ↓qn, ↓reduceIte, List.length_cons, List.length_nil, zfe, List.drop_succ_cons, List.drop_zero, List.head?_cons, Nat.reduceEqDiff, decide_true, decide_false, zfc, zfa, and_self, ne_eq, zfb, zff, zfd, eq_self, Bool.false_and]
  have h4 : (1 ≤ c.lps.length ∧ c.lps.length ≤ 8 ∧ c.progs.length ≤ 8) := by omega
  have hL : ∃ y, itB (exec (evL T) itL none qil) (qs [1, 3] true 0) ⟨[(1, (.fptr [(.fsl ((c.lps).map lpC) false), (.fsl ((c.progs).map qce) false), (ii c.look), (ii c.fin), (ii c.cap)])), (3, (ii 0))], []⟩ [] = some y ∧ (c.lps.all len8 = true ∧ (y.1 = .exit 0 ∧ y.2.1.marks = [] ∧ y.2.2 = [] ∧ Ev.look y.2.1.vars 1 = some (.fptr [(.fsl ((c.lps).map lpC) false), (.fsl ((c.progs).map qce) false), (ii c.look), (ii c.fin), (ii c.cap)])) ∨
      c.lps.all len8 = false ∧ ∃ x, c.lps.find? (fun x => !len8 x) = some x ∧ (y.1 = .ret ∧ y.2.1.marks = [] ∧ y.2.2 = [] ∧ Ev.look y.2.1.vars 2 = some (bb false))) := by
    refine qg9 c.lps (fun i => ⟨[(1, (.fptr [(.fsl ((c.lps).map lpC) false), (.fsl ((c.progs).map qce) false), (ii c.look), (ii c.fin), (ii c.cap)])), (3, (ii i))], []⟩) [] len8 _ (fun _ y => _) ?_ ?_ ?_
    · intro i x hi hx hp
      have hi' : (i : Int) < (c.lps.length : Int) := by omega
      have hw : IntKind.i64.wrap ((i : Int) + 1) = ((i + 1 : Nat) : Int) := by rw [qas (by omega) (by omega)]; simp
      have h1 : ¬ (x.length : Int) > 8 := by simpa [len8] using hp
      simp only [qil, Int.natCast_nonneg, Int.toNat_natCast, List.getElem?_map, Option.map_some, hx, hi', hw, h1, qcb, qax, lpC, Ev.exec, qb, qe, qc, qai, Ev.Opnd.ev, Ev.Env.get, Ev.Env.set, Ev.look, qf, qv, qao, ql, qbh, qs, Ev.keep, qal, qaf, qg, qbb, qm, qbm, qh, qd, List.length_map, ↓qn, Ev.it1, ↓reduceIte, List.length_cons, List.length_nil, zfe, List.drop_zero, List.head?_cons, Nat.reduceEqDiff, decide_true, decide_false, zfc, zfa, and_self, zfd, eq_self]
    · intro i x hi hx hp
      have hi' : (i : Int) < (c.lps.length : Int) := by omega
      have h1 : (x.length : Int) > 8 := by simpa [len8] using hp
      simp only [qil, Int.natCast_nonneg, Int.toNat_natCast, List.getElem?_map, Option.map_some, hx, hi', h1, lpC, Ev.exec, qb, qe, qc, qai, Ev.Opnd.ev, Ev.Env.get, Ev.Env.set, Ev.look, qf, qv, ql, qbh, List.length_map, ↓qn, Ev.it1, ↓reduceIte, List.length_cons, List.length_nil, List.drop_zero, List.head?_cons, Nat.reduceEqDiff, decide_true, zfa, zfd, eq_self]
      exact ⟨_, rfl, rfl, rfl, rfl, rfl⟩
    · simp only [qil, Int.lt_irrefl, Ev.exec, qb, qe, qc, qai, Ev.Opnd.ev, Ev.Env.get, Ev.Env.set, Ev.look, qf, qv, ql, List.length_map, ↓qn, Ev.it1, ↓reduceIte, List.drop_zero, List.head?_cons, Nat.reduceEqDiff, decide_false, zfa, eq_self]
      exact ⟨_, rfl, rfl, rfl, rfl, rfl⟩
  obtain ⟨⟨y, e, σ⟩, k1, k2⟩ := hL
  simp only at k2
  rcases k2 with ⟨k3, rfl, k4, rfl, k5⟩ | ⟨k3, x, _, rfl, k4, rfl, k5⟩
  · by_cases g1 : c.cap ≥ 1
    case neg =>
      have : ¬ (1 ≤ c.cap ∧ c.cap ≤ 64 ∧ 0 ≤ c.fin ∧ c.fin ≤ 1152921504606846976) := by omega
      simp only [qdu, h1, h2, h3, h4, k1, k3, k4, k5, g1, qcb, qax, decide_false, Bool.and_false, qj, Ev.exec, qb, qe, qc, qai, Ev.Opnd.ev, Ev.Env.get, Ev.Env.set, Ev.Env.unset, Ev.look, qk, qf, qv, Ev.AV.cells, qo, Ev.AV.plain, ql, qbh, qbu, qi, qq, qaj, Ev.kill, qag, qs, Ev.keep, qal, qaf, qg, qbb, qm, qbm, qh, qd, qx, List.length_map, ↓qn, ↓qa3, ↓reduceIte, List.length_cons, List.length_nil, zfe, List.drop_succ_cons, List.drop_zero, List.head?_cons, Nat.reduceEqDiff, decide_true, decide_false, zfc, zfa, and_self, ne_eq, zfb, zff, zfd, eq_self, Bool.and_false, false_and]
    by_cases g2 : c.cap ≤ 64
    case neg =>
      have : ¬ (1 ≤ c.cap ∧ c.cap ≤ 64 ∧ 0 ≤ c.fin ∧ c.fin ≤ 1152921504606846976) := by omega
      simp only [qdu, h1, h2, h3, h4, k1, k3, k4, k5, g1, g2, qcb, qax, decide_false, Bool.and_false, qj, Ev.exec, qb, qe, qc, qai, Ev.Opnd.ev, Ev.Env.get, Ev.Env.set, Ev.Env.unset, Ev.look, qk, qf, qv, Ev.AV.cells, qo, Ev.AV.plain, ql, qqm, qbh, qbu, qi, qq, qaj, Ev.kill, qag, qs, Ev.keep, qal, qaf, qg, qbb, qm, qbm, qh, qd, qx, List.length_map, ↓qn, ↓qa3, ↓reduceIte, List.length_cons, List.length_nil, zfe, List.drop_succ_cons, List.drop_zero, List.head?_cons, Nat.reduceEqDiff, decide_true, decide_false, zfc, zfa, and_self, ne_eq, zfb, zff, zfd, eq_self, Bool.and_false, false_and, and_false]
    by_cases g3 : c.fin ≥ 0
    case neg =>
      have : ¬ (1 ≤ c.cap ∧ c.cap ≤ 64 ∧ 0 ≤ c.fin ∧ c.fin ≤ 1152921504606846976) := by omega
      simp only [qdu, h1, h2, h3, h4, k1, k3, k4, k5, g1, g2, g3, qcb, qax, decide_false, Bool.and_false, qj, Ev.exec, qb, qe, qc, qai, Ev.Opnd.ev, Ev.Env.get, Ev.Env.set, Ev.Env.unset, Ev.look, qk, qf, qv, Ev.AV.cells, qo, Ev.AV.plain, ql, qqm, qbh, qbu, qi, qq, qaj, Ev.kill, qag, qs, Ev.keep, qal, qaf, qg, qbb, qm, qbm, qh, qd, qx, List.length_map, ↓qn, ↓qa3, ↓reduceIte, List.length_cons, List.length_nil, zfe, List.drop_succ_cons, List.drop_zero, List.head?_cons, Nat.reduceEqDiff, decide_true, decide_false, zfc, zfa, and_self, ne_eq, zfb, zff, zfd, eq_self, Bool.and_false, false_and, and_false]
    by_cases g4 : c.fin ≤ 1152921504606846976
    case neg =>
      have : ¬ (1 ≤ c.cap ∧ c.cap ≤ 64 ∧ 0 ≤ c.fin ∧ c.fin ≤ 1152921504606846976) := by omega
      simp only [qdu, h1, h2, h3, h4, k1, k3, k4, k5, g1, g2, g3, g4, qcb, qax, decide_false, Bool.and_false, qj, Ev.exec, qb, qe, qc, qai, Ev.Opnd.ev, Ev.Env.get, Ev.Env.set, Ev.look, qk, qf, qv, Ev.AV.cells, qo, Ev.AV.plain, ql, qqm, qbh, qbu, qi, qq, qaj, Ev.kill, qag, qs, Ev.keep, qal, qaf, qg, qbb, qm, qbm, qh, qd, qx, List.length_map, ↓qn, ↓qa3, ↓reduceIte, List.length_cons, List.length_nil, zfe, List.drop_succ_cons, List.drop_zero, List.head?_cons, Nat.reduceEqDiff, decide_true, decide_false, zfc, zfa, and_self, ne_eq, zfb, zff, zfd, eq_self, Bool.and_false, and_false]
    have : (1 ≤ c.cap ∧ c.cap ≤ 64 ∧ 0 ≤ c.fin ∧ c.fin ≤ 1152921504606846976) := by omega
    simp only [qdu, h1, h2, h3, h4, k1, k3, k4, k5, g1, g2, g3, g4, qcb, qax, and_self, decide_true, qj, Ev.exec, qb, qe, qc, qai, Ev.Opnd.ev, Ev.Env.get, Ev.Env.set, Ev.look, qk, qf, qv, Ev.AV.cells, qo, Ev.AV.plain, ql, qqm, qbh, qbu, qi, qq, qaj, Ev.kill, qag, qs, Ev.keep, qal, qaf, qg, qbb, qm, qbm, qh, qd, qx, List.length_map, ↓qn, ↓qa3, ↓reduceIte, List.length_cons, List.length_nil, zfe, List.drop_succ_cons, List.drop_zero, List.head?_cons, Nat.reduceEqDiff, decide_true, decide_false, zfc, zfa, and_self, ne_eq, zfb, zff, zfd, eq_self]
  · simp only [qdu, h1, h2, h3, h4, k1, k3, k4, k5, qcb, qax, decide_true, Bool.and_false, Bool.false_and, qj, Ev.exec, qb, qe, qc, qai, Ev.Opnd.ev, Ev.Env.get, Ev.Env.set, Ev.look, qk, qf, qv, Ev.AV.cells, qo, Ev.AV.plain, ql, qbh, qi, qq, qaj, Ev.kill, qag, qs, Ev.keep, qal, qaf, qg, qbb, qm, qbm, qh, qd, qx, List.length_map, ↓qn, ↓qa3, ↓reduceIte, List.length_cons, List.length_nil, zfe, List.drop_succ_cons, List.drop_zero, List.head?_cons, Nat.reduceEqDiff, decide_true, decide_false, zfc, zfa, and_self, ne_eq, zfb, zff, zfd, eq_self, Bool.false_and, Bool.and_false]
def qsr (c : Cfg) (p : List OpI) : Int := qpf p c.progs.length c.lps.length c.look
def qky (c : Cfg) (s : Start) : Int := if s.prog < 0 ∨ s.prog ≥ c.progs.length then 22 else if s.time < 0 ∨ s.time > 1152921504606846976 then 11 else 0
def rlpZ (c : Cfg) (l : List Start) : Int := qrp (qky c) l
def q5l (c : Cfg) : Int := if qsf c = false then 1 else if c.look < 1 then 20 else if qrp (qsr c) c.progs ≠ 0 then qrp (qsr c) c.progs else qrp (rlpZ c) c.lps
theorem q7e (hl : c.progs.length ≤ 8) :
    ∃ y, itB (exec (evL T) itL none qio) (qs [1, 3] true 0) ⟨[(1, (.fptr [(.fsl ((c.lps).map lpC) false), (.fsl ((c.progs).map qce) false), (ii c.look), (ii c.fin), (ii c.cap)])), (3, (ii 0))], []⟩ [] = some y ∧ (c.progs.all (fun p => decide (qsr c p = 0)) = true ∧ (y.1 = .exit 0 ∧ y.2.1.marks = [] ∧ y.2.2 = [] ∧ Ev.look y.2.1.vars 1 = some (.fptr [(.fsl ((c.lps).map lpC) false), (.fsl ((c.progs).map qce) false), (ii c.look), (ii c.fin), (ii c.cap)])) ∨
      c.progs.all (fun p => decide (qsr c p = 0)) = false ∧ ∃ x, c.progs.find? (fun p => !decide (qsr c p = 0)) = some x ∧ (y.1 = .ret ∧ y.2.1.marks = [] ∧ y.2.2 = [] ∧ Ev.look y.2.1.vars 2 = some (ii (qsr c x)))) := by
  refine qg9 c.progs (fun i => ⟨[(1, (.fptr [(.fsl ((c.lps).map lpC) false), (.fsl ((c.progs).map qce) false), (ii c.look), (ii c.fin), (ii c.cap)])), (3, (ii i))], []⟩) [] (fun p => decide (qsr c p = 0)) _ (fun x y => _) ?_ ?_ ?_
  · intro i x hi hx hp
    have hi' : (i : Int) < (c.progs.length : Int) := by omega
    have hw : IntKind.i64.wrap ((i : Int) + 1) = ((i + 1 : Nat) : Int) := by rw [qas (by omega) (by omega)]; simp
    have hv := qrg x false c.progs.length c.lps.length c.look
    rw [show qpf x c.progs.length c.lps.length c.look = 0 from of_decide_eq_true hp] at hv
    simp only [qio, Int.natCast_nonneg, Int.toNat_natCast, List.getElem?_map, Option.map_some, hx, hi', hw, hv, qcb, qax, qh8, qce, Ev.exec, qb, qe, qc, qaw, qai, Ev.evs, Ev.Opnd.ev, Ev.Env.get, Ev.Env.set, Ev.look, qf, qv, qao, qbe, ql, qs, Ev.keep, qal, qaf, qg, qbb, qm, qbm, qh, qd, List.length_map, ↓qn, Ev.it1, ↓reduceIte, List.length_cons, List.length_nil, zfe, List.drop_succ_cons, List.drop_zero, List.head?_cons, Nat.reduceEqDiff, decide_true, decide_false, zfc, zfa, and_self, ne_eq, not_true_eq_false, zfd, eq_self]
  · intro i x hi hx hp
    have hi' : (i : Int) < (c.progs.length : Int) := by omega
    have hv := qrg x false c.progs.length c.lps.length c.look
    have hz : ¬ qpf x c.progs.length c.lps.length c.look = 0 := of_decide_eq_false hp
    simp only [qio, Int.natCast_nonneg, Int.toNat_natCast, List.getElem?_map, Option.map_some, hx, hi', hv, hz, qh8, qce, Ev.exec, qb, qe, qc, qaw, qai, Ev.evs, Ev.Opnd.ev, Ev.Env.get, Ev.Env.set, Ev.look, qf, qv, qbe, ql, qbb, qm, qh, qd, List.length_map, ↓qn, Ev.it1, ↓reduceIte, List.length_cons, List.length_nil, List.drop_succ_cons, List.drop_zero, List.head?_cons, Nat.reduceEqDiff, decide_true, zfc, zfa, ne_eq, zfb, zfd, eq_self]
    exact ⟨_, rfl, rfl, rfl, rfl, rfl⟩
  · simp only [qio, Int.lt_irrefl, Ev.exec, qb, qe, qc, qai, Ev.Opnd.ev, Ev.Env.get, Ev.Env.set, Ev.look, qf, qv, ql, List.length_map, ↓qn, Ev.it1, ↓reduceIte, List.drop_succ_cons, List.drop_zero, List.head?_cons, Nat.reduceEqDiff, decide_false, zfa, eq_self]
    exact ⟨_, rfl, rfl, rfl, rfl, rfl⟩
theorem q1s (i : Nat) (l : List Start) (hx : c.lps[i]? = some l) (hl : l.length ≤ 8) :
    ∃ y, itB (exec (evL T) itL none qej) (qs [1, 5, 6] true 0) ⟨[(1, (.fptr [(.fsl ((c.lps).map lpC) false), (.fsl ((c.progs).map qce) false), (ii c.look), (ii c.fin), (ii c.cap)])), (5, (ii i)), (6, (ii 0))], []⟩ [] = some y ∧ (l.all (fun s => decide (qky c s = 0)) = true ∧ (y.1 = .exit 4 ∧ y.2.1.marks = [] ∧ y.2.2 = [] ∧ Ev.look y.2.1.vars 1 = some (.fptr [(.fsl ((c.lps).map lpC) false), (.fsl ((c.progs).map qce) false), (ii c.look), (ii c.fin), (ii c.cap)]) ∧ Ev.look y.2.1.vars 5 = some (ii i)) ∨
      l.all (fun s => decide (qky c s = 0)) = false ∧ ∃ x, l.find? (fun s => !decide (qky c s = 0)) = some x ∧ (y.1 = .ret ∧ y.2.1.marks = [] ∧ y.2.2 = [.row 2 [x.r] 0] ∧ Ev.look y.2.1.vars 2 = some (ii (qky c x)))) := by
  refine qg9 l (fun k => ⟨[(1, (.fptr [(.fsl ((c.lps).map lpC) false), (.fsl ((c.progs).map qce) false), (ii c.look), (ii c.fin), (ii c.cap)])), (5, (ii i)), (6, (ii k))], []⟩) [] (fun s => decide (qky c s = 0)) _ (fun x y => _) ?_ ?_ ?_
  · intro k s hk hs hp
    have hk' : (k : Int) < (l.length : Int) := by omega
    have hw : IntKind.i64.wrap ((k : Int) + 1) = ((k + 1 : Nat) : Int) := by rw [qas (by omega) (by omega)]; simp
    have hz : qky c s = 0 := of_decide_eq_true hp
    unfold qky at hz
    by_cases g1 : s.prog < 0
    · rw [if_pos (.inl g1)] at hz; cases hz
    by_cases g2 : s.prog ≥ (c.progs.length : Int)
    · rw [if_pos (.inr g2)] at hz; cases hz
    by_cases g3 : s.time < 0
    · rw [if_neg (by omega), if_pos (.inl g3)] at hz; cases hz
    by_cases g4 : s.time > 1152921504606846976
    · rw [if_neg (by omega), if_pos (.inr g4)] at hz; cases hz
    simp only [qej, Int.natCast_nonneg, Int.toNat_natCast, List.getElem?_map, Option.map_some, hx, hs, hk', hw, g1, g2, g3, g4, qcb, qax, lpC, Start.r, Ev.exec, qb, qe, qc, qai, Ev.Opnd.ev, Ev.Env.get, Ev.Env.set, Ev.look, qf, qv, Ev.AV.cells, qo, Ev.AV.plain, qao, ql, qbh, qbu, qs, Ev.keep, qal, qaf, qg, qbb, qm, qbm, qh, qd, List.length_map, ↓qn, Ev.it1, ↓reduceIte, List.length_cons, List.length_nil, List.getElem?_cons_zero, List.take_succ_cons, List.take_zero, zfe, List.drop_succ_cons, List.drop_zero, List.drop_nil, List.nil_append, List.append_nil, List.set_cons_zero, List.head?_cons, Nat.reduceAdd, Nat.reduceEqDiff, decide_true, decide_false, zfc, zfa, and_self, ne_eq, zfb, zff, zfd, Nat.add_zero, Nat.le_refl, eq_self]
  · intro k s hk hs hp
    have hk' : (k : Int) < (l.length : Int) := by omega
    have hz : ¬ qky c s = 0 := of_decide_eq_false hp
    unfold qky at hz ⊢
    by_cases g1 : s.prog < 0
    · rw [if_pos (.inl g1)]
      simp only [qej, Int.natCast_nonneg, Int.toNat_natCast, List.getElem?_map, Option.map_some, hx, hs, hk', g1, lpC, Start.r, Ev.exec, qb, qe, qc, qai, Ev.Opnd.ev, Ev.Env.get, Ev.Env.set, Ev.Env.unset, Ev.look, qf, qv, Ev.AV.cells, qo, Ev.AV.plain, ql, List.length_map, ↓qn, Ev.it1, ↓reduceIte, List.length_cons, List.length_nil, List.getElem?_cons_zero, List.take_succ_cons, List.take_zero, zfe, List.drop_succ_cons, List.drop_zero, List.drop_nil, List.nil_append, List.append_nil, List.set_cons_zero, List.head?_cons, Nat.reduceAdd, Nat.reduceEqDiff, decide_true, zfc, zfa, Bool.true_eq_false, and_self, ne_eq, zfb, zff, zfd, Nat.add_zero, Nat.le_refl, eq_self]
      exact ⟨_, rfl, rfl, rfl, rfl, rfl⟩
    by_cases g2 : s.prog ≥ (c.progs.length : Int)
    · rw [if_pos (.inr g2)]
      simp only [qej, Int.natCast_nonneg, Int.toNat_natCast, List.getElem?_map, Option.map_some, hx, hs, hk', g1, g2, lpC, Start.r, Ev.exec, qb, qe, qc, qai, Ev.Opnd.ev, Ev.Env.get, Ev.Env.set, Ev.look, qf, qv, Ev.AV.cells, qo, Ev.AV.plain, ql, qbu, List.length_map, ↓qn, Ev.it1, ↓reduceIte, List.length_cons, List.length_nil, List.getElem?_cons_zero, List.take_succ_cons, List.take_zero, zfe, List.drop_succ_cons, List.drop_zero, List.drop_nil, List.nil_append, List.append_nil, List.set_cons_zero, List.head?_cons, Nat.reduceAdd, Nat.reduceEqDiff, decide_true, decide_false, zfc, zfa, and_self, ne_eq, zfb, zff, zfd, Nat.add_zero, Nat.le_refl, eq_self]
      exact ⟨_, rfl, rfl, rfl, rfl, rfl⟩
    rw [if_neg (by omega)] at hz ⊢
    by_cases g3 : s.time < 0
    · rw [if_pos (.inl g3)]
      simp only [qej, Int.natCast_nonneg, Int.toNat_natCast, List.getElem?_map, Option.map_some, hx, hs, hk', g1, g2, g3, lpC, Start.r, Ev.exec, qb, qe, qc, qai, Ev.Opnd.ev, Ev.Env.get, Ev.Env.set, Ev.Env.unset, Ev.look, qf, qv, Ev.AV.cells, qo, Ev.AV.plain, ql, qbu, List.length_map, ↓qn, Ev.it1, ↓reduceIte, List.length_cons, List.length_nil, List.getElem?_cons_zero, List.take_succ_cons, List.take_zero, zfe, List.drop_succ_cons, List.drop_zero, List.drop_nil, List.nil_append, List.append_nil, List.set_cons_zero, List.head?_cons, Nat.reduceAdd, Nat.reduceEqDiff, decide_true, decide_false, zfc, zfa, Bool.true_eq_false, and_self, ne_eq, zfb, zff, zfd, Nat.add_zero, Nat.le_refl, eq_self]
      exact ⟨_, rfl, rfl, rfl, rfl, rfl⟩
    by_cases g4 : s.time > 1152921504606846976
    · rw [if_pos (.inr g4)]
      simp only [qej, Int.natCast_nonneg, Int.toNat_natCast, List.getElem?_map, Option.map_some, hx, hs, hk', g1, g2, g3, g4, lpC, Start.r, Ev.exec, qb, qe, qc, qai, Ev.Opnd.ev, Ev.Env.get, Ev.Env.set, Ev.look, qf, qv, Ev.AV.cells, qo, Ev.AV.plain, ql, qbh, qbu, List.length_map, ↓qn, Ev.it1, ↓reduceIte, List.length_cons, List.length_nil, List.getElem?_cons_zero, List.take_succ_cons, List.take_zero, zfe, List.drop_succ_cons, List.drop_zero, List.drop_nil, List.nil_append, List.append_nil, List.set_cons_zero, List.head?_cons, Nat.reduceAdd, Nat.reduceEqDiff, decide_true, decide_false, zfc, zfa, and_self, ne_eq, zfb, zff, zfd, Nat.add_zero, Nat.le_refl, eq_self]
      exact ⟨_, rfl, rfl, rfl, rfl, rfl⟩
    · exact absurd (by rw [if_neg (by omega)]) hz
  · simp only [qej, Int.natCast_nonneg, Int.toNat_natCast, List.getElem?_map, Option.map_some, hx, Int.lt_irrefl, lpC, Ev.exec, qb, qe, qc, qai, Ev.Opnd.ev, Ev.Env.get, Ev.Env.set, Ev.look, qf, qv, ql, List.length_map, ↓qn, Ev.it1, ↓reduceIte, List.length_cons, List.length_nil, List.drop_zero, List.head?_cons, Nat.reduceEqDiff, decide_false, zfa, zfd, eq_self]
    exact ⟨_, rfl, rfl, rfl, rfl, rfl, rfl⟩
theorem q8c (hl : c.lps.length ≤ 8) (hll : ∀ l ∈ c.lps, l.length ≤ 8) :
    ∃ y, itB (exec (evL T) itL none qih) (qs [1, 5] true 0) ⟨[(1, (.fptr [(.fsl ((c.lps).map lpC) false), (.fsl ((c.progs).map qce) false), (ii c.look), (ii c.fin), (ii c.cap)])), (5, (ii 0))], []⟩ [] = some y ∧ (c.lps.all (fun l => decide (rlpZ c l = 0)) = true ∧ (y.1 = .exit 2 ∧ y.2.1.marks = [] ∧ y.2.2 = []) ∨
      c.lps.all (fun l => decide (rlpZ c l = 0)) = false ∧ ∃ x, c.lps.find? (fun l => !decide (rlpZ c l = 0)) = some x ∧ (y.1 = .ret ∧ y.2.1.marks = [] ∧ (∃ s : Start, y.2.2 = [.row 2 [s.r] 0]) ∧ Ev.look y.2.1.vars 2 = some (ii (rlpZ c x)))) := by
  refine qg9 c.lps (fun i => ⟨[(1, (.fptr [(.fsl ((c.lps).map lpC) false), (.fsl ((c.progs).map qce) false), (ii c.look), (ii c.fin), (ii c.cap)])), (5, (ii i))], []⟩) [] (fun l => decide (rlpZ c l = 0)) _ (fun x y => _) ?_ ?_ ?_
  · intro i l hi hx hp
    have hi' : (i : Int) < (c.lps.length : Int) := by omega
    have hw : IntKind.i64.wrap ((i : Int) + 1) = ((i + 1 : Nat) : Int) := by rw [qas (by omega) (by omega)]; simp
    have hz : rlpZ c l = 0 := of_decide_eq_true hp
    obtain ⟨⟨y, e, σ⟩, k1, k2⟩ := q1s c i l hx (hll l (List.mem_of_getElem? hx))
    simp only at k2
    rcases k2 with ⟨k3, rfl, k4, rfl, k5, k6⟩ | ⟨k3, x, k7, rfl, k4, rfl, k5⟩
    · simp only [qih, hi', hw, k1, k4, k5, k6, qcb, qax, Ev.exec, qb, qe, qc, qai, Ev.Opnd.ev, Ev.Env.get, Ev.Env.set, Ev.look, qf, qv, qao, ql, qs, Ev.keep, qal, qaf, qg, qbb, qm, qbm, qh, qd, List.length_map, ↓qn, ↓qa3, Ev.it1, ↓reduceIte, List.length_nil, zfe, List.drop_zero, List.head?_cons, Nat.reduceEqDiff, decide_true, zfc, zfa, and_self, eq_self]
    · have h1 := List.find?_some k7
      have h2 : qky c x = 0 := by rw [← qmc k7]; exact hz
      simp [h2] at h1
  · intro i l hi hx hp
    have hi' : (i : Int) < (c.lps.length : Int) := by omega
    have hz : ¬ rlpZ c l = 0 := of_decide_eq_false hp
    obtain ⟨⟨y, e, σ⟩, k1, k2⟩ := q1s c i l hx (hll l (List.mem_of_getElem? hx))
    simp only at k2
    rcases k2 with ⟨k3, rfl, k4, rfl, k5, k6⟩ | ⟨k3, x, k7, rfl, k4, rfl, k5⟩
    · exact absurd (qqn k3) hz
    · rw [show rlpZ c l = qky c x from qmc k7]
      simp only [qih, hi', k1, qcb, qax, Ev.exec, qb, qe, qc, qai, Ev.Opnd.ev, Ev.Env.get, Ev.Env.set, Ev.look, qf, qv, ql, qs, Ev.keep, qal, qaf, qg, qbb, qm, qbm, qh, qd, List.length_map, ↓qn, ↓qa3, Ev.it1, ↓reduceIte, List.length_nil, zfe, List.drop_zero, List.head?_cons, Nat.reduceEqDiff, decide_true, zfc, zfa, and_self, eq_self]
      exact ⟨_, rfl, rfl, k4, ⟨x, rfl⟩, k5⟩
  · simp only [qih, Int.lt_irrefl, Ev.exec, qb, qe, qc, qai, Ev.Opnd.ev, Ev.Env.get, Ev.Env.set, Ev.look, qf, qv, ql, List.length_map, ↓qn, Ev.it1, ↓reduceIte, List.drop_zero, List.head?_cons, Nat.reduceEqDiff, decide_false, zfa, eq_self]
    exact ⟨_, rfl, rfl, rfl, rfl⟩
theorem qy3 : qa4 (evL T) qh6 [(.agg [(.fsl ((c.lps).map lpC) false), (.fsl ((c.progs).map qce) false), (ii c.look), (ii c.fin), (ii c.cap)])] = some (ii (q5l c)) := by
  have hs := qyr c
  unfold q5l
  rw [qa4, qad qxp qvl]
  cases h1 : qsf c with
  | false =>
    rw [h1] at hs
    simp only [qgt, hs, qcb, qax, qj, Ev.exec, qb, qe, qc, qaw, qai, Ev.evs, Ev.Opnd.ev, Ev.Env.get, Ev.Env.set, Ev.look, qk, qf, qv, Ev.AV.cells, qo, Ev.AV.plain, qi, qq, qaj, Ev.kill, qag, qg, qbb, qa2, qm, qh, qd, qx, ↓qn, ↓reduceIte, List.length_cons, List.length_nil, List.take_succ_cons, zfe, Nat.reduceAdd, Nat.reduceEqDiff, zfc, Bool.not_false, and_self, ne_eq, zfb, zff, zfd, Nat.le_refl, eq_self]
  | true =>
    rw [h1] at hs
    have h2 := h1
    simp only [qsf, Bool.and_eq_true, decide_eq_true_eq, List.all_eq_true] at h2
    obtain ⟨⟨s1, s2, s3⟩, s4, s5⟩ := h2
    have s6 : ∀ l ∈ c.lps, l.length ≤ 8 := fun l hl => by have := s4 l hl; simp [len8] at this; omega
    simp only [Bool.true_eq_false, if_false]
    by_cases hk : c.look < 1
    · simp only [qgt, hs, hk, qcb, qax, qj, Ev.exec, qb, qe, qc, qaw, qai, Ev.evs, Ev.Opnd.ev, Ev.Env.get, Ev.Env.set, Ev.look, qk, qf, qv, Ev.AV.cells, qo, Ev.AV.plain, ql, qi, qq, qaj, Ev.kill, qag, qg, qbb, qa2, qm, qh, qd, qx, ↓qn, ↓reduceIte, List.length_cons, List.length_nil, List.take_succ_cons, zfe, List.drop_succ_cons, List.drop_zero, List.head?_cons, Nat.reduceAdd, Nat.reduceEqDiff, decide_true, zfc, Bool.not_true, zfa, and_self, ne_eq, zfb, zff, zfd, Nat.le_refl, eq_self]
    rw [if_neg hk]
    obtain ⟨⟨y, e, σ⟩, k1, k2⟩ := q7e c s3
    obtain ⟨⟨y', e', σ'⟩, m1, m2⟩ := q8c c s2 s6
    simp only at k2 m2
    rcases k2 with ⟨k3, rfl, k4, rfl, k5⟩ | ⟨k3, x, k7, rfl, k4, rfl, k5⟩
    · rw [qqn k3, if_neg (by simp)]
      rcases m2 with ⟨m3, rfl, m4, rfl⟩ | ⟨m3, x, m7, rfl, m4, ⟨s, rfl⟩, m5⟩
      · rw [qqn m3]
        simp only [qgt, hs, hk, k1, k4, k5, m1, m4, qcb, qax, qj, Ev.exec, qb, qe, qc, qaw, qai, Ev.evs, Ev.Opnd.ev, Ev.Env.get, Ev.Env.set, Ev.look, qk, qf, qv, Ev.AV.cells, qo, Ev.AV.plain, ql, qi, qq, qaj, Ev.kill, qag, qs, Ev.keep, qal, qaf, qg, qbb, qa2, qm, qbm, qh, qd, qx, ↓qn, ↓qa3, ↓reduceIte, List.length_cons, List.length_nil, List.take_succ_cons, zfe, List.drop_succ_cons, List.drop_zero, List.head?_cons, Nat.reduceAdd, Nat.reduceEqDiff, decide_false, zfc, Bool.not_true, zfa, and_self, ne_eq, zfb, zff, zfd, Nat.le_refl, eq_self]
      · rw [qmc m7]
        simp only [qgt, hs, hk, k1, k4, k5, m1, m4, m5, qcb, qax, qj, Ev.exec, qb, qe, qc, qaw, qai, Ev.evs, Ev.Opnd.ev, Ev.Env.get, Ev.Env.set, Ev.look, qk, qf, qv, Ev.AV.cells, qo, Ev.AV.plain, ql, qi, qq, qaj, Ev.kill, qag, qs, Ev.keep, qal, qaf, qg, qbb, qa2, qm, qbm, qh, qd, qx, ↓qn, ↓qa3, ↓reduceIte, List.length_cons, List.length_nil, List.take_succ_cons, List.take_zero, zfe, List.drop_succ_cons, List.drop_zero, List.head?_cons, Nat.reduceAdd, Nat.reduceEqDiff, decide_false, zfc, Bool.not_true, zfa, and_self, ne_eq, zfb, zff, zfd, Nat.le_refl, eq_self]
    · have hz := List.find?_some k7
      have hz' : ¬ qsr c x = 0 := by simpa using hz
      rw [qmc k7, if_pos hz']
      simp only [qgt, hs, hk, k1, k4, k5, qcb, qax, qj, Ev.exec, qb, qe, qc, qaw, qai, Ev.evs, Ev.Opnd.ev, Ev.Env.get, Ev.Env.set, Ev.look, qk, qf, qv, Ev.AV.cells, qo, Ev.AV.plain, ql, qi, qq, qaj, Ev.kill, qag, qs, Ev.keep, qal, qaf, qg, qbb, qa2, qm, qbm, qh, qd, qx, ↓qn, ↓qa3, ↓reduceIte, List.length_cons, List.length_nil, List.take_succ_cons, zfe, List.drop_succ_cons, List.drop_zero, List.head?_cons, Nat.reduceAdd, Nat.reduceEqDiff, decide_false, zfc, Bool.not_true, zfa, and_self, ne_eq, zfb, zff, zfd, Nat.le_refl, eq_self]
end
set_option maxRecDepth 10000
section
variable (c : Cfg)
def l12 (l : List Start) : Bool := !decide ((l.length : Int) > 12)
def l30 (p : List OpI) : Bool := !decide ((p.length : Int) > 30)
def qrh (c : Cfg) : Bool := decide ((c.lps.length : Int) > 12) || (decide ((c.progs.length : Int) > 12) || (!(c.lps.all l12) || !(c.progs.all l30)))
theorem great_l1 (hl : c.lps.length ≤ 12) :
    ∃ y, itB (exec (evL T) itL none qim) (qs [1, 3] true 0) ⟨[(1, (.fptr [(.fsl ((c.lps).map lpC) false), (.fsl ((c.progs).map qce) false), (ii c.look), (ii c.fin), (ii c.cap)])), (3, (ii 0))], []⟩ [] = some y ∧ (c.lps.all l12 = true ∧ (y.1 = .exit 0 ∧ y.2.1.marks = [] ∧ y.2.2 = [] ∧ Ev.look y.2.1.vars 1 = some (.fptr [(.fsl ((c.lps).map lpC) false), (.fsl ((c.progs).map qce) false), (ii c.look), (ii c.fin), (ii c.cap)])) ∨
      c.lps.all l12 = false ∧ ∃ x, c.lps.find? (fun x => !l12 x) = some x ∧ (y.1 = .ret ∧ y.2.1.marks = [] ∧ y.2.2 = [] ∧ Ev.look y.2.1.vars 2 = some (bb true))) := by
  refine qg9 c.lps (fun i => ⟨[(1, (.fptr [(.fsl ((c.lps).map lpC) false), (.fsl ((c.progs).map qce) false), (ii c.look), (ii c.fin), (ii c.cap)])), (3, (ii i))], []⟩) [] l12 _ (fun _ y => _) ?_ ?_ ?_
  · intro i x hi hx hp
    have hi' : (i : Int) < (c.lps.length : Int) := by omega
    have hw : IntKind.i64.wrap ((i : Int) + 1) = ((i + 1 : Nat) : Int) := by rw [qas (by omega) (by omega)]; simp
    have h1 : ¬ (x.length : Int) > 12 := by simpa [l12] using hp
    simp only [qim, Int.natCast_nonneg, Int.toNat_natCast, List.getElem?_map, Option.map_some, hx, hi', hw, h1, qcb, qax, lpC, Ev.exec, qb, qe, qc, qai, Ev.Opnd.ev, Ev.Env.get, Ev.Env.set, Ev.look, qf, qv, qao, ql, qbh, qs, Ev.keep, qal, qaf, qg, qbb, qm, qbm, qh, qd, List.length_map, ↓qn, Ev.it1, ↓reduceIte, List.length_cons, List.length_nil, zfe, List.drop_zero, List.head?_cons, Nat.reduceEqDiff, decide_true, decide_false, zfc, zfa, and_self, zfd, eq_self]
  · intro i x hi hx hp
    have hi' : (i : Int) < (c.lps.length : Int) := by omega
    have h1 : (x.length : Int) > 12 := by simpa [l12] using hp
    simp only [qim, Int.natCast_nonneg, Int.toNat_natCast, List.getElem?_map, Option.map_some, hx, hi', h1, lpC, Ev.exec, qb, qe, qc, qai, Ev.Opnd.ev, Ev.Env.get, Ev.Env.set, Ev.look, qf, qv, ql, qbh, List.length_map, ↓qn, Ev.it1, ↓reduceIte, List.length_cons, List.length_nil, List.drop_zero, List.head?_cons, Nat.reduceEqDiff, decide_true, zfa, zfd, eq_self]
    exact ⟨_, rfl, rfl, rfl, rfl, rfl⟩
  · simp only [qim, Int.lt_irrefl, Ev.exec, qb, qe, qc, qai, Ev.Opnd.ev, Ev.Env.get, Ev.Env.set, Ev.look, qf, qv, ql, List.length_map, ↓qn, Ev.it1, ↓reduceIte, List.drop_zero, List.head?_cons, Nat.reduceEqDiff, decide_false, zfa, eq_self]
    exact ⟨_, rfl, rfl, rfl, rfl, rfl⟩
theorem great_l2 (hl : c.progs.length ≤ 12) :
    ∃ y, itB (exec (evL T) itL none qik) (qs [1, 4] true 0) ⟨[(1, (.fptr [(.fsl ((c.lps).map lpC) false), (.fsl ((c.progs).map qce) false), (ii c.look), (ii c.fin), (ii c.cap)])), (4, (ii 0))], []⟩ [] = some y ∧ (c.progs.all l30 = true ∧ (y.1 = .exit 2 ∧ y.2.1.marks = [] ∧ y.2.2 = []) ∨
      c.progs.all l30 = false ∧ ∃ x, c.progs.find? (fun x => !l30 x) = some x ∧ (y.1 = .ret ∧ y.2.1.marks = [] ∧ y.2.2 = [] ∧ Ev.look y.2.1.vars 2 = some (bb true))) := by
  refine qg9 c.progs (fun i => ⟨[(1, (.fptr [(.fsl ((c.lps).map lpC) false), (.fsl ((c.progs).map qce) false), (ii c.look), (ii c.fin), (ii c.cap)])), (4, (ii i))], []⟩) [] l30 _ (fun _ y => _) ?_ ?_ ?_
  · intro i x hi hx hp
    have hi' : (i : Int) < (c.progs.length : Int) := by omega
    have hw : IntKind.i64.wrap ((i : Int) + 1) = ((i + 1 : Nat) : Int) := by rw [qas (by omega) (by omega)]; simp
    have h1 : ¬ (x.length : Int) > 30 := by simpa [l30] using hp
    simp only [qik, Int.natCast_nonneg, Int.toNat_natCast, List.getElem?_map, Option.map_some, hx, hi', hw, h1, qcb, qax, qce, Ev.exec, qb, qe, qc, qai, Ev.Opnd.ev, Ev.Env.get, Ev.Env.set, Ev.look, qf, qv, qao, ql, qbh, qs, Ev.keep, qal, qaf, qg, qbb, qm, qbm, qh, qd, List.length_map, ↓qn, Ev.it1, ↓reduceIte, List.length_cons, List.length_nil, zfe, List.drop_succ_cons, List.drop_zero, List.head?_cons, Nat.reduceEqDiff, decide_true, decide_false, zfc, zfa, and_self, zfd, eq_self]
  · intro i x hi hx hp
    have hi' : (i : Int) < (c.progs.length : Int) := by omega
    have h1 : (x.length : Int) > 30 := by simpa [l30] using hp
    simp only [qik, Int.natCast_nonneg, Int.toNat_natCast, List.getElem?_map, Option.map_some, hx, hi', h1, qce, Ev.exec, qb, qe, qc, qai, Ev.Opnd.ev, Ev.Env.get, Ev.Env.set, Ev.look, qf, qv, ql, qbh, List.length_map, ↓qn, Ev.it1, ↓reduceIte, List.length_cons, List.length_nil, List.drop_succ_cons, List.drop_zero, List.head?_cons, Nat.reduceEqDiff, decide_true, zfa, zfd, eq_self]
    exact ⟨_, rfl, rfl, rfl, rfl, rfl⟩
  · simp only [qik, Int.lt_irrefl, Ev.exec, qb, qe, qc, qai, Ev.Opnd.ev, Ev.Env.get, Ev.Env.set, Ev.look, qf, qv, ql, List.length_map, ↓qn, Ev.it1, ↓reduceIte, List.drop_succ_cons, List.drop_zero, List.head?_cons, Nat.reduceEqDiff, decide_false, zfa, eq_self]
    exact ⟨_, rfl, rfl, rfl, rfl⟩
theorem qy8 : qa4 (evL T) qh7 [(.agg [(.fsl ((c.lps).map lpC) false), (.fsl ((c.progs).map qce) false), (ii c.look), (ii c.fin), (ii c.cap)])] = some (bb (qrh c)) := by
  rw [qa4, qad qwk qvg]
  by_cases h1 : (c.lps.length : Int) > 12
  · simp only [qgp, qrh, h1, qj, Ev.exec, qb, qe, qc, qai, Ev.Opnd.ev, Ev.Env.get, Ev.Env.set, Ev.Env.unset, Ev.look, qk, qf, qv, Ev.AV.cells, qo, Ev.AV.plain, qbh, qi, qq, qaj, Ev.kill, qag, qg, qbb, qx, List.length_map, ↓qn, ↓reduceIte, List.length_cons, List.length_nil, zfe, List.drop_zero, List.head?_cons, Nat.reduceEqDiff, decide_true, zfc, Bool.true_or, zfa, Bool.true_eq_false, and_self, ne_eq, zfb, zff, zfd, eq_self]
  by_cases h2 : (c.progs.length : Int) > 12
  · simp only [qgp, qrh, h1, h2, qj, Ev.exec, qb, qe, qc, qai, Ev.Opnd.ev, Ev.Env.get, Ev.Env.set, Ev.look, qk, qf, qv, Ev.AV.cells, qo, Ev.AV.plain, qbh, qi, qq, qaj, Ev.kill, qag, qg, qbb, qx, List.length_map, ↓qn, ↓reduceIte, List.length_cons, List.length_nil, zfe, List.drop_succ_cons, List.drop_zero, List.head?_cons, Nat.reduceEqDiff, decide_true, decide_false, zfc, Bool.true_or, Bool.or_true, zfa, and_self, ne_eq, zfb, zff, zfd, eq_self]
  obtain ⟨⟨y, e, σ⟩, k1, k2⟩ := great_l1 c (by omega)
  obtain ⟨⟨y', e', σ'⟩, m1, m2⟩ := great_l2 c (by omega)
  simp only at k2 m2
  rcases k2 with ⟨k3, rfl, k4, rfl, k5⟩ | ⟨k3, x, _, rfl, k4, rfl, k5⟩
  · rcases m2 with ⟨m3, rfl, m4, rfl⟩ | ⟨m3, x, _, rfl, m4, rfl, m5⟩
    · simp only [qgp, qrh, h1, h2, k1, k3, k4, k5, m1, m3, m4, qcb, qax, Bool.or_self, qj, Ev.exec, qb, qe, qc, qai, Ev.Opnd.ev, Ev.Env.get, Ev.Env.set, Ev.look, qk, qf, qv, Ev.AV.cells, qo, Ev.AV.plain, qbh, qi, qq, qaj, Ev.kill, qag, qs, Ev.keep, qal, qaf, qg, qbb, qm, qbm, qh, qd, qx, List.length_map, ↓qn, ↓qa3, ↓reduceIte, List.length_cons, List.length_nil, zfe, List.drop_succ_cons, List.drop_zero, List.head?_cons, Nat.reduceEqDiff, decide_false, zfc, Bool.not_true, zfa, and_self, ne_eq, zfb, zff, zfd, eq_self]
    · simp only [qgp, qrh, h1, h2, k1, k3, k4, k5, m1, m3, m4, m5, qcb, qax, Bool.or_true, qj, Ev.exec, qb, qe, qc, qai, Ev.Opnd.ev, Ev.Env.get, Ev.Env.set, Ev.look, qk, qf, qv, Ev.AV.cells, qo, Ev.AV.plain, qbh, qi, qq, qaj, Ev.kill, qag, qs, Ev.keep, qal, qaf, qg, qbb, qm, qbm, qh, qd, qx, List.length_map, ↓qn, ↓qa3, ↓reduceIte, List.length_cons, List.length_nil, zfe, List.drop_succ_cons, List.drop_zero, List.head?_cons, Nat.reduceEqDiff, decide_false, zfc, Bool.or_true, Bool.not_true, Bool.not_false, zfa, and_self, ne_eq, zfb, zff, zfd, eq_self]
  · simp only [qgp, qrh, h1, h2, k1, k3, k4, k5, qcb, qax, Bool.or_true, Bool.true_or, qj, Ev.exec, qb, qe, qc, qai, Ev.Opnd.ev, Ev.Env.get, Ev.Env.set, Ev.look, qk, qf, qv, Ev.AV.cells, qo, Ev.AV.plain, qbh, qi, qq, qaj, Ev.kill, qag, qs, Ev.keep, qal, qaf, qg, qbb, qm, qbm, qh, qd, qx, List.length_map, ↓qn, ↓qa3, ↓reduceIte, List.length_cons, List.length_nil, zfe, List.drop_succ_cons, List.drop_zero, List.head?_cons, Nat.reduceEqDiff, decide_false, zfc, Bool.true_or, Bool.or_true, Bool.not_false, zfa, and_self, ne_eq, zfb, zff, zfd, eq_self]
theorem qwv (h : qrh c = false) : c.lps.length ≤ 12 ∧ c.progs.length ≤ 12 ∧ (∀ l ∈ c.lps, l.length ≤ 12) ∧ ∀ p ∈ c.progs, p.length ≤ 30 := by
  simp only [qrh, Bool.or_eq_false_iff, decide_eq_false_iff_not, Bool.not_eq_false', List.all_eq_true] at h
  obtain ⟨h1, h2, h3, h4⟩ := h
  exact ⟨by omega, by omega, fun l hl => by have := h3 l hl; simp [l12] at this; omega, fun p hp => by have := h4 p hp; simp [l30] at this; omega⟩
def okB (c : Cfg) : Bool := !qrh c && decide (q5l c = 0)
end
structure OpFull (c : Cfg) (p : List OpI) (op : OpI) : Prop where
  code : 1 ≤ op.code ∧ op.code ≤ 8
  hold : op.code = 1 → 1 ≤ op.a ∧ op.a ≤ 1099511627776
  send : op.code = 2 → 0 ≤ op.a ∧ op.a < c.lps.length ∧ 1 ≤ op.c ∧ op.c ≤ 1099511627776 ∧ c.look ≤ op.c
  timer : op.code = 3 → 1 ≤ op.a ∧ op.a ≤ 1099511627776 ∧ 0 ≤ op.b ∧ op.b < p.length
  spawn : op.code = 5 → 0 ≤ op.a ∧ op.a < c.progs.length ∧ 1 ≤ op.b ∧ op.b ≤ 1099511627776
  reg : op.code = 6 ∨ op.code = 7 → op.a = 0 ∨ op.a = 1
  to : op.code = 7 → 0 ≤ op.c ∧ op.c < p.length
theorem q2p {p : List OpI} {ps lps look : Int} (h : qpf p ps lps look = 0) : qqj p = true ∧ p.all (fun x => qzd x p.length ps) = true ∧ p.all (q8m lps) = true ∧ p.all (qqc look) = true := by
  unfold qpf at h
  cases h1 : qqj p with
  | false => rw [if_pos h1] at h; cases h
  | true =>
    rw [if_neg (by simp [h1])] at h
    cases h2 : p.all (fun x => qzd x p.length ps) with
    | false => rw [if_pos h2] at h; cases h
    | true =>
      rw [if_neg (by simp [h2])] at h
      cases h3 : p.all (q8m lps) with
      | false => rw [if_pos h3] at h; cases h
      | true =>
        rw [if_neg (by simp [h3])] at h
        cases h4 : p.all (qqc look) with
        | false => rw [if_pos h4] at h; cases h
        | true => exact ⟨rfl, rfl, rfl, rfl⟩
theorem qqq {n : Int} : qp7 n = true ↔ 1 ≤ n ∧ n ≤ 1099511627776 := by simp [qp7]
structure Valid (c : Cfg) : Prop where
  lps : 1 ≤ c.lps.length ∧ c.lps.length ≤ 8
  progs : c.progs.length ≤ 8
  lp : ∀ l ∈ c.lps, l.length ≤ 8
  cap : 1 ≤ c.cap ∧ c.cap ≤ 64
  fin : 0 ≤ c.fin ∧ c.fin ≤ 1152921504606846976
  look : 1 ≤ c.look
  prog : ∀ p ∈ c.progs, 1 ≤ p.length ∧ p.length ≤ 16 ∧ ∀ op ∈ p, OpFull c p op
  start : ∀ l ∈ c.lps, ∀ s ∈ l, 0 ≤ s.prog ∧ s.prog < c.progs.length ∧ 0 ≤ s.time ∧ s.time ≤ 1152921504606846976
theorem q6n {c : Cfg} {p : List OpI} (h : qpf p c.progs.length c.lps.length c.look = 0) : 1 ≤ p.length ∧ p.length ≤ 16 ∧ ∀ op ∈ p, OpFull c p op := by
  obtain ⟨h1, h2, h3, h4⟩ := q2p h
  simp only [qqj, Bool.and_eq_true, decide_eq_true_eq, List.all_eq_true] at h1 h2 h3 h4
  obtain ⟨⟨h5, h6⟩, h7⟩ := h1
  refine ⟨h5, h6, fun op ho => ?_⟩
  have g1 := h7 op ho
  have g2 := h2 op ho
  have g3 := h3 op ho
  have g4 := h4 op ho
  simp only [q2d, Bool.and_eq_true, decide_eq_true_eq] at g1
  simp only [q8m, qqc, Bool.not_eq_true', Bool.and_eq_false_iff, decide_eq_false_iff_not] at g3 g4
  unfold qzd at g2
  refine ⟨⟨by omega, by omega⟩, ?_, ?_, ?_, ?_, ?_, ?_⟩
  · intro k; rw [if_pos k] at g2
    simp only [Bool.and_eq_true, qqq, decide_eq_true_eq] at g2; exact g2.1
  · intro k
    rw [if_neg (by omega), if_pos k] at g2
    simp only [Bool.and_eq_true, qqq, decide_eq_true_eq] at g2
    refine ⟨g2.1, ?_, g2.2.2.1, g2.2.2.2, ?_⟩
    · rcases g3 with g3 | g3
      · exact absurd k g3
      · omega
    · rcases g4 with g4 | g4
      · exact absurd k g4
      · omega
  · intro k
    rw [if_neg (by omega), if_neg (by omega), if_pos k] at g2
    simp only [Bool.and_eq_true, qqq, decide_eq_true_eq] at g2
    exact ⟨g2.1.1, g2.1.2, g2.2.1, g2.2.2.1⟩
  · intro k
    rw [if_neg (by omega), if_neg (by omega), if_neg (by omega), if_pos k] at g2
    simp only [Bool.and_eq_true, qqq, decide_eq_true_eq] at g2
    exact ⟨g2.1, g2.2.1, g2.2.2.1.1, g2.2.2.1.2⟩
  · rintro (k | k)
    · rw [if_neg (by omega), if_neg (by omega), if_neg (by omega), if_neg (by omega), if_pos k] at g2
      simp only [Bool.and_eq_true, decide_eq_true_eq] at g2
      obtain ⟨q1, q2, _⟩ := g2
      omega
    · rw [if_neg (by omega), if_neg (by omega), if_neg (by omega), if_neg (by omega), if_neg (by omega), if_pos k] at g2
      simp only [Bool.and_eq_true, decide_eq_true_eq] at g2
      obtain ⟨q1, q2, _⟩ := g2
      omega
  · intro k
    rw [if_neg (by omega), if_neg (by omega), if_neg (by omega), if_neg (by omega), if_neg (by omega), if_pos k] at g2
    simp only [Bool.and_eq_true, decide_eq_true_eq] at g2
    exact ⟨g2.2.2.2.1, g2.2.2.2.2⟩
theorem valid_of {c : Cfg} (h : q5l c = 0) : Valid c := by
  unfold q5l at h
  cases h1 : qsf c with
  | false => rw [if_pos h1] at h; cases h
  | true =>
    rw [if_neg (by simp [h1])] at h
    by_cases h2 : c.look < 1
    · rw [if_pos h2] at h; cases h
    rw [if_neg h2] at h
    by_cases h3 : qrp (qsr c) c.progs ≠ 0
    · rw [if_pos h3] at h; exact absurd h h3
    rw [if_neg h3] at h
    have h4 := qse.1 (Decidable.of_not_not h3)
    have h5 := qse.1 h
    simp only [qsf, Bool.and_eq_true, decide_eq_true_eq, List.all_eq_true] at h1
    obtain ⟨⟨s1, s2, s3⟩, s4, s5⟩ := h1
    refine ⟨⟨s1, s2⟩, s3, fun l hl => by have := s4 l hl; simp [len8] at this; omega, ⟨s5.1, s5.2.1⟩, ⟨s5.2.2.1, s5.2.2.2⟩, by omega, fun p hp => q6n (h4 p hp), fun l hl s hs => ?_⟩
    have h6 := qse.1 (h5 l hl) s hs
    unfold qky at h6
    split at h6
    · cases h6
    split at h6
    · cases h6
    · omega
def qpb (t0 : List Int) (x : Ex) (g : List Int) : Prop := g.length ≤ 40000 ∧ (x.over = true ∨ g = t0 ∨ ∃ ev ∈ x.out, ev.kind = 2 ∧ ev.key = g)
structure EvOk (c : Cfg) (e : Evt) (x : Ex) (k : Nat) (ev : Evt) : Prop where
  time : e.time < ev.time ∧ ev.time ≤ 1152921504606846976
  key : ∃ m : Int, ev.key = e.key ++ [m] ∧ (k : Int) ≤ m ∧ m < x.n
  msg : ev.kind = 3 → 0 ≤ ev.lp ∧ ev.lp < c.lps.length ∧ e.time + c.look ≤ ev.time ∧ c.look ≤ 1099511627776
  own : ev.kind ≠ 3 → ev.lp = e.lp ∧ 0 ≤ ev.proc ∧ ev.proc < x.procs.length ∧ (ev.kind = 1 ∨ ev.kind = 2)
structure EInv (c : Cfg) (e : Evt) (i : Nat) (X : List Pr) (pr : Int) (p : List OpI) (t0 : List Int) (n : Nat) (x : Ex) : Prop where
  ev : x.ev = e
  len : X.length ≤ x.procs.length ∧ x.procs.length ≤ 8
  own : ∃ q, x.procs[i]? = some q ∧ q.prog = pr ∧ 0 ≤ q.pc ∧ q.pc ≤ p.length ∧ (q.timer = [] ∨ qpb t0 x q.timer)
  old : ∀ j, j ≠ i → j < X.length → x.procs[j]? = X[j]?
  new : ∀ j q, X.length ≤ j → x.procs[j]? = some q → q.alive = true ∧ q.pc = 0 ∧ q.timer = [] ∧ 0 ≤ q.prog ∧ q.prog < c.progs.length
  cnt : 0 ≤ x.n ∧ x.n ≤ n ∧ (x.out.length : Int) ≤ x.n
  outs : ∀ k ev, x.out[k]? = some ev → EvOk c e x k ev
  inc : ∀ k ev ev', x.out[k]? = some ev → x.out[k + 1]? = some ev' → ∃ m m', ev.key = e.key ++ [m] ∧ ev'.key = e.key ++ [m'] ∧ m < m'
  gone : ∀ g ∈ x.gone, qpb t0 x g
section
variable {c : Cfg} {e : Evt} {i : Nat} {X : List Pr} {pr : Int} {p : List OpI} {t0 : List Int} {n : Nat} {x : Ex}
theorem EInv.lt (h : EInv c e i X pr p t0 n x) : i < x.procs.length := by
  obtain ⟨q, h1, _⟩ := h.own; exact (List.getElem?_eq_some_iff.1 h1).1
theorem EInv.more (h : EInv c e i X pr p t0 n x) : EInv c e i X pr p t0 (n + 1) x :=
  ⟨h.ev, h.len, h.own, h.old, h.new, by have := h.cnt; omega, h.outs, h.inc, h.gone⟩
theorem EInv.setP (h : EInv c e i X pr p t0 n x) (hiX : i < X.length) {q : Pr} (h1 : q.prog = pr) (h2 : 0 ≤ q.pc ∧ q.pc ≤ p.length) (h3 : q.timer = [] ∨ qpb t0 x q.timer) : EInv c e i X pr p t0 n (x.setP i q) := by
  have hlt := h.lt
  refine ⟨h.ev, by simp only [Ex.setP, List.length_set]; exact h.len, ⟨q, by simp only [Ex.setP]; rw [List.getElem?_set_self hlt], h1, h2.1, h2.2, h3⟩, ?_, ?_, h.cnt, ?_, h.inc, h.gone⟩
  · intro j hj hl; simp only [Ex.setP]; rw [List.getElem?_set_ne (Ne.symm hj)]; exact h.old j hj hl
  · intro j q' hl hq; simp only [Ex.setP] at hq; rw [List.getElem?_set_ne (by omega)] at hq; exact h.new j q' hl hq
  · intro k ev hk
    obtain ⟨a, b, d, f⟩ := h.outs k ev hk
    exact ⟨a, b, d, by simpa only [Ex.setP, List.length_set] using f⟩
theorem EInv.push (h : EInv c e i X pr p t0 n x) {g : List Int} (hg : qpb t0 x g) : EInv c e i X pr p t0 n { x with gone := x.gone ++ [g] } := by
  refine ⟨h.ev, h.len, h.own, h.old, h.new, h.cnt, fun k ev hk => ?_, h.inc, ?_⟩
  · obtain ⟨a, b, d, f⟩ := h.outs k ev hk; exact ⟨a, b, d, f⟩
  · intro g' hg'
    rcases List.mem_append.1 hg' with hg' | hg'
    · exact h.gone g' hg'
    · simp at hg'; subst hg'; exact hg
theorem EInv.reg (h : EInv c e i X pr p t0 n x) (k v : Int) : EInv c e i X pr p t0 n (x.setReg k v) := by
  unfold Ex.setReg
  split
  · exact ⟨h.ev, h.len, h.own, h.old, h.new, h.cnt, fun k ev hk => by obtain ⟨a, b, d, f⟩ := h.outs k ev hk; exact ⟨a, b, d, f⟩, h.inc, h.gone⟩
  · exact ⟨h.ev, h.len, h.own, h.old, h.new, h.cnt, fun k ev hk => by obtain ⟨a, b, d, f⟩ := h.outs k ev hk; exact ⟨a, b, d, f⟩, h.inc, h.gone⟩
theorem EInv.spawn (h : EInv c e i X pr p t0 n x) (hiX : i < X.length) (hl : x.procs.length < 8) {a : Int} (ha : 0 ≤ a ∧ a < c.progs.length) : EInv c e i X pr p t0 n { x with procs := x.procs ++ [⟨a, 0, true, []⟩] } := by
  have hlt := h.lt
  have hln := h.len
  refine ⟨h.ev, by simp; omega, ?_, ?_, ?_, h.cnt, ?_, h.inc, h.gone⟩
  · obtain ⟨q, h1, h2⟩ := h.own
    exact ⟨q, by show (x.procs ++ _)[i]? = _; rw [List.getElem?_append_left hlt]; exact h1, h2⟩
  · intro j hj hl'; show (x.procs ++ _)[j]? = _; rw [List.getElem?_append_left (by omega)]; exact h.old j hj hl'
  · intro j q hj hq
    change (x.procs ++ [⟨a, 0, true, []⟩])[j]? = some q at hq
    by_cases hjl : j < x.procs.length
    · rw [List.getElem?_append_left hjl] at hq; exact h.new j q hj hq
    · have hj2 := (List.getElem?_eq_some_iff.1 hq).1
      simp at hj2
      have hje : j = x.procs.length := by omega
      subst hje
      simp at hq
      subst hq
      exact ⟨rfl, rfl, rfl, ha⟩
  · intro k ev hk
    obtain ⟨a, b, d, f⟩ := h.outs k ev hk
    exact ⟨a, b, d, fun hk' => by obtain ⟨f1, f2, f3, f4⟩ := f hk'; exact ⟨f1, f2, by simp; omega, f4⟩⟩
theorem create_over {d : Int} {s : Evt} (h : x.over = true) : (x.create d s).over = true := by unfold Ex.create; simp only; split <;> first | rfl | exact h
theorem q5v {d : Int} {s ev : Evt} (h : ev ∈ x.out) : ev ∈ (x.create d s).out := by unfold Ex.create; simp only; split <;> first | exact h | exact List.mem_append_left _ h
theorem qpb.create {g : List Int} (h : qpb t0 x g) (d : Int) (s : Evt) : qpb t0 (x.create d s) g := by
  refine ⟨h.1, ?_⟩
  rcases h.2 with h | h | ⟨ev, h1, h2⟩
  · exact .inl (create_over h)
  · exact .inr (.inl h)
  · exact .inr (.inr ⟨ev, q5v h1, h2⟩)
theorem EInv.create (h : EInv c e i X pr p t0 n x) (hn : n ≤ 90) (he : 0 ≤ e.time ∧ e.time ≤ 1152921504606846976) (hk : e.key.length ≤ 30000) {d : Int} (hd : 1 ≤ d ∧ d ≤ 1099511627776) {s : Evt}
    (hm : s.kind = 3 → 0 ≤ s.lp ∧ s.lp < c.lps.length ∧ c.look ≤ d) (ho : s.kind ≠ 3 → s.lp = e.lp ∧ 0 ≤ s.proc ∧ s.proc < x.procs.length ∧ (s.kind = 1 ∨ s.kind = 2)) :
    EInv c e i X pr p t0 (n + 1) (x.create d s) ∧ (s.kind = 2 → qpb t0 (x.create d s) x.kid) := by
  obtain ⟨c1, c2, c3⟩ := h.cnt
  have hw : w64 (x.n + 1) = x.n + 1 := qas (by omega) (by omega)
  have ht : w64 (x.ev.time + d) = e.time + d := by rw [h.ev]; exact qas (by omega) (by omega)
  have hown : ∃ q, (x.create d s).procs[i]? = some q ∧ q.prog = pr ∧ 0 ≤ q.pc ∧ q.pc ≤ p.length ∧ (q.timer = [] ∨ qpb t0 (x.create d s) q.timer) := by
    obtain ⟨q, h1, h2, h3, h4, h5⟩ := h.own
    exact ⟨q, h1, h2, h3, h4, h5.imp id fun g => g.create d s⟩
  have hgone : ∀ g ∈ (x.create d s).gone, qpb t0 (x.create d s) g := fun g hg => (h.gone g hg).create d s
  have hkid : x.kid.length ≤ 40000 := by unfold Ex.kid; rw [h.ev]; simp; omega
  by_cases hov : e.time + d > 1152921504606846976
  · have hx : x.create d s = { x with n := x.n + 1, over := true } := by unfold Ex.create; rw [hw, ht, if_pos hov, if_pos hov]
    rw [hx] at hown hgone ⊢
    refine ⟨⟨h.ev, h.len, hown, h.old, h.new, ⟨by show 0 ≤ x.n + 1; omega, by show x.n + 1 ≤ ((n + 1 : Nat) : Int); omega, by show (x.out.length : Int) ≤ x.n + 1; omega⟩, fun k ev hk' => ?_, h.inc, hgone⟩, fun _ => ⟨hkid, .inl rfl⟩⟩
    obtain ⟨a, ⟨m, b1, b2, b3⟩, d, f⟩ := h.outs k ev hk'
    exact ⟨a, ⟨m, b1, b2, by show m < x.n + 1; omega⟩, d, f⟩
  · have hx : x.create d s = { x with n := x.n + 1, out := x.out ++ [⟨e.time + d, e.key ++ [x.n], s.lp, s.kind, s.proc, s.arg⟩] } := by unfold Ex.create Ex.kid; rw [hw, ht, if_neg hov, if_neg hov, h.ev]
    rw [hx] at hown hgone ⊢
    refine ⟨⟨h.ev, h.len, hown, h.old, h.new, ⟨by show 0 ≤ x.n + 1; omega, by show x.n + 1 ≤ ((n + 1 : Nat) : Int); omega, by show ((x.out ++ _).length : Int) ≤ x.n + 1; simp; omega⟩, fun k ev hk' => ?_, ?_, hgone⟩, fun hs => ⟨hkid, .inr (.inr ⟨_, List.mem_append_right _ (List.mem_singleton.2 rfl), hs, by unfold Ex.kid; rw [h.ev]⟩)⟩⟩
    · change (x.out ++ [_])[k]? = some ev at hk'
      by_cases hkl : k < x.out.length
      · rw [List.getElem?_append_left hkl] at hk'
        obtain ⟨a, ⟨m, b1, b2, b3⟩, d, f⟩ := h.outs k ev hk'
        exact ⟨a, ⟨m, b1, b2, by show m < x.n + 1; omega⟩, d, f⟩
      · have hk2 := (List.getElem?_eq_some_iff.1 hk').1
        simp at hk2
        have hke : k = x.out.length := by omega
        subst hke
        simp at hk'
        subst hk'
        refine ⟨⟨by show e.time < e.time + d; omega, by show e.time + d ≤ _; omega⟩, ⟨x.n, rfl, c3, by show x.n < x.n + 1; omega⟩, fun hs => ?_, fun hs => ho hs⟩
        obtain ⟨m1, m2, m3⟩ := hm hs
        exact ⟨m1, m2, by show e.time + c.look ≤ e.time + d; omega, by omega⟩
    · intro k ev ev' h1 h2
      change (x.out ++ [_])[k]? = some ev at h1
      change (x.out ++ [_])[k + 1]? = some ev' at h2
      have hk2 := (List.getElem?_eq_some_iff.1 h2).1
      simp at hk2
      rw [List.getElem?_append_left (by omega)] at h1
      by_cases hkl : k + 1 < x.out.length
      · rw [List.getElem?_append_left hkl] at h2; exact h.inc k ev ev' h1 h2
      · have hke : k + 1 = x.out.length := by omega
        rw [hke] at h2
        simp at h2
        subst h2
        obtain ⟨m, b1, b2, b3⟩ := (h.outs k ev h1).key
        exact ⟨m, x.n, b1, rfl, b3⟩
theorem EInv.stop (h : EInv c e i X pr p t0 n x) (hiX : i < X.length) {q : Pr} (hq : x.procs[i]? = some q) : EInv c e i X pr p t0 n (x.stopE i q) := by
  obtain ⟨q', h1, h2, h3, h4, h5⟩ := h.own
  rw [hq] at h1; cases h1
  unfold Ex.stopE
  split
  next hl =>
    have hg : qpb t0 x q.timer := by
      rcases h5 with h5 | h5
      · rw [h5] at hl; simp at hl
      · exact h5
    exact (h.push hg).setP (q := { q with timer := [] }) hiX h2 ⟨h3, h4⟩ (.inl rfl)
  next => exact h
theorem EInv.step (h : EInv c e i X pr p t0 n x) (hiX : i < X.length) (hn : n ≤ 90) (he : 0 ≤ e.time ∧ e.time ≤ 1152921504606846976) (hk : e.key.length ≤ 30000) (hpr : e.proc = i) {q : Pr} (hq : x.procs[i]? = some q) {op : OpI} (ho : OpFull c p op) :
    EInv c e i X pr p t0 (n + 1) (qc4 x i q op).1 := by
  have hlt := h.lt
  obtain ⟨q', h1, h2, h3, h4, h5⟩ := h.own
  rw [hq] at h1; cases h1
  unfold qc4
  split
  next k => exact (h.create hn he hk (ho.hold k) (fun hs => absurd hs (by show ¬ (1 : Int) = 3; decide)) (fun _ => ⟨by show x.ev.lp = e.lp; rw [h.ev], by show 0 ≤ x.ev.proc; rw [h.ev, hpr]; omega, by show x.ev.proc < _; rw [h.ev, hpr]; omega, .inl rfl⟩)).1
  split
  next k =>
    obtain ⟨s1, s2, s3, s4, s5⟩ := ho.send k
    exact (h.create hn he hk ⟨s3, s4⟩ (s := ⟨0, [], op.a, 3, 0, op.b⟩) (fun _ => ⟨s1, s2, s5⟩) (fun hs => absurd rfl hs)).1
  split
  next k =>
    obtain ⟨s1, s2, s3, s4⟩ := ho.timer k
    have hst := h.stop hiX hq
    obtain ⟨g1, g2⟩ := hst.create hn he hk ⟨s1, s2⟩ (s := x.ownE 2 x.ev.proc op.b) (fun hs => absurd hs (by show ¬ (2 : Int) = 3; decide)) (fun _ => ⟨by show x.ev.lp = e.lp; rw [h.ev], by show 0 ≤ x.ev.proc; rw [h.ev, hpr]; omega, by show x.ev.proc < _; rw [h.ev, hpr]; have := hst.lt; omega, .inr rfl⟩)
    exact g1.setP (q := { q with timer := (x.stopE i q).kid }) hiX h2 ⟨h3, h4⟩ (.inr (g2 rfl))
  split
  next k => exact (h.stop hiX hq).more
  split
  next k =>
    obtain ⟨s1, s2, s3, s4⟩ := ho.spawn k
    unfold Ex.spawnE
    split
    next hl => exact ((h.spawn hiX hl ⟨s1, s2⟩).create hn he hk ⟨s3, s4⟩ (s := x.ownE 1 x.procs.length 0) (fun hs => absurd hs (by show ¬ (1 : Int) = 3; decide)) (fun _ => ⟨by show x.ev.lp = e.lp; rw [h.ev], by show (0 : Int) ≤ (x.procs.length : Int); omega, by show (x.procs.length : Int) < _; simp; omega, .inl rfl⟩)).1
    next => exact h.more
  split
  next k => exact (h.reg _ _).more
  split
  next k =>
    obtain ⟨s1, s2⟩ := ho.to k
    split
    · exact (h.setP (q := { q with pc := op.c }) hiX h2 ⟨s1, by show op.c ≤ _; omega⟩ h5).more
    · exact h.more
  next => exact h.more
theorem EInv.kill (h : EInv c e i X pr p t0 n x) (hiX : i < X.length) : EInv c e i X pr p t0 n (qk2 x i) := by
  obtain ⟨q, h1, h2, h3, h4, h5⟩ := h.own
  unfold qk2; rw [h1]
  exact h.setP (q := { q with alive := false }) hiX h2 ⟨h3, h4⟩ h5
theorem EInv.stepR (h : EInv c e i X pr p t0 n x) (hiX : i < X.length) (hn : n ≤ 90) (he : 0 ≤ e.time ∧ e.time ≤ 1152921504606846976) (hk : e.key.length ≤ 30000) (hpl : p.length ≤ 1000) (hpr : e.proc = i) {q : Pr} (hq : x.procs[i]? = some q) {op : OpI} (hop : p[q.pc.toNat]? = some op) (ho : OpFull c p op) :
    EInv c e i X pr p t0 (n + 1) (stepR x i q op).1 := by
  have hlt := h.lt
  obtain ⟨q', h1, h2, h3, h4, h5⟩ := h.own
  rw [hq] at h1; cases h1
  have hpc := (List.getElem?_eq_some_iff.1 hop).1
  have hw : w64 (q.pc + 1) = q.pc + 1 := qas (by omega) (by omega)
  have hz := h.setP (q := q.inc) hiX h2 ⟨by show 0 ≤ w64 (q.pc + 1); rw [hw]; omega, by show w64 (q.pc + 1) ≤ _; rw [hw]; omega⟩ h5
  have hzq : (x.setP i q.inc).procs[i]? = some q.inc := by simp only [Ex.setP]; rw [List.getElem?_set_self hlt]
  have hs := hz.step hiX hn he hk hpr hzq ho
  unfold K.stepR
  split
  · exact hs
  split
  · exact hs.kill hiX
  · exact hs
theorem EInv.act (hiX : i < X.length) (he : 0 ≤ e.time ∧ e.time ≤ 1152921504606846976) (hk : e.key.length ≤ 30000) (hpl : p.length ≤ 1000) (hpr : e.proc = i) (ho : ∀ op ∈ p, OpFull c p op) :
    ∀ (m n : Nat) (x : Ex), n + m ≤ 90 → EInv c e i X pr p t0 n x → EInv c e i X pr p t0 (n + m) (qkg p i m x)
  | 0, n, x, _, h => h.kill hiX
  | m + 1, n, x, hnm, h => by
    obtain ⟨q, h1, h2⟩ := h.own
    have mono : ∀ {k : Nat} {y : Ex}, EInv c e i X pr p t0 k y → ∀ l, k ≤ l → EInv c e i X pr p t0 l y := by
      intro k y hy l hl
      exact ⟨hy.ev, hy.len, hy.own, hy.old, hy.new, by have := hy.cnt; omega, hy.outs, hy.inc, hy.gone⟩
    rw [qwq p i m x q h1]
    cases hop : p[q.pc.toNat]? with
    | none => exact mono (h.kill hiX) _ (by omega)
    | some op =>
      have hs := h.stepR hiX (by omega) he hk hpl hpr h1 hop (ho op (List.mem_of_getElem? hop))
      simp only
      split
      · exact mono hs _ (by omega)
      · have := EInv.act hiX he hk hpl hpr ho m (n + 1) _ (by omega) hs
        rw [show n + (m + 1) = n + 1 + m from by omega]; exact this
end
set_option maxRecDepth 10000
def badP (c : Cfg) (q : Pr) : Bool := !(decide (0 ≤ q.prog) && (decide (q.prog < c.progs.length) && (decide (0 ≤ q.pc) && decide (q.pc ≤ (((c.progs[q.prog.toNat]?).getD []).length : Int)))))
theorem not_lt_zero {x : Int} (h : ¬ x < 0) : 0 ≤ x := by omega
set_option maxRecDepth 10000
set_option maxRecDepth 10000
structure Ready (c : Cfg) (x : Lp) (e : Evt) : Prop where
  valid : Valid c
  len : x.procs.length ≤ 8
  proc : ∀ q ∈ x.procs, 0 ≤ q.prog ∧ q.prog < c.progs.length ∧ 0 ≤ q.pc ∧ q.pc ≤ ((c.progs[q.prog.toNat]?).getD []).length ∧ q.timer.length ≤ 30000
  time : 0 ≤ e.time ∧ e.time ≤ 1152921504606846976
  key : e.key.length ≤ 30000
  arg : ∀ q, qlf x e = some q → e.kind = 2 → 0 ≤ e.arg ∧ e.arg ≤ ((c.progs[q.prog.toNat]?).getD []).length
theorem q7x {c : Cfg} {p : List OpI} {op : OpI} (h : OpFull c p op) (hp : p.length ≤ 16) : OpOk' op := ⟨h.code, h.reg, fun k => by have := h.to k; omega⟩
section
variable {c : Cfg} {x : Lp} {e : Evt}
theorem q1w {q : Pr} (h : qlf x e = some q) : (e.kind = 1 ∨ e.kind = 2) ∧ 0 ≤ e.proc ∧ x.procs[e.proc.toNat]? = some q ∧ q.alive = true := by
  unfold qlf at h
  split at h
  case isFalse => cases h
  rename_i hc
  rw [Option.bind_eq_some_iff] at h
  obtain ⟨q', hq, ha⟩ := h
  split at ha
  case isFalse => cases ha
  rename_i hal
  cases ha
  exact ⟨hc.1, hc.2, hq, hal⟩
theorem Ready.ops (h : Ready c x e) {p : List OpI} (hp : p ∈ c.progs) : p.length ≤ 16 ∧ ∀ op ∈ p, OpFull c p op := ⟨(h.valid.prog p hp).2.1, (h.valid.prog p hp).2.2⟩
theorem Ready.plen (h : Ready c x e) (k : Nat) : ((c.progs[k]?).getD []).length ≤ 16 := by
  cases hk : c.progs[k]? with
  | none => simp
  | some p => simpa using (h.ops (List.mem_of_getElem? hk)).1
theorem Ready.execOk (h : Ready c x e) {q : Pr} (ha : qlf x e = some q) : qth c x e :=
  ⟨by have := h.len; omega, by have := h.key; omega, fun q hq => by obtain ⟨a, b, d, f, g⟩ := h.proc q hq; have := h.plen q.prog.toNat; exact ⟨a, b, d, by omega, by omega⟩,
    fun p hp => ⟨by have := (h.ops hp).1; omega, fun op ho => q7x ((h.ops hp).2 op ho) (h.ops hp).1⟩, fun k => by have := h.arg q ha k; have := h.plen q.prog.toNat; omega⟩
theorem Ready.inv (h : Ready c x e) {q : Pr} (ha : qlf x e = some q) : ∃ (i : Nat) (p : List OpI), e.proc = i ∧ x.procs[i]? = some q ∧ p ∈ c.progs ∧ c.progs[q.prog.toNat]? = some p ∧ EInv c e i x.procs q.prog p q.timer 16 (qpe c x e q) := by
  obtain ⟨a1, a2, a3, a4⟩ := q1w ha
  obtain ⟨i, hi⟩ : ∃ i : Nat, e.proc = i := ⟨_, (Int.toNat_of_nonneg a2).symm⟩
  have hin : e.proc.toNat = i := by omega
  rw [hin] at a3
  obtain ⟨p1, p2, p3, p4, p5⟩ := h.proc q (List.mem_of_getElem? a3)
  obtain ⟨p, hp⟩ : ∃ p, c.progs[q.prog.toNat]? = some p := ⟨_, List.getElem?_eq_getElem (by omega)⟩
  have hpm := List.mem_of_getElem? hp
  have hlt := (List.getElem?_eq_some_iff.1 a3).1
  have hgd : ((c.progs[q.prog.toNat]?).getD []).length = p.length := by rw [hp]; rfl
  rw [hgd] at p4
  refine ⟨i, p, hi, a3, hpm, hp, ?_⟩
  have hrun : qpe c x e q = qkg p i 16 ((qcg x e).setP i (qii e q)) := by unfold qpe; rw [hin, hp]; rfl
  rw [hrun]
  have hg : q.timer = [] ∨ qpb q.timer (qcg x e) q.timer := .inr ⟨by omega, .inr (.inl rfl)⟩
  have h0 : EInv c e i x.procs q.prog p q.timer 0 (qcg x e) := by
    refine ⟨rfl, ⟨Nat.le_refl _, h.len⟩, ⟨q, a3, rfl, p3, p4, hg⟩, fun j _ _ => rfl, fun j q' hj hq' => ?_, ⟨Int.le_refl 0, Int.le_refl 0, Int.le_refl 0⟩, fun k ev hk => by simp [qcg] at hk, fun k ev ev' hk => by simp [qcg] at hk, fun g hg => by simp [qcg] at hg⟩
    have := (List.getElem?_eq_some_iff.1 hq').1
    change j < x.procs.length at this
    omega
  have h1 : EInv c e i x.procs q.prog p q.timer 0 ((qcg x e).setP i (qii e q)) := by
    refine h0.setP hlt (qw5 e q) ?_ ?_
    · unfold qii; split
      next k => have := h.arg q ha k; rw [hgd] at this; exact this
      next => exact ⟨p3, p4⟩
    · unfold qii; split
      · by_cases ht : q.timer = e.key
        · simp [ht]
        · simp only [ht, if_false]; exact hg
      · exact hg
  have := EInv.act hlt h.time (by have := h.key; omega) (by have := (h.ops hpm).1; omega) hi (h.ops hpm).2 16 0 _ (by omega) h1
  exact this
theorem ActInv.act {i : Nat} {p : List OpI} (hpl : p.length ≤ 1000) (ho : ∀ op ∈ p, OpOk' op) : ∀ (m n : Nat) (y : Ex), ActInv e i n y → ActInv e i (n + m) (qkg p i m y)
  | 0, n, y, h => by
    obtain ⟨q, h1, h2⟩ := h.has
    show ActInv e i n (qk2 y i)
    unfold qk2; rw [h1]; exact h.pc h1 h2 false
  | m + 1, n, y, h => by
    have mono : ∀ {k : Nat} {z : Ex}, ActInv e i k z → ∀ l, k ≤ l → ActInv e i l z := fun hz l hl => ⟨hz.ev, hz.has, hz.procs, by have := hz.out; omega, by have := hz.gone; omega⟩
    obtain ⟨q, h1, h2⟩ := h.has
    rw [qwq p i m y q h1]
    cases hop : p[q.pc.toNat]? with
    | none =>
      refine mono (k := n) ?_ _ (by omega)
      show ActInv e i n (qk2 y i)
      unfold qk2; rw [h1]; exact h.pc h1 h2 false
    | some op =>
      have hlp := (List.getElem?_eq_some_iff.1 hop).1
      have hs := h.stepR h1 ⟨by omega, by omega⟩ (ho op (List.mem_of_getElem? hop))
      simp only
      split
      · exact mono hs _ (by omega)
      · have := ActInv.act hpl ho m (n + 1) _ hs
        rw [show n + (m + 1) = n + 1 + m from by omega]; exact this
theorem Ready.goneLen (h : Ready c x e) {q : Pr} (ha : qlf x e = some q) : (qpe c x e q).gone.length ≤ 16 := by
  obtain ⟨i, p, hi, hq, hpm, hp, _⟩ := h.inv ha
  have hin : e.proc.toNat = i := by omega
  have hrun : qpe c x e q = qkg p i 16 ((qcg x e).setP i (qii e q)) := by unfold qpe; rw [hin, hp]; rfl
  have h0 := qx2 c x e (h.execOk ha) hi hq
  have := ActInv.act (by have := (h.ops hpm).1; omega) (fun op ho => q7x ((h.ops hpm).2 op ho) (h.ops hpm).1) 16 0 _ h0
  rw [hrun]; have := this.gone; omega
structure XRes where
  lp : Lp
  out : List Evt
  gone : List (List Int)
  over : Bool
  nil : Bool
def qbf (c : Cfg) (x : Lp) (e : Evt) : XRes :=
  if e.kind = 3 then ⟨⟨x.r0, x.r1, x.procs, w64 (x.sum + e.arg)⟩, [], [], false, true⟩
  else match qlf x e with
    | none => ⟨x, [], [], false, true⟩
    | some q => ⟨q09 (qpe c x e q), (qpe c x e q).out, (qpe c x e q).gone, (qpe c x e q).over, false⟩
theorem Exec_ev (h : Ready c x e) : qa4 (evL T) qdr [(.agg [(.fsl ((c.lps).map lpC) false), (.fsl ((c.progs).map qce) false), (ii c.look), (ii c.fin), (ii c.cap)]), (.agg [(ii x.r0), (ii x.r1), (.fsl ((x.procs).map Pr.r) false), (ii x.sum)]), (.agg [(ii e.time), (.fsl ((e.key).map qby) false), (ii e.lp), (ii e.kind), (ii e.proc), (ii e.arg)])] = some (.tup [(.agg [(ii ((qbf c x e).lp.r0)), (ii ((qbf c x e).lp.r1)), (.fsl (((qbf c x e).lp.procs).map Pr.r) false), (ii ((qbf c x e).lp.sum))]), (.fsl (((qbf c x e).out).map Evt.r) (qbf c x e).nil), (.fsl (((qbf c x e).gone).map qep) (qbf c x e).nil), (bb ((qbf c x e).over))]) := by
  unfold qbf
  by_cases hk : e.kind = 3
  · rw [if_pos hk]; exact Exec_msg c x e hk
  rw [if_neg hk]
  cases ha : qlf x e with
  | none => exact q7u c x e hk ha
  | some q => exact Exec_run c x e (h.execOk ha) ha
theorem RExec_ev (h : Ready c x e) : qa4 (evL T) qex [(.agg [(.fsl ((c.lps).map lpC) false), (.fsl ((c.progs).map qce) false), (ii c.look), (ii c.fin), (ii c.cap)]), (.agg [(ii x.r0), (ii x.r1), (.fsl ((x.procs).map Pr.r) false), (ii x.sum)]), (.agg [(ii e.time), (.fsl ((e.key).map qby) false), (ii e.lp), (ii e.kind), (ii e.proc), (ii e.arg)])] = some (.tup [(.agg [(ii ((qbf c x e).lp.r0)), (ii ((qbf c x e).lp.r1)), (.fsl (((qbf c x e).lp.procs).map Pr.r) false), (ii ((qbf c x e).lp.sum))]), (.fsl (((qbf c x e).out).map Evt.r) (qbf c x e).nil), (.fsl (((qbf c x e).gone).map qep) (qbf c x e).nil), (bb ((qbf c x e).over))]) := by
  unfold qbf
  by_cases hk : e.kind = 3
  · rw [if_pos hk]; exact q8i c x e hk
  rw [if_neg hk]
  cases ha : qlf x e with
  | none => exact q5e c x e hk ha
  | some q => exact q69 c x e (h.execOk ha) ha
theorem Ready.sizes (h : Ready c x e) : (qbf c x e).lp.procs.length ≤ 8 ∧ (∀ q ∈ (qbf c x e).lp.procs, q.timer.length ≤ 40000) ∧ (qbf c x e).out.length ≤ 16 ∧ (∀ ev ∈ (qbf c x e).out, ev.key.length ≤ 40000) ∧ (∀ g ∈ (qbf c x e).gone, g.length ≤ 40000) ∧ (qbf c x e).gone.length ≤ 16 := by
  unfold qbf
  by_cases hk : e.kind = 3
  · rw [if_pos hk]
    exact ⟨h.len, fun q hq => by have := (h.proc q hq).2.2.2.2; omega, by simp, fun _ h => by simp at h, fun _ h => by simp at h, by simp⟩
  rw [if_neg hk]
  cases ha : qlf x e with
  | none => exact ⟨h.len, fun q hq => by have := (h.proc q hq).2.2.2.2; omega, by simp, fun _ h => by simp at h, fun _ h => by simp at h, by simp⟩
  | some q =>
    obtain ⟨i, p, hi, hq, hpm, hp, hI⟩ := h.inv ha
    refine ⟨hI.len.2, fun q' hq' => ?_, by have := hI.cnt; show (qpe c x e q).out.length ≤ 16; omega, fun ev hev => ?_, fun g hg => (hI.gone g hg).1, h.goneLen ha⟩
    · obtain ⟨j, hj⟩ := List.mem_iff_getElem?.1 hq'
      change (qpe c x e q).procs[j]? = some q' at hj
      by_cases hji : j = i
      · obtain ⟨q2, b1, _, _, _, b5⟩ := hI.own
        subst hji
        rw [hj] at b1; cases b1
        rcases b5 with b5 | b5
        · rw [b5]; simp
        · exact b5.1
      · by_cases hjl : j < x.procs.length
        · rw [hI.old j hji hjl] at hj
          have := (h.proc q' (List.mem_of_getElem? hj)).2.2.2.2; omega
        · rw [(hI.new j q' (by omega) hj).2.2.1]; simp
    · obtain ⟨k, hk'⟩ := List.mem_iff_getElem?.1 hev
      obtain ⟨m, hm, _⟩ := (hI.outs k ev hk').key
      rw [hm]; have := h.key; simp; omega
end
set_option maxRecDepth 10000
section
variable {c : Cfg} {x : Lp} {e : Evt}
theorem Ready.cases (h : Ready c x e) : (e.kind = 3 ∧ qbf c x e = ⟨⟨x.r0, x.r1, x.procs, w64 (x.sum + e.arg)⟩, [], [], false, true⟩) ∨ (¬ e.kind = 3 ∧ qlf x e = none ∧ qbf c x e = ⟨x, [], [], false, true⟩) ∨
    ∃ q, ¬ e.kind = 3 ∧ qlf x e = some q ∧ qbf c x e = ⟨q09 (qpe c x e q), (qpe c x e q).out, (qpe c x e q).gone, (qpe c x e q).over, false⟩ := by
  unfold qbf
  by_cases hk : e.kind = 3
  · exact .inl ⟨hk, if_pos hk⟩
  · rw [if_neg hk]
    cases ha : qlf x e with
    | none => exact .inr (.inl ⟨hk, rfl, rfl⟩)
    | some q => exact .inr (.inr ⟨q, hk, rfl, rfl⟩)
theorem Ready.outs (h : Ready c x e) : ∃ X : Ex, X.procs = (qbf c x e).lp.procs ∧ (∀ k ev, (qbf c x e).out[k]? = some ev → EvOk c e X k ev) ∧
    ∀ k ev ev', (qbf c x e).out[k]? = some ev → (qbf c x e).out[k + 1]? = some ev' → ∃ m m', ev.key = e.key ++ [m] ∧ ev'.key = e.key ++ [m'] ∧ m < m' := by
  rcases h.cases with ⟨_, hx⟩ | ⟨_, _, hx⟩ | ⟨q, _, ha, hx⟩
  · rw [hx]; exact ⟨qcg x e, rfl, fun k ev hk => by simp at hk, fun k ev ev' hk => by simp at hk⟩
  · rw [hx]; exact ⟨qcg x e, rfl, fun k ev hk => by simp at hk, fun k ev ev' hk => by simp at hk⟩
  · rw [hx]
    obtain ⟨i, p, hi, hq, hpm, hp, hI⟩ := h.inv ha
    exact ⟨qpe c x e q, rfl, hI.outs, hI.inc⟩
theorem Ready.state (h : Ready c x e) : x.procs.length ≤ (qbf c x e).lp.procs.length ∧ ∀ (j : Nat) (q' : Pr), (qbf c x e).lp.procs[j]? = some q' →
    (badP c q' = false ∧ (x.procs.length ≤ j → q'.alive = true ∧ q'.pc = 0) ∧ ∀ q, x.procs[j]? = some q → q'.prog = q.prog ∧ ((j : Int) ≠ e.proc → q' = q)) := by
  have old : ∀ q ∈ x.procs, badP c q = false := by
    intro q hq
    obtain ⟨a, b, d, f, g⟩ := h.proc q hq
    simp only [badP, a, b, d, f, decide_true, zfc, Bool.not_true]
  rcases h.cases with ⟨_, hx⟩ | ⟨_, _, hx⟩ | ⟨q0, _, ha, hx⟩
  · rw [hx]
    refine ⟨Nat.le_refl _, fun j q' hj => ⟨old q' (List.mem_of_getElem? hj), fun hl => ?_, fun q hq => ?_⟩⟩
    · have := (List.getElem?_eq_some_iff.1 hj).1; simp only at this; omega
    · simp only at hj; rw [hq] at hj; cases hj; exact ⟨rfl, fun _ => rfl⟩
  · rw [hx]
    refine ⟨Nat.le_refl _, fun j q' hj => ⟨old q' (List.mem_of_getElem? hj), fun hl => ?_, fun q hq => ?_⟩⟩
    · have := (List.getElem?_eq_some_iff.1 hj).1; simp only at this; omega
    · simp only at hj; rw [hq] at hj; cases hj; exact ⟨rfl, fun _ => rfl⟩
  · rw [hx]
    obtain ⟨i, p, hi, hq0, hpm, hp, hI⟩ := h.inv ha
    have hlt := (List.getElem?_eq_some_iff.1 hq0).1
    obtain ⟨p1, p2, p3, p4, p5⟩ := h.proc q0 (List.mem_of_getElem? hq0)
    refine ⟨hI.len.1, fun j q' hj => ?_⟩
    change (qpe c x e q0).procs[j]? = some q' at hj
    by_cases hji : j = i
    · subst hji
      obtain ⟨q2, b1, b2, b3, b4, b5⟩ := hI.own
      rw [hj] at b1; cases b1
      refine ⟨?_, fun hl => by omega, fun q hq => ?_⟩
      · simp only [badP, b2, b3, b4, hp, p1, p2, Option.getD_some, decide_true, zfc, Bool.not_true]
      · rw [hq0] at hq; cases hq; exact ⟨b2, fun hne => absurd hi.symm hne⟩
    · by_cases hjl : j < x.procs.length
      · rw [hI.old j hji hjl] at hj
        refine ⟨old q' (List.mem_of_getElem? hj), fun hl => by omega, fun q hq => ?_⟩
        rw [hq] at hj; cases hj; exact ⟨rfl, fun _ => rfl⟩
      · obtain ⟨n1, n2, n3, n4, n5⟩ := hI.new j q' (by omega) hj
        refine ⟨?_, fun _ => ⟨n1, n2⟩, fun q hq => ?_⟩
        · simp [badP, n2, n4, n5]
        · have := (List.getElem?_eq_some_iff.1 hq).1; omega
end
set_option maxRecDepth 10000
structure TOk (e : Evt) (L : Nat) (ev : Evt) : Prop where
  tim : ev.kind = 2 → ev.proc = e.proc ∧ 0 ≤ ev.arg ∧ ev.arg < L
  msg : ev.kind = 3 → ev.proc = 0
def qp8 (e : Evt) (L B : Nat) (x : Ex) : Prop := x.ev = e ∧ (∀ ev ∈ x.out, TOk e L ev) ∧ ∀ q ∈ x.procs, q.timer.length ≤ B
section
variable {e : Evt} {L B : Nat} {x : Ex}
theorem qp8.same (h : qp8 e L B x) {y : Ex} (h1 : y.ev = x.ev) (h2 : y.out = x.out) (h3 : y.procs = x.procs) : qp8 e L B y := ⟨by rw [h1]; exact h.1, by rw [h2]; exact h.2.1, by rw [h3]; exact h.2.2⟩
theorem qp8.setP (h : qp8 e L B x) (i : Nat) {q : Pr} (hq : q.timer.length ≤ B) : qp8 e L B (x.setP i q) := by
  refine ⟨h.1, h.2.1, fun q' hq' => ?_⟩
  rcases List.mem_or_eq_of_mem_set hq' with hq' | rfl
  · exact h.2.2 q' hq'
  · exact hq
theorem qp8.at (h : qp8 e L B x) {i : Nat} {q : Pr} (hq : x.procs[i]? = some q) : q.timer.length ≤ B := h.2.2 q (List.mem_of_getElem? hq)
theorem qp8.create (h : qp8 e L B x) (d : Int) {s : Evt} (hs : s.kind = 2 → s.proc = e.proc ∧ 0 ≤ s.arg ∧ s.arg < L) (hm : s.kind = 3 → s.proc = 0) : qp8 e L B (x.create d s) := by
  refine ⟨h.1, fun ev hev => ?_, h.2.2⟩
  unfold Ex.create at hev
  simp only at hev
  split at hev
  · exact h.2.1 ev hev
  · rcases List.mem_append.1 hev with hev | hev
    · exact h.2.1 ev hev
    · rw [List.mem_singleton] at hev; subst hev; exact ⟨hs, hm⟩
theorem qp8.stop (h : qp8 e L B x) (i : Nat) (q : Pr) : qp8 e L B (x.stopE i q) := by
  unfold Ex.stopE; split
  · exact qp8.same (h.setP i (q := { q with timer := [] }) (Nat.zero_le _)) rfl rfl rfl
  · exact h
theorem qp8.kill (h : qp8 e L B x) (i : Nat) : qp8 e L B (qk2 x i) := by
  unfold qk2; split
  next q hq => exact h.setP i (q := { q with alive := false }) (show q.timer.length ≤ B from h.at hq)
  · exact h
theorem qp8.step (h : qp8 e L B x) (i : Nat) (q : Pr) (op : OpI) (hq : q.timer.length ≤ B) (hB : e.key.length + 1 ≤ B) (ho : op.code = 3 → 0 ≤ op.b ∧ op.b < L) : qp8 e L B (qc4 x i q op).1 := by
  have he := h.1
  unfold qc4
  split
  · exact h.create _ (fun k => absurd k (by show ¬ (1 : Int) = 2; decide)) (fun k => absurd k (by show ¬ (1 : Int) = 3; decide))
  split
  · exact h.create _ (fun k => absurd k (by show ¬ (3 : Int) = 2; decide)) (fun _ => rfl)
  split
  next k =>
    show qp8 e L B (x.timerE i q op)
    unfold Ex.timerE
    refine qp8.setP ((h.stop i q).create op.a (s := x.ownE 2 x.ev.proc op.b) (fun _ => ⟨by show x.ev.proc = e.proc; rw [he], ho k⟩) (fun k => absurd k (by show ¬ (2 : Int) = 3; decide))) i ?_
    show (x.stopE i q).kid.length ≤ B
    unfold Ex.kid
    rw [(h.stop i q).1]; simp; exact hB
  split
  · exact h.stop i q
  split
  · show qp8 e L B (x.spawnE op)
    unfold Ex.spawnE; split
    · have h2 : qp8 e L B ({ x with procs := x.procs ++ [⟨op.a, 0, true, []⟩] } : Ex) := by
        refine ⟨h.1, h.2.1, fun q' hq' => ?_⟩
        rcases List.mem_append.1 hq' with hq' | hq'
        · exact h.2.2 q' hq'
        · rw [List.mem_singleton] at hq'; subst hq'; exact Nat.zero_le _
      exact h2.create _ (fun k => absurd k (by show ¬ (1 : Int) = 2; decide)) (fun k => absurd k (by show ¬ (1 : Int) = 3; decide))
    · exact h
  split
  · show qp8 e L B (x.setReg _ _)
    unfold Ex.setReg; split <;> exact h.same rfl rfl rfl
  split
  · show qp8 e L B (if _ then _ else _)
    split
    · exact h.setP i (q := { q with pc := op.c }) hq
    · exact h
  · exact h
theorem qp8.act {p : List OpI} (hB : e.key.length + 1 ≤ B) (ho : ∀ op ∈ p, op.code = 3 → 0 ≤ op.b ∧ op.b < L) (i : Nat) : ∀ (m : Nat) {x : Ex}, qp8 e L B x → qp8 e L B (qkg p i m x)
  | 0, x, h => h.kill i
  | m + 1, x, h => by
    unfold qkg
    split
    · exact h
    rename_i q hq
    split
    · exact h.kill i
    rename_i op hop
    have h0 : qp8 e L B (x.setP i { q with pc := w64 (q.pc + 1) }) := h.setP i (show q.timer.length ≤ B from h.at hq)
    have hs := h0.step i { q with pc := w64 (q.pc + 1) } op (show q.timer.length ≤ B from h.at hq) hB (ho op (List.mem_of_getElem? hop))
    split
    · exact hs
    split
    · exact hs.kill i
    · exact qp8.act hB ho i m hs
end
theorem Ready.tims {c : Cfg} {x : Lp} {e : Evt} (h : Ready c x e) {B : Nat} (hB : e.key.length + 1 ≤ B) (hx : ∀ q ∈ x.procs, q.timer.length ≤ B) : (∀ ev ∈ (qbf c x e).out, (ev.kind = 3 → ev.proc = 0) ∧ (ev.kind = 2 → ∃ q p, x.procs[e.proc.toNat]? = some q ∧ c.progs[q.prog.toNat]? = some p ∧ ev.proc = e.proc ∧ 0 ≤ ev.arg ∧ ev.arg < p.length)) ∧ ∀ q ∈ (qbf c x e).lp.procs, q.timer.length ≤ B := by
  rcases h.cases with ⟨_, hx'⟩ | ⟨_, _, hx'⟩ | ⟨q, _, ha, hx'⟩
  · rw [hx']; exact ⟨fun ev hev => by simp at hev, hx⟩
  · rw [hx']; exact ⟨fun ev hev => by simp at hev, hx⟩
  · rw [hx']
    obtain ⟨i, p, hi, hq, hpm, hp, _⟩ := h.inv ha
    have hw : (qii e q).timer.length ≤ B := by
      have := hx q (List.mem_of_getElem? hq)
      unfold qii; split
      · show (if q.timer = e.key then [] else q.timer).length ≤ B
        split
        · exact Nat.zero_le _
        · exact this
      · exact this
    have h0 : qp8 e p.length B (qcg x e) := ⟨rfl, fun ev hev => (by cases hev), hx⟩
    have hT : qp8 e p.length B (qpe c x e q) := by
      unfold qpe
      rw [hp]
      exact qp8.act hB (fun op ho k => by have := ((h.ops hpm).2 op ho).timer k; exact ⟨this.2.2.1, this.2.2.2⟩) _ 16 (h0.setP e.proc.toNat hw)
    refine ⟨fun ev hev => ?_, hT.2.2⟩
    have := hT.2.1 ev hev
    exact ⟨this.msg, fun k => ⟨q, p, by rw [hi, Int.toNat_natCast]; exact hq, hp, this.tim k⟩⟩
set_option maxRecDepth 10000
def qiv (k i : Nat) (s : Start) : Evt := ⟨s.time, [(k : Int), (i : Int)], k, 1, i, 0⟩
def qjy (k : Nat) (l : List Start) : List Evt := l.mapIdx (fun i s => qiv k i s)
def qjq (lps : List (List Start)) : List Evt := (lps.mapIdx (fun k l => qjy k l)).flatten
theorem q3u (k : Nat) (l : List Start) (s : Start) : qjy k (l ++ [s]) = qjy k l ++ [qiv k l.length s] := by simp [qjy, List.mapIdx_append]
theorem q5b (lps : List (List Start)) (l : List Start) : qjq (lps ++ [l]) = qjq lps ++ qjy lps.length l := by simp [qjq, List.mapIdx_append]
theorem qzg (k : Nat) (l : List Start) : (qjy k l).length = l.length := by simp [qjy]
theorem qod {k : Nat} {l : List Start} {x : Evt} (h : x ∈ qjy k l) : ∃ i s, l[i]? = some s ∧ x = qiv k i s := by
  simp only [qjy] at h
  obtain ⟨i, hi⟩ := List.mem_iff_getElem?.1 h
  rw [List.getElem?_mapIdx] at hi
  cases hl : l[i]? with
  | none => rw [hl] at hi; cases hi
  | some s => rw [hl] at hi; cases hi; exact ⟨i, s, hl, rfl⟩
theorem qso {lps : List (List Start)} {x : Evt} (h : x ∈ qjq lps) : ∃ k l i s, lps[k]? = some l ∧ l[i]? = some s ∧ x = qiv k i s := by
  simp only [qjq, List.mem_flatten] at h
  obtain ⟨r, hr, hx⟩ := h
  obtain ⟨k, hk⟩ := List.mem_iff_getElem?.1 hr
  rw [List.getElem?_mapIdx] at hk
  cases hl : lps[k]? with
  | none => rw [hl] at hk; cases hk
  | some l =>
    rw [hl] at hk; cases hk
    obtain ⟨i, s, h1, h2⟩ := qod hx
    exact ⟨k, l, i, s, hl, h1, h2⟩
theorem q5o (lps : List (List Start)) : qic (qjq lps) := by
  intro x hx
  obtain ⟨k, l, i, s, _, _, rfl⟩ := qso hx
  simp [qiv]
theorem q2c {k k' i i' : Nat} {s s' : Start} (h : qsl (qiv k i s) (qiv k' i' s') = 0) : k = k' ∧ i = i' := by
  have := ((q1m _ _).1 h).2
  simp only [qiv, List.cons.injEq, and_true] at this
  omega
theorem q45 (lps : List (List Start)) : qvd (qjq lps) := by
  unfold qvd qjq
  rw [List.pairwise_flatten]
  constructor
  · intro r hr
    obtain ⟨k, hk⟩ := List.mem_iff_getElem?.1 hr
    rw [List.getElem?_mapIdx] at hk
    cases hl : lps[k]? with
    | none => rw [hl] at hk; cases hk
    | some l =>
      rw [hl] at hk; cases hk
      rw [List.pairwise_iff_getElem]
      intro i j hi hj hij h
      simp only [qjy, List.getElem_mapIdx] at h
      have := (q2c h).2; omega
  · rw [List.pairwise_iff_getElem]
    intro k k' hk hk' hkk x hx y hy h
    simp only [List.getElem_mapIdx] at hx hy
    obtain ⟨i, s, _, rfl⟩ := qod hx
    obtain ⟨i', s', _, rfl⟩ := qod hy
    have := (q2c h).1; omega
theorem q3b {k i : Nat} {l : List Start} {s : Start} (h : l[i]? = some s) : qjy k (l.take (i + 1)) = qjy k (l.take i) ++ [qiv k i s] := by
  have hi : i < l.length := (List.getElem?_eq_some_iff.1 h).1
  rw [qi4 h, q3u, List.length_take, Nat.min_eq_left (by omega)]
theorem qz0 {k : Nat} {lps : List (List Start)} {l : List Start} (h : lps[k]? = some l) : qjq (lps.take (k + 1)) = qjq (lps.take k) ++ qjy k l := by
  have hi : k < lps.length := (List.getElem?_eq_some_iff.1 h).1
  rw [qi4 h, q5b, List.length_take, Nat.min_eq_left (by omega)]
theorem q1p : ∀ {lps : List (List Start)} {m : Nat}, (∀ l ∈ lps, l.length ≤ m) → (qjq lps).length ≤ lps.length * m := by
  intro lps m h
  have : ∀ n, n ≤ lps.length → (qjq (lps.take n)).length ≤ n * m := by
    intro n
    induction n with
    | zero => intro _; simp [qjq]
    | succ n ih =>
      intro hn
      obtain ⟨l, hl⟩ : ∃ l, lps[n]? = some l := ⟨_, List.getElem?_eq_getElem (by omega)⟩
      rw [qz0 hl, List.length_append, qzg, Nat.succ_mul]
      have := ih (by omega)
      have := h l (List.mem_of_getElem? hl)
      omega
  have := this lps.length (Nat.le_refl _)
  rwa [List.take_length] at this
section
variable (c : Cfg)
theorem qu9 (out : List Evt) (e : List AV) : List.take out.length (out.map Evt.r) = out.map Evt.r ∧ List.take (out.length + 1) (out.map Evt.r ++ [e]) = out.map Evt.r ++ [e] := ⟨List.take_of_length_le (by simp), List.take_of_length_le (by simp)⟩
end
set_option maxRecDepth 10000
section
variable (c : Cfg)
structure Small12 (c : Cfg) : Prop where
  lps : c.lps.length ≤ 12
  lp : ∀ l ∈ c.lps, l.length ≤ 12
theorem Small12.len {c : Cfg} (h : Small12 c) (k : Nat) : (qjq (c.lps.take k)).length ≤ 144 := by
  have := q1p (lps := c.lps.take k) (m := 12) (fun l hl => h.lp l (List.mem_of_mem_take hl))
  have := List.length_take_le k c.lps
  have := List.length_take_le' k c.lps
  have := h.lps
  omega
end
set_option maxRecDepth 10000
def stP (s : Start) : Pr := ⟨s.prog, 0, true, []⟩
def stLp (ps : List Pr) : Lp × Bool := (⟨0, 0, ps, 0⟩, decide (ps = []))
def q2b (σ : qr) (lim : Nat) (row : List AV) (ps : List Pr) : Prop :=
  ps = [] ∧ row = [(ii 0), (ii 0), .fsl [] true, (ii 0)] ∨ ps ≠ [] ∧ ∃ o g, 0 < o ∧ o < lim ∧ row = [(ii 0), (ii 0), .sl o g 0 ps.length false, (ii 0)] ∧ σ[o]? = some (.row 4 (ps.map Pr.r) g)
theorem q2b.frz {σ : qr} {lim d : Nat} {row : List AV} {ps : List Pr} (h : q2b σ lim row ps) : qgn (Ev.frz σ (d + 1)) row = some (lpF (stLp ps)) := by
  rcases h with ⟨rfl, rfl⟩ | ⟨h1, o, g, _, _, rfl, h2⟩
  · rfl
  · have t1 : List.take ps.length (ps.map Pr.r) = ps.map Pr.r := List.take_of_length_le (by simp)
    simp only [qel, qgx, qhg, h2, t1, qe3, qae, lpF, stLp, h1, qbb, qx, qhg, qe3, qgx, qel, List.length_map, ↓qn, ↓reduceIte, List.drop_zero, decide_false, and_self, zfd, Nat.le_refl, eq_self]
def qkp (σ : qr) (lim : Nat) : List (List AV) → List (List Pr) → Prop
  | [], [] => True
  | r :: rs, p :: ps => q2b σ lim r p ∧ qkp σ lim rs ps
  | _, _ => False
theorem q2b.mono {σ σ' : qr} {lim lim' : Nat} {row : List AV} {ps : List Pr} (h : q2b σ lim row ps) (hl : lim ≤ lim') (hσ : ∀ o, 0 < o → o < lim → σ'[o]? = σ[o]?) : q2b σ' lim' row ps := by
  rcases h with h | ⟨h1, o, g, h2, h3, h4, h5⟩
  · exact .inl h
  · exact .inr ⟨h1, o, g, h2, by omega, h4, by rw [hσ o h2 h3]; exact h5⟩
theorem qkp.mono {σ σ' : qr} {lim lim' : Nat} (hl : lim ≤ lim') (hσ : ∀ o, 0 < o → o < lim → σ'[o]? = σ[o]?) : ∀ {rs : List (List AV)} {ps : List (List Pr)}, qkp σ lim rs ps → qkp σ' lim' rs ps
  | [], [], h => trivial
  | r :: rs, p :: ps, h => ⟨h.1.mono hl hσ, qkp.mono hl hσ h.2⟩
  | [], _ :: _, h => h.elim
  | _ :: _, [], h => h.elim
theorem qkp.snoc {σ : qr} {lim : Nat} {r : List AV} {p : List Pr} (hr : q2b σ lim r p) : ∀ {rs : List (List AV)} {ps : List (List Pr)}, qkp σ lim rs ps → qkp σ lim (rs ++ [r]) (ps ++ [p])
  | [], [], h => ⟨hr, trivial⟩
  | r' :: rs, p' :: ps, h => ⟨h.1, qkp.snoc hr h.2⟩
  | [], _ :: _, h => h.elim
  | _ :: _, [], h => h.elim
theorem qkp.frz {σ : qr} {lim d : Nat} : ∀ {rs : List (List AV)} {ps : List (List Pr)}, qkp σ lim rs ps → qgn (qgn (Ev.frz σ (d + 1))) rs = some ((ps.map stLp).map lpF)
  | [], [], h => rfl
  | r :: rs, p :: ps, h => by rw [qel, h.1.frz, qkp.frz h.2]; rfl
  | [], _ :: _, h => h.elim
  | _ :: _, [], h => h.elim
theorem qkp.len {σ : qr} {lim : Nat} : ∀ {rs : List (List AV)} {ps : List (List Pr)}, qkp σ lim rs ps → rs.length = ps.length
  | [], [], h => rfl
  | r :: rs, p :: ps, h => by rw [List.length_cons, List.length_cons, qkp.len h.2]
  | [], _ :: _, h => h.elim
  | _ :: _, [], h => h.elim
section
variable (c : Cfg)
end
set_option maxRecDepth 10000
def q5w (lps : List (List Start)) : List (List Pr) := lps.map fun l => l.map stP
def qkb (lps : List (List Start)) : List (Lp × Bool) := (q5w lps).map stLp
section
variable (c : Cfg)
end
set_option maxRecDepth 10000
section
variable (c : Cfg)
def q6w (b i : Nat) (l : List Start) (W : qr) : Prop :=
  i = 0 ∧ W = [.row 4 [[(ii 0), (ii 0), .fsl [] true, (ii 0)]] 0] ∨ 0 < i ∧ ∃ g, W = [.row 4 [[(ii 0), (ii 0), .sl (b + 1 + 1) g 0 i false, (ii 0)]] 0, .row 4 (((l.take i).map stP).map Pr.r) g]
theorem q6w.row {b : Nat} {l : List Start} {τ0 W : qr} (hb : b = τ0.length) (h : q6w b l.length l W) :
    ∃ rk, (∃ w : List SObj, W = .row 4 [rk] 0 :: w) ∧ rk.length = 4 ∧ qo rk = true ∧ ∀ x : SObj, q2b (x :: (τ0 ++ W)) ((τ0 ++ W).length + 1) rk (l.map stP) := by
  rcases h with ⟨h1, rfl⟩ | ⟨h1, g, rfl⟩
  · refine ⟨[(ii 0), (ii 0), .fsl [] true, (ii 0)], ⟨[], rfl⟩, rfl, rfl, fun x => .inl ⟨?_, rfl⟩⟩
    rw [List.eq_nil_of_length_eq_zero h1]; rfl
  · refine ⟨_, ⟨_, rfl⟩, rfl, rfl, fun x => .inr ⟨fun e => by rw [List.map_eq_nil_iff] at e; subst e; simp at h1, b + 1 + 1, g, by omega, by simp; omega, by rw [List.length_map], ?_⟩⟩
    rw [List.take_length, List.getElem?_cons_succ, hb, List.getElem?_append_right (by omega)]
    simp
theorem q0l (k g b : Nat) (l : List Start) (R : List (List AV)) (hkl : c.lps[k]? = some l) (hl : l.length ≤ 12) (τ0 : qr) (hb : b = τ0.length) :
    ∃ y, itB (exec (evL T) itL none qf0) (qs [1, 3, 4, 5, 6] false (b + 1 + 1)) ⟨[(1, (.fptr [(.fsl ((c.lps).map lpC) false), (.fsl ((c.progs).map qce) false), (ii c.look), (ii c.fin), (ii c.cap)])), (3, .sl 0 g 0 R.length false), (4, (ii k)), (5, .ptr (b + 1) 0 0 0), (6, (ii 0))], []⟩ (.row 4 R g :: (τ0 ++ [.row 4 [[(ii 0), (ii 0), .fsl [] true, (ii 0)]] 0])) = some y ∧
      ∃ W : List SObj, y.1 = .exit 2 ∧ y.2.1.marks = [] ∧ y.2.2 = .row 4 R g :: (τ0 ++ W) ∧ q6w b l.length l W ∧ Ev.look y.2.1.vars 1 = some (.fptr [(.fsl ((c.lps).map lpC) false), (.fsl ((c.progs).map qce) false), (ii c.look), (ii c.fin), (ii c.cap)]) ∧ Ev.look y.2.1.vars 3 = some (.sl 0 g 0 R.length false) ∧ Ev.look y.2.1.vars 4 = some (ii k) ∧ Ev.look y.2.1.vars 5 = some (.ptr (b + 1) 0 0 0) := by
  have key := qf2 (f := exec (evL T) itL none qf0) (s := qs [1, 3, 4, 5, 6] false (b + 1 + 1)) (α := List SObj)
    (fun i a => ⟨[(1, (.fptr [(.fsl ((c.lps).map lpC) false), (.fsl ((c.progs).map qce) false), (ii c.look), (ii c.fin), (ii c.cap)])), (3, .sl 0 g 0 R.length false), (4, (ii k)), (5, .ptr (b + 1) 0 0 0), (6, (ii i))], []⟩) (fun i a => .row 4 R g :: (τ0 ++ a))
    (fun i a => q6w b i l a) l.length
    (fun y => ∃ W : List SObj, y.1 = .exit 2 ∧ y.2.1.marks = [] ∧ y.2.2 = .row 4 R g :: (τ0 ++ W) ∧ q6w b l.length l W ∧ Ev.look y.2.1.vars 1 = some (.fptr [(.fsl ((c.lps).map lpC) false), (.fsl ((c.progs).map qce) false), (ii c.look), (ii c.fin), (ii c.cap)]) ∧ Ev.look y.2.1.vars 3 = some (.sl 0 g 0 R.length false) ∧ Ev.look y.2.1.vars 4 = some (ii k) ∧ Ev.look y.2.1.vars 5 = some (.ptr (b + 1) 0 0 0)) ?_ ?_ 0 [.row 4 [[(ii 0), (ii 0), .fsl [] true, (ii 0)]] 0] (Nat.zero_le _) (.inl ⟨rfl, rfl⟩)
  · exact key
  · rintro i W hi h
    obtain ⟨x, hx⟩ : ∃ x, l[i]? = some x := ⟨_, List.getElem?_eq_getElem hi⟩
    have hi' : (i : Int) < (l.length : Int) := by omega
    have hw : IntKind.i64.wrap ((i : Int) + 1) = ((i + 1 : Nat) : Int) := by rw [qas (by omega) (by omega)]; simp
    have tg : ∀ (v : SObj) (w : List SObj), (τ0 ++ v :: w)[b]? = some v := fun v w => by rw [hb]; simp
    have tg2 : ∀ v w : SObj, (τ0 ++ [v, w])[b + 1]? = some w := fun v w => by rw [hb, List.getElem?_append_right (by omega)]; simp
    have ts : ∀ (v u : SObj) (w : List SObj), (τ0 ++ v :: w).set b u = τ0 ++ u :: w := fun v u w => by rw [hb]; simp []
    have ts2 : ∀ v w u : SObj, (τ0 ++ [v, w]).set (b + 1) u = τ0 ++ [v, u] := fun v w u => by rw [hb, List.set_append, if_neg (by omega)]; simp
    obtain ⟨xp, xt⟩ := x
    have hbl : List.length τ0 = b := hb.symm
    rcases h with ⟨hi0, rfl⟩ | ⟨h3, g', rfl⟩
    · refine .inl ⟨[.row 4 [[(ii 0), (ii 0), .sl (b + 1 + 1) 0 0 1 false, (ii 0)]] 0, .row 4 [(stP ⟨xp, xt⟩).r] 0], ?_, .inr ⟨by omega, 0, ?_⟩⟩
      · simp only [qf0, Int.natCast_nonneg, Int.toNat_natCast, List.getElem?_map, Option.map_some, hkl, hx, hi', hw, tg, ts, hbl, List.append_assoc, List.map_nil, Start.r, stP, Pr.r, lpC, Ev.exec, qb, qe, qc, qai, qm4, Ev.Opnd.ev, Ev.Env.get, Ev.Env.set, Ev.look, qf, qbq, qv, qfz, qfm, Ev.AV.cells, Ev.AV.uc, qo, Ev.AV.plain, qao, ql, qs, Ev.keep, qbc, qbg, List.replicate_one, List.length_map, ↓qn, Ev.it1, ↓reduceIte, List.length_cons, List.length_nil, List.length_append, List.getElem?_cons_zero, List.getElem?_cons_succ, List.take_succ_cons, List.take_zero, List.drop_succ_cons, List.drop_zero, List.cons_append, List.nil_append, List.set_cons_zero, List.set_cons_succ, List.head?_cons, Nat.reduceAdd, Nat.reduceEqDiff, Nat.reduceMul, Nat.reduceLT, Nat.reduceLeDiff, Nat.reducePow, decide_true, zfc, zfa, and_self, ne_eq, zfb, not_true_eq_false, zff, zfd, Nat.lt_add_one, eq_self]
      · rw [qi4 hx, hi0]; simp
    · have ln : (((l.take i).map stP).map Pr.r).length = i := by simp; omega
      have tk : List.take i (((l.take i).map stP).map Pr.r) = ((l.take i).map stP).map Pr.r := List.take_of_length_le (by simp; omega)
      have bd : (i + 1) * 48 ≤ 140737488355328 := by omega
      have il : i ≤ i := Nat.le_refl _
      have nx : ((l.take (i + 1)).map stP).map Pr.r = ((l.take i).map stP).map Pr.r ++ [(stP ⟨xp, xt⟩).r] := by rw [qi4 hx]; simp
      refine .inl ⟨[.row 4 [[(ii 0), (ii 0), .sl (b + 1 + 1) (g' + 1) 0 (i + 1) false, (ii 0)]] 0, .row 4 (((l.take (i + 1)).map stP).map Pr.r) (g' + 1)], ?_, .inr ⟨by omega, g' + 1, rfl⟩⟩
      rw [nx]
      generalize ((l.take i).map stP).map Pr.r = PR at ln tk ⊢
      simp only [qf0, Int.natCast_nonneg, Int.toNat_natCast, List.getElem?_map, Option.map_some, hkl, hx, hi', hw, tg, tg2, ts, ts2, ln, tk, bd, il, List.map_nil, Start.r, stP, Pr.r, lpC, Ev.exec, qb, qe, qc, qai, qm4, Ev.Opnd.ev, Ev.Env.get, Ev.Env.set, Ev.look, qf, qbq, qv, qfz, qfm, Ev.AV.cells, Ev.AV.uc, qo, Ev.AV.plain, qao, ql, qs, Ev.keep, qbc, qbg, List.replicate_one, List.length_map, ↓qn, Ev.it1, ↓reduceIte, List.length_cons, List.length_nil, List.getElem?_cons_zero, List.getElem?_cons_succ, List.take_succ_cons, List.take_zero, List.drop_succ_cons, List.drop_zero, List.cons_append, List.nil_append, List.set_cons_zero, List.set_cons_succ, List.head?_cons, Nat.reduceAdd, Nat.reduceEqDiff, Nat.reduceMul, Nat.reduceLeDiff, Nat.reducePow, decide_true, zfc, zfa, and_self, ne_eq, zfb, zff, zfd, Nat.lt_add_one, eq_self]
  · rintro W h
    simp only [qf0, Int.natCast_nonneg, Int.toNat_natCast, List.getElem?_map, Option.map_some, hkl, lpC, Int.lt_irrefl, Ev.exec, qb, qe, qc, qai, Ev.Opnd.ev, Ev.Env.get, Ev.Env.set, Ev.look, qf, qv, ql, List.length_map, ↓qn, Ev.it1, ↓reduceIte, List.length_cons, List.length_nil, List.drop_zero, List.head?_cons, Nat.reduceEqDiff, decide_false, zfa, zfd, eq_self]
    exact ⟨_, rfl, W, rfl, rfl, rfl, h, rfl, rfl, rfl, rfl⟩
theorem q0j (h : Small12 c) :
    ∃ y, itB (exec (evL T) itL none qfx) (qs [1, 3, 4] false 1) ⟨[(1, (.fptr [(.fsl ((c.lps).map lpC) false), (.fsl ((c.progs).map qce) false), (ii c.look), (ii c.fin), (ii c.cap)])), (3, .sl 0 0 0 0 false), (4, (ii 0))], []⟩ [.row 4 [] 0] = some y ∧
      ∃ (R : List (List AV)) (g : Nat) (τ : qr), y.1 = .exit 0 ∧ y.2.1.marks = [] ∧ y.2.2 = .row 4 R g :: τ ∧ qkp y.2.2 (τ.length + 1) R (q5w c.lps) ∧ Ev.look y.2.1.vars 3 = some (.sl 0 g 0 R.length false) := by
  have key := qf2 (f := exec (evL T) itL none qfx) (s := qs [1, 3, 4] false 1) (α := List (List AV) × Nat × qr)
    (fun i a => ⟨[(1, (.fptr [(.fsl ((c.lps).map lpC) false), (.fsl ((c.progs).map qce) false), (ii c.look), (ii c.fin), (ii c.cap)])), (3, .sl 0 a.2.1 0 a.1.length false), (4, (ii i))], []⟩) (fun i a => .row 4 a.1 a.2.1 :: a.2.2)
    (fun i a => ∀ x : SObj, qkp (x :: a.2.2) (a.2.2.length + 1) a.1 (q5w (c.lps.take i))) c.lps.length
    (fun y => ∃ (R : List (List AV)) (g : Nat) (τ : qr), y.1 = .exit 0 ∧ y.2.1.marks = [] ∧ y.2.2 = .row 4 R g :: τ ∧ qkp y.2.2 (τ.length + 1) R (q5w c.lps) ∧ Ev.look y.2.1.vars 3 = some (.sl 0 g 0 R.length false)) ?_ ?_ 0 ([], 0, []) (Nat.zero_le _) (fun _ => trivial)
  · exact key
  · rintro i ⟨R, g, τ⟩ hi hR
    simp only at hR ⊢
    obtain ⟨x, hx⟩ : ∃ x, c.lps[i]? = some x := ⟨_, List.getElem?_eq_getElem hi⟩
    have hlps := h.lps
    have hi' : (i : Int) < (c.lps.length : Int) := by omega
    have hw : IntKind.i64.wrap ((i : Int) + 1) = ((i + 1 : Nat) : Int) := by rw [qas (by omega) (by omega)]; simp
    have hRl : R.length = i := by rw [(hR .dead).len]; simp [q5w]; omega
    obtain ⟨b, hb⟩ : ∃ b, b = τ.length := ⟨_, rfl⟩
    have hbl : List.length τ = b := hb.symm
    obtain ⟨⟨y, e, σ⟩, k1, W, k2, k3, k4, k5, k6, k7, k8, k9⟩ := q0l c i g b x R hx (h.lp _ (List.mem_of_getElem? hx)) τ hb
    simp only at k1 k2 k3 k4 k6 k7 k8 k9
    subst k2; subst k4
    obtain ⟨rk, ⟨w, hW⟩, _, _, hrow⟩ := k5.row hb
    have tg : ∀ (v : SObj) (w : List SObj), (τ ++ v :: w)[b]? = some v := fun v w => by rw [hb]; simp
    have bd : (i + 1) * 48 ≤ 140737488355328 := by omega
    have il : i ≤ i := Nat.le_refl _
    have tk : List.take i R = R := List.take_of_length_le (by omega)
    refine .inl ⟨(R ++ [rk], g + 1, τ ++ W), ?_, fun z => ?_⟩
    · simp only [List.length_append, List.length_cons, List.length_nil, hRl] at k1 k7 ⊢
      rcases k5 with ⟨_, rfl⟩ | ⟨_, g', rfl⟩
      · simp only [List.cons.injEq, SObj.row.injEq, true_and, and_true] at hW
        obtain ⟨rfl, rfl⟩ := hW
        simp only [qfx, hi', hw, hbl, hRl, k1, k3, k6, k7, k8, k9, tg, bd, il, tk, Ev.exec, qb, qe, qc, qai, qm4, Ev.Opnd.ev, Ev.Env.get, Ev.Env.set, Ev.look, qf, qbq, qv, qfm, Ev.AV.cells, qo, Ev.AV.plain, qao, ql, qs, Ev.keep, qbc, qbg, List.replicate_one, List.length_map, ↓qn, ↓qa3, Ev.it1, ↓reduceIte, List.length_cons, List.length_nil, List.length_append, List.getElem?_cons_zero, List.getElem?_cons_succ, List.take_succ_cons, zfe, List.drop_zero, List.cons_append, List.set_cons_zero, List.head?_cons, Nat.reduceAdd, Nat.reduceEqDiff, Nat.reduceMul, Nat.reduceLeDiff, Nat.reducePow, decide_true, zfc, zfa, and_self, ne_eq, zfb, zff, zfd, Nat.lt_add_one, Nat.le_refl, eq_self]
      · simp only [List.cons.injEq, SObj.row.injEq, true_and, and_true] at hW
        obtain ⟨rfl, rfl⟩ := hW
        simp only [qfx, hi', hw, hbl, hRl, k1, k3, k6, k7, k8, k9, tg, bd, il, tk, Ev.exec, qb, qe, qc, qai, qm4, Ev.Opnd.ev, Ev.Env.get, Ev.Env.set, Ev.look, qf, qbq, qv, qfm, Ev.AV.cells, qo, Ev.AV.plain, qao, ql, qs, Ev.keep, qbc, qbg, List.replicate_one, List.take_length, List.length_map, ↓qn, ↓qa3, Ev.it1, ↓reduceIte, List.length_cons, List.length_nil, List.length_append, List.getElem?_cons_zero, List.getElem?_cons_succ, List.take_succ_cons, zfe, List.drop_zero, List.cons_append, List.set_cons_zero, List.head?_cons, Nat.reduceAdd, Nat.reduceEqDiff, Nat.reduceMul, Nat.reduceLeDiff, Nat.reducePow, decide_true, zfc, zfa, and_self, ne_eq, zfb, zff, zfd, Nat.lt_add_one, Nat.le_refl, eq_self]
    · have : q5w (c.lps.take (i + 1)) = q5w (c.lps.take i) ++ [x.map stP] := by rw [qi4 hx]; simp [q5w]
      simp only
      rw [this]
      refine qkp.snoc (hrow z) ((hR z).mono (by simp) (fun o h1 h2 => ?_))
      obtain ⟨o, rfl⟩ : ∃ p, o = p + 1 := ⟨o - 1, by omega⟩
      rw [List.getElem?_cons_succ, List.getElem?_cons_succ]
      exact List.getElem?_append_left (by omega)
  · rintro ⟨R, g, τ⟩ hR
    rw [List.take_length] at hR
    simp only at hR ⊢
    simp only [qfx, Int.lt_irrefl, Ev.exec, qb, qe, qc, qai, Ev.Opnd.ev, Ev.Env.get, Ev.Env.set, Ev.look, qf, qv, ql, List.length_map, ↓qn, Ev.it1, ↓reduceIte, List.drop_zero, List.head?_cons, Nat.reduceEqDiff, decide_false, zfa, eq_self]
    exact ⟨_, rfl, R, g, τ, rfl, rfl, rfl, hR _, rfl⟩
theorem qwy (h : Small12 c) : qa4 (evL T) qfu [(.agg [(.fsl ((c.lps).map lpC) false), (.fsl ((c.progs).map qce) false), (ii c.look), (ii c.fin), (ii c.cap)])] = some (.fsl ((qkb c.lps).map lpF) false) := by
  obtain ⟨⟨y, e, σ⟩, k1, R, g, τ, k2, k3, k4, k5, k6⟩ := q0j c h
  simp only at k1 k2 k3 k4 k5 k6
  subst k2; subst k4
  have tk : List.take R.length R = R := List.take_length
  have hf := fun d => k5.frz (d := d)
  have hle : R.length ≤ R.length := Nat.le_refl _
  rw [qa4, qad qv7 qtw]
  simp only [qk1, k1, k3, k6, hle, tk, qj, Ev.exec, qb, qe, qc, qai, Ev.Opnd.ev, Ev.Env.get, Ev.Env.set, Ev.look, qk, Ev.AV.cells, qo, Ev.AV.plain, qi, qq, qaj, Ev.kill, qag, qs, Ev.keep, qg, qds, qhg, ↓qn, ↓qa3, ↓reduceIte, List.length_cons, List.length_nil, List.getElem?_cons_zero, List.take_zero, List.drop_zero, List.nil_append, Nat.reduceEqDiff, Nat.reduceLT, decide_false, zfc, zfa, and_self, and_true, ne_eq, zfb, zff, zfd, eq_self]
  rw [show (5 : Nat) = 4 + 1 from rfl, hf 4]
  rfl
end
set_option maxRecDepth 10000
structure Sim where
  trace : List (List Evt)
  lps : List Lp
  pend : List Evt
  n : Nat
  over : Bool
def q2u (s : Sim) (i : Int) : Lp := (s.lps[i.toNat]?).getD ⟨0, 0, [], 0⟩
def qsm (s : Sim) (i : Int) : List Evt := (s.trace[i.toNat]?).getD []
def qjs (gone : List (List Int)) (x : Evt) : Bool := !(gone.any fun g => decide (g = x.key))
def Sim.step (c : Cfg) (s : Sim) (e : Evt) (rest : List Evt) : Sim :=
  ⟨s.trace.set e.lp.toNat (qsm s e.lp ++ [e]), s.lps.set e.lp.toNat (qbf c (q2u s e.lp) e).lp, qga ((rest ++ (qbf c (q2u s e.lp) e).out).filter (qjs (qbf c (q2u s e.lp) e).gone)), s.n + 1, s.over || (qbf c (q2u s e.lp) e).over⟩
def Sim.ready (c : Cfg) (s : Sim) : Bool := match s.pend with
  | [] => false
  | e :: _ => decide (e.time < c.fin)
def Sim.go (c : Cfg) (s : Sim) : Sim := match s.pend with
  | [] => s
  | e :: rest => s.step c e rest
def Sim.run (c : Cfg) : Nat → Sim → Sim
  | 0, s => s
  | k + 1, s => if s.ready c = true then Sim.run c k (s.go c) else s
def start (c : Cfg) : Sim := ⟨List.replicate c.lps.length [], (qkb c.lps).map Prod.fst, qga (qjq c.lps), 0, false⟩
structure EvG (c : Cfg) (n : Nat) (e : Evt) : Prop where
  lp : 0 ≤ e.lp ∧ e.lp < c.lps.length
  time : 0 ≤ e.time ∧ e.time ≤ 1152921504606846976
  key : 2 ≤ e.key.length ∧ e.key.length ≤ 2 + n
  proc : 0 ≤ e.proc ∧ e.proc < 8
  arg : e.kind = 2 → 0 ≤ e.arg ∧ e.arg < 16
theorem EvG.mono {c : Cfg} {n m : Nat} {e : Evt} (h : EvG c n e) (hm : n ≤ m) : EvG c m e := ⟨h.lp, h.time, ⟨h.key.1, by have := h.key.2; omega⟩, h.proc, h.arg⟩
def LpG (c : Cfg) (n : Nat) (x : Lp) : Prop := x.procs.length ≤ 8 ∧ ∀ q ∈ x.procs, 0 ≤ q.prog ∧ q.prog < c.progs.length ∧ 0 ≤ q.pc ∧ q.pc ≤ ((c.progs[q.prog.toNat]?).getD []).length ∧ q.timer.length ≤ 2 + n
def ql6 (l : List Evt) : Prop := l.Pairwise (fun a b => ¬ a.key = b.key)
def q8d (c : Cfg) (x : Lp) (l : List Evt) : Lp := l.foldl (fun x e => (qbf c x e).lp) x
def qf8 (h : List Evt) (i : Nat) : List Evt := h.filter fun e => decide (e.lp = i)
structure SInvK (c : Cfg) (s : Sim) (h : List Evt) : Prop where
  valid : Valid c
  n : s.n = h.length
  trl : s.trace.length = c.lps.length
  tr : ∀ i, i < c.lps.length → s.trace[i]? = some (qf8 h i)
  lpl : s.lps.length = c.lps.length
  lp : ∀ x ∈ s.lps, LpG c h.length x
  keys : ql6 (h ++ s.pend)
  ev : ∀ e ∈ h ++ s.pend, EvG c h.length e
  tim : ∀ e ∈ s.pend, e.kind = 2 → ∃ x q p, s.lps[e.lp.toNat]? = some x ∧ x.procs[e.proc.toNat]? = some q ∧ c.progs[q.prog.toNat]? = some p ∧ 0 ≤ e.arg ∧ e.arg < p.length
  par : ∀ e ∈ h ++ s.pend, e.key.length = 2 ∨ ∃ p ∈ h, ∃ m, e.key = p.key ++ [m] ∧ p.time < e.time
  len : s.pend.length ≤ 64 + 16 * h.length
  rep : ∀ i, i < c.lps.length → s.lps[i]? = some (q8d c ((((qkb c.lps).map Prod.fst)[i]?).getD ⟨0, 0, [], 0⟩) (qf8 h i))
  rdy : ∀ i, i < c.lps.length → ∀ k e, (qf8 h i)[k]? = some e → Ready c (q8d c ((((qkb c.lps).map Prod.fst)[i]?).getD ⟨0, 0, [], 0⟩) ((qf8 h i).take k)) e
structure SInv (c : Cfg) (s : Sim) (h : List Evt) : Prop extends SInvK c s h where
  sorted : s.pend.Pairwise leE
  ord : h.Pairwise leE
  ord2 : ∀ a ∈ h, ∀ b ∈ s.pend, leE a b
  fin : ∀ e ∈ h, e.time < c.fin
theorem ql6.dist {l : List Evt} (h : ql6 l) : qvd l := h.imp fun hk hc => hk ((q1m _ _).1 hc).2
theorem ql6.perm {l l' : List Evt} (h : ql6 l) (p : l'.Perm l) : ql6 l' := (p.pairwise_iff (fun {x y} hxy hyx => hxy hyx.symm)).2 h
theorem leE_time {a b : Evt} (h : a.time < b.time) : leE a b := by
  have := qiq a.time b.time
  unfold leE qsl
  rw [if_neg (by omega)]; omega
theorem q2v {a b : Evt} (h : leE a b) : a.time ≤ b.time := by
  have := qiq a.time b.time
  unfold leE qsl at h
  by_cases e : qor a.time b.time = 0
  · omega
  · rw [if_neg e] at h; omega
section
variable {c : Cfg} {s : Sim} {h : List Evt}
theorem SInvK.headM (H : SInvK c s h) {e : Evt} (hm : e ∈ s.pend) (hn : h.length ≤ 20000) : ∃ x, s.lps[e.lp.toNat]? = some x ∧ q2u s e.lp = x ∧ Ready c x e := by
  have he : e ∈ h ++ s.pend := List.mem_append_right _ hm
  have g := H.ev e he
  obtain ⟨x, hx⟩ : ∃ x, s.lps[e.lp.toNat]? = some x := ⟨_, List.getElem?_eq_getElem (by rw [H.lpl]; have := g.lp; omega)⟩
  have hl := H.lp x (List.mem_of_getElem? hx)
  refine ⟨x, hx, by unfold q2u; rw [hx]; rfl, H.valid, hl.1, fun q hq => ?_, g.time, by have := g.key; omega, fun q ha hk => ?_⟩
  · obtain ⟨a, b, d, f, k⟩ := hl.2 q hq; exact ⟨a, b, d, f, by omega⟩
  · obtain ⟨_, _, hq, _⟩ := q1w ha
    obtain ⟨x', q', p, h1, h2, h3, h4, h5⟩ := H.tim e hm hk
    rw [hx] at h1; cases h1
    rw [hq] at h2; cases h2
    rw [h3]; exact ⟨h4, by show e.arg ≤ (p.length : Int); omega⟩
theorem SInv.head (H : SInv c s h) {e : Evt} {rest : List Evt} (hp : s.pend = e :: rest) (hn : h.length ≤ 20000) : ∃ x, s.lps[e.lp.toNat]? = some x ∧ q2u s e.lp = x ∧ Ready c x e :=
  H.toSInvK.headM (by rw [hp]; simp) hn
theorem q32 {e : Evt} {out : List Evt} (h : ∀ k ev ev', out[k]? = some ev → out[k + 1]? = some ev' → ∃ m m' : Int, ev.key = e.key ++ [m] ∧ ev'.key = e.key ++ [m'] ∧ m < m') :
    ∀ (d i : Nat) (a b : Evt), out[i]? = some a → out[i + d + 1]? = some b → ∃ m m' : Int, a.key = e.key ++ [m] ∧ b.key = e.key ++ [m'] ∧ m < m'
  | 0, i, a, b, ha, hb => h i a b ha hb
  | d + 1, i, a, b, ha, hb => by
    have hlt := (List.getElem?_eq_some_iff.1 hb).1
    obtain ⟨x, hx⟩ : ∃ x, out[i + d + 1]? = some x := ⟨_, List.getElem?_eq_getElem (by omega)⟩
    obtain ⟨m, m1, h1, h2, h3⟩ := q32 h d i a x ha hx
    obtain ⟨m2, m3, h4, h5, h6⟩ := h (i + d + 1) x b hx hb
    rw [h2] at h4
    have := List.append_cancel_left h4
    simp only [List.cons.injEq, and_true] at this
    exact ⟨m, m3, h1, h5, by omega⟩
theorem q53 {e : Evt} {out : List Evt} (h : ∀ k ev ev', out[k]? = some ev → out[k + 1]? = some ev' → ∃ m m' : Int, ev.key = e.key ++ [m] ∧ ev'.key = e.key ++ [m'] ∧ m < m') : ql6 out := by
  unfold ql6
  rw [List.pairwise_iff_getElem]
  intro i j hi hj hij hk
  obtain ⟨m, m', h1, h2, h3⟩ := q32 h (j - i - 1) i out[i] out[j] (List.getElem?_eq_getElem hi) (by rw [show i + (j - i - 1) + 1 = j by omega]; exact List.getElem?_eq_getElem hj)
  rw [hk, h2] at h1
  have := List.append_cancel_left h1
  simp only [List.cons.injEq, and_true] at this
  omega
theorem SInvK.keyNeP (H : SInvK c s h) {e : Evt} {rest : List Evt} (hp : s.pend.Perm (e :: rest)) (hn : h.length ≤ 20000) : ql6 ((h ++ [e]) ++ (rest ++ (qbf c (q2u s e.lp) e).out)) := by
  have hme : e ∈ s.pend := hp.mem_iff.2 (by simp)
  obtain ⟨x, hx, hlx, R⟩ := H.headM hme hn
  rw [hlx]
  obtain ⟨X, _, o1, o2⟩ := R.outs
  have hk : ql6 (h ++ e :: rest) := ql6.perm H.keys (hp.symm.append_left h)
  have e1 : (h ++ [e]) ++ (rest ++ (qbf c x e).out) = (h ++ e :: rest) ++ (qbf c x e).out := by simp
  rw [e1]
  unfold ql6 at hk ⊢
  rw [List.pairwise_append]
  refine ⟨hk, q53 o2, fun a ha b hb hab => ?_⟩
  obtain ⟨k, hkb⟩ := List.mem_iff_getElem?.1 hb
  obtain ⟨m, hm, _⟩ := (o1 k b hkb).key
  have ha' : a ∈ h ++ s.pend := by
    rcases List.mem_append.1 ha with ha | ha
    · exact List.mem_append_left _ ha
    · exact List.mem_append_right _ (hp.mem_iff.2 ha)
  have ge := H.ev e (List.mem_append_right _ hme)
  rw [hm] at hab
  rcases H.par a ha' with h2 | ⟨p, hp1, m', h2, _⟩
  · rw [hab] at h2; simp at h2; have := ge.key; omega
  · rw [hab] at h2
    have hlen := congrArg List.length h2
    simp at hlen
    have := (List.append_inj h2 hlen).1
    rw [List.pairwise_append] at hk
    exact hk.2.2 p hp1 e (by simp) this.symm
theorem SInv.keyNe (H : SInv c s h) {e : Evt} {rest : List Evt} (hp : s.pend = e :: rest) (hn : h.length ≤ 20000) : ql6 ((h ++ [e]) ++ (rest ++ (qbf c (q2u s e.lp) e).out)) :=
  H.toSInvK.keyNeP (by rw [hp]) hn
end
set_option maxRecDepth 10000
section
variable (G : List (List Int)) (c : Bool) (x : Evt)
end
set_option maxRecDepth 10000
structure GoneAt (σ : qr) (p : Nat) (G : List (List Int)) : Prop where
  at_ : σ[p]? = some (.row 1 [[(.fsl ((G).map qep) false)]] 1)
  len : G.length ≤ 1000
  key : ∀ k ∈ G, k.length ≤ 9223372036854775807
section
variable (σ : qr) (p o g : Nat) (G : List (List Int)) (D : List Evt)
def zEvt : Evt := ⟨0, [], 0, 0, 0, 0⟩
theorem zEvt_r : zEvt.r = [(ii 0), .fsl [] false, (ii 0), (ii 0), (ii 0), (ii 0)] := rfl
structure DelInv (G : List (List Int)) (D : List Evt) (j : Nat) (E : List Evt) : Prop where
  len : E.length = D.length
  kept : E.take ((D.take j).filter (qjs G)).length = (D.take j).filter (qjs G)
  rest : E.drop j = D.drop j
  lt : ((D.take j).filter (qjs G)).length < j
end
set_option maxRecDepth 10000
section
variable (σ : qr) (p o g n : Nat) (G : List (List Int)) (D : List Evt)
structure Grown (τ : qr) (n o : Nat) (R : List (List AV)) (g : Nat) : Prop where
  len : τ.length = n
  lt : o < n
  at_ : τ[o]? = some (.row 6 R g)
  lo : qg n τ = true
end
set_option maxRecDepth 10000
def qcp (l : List Evt) : List AV := [(.fsl ((l).map Evt.r) false)]
theorem q4p (n : Nat) (l : List Evt) : los n (qcp l) = true := by simp only [qcp, los, AV.lo, qaa, zfc]
theorem evtsC_pl (l : List Evt) : (qcp l).length = 1 ∧ qo (qcp l) = true := ⟨rfl, rfl⟩
theorem qjr (n : Nat) (l : List (List Evt)) : qiu n (l.map qcp) = true := qkh (q4p n) l
theorem evss_ok (l : List (List Evt)) : qcd 1 (l.map qcp) = true := qkt evtsC_pl l
theorem grow_ev (n : Nat) (h : n ≤ 1000000) : (evL T).call qav [.fsl [] true, (ii n)] [] =
    if n = 0 then some (.fsl [] true, []) else some (.sl 0 0 0 0 false, [.row 6 ((List.replicate n zEvt).map Evt.r) 0]) := by
  have c1 : ¬ (n : Int) < 0 := by omega
  have w : IntKind.i64.wrap ((n : Int) - ((0 : Nat) : Int)) = n := by rw [qas (by omega) (by omega)]; omega
  have w0 : IntKind.i64.wrap 0 = 0 := rfl
  have w1 : IntKind.i64.wrap ((n : Int) - 0) = n := by rw [qas (by omega) (by omega)]; omega
  have ok := qe1 (List.replicate n zEvt)
  rw [List.map_replicate] at ok ⊢
  have b : n * 64 ≤ 140737488355328 := by omega
  rw [qad qie qh9]
  by_cases h0 : n = 0
  · subst h0
    rw [if_pos rfl]
    simp only [qbw, Int.lt_irrefl, w0, Int.sub_zero, gt_iff_lt, qj, Ev.exec, qb, qe, qc, qai, Ev.Opnd.ev, Ev.Env.get, Ev.Env.set, Ev.look, qk, qrs, ql, qbh, qi, qq, qaj, Ev.kill, qag, qg, qm, qu, ↓qn, ↓reduceIte, List.length_cons, List.length_nil, zfe, Nat.reduceAdd, Nat.reduceEqDiff, Int.cast_ofNat_Int, reduceCtorEq, decide_false, zfa, and_self, zfd, eq_self]
  · have c2 : (n : Int) > 0 := by omega
    rw [if_neg h0]
    simp only [zEvt_r] at ok ⊢
    simp only [qbw, Int.toNat_natCast, c1, c2, w0, w1, ok, b, Int.natCast_nonneg, Nat.sub_zero, Int.le_refl, qj, Ev.exec, qb, qe, qc, qai, Ev.Opnd.ev, Ev.Env.get, Ev.Env.set, Ev.look, qk, qf9, qrs, ql, qbh, qi, qq, qaj, Ev.kill, qag, qg, qds, qbc, ↓qn, ↓reduceIte, List.length_cons, List.length_nil, List.getElem?_cons_zero, List.take_zero, zfe, List.drop_nil, List.nil_append, Nat.reduceAdd, Nat.reduceEqDiff, Nat.reduceLT, Nat.reducePow, Int.reduceSub, Int.reduceToNat, Int.cast_ofNat_Int, reduceCtorEq, decide_true, decide_false, zfc, zfa, and_self, and_true, zfd, Nat.add_zero, Option.isSome_some, Option.isSome_none, eq_self, implies_true, Bool.false_and]
end Go.Proofs.Ytbhhifdhlafklaa.K
