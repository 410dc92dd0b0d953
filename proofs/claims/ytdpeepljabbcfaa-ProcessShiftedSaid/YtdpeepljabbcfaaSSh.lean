/- Part of the proofs about this seat's program (module SSh). -/
import Derived.Test.YtdpeepljabbcfaaCRuns
set_option linter.unusedSectionVars false
set_option linter.unusedSimpArgs false
set_option linter.unusedVariables false
namespace Go.Proofs.Ytdpeepljabbcfaa.K
open Go.Ev
set_option linter.unusedSimpArgs false
set_option linter.unusedVariables false
/-! ### An execution at a later time -/
def shE (b : Int) (e : Evt) : Evt := { e with time := e.time + b }
def shX (b : Int) (x : Ex) : Ex := { x with ev := shE b x.ev, out := x.out.map (shE b) }
section
variable {c : Cfg} {b : Int} (hb : 0 ≤ b ∧ b ≤ 4294967295)
include hb
theorem sh_create (x : Ex) (ht : 0 ≤ x.ev.time ∧ x.ev.time ≤ 1099511627776) {d : Int} (hd : 1 ≤ d ∧ d ≤ 1099511627776) (s : Evt) : (shX b x).create d s = shX b (x.create d s) ∧ (x.create d s).over = x.over ∧ (x.create d s).ev = x.ev := by
  have w1 : w64 (x.ev.time + d) = x.ev.time + d := w64_small (by omega) (by omega)
  have w2 : w64 ((shX b x).ev.time + d) = x.ev.time + b + d := by show w64 (x.ev.time + b + d) = _; exact w64_small (by omega) (by omega)
  have n1 : ¬ x.ev.time + d > 1152921504606846976 := by omega
  have n2 : ¬ x.ev.time + b + d > 1152921504606846976 := by omega
  refine ⟨?_, ?_, ?_⟩
  · unfold Ex.create
    rw [w1, w2, if_neg n1, if_neg n1, if_neg n2, if_neg n2]
    simp only [shX, shE, List.map_append, List.map_cons, List.map_nil, Ex.kid, Ex.mk.injEq, true_and, and_true]
    congr 2
    simp only [Evt.mk.injEq, and_true]
    omega
  · unfold Ex.create; rw [w1]; simp only; rw [if_neg n1]
  · rfl
theorem sh_step (x : Ex) (ht : 0 ≤ x.ev.time ∧ x.ev.time ≤ 1099511627776) (i : Nat) (q : Pr) {p : List OpI} {op : OpI} (ho : OpFull c p op) :
    stepE (shX b x) i q op = (shX b (stepE x i q op).1, (stepE x i q op).2) ∧ (stepE x i q op).1.over = x.over ∧ (stepE x i q op).1.ev = x.ev := by
  have hst : (shX b x).stopE i q = shX b (x.stopE i q) ∧ (x.stopE i q).over = x.over ∧ (x.stopE i q).ev = x.ev := by
    unfold Ex.stopE
    split
    · exact ⟨rfl, rfl, rfl⟩
    · exact ⟨rfl, rfl, rfl⟩
  unfold stepE
  by_cases k1 : op.code = 1
  · simp only [k1, if_true]
    obtain ⟨h1, h2, h3⟩ := sh_create hb x ht (ho.hold k1) (x.ownE 1 x.ev.proc 0)
    exact ⟨by rw [← h1]; rfl, h2, h3⟩
  by_cases k2 : op.code = 2
  · simp only [k2, if_true]
    obtain ⟨s1, s2, s3, s4, s5⟩ := ho.send k2
    obtain ⟨h1, h2, h3⟩ := sh_create hb x ht ⟨s3, s4⟩ ⟨0, [], op.a, 3, 0, op.b⟩
    exact ⟨by rw [if_neg (by decide), if_neg (by decide), ← h1], by rw [if_neg (by decide)]; exact h2, by rw [if_neg (by decide)]; exact h3⟩
  by_cases k3 : op.code = 3
  · rw [if_neg k1, if_neg k2, if_pos k3, if_neg k1, if_neg k2, if_pos k3]
    obtain ⟨s1, s2, s3, s4⟩ := ho.timer k3
    obtain ⟨t1, t2, t3⟩ := hst
    obtain ⟨h1, h2, h3⟩ := sh_create hb (x.stopE i q) (by rw [t3]; exact ht) ⟨s1, s2⟩ (x.ownE 2 x.ev.proc op.b)
    refine ⟨?_, h2.trans t2, h3.trans t3⟩
    have : ((shX b x).timerE i q op) = shX b (x.timerE i q op) := by
      unfold Ex.timerE
      rw [t1]
      show ((shX b (x.stopE i q)).create op.a (x.ownE 2 x.ev.proc op.b)).setP i _ = _
      rw [h1]; rfl
    rw [this]
  by_cases k4 : op.code = 4
  · rw [if_neg k1, if_neg k2, if_neg k3, if_pos k4, if_neg k1, if_neg k2, if_neg k3, if_pos k4]
    exact ⟨by rw [hst.1], hst.2.1, hst.2.2⟩
  by_cases k5 : op.code = 5
  · rw [if_neg k1, if_neg k2, if_neg k3, if_neg k4, if_pos k5, if_neg k1, if_neg k2, if_neg k3, if_neg k4, if_pos k5]
    obtain ⟨s1, s2, s3, s4⟩ := ho.spawn k5
    unfold Ex.spawnE
    by_cases hl : x.procs.length < 8
    · rw [if_pos hl, if_pos (show (shX b x).procs.length < 8 from hl)]
      obtain ⟨h1, h2, h3⟩ := sh_create hb { x with procs := x.procs ++ [⟨op.a, 0, true, []⟩] } ht ⟨s3, s4⟩ (x.ownE 1 x.procs.length 0)
      exact ⟨by rw [← h1]; rfl, h2, h3⟩
    · rw [if_neg hl, if_neg (show ¬ (shX b x).procs.length < 8 from hl)]
      exact ⟨rfl, rfl, rfl⟩
  by_cases k6 : op.code = 6
  · rw [if_neg k1, if_neg k2, if_neg k3, if_neg k4, if_neg k5, if_pos k6, if_neg k1, if_neg k2, if_neg k3, if_neg k4, if_neg k5, if_pos k6]
    unfold Ex.setReg
    split
    · exact ⟨rfl, rfl, rfl⟩
    · exact ⟨rfl, rfl, rfl⟩
  by_cases k7 : op.code = 7
  · rw [if_neg k1, if_neg k2, if_neg k3, if_neg k4, if_neg k5, if_neg k6, if_pos k7, if_neg k1, if_neg k2, if_neg k3, if_neg k4, if_neg k5, if_neg k6, if_pos k7]
    by_cases hr : x.reg op.a < op.b
    · rw [if_pos hr, if_pos (show (shX b x).reg op.a < op.b from hr)]; exact ⟨rfl, rfl, rfl⟩
    · rw [if_neg hr, if_neg (show ¬ (shX b x).reg op.a < op.b from hr)]; exact ⟨rfl, rfl, rfl⟩
  · rw [if_neg k1, if_neg k2, if_neg k3, if_neg k4, if_neg k5, if_neg k6, if_neg k7, if_neg k1, if_neg k2, if_neg k3, if_neg k4, if_neg k5, if_neg k6, if_neg k7]
    exact ⟨rfl, rfl, rfl⟩
omit hb in
theorem sh_kill (x : Ex) (i : Nat) : killE (shX b x) i = shX b (killE x i) ∧ (killE x i).over = x.over ∧ (killE x i).ev = x.ev := by
  unfold killE
  show (match x.procs[i]? with | some q => _ | none => _) = _ ∧ _
  cases x.procs[i]? with
  | none => exact ⟨rfl, rfl, rfl⟩
  | some q => exact ⟨rfl, rfl, rfl⟩
theorem sh_stepR (x : Ex) (ht : 0 ≤ x.ev.time ∧ x.ev.time ≤ 1099511627776) (i : Nat) (q : Pr) {p : List OpI} {op : OpI} (ho : OpFull c p op) :
    stepR (shX b x) i q op = (shX b (stepR x i q op).1, (stepR x i q op).2) ∧ (stepR x i q op).1.over = x.over ∧ (stepR x i q op).1.ev = x.ev := by
  obtain ⟨h1, h2, h3⟩ := sh_step hb (x.setP i q.inc) ht i q.inc ho
  have h1' : stepE ((shX b x).setP i q.inc) i q.inc op = (shX b (stepE (x.setP i q.inc) i q.inc op).1, (stepE (x.setP i q.inc) i q.inc op).2) := h1
  unfold stepR
  rw [h1']
  simp only
  split
  · exact ⟨rfl, h2, h3⟩
  split
  · obtain ⟨g1, g2, g3⟩ := sh_kill (b := b) (stepE (x.setP i q.inc) i q.inc op).1 i
    exact ⟨by rw [g1], g2.trans h2, g3.trans h3⟩
  · exact ⟨rfl, h2, h3⟩
theorem sh_act {p : List OpI} (i : Nat) (ho : ∀ op ∈ p, OpFull c p op) : ∀ (m : Nat) (x : Ex), 0 ≤ x.ev.time ∧ x.ev.time ≤ 1099511627776 → actE p i m (shX b x) = shX b (actE p i m x) ∧ (actE p i m x).over = x.over
  | 0, x, _ => ⟨(sh_kill x i).1, (sh_kill (b := b) x i).2.1⟩
  | m + 1, x, ht => by
    cases hq : x.procs[i]? with
    | none =>
      have hq' : (shX b x).procs[i]? = none := hq
      constructor
      · simp only [actE, hq, hq']
      · simp only [actE, hq]
    | some q =>
      have hq' : (shX b x).procs[i]? = some q := hq
      rw [actE_succ p i m x q hq, actE_succ p i m (shX b x) q hq']
      cases hop : p[q.pc.toNat]? with
      | none => exact ⟨(sh_kill x i).1, (sh_kill (b := b) x i).2.1⟩
      | some op =>
        obtain ⟨h1, h2, h3⟩ := sh_stepR hb x ht i q (ho op (List.mem_of_getElem? hop))
        simp only
        rw [h1]
        simp only
        split
        · exact ⟨rfl, h2⟩
        · obtain ⟨g1, g2⟩ := sh_act i ho m (stepR x i q op).1 (by rw [h3]; exact ht)
          exact ⟨g1, g2.trans h2⟩
end
theorem sh_exec {c : Cfg} {x : Lp} {e : Evt} {b : Int} (hb : 0 ≤ b ∧ b ≤ 4294967295) (h : Ready c x e) (ht : e.time ≤ 1099511627776) :
    (execR c x (shE b e)).lp = (execR c x e).lp ∧ (execR c x (shE b e)).out = (execR c x e).out.map (shE b) ∧ (execR c x (shE b e)).gone = (execR c x e).gone ∧ (execR c x (shE b e)).over = false ∧ (execR c x e).over = false ∧ (execR c x (shE b e)).nil = (execR c x e).nil := by
  have ha' : actsE x (shE b e) = actsE x e := rfl
  rcases h.cases with ⟨hk, hx⟩ | ⟨hk, ha, hx⟩ | ⟨q, hk, ha, hx⟩
  · rw [hx]; unfold execR; rw [if_pos (show (shE b e).kind = 3 from hk)]; exact ⟨rfl, rfl, rfl, rfl, rfl, rfl⟩
  · rw [hx]; unfold execR; rw [if_neg (show ¬ (shE b e).kind = 3 from hk), ha', ha]; exact ⟨rfl, rfl, rfl, rfl, rfl, rfl⟩
  · rw [hx]; unfold execR; rw [if_neg (show ¬ (shE b e).kind = 3 from hk), ha', ha]
    obtain ⟨i, p, hi, hq, hpm, hp, hI⟩ := h.inv ha
    have hin : e.proc.toNat = i := by omega
    have hrun : runE c x e q = actE p i 16 ((beginE x e).setP i (wakeE e q)) := by unfold runE; rw [hin, hp]; rfl
    have hrun' : runE c x (shE b e) q = actE p i 16 (shX b ((beginE x e).setP i (wakeE e q))) := by
      unfold runE
      rw [show (shE b e).proc.toNat = i from hin, hp]; rfl
    obtain ⟨g1, g2⟩ := sh_act hb i (h.ops hpm).2 16 ((beginE x e).setP i (wakeE e q)) ⟨h.time.1, ht⟩
    simp only
    rw [hrun, hrun', g1]
    exact ⟨rfl, rfl, rfl, g2, g2, trivial⟩
theorem Ready.later {c : Cfg} {x : Lp} {e : Evt} (h : Ready c x e) {t : Int} (ht : 0 ≤ t ∧ t ≤ 1152921504606846976) : Ready c x { e with time := t } :=
  ⟨h.valid, h.len, h.proc, ht, h.key, h.arg⟩
end Go.Proofs.Ytdpeepljabbcfaa.K
