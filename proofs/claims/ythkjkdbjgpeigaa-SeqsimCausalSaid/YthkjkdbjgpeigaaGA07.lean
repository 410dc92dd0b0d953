/- For every input the statement of this claim returns true: texts of its proof, joined (part 8). -/
import Derived.Test.YthkjkdbjgpeigaaE3
import Derived.Test.YthkjkdbjgpeigaaGA06
set_option linter.unusedSectionVars false
set_option linter.unusedSimpArgs false
set_option linter.unusedVariables false
namespace Go.Proofs.Ythkjkdbjgpeigaa.K
open Go.Ev
set_option linter.unusedSimpArgs false
set_option linter.unusedVariables false
set_option maxRecDepth 10000
structure Ready (c : Cfg) (x : Lp) (e : Evt) : Prop where
  valid : Valid c
  len : x.procs.length ≤ 8
  proc : ∀ q ∈ x.procs, 0 ≤ q.prog ∧ q.prog < c.progs.length ∧ 0 ≤ q.pc ∧ q.pc ≤ ((c.progs[q.prog.toNat]?).getD []).length ∧ q.timer.length ≤ 80
  time : 0 ≤ e.time ∧ e.time ≤ 1152921504606846976
  key : e.key.length ≤ 80
  arg : ∀ q, actsE x e = some q → e.kind = 2 → 0 ≤ e.arg ∧ e.arg ≤ ((c.progs[q.prog.toNat]?).getD []).length
theorem opOk_of {c : Cfg} {p : List OpI} {op : OpI} (h : OpFull c p op) (hp : p.length ≤ 16) : OpOk' op := ⟨h.code, h.reg, fun k => by have := h.to k; omega⟩
section
variable {c : Cfg} {x : Lp} {e : Evt}
theorem acts_some {q : Pr} (h : actsE x e = some q) : (e.kind = 1 ∨ e.kind = 2) ∧ 0 ≤ e.proc ∧ x.procs[e.proc.toNat]? = some q ∧ q.alive = true := by
  unfold actsE at h
  split at h
  case isFalse => cases h
  rename_i hc
  rw [Option.bind_eq_some_iff] at h
  obtain ⟨q', hq, ha⟩ := h
  split at ha
  case isFalse => cases ha
  rename_i hal
  cases ha
  exact ⟨hc.1, hc.2, hq, hal⟩
theorem Ready.ops (h : Ready c x e) {p : List OpI} (hp : p ∈ c.progs) : p.length ≤ 16 ∧ ∀ op ∈ p, OpFull c p op := ⟨(h.valid.prog p hp).2.1, (h.valid.prog p hp).2.2⟩
theorem Ready.plen (h : Ready c x e) (k : Nat) : ((c.progs[k]?).getD []).length ≤ 16 := by
  cases hk : c.progs[k]? with
  | none => simp
  | some p => simpa using (h.ops (List.mem_of_getElem? hk)).1
theorem Ready.execOk (h : Ready c x e) {q : Pr} (ha : actsE x e = some q) : ExecOk c x e :=
  ⟨by have := h.len; omega, by have := h.key; omega, fun q hq => by obtain ⟨a, b, d, f, g⟩ := h.proc q hq; have := h.plen q.prog.toNat; exact ⟨a, b, d, by omega, by omega⟩,
    fun p hp => ⟨by have := (h.ops hp).1; omega, fun op ho => opOk_of ((h.ops hp).2 op ho) (h.ops hp).1⟩, fun k => by have := h.arg q ha k; have := h.plen q.prog.toNat; omega⟩
theorem Ready.inv (h : Ready c x e) {q : Pr} (ha : actsE x e = some q) : ∃ (i : Nat) (p : List OpI), e.proc = i ∧ x.procs[i]? = some q ∧ p ∈ c.progs ∧ c.progs[q.prog.toNat]? = some p ∧ EInv c e i x.procs q.prog p q.timer 16 (runE c x e q) := by
  obtain ⟨a1, a2, a3, a4⟩ := acts_some ha
  obtain ⟨i, hi⟩ : ∃ i : Nat, e.proc = i := ⟨_, (Int.toNat_of_nonneg a2).symm⟩
  have hin : e.proc.toNat = i := by omega
  rw [hin] at a3
  obtain ⟨p1, p2, p3, p4, p5⟩ := h.proc q (List.mem_of_getElem? a3)
  obtain ⟨p, hp⟩ : ∃ p, c.progs[q.prog.toNat]? = some p := ⟨_, List.getElem?_eq_getElem (by omega)⟩
  have hpm := List.mem_of_getElem? hp
  have hlt := (List.getElem?_eq_some_iff.1 a3).1
  have hgd : ((c.progs[q.prog.toNat]?).getD []).length = p.length := by rw [hp]; rfl
  rw [hgd] at p4
  refine ⟨i, p, hi, a3, hpm, hp, ?_⟩
  have hrun : runE c x e q = actE p i 16 ((beginE x e).setP i (wakeE e q)) := by unfold runE; rw [hin, hp]; rfl
  rw [hrun]
  have hg : q.timer = [] ∨ GoneOk q.timer (beginE x e) q.timer := .inr ⟨by omega, .inr (.inl rfl)⟩
  have h0 : EInv c e i x.procs q.prog p q.timer 0 (beginE x e) := by
    refine ⟨rfl, ⟨Nat.le_refl _, h.len⟩, ⟨q, a3, rfl, p3, p4, hg⟩, fun j _ _ => rfl, fun j q' hj hq' => ?_, ⟨Int.le_refl 0, Int.le_refl 0, Int.le_refl 0⟩, fun k ev hk => by simp [beginE] at hk, fun k ev ev' hk => by simp [beginE] at hk, fun g hg => by simp [beginE] at hg⟩
    have := (List.getElem?_eq_some_iff.1 hq').1
    change j < x.procs.length at this
    omega
  have h1 : EInv c e i x.procs q.prog p q.timer 0 ((beginE x e).setP i (wakeE e q)) := by
    refine h0.setP hlt (wake_prog e q) ?_ ?_
    · unfold wakeE; split
      next k => have := h.arg q ha k; rw [hgd] at this; exact this
      next => exact ⟨p3, p4⟩
    · unfold wakeE; split
      · by_cases ht : q.timer = e.key
        · simp [ht]
        · simp only [ht, if_false]; exact hg
      · exact hg
  have := EInv.act hlt h.time (by have := h.key; omega) (by have := (h.ops hpm).1; omega) hi (h.ops hpm).2 16 0 _ (by omega) h1
  exact this
theorem ActInv.act {i : Nat} {p : List OpI} (hpl : p.length ≤ 1000) (ho : ∀ op ∈ p, OpOk' op) : ∀ (m n : Nat) (y : Ex), ActInv e i n y → ActInv e i (n + m) (actE p i m y)
  | 0, n, y, h => by
    obtain ⟨q, h1, h2⟩ := h.has
    show ActInv e i n (killE y i)
    unfold killE; rw [h1]; exact h.pc h1 h2 false
  | m + 1, n, y, h => by
    have mono : ∀ {k : Nat} {z : Ex}, ActInv e i k z → ∀ l, k ≤ l → ActInv e i l z := fun hz l hl => ⟨hz.ev, hz.has, hz.procs, by have := hz.out; omega, by have := hz.gone; omega⟩
    obtain ⟨q, h1, h2⟩ := h.has
    rw [actE_succ p i m y q h1]
    cases hop : p[q.pc.toNat]? with
    | none =>
      refine mono (k := n) ?_ _ (by omega)
      show ActInv e i n (killE y i)
      unfold killE; rw [h1]; exact h.pc h1 h2 false
    | some op =>
      have hlp := (List.getElem?_eq_some_iff.1 hop).1
      have hs := h.stepR h1 ⟨by omega, by omega⟩ (ho op (List.mem_of_getElem? hop))
      simp only
      split
      · exact mono hs _ (by omega)
      · have := ActInv.act hpl ho m (n + 1) _ hs
        rw [show n + (m + 1) = n + 1 + m from by omega]; exact this
theorem Ready.goneLen (h : Ready c x e) {q : Pr} (ha : actsE x e = some q) : (runE c x e q).gone.length ≤ 16 := by
  obtain ⟨i, p, hi, hq, hpm, hp, _⟩ := h.inv ha
  have hin : e.proc.toNat = i := by omega
  have hrun : runE c x e q = actE p i 16 ((beginE x e).setP i (wakeE e q)) := by unfold runE; rw [hin, hp]; rfl
  have h0 := begin_inv c x e (h.execOk ha) hi hq
  have := ActInv.act (by have := (h.ops hpm).1; omega) (fun op ho => opOk_of ((h.ops hpm).2 op ho) (h.ops hpm).1) 16 0 _ h0
  rw [hrun]; have := this.gone; omega
structure XRes where
  lp : Lp
  out : List Evt
  gone : List (List Int)
  over : Bool
  nil : Bool
def execR (c : Cfg) (x : Lp) (e : Evt) : XRes :=
  if e.kind = 3 then ⟨⟨x.r0, x.r1, x.procs, w64 (x.sum + e.arg)⟩, [], [], false, true⟩
  else match actsE x e with
    | none => ⟨x, [], [], false, true⟩
    | some q => ⟨endE (runE c x e q), (runE c x e q).out, (runE c x e q).gone, (runE c x e q).over, false⟩
theorem Exec_ev (h : Ready c x e) : callZ (evL T) n_process_Exec [(.agg [(.fsl ((c.lps).map lpC) false), (.fsl ((c.progs).map progC) false), (.v (.int .i64 (c.look))), (.v (.int .i64 (c.fin))), (.v (.int .i64 (c.cap)))]), (.agg [(.v (.int .i64 (x.r0))), (.v (.int .i64 (x.r1))), (.fsl ((x.procs).map Pr.r) false), (.v (.int .i64 (x.sum)))]), (.agg [(.v (.int .i64 (e.time))), (.fsl ((e.key).map intC) false), (.v (.int .i64 (e.lp))), (.v (.int .i64 (e.kind))), (.v (.int .i64 (e.proc))), (.v (.int .i64 (e.arg)))])] = some (.tup [(.agg [(.v (.int .i64 ((execR c x e).lp.r0))), (.v (.int .i64 ((execR c x e).lp.r1))), (.fsl (((execR c x e).lp.procs).map Pr.r) false), (.v (.int .i64 ((execR c x e).lp.sum)))]), (.fsl (((execR c x e).out).map Evt.r) (execR c x e).nil), (.fsl (((execR c x e).gone).map keyC) (execR c x e).nil), (.v (.bool ((execR c x e).over)))]) := by
  unfold execR
  by_cases hk : e.kind = 3
  · rw [if_pos hk]; exact Exec_msg c x e hk
  rw [if_neg hk]
  cases ha : actsE x e with
  | none => exact Exec_none c x e hk ha
  | some q => exact Exec_run c x e (h.execOk ha) ha
theorem Ready.sizes (h : Ready c x e) : (execR c x e).lp.procs.length ≤ 8 ∧ (∀ q ∈ (execR c x e).lp.procs, q.timer.length ≤ 100) ∧ (execR c x e).out.length ≤ 16 ∧ (∀ ev ∈ (execR c x e).out, ev.key.length ≤ 100) ∧ (∀ g ∈ (execR c x e).gone, g.length ≤ 100) ∧ (execR c x e).gone.length ≤ 16 := by
  unfold execR
  by_cases hk : e.kind = 3
  · rw [if_pos hk]
    exact ⟨h.len, fun q hq => by have := (h.proc q hq).2.2.2.2; omega, by simp, fun _ h => by simp at h, fun _ h => by simp at h, by simp⟩
  rw [if_neg hk]
  cases ha : actsE x e with
  | none => exact ⟨h.len, fun q hq => by have := (h.proc q hq).2.2.2.2; omega, by simp, fun _ h => by simp at h, fun _ h => by simp at h, by simp⟩
  | some q =>
    obtain ⟨i, p, hi, hq, hpm, hp, hI⟩ := h.inv ha
    refine ⟨hI.len.2, fun q' hq' => ?_, by have := hI.cnt; show (runE c x e q).out.length ≤ 16; omega, fun ev hev => ?_, fun g hg => (hI.gone g hg).1, h.goneLen ha⟩
    · obtain ⟨j, hj⟩ := List.mem_iff_getElem?.1 hq'
      change (runE c x e q).procs[j]? = some q' at hj
      by_cases hji : j = i
      · obtain ⟨q2, b1, _, _, _, b5⟩ := hI.own
        subst hji
        rw [hj] at b1; cases b1
        rcases b5 with b5 | b5
        · rw [b5]; simp
        · exact b5.1
      · by_cases hjl : j < x.procs.length
        · rw [hI.old j hji hjl] at hj
          have := (h.proc q' (List.mem_of_getElem? hj)).2.2.2.2; omega
        · rw [(hI.new j q' (by omega) hj).2.2.1]; simp
    · obtain ⟨k, hk'⟩ := List.mem_iff_getElem?.1 hev
      obtain ⟨m, hm, _⟩ := (hI.outs k ev hk').key
      rw [hm]; have := h.key; simp; omega
end
end Go.Proofs.Ythkjkdbjgpeigaa.K
namespace Go.Proofs.Ythkjkdbjgpeigaa.K
open Go.Ev
set_option linter.unusedSimpArgs false
set_option linter.unusedVariables false
set_option maxRecDepth 10000
theorem itB_each {f : Env → Store → R3} {s : Env → Store → Option (Env × Store)} {τ : Type} (l : List τ) (E : Nat → Env) (σ : Store) (Q : CExit × Env × Store → Prop)
    (good : ∀ (i : Nat) (x : τ), i < l.length → l[i]? = some x → it1 f s (E i) σ = some (.inl (E (i + 1), σ)))
    (last : ∃ y, it1 f s (E l.length) σ = some (.inr y) ∧ Q y) : ∃ y, itB f s (E 0) σ = some y ∧ Q y := by
  have H := itB_find l E σ (fun _ => true) Q (fun _ _ => False) (fun i x h1 h2 _ => good i x h1 h2) (fun i x _ _ h => by cases h) last
  obtain ⟨y, h1, h2 | ⟨h2, _⟩⟩ := H
  · exact ⟨y, h1, h2.2⟩
  · simp at h2
section
variable {c : Cfg} {x : Lp} {e : Evt}
theorem Ready.cases (h : Ready c x e) : (e.kind = 3 ∧ execR c x e = ⟨⟨x.r0, x.r1, x.procs, w64 (x.sum + e.arg)⟩, [], [], false, true⟩) ∨ (¬ e.kind = 3 ∧ actsE x e = none ∧ execR c x e = ⟨x, [], [], false, true⟩) ∨
    ∃ q, ¬ e.kind = 3 ∧ actsE x e = some q ∧ execR c x e = ⟨endE (runE c x e q), (runE c x e q).out, (runE c x e q).gone, (runE c x e q).over, false⟩ := by
  unfold execR
  by_cases hk : e.kind = 3
  · exact .inl ⟨hk, if_pos hk⟩
  · rw [if_neg hk]
    cases ha : actsE x e with
    | none => exact .inr (.inl ⟨hk, rfl, rfl⟩)
    | some q => exact .inr (.inr ⟨q, hk, rfl, rfl⟩)
theorem Ready.outs (h : Ready c x e) : ∃ X : Ex, X.procs = (execR c x e).lp.procs ∧ (∀ k ev, (execR c x e).out[k]? = some ev → EvOk c e X k ev) ∧
    ∀ k ev ev', (execR c x e).out[k]? = some ev → (execR c x e).out[k + 1]? = some ev' → ∃ m m', ev.key = e.key ++ [m] ∧ ev'.key = e.key ++ [m'] ∧ m < m' := by
  rcases h.cases with ⟨_, hx⟩ | ⟨_, _, hx⟩ | ⟨q, _, ha, hx⟩
  · rw [hx]; exact ⟨beginE x e, rfl, fun k ev hk => by simp at hk, fun k ev ev' hk => by simp at hk⟩
  · rw [hx]; exact ⟨beginE x e, rfl, fun k ev hk => by simp at hk, fun k ev ev' hk => by simp at hk⟩
  · rw [hx]
    obtain ⟨i, p, hi, hq, hpm, hp, hI⟩ := h.inv ha
    exact ⟨runE c x e q, rfl, hI.outs, hI.inc⟩
theorem Ready.state (h : Ready c x e) : x.procs.length ≤ (execR c x e).lp.procs.length ∧ ∀ (j : Nat) (q' : Pr), (execR c x e).lp.procs[j]? = some q' →
    (badP c q' = false ∧ (x.procs.length ≤ j → q'.alive = true ∧ q'.pc = 0) ∧ ∀ q, x.procs[j]? = some q → q'.prog = q.prog ∧ ((j : Int) ≠ e.proc → q' = q)) := by
  have old : ∀ q ∈ x.procs, badP c q = false := by
    intro q hq
    obtain ⟨a, b, d, f, g⟩ := h.proc q hq
    simp only [badP, a, b, d, f, decide_true, Bool.and_self, Bool.not_true]
  rcases h.cases with ⟨_, hx⟩ | ⟨_, _, hx⟩ | ⟨q0, _, ha, hx⟩
  · rw [hx]
    refine ⟨Nat.le_refl _, fun j q' hj => ⟨old q' (List.mem_of_getElem? hj), fun hl => ?_, fun q hq => ?_⟩⟩
    · have := (List.getElem?_eq_some_iff.1 hj).1; simp only at this; omega
    · simp only at hj; rw [hq] at hj; cases hj; exact ⟨rfl, fun _ => rfl⟩
  · rw [hx]
    refine ⟨Nat.le_refl _, fun j q' hj => ⟨old q' (List.mem_of_getElem? hj), fun hl => ?_, fun q hq => ?_⟩⟩
    · have := (List.getElem?_eq_some_iff.1 hj).1; simp only at this; omega
    · simp only at hj; rw [hq] at hj; cases hj; exact ⟨rfl, fun _ => rfl⟩
  · rw [hx]
    obtain ⟨i, p, hi, hq0, hpm, hp, hI⟩ := h.inv ha
    have hlt := (List.getElem?_eq_some_iff.1 hq0).1
    obtain ⟨p1, p2, p3, p4, p5⟩ := h.proc q0 (List.mem_of_getElem? hq0)
    refine ⟨hI.len.1, fun j q' hj => ?_⟩
    change (runE c x e q0).procs[j]? = some q' at hj
    by_cases hji : j = i
    · subst hji
      obtain ⟨q2, b1, b2, b3, b4, b5⟩ := hI.own
      rw [hj] at b1; cases b1
      refine ⟨?_, fun hl => by omega, fun q hq => ?_⟩
      · simp only [badP, b2, b3, b4, hp, p1, p2, Option.getD_some, decide_true, Bool.and_self, Bool.not_true]
      · rw [hq0] at hq; cases hq; exact ⟨b2, fun hne => absurd hi.symm hne⟩
    · by_cases hjl : j < x.procs.length
      · rw [hI.old j hji hjl] at hj
        refine ⟨old q' (List.mem_of_getElem? hj), fun hl => by omega, fun q hq => ?_⟩
        rw [hq] at hj; cases hj; exact ⟨rfl, fun _ => rfl⟩
      · obtain ⟨n1, n2, n3, n4, n5⟩ := hI.new j q' (by omega) hj
        refine ⟨?_, fun _ => ⟨n1, n2⟩, fun q hq => ?_⟩
        · simp [badP, n2, n4, n5]
        · have := (List.getElem?_eq_some_iff.1 hq).1; omega
end
end Go.Proofs.Ythkjkdbjgpeigaa.K
namespace Go.Proofs.Ythkjkdbjgpeigaa.K
open Go.Ev
set_option linter.unusedSimpArgs false
set_option linter.unusedVariables false
set_option maxRecDepth 10000
structure TOk (e : Evt) (L : Nat) (ev : Evt) : Prop where
  tim : ev.kind = 2 → ev.proc = e.proc ∧ 0 ≤ ev.arg ∧ ev.arg < L
  msg : ev.kind = 3 → ev.proc = 0
def TInv (e : Evt) (L B : Nat) (x : Ex) : Prop := x.ev = e ∧ (∀ ev ∈ x.out, TOk e L ev) ∧ ∀ q ∈ x.procs, q.timer.length ≤ B
section
variable {e : Evt} {L B : Nat} {x : Ex}
theorem TInv.same (h : TInv e L B x) {y : Ex} (h1 : y.ev = x.ev) (h2 : y.out = x.out) (h3 : y.procs = x.procs) : TInv e L B y := ⟨by rw [h1]; exact h.1, by rw [h2]; exact h.2.1, by rw [h3]; exact h.2.2⟩
theorem TInv.setP (h : TInv e L B x) (i : Nat) {q : Pr} (hq : q.timer.length ≤ B) : TInv e L B (x.setP i q) := by
  refine ⟨h.1, h.2.1, fun q' hq' => ?_⟩
  rcases List.mem_or_eq_of_mem_set hq' with hq' | rfl
  · exact h.2.2 q' hq'
  · exact hq
theorem TInv.at (h : TInv e L B x) {i : Nat} {q : Pr} (hq : x.procs[i]? = some q) : q.timer.length ≤ B := h.2.2 q (List.mem_of_getElem? hq)
theorem TInv.create (h : TInv e L B x) (d : Int) {s : Evt} (hs : s.kind = 2 → s.proc = e.proc ∧ 0 ≤ s.arg ∧ s.arg < L) (hm : s.kind = 3 → s.proc = 0) : TInv e L B (x.create d s) := by
  refine ⟨h.1, fun ev hev => ?_, h.2.2⟩
  unfold Ex.create at hev
  simp only at hev
  split at hev
  · exact h.2.1 ev hev
  · rcases List.mem_append.1 hev with hev | hev
    · exact h.2.1 ev hev
    · rw [List.mem_singleton] at hev; subst hev; exact ⟨hs, hm⟩
theorem TInv.stop (h : TInv e L B x) (i : Nat) (q : Pr) : TInv e L B (x.stopE i q) := by
  unfold Ex.stopE; split
  · exact TInv.same (h.setP i (q := { q with timer := [] }) (Nat.zero_le _)) rfl rfl rfl
  · exact h
theorem TInv.kill (h : TInv e L B x) (i : Nat) : TInv e L B (killE x i) := by
  unfold killE; split
  next q hq => exact h.setP i (q := { q with alive := false }) (show q.timer.length ≤ B from h.at hq)
  · exact h
theorem TInv.step (h : TInv e L B x) (i : Nat) (q : Pr) (op : OpI) (hq : q.timer.length ≤ B) (hB : e.key.length + 1 ≤ B) (ho : op.code = 3 → 0 ≤ op.b ∧ op.b < L) : TInv e L B (stepE x i q op).1 := by
  have he := h.1
  unfold stepE
  split
  · exact h.create _ (fun k => absurd k (by show ¬ (1 : Int) = 2; decide)) (fun k => absurd k (by show ¬ (1 : Int) = 3; decide))
  split
  · exact h.create _ (fun k => absurd k (by show ¬ (3 : Int) = 2; decide)) (fun _ => rfl)
  split
  next k =>
    show TInv e L B (x.timerE i q op)
    unfold Ex.timerE
    refine TInv.setP ((h.stop i q).create op.a (s := x.ownE 2 x.ev.proc op.b) (fun _ => ⟨by show x.ev.proc = e.proc; rw [he], ho k⟩) (fun k => absurd k (by show ¬ (2 : Int) = 3; decide))) i ?_
    show (x.stopE i q).kid.length ≤ B
    unfold Ex.kid
    rw [(h.stop i q).1]; simp; exact hB
  split
  · exact h.stop i q
  split
  · show TInv e L B (x.spawnE op)
    unfold Ex.spawnE; split
    · have h2 : TInv e L B ({ x with procs := x.procs ++ [⟨op.a, 0, true, []⟩] } : Ex) := by
        refine ⟨h.1, h.2.1, fun q' hq' => ?_⟩
        rcases List.mem_append.1 hq' with hq' | hq'
        · exact h.2.2 q' hq'
        · rw [List.mem_singleton] at hq'; subst hq'; exact Nat.zero_le _
      exact h2.create _ (fun k => absurd k (by show ¬ (1 : Int) = 2; decide)) (fun k => absurd k (by show ¬ (1 : Int) = 3; decide))
    · exact h
  split
  · show TInv e L B (x.setReg _ _)
    unfold Ex.setReg; split <;> exact h.same rfl rfl rfl
  split
  · show TInv e L B (if _ then _ else _)
    split
    · exact h.setP i (q := { q with pc := op.c }) hq
    · exact h
  · exact h
theorem TInv.act {p : List OpI} (hB : e.key.length + 1 ≤ B) (ho : ∀ op ∈ p, op.code = 3 → 0 ≤ op.b ∧ op.b < L) (i : Nat) : ∀ (m : Nat) {x : Ex}, TInv e L B x → TInv e L B (actE p i m x)
  | 0, x, h => h.kill i
  | m + 1, x, h => by
    unfold actE
    split
    · exact h
    rename_i q hq
    split
    · exact h.kill i
    rename_i op hop
    have h0 : TInv e L B (x.setP i { q with pc := w64 (q.pc + 1) }) := h.setP i (show q.timer.length ≤ B from h.at hq)
    have hs := h0.step i { q with pc := w64 (q.pc + 1) } op (show q.timer.length ≤ B from h.at hq) hB (ho op (List.mem_of_getElem? hop))
    split
    · exact hs
    split
    · exact hs.kill i
    · exact TInv.act hB ho i m hs
end
theorem Ready.tims {c : Cfg} {x : Lp} {e : Evt} (h : Ready c x e) {B : Nat} (hB : e.key.length + 1 ≤ B) (hx : ∀ q ∈ x.procs, q.timer.length ≤ B) : (∀ ev ∈ (execR c x e).out, (ev.kind = 3 → ev.proc = 0) ∧ (ev.kind = 2 → ∃ q p, x.procs[e.proc.toNat]? = some q ∧ c.progs[q.prog.toNat]? = some p ∧ ev.proc = e.proc ∧ 0 ≤ ev.arg ∧ ev.arg < p.length)) ∧ ∀ q ∈ (execR c x e).lp.procs, q.timer.length ≤ B := by
  rcases h.cases with ⟨_, hx'⟩ | ⟨_, _, hx'⟩ | ⟨q, _, ha, hx'⟩
  · rw [hx']; exact ⟨fun ev hev => by simp at hev, hx⟩
  · rw [hx']; exact ⟨fun ev hev => by simp at hev, hx⟩
  · rw [hx']
    obtain ⟨i, p, hi, hq, hpm, hp, _⟩ := h.inv ha
    have hw : (wakeE e q).timer.length ≤ B := by
      have := hx q (List.mem_of_getElem? hq)
      unfold wakeE; split
      · show (if q.timer = e.key then [] else q.timer).length ≤ B
        split
        · exact Nat.zero_le _
        · exact this
      · exact this
    have h0 : TInv e p.length B (beginE x e) := ⟨rfl, fun ev hev => (by cases hev), hx⟩
    have hT : TInv e p.length B (runE c x e q) := by
      unfold runE
      rw [hp]
      exact TInv.act hB (fun op ho k => by have := ((h.ops hpm).2 op ho).timer k; exact ⟨this.2.2.1, this.2.2.2⟩) _ 16 (h0.setP e.proc.toNat hw)
    refine ⟨fun ev hev => ?_, hT.2.2⟩
    have := hT.2.1 ev hev
    exact ⟨this.msg, fun k => ⟨q, p, by rw [hi, Int.toNat_natCast]; exact hq, hp, this.tim k⟩⟩
end Go.Proofs.Ythkjkdbjgpeigaa.K
namespace Go.Proofs.Ythkjkdbjgpeigaa.K
open Go.Ev
set_option linter.unusedSimpArgs false
set_option linter.unusedVariables false
set_option maxRecDepth 10000
theorem cmp_isNaN_ev (a : Int) : callZ (evL T) n_cmp_isNaN_int [(.v (.int .i64 (a)))] = some (.v (.bool (false))) := by
  rw [callZ, evL_code ext_cmp_isNaN_int code_cmp_isNaN_int]
  simp only [c_cmp_isNaN_int, Ev.runFunc, Ev.exec, Ev.evOpers, Ev.evOper, Ev.item_op, Ev.evOp, Ev.Opnd.ev, Ev.Env.get, Ev.Env.set, Ev.look, Ev.argVars, Ev.bin_neq, Ev.resVals, Ev.resVal, Ev.resOf, Ev.kill, Ev.leave, Ev.storeLo, Ev.lo_v, Ev.frz_lo, ↓Ev.obind, ↓reduceIte, List.length_cons, List.length_nil, List.take_nil, Nat.reduceEqDiff, reduceCtorEq, decide_false, and_self, ne_eq, not_true_eq_false, Nat.zero_add, eq_self]
theorem cmp_Compare_ev (a b : Int) : callZ (evL T) n_cmp_Compare_int [(.v (.int .i64 (a))), (.v (.int .i64 (b)))] = some (.v (.int .i64 (cmpZ a b))) := by
  have h0 := cmp_isNaN_ev
  rw [callZ, evL_code ext_cmp_Compare_int code_cmp_Compare_int]
  by_cases h1 : a < b
  · simp only [c_cmp_Compare_int, cmpZ, h0, h1, Ev.runFunc, Ev.exec, Ev.evOpers, Ev.evOper, Ev.item_op, Ev.item_P, Ev.evOp, Ev.evs, Ev.Opnd.ev, Ev.Env.get, Ev.Env.set, Ev.look, Ev.argVars, Ev.bin_lss, Ev.resVals, Ev.resVal, Ev.resOf, Ev.kill, Ev.leave, Ev.storeLo, Ev.lo_v, Ev.los_nil, Ev.los_cons, Ev.frz_lo, ↓Ev.obind, ↓reduceIte, List.length_cons, List.length_nil, List.take_nil, Nat.reduceAdd, Nat.reduceEqDiff, Int.reduceNeg, reduceCtorEq, decide_true, Bool.and_self, Bool.false_eq_true, and_self, Nat.zero_add, eq_self]
  by_cases h2 : a > b
  · simp only [c_cmp_Compare_int, cmpZ, h0, h1, h2, Ev.runFunc, Ev.exec, Ev.evOpers, Ev.evOper, Ev.item_op, Ev.item_P, Ev.evOp, Ev.evs, Ev.Opnd.ev, Ev.Env.get, Ev.Env.set, Ev.look, Ev.argVars, Ev.bin_lss, Ev.bin_gtr, Ev.resVals, Ev.resVal, Ev.resOf, Ev.kill, Ev.leave, Ev.storeLo, Ev.lo_v, Ev.los_nil, Ev.los_cons, Ev.frz_lo, ↓Ev.obind, ↓reduceIte, List.length_cons, List.length_nil, List.take_nil, Nat.reduceAdd, Nat.reduceEqDiff, Int.reduceNeg, reduceCtorEq, decide_true, decide_false, Bool.and_self, Bool.false_eq_true, and_self, Nat.zero_add, eq_self]
  · simp only [c_cmp_Compare_int, cmpZ, h0, h1, h2, Ev.runFunc, Ev.exec, Ev.evOpers, Ev.evOper, Ev.item_op, Ev.item_P, Ev.evOp, Ev.evs, Ev.Opnd.ev, Ev.Env.get, Ev.Env.set, Ev.look, Ev.argVars, Ev.bin_lss, Ev.bin_gtr, Ev.resVals, Ev.resVal, Ev.resOf, Ev.kill, Ev.leave, Ev.storeLo, Ev.lo_v, Ev.los_nil, Ev.los_cons, Ev.frz_lo, ↓Ev.obind, ↓reduceIte, List.length_cons, List.length_nil, List.take_nil, Nat.reduceAdd, Nat.reduceEqDiff, Int.reduceNeg, reduceCtorEq, decide_false, Bool.and_self, Bool.false_eq_true, and_self, Nat.zero_add, eq_self]
theorem cmp_Or_ev (x z : Int) (c : Bool) : callZ (evL T) n_cmp_Or_int [(.fsl (([x, z]).map intC) c)] = some (.v (.int .i64 (if x = 0 then z else x))) := by
  have hL : ∃ y, itB (exec (evL T) itL none c_cmp_Or_int_L1) (Ev.settle [3, 6, 7, 8] true 0) ⟨[(3, (.v (.int .i64 (0)))), (6, (.fsl (([x, z]).map intC) c)), (7, (.v (.int .i64 (2)))), (8, (.v (.int .i64 (0))))], []⟩ [] = some y ∧ ([x, z].all (fun v => decide (v = 0)) = true ∧ (y.1 = .exit 0 ∧ y.2.1.marks = [] ∧ y.2.2 = [] ∧ Ev.look y.2.1.vars 3 = some (.v (.int .i64 (0)))) ∨
      [x, z].all (fun v => decide (v = 0)) = false ∧ ∃ v, [x, z].find? (fun v => !decide (v = 0)) = some v ∧ (y.1 = .ret ∧ y.2.1.marks = [] ∧ y.2.2 = [] ∧ Ev.look y.2.1.vars 2 = some (.v (.int .i64 (v))))) := by
    refine itB_find [x, z] (fun i => ⟨[(3, (.v (.int .i64 (0)))), (6, (.fsl (([x, z]).map intC) c)), (7, (.v (.int .i64 (2)))), (8, (.v (.int .i64 (i))))], []⟩) [] (fun v => decide (v = 0)) _ (fun v y => _) ?_ ?_ ?_
    · intro i v hi hv hp
      have hi2 : (i : Int) < 2 := by simp at hi; omega
      have hw : IntKind.i64.wrap ((i : Int) + 1) = ((i + 1 : Nat) : Int) := by rw [w64_small (by omega) (by omega)]; simp
      have hp' := of_decide_eq_true hp
      subst hp'
      have hl := ints_lo 0 [x, z]
      generalize [x, z] = l at hv hl ⊢
      simp only [c_cmp_Or_int_L1, Int.natCast_nonneg, Int.toNat_natCast, List.getElem?_map, Option.map_some, hv, hl, hi2, hw, intC, Ev.exec, Ev.evOpers, Ev.evOper, Ev.item_op, Ev.evOp, Ev.Opnd.ev, Ev.Env.get, Ev.Env.set, Ev.look, Ev.cellsAt, Ev.loadC, Ev.bin_add, Ev.bin_neq, Ev.bin_lss, Ev.settle, Ev.keep, Ev.varsLo, Ev.marksLo, Ev.storeLo, Ev.lo_v, Ev.lo_fsl, ↓Ev.obind, Ev.it1, ↓reduceIte, List.length_cons, List.length_nil, List.take_nil, List.head?_cons, Nat.reduceEqDiff, decide_true, decide_false, Bool.and_self, Bool.false_eq_true, and_self, ne_eq, not_true_eq_false, Nat.zero_add, eq_self]
    · intro i v hi hv hp
      have hi2 : (i : Int) < 2 := by simp at hi; omega
      have hp' : ¬ v = 0 := of_decide_eq_false hp
      have hl := ints_lo 0 [x, z]
      generalize [x, z] = l at hv hl ⊢
      simp only [c_cmp_Or_int_L1, Int.natCast_nonneg, Int.toNat_natCast, List.getElem?_map, Option.map_some, hv, hi2, hp', intC, Ev.exec, Ev.evOpers, Ev.evOper, Ev.item_op, Ev.evOp, Ev.Opnd.ev, Ev.Env.get, Ev.Env.set, Ev.look, Ev.cellsAt, Ev.loadC, Ev.bin_neq, Ev.bin_lss, ↓Ev.obind, Ev.it1, ↓reduceIte, List.length_cons, List.length_nil, List.head?_cons, Nat.reduceEqDiff, decide_true, Bool.false_eq_true, ne_eq, not_false_eq_true, Nat.zero_add, eq_self]
      exact ⟨_, rfl, rfl, rfl, rfl, rfl⟩
    · have hl := ints_lo 0 [x, z]
      rw [show ([x, z] : List Int).length = 2 from rfl]
      simp only [c_cmp_Or_int_L1, Int.lt_irrefl, Int.cast_ofNat_Int, Ev.exec, Ev.evOpers, Ev.evOper, Ev.item_op, Ev.evOp, Ev.Opnd.ev, Ev.Env.get, Ev.Env.set, Ev.look, Ev.bin_lss, ↓Ev.obind, Ev.it1, ↓reduceIte, Nat.reduceEqDiff, Int.cast_ofNat_Int, decide_false, Bool.false_eq_true, eq_self]
      exact ⟨_, rfl, rfl, rfl, rfl, rfl⟩
  obtain ⟨⟨y, e, σ⟩, k1, k2⟩ := hL
  simp only at k2
  have hl := ints_lo 0 [x, z]
  have hn : ([x, z].map intC).length = 2 := rfl
  rw [callZ, evL_code ext_cmp_Or_int code_cmp_Or_int]
  rcases k2 with ⟨k3, rfl, k4, rfl, k5⟩ | ⟨k3, v, k6, rfl, k4, rfl, k5⟩
  · have h1 : x = 0 ∧ z = 0 := by simpa using k3
    have h2 : (if x = 0 then z else x) = 0 := by rw [if_pos h1.1, h1.2]
    rw [h2]
    generalize [x, z].map intC = l at k1 hl hn ⊢
    simp only [c_cmp_Or_int, hn, Int.cast_ofNat_Int, k1, k4, k5, hl, Ev.runFunc, Ev.exec, Ev.evOpers, Ev.evOper, Ev.item_op, Ev.evOp, Ev.Opnd.ev, Ev.Env.get, Ev.Env.set, Ev.look, Ev.argVars, Ev.resVals, Ev.resVal, Ev.resOf, Ev.kill, Ev.leave, Ev.settle, Ev.keep, Ev.varsLo, Ev.marksLo, Ev.storeLo, Ev.lo_v, Ev.lo_fsl, Ev.frz_lo, ↓Ev.obind, ↓Ev.itL_itB, ↓reduceIte, List.length_cons, List.length_nil, List.take_nil, Nat.reduceEqDiff, Int.cast_ofNat_Int, reduceCtorEq, Bool.and_self, and_self, Nat.zero_add, eq_self]
  · have h1 : (if x = 0 then z else x) = v := by
      rw [List.find?_cons] at k6
      by_cases hx : x = 0
      · rw [if_pos hx]; simp [hx] at k6; exact k6.2
      · rw [if_neg hx]; simp [hx] at k6; exact k6
    rw [h1]
    generalize [x, z].map intC = l at k1 hl hn ⊢
    simp only [c_cmp_Or_int, hn, Int.cast_ofNat_Int, k1, k4, k5, hl, Ev.runFunc, Ev.exec, Ev.evOpers, Ev.evOper, Ev.item_op, Ev.evOp, Ev.Opnd.ev, Ev.Env.get, Ev.Env.set, Ev.look, Ev.argVars, Ev.resVals, Ev.resVal, Ev.resOf, Ev.kill, Ev.leave, Ev.settle, Ev.keep, Ev.varsLo, Ev.marksLo, Ev.storeLo, Ev.lo_v, Ev.lo_fsl, Ev.frz_lo, ↓Ev.obind, ↓Ev.itL_itB, ↓reduceIte, List.length_cons, List.length_nil, List.take_nil, Nat.reduceEqDiff, Int.cast_ofNat_Int, reduceCtorEq, Bool.and_self, and_self, Nat.zero_add, eq_self]
theorem evkey_first_ev (x z : Int) (c : Bool) : callZ (evL T) n_evkey_first [(.fsl (([x, z]).map intC) c)] = some (.v (.int .i64 (if x = 0 then z else x))) := by
  have h := cmp_Or_ev x z c
  have hl := ints_lo 0 [x, z]
  generalize [x, z].map intC = l at h hl ⊢
  rw [callZ, evL_code ext_evkey_first code_evkey_first]
  simp only [c_evkey_first, h, hl, Ev.runFunc, Ev.exec, Ev.evOpers, Ev.evOper, Ev.item_op, Ev.item_P, Ev.evOp, Ev.evs, Ev.Opnd.ev, Ev.Env.get, Ev.Env.set, Ev.look, Ev.argVars, Ev.resVals, Ev.resVal, Ev.resOf, Ev.kill, Ev.leave, Ev.storeLo, Ev.lo_v, Ev.lo_fsl, Ev.los_nil, Ev.los_cons, Ev.frz_lo, ↓Ev.obind, ↓reduceIte, List.length_cons, List.length_nil, List.take_nil, reduceCtorEq, Bool.and_self, and_self, Nat.zero_add, eq_self]
section
variable (a b : List Int) (c d : Bool)
theorem slices_Compare_L (h1 : a.length ≤ 9223372036854775807) (h2 : b.length ≤ 9223372036854775807) :
    ∃ y, itB (exec (evL T) itL none c_slices_Compare_Lint_int_L1) (Ev.settle [0, 1, 9, 10, 11] true 0) ⟨[(0, (.fsl ((a).map intC) c)), (1, (.fsl ((b).map intC) d)), (9, (.fsl ((a).map intC) c)), (10, (.v (.int .i64 (a.length)))), (11, (.v (.int .i64 (0))))], []⟩ [] = some y ∧
      ((a.zip b).all (fun z => decide (z.1 = z.2)) = true ∧ (a.length ≤ b.length ∧ y.1 = .exit 0 ∧ y.2.1.marks = [] ∧ y.2.2 = [] ∧ Ev.look y.2.1.vars 0 = some (.fsl ((a).map intC) c) ∧ Ev.look y.2.1.vars 1 = some (.fsl ((b).map intC) d) ∨ b.length < a.length ∧ y.1 = .ret ∧ y.2.1.marks = [] ∧ y.2.2 = [] ∧ Ev.look y.2.1.vars 4 = some (.v (.int .i64 (1)))) ∨
      (a.zip b).all (fun z => decide (z.1 = z.2)) = false ∧ ∃ x, (a.zip b).find? (fun z => !decide (z.1 = z.2)) = some x ∧ (y.1 = .ret ∧ y.2.1.marks = [] ∧ y.2.2 = [] ∧ Ev.look y.2.1.vars 4 = some (.v (.int .i64 (cmpZ x.1 x.2))))) := by
  have hzl : (a.zip b).length = min a.length b.length := List.length_zip
  refine itB_find (a.zip b) (fun i => ⟨[(0, (.fsl ((a).map intC) c)), (1, (.fsl ((b).map intC) d)), (9, (.fsl ((a).map intC) c)), (10, (.v (.int .i64 (a.length)))), (11, (.v (.int .i64 (i))))], []⟩) [] (fun z => decide (z.1 = z.2)) _ (fun x y => _) ?_ ?_ ?_
  · intro i x hi hx hp
    rw [hzl] at hi
    have hi' : (i : Int) < (a.length : Int) := by omega
    have hi2 : ¬ (i : Int) ≥ (b.length : Int) := by omega
    have hw : IntKind.i64.wrap ((i : Int) + 1) = ((i + 1 : Nat) : Int) := by rw [w64_small (by omega) (by omega)]; simp
    obtain ⟨hxa, hxb⟩ := List.getElem?_zip_eq_some.1 hx
    have hp' := of_decide_eq_true hp
    have hc := cmp_Compare_ev x.1 x.2
    rw [(cmpZ_zero x.1 x.2).2 hp'] at hc
    simp only [c_slices_Compare_Lint_int_L1, Int.natCast_nonneg, Int.toNat_natCast, List.getElem?_map, Option.map_some, hxa, hxb, hi', hi2, hw, hc, ints_lo, intC, Ev.exec, Ev.evOpers, Ev.evOper, Ev.item_op, Ev.item_P, Ev.evOp, Ev.evs, Ev.Opnd.ev, Ev.Env.get, Ev.Env.set, Ev.look, Ev.cellsAt, Ev.loadC, Ev.bin_add, Ev.bin_neq, Ev.bin_lss, Ev.bin_geq, Ev.settle, Ev.keep, Ev.varsLo, Ev.marksLo, Ev.storeLo, Ev.lo_v, Ev.lo_fsl, Ev.los_nil, Ev.los_cons, List.length_map, ↓Ev.obind, Ev.it1, ↓reduceIte, List.length_cons, List.length_nil, List.take_nil, List.head?_cons, Nat.reduceEqDiff, reduceCtorEq, decide_true, decide_false, Bool.and_self, Bool.false_eq_true, and_self, ne_eq, not_true_eq_false, Nat.zero_add, eq_self]
  · intro i x hi hx hp
    rw [hzl] at hi
    have hi' : (i : Int) < (a.length : Int) := by omega
    have hi2 : ¬ (i : Int) ≥ (b.length : Int) := by omega
    obtain ⟨hxa, hxb⟩ := List.getElem?_zip_eq_some.1 hx
    have hp' : ¬ x.1 = x.2 := of_decide_eq_false hp
    have hc := cmp_Compare_ev x.1 x.2
    have hz : ¬ cmpZ x.1 x.2 = 0 := fun h => hp' ((cmpZ_zero _ _).1 h)
    simp only [c_slices_Compare_Lint_int_L1, Int.natCast_nonneg, Int.toNat_natCast, List.getElem?_map, Option.map_some, hxa, hxb, hi', hi2, hz, hc, intC, Ev.exec, Ev.evOpers, Ev.evOper, Ev.item_op, Ev.item_P, Ev.evOp, Ev.evs, Ev.Opnd.ev, Ev.Env.get, Ev.Env.set, Ev.look, Ev.cellsAt, Ev.loadC, Ev.bin_neq, Ev.bin_lss, Ev.bin_geq, Ev.lo_v, Ev.los_nil, Ev.los_cons, List.length_map, ↓Ev.obind, Ev.it1, ↓reduceIte, List.length_cons, List.length_nil, List.head?_cons, Nat.reduceEqDiff, reduceCtorEq, decide_true, decide_false, Bool.and_self, Bool.false_eq_true, ne_eq, not_false_eq_true, Nat.zero_add, eq_self]
    exact ⟨_, rfl, rfl, rfl, rfl, rfl⟩
  · rw [hzl]
    by_cases hab : a.length ≤ b.length
    · rw [Nat.min_eq_left hab]
      simp only [c_slices_Compare_Lint_int_L1, Int.lt_irrefl, Ev.exec, Ev.evOpers, Ev.evOper, Ev.item_op, Ev.evOp, Ev.Opnd.ev, Ev.Env.get, Ev.Env.set, Ev.look, Ev.bin_lss, ↓Ev.obind, Ev.it1, ↓reduceIte, Nat.reduceEqDiff, reduceCtorEq, decide_false, Bool.false_eq_true, eq_self]
      exact ⟨_, rfl, .inl ⟨hab, rfl, rfl, rfl, rfl, rfl⟩⟩
    · rw [Nat.min_eq_right (by omega)]
      have h3 : (b.length : Int) < (a.length : Int) := by omega
      obtain ⟨x, hx⟩ : ∃ x, a[b.length]? = some x := ⟨_, List.getElem?_eq_getElem (by omega)⟩
      have h4 : (b.length : Int) ≥ (b.length : Int) := Int.le_refl _
      simp only [c_slices_Compare_Lint_int_L1, Int.natCast_nonneg, Int.toNat_natCast, List.getElem?_map, Option.map_some, h3, h4, hx, intC, Ev.exec, Ev.evOpers, Ev.evOper, Ev.item_op, Ev.evOp, Ev.Opnd.ev, Ev.Env.get, Ev.Env.set, Ev.look, Ev.cellsAt, Ev.loadC, Ev.bin_lss, Ev.bin_geq, List.length_map, ↓Ev.obind, Ev.it1, ↓reduceIte, List.length_cons, List.length_nil, List.head?_cons, Nat.reduceEqDiff, reduceCtorEq, decide_true, Bool.false_eq_true, Nat.zero_add, eq_self]
      exact ⟨_, rfl, .inr ⟨by omega, rfl, rfl, rfl, rfl⟩⟩
theorem slices_Compare_ev (h1 : a.length ≤ 9223372036854775807) (h2 : b.length ≤ 9223372036854775807) : callZ (evL T) n_slices_Compare_Lint_int [(.fsl ((a).map intC) c), (.fsl ((b).map intC) d)] = some (.v (.int .i64 (keysZ a b))) := by
  obtain ⟨⟨y, e, σ⟩, k1, k2⟩ := slices_Compare_L a b c d h1 h2
  simp only at k2
  obtain ⟨z1, z2⟩ := keysZ_find a b
  rw [callZ, evL_code ext_slices_Compare_Lint_int code_slices_Compare_Lint_int]
  rcases k2 with ⟨k3, ⟨k7, rfl, k4, rfl, k5, k6⟩ | ⟨k7, rfl, k4, rfl, k5⟩⟩ | ⟨k3, x, k7, rfl, k4, rfl, k5⟩
  · rw [z1 k3]
    by_cases hl : (a.length : Int) < (b.length : Int)
    · simp only [c_slices_Compare_Lint_int, k1, k4, k5, k6, hl, cmpZ, ints_lo, Ev.runFunc, Ev.exec, Ev.evOpers, Ev.evOper, Ev.item_op, Ev.evOp, Ev.Opnd.ev, Ev.Env.get, Ev.Env.set, Ev.look, Ev.argVars, Ev.bin_lss, Ev.resVals, Ev.resVal, Ev.resOf, Ev.kill, Ev.leave, Ev.settle, Ev.keep, Ev.varsLo, Ev.marksLo, Ev.storeLo, Ev.lo_v, Ev.lo_fsl, Ev.frz_lo, List.length_map, ↓Ev.obind, ↓Ev.itL_itB, ↓reduceIte, List.length_cons, List.length_nil, List.take_nil, Nat.reduceAdd, Nat.reduceEqDiff, Int.reduceNeg, reduceCtorEq, decide_true, Bool.and_self, and_self, Nat.zero_add, eq_self]
    · have hg : ¬ (a.length : Int) > (b.length : Int) := by omega
      simp only [c_slices_Compare_Lint_int, k1, k4, k5, k6, hl, hg, cmpZ, ints_lo, Ev.runFunc, Ev.exec, Ev.evOpers, Ev.evOper, Ev.item_op, Ev.evOp, Ev.Opnd.ev, Ev.Env.get, Ev.Env.set, Ev.look, Ev.argVars, Ev.bin_lss, Ev.resVals, Ev.resVal, Ev.resOf, Ev.kill, Ev.leave, Ev.settle, Ev.keep, Ev.varsLo, Ev.marksLo, Ev.storeLo, Ev.lo_v, Ev.lo_fsl, Ev.frz_lo, List.length_map, ↓Ev.obind, ↓Ev.itL_itB, ↓reduceIte, List.length_cons, List.length_nil, List.take_nil, Nat.reduceAdd, Nat.reduceEqDiff, Int.reduceNeg, reduceCtorEq, decide_false, Bool.and_self, Bool.false_eq_true, and_self, Nat.zero_add, eq_self]
  · have hl : ¬ (a.length : Int) < (b.length : Int) := by omega
    have hg : (a.length : Int) > (b.length : Int) := by omega
    rw [z1 k3]
    simp only [c_slices_Compare_Lint_int, k1, k4, k5, hl, hg, cmpZ, ints_lo, Ev.runFunc, Ev.exec, Ev.evOpers, Ev.evOper, Ev.item_op, Ev.evOp, Ev.Opnd.ev, Ev.Env.get, Ev.Env.set, Ev.look, Ev.argVars, Ev.resVals, Ev.resVal, Ev.resOf, Ev.kill, Ev.leave, Ev.settle, Ev.keep, Ev.varsLo, Ev.marksLo, Ev.storeLo, Ev.lo_v, Ev.lo_fsl, Ev.frz_lo, List.length_map, ↓Ev.obind, ↓Ev.itL_itB, ↓reduceIte, List.length_cons, List.length_nil, List.take_nil, Nat.reduceAdd, Nat.reduceEqDiff, Int.reduceNeg, reduceCtorEq, Bool.and_self, and_self, Nat.zero_add, eq_self]
  · rw [z2 x k7]
    simp only [c_slices_Compare_Lint_int, k1, k4, k5, ints_lo, Ev.runFunc, Ev.exec, Ev.evOpers, Ev.evOper, Ev.item_op, Ev.evOp, Ev.Opnd.ev, Ev.Env.get, Ev.Env.set, Ev.look, Ev.argVars, Ev.resVals, Ev.resVal, Ev.resOf, Ev.kill, Ev.leave, Ev.settle, Ev.keep, Ev.varsLo, Ev.marksLo, Ev.storeLo, Ev.lo_v, Ev.lo_fsl, Ev.frz_lo, List.length_map, ↓Ev.obind, ↓Ev.itL_itB, ↓reduceIte, List.length_cons, List.length_nil, List.take_nil, Nat.reduceAdd, Nat.reduceEqDiff, Int.reduceNeg, reduceCtorEq, Bool.and_self, and_self, Nat.zero_add, eq_self]
theorem evkey_CompareKeys_ev (h1 : a.length ≤ 9223372036854775807) (h2 : b.length ≤ 9223372036854775807) : callZ (evL T) n_evkey_CompareKeys [(.fsl ((a).map intC) c), (.fsl ((b).map intC) d)] = some (.v (.int .i64 (keysZ a b))) := by
  have h := slices_Compare_ev a b c d h1 h2
  rw [callZ, evL_code ext_evkey_CompareKeys code_evkey_CompareKeys]
  simp only [c_evkey_CompareKeys, h, ints_lo, Ev.runFunc, Ev.exec, Ev.evOpers, Ev.evOper, Ev.item_op, Ev.item_P, Ev.evOp, Ev.evs, Ev.Opnd.ev, Ev.Env.get, Ev.Env.set, Ev.look, Ev.argVars, Ev.resVals, Ev.resVal, Ev.resOf, Ev.kill, Ev.leave, Ev.storeLo, Ev.lo_v, Ev.lo_fsl, Ev.los_nil, Ev.los_cons, Ev.frz_lo, ↓Ev.obind, ↓reduceIte, List.length_cons, List.length_nil, List.take_nil, Nat.reduceAdd, Nat.reduceEqDiff, reduceCtorEq, Bool.and_self, and_self, Nat.zero_add, eq_self]
end
def cmpE (x y : Evt) : Int := if cmpZ x.time y.time = 0 then keysZ x.key y.key else cmpZ x.time y.time
theorem CompareEvents_evA (x y : Evt) (hx : x.key.length ≤ 9223372036854775807) (hy : y.key.length ≤ 9223372036854775807) (rs : Nat) (es : List (List AV)) (g : Nat) :
    (evL T).call n_evkey_CompareEvents [(.agg [(.v (.int .i64 (x.time))), (.fsl ((x.key).map intC) false), (.v (.int .i64 (x.lp))), (.v (.int .i64 (x.kind))), (.v (.int .i64 (x.proc))), (.v (.int .i64 (x.arg)))]), (.agg [(.v (.int .i64 (y.time))), (.fsl ((y.key).map intC) false), (.v (.int .i64 (y.lp))), (.v (.int .i64 (y.kind))), (.v (.int .i64 (y.proc))), (.v (.int .i64 (y.arg)))])] [.row rs es g] = some ((.v (.int .i64 (cmpE x y))), [.row rs es g]) := by
  obtain ⟨xt, xk, xl, xi, xp, xa⟩ := x
  obtain ⟨yt, yk, yl, yi, yp, ya⟩ := y
  have hc := cmp_Compare_ev xt yt
  have hk := evkey_CompareKeys_ev xk yk false false hx hy
  have hf := evkey_first_ev (cmpZ xt yt) (keysZ xk yk) true
  simp only [List.map_cons, List.map_nil, intC] at hf
  rw [evL_code ext_evkey_CompareEvents code_evkey_CompareEvents]
  simp only [c_evkey_CompareEvents, show ∀ v : List AV, List.replicate 2 v = [v, v] from fun _ => rfl, hc, hk, hf, cmpE, ite_self, ints_lo, Ev.runFunc, Ev.exec, Ev.evOpers, Ev.evOper, Ev.item_op, Ev.item_P, Ev.evOp, Ev.evs, Ev.Opnd.ev, Ev.Env.get, Ev.Env.set, Ev.look, Ev.argVars, Ev.cellsAt, Ev.loadC, Ev.fillR, Ev.AV.cells, Ev.AV.uc, Ev.plains, Ev.AV.plain, Ev.resVals, Ev.resVal, Ev.resOf, Ev.kill, Ev.leave, Ev.storeLo, Ev.SObj.lo, Ev.lo_v, Ev.lo_fsl, Ev.los_nil, Ev.los_cons, Ev.loss_nil, Ev.loss_cons, ↓Ev.obind, ↓reduceIte, List.length_cons, List.length_nil, List.take_succ_cons, List.take_nil, List.drop_succ_cons, List.drop_zero, List.set_cons_zero, List.set_cons_succ, List.head?_cons, Nat.reduceAdd, Nat.reduceEqDiff, Nat.reduceMul, Nat.reduceLT, Nat.reduceLeDiff, Nat.reducePow, reduceCtorEq, Bool.and_self, Bool.and_true, Bool.false_eq_true, and_self, true_and, ne_eq, not_false_eq_true, List.cons_ne_nil, Nat.zero_add, Nat.lt_add_one, eq_self]
end Go.Proofs.Ythkjkdbjgpeigaa.K
namespace Go.Ev
set_option linter.unusedSimpArgs false
set_option linter.unusedVariables false
section
variable {α : Type}
theorem get_mid {D L M : List α} {x : α} {n : Nat} (h : D = L ++ x :: M) (hn : n = L.length) : D[n]? = some x := by
  subst h hn; simp
theorem get_in {D L X M : List α} {i n : Nat} (h : D = L ++ (X ++ M)) (hi : i < X.length) (hn : n = L.length + i) : D[n]? = X[i]? := by
  subst h hn
  rw [List.getElem?_append_right (by omega), List.getElem?_append_left (by omega)]
  congr 1; omega
theorem swap_next {D L M : List α} {x y : α} {n m : Nat} (h : D = L ++ y :: x :: M) (hn : n = L.length) (hm : m = n + 1) : (D.set m y).set n x = L ++ x :: y :: M := by
  subst h hm hn; simp []
theorem swap_next' {D L M : List α} {x y : α} {n m : Nat} (h : D = L ++ y :: x :: M) (hn : n = L.length) (hm : m = n + 1) : (D.set n x).set m y = L ++ x :: y :: M := by
  subst h hm hn; simp []
theorem swap_far {D L M N : List α} {x y : α} {n m : Nat} (h : D = L ++ x :: (M ++ y :: N)) (hn : n = L.length) (hm : m = n + 1 + M.length) : (D.set n y).set m x = L ++ y :: (M ++ x :: N) := by
  subst h hm hn
  rw [List.set_append, if_neg (Nat.lt_irrefl _), Nat.sub_self, List.set_cons_zero, List.set_append, if_neg (by omega), show L.length + 1 + M.length - L.length = M.length + 1 by omega, List.set_cons_succ, List.set_append, if_neg (Nat.lt_irrefl _), Nat.sub_self, List.set_cons_zero]
variable {R : α → α → Prop}
theorem cross (tr : ∀ a b c, R a b → R b c → R a c) {X Y : List α} (hX : X.Pairwise R) (hY : Y.Pairwise R) (h : ∀ u v, X[X.length - 1]? = some u → Y[0]? = some v → R u v) : ∀ a ∈ X, ∀ b ∈ Y, R a b := by
  intro a ha b hb
  obtain ⟨i, hi⟩ := List.mem_iff_getElem?.1 ha
  obtain ⟨j, hj⟩ := List.mem_iff_getElem?.1 hb
  obtain ⟨hi', hi⟩ := List.getElem?_eq_some_iff.1 hi
  obtain ⟨hj', hj⟩ := List.getElem?_eq_some_iff.1 hj
  rw [List.pairwise_iff_getElem] at hX hY
  have h0 := h _ _ (List.getElem?_eq_getElem (by omega)) (List.getElem?_eq_getElem (by omega))
  have h1 : R a Y[0] := by
    by_cases c : i = X.length - 1
    · subst c; rw [← hi]; exact h0
    · exact tr _ _ _ (by rw [← hi]; exact hX i (X.length - 1) hi' (by omega) (by omega)) h0
  by_cases c : j = 0
  · subst c; rw [← hj]; exact h1
  · exact tr _ _ _ h1 (by rw [← hj]; exact hY 0 j (by omega) hj' (by omega))
theorem merge_split (tr : ∀ a b c, R a b → R b c → R a c) {X1 X2 Y1 Y2 Z1 Z2 : List α} (hX : (X1 ++ X2).Pairwise R) (hY : (Y1 ++ Y2).Pairwise R)
    (h1 : ∀ u v, X1[X1.length - 1]? = some u → Y2[0]? = some v → R u v) (h2 : ∀ u v, Y1[Y1.length - 1]? = some u → X2[0]? = some v → R u v)
    (p1 : Z1.Perm (X1 ++ Y1)) (p2 : Z2.Perm (X2 ++ Y2)) (s1 : Z1.Pairwise R) (s2 : Z2.Pairwise R) : (Z1 ++ Z2).Perm (X1 ++ X2 ++ (Y1 ++ Y2)) ∧ (Z1 ++ Z2).Pairwise R := by
  obtain ⟨x1, x2, x3⟩ := List.pairwise_append.1 hX
  obtain ⟨y1, y2, y3⟩ := List.pairwise_append.1 hY
  have c1 := cross tr x1 y2 h1
  have c2 := cross tr y1 x2 h2
  refine ⟨(p1.append p2).trans ?_, List.pairwise_append.2 ⟨s1, s2, ?_⟩⟩
  · rw [List.append_assoc, List.append_assoc]
    refine List.Perm.append_left X1 ?_
    rw [← List.append_assoc, ← List.append_assoc]
    exact List.Perm.append_right Y2 List.perm_append_comm
  · intro a ha b hb
    rw [p1.mem_iff, List.mem_append] at ha
    rw [p2.mem_iff, List.mem_append] at hb
    rcases ha with ha | ha <;> rcases hb with hb | hb
    · exact x3 a ha b hb
    · exact c1 a ha b hb
    · exact c2 a ha b hb
    · exact y3 a ha b hb
theorem insert_split (tr : ∀ a b c, R a b → R b c → R a c) {A B : List α} {x : α} (h : (A ++ B).Pairwise R) (h1 : ∀ u, A[A.length - 1]? = some u → R u x) (h2 : ∀ v, B[0]? = some v → R x v) : (A ++ x :: B).Pairwise R := by
  obtain ⟨a1, a2, a3⟩ := List.pairwise_append.1 h
  have c1 := cross tr a1 (List.pairwise_singleton R x) (fun u v hu hv => by simp at hv; subst hv; exact h1 u hu)
  have c2 := cross tr (List.pairwise_singleton R x) a2 (fun u v hu hv => by simp at hu; subst hu; exact h2 v hv)
  refine List.pairwise_append.2 ⟨a1, List.pairwise_cons.2 ⟨fun b hb => c2 x (by simp) b hb, a2⟩, fun a ha b hb => ?_⟩
  rcases List.mem_cons.1 hb with rfl | hb
  · exact c1 a ha _ (by simp)
  · exact a3 a ha b hb
inductive Blk (R : α → α → Prop) (s : Nat) : List α → Prop
  | last {l : List α} : l.length ≤ s → l.Pairwise R → Blk R s l
  | more {X Y : List α} : X.length = s → X.Pairwise R → Blk R s Y → Blk R s (X ++ Y)
theorem Blk.sorted {s : Nat} {l : List α} (h : Blk R s l) (hs : l.length ≤ s) : l.Pairwise R := by
  cases h with
  | last _ h => exact h
  | @more X Y h1 h2 h3 =>
    rw [List.length_append] at hs
    obtain rfl := List.eq_nil_of_length_eq_zero (l := Y) (by omega)
    simpa using h2
theorem Blk.split {s : Nat} {l : List α} (h : Blk R s l) (hs : s < l.length) : ∃ X Y, l = X ++ Y ∧ X.length = s ∧ X.Pairwise R ∧ Blk R s Y := by
  cases h with
  | last h1 _ => omega
  | @more X Y h1 h2 h3 => exact ⟨X, Y, rfl, h1, h2, h3⟩
theorem Blk.nil {s : Nat} : Blk R s ([] : List α) := .last (Nat.zero_le _) .nil
theorem itB_while {f : Env → Store → R3} {s : Env → Store → Option (Env × Store)} {τ : Type} (E : τ → Env) (S : τ → Store) (m : τ → Nat) (Inv : τ → Prop) (Q : CExit × Env × Store → Prop)
    (step : ∀ a, Inv a → (∃ a', it1 f s (E a) (S a) = some (.inl (E a', S a')) ∧ Inv a' ∧ m a' < m a) ∨ ∃ y, it1 f s (E a) (S a) = some (.inr y) ∧ Q y) :
    ∀ a, Inv a → ∃ y, itB f s (E a) (S a) = some y ∧ Q y := by
  have : ∀ k a, m a ≤ k → Inv a → ∃ y, itB f s (E a) (S a) = some y ∧ Q y := by
    intro k
    induction k with
    | zero =>
      intro a hk ha
      rcases step a ha with ⟨a', h1, h2, h3⟩ | ⟨y, h1, h2⟩
      · omega
      · exact ⟨y, itB_stop h1, h2⟩
    | succ k ih =>
      intro a hk ha
      rcases step a ha with ⟨a', h1, h2, h3⟩ | ⟨y, h1, h2⟩
      · obtain ⟨y, h4, h5⟩ := ih a' (by omega) h2
        exact ⟨y, itB_step h1 h4, h5⟩
      · exact ⟨y, itB_stop h1, h2⟩
  exact fun a => this (m a) a (Nat.le_refl _)
end
end Go.Ev
namespace Go.Proofs.Ythkjkdbjgpeigaa.K
open Go.Ev
set_option linter.unusedSimpArgs false
set_option linter.unusedVariables false
set_option maxRecDepth 10000
theorem w64_add {a b : Nat} (h : a + b < 2 ^ 62) : IntKind.i64.wrap ((a : Int) + (b : Int)) = ((a + b : Nat) : Int) := by rw [w64_small (by omega) (by omega)]; simp
theorem w64_add1 {a : Nat} (h : a < 2 ^ 62) : IntKind.i64.wrap ((a : Int) + 1) = ((a + 1 : Nat) : Int) := by rw [w64_small (by omega) (by omega)]; simp
theorem w64_sub {a b c : Nat} (h : a = b + c) (h2 : a < 2 ^ 62) : IntKind.i64.wrap ((a : Int) - (b : Int)) = (c : Int) := by rw [w64_small (by omega) (by omega)]; omega
theorem w64_sub1 {a c : Nat} (h : a = c + 1) (h2 : a < 2 ^ 62) : IntKind.i64.wrap ((a : Int) - 1) = (c : Int) := by rw [w64_small (by omega) (by omega)]; omega
section
variable (g : Nat) (cl : Bool) (n : Nat)
theorem swapRange_ev (L X M Y N : List Evt) (hXY : Y.length = X.length) (hn : n = (L ++ (X ++ (M ++ (Y ++ N)))).length) (hb : n < 2 ^ 61) (a b : Nat) (ha : a = L.length) (hbb : b = L.length + X.length + M.length) :
    (evL T).call n_slices_swapRangeCmpFunc_api_SimEvent [.sl 0 g 0 n cl, (.v (.int .i64 (a))), (.v (.int .i64 (b))), (.v (.int .i64 (X.length))), (.fn (.func n_evkey_CompareEvents) [] [])] [.row 6 ((L ++ (X ++ (M ++ (Y ++ N)))).map Evt.r) g] = some (.tup [], [.row 6 ((L ++ (Y ++ (M ++ (X ++ N)))).map Evt.r) g]) := by
  have hlen : n = L.length + (X.length + (M.length + (Y.length + N.length))) := by rw [hn]; simp
  have key := itB_for (f := exec (evL T) itL none c_slices_swapRangeCmpFunc_api_SimEvent_L1) (s := Ev.settle [0, 1, 2, 3, 10] true 1) (α := List Evt)
    (fun i D => ⟨[(0, .sl 0 g 0 n cl), (1, (.v (.int .i64 (a)))), (2, (.v (.int .i64 (b)))), (3, (.v (.int .i64 (X.length)))), (10, (.v (.int .i64 (i))))], []⟩) (fun i D => [.row 6 ((D).map Evt.r) g])
    (fun i D => D = L ++ ((Y.take i ++ X.drop i) ++ (M ++ ((X.take i ++ Y.drop i) ++ N)))) X.length
    (fun y => y.1 = .exit 0 ∧ y.2.1.marks = [] ∧ y.2.2 = [.row 6 ((L ++ (Y ++ (M ++ (X ++ N)))).map Evt.r) g]) ?_ ?_ 0 _ (Nat.zero_le _) rfl
  · obtain ⟨⟨y, e, σ⟩, k1, k2, k3, k4⟩ := key
    simp only [List.take_zero, List.drop_zero, List.nil_append, Int.cast_ofNat_Int] at k1 k2 k3 k4
    subst k2; subst k4
    rw [evL_code ext_slices_swapRangeCmpFunc_api_SimEvent code_slices_swapRangeCmpFunc_api_SimEvent]
    simp only [c_slices_swapRangeCmpFunc_api_SimEvent, k1, k3, evts_lo, Ev.runFunc, Ev.exec, Ev.evOpers, Ev.evOper, Ev.item_op, Ev.evOp, Ev.Opnd.ev, Ev.Env.get, Ev.Env.set, Ev.look, Ev.argVars, Ev.resVals, Ev.resOf, Ev.kill, Ev.leave, Ev.settle, Ev.keep, Ev.varsLo, Ev.marksLo, Ev.storeLo, Ev.SObj.lo, Ev.lo_v, Ev.lo_tup, Ev.lo_sl, Ev.los_nil, ↓Ev.obind, ↓Ev.itL_itB, ↓reduceIte, List.length_cons, List.length_nil, List.take_succ_cons, List.take_nil, Nat.reduceAdd, Nat.reduceEqDiff, reduceCtorEq, decide_true, Bool.and_self, and_self, Nat.zero_add, Nat.lt_add_one, eq_self]
  · rintro i D hi hD
    obtain ⟨x, hx⟩ : ∃ x, X[i]? = some x := ⟨_, List.getElem?_eq_getElem hi⟩
    obtain ⟨y, hy⟩ : ∃ y, Y[i]? = some y := ⟨_, List.getElem?_eq_getElem (by omega)⟩
    have dx : X.drop i = x :: X.drop (i + 1) := by obtain ⟨_, rfl⟩ := List.getElem?_eq_some_iff.1 hx; exact List.drop_eq_getElem_cons hi
    have dy : Y.drop i = y :: Y.drop (i + 1) := by obtain ⟨_, rfl⟩ := List.getElem?_eq_some_iff.1 hy; exact List.drop_eq_getElem_cons (by omega)
    have e1 : D = (L ++ Y.take i) ++ x :: ((X.drop (i + 1) ++ (M ++ X.take i)) ++ y :: (Y.drop (i + 1) ++ N)) := by rw [hD, dx, dy]; simp
    have l1 : a + i = (L ++ Y.take i).length := by simp; omega
    have l2 : b + i = a + i + 1 + (X.drop (i + 1) ++ (M ++ X.take i)).length := by simp; omega
    have gx : D[a + i]? = some x := get_mid e1 l1
    have gy : D[b + i]? = some y := by
      refine get_mid (L := (L ++ Y.take i) ++ x :: (X.drop (i + 1) ++ (M ++ X.take i))) (M := Y.drop (i + 1) ++ N) (by rw [e1]; simp) ?_
      rw [l2, l1]; simp; omega
    have ge : D.length = n := by rw [e1, hlen]; simp; omega
    have sw := swap_far e1 l1 l2
    have hne : ¬ (a + i = b + i) := by omega
    have hi' : (i : Int) < (X.length : Int) := by omega
    have wa : IntKind.i64.wrap ((a : Int) + (i : Int)) = ((a + i : Nat) : Int) := w64_add (by omega)
    have wb : IntKind.i64.wrap ((b : Int) + (i : Int)) = ((b + i : Nat) : Int) := w64_add (by omega)
    have wi : IntKind.i64.wrap ((i : Int) + 1) = ((i + 1 : Nat) : Int) := w64_add1 (by omega)
    have ra : a + i < n := by omega
    have rb : b + i < n := by omega
    obtain ⟨xt, xk, xl, xi, xp, xa⟩ := x
    obtain ⟨yt, yk, yl, yi, yp, ya⟩ := y
    have hs : ∀ v, ((D.map Evt.r).set (a + i) v)[b + i]? = some (Evt.r ⟨yt, yk, yl, yi, yp, ya⟩) := fun v => by rw [List.getElem?_set_ne hne, List.getElem?_map, gy]; rfl
    have hlo := evts_lo 1 ((D.set (a + i) ⟨yt, yk, yl, yi, yp, ya⟩).set (b + i) ⟨xt, xk, xl, xi, xp, xa⟩)
    simp only [List.map_set, Evt.r] at hlo
    refine .inl ⟨(D.set (a + i) ⟨yt, yk, yl, yi, yp, ya⟩).set (b + i) ⟨xt, xk, xl, xi, xp, xa⟩, ?_, ?_⟩
    · simp only [c_slices_swapRangeCmpFunc_api_SimEvent_L1, Int.natCast_nonneg, Int.toNat_natCast, List.getElem?_map, Option.map_some, gx, gy, hs, hi', wa, wb, wi, ra, rb, hlo, List.map_set, Evt.r, Ev.exec, Ev.evOpers, Ev.evOper, Ev.item_op, Ev.evOp, Ev.Opnd.ev, Ev.Env.get, Ev.Env.set, Ev.look, Ev.cellsAt, Ev.loadC, Ev.AV.cells, Ev.plains, Ev.AV.plain, Ev.bin_add, Ev.bin_lss, Ev.settle, Ev.keep, Ev.varsLo, Ev.marksLo, Ev.storeLo, Ev.SObj.lo, Ev.lo_v, Ev.lo_sl, ↓Ev.obind, Ev.it1, ↓reduceIte, List.length_cons, List.length_nil, List.getElem?_cons_zero, List.take_succ_cons, List.take_zero, List.take_nil, List.drop_succ_cons, List.drop_zero, List.drop_nil, List.nil_append, List.append_nil, List.set_cons_zero, Nat.reduceAdd, Nat.reduceEqDiff, reduceCtorEq, decide_true, Bool.and_self, and_self, Nat.zero_add, Nat.lt_add_one, Nat.le_refl, eq_self]
    · rw [sw, take_next hx, take_next hy]; simp
  · rintro D hD
    have hD' : D = L ++ (Y ++ (M ++ (X ++ N))) := by rw [hD, ← hXY, List.take_length, List.drop_length, hXY, List.take_length, List.drop_length]; simp
    subst hD'
    simp only [c_slices_swapRangeCmpFunc_api_SimEvent_L1, Int.lt_irrefl, Ev.exec, Ev.evOpers, Ev.evOper, Ev.item_op, Ev.evOp, Ev.Opnd.ev, Ev.Env.get, Ev.Env.set, Ev.look, Ev.bin_lss, ↓Ev.obind, Ev.it1, ↓reduceIte, Nat.reduceEqDiff, reduceCtorEq, decide_false, Bool.false_eq_true, eq_self]
    exact ⟨_, rfl, rfl, rfl, rfl⟩
end
end Go.Proofs.Ythkjkdbjgpeigaa.K
namespace Go.Proofs.Ythkjkdbjgpeigaa.K
open Go.Ev
set_option linter.unusedSimpArgs false
set_option linter.unusedVariables false
theorem cmpZ_neg (a b : Int) : cmpZ b a = -cmpZ a b := by unfold cmpZ; split <;> split <;> (try split) <;> omega
theorem cmpZ_cases (a b : Int) : (cmpZ a b < 0 ↔ a < b) ∧ (cmpZ a b = 0 ↔ a = b) ∧ (0 < cmpZ a b ↔ b < a) := by
  unfold cmpZ
  split
  · refine ⟨?_, ?_, ?_⟩ <;> omega
  split
  · refine ⟨?_, ?_, ?_⟩ <;> omega
  · refine ⟨?_, ?_, ?_⟩ <;> omega
theorem keysZ_neg : ∀ a b : List Int, keysZ b a = -keysZ a b
  | [], [] => rfl
  | [], y :: b => by simp [keysZ]
  | x :: a, [] => by simp [keysZ]
  | x :: a, y :: b => by
    simp only [keysZ]
    by_cases h : x = y
    · subst h; simp only [if_true]; exact keysZ_neg a b
    · rw [if_neg h, if_neg (fun e => h e.symm)]; exact cmpZ_neg x y
theorem keysZ_trans : ∀ a b c : List Int, keysZ a b ≤ 0 → keysZ b c ≤ 0 → keysZ a c ≤ 0
  | [], b, c, _, _ => by cases c <;> simp [keysZ]
  | x :: a, [], c, h, _ => by simp [keysZ] at h
  | x :: a, y :: b, [], _, h => by simp [keysZ] at h
  | x :: a, y :: b, z :: c, h1, h2 => by
    simp only [keysZ] at h1 h2 ⊢
    have c1 := cmpZ_cases x y
    have c2 := cmpZ_cases y z
    have c3 := cmpZ_cases x z
    by_cases e1 : x = y
    · subst e1
      rw [if_pos rfl] at h1
      by_cases e2 : x = z
      · subst e2; rw [if_pos rfl] at h2 ⊢; exact keysZ_trans a b c h1 h2
      · rw [if_neg e2] at h2 ⊢; exact h2
    · rw [if_neg e1] at h1
      by_cases e2 : y = z
      · subst e2; rw [if_neg e1]; exact h1
      · rw [if_neg e2] at h2
        have : ¬ x = z := by intro e; omega
        rw [if_neg this]
        omega
def leE (x y : Evt) : Prop := cmpE x y ≤ 0
theorem cmpE_neg (x y : Evt) : cmpE y x = -cmpE x y := by
  unfold cmpE
  have := cmpZ_neg x.time y.time
  have := keysZ_neg x.key y.key
  by_cases h : cmpZ x.time y.time = 0
  · rw [if_pos h, if_pos (by omega)]; assumption
  · rw [if_neg h, if_neg (by omega)]; assumption
theorem leE_trans (x y z : Evt) (h1 : leE x y) (h2 : leE y z) : leE x z := by
  unfold leE cmpE at *
  have c1 := cmpZ_cases x.time y.time
  have c2 := cmpZ_cases y.time z.time
  have c3 := cmpZ_cases x.time z.time
  by_cases e1 : cmpZ x.time y.time = 0
  · rw [if_pos e1] at h1
    by_cases e2 : cmpZ y.time z.time = 0
    · rw [if_pos e2] at h2
      rw [if_pos (by omega)]; exact keysZ_trans _ _ _ h1 h2
    · rw [if_neg e2] at h2
      rw [if_neg (by omega)]; omega
  · rw [if_neg e1] at h1
    by_cases e2 : cmpZ y.time z.time = 0
    · rw [if_neg (by omega)]; omega
    · rw [if_neg e2] at h2
      rw [if_neg (by omega)]; omega
theorem leE_of_not (x y : Evt) (h : ¬ cmpE x y < 0) : leE y x := by unfold leE; have := cmpE_neg x y; omega
theorem leE_of (x y : Evt) (h : cmpE x y < 0) : leE x y := by unfold leE; omega
theorem cmpE_zero (x y : Evt) : cmpE x y = 0 ↔ x.time = y.time ∧ x.key = y.key := by
  unfold cmpE
  have := cmpZ_cases x.time y.time
  have := keysZ_zero x.key y.key
  by_cases h : cmpZ x.time y.time = 0
  · rw [if_pos h]; constructor
    · intro k; exact ⟨by omega, by simpa [k] using this⟩
    · intro k; exact this.2 k.2
  · rw [if_neg h]; constructor
    · intro k; exact absurd k h
    · intro k; omega
end Go.Proofs.Ythkjkdbjgpeigaa.K
namespace Go.Proofs.Ythkjkdbjgpeigaa.K
open Go.Ev
set_option linter.unusedSimpArgs false
set_option linter.unusedVariables false
set_option maxRecDepth 10000
section
variable (g : Nat) (cl : Bool) (n : Nat)
def KeysOk (D : List Evt) : Prop := ∀ x ∈ D, x.key.length ≤ 9223372036854775807
theorem insertion_inner (P S Q : List Evt) (x : Evt) (hn : n = (P ++ (S ++ x :: Q)).length) (hb : n < 2 ^ 61) (hk : KeysOk (P ++ (S ++ x :: Q))) (hS : S.Pairwise leE) (a : Nat) (ha : a = P.length) (b i : Int) :
    ∃ y, itB (exec (evL T) itL none c_slices_insertionSortCmpFunc_api_SimEvent_L2) (Ev.settle [0, 1, 2, 3, 8, 9] true 1) ⟨[(0, .sl 0 g 0 n cl), (1, (.v (.int .i64 (a)))), (2, (.v (.int .i64 (b)))), (3, (.fn (.func n_evkey_CompareEvents) [] [])), (8, (.v (.int .i64 (i)))), (9, (.v (.int .i64 ((a + S.length : Nat)))))], []⟩ [.row 6 ((P ++ (S ++ x :: Q)).map Evt.r) g] = some y ∧
      (y.1 = .exit 2 ∧ y.2.1.marks = [] ∧ Ev.look y.2.1.vars 0 = some (.sl 0 g 0 n cl) ∧ Ev.look y.2.1.vars 1 = some (.v (.int .i64 (a))) ∧ Ev.look y.2.1.vars 2 = some (.v (.int .i64 (b))) ∧ Ev.look y.2.1.vars 3 = some (.fn (.func n_evkey_CompareEvents) [] []) ∧ Ev.look y.2.1.vars 8 = some (.v (.int .i64 (i))) ∧ ∃ S' : List Evt, S'.Perm (x :: S) ∧ S'.Pairwise leE ∧ y.2.2 = [.row 6 ((P ++ (S' ++ Q)).map Evt.r) g]) := by
  refine itB_while (τ := List Evt × Nat) (fun s => ⟨[(0, .sl 0 g 0 n cl), (1, (.v (.int .i64 (a)))), (2, (.v (.int .i64 (b)))), (3, (.fn (.func n_evkey_CompareEvents) [] [])), (8, (.v (.int .i64 (i)))), (9, (.v (.int .i64 (s.2))))], []⟩) (fun s => [.row 6 ((s.1).map Evt.r) g]) (fun s => s.2)
    (fun s => ∃ A B, s.1 = P ++ (A ++ x :: (B ++ Q)) ∧ s.2 = a + A.length ∧ A ++ B = S ∧ ∀ v, B[0]? = some v → leE x v) _ ?_ (P ++ (S ++ x :: Q), a + S.length) ⟨S, [], by simp, rfl, by simp, by simp⟩
  rintro ⟨D, j⟩ ⟨A, B, hD, hj, hAB, hB⟩
  simp only at hD hj ⊢
  have hlen : n = P.length + (S.length + (Q.length + 1)) := by rw [hn]; simp
  have hSl : S.length = A.length + B.length := by rw [← hAB]; simp
  have fin : (∀ u, A[A.length - 1]? = some u → leE u x) → ∃ S' : List Evt, S'.Perm (x :: S) ∧ S'.Pairwise leE ∧ ([.row 6 ((D).map Evt.r) g] : Store) = [.row 6 ((P ++ (S' ++ Q)).map Evt.r) g] := fun h => by
    refine ⟨A ++ x :: B, ?_, insert_split leE_trans (by rw [hAB]; exact hS) h hB, by rw [hD]; simp⟩
    rw [← hAB]; exact List.perm_middle
  rcases List.eq_nil_or_concat A with rfl | ⟨A0, y, rfl⟩
  · have h1 : ¬ (j : Int) > (a : Int) := by simp at hj; omega
    refine .inr ?_
    simp only [c_slices_insertionSortCmpFunc_api_SimEvent_L2, h1, Ev.exec, Ev.evOpers, Ev.evOper, Ev.item_op, Ev.evOp, Ev.Opnd.ev, Ev.Env.get, Ev.Env.set, Ev.Env.unset, Ev.look, Ev.bin_gtr, ↓Ev.obind, Ev.it1, ↓reduceIte, Nat.reduceEqDiff, reduceCtorEq, decide_false, Bool.false_eq_true, eq_self]
    exact ⟨_, rfl, rfl, rfl, rfl, rfl, rfl, rfl, rfl, fin (by simp)⟩
  · simp only [List.concat_eq_append, List.length_append, List.length_cons, List.length_nil] at hD hj hSl hAB fin
    obtain ⟨k, hk1⟩ : ∃ k, k = a + A0.length := ⟨_, rfl⟩
    have hjk : j = k + 1 := by omega
    have h1 : (j : Int) > (a : Int) := by omega
    have e1 : D = (P ++ A0) ++ y :: x :: (B ++ Q) := by rw [hD]; simp
    have l1 : k = (P ++ A0).length := by simp; omega
    have gy : D[k]? = some y := get_mid e1 l1
    have gx : D[j]? = some x := get_mid (L := P ++ A0 ++ [y]) (M := B ++ Q) (by rw [e1]; simp) (by simp; omega)
    have ge : D.length = n := by rw [e1, hlen]; simp; omega
    have ws : IntKind.i64.wrap ((j : Int) - 1) = (k : Int) := w64_sub1 hjk (by omega)
    have rj : j < n := by omega
    have rk : k < n := by omega
    have kx : x.key.length ≤ 9223372036854775807 := hk x (by simp)
    have ky : y.key.length ≤ 9223372036854775807 := hk y (by rw [← hAB]; simp)
    have hc := CompareEvents_evA x y kx ky 6 (D.map Evt.r) g
    have sw := swap_next e1 l1 hjk
    have hne : ¬ (j = k) := by omega
    by_cases hlt : cmpE x y < 0
    · left
      have hle := leE_of x y hlt
      obtain ⟨x', rfl⟩ : ∃ z, x = z := ⟨x, rfl⟩
      have hlo := evts_lo 1 ((D.set j y).set k x)
      refine ⟨((D.set j y).set k x, k), ?_, ⟨A0, y :: B, by rw [sw]; simp, hk1, by rw [← hAB]; simp, fun v hv => by simp at hv; rw [← hv]; exact hle⟩, by simp only; omega⟩
      obtain ⟨xt, xk, xl, xi, xp, xa⟩ := x
      obtain ⟨yt, yk, yl, yi, yp, ya⟩ := y
      have hs : ∀ v, ((D.map Evt.r).set j v)[k]? = some (Evt.r ⟨yt, yk, yl, yi, yp, ya⟩) := fun v => by rw [List.getElem?_set_ne hne, List.getElem?_map, gy]; rfl
      simp only [List.map_set, Evt.r] at hlo
      simp only at hc
      simp only [c_slices_insertionSortCmpFunc_api_SimEvent_L2, Int.natCast_nonneg, Int.toNat_natCast, List.getElem?_map, Option.map_some, gx, gy, hs, h1, ws, rj, rk, hc, hlt, hlo, List.map_set, Evt.r, Ev.exec, Ev.evOpers, Ev.evOper, Ev.item_op, Ev.item_v, Ev.evOp, Ev.evs, Ev.Opnd.ev, Ev.Env.get, Ev.Env.set, Ev.look, Ev.cellsAt, Ev.loadC, Ev.AV.cells, Ev.plains, Ev.AV.plain, Ev.bin_sub, Ev.bin_lss, Ev.bin_gtr, Ev.settle, Ev.keep, Ev.varsLo, Ev.marksLo, Ev.storeLo, Ev.SObj.lo, Ev.lo_v, Ev.lo_sl, Ev.lo_fn, Ev.los_nil, ↓Ev.obind, Ev.it1, ↓reduceIte, List.length_cons, List.length_nil, List.getElem?_cons_zero, List.take_succ_cons, List.take_zero, List.take_nil, List.drop_succ_cons, List.drop_zero, List.drop_nil, List.nil_append, List.append_nil, List.set_cons_zero, Nat.reduceAdd, Nat.reduceEqDiff, reduceCtorEq, decide_true, Bool.and_self, and_self, Nat.zero_add, Nat.lt_add_one, Nat.le_refl, eq_self]
    · right
      have hf := fin (fun u hu => by simp at hu; rw [← hu]; exact leE_of_not x y hlt)
      obtain ⟨xt, xk, xl, xi, xp, xa⟩ := x
      obtain ⟨yt, yk, yl, yi, yp, ya⟩ := y
      simp only at hc
      simp only [c_slices_insertionSortCmpFunc_api_SimEvent_L2, Int.natCast_nonneg, Int.toNat_natCast, List.getElem?_map, Option.map_some, gx, gy, h1, ws, rj, rk, hc, hlt, Evt.r, Ev.exec, Ev.evOpers, Ev.evOper, Ev.item_op, Ev.item_v, Ev.evOp, Ev.evs, Ev.Opnd.ev, Ev.Env.get, Ev.Env.set, Ev.look, Ev.cellsAt, Ev.loadC, Ev.bin_sub, Ev.bin_lss, Ev.bin_gtr, ↓Ev.obind, Ev.it1, ↓reduceIte, List.length_cons, List.length_nil, List.getElem?_cons_zero, List.take_succ_cons, List.take_nil, List.drop_zero, List.nil_append, List.append_nil, Nat.reduceAdd, Nat.reduceEqDiff, reduceCtorEq, decide_true, decide_false, Bool.false_eq_true, and_self, Nat.zero_add, Nat.le_refl, eq_self]
      exact ⟨_, rfl, rfl, rfl, rfl, rfl, rfl, rfl, rfl, hf⟩
theorem insertion_ev (P S Q : List Evt) (hn : n = (P ++ (S ++ Q)).length) (hb : n < 2 ^ 61) (hk : KeysOk (P ++ (S ++ Q))) (a b : Nat) (ha : a = P.length) (hbb : b = a + S.length) :
    ∃ S' : List Evt, S'.Perm S ∧ S'.Pairwise leE ∧ (evL T).call n_slices_insertionSortCmpFunc_api_SimEvent [.sl 0 g 0 n cl, (.v (.int .i64 (a))), (.v (.int .i64 (b))), (.fn (.func n_evkey_CompareEvents) [] [])] [.row 6 ((P ++ (S ++ Q)).map Evt.r) g] = some (.tup [], [.row 6 ((P ++ (S' ++ Q)).map Evt.r) g]) := by
  have hlen : n = P.length + (S.length + Q.length) := by rw [hn]; simp
  have key := itB_while (f := exec (evL T) itL none c_slices_insertionSortCmpFunc_api_SimEvent_L1) (s := Ev.settle [0, 1, 2, 3, 8] true 1) (τ := List Evt × Nat)
    (fun s => ⟨[(0, .sl 0 g 0 n cl), (1, (.v (.int .i64 (a)))), (2, (.v (.int .i64 (b)))), (3, (.fn (.func n_evkey_CompareEvents) [] [])), (8, (.v (.int .i64 (s.2))))], []⟩) (fun s => [.row 6 ((s.1).map Evt.r) g]) (fun s => b - s.2)
    (fun s => (∃ A B, s.1 = P ++ (A ++ (B ++ Q)) ∧ s.2 = a + A.length ∧ (A ++ B).Perm S ∧ A.Pairwise leE) ∨ S = [] ∧ s.1 = P ++ Q ∧ s.2 = a + 1)
    (fun y => y.1 = .exit 0 ∧ y.2.1.marks = [] ∧ ∃ S' : List Evt, S'.Perm S ∧ S'.Pairwise leE ∧ y.2.2 = [.row 6 ((P ++ (S' ++ Q)).map Evt.r) g]) ?_ (P ++ (S ++ Q), a + 1) ?_
  · obtain ⟨⟨y, e, σ⟩, k1, k2, k3, S', k4, k5, k6⟩ := key
    simp only at k1 k2 k3 k6
    subst k2; subst k6
    refine ⟨S', k4, k5, ?_⟩
    have w1 : IntKind.i64.wrap ((a : Int) + 1) = ((a + 1 : Nat) : Int) := w64_add1 (by omega)
    rw [evL_code ext_slices_insertionSortCmpFunc_api_SimEvent code_slices_insertionSortCmpFunc_api_SimEvent]
    simp only [c_slices_insertionSortCmpFunc_api_SimEvent, w1, k1, k3, evts_lo, Ev.runFunc, Ev.exec, Ev.evOpers, Ev.evOper, Ev.item_op, Ev.evOp, Ev.Opnd.ev, Ev.Env.get, Ev.Env.set, Ev.look, Ev.argVars, Ev.bin_add, Ev.resVals, Ev.resOf, Ev.kill, Ev.leave, Ev.settle, Ev.keep, Ev.varsLo, Ev.marksLo, Ev.storeLo, Ev.SObj.lo, Ev.lo_v, Ev.lo_tup, Ev.lo_sl, Ev.lo_fn, Ev.los_nil, ↓Ev.obind, ↓Ev.itL_itB, ↓reduceIte, List.length_cons, List.length_nil, List.take_succ_cons, List.take_nil, Nat.reduceAdd, Nat.reduceEqDiff, reduceCtorEq, decide_true, Bool.and_self, and_self, Nat.zero_add, Nat.lt_add_one, eq_self]
  · rintro ⟨D, i⟩ (⟨A, B, hD, hi, hAB, hA⟩ | ⟨hS, hD, hi⟩)
    · simp only at hD hi ⊢
      have hl := hAB.length_eq
      rw [List.length_append] at hl
      cases B with
      | nil =>
        have h1 : ¬ (i : Int) < (b : Int) := by simp at hl; omega
        right
        simp only [c_slices_insertionSortCmpFunc_api_SimEvent_L1, h1, Ev.exec, Ev.evOpers, Ev.evOper, Ev.item_op, Ev.evOp, Ev.Opnd.ev, Ev.Env.get, Ev.Env.set, Ev.look, Ev.bin_lss, ↓Ev.obind, Ev.it1, ↓reduceIte, Nat.reduceEqDiff, reduceCtorEq, decide_false, Bool.false_eq_true, eq_self]
        exact ⟨_, rfl, rfl, rfl, A, by simpa using hAB, hA, by rw [hD]; simp⟩
      | cons x B =>
        rw [List.length_cons] at hl
        have h1 : (i : Int) < (b : Int) := by omega
        have hkD : KeysOk (P ++ (A ++ x :: (B ++ Q))) := by
          intro z hz
          refine hk z ?_
          simp only [List.mem_append, List.mem_cons] at hz ⊢
          have := hAB.mem_iff (a := z)
          simp only [List.mem_append, List.mem_cons] at this
          rcases hz with h | h | h | h | h
          · exact .inl h
          · exact .inr (.inl (this.1 (.inl h)))
          · exact .inr (.inl (this.1 (.inr (.inl h))))
          · exact .inr (.inl (this.1 (.inr (.inr h))))
          · exact .inr (.inr h)
        obtain ⟨⟨y, e, σ⟩, k1, k2, k3, k4, k5, k6, k7, k8, S', k9, k10, k11⟩ := insertion_inner g cl n P A (B ++ Q) x (by rw [hlen]; simp; omega) hb hkD hA a ha b i
        simp only at k1 k2 k3 k4 k5 k6 k7 k8 k11
        subst k2; subst k11
        have w1 : IntKind.i64.wrap ((i : Int) + 1) = ((i + 1 : Nat) : Int) := w64_add1 (by omega)
        left
        refine ⟨(P ++ (S' ++ (B ++ Q)), i + 1), ?_, .inl ⟨S', B, rfl, ?_, ?_, k10⟩, ?_⟩
        · rw [← hi] at k1
          rw [hD]
          simp only [List.cons_append] at k1 ⊢
          simp only [c_slices_insertionSortCmpFunc_api_SimEvent_L1, h1, w1, k1, k3, k4, k5, k6, k7, k8, evts_lo, Ev.exec, Ev.evOpers, Ev.evOper, Ev.item_op, Ev.evOp, Ev.Opnd.ev, Ev.Env.get, Ev.Env.set, Ev.look, Ev.bin_add, Ev.bin_lss, Ev.settle, Ev.keep, Ev.varsLo, Ev.marksLo, Ev.storeLo, Ev.SObj.lo, Ev.lo_v, Ev.lo_sl, Ev.lo_fn, Ev.los_nil, ↓Ev.obind, ↓Ev.itL_itB, Ev.it1, ↓reduceIte, List.length_cons, List.length_nil, List.take_succ_cons, List.take_nil, Nat.reduceEqDiff, reduceCtorEq, decide_true, Bool.and_self, and_self, Nat.zero_add, Nat.lt_add_one, eq_self]
        · have := k9.length_eq; rw [List.length_cons] at this; simp only; omega
        · exact ((k9.append_right B).trans List.perm_middle.symm).trans hAB
        · simp only; omega
    · simp only at hD hi ⊢
      subst hS
      have h1 : ¬ (i : Int) < (b : Int) := by simp at hbb; omega
      right
      simp only [c_slices_insertionSortCmpFunc_api_SimEvent_L1, h1, Ev.exec, Ev.evOpers, Ev.evOper, Ev.item_op, Ev.evOp, Ev.Opnd.ev, Ev.Env.get, Ev.Env.set, Ev.look, Ev.bin_lss, ↓Ev.obind, Ev.it1, ↓reduceIte, Nat.reduceEqDiff, reduceCtorEq, decide_false, Bool.false_eq_true, eq_self]
      exact ⟨_, rfl, rfl, rfl, [], List.Perm.nil, List.Pairwise.nil, by rw [hD]; simp⟩
  · cases S with
    | nil => exact .inr ⟨rfl, by simp, rfl⟩
    | cons x S => exact .inl ⟨[x], S, by simp, by simp, by simp, List.pairwise_singleton _ _⟩
end
end Go.Proofs.Ythkjkdbjgpeigaa.K
namespace Go.Proofs.Ythkjkdbjgpeigaa.K
open Go.Ev
set_option linter.unusedSimpArgs false
set_option linter.unusedVariables false
set_option maxRecDepth 10000
section
variable (g : Nat) (cl : Bool) (n : Nat)
theorem rotate_ev (L X Y N : List Evt) (hX : 0 < X.length) (hY : 0 < Y.length) (hn : n = (L ++ (X ++ (Y ++ N))).length) (hb : n < 2 ^ 61) (a m b : Nat) (ha : a = L.length) (hm : m = a + X.length) (hbb : b = m + Y.length) :
    (evL T).call n_slices_rotateCmpFunc_api_SimEvent [.sl 0 g 0 n cl, (.v (.int .i64 (a))), (.v (.int .i64 (m))), (.v (.int .i64 (b))), (.fn (.func n_evkey_CompareEvents) [] [])] [.row 6 ((L ++ (X ++ (Y ++ N))).map Evt.r) g] = some (.tup [], [.row 6 ((L ++ (Y ++ (X ++ N))).map Evt.r) g]) := by
  have hlen : n = L.length + (X.length + (Y.length + N.length)) := by rw [hn]; simp
  have key := itB_while (f := exec (evL T) itL none c_slices_rotateCmpFunc_api_SimEvent_L1) (s := Ev.settle [0, 2, 4, 10, 11] true 1) (τ := List Evt × Nat × Nat)
    (fun s => ⟨[(0, .sl 0 g 0 n cl), (2, (.v (.int .i64 (m)))), (4, (.fn (.func n_evkey_CompareEvents) [] [])), (10, (.v (.int .i64 (s.2.1)))), (11, (.v (.int .i64 (s.2.2))))], []⟩) (fun s => [.row 6 ((s.1).map Evt.r) g]) (fun s => s.2.1 + s.2.2)
    (fun s => ∃ L' X' Y' N', s.1 = L' ++ (X' ++ (Y' ++ N')) ∧ s.2.1 = X'.length ∧ s.2.2 = Y'.length ∧ 0 < X'.length ∧ 0 < Y'.length ∧ m = L'.length + X'.length ∧ L' ++ (Y' ++ (X' ++ N')) = L ++ (Y ++ (X ++ N)))
    (fun y => ∃ i : Nat, y.1 = .exit 0 ∧ y.2.1.marks = [] ∧ Ev.look y.2.1.vars 0 = some (.sl 0 g 0 n cl) ∧ Ev.look y.2.1.vars 2 = some (.v (.int .i64 (m))) ∧ Ev.look y.2.1.vars 4 = some (.fn (.func n_evkey_CompareEvents) [] []) ∧ Ev.look y.2.1.vars 10 = some (.v (.int .i64 (i))) ∧
      ∃ L' X' Y' N' : List Evt, y.2.2 = [.row 6 ((L' ++ (X' ++ (Y' ++ N'))).map Evt.r) g] ∧ i = X'.length ∧ i = Y'.length ∧ m = L'.length + X'.length ∧ L' ++ (Y' ++ (X' ++ N')) = L ++ (Y ++ (X ++ N))) ?_ (L ++ (X ++ (Y ++ N)), X.length, Y.length) ⟨L, X, Y, N, rfl, rfl, rfl, hX, hY, by omega, rfl⟩
  · obtain ⟨⟨y, e, σ⟩, k1, i, k2, k3, k4, k5, k6, k7, L', X', Y', N', k8, k9, k10, k11, k12⟩ := key
    simp only at k1 k2 k3 k4 k5 k6 k7 k8
    subst k2; subst k8
    have hl2 := congrArg List.length k12
    simp only [List.length_append] at hl2
    have w1 : IntKind.i64.wrap ((m : Int) - (a : Int)) = (X.length : Int) := w64_sub hm (by omega)
    have w2 : IntKind.i64.wrap ((b : Int) - (m : Int)) = (Y.length : Int) := w64_sub hbb (by omega)
    have w3 : IntKind.i64.wrap ((m : Int) - (i : Int)) = (L'.length : Int) := w64_sub (by omega) (by omega)
    have sw := swapRange_ev g cl n L' X' [] Y' N' (by omega) (by simp; omega) hb L'.length m rfl (by simp; omega)
    simp only [List.nil_append] at sw
    rw [← k9, k12] at sw
    rw [evL_code ext_slices_rotateCmpFunc_api_SimEvent code_slices_rotateCmpFunc_api_SimEvent]
    simp only [c_slices_rotateCmpFunc_api_SimEvent, w1, w2, w3, k1, k3, k4, k5, k6, k7, sw, evts_lo, Ev.runFunc, Ev.exec, Ev.evOpers, Ev.evOper, Ev.item_op, Ev.item_I, Ev.evOp, Ev.evs, Ev.Opnd.ev, Ev.Env.get, Ev.Env.set, Ev.look, Ev.argVars, Ev.bin_sub, Ev.resVals, Ev.resOf, Ev.kill, Ev.leave, Ev.settle, Ev.keep, Ev.varsLo, Ev.marksLo, Ev.storeLo, Ev.SObj.lo, Ev.lo_v, Ev.lo_tup, Ev.lo_sl, Ev.lo_fn, Ev.los_nil, ↓Ev.obind, ↓Ev.itL_itB, ↓reduceIte, List.length_cons, List.length_nil, List.take_succ_cons, List.take_nil, Nat.reduceAdd, Nat.reduceEqDiff, reduceCtorEq, decide_true, Bool.and_self, and_self, Nat.zero_add, Nat.lt_add_one, eq_self]
  · rintro ⟨D, i, j⟩ ⟨L', X', Y', N', hD, hi, hj, hX', hY', hm', heq⟩
    simp only at hD hi hj ⊢
    have hl2 := congrArg List.length heq
    simp only [List.length_append] at hl2
    by_cases hij : i = j
    · right
      have h1 : (i : Int) = (j : Int) := by omega
      subst hij
      simp only [c_slices_rotateCmpFunc_api_SimEvent_L1, Ev.exec, Ev.evOpers, Ev.evOper, Ev.item_op, Ev.evOp, Ev.Opnd.ev, Ev.Env.get, Ev.Env.set, Ev.look, Ev.bin_neq, ↓Ev.obind, Ev.it1, ↓reduceIte, Nat.reduceEqDiff, reduceCtorEq, decide_false, Bool.false_eq_true, ne_eq, not_true_eq_false, eq_self]
      exact ⟨_, rfl, i, rfl, rfl, rfl, rfl, rfl, rfl, L', X', Y', N', by rw [hD], hi, hj, hm', heq⟩
    have h1 : ¬ (i : Int) = (j : Int) := by omega
    left
    by_cases hgt : j < i
    · have h2 : (i : Int) > (j : Int) := by omega
      obtain ⟨X1, X2, rfl, hX1⟩ : ∃ X1 X2, X' = X1 ++ X2 ∧ X1.length = j := ⟨X'.take j, X'.drop j, (List.take_append_drop _ _).symm, by simp; omega⟩
      rw [List.length_append] at hi hX' hm' hl2
      have sw := swapRange_ev g cl n L' X1 X2 Y' N' (by omega) (by simp; omega) hb L'.length m rfl (by omega)
      rw [show L' ++ (X1 ++ (X2 ++ (Y' ++ N'))) = D by rw [hD]; simp, hX1] at sw
      have w3 : IntKind.i64.wrap ((m : Int) - (i : Int)) = (L'.length : Int) := w64_sub (by omega) (by omega)
      have w4 : IntKind.i64.wrap ((i : Int) - (j : Int)) = (X2.length : Int) := w64_sub (by omega) (by omega)
      refine ⟨(L' ++ (Y' ++ (X2 ++ (X1 ++ N'))), X2.length, j), ?_, ⟨L' ++ Y', X2, X1, N', by simp, rfl, hX1.symm, by omega, by omega, by simp; omega, by rw [← heq]; simp⟩, by first | omega | (simp only; omega)⟩
      simp only [c_slices_rotateCmpFunc_api_SimEvent_L1, h1, h2, w3, w4, sw, evts_lo, Ev.exec, Ev.evOpers, Ev.evOper, Ev.item_op, Ev.item_I, Ev.evOp, Ev.evs, Ev.Opnd.ev, Ev.Env.get, Ev.Env.set, Ev.look, Ev.bin_sub, Ev.bin_neq, Ev.bin_gtr, Ev.settle, Ev.keep, Ev.varsLo, Ev.marksLo, Ev.storeLo, Ev.SObj.lo, Ev.lo_v, Ev.lo_sl, Ev.lo_fn, Ev.los_nil, ↓Ev.obind, Ev.it1, ↓reduceIte, List.take_succ_cons, List.take_nil, Nat.reduceEqDiff, reduceCtorEq, decide_true, Bool.and_self, and_self, ne_eq, not_false_eq_true, Nat.lt_add_one, eq_self]
    · have h2 : ¬ (i : Int) > (j : Int) := by omega
      obtain ⟨Y1, Y2, rfl, hY2⟩ : ∃ Y1 Y2, Y' = Y1 ++ Y2 ∧ Y2.length = i := ⟨Y'.take (j - i), Y'.drop (j - i), (List.take_append_drop _ _).symm, by simp; omega⟩
      rw [List.length_append] at hj hY' hl2
      have sw := swapRange_ev g cl n L' X' Y1 Y2 N' (by omega) (by simp; omega) hb L'.length (m + Y1.length) rfl (by omega)
      rw [show L' ++ (X' ++ (Y1 ++ (Y2 ++ N'))) = D by rw [hD]; simp, ← hi] at sw
      have w3 : IntKind.i64.wrap ((m : Int) - (i : Int)) = (L'.length : Int) := w64_sub (by omega) (by omega)
      have w4 : IntKind.i64.wrap ((m : Int) + (j : Int)) = ((m + j : Nat) : Int) := w64_add (by omega)
      have w5 : IntKind.i64.wrap (((m + j : Nat) : Int) - (i : Int)) = ((m + Y1.length : Nat) : Int) := w64_sub (by omega) (by omega)
      have w6 : IntKind.i64.wrap ((j : Int) - (i : Int)) = (Y1.length : Int) := w64_sub (by omega) (by omega)
      refine ⟨(L' ++ (Y2 ++ (Y1 ++ (X' ++ N'))), i, Y1.length), ?_, ⟨L', Y2, Y1, X' ++ N', rfl, hY2.symm, rfl, by omega, by omega, by omega, by rw [← heq]; simp⟩, by first | omega | (simp only; omega)⟩
      simp only [c_slices_rotateCmpFunc_api_SimEvent_L1, h1, h2, w3, w4, w5, w6, sw, evts_lo, Ev.exec, Ev.evOpers, Ev.evOper, Ev.item_op, Ev.item_I, Ev.evOp, Ev.evs, Ev.Opnd.ev, Ev.Env.get, Ev.Env.set, Ev.look, Ev.bin_add, Ev.bin_sub, Ev.bin_neq, Ev.bin_gtr, Ev.settle, Ev.keep, Ev.varsLo, Ev.marksLo, Ev.storeLo, Ev.SObj.lo, Ev.lo_v, Ev.lo_sl, Ev.lo_fn, Ev.los_nil, ↓Ev.obind, Ev.it1, ↓reduceIte, List.take_succ_cons, List.take_nil, Nat.reduceEqDiff, reduceCtorEq, decide_true, decide_false, Bool.and_self, Bool.false_eq_true, and_self, ne_eq, not_false_eq_true, Nat.lt_add_one, eq_self]
end
end Go.Proofs.Ythkjkdbjgpeigaa.K
namespace Go.Proofs.Ythkjkdbjgpeigaa.K
open Go.Ev
set_option linter.unusedSimpArgs false
set_option linter.unusedVariables false
set_option maxRecDepth 10000
theorem half_bin (s h : Nat) (hh : h = s / 2) : evBin .shr (.v (.int .u64 (s : Int))) (.v (.int .u64 1)) = some (.v (.int .u64 (h : Int))) := by
  subst hh
  show (if (1 : Int) < 0 then none else some (AV.v (.int .u64 ((s : Int).fdiv (2 ^ (min (1 : Int).toNat IntKind.u64.bits)))))) = _
  rw [if_neg (by omega), show (2 : Int) ^ (min (1 : Int).toNat IntKind.u64.bits) = 2 from rfl, Int.fdiv_eq_ediv_of_nonneg _ (by omega)]
  rw [show (s : Int) / 2 = ((s / 2 : Nat) : Int) by omega]
theorem u64_small {n : Nat} (h : n < 2 ^ 63) : IntKind.u64.wrap (n : Int) = (n : Int) := by
  have h3 : IntKind.u64.bits = 64 := rfl
  have h4 : IntKind.u64.signed = false := rfl
  simp only [IntKind.wrap, h3, h4, Bool.false_and, Bool.false_eq_true, if_false]
  omega
theorem i64_small {n : Nat} (h : n < 2 ^ 63) : IntKind.i64.wrap (n : Int) = (n : Int) := w64_small (by omega) (by omega)
section
variable (g : Nat) (cl : Bool) (n : Nat)
theorem merge_find1 (D : List Evt) (x : Evt) (hn : n = D.length) (hb : n < 2 ^ 61) (hk : KeysOk D) (a m b : Nat) (ha : D[a]? = some x) (hmb : m ≤ b) (hbn : b ≤ n) (han : a < n) :
    ∃ y, itB (exec (evL T) itL none c_slices_symMergeCmpFunc_api_SimEvent_L1) (Ev.settle [0, 1, 4, 10, 11] true 1) ⟨[(0, .sl 0 g 0 n cl), (1, (.v (.int .i64 (a)))), (4, (.fn (.func n_evkey_CompareEvents) [] [])), (10, (.v (.int .i64 (m)))), (11, (.v (.int .i64 (b))))], []⟩ [.row 6 ((D).map Evt.r) g] = some y ∧
      ∃ i : Nat, y.1 = .exit 0 ∧ y.2.1.marks = [] ∧ y.2.2 = [.row 6 ((D).map Evt.r) g] ∧ Ev.look y.2.1.vars 0 = some (.sl 0 g 0 n cl) ∧ Ev.look y.2.1.vars 1 = some (.v (.int .i64 (a))) ∧ Ev.look y.2.1.vars 10 = some (.v (.int .i64 (i))) ∧ m ≤ i ∧ i ≤ b ∧ (i = m ∨ ∀ v, D[i - 1]? = some v → leE v x) ∧ (i = b ∨ ∀ v, D[i]? = some v → leE x v) := by
  refine itB_while (τ := Nat × Nat) (fun s => ⟨[(0, .sl 0 g 0 n cl), (1, (.v (.int .i64 (a)))), (4, (.fn (.func n_evkey_CompareEvents) [] [])), (10, (.v (.int .i64 (s.1)))), (11, (.v (.int .i64 (s.2))))], []⟩) (fun _ => [.row 6 ((D).map Evt.r) g]) (fun s => s.2 - s.1)
    (fun s => m ≤ s.1 ∧ s.1 ≤ s.2 ∧ s.2 ≤ b ∧ (s.1 = m ∨ ∀ v, D[s.1 - 1]? = some v → leE v x) ∧ (s.2 = b ∨ ∀ v, D[s.2]? = some v → leE x v)) _ ?_ (m, b) ⟨Nat.le_refl _, hmb, Nat.le_refl _, .inl rfl, .inl rfl⟩
  rintro ⟨i, j⟩ ⟨h1, h2, h3, h4, h5⟩
  simp only at h1 h2 h3 h4 h5 ⊢
  by_cases hij : i < j
  case neg =>
    have c1 : ¬ (i : Int) < (j : Int) := by omega
    right
    simp only [c_slices_symMergeCmpFunc_api_SimEvent_L1, c1, Ev.exec, Ev.evOpers, Ev.evOper, Ev.item_op, Ev.evOp, Ev.Opnd.ev, Ev.Env.get, Ev.Env.set, Ev.look, Ev.bin_lss, ↓Ev.obind, Ev.it1, ↓reduceIte, Nat.reduceEqDiff, reduceCtorEq, decide_false, Bool.false_eq_true, eq_self]
    refine ⟨_, rfl, i, rfl, rfl, rfl, rfl, rfl, rfl, h1, by omega, h4, ?_⟩
    obtain rfl : i = j := by omega
    exact h5
  obtain ⟨h, hh⟩ : ∃ h, h = (i + j) / 2 := ⟨_, rfl⟩
  have c1 : (i : Int) < (j : Int) := by omega
  obtain ⟨y, hy⟩ : ∃ y, D[h]? = some y := ⟨_, List.getElem?_eq_getElem (by omega)⟩
  have w1 : IntKind.i64.wrap ((i : Int) + (j : Int)) = ((i + j : Nat) : Int) := w64_add (by omega)
  have w2 : IntKind.u64.wrap ((i + j : Nat) : Int) = ((i + j : Nat) : Int) := u64_small (by omega)
  have w3 := half_bin (i + j) h hh
  have w4 : IntKind.i64.wrap (h : Int) = (h : Int) := i64_small (by omega)
  have w5 : IntKind.i64.wrap ((h : Int) + 1) = ((h + 1 : Nat) : Int) := w64_add1 (by omega)
  have rh : h < n := by omega
  have kx : x.key.length ≤ 9223372036854775807 := hk x (List.mem_of_getElem? ha)
  have ky : y.key.length ≤ 9223372036854775807 := hk y (List.mem_of_getElem? hy)
  have hc := CompareEvents_evA y x ky kx 6 (D.map Evt.r) g
  left
  by_cases hlt : cmpE y x < 0
  · refine ⟨(h + 1, j), ?_, ⟨by simp only; omega, by simp only; omega, h3, .inr fun v hv => ?_, h5⟩, by simp only; omega⟩
    · obtain ⟨xt, xk, xl, xi, xp, xa⟩ := x
      obtain ⟨yt, yk, yl, yi, yp, ya⟩ := y
      simp only at hc
      simp only [c_slices_symMergeCmpFunc_api_SimEvent_L1, Int.natCast_nonneg, Int.toNat_natCast, List.getElem?_map, Option.map_some, ha, hy, c1, w1, w2, w3, w4, w5, rh, han, hc, hlt, Evt.r, evts_lo, Ev.exec, Ev.evOpers, Ev.evOper, Ev.item_op, Ev.item_v, Ev.evOp, Ev.evs, Ev.Opnd.ev, Ev.Env.get, Ev.Env.set, Ev.look, Ev.cellsAt, Ev.loadC, Ev.bin_add, Ev.bin_lss, Ev.settle, Ev.keep, Ev.varsLo, Ev.marksLo, Ev.storeLo, Ev.SObj.lo, Ev.lo_v, Ev.lo_sl, Ev.lo_fn, Ev.los_nil, ↓Ev.obind, Ev.it1, ↓reduceIte, List.length_cons, List.length_nil, List.getElem?_cons_zero, List.take_succ_cons, List.take_nil, List.drop_zero, List.nil_append, List.append_nil, Nat.reduceAdd, Nat.reduceEqDiff, reduceCtorEq, decide_true, Bool.and_self, and_self, Nat.zero_add, Nat.lt_add_one, Nat.le_refl, eq_self]
    · simp only [Nat.add_sub_cancel] at hv
      rw [hy] at hv; cases hv; exact leE_of y x hlt
  · refine ⟨(i, h), ?_, ⟨h1, by simp only; omega, by simp only; omega, h4, .inr fun v hv => ?_⟩, by simp only; omega⟩
    · obtain ⟨xt, xk, xl, xi, xp, xa⟩ := x
      obtain ⟨yt, yk, yl, yi, yp, ya⟩ := y
      simp only at hc
      simp only [c_slices_symMergeCmpFunc_api_SimEvent_L1, Int.natCast_nonneg, Int.toNat_natCast, List.getElem?_map, Option.map_some, ha, hy, c1, w1, w2, w3, w4, rh, han, hc, hlt, Evt.r, evts_lo, Ev.exec, Ev.evOpers, Ev.evOper, Ev.item_op, Ev.item_v, Ev.evOp, Ev.evs, Ev.Opnd.ev, Ev.Env.get, Ev.Env.set, Ev.look, Ev.cellsAt, Ev.loadC, Ev.bin_add, Ev.bin_lss, Ev.settle, Ev.keep, Ev.varsLo, Ev.marksLo, Ev.storeLo, Ev.SObj.lo, Ev.lo_v, Ev.lo_sl, Ev.lo_fn, Ev.los_nil, ↓Ev.obind, Ev.it1, ↓reduceIte, List.length_cons, List.length_nil, List.getElem?_cons_zero, List.take_succ_cons, List.take_nil, List.drop_zero, List.nil_append, List.append_nil, Nat.reduceAdd, Nat.reduceEqDiff, reduceCtorEq, decide_true, decide_false, Bool.and_self, Bool.false_eq_true, and_self, Nat.zero_add, Nat.lt_add_one, Nat.le_refl, eq_self]
    · simp only at hv
      rw [hy] at hv; cases hv; exact leE_of_not y x hlt
theorem merge_find2 (D : List Evt) (x : Evt) (hn : n = D.length) (hb : n < 2 ^ 61) (hk : KeysOk D) (a m : Nat) (hm : D[m]? = some x) (ham : a ≤ m) (hmn : m < n) :
    ∃ y, itB (exec (evL T) itL none c_slices_symMergeCmpFunc_api_SimEvent_L3) (Ev.settle [0, 2, 4, 14, 15] true 1) ⟨[(0, .sl 0 g 0 n cl), (2, (.v (.int .i64 (m)))), (4, (.fn (.func n_evkey_CompareEvents) [] [])), (14, (.v (.int .i64 (a)))), (15, (.v (.int .i64 (m))))], []⟩ [.row 6 ((D).map Evt.r) g] = some y ∧
      ∃ i : Nat, y.1 = .exit 4 ∧ y.2.1.marks = [] ∧ y.2.2 = [.row 6 ((D).map Evt.r) g] ∧ Ev.look y.2.1.vars 0 = some (.sl 0 g 0 n cl) ∧ Ev.look y.2.1.vars 2 = some (.v (.int .i64 (m))) ∧ Ev.look y.2.1.vars 14 = some (.v (.int .i64 (i))) ∧ a ≤ i ∧ i ≤ m ∧ (i = a ∨ ∀ v, D[i - 1]? = some v → leE v x) ∧ (i = m ∨ ∀ v, D[i]? = some v → leE x v) := by
  refine itB_while (τ := Nat × Nat) (fun s => ⟨[(0, .sl 0 g 0 n cl), (2, (.v (.int .i64 (m)))), (4, (.fn (.func n_evkey_CompareEvents) [] [])), (14, (.v (.int .i64 (s.1)))), (15, (.v (.int .i64 (s.2))))], []⟩) (fun _ => [.row 6 ((D).map Evt.r) g]) (fun s => s.2 - s.1)
    (fun s => a ≤ s.1 ∧ s.1 ≤ s.2 ∧ s.2 ≤ m ∧ (s.1 = a ∨ ∀ v, D[s.1 - 1]? = some v → leE v x) ∧ (s.2 = m ∨ ∀ v, D[s.2]? = some v → leE x v)) _ ?_ (a, m) ⟨Nat.le_refl _, ham, Nat.le_refl _, .inl rfl, .inl rfl⟩
  rintro ⟨i, j⟩ ⟨h1, h2, h3, h4, h5⟩
  simp only at h1 h2 h3 h4 h5 ⊢
  by_cases hij : i < j
  case neg =>
    have c1 : ¬ (i : Int) < (j : Int) := by omega
    right
    simp only [c_slices_symMergeCmpFunc_api_SimEvent_L3, c1, Ev.exec, Ev.evOpers, Ev.evOper, Ev.item_op, Ev.evOp, Ev.Opnd.ev, Ev.Env.get, Ev.Env.set, Ev.look, Ev.bin_lss, ↓Ev.obind, Ev.it1, ↓reduceIte, Nat.reduceEqDiff, reduceCtorEq, decide_false, Bool.false_eq_true, eq_self]
    refine ⟨_, rfl, i, rfl, rfl, rfl, rfl, rfl, rfl, h1, by omega, h4, ?_⟩
    obtain rfl : i = j := by omega
    exact h5
  obtain ⟨h, hh⟩ : ∃ h, h = (i + j) / 2 := ⟨_, rfl⟩
  have c1 : (i : Int) < (j : Int) := by omega
  obtain ⟨y, hy⟩ : ∃ y, D[h]? = some y := ⟨_, List.getElem?_eq_getElem (by omega)⟩
  have w1 : IntKind.i64.wrap ((i : Int) + (j : Int)) = ((i + j : Nat) : Int) := w64_add (by omega)
  have w2 : IntKind.u64.wrap ((i + j : Nat) : Int) = ((i + j : Nat) : Int) := u64_small (by omega)
  have w3 := half_bin (i + j) h hh
  have w4 : IntKind.i64.wrap (h : Int) = (h : Int) := i64_small (by omega)
  have w5 : IntKind.i64.wrap ((h : Int) + 1) = ((h + 1 : Nat) : Int) := w64_add1 (by omega)
  have rh : h < n := by omega
  have kx : x.key.length ≤ 9223372036854775807 := hk x (List.mem_of_getElem? hm)
  have ky : y.key.length ≤ 9223372036854775807 := hk y (List.mem_of_getElem? hy)
  have hc := CompareEvents_evA x y kx ky 6 (D.map Evt.r) g
  left
  by_cases hlt : cmpE x y < 0
  · refine ⟨(i, h), ?_, ⟨h1, by simp only; omega, by simp only; omega, h4, .inr fun v hv => ?_⟩, by simp only; omega⟩
    · obtain ⟨xt, xk, xl, xi, xp, xa⟩ := x
      obtain ⟨yt, yk, yl, yi, yp, ya⟩ := y
      simp only at hc
      simp only [c_slices_symMergeCmpFunc_api_SimEvent_L3, Int.natCast_nonneg, Int.toNat_natCast, List.getElem?_map, Option.map_some, hm, hy, c1, w1, w2, w3, w4, rh, hmn, hc, hlt, Evt.r, evts_lo, Ev.exec, Ev.evOpers, Ev.evOper, Ev.item_op, Ev.item_v, Ev.evOp, Ev.evs, Ev.Opnd.ev, Ev.Env.get, Ev.Env.set, Ev.look, Ev.cellsAt, Ev.loadC, Ev.bin_add, Ev.bin_lss, Ev.settle, Ev.keep, Ev.varsLo, Ev.marksLo, Ev.storeLo, Ev.SObj.lo, Ev.lo_v, Ev.lo_sl, Ev.lo_fn, Ev.los_nil, ↓Ev.obind, Ev.it1, ↓reduceIte, List.length_cons, List.length_nil, List.getElem?_cons_zero, List.take_succ_cons, List.take_nil, List.drop_zero, List.nil_append, List.append_nil, Nat.reduceAdd, Nat.reduceEqDiff, reduceCtorEq, decide_true, Bool.and_self, Bool.not_true, Bool.false_eq_true, and_self, Nat.zero_add, Nat.lt_add_one, Nat.le_refl, eq_self]
    · simp only at hv
      rw [hy] at hv; cases hv; exact leE_of x y hlt
  · refine ⟨(h + 1, j), ?_, ⟨by simp only; omega, by simp only; omega, h3, .inr fun v hv => ?_, h5⟩, by simp only; omega⟩
    · obtain ⟨xt, xk, xl, xi, xp, xa⟩ := x
      obtain ⟨yt, yk, yl, yi, yp, ya⟩ := y
      simp only at hc
      simp only [c_slices_symMergeCmpFunc_api_SimEvent_L3, Int.natCast_nonneg, Int.toNat_natCast, List.getElem?_map, Option.map_some, hm, hy, c1, w1, w2, w3, w4, w5, rh, hmn, hc, hlt, Evt.r, evts_lo, Ev.exec, Ev.evOpers, Ev.evOper, Ev.item_op, Ev.item_v, Ev.evOp, Ev.evs, Ev.Opnd.ev, Ev.Env.get, Ev.Env.set, Ev.look, Ev.cellsAt, Ev.loadC, Ev.bin_add, Ev.bin_lss, Ev.settle, Ev.keep, Ev.varsLo, Ev.marksLo, Ev.storeLo, Ev.SObj.lo, Ev.lo_v, Ev.lo_sl, Ev.lo_fn, Ev.los_nil, ↓Ev.obind, Ev.it1, ↓reduceIte, List.length_cons, List.length_nil, List.getElem?_cons_zero, List.take_succ_cons, List.take_nil, List.drop_zero, List.nil_append, List.append_nil, Nat.reduceAdd, Nat.reduceEqDiff, reduceCtorEq, decide_true, decide_false, Bool.and_self, Bool.not_false, and_self, Nat.zero_add, Nat.lt_add_one, Nat.le_refl, eq_self]
    · simp only [Nat.add_sub_cancel] at hv
      rw [hy] at hv; cases hv; exact leE_of_not x y hlt
theorem merge_find3 (D : List Evt) (hn : n = D.length) (hb : n < 2 ^ 61) (hk : KeysOk D) (a m b mid nn p lo hi : Nat) (hp : nn = p + 1) (hlh : lo ≤ hi) (hdom : ∀ c, lo ≤ c → c < hi → c < n ∧ c ≤ p ∧ p - c < n) (hnn : nn < 2 ^ 62) (hhn : hi ≤ n) :
    ∃ y, itB (exec (evL T) itL none c_slices_symMergeCmpFunc_api_SimEvent_L5) (Ev.settle [0, 1, 2, 3, 4, 18, 19, 20, 21, 22] true 1) ⟨[(0, .sl 0 g 0 n cl), (1, (.v (.int .i64 (a)))), (2, (.v (.int .i64 (m)))), (3, (.v (.int .i64 (b)))), (4, (.fn (.func n_evkey_CompareEvents) [] [])), (18, (.v (.int .i64 (mid)))), (19, (.v (.int .i64 (nn)))), (20, (.v (.int .i64 (lo)))), (21, (.v (.int .i64 (hi)))), (22, (.v (.int .i64 (p))))], []⟩ [.row 6 ((D).map Evt.r) g] = some y ∧
      ∃ i : Nat, y.1 = .exit 8 ∧ y.2.1.marks = [] ∧ y.2.2 = [.row 6 ((D).map Evt.r) g] ∧ Ev.look y.2.1.vars 0 = some (.sl 0 g 0 n cl) ∧ Ev.look y.2.1.vars 1 = some (.v (.int .i64 (a))) ∧ Ev.look y.2.1.vars 2 = some (.v (.int .i64 (m))) ∧ Ev.look y.2.1.vars 3 = some (.v (.int .i64 (b))) ∧ Ev.look y.2.1.vars 4 = some (.fn (.func n_evkey_CompareEvents) [] []) ∧ Ev.look y.2.1.vars 18 = some (.v (.int .i64 (mid))) ∧
        Ev.look y.2.1.vars 19 = some (.v (.int .i64 (nn))) ∧ Ev.look y.2.1.vars 20 = some (.v (.int .i64 (i))) ∧ lo ≤ i ∧ i ≤ hi ∧ (i = lo ∨ ∀ u v, D[i - 1]? = some u → D[p - (i - 1)]? = some v → leE u v) ∧ (i = hi ∨ ∀ u v, D[p - i]? = some u → D[i]? = some v → leE u v) := by
  refine itB_while (τ := Nat × Nat) (fun s => ⟨[(0, .sl 0 g 0 n cl), (1, (.v (.int .i64 (a)))), (2, (.v (.int .i64 (m)))), (3, (.v (.int .i64 (b)))), (4, (.fn (.func n_evkey_CompareEvents) [] [])), (18, (.v (.int .i64 (mid)))), (19, (.v (.int .i64 (nn)))), (20, (.v (.int .i64 (s.1)))), (21, (.v (.int .i64 (s.2)))), (22, (.v (.int .i64 (p))))], []⟩) (fun _ => [.row 6 ((D).map Evt.r) g]) (fun s => s.2 - s.1)
    (fun s => lo ≤ s.1 ∧ s.1 ≤ s.2 ∧ s.2 ≤ hi ∧ (s.1 = lo ∨ ∀ u v, D[s.1 - 1]? = some u → D[p - (s.1 - 1)]? = some v → leE u v) ∧ (s.2 = hi ∨ ∀ u v, D[p - s.2]? = some u → D[s.2]? = some v → leE u v)) _ ?_ (lo, hi) ⟨Nat.le_refl _, hlh, Nat.le_refl _, .inl rfl, .inl rfl⟩
  rintro ⟨i, j⟩ ⟨h1, h2, h3, h4, h5⟩
  simp only at h1 h2 h3 h4 h5 ⊢
  by_cases hij : i < j
  case neg =>
    have c1 : ¬ (i : Int) < (j : Int) := by omega
    right
    simp only [c_slices_symMergeCmpFunc_api_SimEvent_L5, c1, Ev.exec, Ev.evOpers, Ev.evOper, Ev.item_op, Ev.evOp, Ev.Opnd.ev, Ev.Env.get, Ev.Env.set, Ev.look, Ev.bin_lss, ↓Ev.obind, Ev.it1, ↓reduceIte, Nat.reduceEqDiff, reduceCtorEq, decide_false, Bool.false_eq_true, eq_self]
    refine ⟨_, rfl, i, rfl, rfl, rfl, rfl, rfl, rfl, rfl, rfl, rfl, rfl, rfl, h1, by omega, h4, ?_⟩
    obtain rfl : i = j := by omega
    exact h5
  obtain ⟨h, hh⟩ : ∃ h, h = (i + j) / 2 := ⟨_, rfl⟩
  have c1 : (i : Int) < (j : Int) := by omega
  obtain ⟨d1, d2, d3⟩ := hdom h (by omega) (by omega)
  obtain ⟨q, hq⟩ : ∃ q, q = p - h := ⟨_, rfl⟩
  obtain ⟨y, hy⟩ : ∃ y, D[h]? = some y := ⟨_, List.getElem?_eq_getElem (by omega)⟩
  obtain ⟨x, hx⟩ : ∃ x, D[q]? = some x := ⟨_, List.getElem?_eq_getElem (by omega)⟩
  have w1 : IntKind.i64.wrap ((i : Int) + (j : Int)) = ((i + j : Nat) : Int) := w64_add (by omega)
  have w2 : IntKind.u64.wrap ((i + j : Nat) : Int) = ((i + j : Nat) : Int) := u64_small (by omega)
  have w3 := half_bin (i + j) h hh
  have w4 : IntKind.i64.wrap (h : Int) = (h : Int) := i64_small (by omega)
  have w5 : IntKind.i64.wrap ((h : Int) + 1) = ((h + 1 : Nat) : Int) := w64_add1 (by omega)
  have w6 : IntKind.i64.wrap ((p : Int) - (h : Int)) = (q : Int) := w64_sub (by omega) (by omega)
  have rq : q < n := by omega
  have kx : x.key.length ≤ 9223372036854775807 := hk x (List.mem_of_getElem? hx)
  have ky : y.key.length ≤ 9223372036854775807 := hk y (List.mem_of_getElem? hy)
  have hc := CompareEvents_evA x y kx ky 6 (D.map Evt.r) g
  left
  by_cases hlt : cmpE x y < 0
  · refine ⟨(i, h), ?_, ⟨h1, by simp only; omega, by simp only; omega, h4, .inr fun u v hu hv => ?_⟩, by simp only; omega⟩
    · obtain ⟨xt, xk, xl, xi, xp, xa⟩ := x
      obtain ⟨yt, yk, yl, yi, yp, ya⟩ := y
      simp only at hc
      simp only [c_slices_symMergeCmpFunc_api_SimEvent_L5, Int.natCast_nonneg, Int.toNat_natCast, List.getElem?_map, Option.map_some, hx, hy, c1, w1, w2, w3, w4, w6, d1, rq, hc, hlt, Evt.r, evts_lo, Ev.exec, Ev.evOpers, Ev.evOper, Ev.item_op, Ev.item_v, Ev.evOp, Ev.evs, Ev.Opnd.ev, Ev.Env.get, Ev.Env.set, Ev.look, Ev.cellsAt, Ev.loadC, Ev.bin_add, Ev.bin_sub, Ev.bin_lss, Ev.settle, Ev.keep, Ev.varsLo, Ev.marksLo, Ev.storeLo, Ev.SObj.lo, Ev.lo_v, Ev.lo_sl, Ev.lo_fn, Ev.los_nil, ↓Ev.obind, Ev.it1, ↓reduceIte, List.length_cons, List.length_nil, List.getElem?_cons_zero, List.take_succ_cons, List.take_nil, List.drop_zero, List.nil_append, List.append_nil, Nat.reduceAdd, Nat.reduceEqDiff, reduceCtorEq, decide_true, Bool.and_self, Bool.not_true, Bool.false_eq_true, and_self, Nat.zero_add, Nat.lt_add_one, Nat.le_refl, eq_self]
    · simp only at hu hv
      rw [← hq, hx] at hu; cases hu
      rw [hy] at hv; cases hv; exact leE_of x y hlt
  · refine ⟨(h + 1, j), ?_, ⟨by simp only; omega, by simp only; omega, h3, .inr fun u v hu hv => ?_, h5⟩, by simp only; omega⟩
    · obtain ⟨xt, xk, xl, xi, xp, xa⟩ := x
      obtain ⟨yt, yk, yl, yi, yp, ya⟩ := y
      simp only at hc
      simp only [c_slices_symMergeCmpFunc_api_SimEvent_L5, Int.natCast_nonneg, Int.toNat_natCast, List.getElem?_map, Option.map_some, hx, hy, c1, w1, w2, w3, w4, w5, w6, d1, rq, hc, hlt, Evt.r, evts_lo, Ev.exec, Ev.evOpers, Ev.evOper, Ev.item_op, Ev.item_v, Ev.evOp, Ev.evs, Ev.Opnd.ev, Ev.Env.get, Ev.Env.set, Ev.look, Ev.cellsAt, Ev.loadC, Ev.bin_add, Ev.bin_sub, Ev.bin_lss, Ev.settle, Ev.keep, Ev.varsLo, Ev.marksLo, Ev.storeLo, Ev.SObj.lo, Ev.lo_v, Ev.lo_sl, Ev.lo_fn, Ev.los_nil, ↓Ev.obind, Ev.it1, ↓reduceIte, List.length_cons, List.length_nil, List.getElem?_cons_zero, List.take_succ_cons, List.take_nil, List.drop_zero, List.nil_append, List.append_nil, Nat.reduceAdd, Nat.reduceEqDiff, reduceCtorEq, decide_true, decide_false, Bool.and_self, Bool.not_false, and_self, Nat.zero_add, Nat.lt_add_one, Nat.le_refl, eq_self]
    · simp only [Nat.add_sub_cancel] at hu hv
      rw [← hq, hx] at hv; cases hv
      rw [hy] at hu; cases hu; exact leE_of_not x y hlt
end
end Go.Proofs.Ythkjkdbjgpeigaa.K
namespace Go.Proofs.Ythkjkdbjgpeigaa.K
open Go.Ev
set_option linter.unusedSimpArgs false
set_option linter.unusedVariables false
set_option maxRecDepth 10000
section
variable (g : Nat) (cl : Bool) (n : Nat)
theorem merge_move1 (P S Q : List Evt) (x : Evt) (hn : n = (P ++ x :: (S ++ Q)).length) (hb : n < 2 ^ 61) (a i : Nat) (ha : a = P.length) (hi : i = a + S.length + 1) :
    ∃ y, itB (exec (evL T) itL none c_slices_symMergeCmpFunc_api_SimEvent_L2) (Ev.settle [0, 10, 13] true 1) ⟨[(0, .sl 0 g 0 n cl), (10, (.v (.int .i64 (i)))), (13, (.v (.int .i64 (a))))], []⟩ [.row 6 ((P ++ x :: (S ++ Q)).map Evt.r) g] = some y ∧
      (y.1 = .exit 2 ∧ y.2.1.marks = [] ∧ y.2.2 = [.row 6 ((P ++ (S ++ x :: Q)).map Evt.r) g]) := by
  refine itB_while (τ := List Evt × Nat) (fun s => ⟨[(0, .sl 0 g 0 n cl), (10, (.v (.int .i64 (i)))), (13, (.v (.int .i64 (s.2))))], []⟩) (fun s => [.row 6 ((s.1).map Evt.r) g]) (fun s => i - s.2)
    (fun s => ∃ A B, s.1 = P ++ (A ++ x :: (B ++ Q)) ∧ s.2 = a + A.length ∧ A ++ B = S) _ ?_ (P ++ x :: (S ++ Q), a) ⟨[], S, by simp, rfl, by simp⟩
  rintro ⟨D, k⟩ ⟨A, B, hD, hk, hAB⟩
  simp only at hD hk ⊢
  have hlen : n = P.length + (S.length + (Q.length + 1)) := by rw [hn]; simp; omega
  have hSl : S.length = A.length + B.length := by rw [← hAB]; simp
  obtain ⟨i', hi'⟩ : ∃ i', i' = a + S.length := ⟨_, rfl⟩
  have w1 : IntKind.i64.wrap ((i : Int) - 1) = (i' : Int) := w64_sub1 (by omega) (by omega)
  cases B with
  | nil =>
    have h1 : ¬ (k : Int) < (i' : Int) := by simp at hSl; omega
    right
    simp only [c_slices_symMergeCmpFunc_api_SimEvent_L2, w1, h1, Ev.exec, Ev.evOpers, Ev.evOper, Ev.item_op, Ev.evOp, Ev.Opnd.ev, Ev.Env.get, Ev.Env.set, Ev.look, Ev.bin_sub, Ev.bin_lss, ↓Ev.obind, Ev.it1, ↓reduceIte, Nat.reduceEqDiff, reduceCtorEq, decide_false, Bool.false_eq_true, eq_self]
    refine ⟨_, rfl, rfl, rfl, ?_⟩
    rw [hD, ← hAB]; simp
  | cons y B =>
    rw [List.length_cons] at hSl
    have h1 : (k : Int) < (i' : Int) := by omega
    have e1 : D = (P ++ A) ++ x :: y :: (B ++ Q) := by rw [hD]; simp
    have l1 : k = (P ++ A).length := by simp; omega
    obtain ⟨j, hj⟩ : ∃ j, j = k + 1 := ⟨_, rfl⟩
    have gx : D[k]? = some x := get_mid e1 l1
    have gy : D[j]? = some y := get_mid (L := P ++ A ++ [x]) (M := B ++ Q) (by rw [e1]; simp) (by simp; omega)
    have ge : D.length = n := by rw [e1, hlen]; simp; omega
    have w2 : IntKind.i64.wrap ((k : Int) + 1) = (j : Int) := by rw [hj]; exact w64_add1 (by omega)
    have rj : j < n := by omega
    have rk : k < n := by omega
    have sw := swap_next' e1 l1 hj
    have hne : ¬ (k = j) := by omega
    left
    have hlo := evts_lo 1 ((D.set k y).set j x)
    refine ⟨((D.set k y).set j x, j), ?_, ⟨A ++ [y], B, by rw [sw]; simp, by simp; omega, by rw [← hAB]; simp⟩, by simp only; omega⟩
    obtain ⟨xt, xk, xl, xi, xp, xa⟩ := x
    obtain ⟨yt, yk, yl, yi, yp, ya⟩ := y
    have hs : ∀ v, ((D.map Evt.r).set k v)[j]? = some (Evt.r ⟨yt, yk, yl, yi, yp, ya⟩) := fun v => by rw [List.getElem?_set_ne hne, List.getElem?_map, gy]; rfl
    simp only [List.map_set, Evt.r] at hlo
    simp only [c_slices_symMergeCmpFunc_api_SimEvent_L2, Int.natCast_nonneg, Int.toNat_natCast, List.getElem?_map, Option.map_some, gx, gy, hs, h1, w1, w2, rj, rk, hlo, List.map_set, Evt.r, Ev.exec, Ev.evOpers, Ev.evOper, Ev.item_op, Ev.evOp, Ev.Opnd.ev, Ev.Env.get, Ev.Env.set, Ev.look, Ev.cellsAt, Ev.loadC, Ev.AV.cells, Ev.plains, Ev.AV.plain, Ev.bin_add, Ev.bin_sub, Ev.bin_lss, Ev.settle, Ev.keep, Ev.varsLo, Ev.marksLo, Ev.storeLo, Ev.SObj.lo, Ev.lo_v, Ev.lo_sl, ↓Ev.obind, Ev.it1, ↓reduceIte, List.length_cons, List.length_nil, List.getElem?_cons_zero, List.take_succ_cons, List.take_zero, List.take_nil, List.drop_succ_cons, List.drop_zero, List.drop_nil, List.nil_append, List.append_nil, List.set_cons_zero, Nat.reduceAdd, Nat.reduceEqDiff, reduceCtorEq, decide_true, Bool.and_self, and_self, Nat.zero_add, Nat.lt_add_one, Nat.le_refl, eq_self]
theorem merge_move2 (P S Q : List Evt) (x : Evt) (hn : n = (P ++ (S ++ x :: Q)).length) (hb : n < 2 ^ 61) (m i : Nat) (hi : i = P.length) (hm : m = i + S.length) :
    ∃ y, itB (exec (evL T) itL none c_slices_symMergeCmpFunc_api_SimEvent_L4) (Ev.settle [0, 14, 17] true 1) ⟨[(0, .sl 0 g 0 n cl), (14, (.v (.int .i64 (i)))), (17, (.v (.int .i64 (m))))], []⟩ [.row 6 ((P ++ (S ++ x :: Q)).map Evt.r) g] = some y ∧
      (y.1 = .exit 6 ∧ y.2.1.marks = [] ∧ y.2.2 = [.row 6 ((P ++ x :: (S ++ Q)).map Evt.r) g]) := by
  refine itB_while (τ := List Evt × Nat) (fun s => ⟨[(0, .sl 0 g 0 n cl), (14, (.v (.int .i64 (i)))), (17, (.v (.int .i64 (s.2))))], []⟩) (fun s => [.row 6 ((s.1).map Evt.r) g]) (fun s => s.2)
    (fun s => ∃ A B, s.1 = P ++ (A ++ x :: (B ++ Q)) ∧ s.2 = i + A.length ∧ A ++ B = S) _ ?_ (P ++ (S ++ x :: Q), m) ⟨S, [], by simp, hm, by simp⟩
  rintro ⟨D, j⟩ ⟨A, B, hD, hj, hAB⟩
  simp only at hD hj ⊢
  have hlen : n = P.length + (S.length + (Q.length + 1)) := by rw [hn]; simp
  have hSl : S.length = A.length + B.length := by rw [← hAB]; simp
  rcases List.eq_nil_or_concat A with rfl | ⟨A0, y, rfl⟩
  · have h1 : ¬ (j : Int) > (i : Int) := by simp at hj; omega
    right
    simp only [c_slices_symMergeCmpFunc_api_SimEvent_L4, h1, Ev.exec, Ev.evOpers, Ev.evOper, Ev.item_op, Ev.evOp, Ev.Opnd.ev, Ev.Env.get, Ev.Env.set, Ev.look, Ev.bin_gtr, ↓Ev.obind, Ev.it1, ↓reduceIte, Nat.reduceEqDiff, reduceCtorEq, decide_false, Bool.false_eq_true, eq_self]
    refine ⟨_, rfl, rfl, rfl, ?_⟩
    rw [hD, ← hAB]; simp
  · simp only [List.concat_eq_append, List.length_append, List.length_cons, List.length_nil] at hD hj hSl hAB
    obtain ⟨k, hk1⟩ : ∃ k, k = i + A0.length := ⟨_, rfl⟩
    have hjk : j = k + 1 := by omega
    have h1 : (j : Int) > (i : Int) := by omega
    have e1 : D = (P ++ A0) ++ y :: x :: (B ++ Q) := by rw [hD]; simp
    have l1 : k = (P ++ A0).length := by simp; omega
    have gy : D[k]? = some y := get_mid e1 l1
    have gx : D[j]? = some x := get_mid (L := P ++ A0 ++ [y]) (M := B ++ Q) (by rw [e1]; simp) (by simp; omega)
    have ge : D.length = n := by rw [e1, hlen]; simp; omega
    have ws : IntKind.i64.wrap ((j : Int) - 1) = (k : Int) := w64_sub1 hjk (by omega)
    have rj : j < n := by omega
    have rk : k < n := by omega
    have sw := swap_next e1 l1 hjk
    have hne : ¬ (j = k) := by omega
    left
    have hlo := evts_lo 1 ((D.set j y).set k x)
    refine ⟨((D.set j y).set k x, k), ?_, ⟨A0, y :: B, by rw [sw]; simp, hk1, by rw [← hAB]; simp⟩, by simp only; omega⟩
    obtain ⟨xt, xk, xl, xi, xp, xa⟩ := x
    obtain ⟨yt, yk, yl, yi, yp, ya⟩ := y
    have hs : ∀ v, ((D.map Evt.r).set j v)[k]? = some (Evt.r ⟨yt, yk, yl, yi, yp, ya⟩) := fun v => by rw [List.getElem?_set_ne hne, List.getElem?_map, gy]; rfl
    simp only [List.map_set, Evt.r] at hlo
    simp only [c_slices_symMergeCmpFunc_api_SimEvent_L4, Int.natCast_nonneg, Int.toNat_natCast, List.getElem?_map, Option.map_some, gx, gy, hs, h1, ws, rj, rk, hlo, List.map_set, Evt.r, Ev.exec, Ev.evOpers, Ev.evOper, Ev.item_op, Ev.evOp, Ev.Opnd.ev, Ev.Env.get, Ev.Env.set, Ev.look, Ev.cellsAt, Ev.loadC, Ev.AV.cells, Ev.plains, Ev.AV.plain, Ev.bin_sub, Ev.bin_gtr, Ev.settle, Ev.keep, Ev.varsLo, Ev.marksLo, Ev.storeLo, Ev.SObj.lo, Ev.lo_v, Ev.lo_sl, ↓Ev.obind, Ev.it1, ↓reduceIte, List.length_cons, List.length_nil, List.getElem?_cons_zero, List.take_succ_cons, List.take_zero, List.take_nil, List.drop_succ_cons, List.drop_zero, List.drop_nil, List.nil_append, List.append_nil, List.set_cons_zero, Nat.reduceAdd, Nat.reduceEqDiff, reduceCtorEq, decide_true, Bool.and_self, and_self, Nat.zero_add, Nat.lt_add_one, Nat.le_refl, eq_self]
theorem KeysOk.perm {D E : List Evt} (h : KeysOk D) (p : E.Perm D) : KeysOk E := fun x hx => h x (p.mem_iff.1 hx)
theorem merge_one1 (P Y Q : List Evt) (x : Evt) (hY : Y.Pairwise leE) (hY0 : 0 < Y.length) (hn : n = (P ++ x :: (Y ++ Q)).length) (hb : n < 2 ^ 61) (hk : KeysOk (P ++ x :: (Y ++ Q))) (a m b : Nat) (ha : a = P.length) (hm : m = a + 1) (hbb : b = m + Y.length) :
    ∃ Z : List Evt, Z.Perm (x :: Y) ∧ Z.Pairwise leE ∧ (evL T).call n_slices_symMergeCmpFunc_api_SimEvent [.sl 0 g 0 n cl, (.v (.int .i64 (a))), (.v (.int .i64 (m))), (.v (.int .i64 (b))), (.fn (.func n_evkey_CompareEvents) [] [])] [.row 6 ((P ++ x :: (Y ++ Q)).map Evt.r) g] = some (.tup [], [.row 6 ((P ++ (Z ++ Q)).map Evt.r) g]) := by
  have hlen : n = P.length + (1 + (Y.length + Q.length)) := by rw [hn]; simp; omega
  obtain ⟨⟨y, e, σ⟩, k1, i, k2, k3, k4, k5, k6, k7, k8, k9, k10, k11⟩ := merge_find1 g cl n (P ++ x :: (Y ++ Q)) x hn hb hk a m b (get_mid rfl ha) (by omega) (by omega) (by omega)
  simp only at k1 k2 k3 k4 k5 k6 k7
  subst k2; subst k4
  obtain ⟨Y1, Y2, rfl, hY1⟩ : ∃ Y1 Y2, Y = Y1 ++ Y2 ∧ Y1.length = i - m := ⟨Y.take (i - m), Y.drop (i - m), (List.take_append_drop _ _).symm, by simp; omega⟩
  rw [List.length_append] at hbb hlen hY0
  obtain ⟨⟨y', e', σ'⟩, l1, l2, l3, l4⟩ := merge_move1 g cl n P Y1 (Y2 ++ Q) x (by rw [hlen]; simp; omega) hb a i ha (by omega)
  simp only at l1 l2 l3 l4
  subst l2; subst l4
  rw [List.append_assoc] at hk
  refine ⟨Y1 ++ x :: Y2, List.perm_middle, insert_split leE_trans hY ?_ ?_, ?_⟩
  · intro u hu
    rcases k10 with h | h
    · rw [show Y1 = [] from List.eq_nil_of_length_eq_zero (by omega)] at hu; simp at hu
    · have hlt : Y1.length - 1 < Y1.length := (List.getElem?_eq_some_iff.1 hu).1
      refine h u ?_
      rw [← hu]
      exact get_in (L := P ++ [x]) (X := Y1) (M := Y2 ++ Q) (by simp) hlt (by simp; omega)
  · intro v hv
    rcases k11 with h | h
    · rw [show Y2 = [] from List.eq_nil_of_length_eq_zero (by omega)] at hv; simp at hv
    · have hlt : 0 < Y2.length := (List.getElem?_eq_some_iff.1 hv).1
      refine h v ?_
      rw [← hv]
      exact get_in (L := P ++ x :: Y1) (X := Y2) (M := Q) (by simp) hlt (by simp; omega)
  · have c1 : (m : Int) - (a : Int) = 1 := by omega
    have w1 : IntKind.i64.wrap ((m : Int) - (a : Int)) = 1 := by rw [c1]; exact w64_small (by omega) (by omega)
    rw [List.append_assoc] at k1 ⊢
    rw [evL_code ext_slices_symMergeCmpFunc_api_SimEvent code_slices_symMergeCmpFunc_api_SimEvent]
    simp only [List.append_assoc, List.cons_append]
    simp only [c_slices_symMergeCmpFunc_api_SimEvent, w1, k1, k3, k5, k6, k7, l1, l3, evts_lo, Ev.runFunc, Ev.exec, Ev.evOpers, Ev.evOper, Ev.item_op, Ev.evOp, Ev.Opnd.ev, Ev.Env.get, Ev.Env.set, Ev.look, Ev.argVars, Ev.bin_sub, Ev.bin_eql, Ev.resVals, Ev.resOf, Ev.kill, Ev.leave, Ev.settle, Ev.keep, Ev.varsLo, Ev.marksLo, Ev.storeLo, Ev.SObj.lo, Ev.lo_v, Ev.lo_tup, Ev.lo_sl, Ev.lo_fn, Ev.los_nil, ↓Ev.obind, ↓Ev.itL_itB, ↓reduceIte, List.length_cons, List.length_nil, List.take_succ_cons, List.take_nil, Nat.reduceAdd, Nat.reduceEqDiff, reduceCtorEq, decide_true, Bool.and_self, and_self, Nat.zero_add, Nat.lt_add_one, eq_self]
theorem merge_one2 (P X Q : List Evt) (x : Evt) (hX : X.Pairwise leE) (hX0 : 1 < X.length) (hn : n = (P ++ (X ++ x :: Q)).length) (hb : n < 2 ^ 61) (hk : KeysOk (P ++ (X ++ x :: Q))) (a m b : Nat) (ha : a = P.length) (hm : m = a + X.length) (hbb : b = m + 1) :
    ∃ Z : List Evt, Z.Perm (X ++ [x]) ∧ Z.Pairwise leE ∧ (evL T).call n_slices_symMergeCmpFunc_api_SimEvent [.sl 0 g 0 n cl, (.v (.int .i64 (a))), (.v (.int .i64 (m))), (.v (.int .i64 (b))), (.fn (.func n_evkey_CompareEvents) [] [])] [.row 6 ((P ++ (X ++ x :: Q)).map Evt.r) g] = some (.tup [], [.row 6 ((P ++ (Z ++ Q)).map Evt.r) g]) := by
  have hlen : n = P.length + (X.length + (Q.length + 1)) := by rw [hn]; simp
  obtain ⟨⟨y, e, σ⟩, k1, i, k2, k3, k4, k5, k6, k7, k8, k9, k10, k11⟩ := merge_find2 g cl n (P ++ (X ++ x :: Q)) x hn hb hk a m (get_mid (L := P ++ X) (M := Q) (by simp) (by simp; omega)) (by omega) (by omega)
  simp only at k1 k2 k3 k4 k5 k6 k7
  subst k2; subst k4
  obtain ⟨X1, X2, rfl, hX1⟩ : ∃ X1 X2, X = X1 ++ X2 ∧ X1.length = i - a := ⟨X.take (i - a), X.drop (i - a), (List.take_append_drop _ _).symm, by simp; omega⟩
  rw [List.length_append] at hm hlen hX0
  obtain ⟨⟨y', e', σ'⟩, l1, l2, l3, l4⟩ := merge_move2 g cl n (P ++ X1) X2 Q x (by rw [hlen]; simp; omega) hb m i (by simp; omega) (by omega)
  simp only at l1 l2 l3 l4
  subst l2; subst l4
  refine ⟨X1 ++ x :: X2, ?_, insert_split leE_trans hX ?_ ?_, ?_⟩
  · rw [List.append_assoc]
    exact List.Perm.append_left X1 (List.perm_append_singleton x X2).symm
  · intro u hu
    rcases k10 with h | h
    · rw [show X1 = [] from List.eq_nil_of_length_eq_zero (by omega)] at hu; simp at hu
    · have hlt : X1.length - 1 < X1.length := (List.getElem?_eq_some_iff.1 hu).1
      refine h u ?_
      rw [← hu]
      exact get_in (L := P) (X := X1) (M := X2 ++ x :: Q) (by simp) hlt (by omega)
  · intro v hv
    rcases k11 with h | h
    · rw [show X2 = [] from List.eq_nil_of_length_eq_zero (by omega)] at hv; simp at hv
    · have hlt : 0 < X2.length := (List.getElem?_eq_some_iff.1 hv).1
      refine h v ?_
      rw [← hv]
      exact get_in (L := P ++ X1) (X := X2) (M := x :: Q) (by simp) hlt (by simp; omega)
  · have w1 : IntKind.i64.wrap ((m : Int) - (a : Int)) = ((X1.length + X2.length : Nat) : Int) := w64_sub hm (by omega)
    have h1 : ¬ ((X1.length + X2.length : Nat) : Int) = 1 := by omega
    have w2 : IntKind.i64.wrap ((b : Int) - (m : Int)) = 1 := by rw [show (b : Int) - (m : Int) = 1 by omega]; exact w64_small (by omega) (by omega)
    rw [evL_code ext_slices_symMergeCmpFunc_api_SimEvent code_slices_symMergeCmpFunc_api_SimEvent]
    simp only [List.append_assoc, List.cons_append] at k1 l1 ⊢
    simp only [c_slices_symMergeCmpFunc_api_SimEvent, w1, w2, h1, k1, k3, k5, k6, k7, l1, l3, evts_lo, Ev.runFunc, Ev.exec, Ev.evOpers, Ev.evOper, Ev.item_op, Ev.evOp, Ev.Opnd.ev, Ev.Env.get, Ev.Env.set, Ev.look, Ev.argVars, Ev.bin_sub, Ev.bin_eql, Ev.resVals, Ev.resOf, Ev.kill, Ev.leave, Ev.settle, Ev.keep, Ev.varsLo, Ev.marksLo, Ev.storeLo, Ev.SObj.lo, Ev.lo_v, Ev.lo_tup, Ev.lo_sl, Ev.lo_fn, Ev.los_nil, ↓Ev.obind, ↓Ev.itL_itB, ↓reduceIte, List.length_cons, List.length_nil, List.take_succ_cons, List.take_nil, Nat.reduceAdd, Nat.reduceEqDiff, reduceCtorEq, decide_true, decide_false, Bool.and_self, Bool.false_eq_true, and_self, Nat.zero_add, Nat.lt_add_one, eq_self]
end
end Go.Proofs.Ythkjkdbjgpeigaa.K
