/- For every input the statement of this claim returns true: texts of its proof, joined (part 7). -/
import Derived.Test.YthkjkdbjgpeigaaGA05
set_option linter.unusedSectionVars false
set_option linter.unusedSimpArgs false
set_option linter.unusedVariables false
namespace Go.Proofs.Ythkjkdbjgpeigaa.K
open Go.Ev
set_option linter.unusedSimpArgs false
set_option linter.unusedVariables false
set_option maxRecDepth 10000
def stepE (x : Ex) (i : Nat) (q : Pr) (op : OpI) : Ex × Int :=
  if op.code = 1 then (x.create op.a (x.ownE 1 x.ev.proc 0), 1)
  else if op.code = 2 then (x.create op.c ⟨0, [], op.a, 3, 0, op.b⟩, 0)
  else if op.code = 3 then (x.timerE i q op, 0)
  else if op.code = 4 then (x.stopE i q, 0)
  else if op.code = 5 then (x.spawnE op, 0)
  else if op.code = 6 then (x.setReg op.a (w64 (x.reg op.a + op.b)), 0)
  else if op.code = 7 then (if x.reg op.a < op.b then x.setP i { q with pc := op.c } else x, 0)
  else (x, 2)
structure OpOk' (op : OpI) : Prop where
  code : 1 ≤ op.code ∧ op.code ≤ 8
  reg : op.code = 6 ∨ op.code = 7 → op.a = 0 ∨ op.a = 1
  to : op.code = 7 → 0 ≤ op.c ∧ op.c ≤ 1000000
section
variable (a0 a1 a2 : Int) (am : Nat) (x : Ex) (gp gc gg : Nat) (op : OpI) (i : Nat) (q : Pr)
theorem step_ev (h : x.Small) (hg : x.gone.length < 1000) (hi : x.ev.proc = i) (hq : x.procs[i]? = some q) (ho : OpOk' op) :
    ∃ k gp' gc' gg', getL op.code tableL = some (.fn (.func k) [] []) ∧ (evL T).call k [.ptr 5 0 0 0, (.agg [(.v (.int .i64 (op.code))), (.v (.int .i64 (op.a))), (.v (.int .i64 (op.b))), (.v (.int .i64 (op.c)))])] [.row 4 [[(.v (.int .i64 (a0))), (.v (.int .i64 (a1))), .sl 2 0 0 am false, (.v (.int .i64 (a2)))]] 0, .row 4 [[(.v (.int .i64 (0))), (.v (.int .i64 (0))), .fsl [] false, (.v (.int .i64 (0)))]] 0, .row 4 ((x.procs).map Pr.r) gp, .row 6 ((x.out).map Evt.r) gc, .row 1 ((x.gone).map keyC) gg, .row 14 [[(.v (.int .i64 (x.r0))), (.v (.int .i64 (x.r1))), .sl 2 gp 0 x.procs.length false, (.v (.int .i64 (x.sum))), (.v (.int .i64 (x.ev.time))), (.fsl ((x.ev.key).map intC) false), (.v (.int .i64 (x.ev.lp))), (.v (.int .i64 (x.ev.kind))), (.v (.int .i64 (x.ev.proc))), (.v (.int .i64 (x.ev.arg))), .sl 3 gc 0 x.out.length false, (.v (.int .i64 (x.n))), .sl 4 gg 0 x.gone.length false, (.v (.bool (x.over)))]] 0, .mp .i64 tableL] = some ((.v (.int .i64 ((stepE x i q op).2))), [.row 4 [[(.v (.int .i64 (a0))), (.v (.int .i64 (a1))), .sl 2 0 0 am false, (.v (.int .i64 (a2)))]] 0, .row 4 [[(.v (.int .i64 (0))), (.v (.int .i64 (0))), .fsl [] false, (.v (.int .i64 (0)))]] 0, .row 4 (((stepE x i q op).1.procs).map Pr.r) gp', .row 6 (((stepE x i q op).1.out).map Evt.r) gc', .row 1 (((stepE x i q op).1.gone).map keyC) gg', .row 14 [[(.v (.int .i64 ((stepE x i q op).1.r0))), (.v (.int .i64 ((stepE x i q op).1.r1))), .sl 2 gp' 0 (stepE x i q op).1.procs.length false, (.v (.int .i64 ((stepE x i q op).1.sum))), (.v (.int .i64 ((stepE x i q op).1.ev.time))), (.fsl (((stepE x i q op).1.ev.key).map intC) false), (.v (.int .i64 ((stepE x i q op).1.ev.lp))), (.v (.int .i64 ((stepE x i q op).1.ev.kind))), (.v (.int .i64 ((stepE x i q op).1.ev.proc))), (.v (.int .i64 ((stepE x i q op).1.ev.arg))), .sl 3 gc' 0 (stepE x i q op).1.out.length false, (.v (.int .i64 ((stepE x i q op).1.n))), .sl 4 gg' 0 (stepE x i q op).1.gone.length false, (.v (.bool ((stepE x i q op).1.over)))]] 0, .mp .i64 tableL]) := by
  have hc : op.code = 1 ∨ op.code = 2 ∨ op.code = 3 ∨ op.code = 4 ∨ op.code = 5 ∨ op.code = 6 ∨ op.code = 7 ∨ op.code = 8 := by have := ho.code; omega
  have ne : ∀ m n : Int, decide (m = n) = false → ¬ m = n := fun m n h => of_decide_eq_false h
  rcases hc with hc | hc | hc | hc | hc | hc | hc | hc
  · refine ⟨n_process_execution_hold, gp, createG x op.a gc, gg, by rw [hc]; rfl, ?_⟩
    have e : stepE x i q op = (x.create op.a (x.ownE 1 x.ev.proc 0), 1) := by simp [stepE, hc]
    rw [e]; exact hold_ev a0 a1 a2 am x gp gc gg op h
  · refine ⟨n_process_execution_send, gp, createG x op.c gc, gg, by rw [hc]; rfl, ?_⟩
    have e : stepE x i q op = (x.create op.c ⟨0, [], op.a, 3, 0, op.b⟩, 0) := by simp [stepE, hc]
    rw [e]; exact send_ev a0 a1 a2 am x gp gc gg op h
  · obtain ⟨gc', gg', hz⟩ := timer_ev a0 a1 a2 am x gp gc gg op i q hi hq h hg
    refine ⟨n_process_execution_timer, gp, gc', gg', by rw [hc]; rfl, ?_⟩
    have e : stepE x i q op = (x.timerE i q op, 0) := by simp [stepE, hc]
    rw [e]; exact hz
  · refine ⟨n_process_execution_stop, gp, gc, (if 0 < q.timer.length then gg + 1 else gg), by rw [hc]; rfl, ?_⟩
    have e : stepE x i q op = (x.stopE i q, 0) := by simp [stepE, hc]
    rw [e]; exact stop_ev a0 a1 a2 am x gp gc gg op i q hi hq h
  · obtain ⟨gp', gc', hz⟩ := spawn_ev a0 a1 a2 am x gp gc gg op h
    refine ⟨n_process_execution_spawn, gp', gc', gg, by rw [hc]; rfl, ?_⟩
    have e : stepE x i q op = (x.spawnE op, 0) := by simp [stepE, hc]
    rw [e]; exact hz
  · refine ⟨n_process_execution_add, gp, gc, gg, by rw [hc]; rfl, ?_⟩
    have e : stepE x i q op = (x.setReg op.a (w64 (x.reg op.a + op.b)), 0) := by simp [stepE, hc]
    rw [e]; exact add_ev a0 a1 a2 am x gp gc gg op (ho.reg (.inl hc))
  · refine ⟨n_process_execution_less, gp, gc, gg, by rw [hc]; rfl, ?_⟩
    have e : stepE x i q op = (if x.reg op.a < op.b then x.setP i { q with pc := op.c } else x, 0) := by simp [stepE, hc]
    rw [e]; exact less_ev a0 a1 a2 am x gp gc gg op i q hi hq (ho.reg (.inr hc))
  · refine ⟨n_process_execution_end, gp, gc, gg, by rw [hc]; rfl, ?_⟩
    have e : stepE x i q op = (x, 2) := by simp [stepE, hc]
    rw [e]; exact end_ev a0 a1 a2 am x gp gc gg op
end
def killE (x : Ex) (i : Nat) : Ex := match x.procs[i]? with
  | some q => x.setP i { q with alive := false }
  | none => x
def actE (p : List OpI) (i : Nat) : Nat → Ex → Ex
  | 0, x => killE x i
  | n + 1, x => match x.procs[i]? with
    | none => x
    | some q => match p[q.pc.toNat]? with
      | none => killE x i
      | some op =>
        if (stepE (x.setP i { q with pc := w64 (q.pc + 1) }) i { q with pc := w64 (q.pc + 1) } op).2 = 1 then (stepE (x.setP i { q with pc := w64 (q.pc + 1) }) i { q with pc := w64 (q.pc + 1) } op).1
        else if (stepE (x.setP i { q with pc := w64 (q.pc + 1) }) i { q with pc := w64 (q.pc + 1) } op).2 = 2 then killE (stepE (x.setP i { q with pc := w64 (q.pc + 1) }) i { q with pc := w64 (q.pc + 1) } op).1 i
        else actE p i n (stepE (x.setP i { q with pc := w64 (q.pc + 1) }) i { q with pc := w64 (q.pc + 1) } op).1
structure ActInv (e : Evt) (i n : Nat) (x : Ex) : Prop where
  ev : x.ev = e
  has : ∃ q, x.procs[i]? = some q ∧ 0 ≤ q.pc ∧ q.pc ≤ 1000000
  procs : x.procs.length ≤ 20
  out : x.out.length ≤ n
  gone : x.gone.length ≤ n
theorem ActInv.small {e : Evt} {i n : Nat} {x : Ex} (h : ActInv e i n x) (hn : n ≤ 100) (hk : e.key.length ≤ 1000) : x.Small := ⟨by have := h.procs; omega, by have := h.out; omega, by have := h.gone; omega, by rw [h.ev]; exact hk⟩
theorem create_out (x : Ex) (d : Int) (e : Evt) : (x.create d e).out.length ≤ x.out.length + 1 := by
  unfold Ex.create; simp only; split
  · omega
  · simp
theorem ActInv.step {e : Evt} {i n : Nat} {x : Ex} (h : ActInv e i n x) {q : Pr} (hq : x.procs[i]? = some q) (hpc : 0 ≤ q.pc ∧ q.pc ≤ 1000000) {op : OpI} (ho : OpOk' op) : ActInv e i (n + 1) (stepE x i q op).1 := by
  have hlt := (List.getElem?_eq_some_iff.1 hq).1
  have hp := h.procs
  have h1 := h.out
  have h2 := h.gone
  have stop : ActInv e i (n + 1) (x.stopE i q) ∧ (x.stopE i q).out = x.out := by
    unfold Ex.stopE; split
    · exact ⟨⟨h.ev, ⟨{ q with timer := [] }, by simp only; rw [List.getElem?_set_self hlt], hpc⟩, by simpa using hp, by simp only; omega, by simp; omega⟩, rfl⟩
    · exact ⟨⟨h.ev, ⟨q, hq, hpc⟩, hp, by omega, by omega⟩, rfl⟩
  have crt : ∀ (y : Ex) (d : Int) (ev : Evt), y.ev = e → (∃ q, y.procs[i]? = some q ∧ 0 ≤ q.pc ∧ q.pc ≤ 1000000) → y.procs.length ≤ 20 → y.out.length ≤ n → y.gone.length ≤ n + 1 → ActInv e i (n + 1) (y.create d ev) := fun y d ev k1 k2 k3 k4 k5 =>
    ⟨k1, k2, k3, by have := create_out y d ev; omega, k5⟩
  unfold stepE
  split
  · exact crt x _ _ h.ev ⟨q, hq, hpc⟩ hp h1 (by omega)
  split
  · exact crt x _ _ h.ev ⟨q, hq, hpc⟩ hp h1 (by omega)
  split
  · obtain ⟨s1, s2⟩ := stop
    have hc := crt (x.stopE i q) op.a (x.ownE 2 x.ev.proc op.b) s1.ev s1.has s1.procs (by rw [s2]; exact h1) s1.gone
    have hl : i < ((x.stopE i q).create op.a (x.ownE 2 x.ev.proc op.b)).procs.length := by
      obtain ⟨q', hq', _⟩ := hc.has
      exact (List.getElem?_eq_some_iff.1 hq').1
    exact ⟨hc.ev, ⟨{ q with timer := (x.stopE i q).kid }, by simp only [Ex.timerE, Ex.setP]; rw [List.getElem?_set_self hl], hpc⟩, by simp only [Ex.timerE, Ex.setP, List.length_set]; exact hc.procs, hc.out, hc.gone⟩
  split
  · exact stop.1
  split
  · unfold Ex.spawnE
    split
    · refine crt _ _ _ h.ev ⟨q, by simp only; rw [List.getElem?_append_left hlt]; exact hq, hpc⟩ (by simp; omega) h1 (by simp only; omega)
    · exact ⟨h.ev, ⟨q, hq, hpc⟩, hp, by first | omega | (simp only; omega), by first | omega | (simp only; omega)⟩
  split
  · unfold Ex.setReg
    split <;> exact ⟨h.ev, ⟨q, hq, hpc⟩, hp, by first | omega | (simp only; omega), by first | omega | (simp only; omega)⟩
  split
  · rename_i h7
    simp only
    split
    · exact ⟨h.ev, ⟨{ q with pc := op.c }, by simp only [Ex.setP]; rw [List.getElem?_set_self hlt], ho.to h7⟩, by simp only [Ex.setP, List.length_set]; exact hp, by simp only [Ex.setP]; omega, by simp only [Ex.setP]; omega⟩
    · exact ⟨h.ev, ⟨q, hq, hpc⟩, hp, by first | omega | (simp only; omega), by first | omega | (simp only; omega)⟩
  · exact ⟨h.ev, ⟨q, hq, hpc⟩, hp, by first | omega | (simp only; omega), by first | omega | (simp only; omega)⟩
end Go.Proofs.Ythkjkdbjgpeigaa.K
namespace Go.Proofs.Ythkjkdbjgpeigaa.K
open Go.Ev
set_option linter.unusedSimpArgs false
set_option linter.unusedVariables false
set_option maxRecDepth 10000
theorem ActInv.pc {e : Evt} {i n : Nat} {x : Ex} (h : ActInv e i n x) {q : Pr} (hq : x.procs[i]? = some q) {pc : Int} (hp : 0 ≤ pc ∧ pc ≤ 1000000) (al : Bool) : ActInv e i n (x.setP i { q with pc := pc, alive := al }) := by
  have hlt := (List.getElem?_eq_some_iff.1 hq).1
  exact ⟨h.ev, ⟨{ q with pc := pc, alive := al }, by simp only [Ex.setP]; rw [List.getElem?_set_self hlt], hp⟩, by simp only [Ex.setP, List.length_set]; exact h.procs, h.out, h.gone⟩
section
variable (a0 a1 a2 : Int) (am : Nat) (e0 : Evt) (i : Nat) (p : List OpI) (cl : Bool)
def ActEnd (a0 a1 a2 : Int) (am : Nat) (e0 : Evt) (i : Nat) (F : Ex) (y : CExit × Env × Store) : Prop :=
  ∃ z gp gc gg, y.2.2 = [.row 4 [[(.v (.int .i64 (a0))), (.v (.int .i64 (a1))), .sl 2 0 0 am false, (.v (.int .i64 (a2)))]] 0, .row 4 [[(.v (.int .i64 (0))), (.v (.int .i64 (0))), .fsl [] false, (.v (.int .i64 (0)))]] 0, .row 4 ((z.procs).map Pr.r) gp, .row 6 ((z.out).map Evt.r) gc, .row 1 ((z.gone).map keyC) gg, .row 14 [[(.v (.int .i64 (z.r0))), (.v (.int .i64 (z.r1))), .sl 2 gp 0 z.procs.length false, (.v (.int .i64 (z.sum))), (.v (.int .i64 (z.ev.time))), (.fsl ((z.ev.key).map intC) false), (.v (.int .i64 (z.ev.lp))), (.v (.int .i64 (z.ev.kind))), (.v (.int .i64 (z.ev.proc))), (.v (.int .i64 (z.ev.arg))), .sl 3 gc 0 z.out.length false, (.v (.int .i64 (z.n))), .sl 4 gg 0 z.gone.length false, (.v (.bool (z.over)))]] 0, .mp .i64 tableL] ∧ y.2.1.marks = [] ∧ ((y.1 = .ret ∧ z = F ∧ ActInv e0 i 16 z) ∨ (y.1 = .exit 0 ∧ Ev.look y.2.1.vars 0 = some (.ptr 5 0 0 0) ∧ killE z i = F ∧ ActInv e0 i 16 z))
theorem act_loop (hk : e0.key.length ≤ 1000) (hpr : e0.proc = i) (hpl : p.length ≤ 1000) (hok : ∀ op ∈ p, OpOk' op) (x : Ex) (gp gc gg : Nat) (h0 : ActInv e0 i 0 x) :
    ∃ y, itB (exec (evL T) itL none c_process_execution_activate_L1) (Ev.settle [0, 1, 4, 7] true 7) ⟨[(0, .ptr 5 0 0 0), (1, (.fsl ((p).map OpI.r) cl)), (4, .mp 6), (7, (.v (.int .i64 (0))))], []⟩ [.row 4 [[(.v (.int .i64 (a0))), (.v (.int .i64 (a1))), .sl 2 0 0 am false, (.v (.int .i64 (a2)))]] 0, .row 4 [[(.v (.int .i64 (0))), (.v (.int .i64 (0))), .fsl [] false, (.v (.int .i64 (0)))]] 0, .row 4 ((x.procs).map Pr.r) gp, .row 6 ((x.out).map Evt.r) gc, .row 1 ((x.gone).map keyC) gg, .row 14 [[(.v (.int .i64 (x.r0))), (.v (.int .i64 (x.r1))), .sl 2 gp 0 x.procs.length false, (.v (.int .i64 (x.sum))), (.v (.int .i64 (x.ev.time))), (.fsl ((x.ev.key).map intC) false), (.v (.int .i64 (x.ev.lp))), (.v (.int .i64 (x.ev.kind))), (.v (.int .i64 (x.ev.proc))), (.v (.int .i64 (x.ev.arg))), .sl 3 gc 0 x.out.length false, (.v (.int .i64 (x.n))), .sl 4 gg 0 x.gone.length false, (.v (.bool (x.over)))]] 0, .mp .i64 tableL] = some y ∧ ActEnd a0 a1 a2 am e0 i (actE p i 16 x) y := by
  have := itB_for (f := exec (evL T) itL none c_process_execution_activate_L1) (s := Ev.settle [0, 1, 4, 7] true 7) (α := Ex × Nat × Nat × Nat) (fun j _ => ⟨[(0, .ptr 5 0 0 0), (1, (.fsl ((p).map OpI.r) cl)), (4, .mp 6), (7, (.v (.int .i64 ((j : Int)))))], []⟩) (fun _ a => [.row 4 [[(.v (.int .i64 (a0))), (.v (.int .i64 (a1))), .sl 2 0 0 am false, (.v (.int .i64 (a2)))]] 0, .row 4 [[(.v (.int .i64 (0))), (.v (.int .i64 (0))), .fsl [] false, (.v (.int .i64 (0)))]] 0, .row 4 ((a.1.procs).map Pr.r) a.2.1, .row 6 ((a.1.out).map Evt.r) a.2.2.1, .row 1 ((a.1.gone).map keyC) a.2.2.2, .row 14 [[(.v (.int .i64 (a.1.r0))), (.v (.int .i64 (a.1.r1))), .sl 2 a.2.1 0 a.1.procs.length false, (.v (.int .i64 (a.1.sum))), (.v (.int .i64 (a.1.ev.time))), (.fsl ((a.1.ev.key).map intC) false), (.v (.int .i64 (a.1.ev.lp))), (.v (.int .i64 (a.1.ev.kind))), (.v (.int .i64 (a.1.ev.proc))), (.v (.int .i64 (a.1.ev.arg))), .sl 3 a.2.2.1 0 a.1.out.length false, (.v (.int .i64 (a.1.n))), .sl 4 a.2.2.2 0 a.1.gone.length false, (.v (.bool (a.1.over)))]] 0, .mp .i64 tableL])
    (fun j a => ActInv e0 i j a.1 ∧ actE p i (16 - j) a.1 = actE p i 16 x) 16 (ActEnd a0 a1 a2 am e0 i (actE p i 16 x)) ?_ ?_ 0 (x, gp, gc, gg) (Nat.zero_le _) ⟨h0, rfl⟩
  · exact this
  · rintro j ⟨y, gp, gc, gg⟩ hj ⟨hi1, hi2⟩
    simp only at hi1 hi2 ⊢
    obtain ⟨q, hq, hpc⟩ := hi1.has
    have hlt := (List.getElem?_eq_some_iff.1 hq).1
    have hpr' : y.ev.proc = i := by rw [hi1.ev]; exact hpr
    have hj' : (j : Int) < 16 := by omega
    have hw : IntKind.i64.wrap ((j : Int) + 1) = ((j + 1 : Nat) : Int) := by rw [w64_small (by omega) (by omega)]; simp
    have s1 := self7_ev a0 a1 a2 am y gp gc gg i hpr' hlt
    rw [show 16 - j = (16 - (j + 1)) + 1 from by omega, actE, hq] at hi2
    simp only at hi2
    cases hop : p[q.pc.toNat]? with
    | none =>
      rw [hop] at hi2
      simp only at hi2
      have hge : q.pc ≥ (p.length : Int) := by have := List.getElem?_eq_none_iff.1 hop; omega
      right
      simp only [c_process_execution_activate_L1, hj', hge, s1, List.getElem?_map, Option.map_some, hq, Pr.r, Ev.exec, Ev.evOpers, Ev.evOper, Ev.item_op, Ev.item_I, Ev.evOp, Ev.evs, Ev.Opnd.ev, Ev.Env.get, Ev.Env.set, Ev.look, Ev.cellsAt, Ev.loadC, Ev.bin_lss, Ev.bin_geq, List.length_map, ↓Ev.obind, Ev.it1, ↓reduceIte, List.getElem?_cons_zero, List.getElem?_cons_succ, List.drop_succ_cons, List.drop_zero, List.head?_cons, Nat.reduceEqDiff, reduceCtorEq, decide_true, Bool.false_eq_true, Nat.zero_add, eq_self]
      exact ⟨_, rfl, y, gp, gc, gg, rfl, rfl, .inr ⟨rfl, rfl, hi2, ⟨hi1.ev, hi1.has, hi1.procs, by have := hi1.out; omega, by have := hi1.gone; omega⟩⟩⟩
    | some op =>
      rw [hop] at hi2
      simp only at hi2
      have hlp := (List.getElem?_eq_some_iff.1 hop).1
      have hge : ¬ q.pc ≥ (p.length : Int) := by omega
      have hwq : w64 (q.pc + 1) = q.pc + 1 := w64_small (by omega) (by omega)
      have hwq' : IntKind.i64.wrap (q.pc + 1) = q.pc + 1 := hwq
      have hset : (y.procs.map Pr.r).set i [(.v (.int .i64 (q.prog))), (.v (.int .i64 (q.pc + 1))), (.v (.bool (q.alive))), (.fsl ((q.timer).map intC) false)] = (y.procs.set i { q with pc := q.pc + 1 }).map Pr.r := by rw [List.map_set]; rfl
      have hl : (y.procs.set i { q with pc := q.pc + 1 }).length = y.procs.length := by simp
      rw [hwq] at hi2
      have hz : ActInv e0 i j (y.setP i { q with pc := q.pc + 1 }) := hi1.pc hq (by omega) q.alive
      have hzq : (y.setP i { q with pc := q.pc + 1 }).procs[i]? = some { q with pc := q.pc + 1 } := by simp only [Ex.setP]; rw [List.getElem?_set_self hlt]
      have hzp : (y.setP i { q with pc := q.pc + 1 }).ev.proc = i := hpr'
      have hoo := hok op (List.mem_of_getElem? hop)
      have hn := hz.step hzq (show 0 ≤ q.pc + 1 ∧ q.pc + 1 ≤ 1000000 by omega) hoo
      obtain ⟨k, gp', gc', gg', t1, t2⟩ := step_ev a0 a1 a2 am (y.setP i { q with pc := q.pc + 1 }) gp gc gg op i { q with pc := q.pc + 1 } (hz.small (by omega) hk) (by have := hz.gone; omega) hzp hzq hoo
      generalize hS : stepE (y.setP i { q with pc := q.pc + 1 }) i { q with pc := q.pc + 1 } op = S at hi2 hn t2
      obtain ⟨z, sig⟩ := S
      simp only at hi2 hn t2
      have hsig : sig = 0 ∨ sig = 1 ∨ sig = 2 := by
        have : (stepE (y.setP i { q with pc := q.pc + 1 }) i { q with pc := q.pc + 1 } op).2 = sig := by rw [hS]
        rw [← this]
        unfold stepE
        repeat' (first | (split) | exact .inl rfl | exact .inr (.inl rfl) | exact .inr (.inr rfl))
      simp only [Ex.setP, hl] at t2
      obtain ⟨qz, hqz, hqzp⟩ := hn.has
      have hltz := (List.getElem?_eq_some_iff.1 hqz).1
      have s2 := self7_ev a0 a1 a2 am z gp' gc' gg' i (by rw [hn.ev]; exact hpr) hltz
      rcases hsig with rfl | rfl | rfl
      · left
        refine ⟨(z, gp', gc', gg'), ?_, hn, ?_⟩
        · simp only [c_process_execution_activate_L1, hj', hge, s1, hpc, hop, hwq', t1, t2, hw, List.getElem?_map, Option.map_some, hq, Pr.r, OpI.r, prog_lo, ints_lo, procs_lo, evts_lo, keys_lo, Nat.reduceLT, Nat.reduceLeDiff, Ev.exec, Ev.evOpers, Ev.evOper, Ev.item_op, Ev.item_I, Ev.item_v, Ev.evOp, Ev.evs, Ev.Opnd.ev, Ev.Env.get, Ev.Env.set, Ev.look, Ev.cellsAt, Ev.loadC, Ev.AV.cells, Ev.AV.uc, Ev.plains, Ev.AV.plain, Ev.bin_add, Ev.bin_eql, Ev.bin_lss, Ev.bin_geq, Ev.settle, Ev.keep, Ev.varsLo, Ev.marksLo, Ev.storeLo, Ev.SObj.lo, Ev.lo_v, Ev.lo_fsl, Ev.lo_sl, Ev.lo_ptr, Ev.lo_mp, Ev.gotL, Ev.los_nil, Ev.los_cons, Ev.loss_nil, Ev.loss_cons, List.length_map, ↓Ev.obind, Ev.it1, ↓reduceIte, List.length_cons, List.length_nil, List.getElem?_cons_zero, List.getElem?_cons_succ, List.take_succ_cons, List.take_zero, List.take_nil, List.drop_succ_cons, List.drop_zero, List.cons_append, List.nil_append, List.append_nil, List.set_cons_zero, List.set_cons_succ, List.head?_cons, Nat.reduceAdd, Nat.reduceEqDiff, Nat.reduceLT, Nat.reduceLeDiff, Int.reduceEq, reduceCtorEq, decide_true, decide_false, Bool.and_self, Bool.false_eq_true, and_self, Nat.zero_add, Nat.lt_add_one, Nat.le_refl, eq_self, hset]
        · simp only [show ¬ (0 : Int) = 1 from by decide, show ¬ (0 : Int) = 2 from by decide, if_false] at hi2
          exact hi2
      · right
        simp only [if_true] at hi2
        simp only [c_process_execution_activate_L1, hj', hge, s1, hpc, hop, hwq', t1, t2, List.getElem?_map, Option.map_some, hq, Pr.r, OpI.r, Nat.reduceLeDiff, Ev.exec, Ev.evOpers, Ev.evOper, Ev.item_op, Ev.item_I, Ev.item_v, Ev.evOp, Ev.evs, Ev.Opnd.ev, Ev.Env.get, Ev.Env.set, Ev.look, Ev.cellsAt, Ev.loadC, Ev.AV.cells, Ev.AV.uc, Ev.plains, Ev.AV.plain, Ev.bin_add, Ev.bin_eql, Ev.bin_lss, Ev.bin_geq, Ev.gotL, List.length_map, ↓Ev.obind, Ev.it1, ↓reduceIte, List.length_cons, List.length_nil, List.getElem?_cons_zero, List.getElem?_cons_succ, List.take_succ_cons, List.take_zero, List.take_nil, List.drop_succ_cons, List.drop_zero, List.cons_append, List.nil_append, List.append_nil, List.set_cons_zero, List.set_cons_succ, List.head?_cons, Nat.reduceAdd, Nat.reduceEqDiff, Nat.reduceLeDiff, reduceCtorEq, decide_true, decide_false, Bool.and_self, Bool.false_eq_true, and_self, Nat.zero_add, Nat.le_refl, eq_self, hset]
        exact ⟨_, rfl, z, gp', gc', gg', rfl, rfl, .inl ⟨rfl, hi2, ⟨hn.ev, hn.has, hn.procs, by have := hn.out; omega, by have := hn.gone; omega⟩⟩⟩
      · right
        simp only [show ¬ (2 : Int) = 1 from by decide, if_true, if_false] at hi2
        have hkz : killE z i = z.setP i { qz with alive := false } := by unfold killE; rw [hqz]
        rw [hkz] at hi2
        have hset2 : (z.procs.map Pr.r).set i [(.v (.int .i64 (qz.prog))), (.v (.int .i64 (qz.pc))), (.v (.bool (false))), (.fsl ((qz.timer).map intC) false)] = (z.procs.set i { qz with alive := false }).map Pr.r := by rw [List.map_set]; rfl
        have hl2 : (z.procs.set i { qz with alive := false }).length = z.procs.length := by simp
        have hfin := hn.pc hqz hqzp false
        simp only [c_process_execution_activate_L1, hj', hge, s1, hpc, hop, hwq', t1, t2, s2, List.getElem?_map, Option.map_some, hq, hqz, Pr.r, OpI.r, Nat.reduceLeDiff, Ev.exec, Ev.evOpers, Ev.evOper, Ev.item_op, Ev.item_I, Ev.item_v, Ev.evOp, Ev.evs, Ev.Opnd.ev, Ev.Env.get, Ev.Env.set, Ev.look, Ev.cellsAt, Ev.loadC, Ev.AV.cells, Ev.AV.uc, Ev.plains, Ev.AV.plain, Ev.bin_add, Ev.bin_eql, Ev.bin_lss, Ev.bin_geq, Ev.gotL, List.length_map, ↓Ev.obind, Ev.it1, ↓reduceIte, List.length_cons, List.length_nil, List.getElem?_cons_zero, List.getElem?_cons_succ, List.take_succ_cons, List.take_zero, List.take_nil, List.drop_succ_cons, List.drop_zero, List.cons_append, List.nil_append, List.append_nil, List.set_cons_zero, List.set_cons_succ, List.head?_cons, Nat.reduceAdd, Nat.reduceEqDiff, Nat.reduceLeDiff, Int.reduceEq, reduceCtorEq, decide_true, decide_false, Bool.and_self, Bool.false_eq_true, and_self, Nat.zero_add, Nat.le_refl, eq_self, hset, hset2]
        refine ⟨_, rfl, z.setP i { qz with alive := false }, gp', gc', gg', ?_, rfl, .inl ⟨rfl, hi2, ⟨hfin.ev, hfin.has, hfin.procs, by have := hfin.out; omega, by have := hfin.gone; omega⟩⟩⟩
        simp only [Ex.setP, hl2]
  · rintro ⟨y, gp, gc, gg⟩ ⟨hi1, hi2⟩
    simp only [c_process_execution_activate_L1, Int.lt_irrefl, Ev.exec, Ev.evOpers, Ev.evOper, Ev.item_op, Ev.evOp, Ev.Opnd.ev, Ev.Env.get, Ev.Env.set, Ev.look, Ev.bin_lss, ↓Ev.obind, Ev.it1, ↓reduceIte, Nat.reduceEqDiff, Int.cast_ofNat_Int, reduceCtorEq, decide_false, Bool.false_eq_true, eq_self]
    exact ⟨_, rfl, y, gp, gc, gg, rfl, rfl, .inr ⟨rfl, rfl, hi2, hi1⟩⟩
end
end Go.Proofs.Ythkjkdbjgpeigaa.K
namespace Go.Proofs.Ythkjkdbjgpeigaa.K
open Go.Ev
set_option linter.unusedSimpArgs false
set_option linter.unusedVariables false
set_option maxRecDepth 10000
theorem instructions_ev : (evL T).call n_process_instructions [] [] = some (.mp 0, [.mp .i64 tableL]) := by
  rw [evL_code ext_process_instructions code_process_instructions]
  simp only [c_process_instructions, tableL, Ev.runFunc, Ev.exec, Ev.evOpers, Ev.evOper, Ev.item_op, Ev.evOp, Ev.Opnd.ev, Ev.Env.get, Ev.Env.set, Ev.look, Ev.argVars, Ev.resVals, Ev.resVal, Ev.resOf, Ev.kill, Ev.leave, Ev.storeLo, Ev.lo_fn, Ev.lo_mp, Ev.putL, Ev.los_nil, ↓Ev.obind, ↓reduceIte, List.length_nil, List.getElem?_cons_zero, List.take_zero, List.nil_append, List.set_cons_zero, Nat.reduceLT, Int.reduceEq, decide_false, Bool.and_self, Bool.false_eq_true, and_self, and_true, eq_self]
section
variable (a0 a1 a2 : Int) (am : Nat) (e0 : Evt) (i : Nat) (p : List OpI) (cl : Bool)
theorem activate_ev (hk : e0.key.length ≤ 1000) (hpr : e0.proc = i) (hpl : p.length ≤ 1000) (hok : ∀ op ∈ p, OpOk' op) (x : Ex) (gp gc gg : Nat) (h0 : ActInv e0 i 0 x) :
    ∃ gp' gc' gg', (evL T).call n_process_execution_activate [.ptr 5 0 0 0, (.fsl ((p).map OpI.r) cl)] [.row 4 [[(.v (.int .i64 (a0))), (.v (.int .i64 (a1))), .sl 2 0 0 am false, (.v (.int .i64 (a2)))]] 0, .row 4 [[(.v (.int .i64 (0))), (.v (.int .i64 (0))), .fsl [] false, (.v (.int .i64 (0)))]] 0, .row 4 ((x.procs).map Pr.r) gp, .row 6 ((x.out).map Evt.r) gc, .row 1 ((x.gone).map keyC) gg, .row 14 [[(.v (.int .i64 (x.r0))), (.v (.int .i64 (x.r1))), .sl 2 gp 0 x.procs.length false, (.v (.int .i64 (x.sum))), (.v (.int .i64 (x.ev.time))), (.fsl ((x.ev.key).map intC) false), (.v (.int .i64 (x.ev.lp))), (.v (.int .i64 (x.ev.kind))), (.v (.int .i64 (x.ev.proc))), (.v (.int .i64 (x.ev.arg))), .sl 3 gc 0 x.out.length false, (.v (.int .i64 (x.n))), .sl 4 gg 0 x.gone.length false, (.v (.bool (x.over)))]] 0] = some (.tup [], [.row 4 [[(.v (.int .i64 (a0))), (.v (.int .i64 (a1))), .sl 2 0 0 am false, (.v (.int .i64 (a2)))]] 0, .row 4 [[(.v (.int .i64 (0))), (.v (.int .i64 (0))), .fsl [] false, (.v (.int .i64 (0)))]] 0, .row 4 (((actE p i 16 x).procs).map Pr.r) gp', .row 6 (((actE p i 16 x).out).map Evt.r) gc', .row 1 (((actE p i 16 x).gone).map keyC) gg', .row 14 [[(.v (.int .i64 ((actE p i 16 x).r0))), (.v (.int .i64 ((actE p i 16 x).r1))), .sl 2 gp' 0 (actE p i 16 x).procs.length false, (.v (.int .i64 ((actE p i 16 x).sum))), (.v (.int .i64 ((actE p i 16 x).ev.time))), (.fsl (((actE p i 16 x).ev.key).map intC) false), (.v (.int .i64 ((actE p i 16 x).ev.lp))), (.v (.int .i64 ((actE p i 16 x).ev.kind))), (.v (.int .i64 ((actE p i 16 x).ev.proc))), (.v (.int .i64 ((actE p i 16 x).ev.arg))), .sl 3 gc' 0 (actE p i 16 x).out.length false, (.v (.int .i64 ((actE p i 16 x).n))), .sl 4 gg' 0 (actE p i 16 x).gone.length false, (.v (.bool ((actE p i 16 x).over)))]] 0]) ∧ ActInv e0 i 16 (actE p i 16 x) := by
  obtain ⟨⟨y, e, σ⟩, k1, z, gp', gc', gg', k2, k3, k4⟩ := act_loop a0 a1 a2 am e0 i p cl hk hpr hpl hok x gp gc gg h0
  simp only at k2 k3 k4
  subst k2
  generalize actE p i 16 x = F at k4
  rw [evL_code ext_process_execution_activate code_process_execution_activate]
  rcases k4 with ⟨rfl, rfl, k5⟩ | ⟨rfl, k5, k6, k7⟩
  · refine ⟨gp', gc', gg', ?_, k5⟩
    simp only [c_process_execution_activate, instructions_ev, k1, k3, prog_lo, ints_lo, procs_lo, evts_lo, keys_lo, Nat.reduceLT, Ev.runFunc, Ev.exec, Ev.evOpers, Ev.evOper, Ev.item_op, Ev.item_A, Ev.impO, Ev.AV.shift, Ev.evOp, Ev.evs, Ev.Opnd.ev, Ev.Env.get, Ev.Env.set, Ev.look, Ev.argVars, Ev.resVals, Ev.resOf, Ev.kill, Ev.leave, Ev.settle, Ev.keep, Ev.varsLo, Ev.marksLo, Ev.storeLo, Ev.SObj.lo, Ev.lo_v, Ev.lo_tup, Ev.lo_fsl, Ev.lo_sl, Ev.lo_ptr, Ev.lo_mp, Ev.los_nil, Ev.los_cons, Ev.loss_nil, Ev.loss_cons, Ev.omap_nil, Ev.omap_cons, ↓Ev.obind, ↓Ev.itL_itB, ↓reduceIte, List.length_cons, List.length_nil, List.take_succ_cons, List.take_zero, List.take_nil, List.cons_append, List.nil_append, Nat.reduceAdd, Nat.reduceEqDiff, Nat.reduceLT, reduceCtorEq, decide_true, Bool.and_self, and_self, Nat.zero_add, Nat.lt_add_one, eq_self]
  · obtain ⟨q, hq, hpc⟩ := k7.has
    have hlt := (List.getElem?_eq_some_iff.1 hq).1
    have s2 := self7_ev a0 a1 a2 am z gp' gc' gg' i (by rw [k7.ev]; exact hpr) hlt
    have hkz : killE z i = z.setP i { q with alive := false } := by unfold killE; rw [hq]
    rw [hkz] at k6
    have hset : (z.procs.map Pr.r).set i [(.v (.int .i64 (q.prog))), (.v (.int .i64 (q.pc))), (.v (.bool (false))), (.fsl ((q.timer).map intC) false)] = (z.procs.set i { q with alive := false }).map Pr.r := by rw [List.map_set]; rfl
    have hl : (z.procs.set i { q with alive := false }).length = z.procs.length := by simp
    have hfin := k7.pc hq hpc false
    subst k6
    refine ⟨gp', gc', gg', ?_, hfin⟩
    simp only [Ex.setP, hl]
    simp only [c_process_execution_activate, instructions_ev, k1, k3, k5, s2, List.getElem?_map, Option.map_some, hq, Pr.r, prog_lo, ints_lo, procs_lo, evts_lo, keys_lo, Nat.reduceLT, Nat.reduceLeDiff, Ev.runFunc, Ev.exec, Ev.evOpers, Ev.evOper, Ev.item_op, Ev.item_A, Ev.item_I, Ev.impO, Ev.AV.shift, Ev.evOp, Ev.evs, Ev.Opnd.ev, Ev.Env.get, Ev.Env.set, Ev.look, Ev.argVars, Ev.AV.cells, Ev.AV.uc, Ev.plains, Ev.AV.plain, Ev.resVals, Ev.resOf, Ev.kill, Ev.leave, Ev.settle, Ev.keep, Ev.varsLo, Ev.marksLo, Ev.storeLo, Ev.SObj.lo, Ev.lo_v, Ev.lo_tup, Ev.lo_fsl, Ev.lo_sl, Ev.lo_ptr, Ev.lo_mp, Ev.los_nil, Ev.los_cons, Ev.loss_nil, Ev.loss_cons, Ev.omap_nil, Ev.omap_cons, ↓Ev.obind, ↓Ev.itL_itB, ↓reduceIte, List.length_cons, List.length_nil, List.getElem?_cons_zero, List.getElem?_cons_succ, List.take_succ_cons, List.take_zero, List.take_nil, List.drop_succ_cons, List.drop_zero, List.cons_append, List.nil_append, List.set_cons_zero, List.set_cons_succ, Nat.reduceAdd, Nat.reduceEqDiff, Nat.reduceLT, Nat.reduceLeDiff, reduceCtorEq, decide_true, Bool.and_self, and_self, Nat.zero_add, Nat.lt_add_one, eq_self, hset]
end
end Go.Proofs.Ythkjkdbjgpeigaa.K
namespace Go.Proofs.Ythkjkdbjgpeigaa.K
open Go.Ev
set_option linter.unusedSimpArgs false
set_option linter.unusedVariables false
set_option maxRecDepth 10000
theorem clone_procs_ev (l : List Pr) (c : Bool) (h : l.length ≤ 1000) : (evL T).call n_slices_Clone_Lapi_Proc_api_Proc [(.fsl ((l).map Pr.r) c)] [] = some (.sl 0 0 0 l.length false, [.row 4 (l.map Pr.r) 0]) := by
  have h' : l.length * 48 ≤ 140737488355328 := by omega
  rw [evL_ext ext_slices_Clone_Lapi_Proc_api_Proc]
  simp only [cloneF, procs_lo, procs_ok, h', Ev.lo_fsl, Ev.los_nil, Ev.los_cons, List.length_map, ↓reduceIte, Nat.reduceLT, Nat.reducePow, Bool.and_self, and_self, eq_self]
theorem self6_ev (a0 a1 a2 : Int) (am : Nat) (x : Ex) (gp gc gg : Nat) (i : Nat) (hi : x.ev.proc = i) (hp : i < x.procs.length) :
    (evL T).call n_process_execution_self [.ptr 5 0 0 0] [.row 4 [[(.v (.int .i64 (a0))), (.v (.int .i64 (a1))), .sl 2 0 0 am false, (.v (.int .i64 (a2)))]] 0, .row 4 [[(.v (.int .i64 (0))), (.v (.int .i64 (0))), .fsl [] false, (.v (.int .i64 (0)))]] 0, .row 4 ((x.procs).map Pr.r) gp, .row 6 ((x.out).map Evt.r) gc, .row 1 ((x.gone).map keyC) gg, .row 14 [[(.v (.int .i64 (x.r0))), (.v (.int .i64 (x.r1))), .sl 2 gp 0 x.procs.length false, (.v (.int .i64 (x.sum))), (.v (.int .i64 (x.ev.time))), (.fsl ((x.ev.key).map intC) false), (.v (.int .i64 (x.ev.lp))), (.v (.int .i64 (x.ev.kind))), (.v (.int .i64 (x.ev.proc))), (.v (.int .i64 (x.ev.arg))), .sl 3 gc 0 x.out.length false, (.v (.int .i64 (x.n))), .sl 4 gg 0 x.gone.length false, (.v (.bool (x.over)))]] 0] = some (.ptr 2 gp i 0, [.row 4 [[(.v (.int .i64 (a0))), (.v (.int .i64 (a1))), .sl 2 0 0 am false, (.v (.int .i64 (a2)))]] 0, .row 4 [[(.v (.int .i64 (0))), (.v (.int .i64 (0))), .fsl [] false, (.v (.int .i64 (0)))]] 0, .row 4 ((x.procs).map Pr.r) gp, .row 6 ((x.out).map Evt.r) gc, .row 1 ((x.gone).map keyC) gg, .row 14 [[(.v (.int .i64 (x.r0))), (.v (.int .i64 (x.r1))), .sl 2 gp 0 x.procs.length false, (.v (.int .i64 (x.sum))), (.v (.int .i64 (x.ev.time))), (.fsl ((x.ev.key).map intC) false), (.v (.int .i64 (x.ev.lp))), (.v (.int .i64 (x.ev.kind))), (.v (.int .i64 (x.ev.proc))), (.v (.int .i64 (x.ev.arg))), .sl 3 gc 0 x.out.length false, (.v (.int .i64 (x.n))), .sl 4 gg 0 x.gone.length false, (.v (.bool (x.over)))]] 0]) := by
  rw [evL_code ext_process_execution_self code_process_execution_self]
  simp only [c_process_execution_self, hi, hp, Int.natCast_nonneg, Int.toNat_natCast, ints_lo, procs_lo, evts_lo, keys_lo, Nat.reduceLT, Ev.runFunc, Ev.exec, Ev.evOpers, Ev.evOper, Ev.item_op, Ev.evOp, Ev.Opnd.ev, Ev.Env.get, Ev.Env.set, Ev.look, Ev.argVars, Ev.cellsAt, Ev.loadC, Ev.resVals, Ev.resVal, Ev.resOf, Ev.kill, Ev.leave, Ev.storeLo, Ev.SObj.lo, Ev.lo_v, Ev.lo_fsl, Ev.lo_sl, Ev.lo_ptr, Ev.los_nil, Ev.los_cons, Ev.loss_nil, Ev.loss_cons, ↓Ev.obind, ↓reduceIte, List.length_cons, List.length_nil, List.getElem?_cons_zero, List.getElem?_cons_succ, List.take_succ_cons, List.take_nil, List.drop_succ_cons, List.drop_zero, List.head?_cons, Nat.reduceAdd, Nat.reduceEqDiff, Nat.reduceLT, reduceCtorEq, decide_true, Bool.and_self, Bool.false_eq_true, and_self, Nat.zero_add, Nat.add_zero, eq_self]
def beginE (x : Lp) (e : Evt) : Ex := ⟨x.r0, x.r1, x.procs, x.sum, e, [], 0, [], false⟩
def wakeE (e : Evt) (q : Pr) : Pr := if e.kind = 2 then { q with pc := e.arg, timer := if q.timer = e.key then [] else q.timer } else q
def endE (x : Ex) : Lp := ⟨x.r0, x.r1, x.procs, x.sum⟩
def actsE (x : Lp) (e : Evt) : Option Pr := if (e.kind = 1 ∨ e.kind = 2) ∧ 0 ≤ e.proc then (x.procs[e.proc.toNat]?).bind fun q => if q.alive = true then some q else none else none
def runE (c : Cfg) (x : Lp) (e : Evt) (q : Pr) : Ex := actE ((c.progs[q.prog.toNat]?).getD []) e.proc.toNat 16 ((beginE x e).setP e.proc.toNat (wakeE e q))
structure ExecOk (c : Cfg) (x : Lp) (e : Evt) : Prop where
  procs : x.procs.length ≤ 20
  key : e.key.length ≤ 1000
  proc : ∀ q ∈ x.procs, 0 ≤ q.prog ∧ q.prog < c.progs.length ∧ 0 ≤ q.pc ∧ q.pc ≤ 1000000 ∧ q.timer.length ≤ 1000
  prog : ∀ p ∈ c.progs, p.length ≤ 1000 ∧ ∀ op ∈ p, OpOk' op
  arg : e.kind = 2 → 0 ≤ e.arg ∧ e.arg ≤ 1000000
section
variable (c : Cfg) (x : Lp) (e : Evt)
theorem Exec_msg (hk : e.kind = 3) : callZ (evL T) n_process_Exec [(.agg [(.fsl ((c.lps).map lpC) false), (.fsl ((c.progs).map progC) false), (.v (.int .i64 (c.look))), (.v (.int .i64 (c.fin))), (.v (.int .i64 (c.cap)))]), (.agg [(.v (.int .i64 (x.r0))), (.v (.int .i64 (x.r1))), (.fsl ((x.procs).map Pr.r) false), (.v (.int .i64 (x.sum)))]), (.agg [(.v (.int .i64 (e.time))), (.fsl ((e.key).map intC) false), (.v (.int .i64 (e.lp))), (.v (.int .i64 (e.kind))), (.v (.int .i64 (e.proc))), (.v (.int .i64 (e.arg)))])] = some (.tup [(.agg [(.v (.int .i64 ((⟨x.r0, x.r1, x.procs, w64 (x.sum + e.arg)⟩ : Lp).r0))), (.v (.int .i64 ((⟨x.r0, x.r1, x.procs, w64 (x.sum + e.arg)⟩ : Lp).r1))), (.fsl (((⟨x.r0, x.r1, x.procs, w64 (x.sum + e.arg)⟩ : Lp).procs).map Pr.r) false), (.v (.int .i64 ((⟨x.r0, x.r1, x.procs, w64 (x.sum + e.arg)⟩ : Lp).sum)))]), .fsl [] true, .fsl [] true, (.v (.bool (false)))]) := by
  rw [callZ, evL_code ext_process_Exec code_process_Exec]
  simp only [c_process_Exec, hk, procs_lo, Ev.runFunc, Ev.exec, Ev.evOpers, Ev.evOper, Ev.item_op, Ev.evOp, Ev.Opnd.ev, Ev.Env.get, Ev.Env.set, Ev.look, Ev.argVars, Ev.cellsAt, Ev.loadC, Ev.AV.cells, Ev.AV.uc, Ev.plains, Ev.AV.plain, Ev.bin_add, Ev.bin_eql, Ev.resVals, Ev.resVal, Ev.resOf, Ev.kill, Ev.leave, Ev.storeLo, Ev.lo_v, Ev.lo_agg, Ev.lo_tup, Ev.lo_fsl, Ev.los_nil, Ev.los_cons, Ev.loss_nil, Ev.frz_lo, ↓Ev.obind, ↓reduceIte, List.length_cons, List.length_nil, List.getElem?_cons_zero, List.getElem?_cons_succ, List.take_succ_cons, List.take_zero, List.take_nil, List.drop_succ_cons, List.drop_zero, List.drop_nil, List.cons_append, List.nil_append, List.append_nil, List.set_cons_zero, List.set_cons_succ, List.head?_cons, Nat.reduceAdd, Nat.reduceEqDiff, reduceCtorEq, decide_true, Bool.and_self, Bool.false_eq_true, and_self, ne_eq, not_false_eq_true, List.cons_ne_nil, Nat.zero_add, Nat.le_refl, eq_self]
theorem Exec_none (hk : ¬ e.kind = 3) (ha : actsE x e = none) : callZ (evL T) n_process_Exec [(.agg [(.fsl ((c.lps).map lpC) false), (.fsl ((c.progs).map progC) false), (.v (.int .i64 (c.look))), (.v (.int .i64 (c.fin))), (.v (.int .i64 (c.cap)))]), (.agg [(.v (.int .i64 (x.r0))), (.v (.int .i64 (x.r1))), (.fsl ((x.procs).map Pr.r) false), (.v (.int .i64 (x.sum)))]), (.agg [(.v (.int .i64 (e.time))), (.fsl ((e.key).map intC) false), (.v (.int .i64 (e.lp))), (.v (.int .i64 (e.kind))), (.v (.int .i64 (e.proc))), (.v (.int .i64 (e.arg)))])] = some (.tup [(.agg [(.v (.int .i64 (x.r0))), (.v (.int .i64 (x.r1))), (.fsl ((x.procs).map Pr.r) false), (.v (.int .i64 (x.sum)))]), .fsl [] true, .fsl [] true, (.v (.bool (false)))]) := by
  rw [callZ, evL_code ext_process_Exec code_process_Exec]
  by_cases k1 : e.kind = 1
  case neg =>
    by_cases k2 : e.kind = 2
    case neg => simp only [c_process_Exec, hk, k1, k2, procs_lo, Ev.runFunc, Ev.exec, Ev.evOpers, Ev.evOper, Ev.item_op, Ev.evOp, Ev.Opnd.ev, Ev.Env.get, Ev.Env.set, Ev.look, Ev.argVars, Ev.cellsAt, Ev.loadC, Ev.AV.cells, Ev.plains, Ev.AV.plain, Ev.bin_eql, Ev.bin_neq, Ev.resVals, Ev.resVal, Ev.resOf, Ev.kill, Ev.leave, Ev.storeLo, Ev.lo_v, Ev.lo_agg, Ev.lo_tup, Ev.lo_fsl, Ev.los_nil, Ev.los_cons, Ev.loss_nil, Ev.frz_lo, ↓Ev.obind, ↓reduceIte, List.length_cons, List.length_nil, List.getElem?_cons_zero, List.getElem?_cons_succ, List.take_succ_cons, List.take_zero, List.take_nil, List.drop_succ_cons, List.drop_zero, List.drop_nil, List.cons_append, List.nil_append, List.append_nil, List.set_cons_zero, List.set_cons_succ, List.head?_cons, Nat.reduceAdd, Nat.reduceEqDiff, reduceCtorEq, decide_true, decide_false, Bool.and_self, Bool.false_eq_true, and_self, ne_eq, not_false_eq_true, List.cons_ne_nil, Nat.zero_add, Nat.le_refl, eq_self]
    by_cases h1 : e.proc < 0
    · simp only [c_process_Exec, k2, h1, procs_lo, Ev.runFunc, Ev.exec, Ev.evOpers, Ev.evOper, Ev.item_op, Ev.evOp, Ev.Opnd.ev, Ev.Env.get, Ev.Env.set, Ev.look, Ev.argVars, Ev.cellsAt, Ev.loadC, Ev.AV.cells, Ev.plains, Ev.AV.plain, Ev.bin_eql, Ev.bin_neq, Ev.bin_lss, Ev.resVals, Ev.resVal, Ev.resOf, Ev.kill, Ev.leave, Ev.storeLo, Ev.lo_v, Ev.lo_agg, Ev.lo_tup, Ev.lo_fsl, Ev.los_nil, Ev.los_cons, Ev.loss_nil, Ev.frz_lo, ↓Ev.obind, ↓reduceIte, List.length_cons, List.length_nil, List.getElem?_cons_zero, List.getElem?_cons_succ, List.take_succ_cons, List.take_zero, List.take_nil, List.drop_succ_cons, List.drop_zero, List.drop_nil, List.cons_append, List.nil_append, List.append_nil, List.set_cons_zero, List.set_cons_succ, List.head?_cons, Nat.reduceAdd, Nat.reduceEqDiff, Int.reduceEq, reduceCtorEq, decide_true, decide_false, Bool.and_self, Bool.false_eq_true, and_self, ne_eq, not_false_eq_true, not_true_eq_false, List.cons_ne_nil, Nat.zero_add, Nat.le_refl, eq_self]
    by_cases h2 : e.proc ≥ (x.procs.length : Int)
    · simp only [c_process_Exec, k2, h1, h2, procs_lo, Ev.runFunc, Ev.exec, Ev.evOpers, Ev.evOper, Ev.item_op, Ev.evOp, Ev.Opnd.ev, Ev.Env.get, Ev.Env.set, Ev.look, Ev.argVars, Ev.cellsAt, Ev.loadC, Ev.AV.cells, Ev.plains, Ev.AV.plain, Ev.bin_eql, Ev.bin_neq, Ev.bin_lss, Ev.bin_geq, Ev.resVals, Ev.resVal, Ev.resOf, Ev.kill, Ev.leave, Ev.storeLo, Ev.lo_v, Ev.lo_agg, Ev.lo_tup, Ev.lo_fsl, Ev.los_nil, Ev.los_cons, Ev.loss_nil, Ev.frz_lo, List.length_map, ↓Ev.obind, ↓reduceIte, List.length_cons, List.length_nil, List.getElem?_cons_zero, List.getElem?_cons_succ, List.take_succ_cons, List.take_zero, List.take_nil, List.drop_succ_cons, List.drop_zero, List.drop_nil, List.cons_append, List.nil_append, List.append_nil, List.set_cons_zero, List.set_cons_succ, List.head?_cons, Nat.reduceAdd, Nat.reduceEqDiff, Int.reduceEq, reduceCtorEq, decide_true, decide_false, Bool.and_self, Bool.false_eq_true, and_self, ne_eq, not_false_eq_true, not_true_eq_false, List.cons_ne_nil, Nat.zero_add, Nat.le_refl, eq_self]
    obtain ⟨q, hq⟩ : ∃ q, x.procs[e.proc.toNat]? = some q := ⟨_, List.getElem?_eq_getElem (by omega)⟩
    have h0 : 0 ≤ e.proc := by omega
    have hal : q.alive = false := by
      unfold actsE at ha
      rw [if_pos ⟨.inr k2, h0⟩, hq] at ha
      cases h : q.alive with
      | false => rfl
      | true => simp [h] at ha
    simp only [c_process_Exec, k2, h0, h1, h2, hq, hal, List.getElem?_map, Option.map_some, Pr.r, procs_lo, Ev.runFunc, Ev.exec, Ev.evOpers, Ev.evOper, Ev.item_op, Ev.evOp, Ev.Opnd.ev, Ev.Env.get, Ev.Env.set, Ev.look, Ev.argVars, Ev.cellsAt, Ev.loadC, Ev.AV.cells, Ev.plains, Ev.AV.plain, Ev.bin_eql, Ev.bin_neq, Ev.bin_lss, Ev.bin_geq, Ev.resVals, Ev.resVal, Ev.resOf, Ev.kill, Ev.leave, Ev.storeLo, Ev.lo_v, Ev.lo_agg, Ev.lo_tup, Ev.lo_fsl, Ev.los_nil, Ev.los_cons, Ev.loss_nil, Ev.frz_lo, List.length_map, ↓Ev.obind, ↓reduceIte, List.length_cons, List.length_nil, List.getElem?_cons_zero, List.getElem?_cons_succ, List.take_succ_cons, List.take_zero, List.take_nil, List.drop_succ_cons, List.drop_zero, List.drop_nil, List.cons_append, List.nil_append, List.append_nil, List.set_cons_zero, List.set_cons_succ, List.head?_cons, Nat.reduceAdd, Nat.reduceEqDiff, Int.reduceEq, reduceCtorEq, decide_true, decide_false, Bool.and_self, Bool.not_false, Bool.false_eq_true, and_self, ne_eq, not_false_eq_true, not_true_eq_false, List.cons_ne_nil, Nat.zero_add, Nat.le_refl, eq_self]
  by_cases h1 : e.proc < 0
  · simp only [c_process_Exec, k1, h1, procs_lo, Ev.runFunc, Ev.exec, Ev.evOpers, Ev.evOper, Ev.item_op, Ev.evOp, Ev.Opnd.ev, Ev.Env.get, Ev.Env.set, Ev.Env.unset, Ev.look, Ev.argVars, Ev.cellsAt, Ev.loadC, Ev.AV.cells, Ev.plains, Ev.AV.plain, Ev.bin_eql, Ev.bin_neq, Ev.bin_lss, Ev.resVals, Ev.resVal, Ev.resOf, Ev.kill, Ev.leave, Ev.storeLo, Ev.lo_v, Ev.lo_agg, Ev.lo_tup, Ev.lo_fsl, Ev.los_nil, Ev.los_cons, Ev.loss_nil, Ev.frz_lo, ↓Ev.obind, ↓reduceIte, List.length_cons, List.length_nil, List.getElem?_cons_zero, List.getElem?_cons_succ, List.take_succ_cons, List.take_zero, List.take_nil, List.drop_succ_cons, List.drop_zero, List.drop_nil, List.cons_append, List.nil_append, List.append_nil, List.set_cons_zero, List.set_cons_succ, List.head?_cons, Nat.reduceAdd, Nat.reduceEqDiff, Int.reduceEq, reduceCtorEq, decide_true, decide_false, Bool.and_self, Bool.false_eq_true, and_self, ne_eq, not_false_eq_true, not_true_eq_false, List.cons_ne_nil, Nat.zero_add, Nat.le_refl, eq_self]
  by_cases h2 : e.proc ≥ (x.procs.length : Int)
  · simp only [c_process_Exec, k1, h1, h2, procs_lo, Ev.runFunc, Ev.exec, Ev.evOpers, Ev.evOper, Ev.item_op, Ev.evOp, Ev.Opnd.ev, Ev.Env.get, Ev.Env.set, Ev.Env.unset, Ev.look, Ev.argVars, Ev.cellsAt, Ev.loadC, Ev.AV.cells, Ev.plains, Ev.AV.plain, Ev.bin_eql, Ev.bin_neq, Ev.bin_lss, Ev.bin_geq, Ev.resVals, Ev.resVal, Ev.resOf, Ev.kill, Ev.leave, Ev.storeLo, Ev.lo_v, Ev.lo_agg, Ev.lo_tup, Ev.lo_fsl, Ev.los_nil, Ev.los_cons, Ev.loss_nil, Ev.frz_lo, List.length_map, ↓Ev.obind, ↓reduceIte, List.length_cons, List.length_nil, List.getElem?_cons_zero, List.getElem?_cons_succ, List.take_succ_cons, List.take_zero, List.take_nil, List.drop_succ_cons, List.drop_zero, List.drop_nil, List.cons_append, List.nil_append, List.append_nil, List.set_cons_zero, List.set_cons_succ, List.head?_cons, Nat.reduceAdd, Nat.reduceEqDiff, Int.reduceEq, reduceCtorEq, decide_true, decide_false, Bool.and_self, Bool.false_eq_true, and_self, ne_eq, not_false_eq_true, not_true_eq_false, List.cons_ne_nil, Nat.zero_add, Nat.le_refl, eq_self]
  obtain ⟨q, hq⟩ : ∃ q, x.procs[e.proc.toNat]? = some q := ⟨_, List.getElem?_eq_getElem (by omega)⟩
  have h0 : 0 ≤ e.proc := by omega
  have hal : q.alive = false := by
    unfold actsE at ha
    rw [if_pos ⟨.inl k1, h0⟩, hq] at ha
    cases h : q.alive with
    | false => rfl
    | true => simp [h] at ha
  simp only [c_process_Exec, k1, h0, h1, h2, hq, hal, List.getElem?_map, Option.map_some, Pr.r, procs_lo, Ev.runFunc, Ev.exec, Ev.evOpers, Ev.evOper, Ev.item_op, Ev.evOp, Ev.Opnd.ev, Ev.Env.get, Ev.Env.set, Ev.Env.unset, Ev.look, Ev.argVars, Ev.cellsAt, Ev.loadC, Ev.AV.cells, Ev.plains, Ev.AV.plain, Ev.bin_eql, Ev.bin_neq, Ev.bin_lss, Ev.bin_geq, Ev.resVals, Ev.resVal, Ev.resOf, Ev.kill, Ev.leave, Ev.storeLo, Ev.lo_v, Ev.lo_agg, Ev.lo_tup, Ev.lo_fsl, Ev.los_nil, Ev.los_cons, Ev.loss_nil, Ev.frz_lo, List.length_map, ↓Ev.obind, ↓reduceIte, List.length_cons, List.length_nil, List.getElem?_cons_zero, List.getElem?_cons_succ, List.take_succ_cons, List.take_zero, List.take_nil, List.drop_succ_cons, List.drop_zero, List.drop_nil, List.cons_append, List.nil_append, List.append_nil, List.set_cons_zero, List.set_cons_succ, List.head?_cons, Nat.reduceAdd, Nat.reduceEqDiff, Int.reduceEq, reduceCtorEq, decide_false, Bool.and_self, Bool.not_false, Bool.false_eq_true, and_self, ne_eq, not_false_eq_true, not_true_eq_false, List.cons_ne_nil, Nat.zero_add, Nat.le_refl, eq_self]
end
end Go.Proofs.Ythkjkdbjgpeigaa.K
namespace Go.Proofs.Ythkjkdbjgpeigaa.K
open Go.Ev
set_option linter.unusedSimpArgs false
set_option linter.unusedVariables false
set_option maxRecDepth 10000
section
variable (c : Cfg) (x : Lp) (e : Evt)
theorem begin_inv (h : ExecOk c x e) {i : Nat} {q : Pr} (hi : e.proc = i) (hq : x.procs[i]? = some q) : ActInv e i 0 ((beginE x e).setP i (wakeE e q)) := by
  have hlt := (List.getElem?_eq_some_iff.1 hq).1
  obtain ⟨p1, p2, p3, p4, p5⟩ := h.proc q (List.mem_of_getElem? hq)
  refine ⟨rfl, ⟨wakeE e q, by simp only [Ex.setP, beginE]; rw [List.getElem?_set_self hlt], ?_⟩, by simp only [Ex.setP, beginE, List.length_set]; exact h.procs, Nat.le_refl _, Nat.le_refl _⟩
  unfold wakeE
  by_cases k : e.kind = 2
  · rw [if_pos k]; exact h.arg k
  · rw [if_neg k]; exact ⟨p3, p4⟩
theorem wake_prog (q : Pr) : (wakeE e q).prog = q.prog := by unfold wakeE; split <;> rfl
theorem Exec_run (h : ExecOk c x e) {q : Pr} (ha : actsE x e = some q) :
    callZ (evL T) n_process_Exec [(.agg [(.fsl ((c.lps).map lpC) false), (.fsl ((c.progs).map progC) false), (.v (.int .i64 (c.look))), (.v (.int .i64 (c.fin))), (.v (.int .i64 (c.cap)))]), (.agg [(.v (.int .i64 (x.r0))), (.v (.int .i64 (x.r1))), (.fsl ((x.procs).map Pr.r) false), (.v (.int .i64 (x.sum)))]), (.agg [(.v (.int .i64 (e.time))), (.fsl ((e.key).map intC) false), (.v (.int .i64 (e.lp))), (.v (.int .i64 (e.kind))), (.v (.int .i64 (e.proc))), (.v (.int .i64 (e.arg)))])] = some (.tup [(.agg [(.v (.int .i64 ((endE (runE c x e q)).r0))), (.v (.int .i64 ((endE (runE c x e q)).r1))), (.fsl (((endE (runE c x e q)).procs).map Pr.r) false), (.v (.int .i64 ((endE (runE c x e q)).sum)))]), (.fsl (((runE c x e q).out).map Evt.r) false), (.fsl (((runE c x e q).gone).map keyC) false), (.v (.bool ((runE c x e q).over)))]) := by
  unfold actsE at ha
  split at ha
  case isFalse => cases ha
  rename_i hc
  obtain ⟨hkind, h0⟩ := hc
  obtain ⟨i, hi⟩ : ∃ i : Nat, e.proc = i := ⟨_, (Int.toNat_of_nonneg h0).symm⟩
  have hin : e.proc.toNat = i := by omega
  rw [hin, Option.bind_eq_some_iff] at ha
  obtain ⟨q', hq, ha⟩ := ha
  split at ha
  case isFalse => cases ha
  rename_i hal
  cases ha
  have hlt := (List.getElem?_eq_some_iff.1 hq).1
  obtain ⟨p1, p2, p3, p4, p5⟩ := h.proc q (List.mem_of_getElem? hq)
  obtain ⟨p, hp⟩ : ∃ p, c.progs[q.prog.toNat]? = some p := ⟨_, List.getElem?_eq_getElem (by omega)⟩
  obtain ⟨pl, pok⟩ := h.prog p (List.mem_of_getElem? hp)
  have hinv := begin_inv c x e h hi hq
  obtain ⟨gp, gc, gg, hact, hend⟩ := activate_ev x.r0 x.r1 x.sum x.procs.length e i p false h.key hi pl pok ((beginE x e).setP i (wakeE e q)) 0 0 0 hinv
  have hrun : runE c x e q = actE p i 16 ((beginE x e).setP i (wakeE e q)) := by unfold runE; rw [hin, hp]; rfl
  rw [hrun]
  generalize actE p i 16 ((beginE x e).setP i (wakeE e q)) = F at hact hend
  have hcl := clone_procs_ev x.procs false (by have := h.procs; omega)
  have h1 : ¬ e.proc < 0 := by omega
  have h2 : ¬ e.proc ≥ (x.procs.length : Int) := by omega
  have h9 : ((i : Int)).toNat = i := Int.toNat_natCast i
  have h3 : ¬ e.kind = 3 := by omega
  have s0 := self6_ev x.r0 x.r1 x.sum x.procs.length (beginE x e) 0 0 0 i hi hlt
  have hset : (x.procs.map Pr.r).set i [(.v (.int .i64 ((wakeE e q).prog))), (.v (.int .i64 ((wakeE e q).pc))), (.v (.bool ((wakeE e q).alive))), (.fsl (((wakeE e q).timer).map intC) false)] = (x.procs.set i (wakeE e q)).map Pr.r := by rw [List.map_set]; rfl
  have hl : (x.procs.set i (wakeE e q)).length = x.procs.length := by simp
  have hq2 : (x.procs.set i (wakeE e q))[i]? = some (wakeE e q) := by rw [List.getElem?_set_self hlt]
  have s1 := self6_ev x.r0 x.r1 x.sum x.procs.length ((beginE x e).setP i (wakeE e q)) 0 0 0 i hi (by simp only [Ex.setP, beginE, List.length_set]; exact hlt)
  rw [hi] at h0 h1 h2
  simp only [beginE, List.map_nil, List.length_nil, hi] at s0
  simp only [beginE, Ex.setP, List.map_nil, List.length_nil, hl, hi] at s1 hact
  have ft : ∀ {τ : Type} (l : List τ) (f : τ → List AV), List.take l.length (l.map f) = l.map f := fun l f => List.take_of_length_le (by simp)
  have hpr := wake_prog e q
  rw [callZ, evL_code ext_process_Exec code_process_Exec]
  rcases hkind with k1 | k2
  · have hwk : wakeE e q = q := by unfold wakeE; rw [if_neg (by omega)]
    have hss : x.procs.set i q = x.procs := by
      obtain ⟨hlt', hge⟩ := List.getElem?_eq_some_iff.1 hq
      rw [← hge, List.set_getElem_self]
    rw [hwk, hss] at hact
    have k2 : ¬ e.kind = 2 := by omega
    have k3 : ¬ (1 : Int) = 3 := by decide
    have k4 : ¬ (1 : Int) = 2 := by decide
    simp only [k1] at s0 hact ⊢
    simp only [c_process_Exec, k3, k4, h0, h1, h2, hi, hq, hal, hcl, s0, p1, hp, hact, ft, endE, Int.toNat_natCast, List.getElem?_map, Option.map_some, Pr.r, progC, procs_lo, evts_lo, keys_lo, Nat.reduceLT, Nat.reduceLeDiff, Ev.runFunc, Ev.exec, Ev.evOpers, Ev.evOper, Ev.item_op, Ev.item_A, Ev.item_I, Ev.impO, Ev.AV.shift, Ev.evOp, Ev.ownL, Ev.evs, Ev.Opnd.ev, Ev.Env.get, Ev.Env.set, Ev.Env.unset, Ev.look, Ev.argVars, Ev.cellsAt, Ev.loadC, Ev.fillP, Ev.AV.cells, Ev.AV.uc, Ev.plains, Ev.AV.plain, Ev.bin_eql, Ev.bin_neq, Ev.bin_lss, Ev.bin_geq, Ev.resVals, Ev.resVal, Ev.resOf, Ev.kill, Ev.leave, Ev.storeLo, Ev.lo_v, Ev.lo_agg, Ev.lo_tup, Ev.lo_fsl, Ev.lo_sl, Ev.awayL, Ev.AV.obj?, Ev.los_nil, Ev.los_cons, Ev.frz_lo, Ev.frz_agg, Ev.frz_tup, Ev.frz_own, Ev.omap_los, Ev.omap_nil, Ev.omap_cons, Ev.shiftss_lo, List.length_map, ↓Ev.obind, ↓reduceIte, List.length_cons, List.length_nil, List.getElem?_cons_zero, List.getElem?_cons_succ, List.take_succ_cons, List.take_zero, List.take_nil, List.drop_succ_cons, List.drop_zero, List.drop_nil, List.cons_append, List.nil_append, List.append_nil, List.set_cons_zero, List.set_cons_succ, List.head?_cons, Nat.reduceAdd, Nat.reduceEqDiff, Nat.reduceBEq, Nat.reduceLT, Nat.reduceLeDiff, reduceCtorEq, decide_false, Bool.and_self, Bool.and_true, Bool.not_true, Bool.not_false, Bool.false_eq_true, and_self, and_true, ne_eq, not_false_eq_true, not_true_eq_false, List.cons_ne_nil, Nat.zero_add, Nat.add_zero, Nat.lt_add_one, Nat.le_refl, eq_self, Bool.and_false]
    done
  · have k1 : ¬ (2 : Int) = 1 := by decide
    have k3 : ¬ (2 : Int) = 3 := by decide
    have hkl := h.key
    have hwk : wakeE e q = { q with pc := e.arg, timer := if q.timer = e.key then [] else q.timer } := by unfold wakeE; rw [if_pos k2]
    obtain ⟨qp, qpc, qa, qt⟩ := q
    dsimp only at *
    subst hal
    have heq := slices_Equal_ev qt e.key false false (by omega) (by omega)
    have hset1 : (x.procs.map Pr.r).set i [(.v (.int .i64 (qp))), (.v (.int .i64 (e.arg))), (.v (.bool (true))), (.fsl ((qt).map intC) false)] = (x.procs.set i ⟨qp, e.arg, true, qt⟩).map Pr.r := by rw [List.map_set]; rfl
    have hg1 : (x.procs.set i ⟨qp, e.arg, true, qt⟩)[i]? = some ⟨qp, e.arg, true, qt⟩ := by rw [List.getElem?_set_self hlt]
    have hset2 : ((x.procs.set i ⟨qp, e.arg, true, qt⟩).map Pr.r).set i [(.v (.int .i64 (qp))), (.v (.int .i64 (e.arg))), (.v (.bool (true))), .fsl [] false] = (x.procs.set i ⟨qp, e.arg, true, []⟩).map Pr.r := by
      have : x.procs.set i ⟨qp, e.arg, true, []⟩ = (x.procs.set i ⟨qp, e.arg, true, qt⟩).set i ⟨qp, e.arg, true, []⟩ := by rw [List.set_set]
      rw [this, List.map_set (l := x.procs.set i ⟨qp, e.arg, true, qt⟩)]; rfl
    have hl1 : (x.procs.set i ⟨qp, e.arg, true, qt⟩).length = x.procs.length := by simp
    rw [hwk] at s1 hact hq2
    simp only [k2] at s0 s1 hact ⊢
    by_cases ht : qt = e.key
    · simp only [ht, if_true] at s1 hact hq2
      simp only [ht, decide_true] at heq
      simp only [ht] at hset1 hset2 hg1
      simp only [c_process_Exec, k1, k3, h0, h1, h2, hi, hq, hcl, s0, s1, p1, hp, hact, ft, heq, hset1, hset2, hg1, hq2, ht, endE, Int.toNat_natCast, List.getElem?_map, Option.map_some, Pr.r, progC, ints_lo, procs_lo, evts_lo, keys_lo, Nat.reduceLT, Nat.reduceLeDiff, Ev.runFunc, Ev.exec, Ev.evOpers, Ev.evOper, Ev.item_op, Ev.item_P, Ev.item_A, Ev.item_I, Ev.impO, Ev.AV.shift, Ev.evOp, Ev.ownL, Ev.evs, Ev.Opnd.ev, Ev.Env.get, Ev.Env.set, Ev.look, Ev.argVars, Ev.cellsAt, Ev.loadC, Ev.fillP, Ev.AV.cells, Ev.AV.uc, Ev.plains, Ev.AV.plain, Ev.bin_eql, Ev.bin_neq, Ev.bin_lss, Ev.bin_geq, Ev.resVals, Ev.resVal, Ev.resOf, Ev.kill, Ev.leave, Ev.storeLo, Ev.lo_v, Ev.lo_agg, Ev.lo_tup, Ev.lo_fsl, Ev.lo_sl, Ev.awayL, Ev.AV.obj?, Ev.los_nil, Ev.los_cons, Ev.frz_lo, Ev.frz_agg, Ev.frz_tup, Ev.frz_own, Ev.omap_los, Ev.omap_nil, Ev.omap_cons, Ev.shiftss_lo, List.length_map, ↓Ev.obind, ↓reduceIte, List.length_cons, List.length_nil, List.getElem?_cons_zero, List.getElem?_cons_succ, List.take_succ_cons, List.take_zero, List.take_nil, List.drop_succ_cons, List.drop_zero, List.drop_nil, List.cons_append, List.nil_append, List.append_nil, List.set_cons_zero, List.set_cons_succ, List.head?_cons, Nat.reduceAdd, Nat.reduceEqDiff, Nat.reduceBEq, Nat.reduceLT, Nat.reduceLeDiff, reduceCtorEq, decide_true, decide_false, Bool.and_self, Bool.and_true, Bool.not_true, Bool.not_false, Bool.false_eq_true, and_self, and_true, ne_eq, not_false_eq_true, not_true_eq_false, List.cons_ne_nil, Nat.zero_add, Nat.add_zero, Nat.lt_add_one, Nat.le_refl, eq_self, Bool.and_false]
      done
    · simp only [ht, if_false] at s1 hact hq2
      simp only [ht, decide_false] at heq
      simp only [c_process_Exec, k1, k3, h0, h1, h2, hi, hq, hcl, s0, s1, p1, hp, hact, ft, heq, hset1, hg1, endE, Int.toNat_natCast, List.getElem?_map, Option.map_some, Pr.r, progC, ints_lo, procs_lo, evts_lo, keys_lo, Nat.reduceLT, Nat.reduceLeDiff, Ev.runFunc, Ev.exec, Ev.evOpers, Ev.evOper, Ev.item_op, Ev.item_P, Ev.item_A, Ev.item_I, Ev.impO, Ev.AV.shift, Ev.evOp, Ev.ownL, Ev.evs, Ev.Opnd.ev, Ev.Env.get, Ev.Env.set, Ev.look, Ev.argVars, Ev.cellsAt, Ev.loadC, Ev.fillP, Ev.AV.cells, Ev.AV.uc, Ev.plains, Ev.AV.plain, Ev.bin_eql, Ev.bin_neq, Ev.bin_lss, Ev.bin_geq, Ev.resVals, Ev.resVal, Ev.resOf, Ev.kill, Ev.leave, Ev.storeLo, Ev.lo_v, Ev.lo_agg, Ev.lo_tup, Ev.lo_fsl, Ev.lo_sl, Ev.awayL, Ev.AV.obj?, Ev.los_nil, Ev.los_cons, Ev.frz_lo, Ev.frz_agg, Ev.frz_tup, Ev.frz_own, Ev.omap_los, Ev.omap_nil, Ev.omap_cons, Ev.shiftss_lo, List.length_map, ↓Ev.obind, ↓reduceIte, List.length_cons, List.length_nil, List.getElem?_cons_zero, List.getElem?_cons_succ, List.take_succ_cons, List.take_zero, List.take_nil, List.drop_succ_cons, List.drop_zero, List.drop_nil, List.cons_append, List.nil_append, List.append_nil, List.set_cons_zero, List.set_cons_succ, List.head?_cons, Nat.reduceAdd, Nat.reduceEqDiff, Nat.reduceBEq, Nat.reduceLT, Nat.reduceLeDiff, reduceCtorEq, decide_true, decide_false, Bool.and_self, Bool.and_true, Bool.not_true, Bool.not_false, Bool.false_eq_true, and_self, and_true, ne_eq, not_false_eq_true, not_true_eq_false, List.cons_ne_nil, Nat.zero_add, Nat.add_zero, Nat.lt_add_one, Nat.le_refl, eq_self, Bool.and_false]
      done
end
end Go.Proofs.Ythkjkdbjgpeigaa.K
namespace Go.Proofs.Ythkjkdbjgpeigaa.K
open Go.Ev
set_option linter.unusedSimpArgs false
set_option linter.unusedVariables false
set_option maxRecDepth 10000
def cmpZ (a b : Int) : Int := if a < b then -1 else if a > b then 1 else 0
theorem ref03_Compare_ev (a b : Int) : callZ (evL T) n_ref03_Compare [(.v (.int .i64 (a))), (.v (.int .i64 (b)))] = some (.v (.int .i64 (cmpZ a b))) := by
  rw [callZ, evL_code ext_ref03_Compare code_ref03_Compare]
  by_cases h1 : a < b
  · simp only [c_ref03_Compare, cmpZ, h1, Ev.runFunc, Ev.exec, Ev.evOpers, Ev.evOper, Ev.item_op, Ev.evOp, Ev.Opnd.ev, Ev.Env.get, Ev.Env.set, Ev.look, Ev.argVars, Ev.bin_lss, Ev.resVals, Ev.resVal, Ev.resOf, Ev.kill, Ev.leave, Ev.storeLo, Ev.lo_v, Ev.frz_lo, ↓Ev.obind, ↓reduceIte, List.length_cons, List.length_nil, List.take_nil, Nat.reduceAdd, Nat.reduceEqDiff, Int.reduceNeg, reduceCtorEq, decide_true, and_self, Nat.zero_add, eq_self]
  by_cases h2 : a > b
  · simp only [c_ref03_Compare, cmpZ, h1, h2, Ev.runFunc, Ev.exec, Ev.evOpers, Ev.evOper, Ev.item_op, Ev.evOp, Ev.Opnd.ev, Ev.Env.get, Ev.Env.set, Ev.look, Ev.argVars, Ev.bin_lss, Ev.bin_gtr, Ev.resVals, Ev.resVal, Ev.resOf, Ev.kill, Ev.leave, Ev.storeLo, Ev.lo_v, Ev.frz_lo, ↓Ev.obind, ↓reduceIte, List.length_cons, List.length_nil, List.take_nil, Nat.reduceAdd, Nat.reduceEqDiff, Int.reduceNeg, reduceCtorEq, decide_true, decide_false, Bool.false_eq_true, and_self, Nat.zero_add, eq_self]
  · simp only [c_ref03_Compare, cmpZ, h1, h2, Ev.runFunc, Ev.exec, Ev.evOpers, Ev.evOper, Ev.item_op, Ev.evOp, Ev.Opnd.ev, Ev.Env.get, Ev.Env.set, Ev.look, Ev.argVars, Ev.bin_lss, Ev.bin_gtr, Ev.resVals, Ev.resVal, Ev.resOf, Ev.kill, Ev.leave, Ev.storeLo, Ev.lo_v, Ev.frz_lo, ↓Ev.obind, ↓reduceIte, List.length_cons, List.length_nil, List.take_nil, Nat.reduceAdd, Nat.reduceEqDiff, Int.reduceNeg, reduceCtorEq, decide_false, Bool.false_eq_true, and_self, Nat.zero_add, eq_self]
def keysZ : List Int → List Int → Int
  | x :: a, y :: b => if x = y then keysZ a b else cmpZ x y
  | [], b => if b.length = 0 then 0 else -1
  | _ :: _, [] => 1
theorem keysZ_find : ∀ a b : List Int, ((a.zip b).all (fun z => decide (z.1 = z.2)) = true → keysZ a b = cmpZ a.length b.length) ∧ ∀ x, (a.zip b).find? (fun z => !decide (z.1 = z.2)) = some x → keysZ a b = cmpZ x.1 x.2
  | [], b => by
    refine ⟨fun _ => ?_, fun x h => by simp at h⟩
    cases b with
    | nil => rfl
    | cons y b =>
      have : ((0 : Nat) : Int) < ((y :: b).length : Int) := by simp only [List.length_cons]; omega
      simp only [keysZ, List.length_cons, Nat.succ_ne_zero, if_false, cmpZ, List.length_nil]
      rw [if_pos (by omega)]
  | x :: a, [] => by
    refine ⟨fun _ => ?_, fun x h => by simp at h⟩
    simp only [keysZ, cmpZ, List.length_cons, List.length_nil]
    rw [if_neg (by omega), if_pos (by omega)]
  | x :: a, y :: b => by
    obtain ⟨h1, h2⟩ := keysZ_find a b
    simp only [List.zip_cons_cons, List.all_cons, List.find?_cons, keysZ, List.length_cons]
    by_cases h : x = y
    · simp only [h, decide_true, Bool.true_and, if_true, Bool.not_true]
      refine ⟨fun k => ?_, h2⟩
      rw [h1 k]; unfold cmpZ
      have e1 : ((a.length : Int) < b.length) ↔ (((a.length + 1 : Nat) : Int) < ((b.length + 1 : Nat) : Int)) := by omega
      have e2 : ((a.length : Int) > b.length) ↔ (((a.length + 1 : Nat) : Int) > ((b.length + 1 : Nat) : Int)) := by omega
      simp only [e1, e2]
    · simp only [h, decide_false, Bool.false_and, if_false, Bool.not_false]
      exact ⟨fun k => by simp at k, fun z k => by simp at k; rw [← k]⟩
theorem cmpZ_zero (a b : Int) : cmpZ a b = 0 ↔ a = b := by
  unfold cmpZ; split
  · constructor <;> intro h <;> omega
  split
  · constructor <;> intro h <;> omega
  · constructor <;> intro h <;> omega
theorem keysZ_zero : ∀ a b : List Int, keysZ a b = 0 ↔ a = b
  | [], [] => by simp [keysZ]
  | [], y :: b => by simp [keysZ]
  | x :: a, [] => by simp [keysZ]
  | x :: a, y :: b => by
    simp only [keysZ, List.cons.injEq]
    split
    next h => rw [keysZ_zero a b]; simp [h]
    next h => rw [cmpZ_zero]; simp [h]
section
variable (a b : List Int) (c d : Bool)
theorem CompareKeys_L (h1 : a.length ≤ 9223372036854775807) (h2 : b.length ≤ 9223372036854775807) :
    ∃ y, itB (exec (evL T) itL none c_ref03_CompareKeys_L1) (Ev.settle [0, 1, 5] true 0) ⟨[(0, (.fsl ((a).map intC) c)), (1, (.fsl ((b).map intC) d)), (5, (.v (.int .i64 (0))))], []⟩ [] = some y ∧
      ((a.zip b).all (fun z => decide (z.1 = z.2)) = true ∧ (y.1 = .exit 0 ∧ y.2.1.marks = [] ∧ y.2.2 = [] ∧ Ev.look y.2.1.vars 0 = some (.fsl ((a).map intC) c) ∧ Ev.look y.2.1.vars 1 = some (.fsl ((b).map intC) d)) ∨
      (a.zip b).all (fun z => decide (z.1 = z.2)) = false ∧ ∃ x, (a.zip b).find? (fun z => !decide (z.1 = z.2)) = some x ∧ (y.1 = .ret ∧ y.2.1.marks = [] ∧ y.2.2 = [] ∧ Ev.look y.2.1.vars 4 = some (.v (.int .i64 (cmpZ x.1 x.2))))) := by
  have hzl : (a.zip b).length = min a.length b.length := List.length_zip
  refine itB_find (a.zip b) (fun i => ⟨[(0, (.fsl ((a).map intC) c)), (1, (.fsl ((b).map intC) d)), (5, (.v (.int .i64 (i))))], []⟩) [] (fun z => decide (z.1 = z.2)) _ (fun x y => _) ?_ ?_ ?_
  · intro i x hi hx hp
    rw [hzl] at hi
    have hi' : (i : Int) < (a.length : Int) := by omega
    have hi2 : (i : Int) < (b.length : Int) := by omega
    have hw : IntKind.i64.wrap ((i : Int) + 1) = ((i + 1 : Nat) : Int) := by rw [w64_small (by omega) (by omega)]; simp
    obtain ⟨hxa, hxb⟩ := List.getElem?_zip_eq_some.1 hx
    have hp' := of_decide_eq_true hp
    simp only [c_ref03_CompareKeys_L1, Int.natCast_nonneg, Int.toNat_natCast, List.getElem?_map, Option.map_some, hxa, hxb, hi', hi2, hw, hp', ints_lo, intC, Ev.exec, Ev.evOpers, Ev.evOper, Ev.item_op, Ev.evOp, Ev.Opnd.ev, Ev.Env.get, Ev.Env.set, Ev.look, Ev.cellsAt, Ev.loadC, Ev.bin_add, Ev.bin_neq, Ev.bin_lss, Ev.settle, Ev.keep, Ev.varsLo, Ev.marksLo, Ev.storeLo, Ev.lo_v, Ev.lo_fsl, List.length_map, ↓Ev.obind, Ev.it1, ↓reduceIte, List.length_cons, List.length_nil, List.take_nil, List.head?_cons, Nat.reduceEqDiff, reduceCtorEq, decide_true, decide_false, Bool.and_self, Bool.false_eq_true, and_self, ne_eq, not_true_eq_false, Nat.zero_add, eq_self]
  · intro i x hi hx hp
    rw [hzl] at hi
    have hi' : (i : Int) < (a.length : Int) := by omega
    have hi2 : (i : Int) < (b.length : Int) := by omega
    obtain ⟨hxa, hxb⟩ := List.getElem?_zip_eq_some.1 hx
    have hp' : ¬ x.1 = x.2 := of_decide_eq_false hp
    have hc := ref03_Compare_ev x.1 x.2
    simp only [c_ref03_CompareKeys_L1, Int.natCast_nonneg, Int.toNat_natCast, List.getElem?_map, Option.map_some, hxa, hxb, hi', hi2, hp', hc, intC, Ev.exec, Ev.evOpers, Ev.evOper, Ev.item_op, Ev.item_P, Ev.evOp, Ev.evs, Ev.Opnd.ev, Ev.Env.get, Ev.Env.set, Ev.look, Ev.cellsAt, Ev.loadC, Ev.bin_neq, Ev.bin_lss, Ev.lo_v, Ev.los_nil, Ev.los_cons, List.length_map, ↓Ev.obind, Ev.it1, ↓reduceIte, List.length_cons, List.length_nil, List.head?_cons, Nat.reduceEqDiff, reduceCtorEq, decide_true, Bool.and_self, Bool.false_eq_true, ne_eq, not_false_eq_true, Nat.zero_add, eq_self]
    exact ⟨_, rfl, rfl, rfl, rfl, rfl⟩
  · rw [hzl]
    by_cases hab : a.length ≤ b.length
    · rw [Nat.min_eq_left hab]
      simp only [c_ref03_CompareKeys_L1, Int.lt_irrefl, Ev.exec, Ev.evOpers, Ev.evOper, Ev.item_op, Ev.evOp, Ev.Opnd.ev, Ev.Env.get, Ev.Env.set, Ev.Env.unset, Ev.look, Ev.bin_lss, List.length_map, ↓Ev.obind, Ev.it1, ↓reduceIte, Nat.reduceEqDiff, reduceCtorEq, decide_false, Bool.false_eq_true, eq_self]
      exact ⟨_, rfl, rfl, rfl, rfl, rfl, rfl⟩
    · rw [Nat.min_eq_right (by omega)]
      have h3 : (b.length : Int) < (a.length : Int) := by omega
      simp only [c_ref03_CompareKeys_L1, Int.lt_irrefl, h3, Ev.exec, Ev.evOpers, Ev.evOper, Ev.item_op, Ev.evOp, Ev.Opnd.ev, Ev.Env.get, Ev.Env.set, Ev.look, Ev.bin_lss, List.length_map, ↓Ev.obind, Ev.it1, ↓reduceIte, Nat.reduceEqDiff, reduceCtorEq, decide_true, decide_false, Bool.false_eq_true, eq_self]
      exact ⟨_, rfl, rfl, rfl, rfl, rfl, rfl⟩
theorem CompareKeys_ev (h1 : a.length ≤ 9223372036854775807) (h2 : b.length ≤ 9223372036854775807) : callZ (evL T) n_ref03_CompareKeys [(.fsl ((a).map intC) c), (.fsl ((b).map intC) d)] = some (.v (.int .i64 (keysZ a b))) := by
  obtain ⟨⟨y, e, σ⟩, k1, k2⟩ := CompareKeys_L a b c d h1 h2
  simp only at k2
  obtain ⟨z1, z2⟩ := keysZ_find a b
  rw [callZ, evL_code ext_ref03_CompareKeys code_ref03_CompareKeys]
  rcases k2 with ⟨k3, rfl, k4, rfl, k5, k6⟩ | ⟨k3, x, k7, rfl, k4, rfl, k5⟩
  · have hc := ref03_Compare_ev a.length b.length
    rw [z1 k3]
    simp only [c_ref03_CompareKeys, k1, k4, k5, k6, hc, ints_lo, Ev.runFunc, Ev.exec, Ev.evOpers, Ev.evOper, Ev.item_op, Ev.item_P, Ev.evOp, Ev.evs, Ev.Opnd.ev, Ev.Env.get, Ev.Env.set, Ev.look, Ev.argVars, Ev.resVals, Ev.resVal, Ev.resOf, Ev.kill, Ev.leave, Ev.settle, Ev.keep, Ev.varsLo, Ev.marksLo, Ev.storeLo, Ev.lo_v, Ev.lo_fsl, Ev.los_nil, Ev.los_cons, Ev.frz_lo, List.length_map, ↓Ev.obind, ↓Ev.itL_itB, ↓reduceIte, List.length_cons, List.length_nil, List.take_nil, Nat.reduceAdd, Nat.reduceEqDiff, reduceCtorEq, Bool.and_self, and_self, Nat.zero_add, eq_self]
  · rw [z2 x k7]
    simp only [c_ref03_CompareKeys, k1, k4, k5, ints_lo, Ev.runFunc, Ev.exec, Ev.evOpers, Ev.evOper, Ev.item_op, Ev.evOp, Ev.Opnd.ev, Ev.Env.get, Ev.Env.set, Ev.look, Ev.argVars, Ev.resVals, Ev.resVal, Ev.resOf, Ev.kill, Ev.leave, Ev.settle, Ev.keep, Ev.varsLo, Ev.marksLo, Ev.storeLo, Ev.lo_v, Ev.lo_fsl, Ev.frz_lo, ↓Ev.obind, ↓Ev.itL_itB, ↓reduceIte, List.length_cons, List.length_nil, List.take_nil, Nat.reduceAdd, Nat.reduceEqDiff, reduceCtorEq, Bool.and_self, and_self, Nat.zero_add, eq_self]
theorem SameKey_ev (h1 : a.length ≤ 9223372036854775807) (h2 : b.length ≤ 9223372036854775807) : callZ (evL T) n_ref03_SameKey [(.fsl ((a).map intC) c), (.fsl ((b).map intC) d)] = some (.v (.bool (decide (a = b)))) := by
  have hk := CompareKeys_ev a b c d h1 h2
  have hz := keysZ_zero a b
  rw [callZ, evL_code ext_ref03_SameKey code_ref03_SameKey]
  by_cases h : a = b
  · have h3 := hz.2 h
    rw [h3] at hk
    simp only [h, decide_true]
    simp only [h] at hk
    simp only [c_ref03_SameKey, hk, ints_lo, Ev.runFunc, Ev.exec, Ev.evOpers, Ev.evOper, Ev.item_op, Ev.item_P, Ev.evOp, Ev.evs, Ev.Opnd.ev, Ev.Env.get, Ev.Env.set, Ev.look, Ev.argVars, Ev.bin_eql, Ev.resVals, Ev.resVal, Ev.resOf, Ev.kill, Ev.leave, Ev.storeLo, Ev.lo_v, Ev.lo_fsl, Ev.los_nil, Ev.los_cons, Ev.frz_lo, ↓Ev.obind, ↓reduceIte, List.length_cons, List.length_nil, List.take_nil, Nat.reduceAdd, Nat.reduceEqDiff, reduceCtorEq, decide_true, Bool.and_self, and_self, Nat.zero_add, eq_self]
  · have h3 : ¬ keysZ a b = 0 := fun k => h (hz.1 k)
    simp only [h, decide_false]
    simp only [c_ref03_SameKey, hk, h3, ints_lo, Ev.runFunc, Ev.exec, Ev.evOpers, Ev.evOper, Ev.item_op, Ev.item_P, Ev.evOp, Ev.evs, Ev.Opnd.ev, Ev.Env.get, Ev.Env.set, Ev.look, Ev.argVars, Ev.bin_eql, Ev.resVals, Ev.resVal, Ev.resOf, Ev.kill, Ev.leave, Ev.storeLo, Ev.lo_v, Ev.lo_fsl, Ev.los_nil, Ev.los_cons, Ev.frz_lo, ↓Ev.obind, ↓reduceIte, List.length_cons, List.length_nil, List.take_nil, Nat.reduceAdd, Nat.reduceEqDiff, reduceCtorEq, decide_false, Bool.and_self, and_self, Nat.zero_add, eq_self]
end
structure Evt.Short (x : Evt) : Prop where
  key : x.key.length ≤ 9223372036854775807
theorem SameEvent_ev (x y : Evt) (hx : x.key.length ≤ 9223372036854775807) (hy : y.key.length ≤ 9223372036854775807) : callZ (evL T) n_ref03_SameEvent [(.agg [(.v (.int .i64 (x.time))), (.fsl ((x.key).map intC) false), (.v (.int .i64 (x.lp))), (.v (.int .i64 (x.kind))), (.v (.int .i64 (x.proc))), (.v (.int .i64 (x.arg)))]), (.agg [(.v (.int .i64 (y.time))), (.fsl ((y.key).map intC) false), (.v (.int .i64 (y.lp))), (.v (.int .i64 (y.kind))), (.v (.int .i64 (y.proc))), (.v (.int .i64 (y.arg)))])] = some (.v (.bool (decide (x = y)))) := by
  obtain ⟨xt, xk, xl, xi, xp, xa⟩ := x
  obtain ⟨yt, yk, yl, yi, yp, ya⟩ := y
  have hk := SameKey_ev xk yk false false hx hy
  simp only [Evt.mk.injEq]
  rw [callZ, evL_code ext_ref03_SameEvent code_ref03_SameEvent]
  by_cases h1 : xt = yt
  case neg => simp only [c_ref03_SameEvent, h1, false_and, decide_false, Ev.runFunc, Ev.exec, Ev.evOpers, Ev.evOper, Ev.item_op, Ev.evOp, Ev.Opnd.ev, Ev.Env.get, Ev.Env.set, Ev.Env.unset, Ev.look, Ev.argVars, Ev.cellsAt, Ev.loadC, Ev.AV.cells, Ev.plains, Ev.AV.plain, Ev.bin_eql, Ev.resVals, Ev.resVal, Ev.resOf, Ev.kill, Ev.leave, Ev.storeLo, Ev.lo_v, Ev.frz_lo, ↓Ev.obind, ↓reduceIte, List.length_cons, List.length_nil, List.take_nil, List.drop_zero, List.head?_cons, Nat.reduceAdd, Nat.reduceEqDiff, reduceCtorEq, decide_false, Bool.and_self, Bool.false_eq_true, and_self, ne_eq, not_false_eq_true, List.cons_ne_nil, Nat.zero_add, eq_self, false_and]
  by_cases h2 : xk = yk
  case neg =>
    simp only [h2, decide_false] at hk
    simp only [c_ref03_SameEvent, h1, h2, hk, ints_lo, false_and, and_false, decide_false, Ev.runFunc, Ev.exec, Ev.evOpers, Ev.evOper, Ev.item_op, Ev.item_P, Ev.evOp, Ev.evs, Ev.Opnd.ev, Ev.Env.get, Ev.Env.set, Ev.Env.unset, Ev.look, Ev.argVars, Ev.cellsAt, Ev.loadC, Ev.AV.cells, Ev.plains, Ev.AV.plain, Ev.bin_eql, Ev.resVals, Ev.resVal, Ev.resOf, Ev.kill, Ev.leave, Ev.storeLo, Ev.lo_v, Ev.lo_fsl, Ev.los_nil, Ev.los_cons, Ev.frz_lo, ↓Ev.obind, ↓reduceIte, List.length_cons, List.length_nil, List.take_nil, List.drop_succ_cons, List.drop_zero, List.head?_cons, Nat.reduceAdd, Nat.reduceEqDiff, reduceCtorEq, decide_true, decide_false, Bool.and_self, Bool.false_eq_true, and_self, ne_eq, not_false_eq_true, List.cons_ne_nil, Nat.zero_add, eq_self, false_and, and_false]
  simp only [h2, decide_true] at hk
  by_cases h3 : xl = yl
  case neg => simp only [c_ref03_SameEvent, h1, h2, h3, hk, ints_lo, false_and, and_false, decide_false, Ev.runFunc, Ev.exec, Ev.evOpers, Ev.evOper, Ev.item_op, Ev.item_P, Ev.evOp, Ev.evs, Ev.Opnd.ev, Ev.Env.get, Ev.Env.set, Ev.Env.unset, Ev.look, Ev.argVars, Ev.cellsAt, Ev.loadC, Ev.AV.cells, Ev.plains, Ev.AV.plain, Ev.bin_eql, Ev.resVals, Ev.resVal, Ev.resOf, Ev.kill, Ev.leave, Ev.storeLo, Ev.lo_v, Ev.lo_fsl, Ev.los_nil, Ev.los_cons, Ev.frz_lo, ↓Ev.obind, ↓reduceIte, List.length_cons, List.length_nil, List.take_nil, List.drop_succ_cons, List.drop_zero, List.head?_cons, Nat.reduceAdd, Nat.reduceEqDiff, reduceCtorEq, decide_true, decide_false, Bool.and_self, Bool.false_eq_true, and_self, ne_eq, not_false_eq_true, List.cons_ne_nil, Nat.zero_add, eq_self, false_and, and_false]
  by_cases h4 : xi = yi
  case neg => simp only [c_ref03_SameEvent, h1, h2, h3, h4, hk, ints_lo, false_and, and_false, decide_false, Ev.runFunc, Ev.exec, Ev.evOpers, Ev.evOper, Ev.item_op, Ev.item_P, Ev.evOp, Ev.evs, Ev.Opnd.ev, Ev.Env.get, Ev.Env.set, Ev.Env.unset, Ev.look, Ev.argVars, Ev.cellsAt, Ev.loadC, Ev.AV.cells, Ev.plains, Ev.AV.plain, Ev.bin_eql, Ev.resVals, Ev.resVal, Ev.resOf, Ev.kill, Ev.leave, Ev.storeLo, Ev.lo_v, Ev.lo_fsl, Ev.los_nil, Ev.los_cons, Ev.frz_lo, ↓Ev.obind, ↓reduceIte, List.length_cons, List.length_nil, List.take_nil, List.drop_succ_cons, List.drop_zero, List.head?_cons, Nat.reduceAdd, Nat.reduceEqDiff, reduceCtorEq, decide_true, decide_false, Bool.and_self, Bool.false_eq_true, and_self, ne_eq, not_false_eq_true, List.cons_ne_nil, Nat.zero_add, eq_self, false_and, and_false]
  by_cases h5 : xp = yp
  case neg => simp only [c_ref03_SameEvent, h1, h2, h3, h4, h5, hk, ints_lo, false_and, and_false, decide_false, Ev.runFunc, Ev.exec, Ev.evOpers, Ev.evOper, Ev.item_op, Ev.item_P, Ev.evOp, Ev.evs, Ev.Opnd.ev, Ev.Env.get, Ev.Env.set, Ev.Env.unset, Ev.look, Ev.argVars, Ev.cellsAt, Ev.loadC, Ev.AV.cells, Ev.plains, Ev.AV.plain, Ev.bin_eql, Ev.resVals, Ev.resVal, Ev.resOf, Ev.kill, Ev.leave, Ev.storeLo, Ev.lo_v, Ev.lo_fsl, Ev.los_nil, Ev.los_cons, Ev.frz_lo, ↓Ev.obind, ↓reduceIte, List.length_cons, List.length_nil, List.take_nil, List.drop_succ_cons, List.drop_zero, List.head?_cons, Nat.reduceAdd, Nat.reduceEqDiff, reduceCtorEq, decide_true, decide_false, Bool.and_self, Bool.false_eq_true, and_self, ne_eq, not_false_eq_true, List.cons_ne_nil, Nat.zero_add, eq_self, false_and, and_false]
  by_cases h6 : xa = ya
  case neg => simp only [c_ref03_SameEvent, h1, h2, h3, h4, h5, h6, hk, ints_lo, and_false, decide_false, Ev.runFunc, Ev.exec, Ev.evOpers, Ev.evOper, Ev.item_op, Ev.item_P, Ev.evOp, Ev.evs, Ev.Opnd.ev, Ev.Env.get, Ev.Env.set, Ev.look, Ev.argVars, Ev.cellsAt, Ev.loadC, Ev.AV.cells, Ev.plains, Ev.AV.plain, Ev.bin_eql, Ev.resVals, Ev.resVal, Ev.resOf, Ev.kill, Ev.leave, Ev.storeLo, Ev.lo_v, Ev.lo_fsl, Ev.los_nil, Ev.los_cons, Ev.frz_lo, ↓Ev.obind, ↓reduceIte, List.length_cons, List.length_nil, List.take_nil, List.drop_succ_cons, List.drop_zero, List.head?_cons, Nat.reduceAdd, Nat.reduceEqDiff, reduceCtorEq, decide_true, decide_false, Bool.and_self, Bool.false_eq_true, and_self, ne_eq, not_false_eq_true, List.cons_ne_nil, Nat.zero_add, eq_self, and_false]
  simp only [c_ref03_SameEvent, h1, h2, h3, h4, h5, h6, hk, ints_lo, and_self, decide_true, Ev.runFunc, Ev.exec, Ev.evOpers, Ev.evOper, Ev.item_op, Ev.item_P, Ev.evOp, Ev.evs, Ev.Opnd.ev, Ev.Env.get, Ev.Env.set, Ev.look, Ev.argVars, Ev.cellsAt, Ev.loadC, Ev.AV.cells, Ev.plains, Ev.AV.plain, Ev.bin_eql, Ev.resVals, Ev.resVal, Ev.resOf, Ev.kill, Ev.leave, Ev.storeLo, Ev.lo_v, Ev.lo_fsl, Ev.los_nil, Ev.los_cons, Ev.frz_lo, ↓Ev.obind, ↓reduceIte, List.length_cons, List.length_nil, List.take_nil, List.drop_succ_cons, List.drop_zero, List.head?_cons, Nat.reduceAdd, Nat.reduceEqDiff, reduceCtorEq, decide_true, Bool.and_self, Bool.false_eq_true, and_self, ne_eq, not_false_eq_true, List.cons_ne_nil, Nat.zero_add, eq_self]
theorem zip_all_eq' {α : Type} [DecidableEq α] : ∀ {a b : List α}, a.length = b.length → ((a.zip b).all (fun z => decide (z.1 = z.2)) = true ↔ a = b)
  | [], [], _ => by simp
  | x :: a, y :: b, h => by
    rw [List.zip_cons_cons, List.all_cons, Bool.and_eq_true, decide_eq_true_eq, zip_all_eq' (a := a) (b := b) (by simpa using h), List.cons.injEq]
  | [], _ :: _, h => by simp at h
  | _ :: _, [], h => by simp at h
section
variable (a b : List Evt) (c d : Bool)
theorem SameEvents_ev (h1 : a.length ≤ 9223372036854775807) (h2 : b.length ≤ 9223372036854775807) (ha : ∀ x ∈ a, x.key.length ≤ 9223372036854775807) (hb : ∀ x ∈ b, x.key.length ≤ 9223372036854775807) :
    callZ (evL T) n_ref03_SameEvents [(.fsl ((a).map Evt.r) c), (.fsl ((b).map Evt.r) d)] = some (.v (.bool (decide (a = b)))) := by
  rw [callZ, evL_code ext_ref03_SameEvents code_ref03_SameEvents]
  by_cases hab : a.length = b.length
  case neg =>
    have hab' : ¬ (a.length : Int) = (b.length : Int) := by omega
    have : ¬ a = b := fun h => hab (by rw [h])
    simp only [c_ref03_SameEvents, hab', this, Ev.runFunc, Ev.exec, Ev.evOpers, Ev.evOper, Ev.item_op, Ev.evOp, Ev.Opnd.ev, Ev.Env.get, Ev.Env.set, Ev.look, Ev.argVars, Ev.bin_neq, Ev.resVals, Ev.resVal, Ev.resOf, Ev.kill, Ev.leave, Ev.storeLo, Ev.lo_v, Ev.frz_lo, List.length_map, ↓Ev.obind, ↓reduceIte, List.length_cons, List.length_nil, List.take_nil, Nat.reduceAdd, Nat.reduceEqDiff, reduceCtorEq, decide_true, decide_false, and_self, ne_eq, not_false_eq_true, Nat.zero_add, eq_self]
  have hab' : (a.length : Int) = (b.length : Int) := by omega
  have hzl : (a.zip b).length = a.length := by rw [List.length_zip, ← hab, Nat.min_self]
  have hL : ∃ y, itB (exec (evL T) itL none c_ref03_SameEvents_L1) (Ev.settle [0, 1, 5] true 0) ⟨[(0, (.fsl ((a).map Evt.r) c)), (1, (.fsl ((b).map Evt.r) d)), (5, (.v (.int .i64 (0))))], []⟩ [] = some y ∧ ((a.zip b).all (fun z => decide (z.1 = z.2)) = true ∧ (y.1 = .exit 0 ∧ y.2.1.marks = [] ∧ y.2.2 = []) ∨
      (a.zip b).all (fun z => decide (z.1 = z.2)) = false ∧ ∃ x, (a.zip b).find? (fun z => !decide (z.1 = z.2)) = some x ∧ (y.1 = .ret ∧ y.2.1.marks = [] ∧ y.2.2 = [] ∧ Ev.look y.2.1.vars 4 = some (.v (.bool (false))))) := by
    refine itB_find (a.zip b) (fun i => ⟨[(0, (.fsl ((a).map Evt.r) c)), (1, (.fsl ((b).map Evt.r) d)), (5, (.v (.int .i64 (i))))], []⟩) [] (fun z => decide (z.1 = z.2)) _ (fun _ y => _) ?_ ?_ ?_
    · intro i x hi hx hp
      rw [hzl] at hi
      have hi' : (i : Int) < (a.length : Int) := by omega
      have hw : IntKind.i64.wrap ((i : Int) + 1) = ((i + 1 : Nat) : Int) := by rw [w64_small (by omega) (by omega)]; simp
      obtain ⟨hxa, hxb⟩ := List.getElem?_zip_eq_some.1 hx
      have hv := SameEvent_ev x.1 x.2 (ha _ (List.mem_of_getElem? hxa)) (hb _ (List.mem_of_getElem? hxb))
      rw [hp] at hv
      simp only [c_ref03_SameEvents_L1, Int.natCast_nonneg, Int.toNat_natCast, List.getElem?_map, Option.map_some, hxa, hxb, hi', hw, hv, evts_lo, ints_lo, Evt.r, Ev.exec, Ev.evOpers, Ev.evOper, Ev.item_op, Ev.item_P, Ev.evOp, Ev.evs, Ev.Opnd.ev, Ev.Env.get, Ev.Env.set, Ev.look, Ev.cellsAt, Ev.loadC, Ev.bin_add, Ev.bin_lss, Ev.settle, Ev.keep, Ev.varsLo, Ev.marksLo, Ev.storeLo, Ev.lo_v, Ev.lo_agg, Ev.lo_fsl, Ev.los_nil, Ev.los_cons, List.length_map, ↓Ev.obind, Ev.it1, ↓reduceIte, List.length_cons, List.length_nil, List.take_succ_cons, List.take_nil, Nat.reduceAdd, Nat.reduceEqDiff, reduceCtorEq, decide_true, Bool.and_self, Bool.not_true, Bool.false_eq_true, and_self, Nat.zero_add, Nat.le_refl, eq_self]
    · intro i x hi hx hp
      rw [hzl] at hi
      have hi' : (i : Int) < (a.length : Int) := by omega
      obtain ⟨hxa, hxb⟩ := List.getElem?_zip_eq_some.1 hx
      have hv := SameEvent_ev x.1 x.2 (ha _ (List.mem_of_getElem? hxa)) (hb _ (List.mem_of_getElem? hxb))
      rw [hp] at hv
      simp only [c_ref03_SameEvents_L1, Int.natCast_nonneg, Int.toNat_natCast, List.getElem?_map, Option.map_some, hxa, hxb, hi', hv, ints_lo, Evt.r, Ev.exec, Ev.evOpers, Ev.evOper, Ev.item_op, Ev.item_P, Ev.evOp, Ev.evs, Ev.Opnd.ev, Ev.Env.get, Ev.Env.set, Ev.look, Ev.cellsAt, Ev.loadC, Ev.bin_lss, Ev.lo_v, Ev.lo_agg, Ev.lo_fsl, Ev.los_nil, Ev.los_cons, List.length_map, ↓Ev.obind, Ev.it1, ↓reduceIte, List.length_cons, List.length_nil, List.take_succ_cons, List.take_nil, Nat.reduceAdd, Nat.reduceEqDiff, reduceCtorEq, decide_true, Bool.and_self, Bool.not_false, Nat.zero_add, Nat.le_refl, eq_self]
      exact ⟨_, rfl, rfl, rfl, rfl, rfl⟩
    · rw [hzl]
      simp only [c_ref03_SameEvents_L1, Int.lt_irrefl, Ev.exec, Ev.evOpers, Ev.evOper, Ev.item_op, Ev.evOp, Ev.Opnd.ev, Ev.Env.get, Ev.Env.set, Ev.look, Ev.bin_lss, List.length_map, ↓Ev.obind, Ev.it1, ↓reduceIte, Nat.reduceEqDiff, reduceCtorEq, decide_false, Bool.false_eq_true, eq_self]
      exact ⟨_, rfl, rfl, rfl, rfl⟩
  obtain ⟨⟨y, e, σ⟩, k1, k2⟩ := hL
  simp only at k2
  rcases k2 with ⟨k3, rfl, k4, rfl⟩ | ⟨k3, x, _, rfl, k4, rfl, k5⟩
  · have : a = b := (zip_all_eq' hab).1 k3
    subst this
    simp only [c_ref03_SameEvents, k1, k4, evts_lo, Ev.runFunc, Ev.exec, Ev.evOpers, Ev.evOper, Ev.item_op, Ev.evOp, Ev.Opnd.ev, Ev.Env.get, Ev.Env.set, Ev.look, Ev.argVars, Ev.bin_neq, Ev.resVals, Ev.resVal, Ev.resOf, Ev.kill, Ev.leave, Ev.settle, Ev.keep, Ev.varsLo, Ev.marksLo, Ev.storeLo, Ev.lo_v, Ev.lo_fsl, Ev.frz_lo, List.length_map, ↓Ev.obind, ↓Ev.itL_itB, ↓reduceIte, List.length_cons, List.length_nil, List.take_nil, Nat.reduceAdd, Nat.reduceEqDiff, reduceCtorEq, decide_true, decide_false, Bool.and_self, Bool.false_eq_true, and_self, ne_eq, not_true_eq_false, Nat.zero_add, eq_self]
  · have : ¬ a = b := fun h => by rw [(zip_all_eq' hab).2 h] at k3; cases k3
    simp only [this]
    simp only [c_ref03_SameEvents, hab', k1, k4, k5, evts_lo, Ev.runFunc, Ev.exec, Ev.evOpers, Ev.evOper, Ev.item_op, Ev.evOp, Ev.Opnd.ev, Ev.Env.get, Ev.Env.set, Ev.look, Ev.argVars, Ev.bin_neq, Ev.resVals, Ev.resVal, Ev.resOf, Ev.kill, Ev.leave, Ev.settle, Ev.keep, Ev.varsLo, Ev.marksLo, Ev.storeLo, Ev.lo_v, Ev.lo_fsl, Ev.frz_lo, List.length_map, ↓Ev.obind, ↓Ev.itL_itB, ↓reduceIte, List.length_cons, List.length_nil, List.take_nil, Nat.reduceAdd, Nat.reduceEqDiff, reduceCtorEq, decide_false, Bool.and_self, Bool.false_eq_true, and_self, ne_eq, not_true_eq_false, Nat.zero_add, eq_self]
end
end Go.Proofs.Ythkjkdbjgpeigaa.K
namespace Go.Proofs.Ythkjkdbjgpeigaa.K
open Go.Ev
set_option linter.unusedSimpArgs false
set_option linter.unusedVariables false
set_option maxRecDepth 10000
structure Lp.Short (x : Lp) : Prop where
  len : x.procs.length ≤ 9223372036854775807
  timer : ∀ q ∈ x.procs, q.timer.length ≤ 9223372036854775807
section
variable (a b : Lp) (cf df : Bool)
end
def lpF (x : Lp × Bool) : List AV := [(.v (.int .i64 (x.1.r0))), (.v (.int .i64 (x.1.r1))), (.fsl ((x.1.procs).map Pr.r) x.2), (.v (.int .i64 (x.1.sum)))]
theorem lpF_lo (n : Nat) (x : Lp × Bool) : los n (lpF x) = true := by simp only [lpF, procs_lo, Ev.lo_v, Ev.lo_fsl, Ev.los_nil, Ev.los_cons, Bool.and_self, eq_self]
theorem lpFs_lo (n : Nat) (l : List (Lp × Bool)) : loss n (l.map lpF) = true := loss_map (lpF_lo n) l
section
variable (a b : List (Lp × Bool)) (c d : Bool)
end
end Go.Proofs.Ythkjkdbjgpeigaa.K
namespace Go.Proofs.Ythkjkdbjgpeigaa.K
open Go.Ev
set_option linter.unusedSimpArgs false
set_option linter.unusedVariables false
set_option maxRecDepth 10000
section
variable (a b : Lp)
end
end Go.Proofs.Ythkjkdbjgpeigaa.K
namespace Go.Proofs.Ythkjkdbjgpeigaa.K
open Go.Ev
set_option linter.unusedSimpArgs false
set_option linter.unusedVariables false
set_option maxRecDepth 10000
section
variable (x : Ex)
end
end Go.Proofs.Ythkjkdbjgpeigaa.K
namespace Go.Proofs.Ythkjkdbjgpeigaa.K
open Go.Ev
set_option linter.unusedSimpArgs false
set_option linter.unusedVariables false
set_option maxRecDepth 10000
def Pr.inc (q : Pr) : Pr := { q with pc := w64 (q.pc + 1) }
section
variable (x : Ex) (i : Nat) (op : OpI) (q : Pr)
end
end Go.Proofs.Ythkjkdbjgpeigaa.K
namespace Go.Proofs.Ythkjkdbjgpeigaa.K
open Go.Ev
set_option linter.unusedSimpArgs false
set_option linter.unusedVariables false
set_option maxRecDepth 10000
def stepR (x : Ex) (i : Nat) (q : Pr) (op : OpI) : Ex × Bool :=
  if (stepE (x.setP i q.inc) i q.inc op).2 = 1 then ((stepE (x.setP i q.inc) i q.inc op).1, true)
  else if (stepE (x.setP i q.inc) i q.inc op).2 = 2 then (killE (stepE (x.setP i q.inc) i q.inc op).1 i, true)
  else ((stepE (x.setP i q.inc) i q.inc op).1, false)
theorem actE_succ (p : List OpI) (i n : Nat) (x : Ex) (q : Pr) (hq : x.procs[i]? = some q) : actE p i (n + 1) x = match p[q.pc.toNat]? with
    | none => killE x i
    | some op => if (stepR x i q op).2 = true then (stepR x i q op).1 else actE p i n (stepR x i q op).1 := by
  simp only [actE, hq]
  cases hp : p[q.pc.toNat]? with
  | none => rfl
  | some op =>
    show (if (stepE (x.setP i q.inc) i q.inc op).2 = 1 then (stepE (x.setP i q.inc) i q.inc op).1 else if (stepE (x.setP i q.inc) i q.inc op).2 = 2 then killE (stepE (x.setP i q.inc) i q.inc op).1 i else actE p i n (stepE (x.setP i q.inc) i q.inc op).1) = (if (stepR x i q op).2 = true then (stepR x i q op).1 else actE p i n (stepR x i q op).1)
    unfold stepR
    by_cases h1 : (stepE (x.setP i q.inc) i q.inc op).2 = 1
    · simp only [h1, if_true]
    by_cases h2 : (stepE (x.setP i q.inc) i q.inc op).2 = 2
    · rw [if_neg h1, if_pos h2, if_neg h1, if_pos h2]; rfl
    · simp only [h1, h2, if_false, Bool.false_eq_true]
end Go.Proofs.Ythkjkdbjgpeigaa.K
namespace Go.Proofs.Ythkjkdbjgpeigaa.K
open Go.Ev
set_option linter.unusedSimpArgs false
set_option linter.unusedVariables false
set_option maxRecDepth 10000
theorem ActInv.stepR {e : Evt} {i n : Nat} {x : Ex} (h : ActInv e i n x) {q : Pr} (hq : x.procs[i]? = some q) (hpc : 0 ≤ q.pc ∧ q.pc + 1 ≤ 1000000) {op : OpI} (ho : OpOk' op) : ActInv e i (n + 1) (stepR x i q op).1 := by
  have hlt := (List.getElem?_eq_some_iff.1 hq).1
  have hwq : w64 (q.pc + 1) = q.pc + 1 := w64_small (by omega) (by omega)
  have hz : ActInv e i n (x.setP i q.inc) := by
    have := h.pc hq (pc := q.pc + 1) ⟨by omega, by omega⟩ q.alive
    unfold Pr.inc; rw [hwq]; exact this
  have hzq : (x.setP i q.inc).procs[i]? = some q.inc := by simp only [Ex.setP]; rw [List.getElem?_set_self hlt]
  have hn := hz.step hzq (show 0 ≤ q.inc.pc ∧ q.inc.pc ≤ 1000000 by unfold Pr.inc; simp only [hwq]; omega) ho
  unfold K.stepR
  split
  · exact hn
  split
  · obtain ⟨q', h1, h2⟩ := hn.has
    have := hn.pc h1 h2 false
    unfold killE; rw [h1]; exact this
  · exact hn
section
variable (c : Cfg) (e0 : Evt) (i : Nat) (p : List OpI) (pr : Int)
end
end Go.Proofs.Ythkjkdbjgpeigaa.K
namespace Go.Proofs.Ythkjkdbjgpeigaa.K
open Go.Ev
set_option linter.unusedSimpArgs false
set_option linter.unusedVariables false
set_option maxRecDepth 10000
section
variable (c : Cfg) (x : Lp) (e : Evt)
end
end Go.Proofs.Ythkjkdbjgpeigaa.K
namespace Go.Proofs.Ythkjkdbjgpeigaa.K
open Go.Ev
set_option linter.unusedSimpArgs false
set_option linter.unusedVariables false
set_option maxRecDepth 10000
def firstZ {τ : Type} (f : τ → Int) (l : List τ) : Int := match l.find? (fun x => !decide (f x = 0)) with
  | some x => f x
  | none => 0
theorem firstZ_all {τ : Type} {f : τ → Int} {l : List τ} (h : l.all (fun x => decide (f x = 0)) = true) : firstZ f l = 0 := by
  unfold firstZ
  have : l.find? (fun x => !decide (f x = 0)) = none := by
    rw [List.find?_eq_none]; intro x hx; rw [List.all_eq_true] at h; simp [of_decide_eq_true (h x hx)]
  rw [this]
theorem firstZ_some {τ : Type} {f : τ → Int} {l : List τ} {x : τ} (h : l.find? (fun x => !decide (f x = 0)) = some x) : firstZ f l = f x := by unfold firstZ; rw [h]
theorem firstZ_zero {τ : Type} {f : τ → Int} {l : List τ} : firstZ f l = 0 ↔ ∀ x ∈ l, f x = 0 := by
  cases h : l.find? (fun x => !decide (f x = 0)) with
  | none =>
    rw [List.find?_eq_none] at h
    have h1 : ∀ x ∈ l, f x = 0 := fun x hx => by simpa using h x hx
    exact ⟨fun _ => h1, fun _ => firstZ_all (by rw [List.all_eq_true]; intro x hx; simp [h1 x hx])⟩
  | some x =>
    have h1 := List.find?_some h
    have h2 := List.mem_of_find?_eq_some h
    rw [firstZ_some h]
    exact ⟨fun k => by simp [k] at h1, fun k => k x h2⟩
section
variable (c : Cfg)
def len8 (l : List Start) : Bool := !decide ((l.length : Int) > 8)
def rsizesB (c : Cfg) : Bool := decide (1 ≤ c.lps.length ∧ c.lps.length ≤ 8 ∧ c.progs.length ≤ 8) && (c.lps.all len8 && decide (1 ≤ c.cap ∧ c.cap ≤ 64 ∧ 0 ≤ c.fin ∧ c.fin ≤ 1152921504606846976))
theorem ref19_sizes_ev : callZ (evL T) n_ref19_sizes [(.agg [(.fsl ((c.lps).map lpC) false), (.fsl ((c.progs).map progC) false), (.v (.int .i64 (c.look))), (.v (.int .i64 (c.fin))), (.v (.int .i64 (c.cap)))])] = some (.v (.bool (rsizesB c))) := by
  unfold rsizesB
  rw [callZ, evL_code ext_ref19_sizes code_ref19_sizes]
  by_cases h1 : (c.lps.length : Int) < 1
  · have : ¬ (1 ≤ c.lps.length ∧ c.lps.length ≤ 8 ∧ c.progs.length ≤ 8) := by omega
    simp only [c_ref19_sizes, h1, this, decide_false, Bool.false_and, Ev.runFunc, Ev.exec, Ev.evOpers, Ev.evOper, Ev.item_op, Ev.evOp, Ev.Opnd.ev, Ev.Env.get, Ev.Env.set, Ev.Env.unset, Ev.look, Ev.argVars, Ev.cellsAt, Ev.loadC, Ev.AV.cells, Ev.plains, Ev.AV.plain, Ev.bin_lss, Ev.resVals, Ev.resVal, Ev.resOf, Ev.kill, Ev.leave, Ev.storeLo, Ev.lo_v, Ev.frz_lo, List.length_map, ↓Ev.obind, ↓reduceIte, List.length_cons, List.length_nil, List.take_nil, List.drop_zero, List.head?_cons, Nat.reduceEqDiff, decide_true, decide_false, Bool.and_self, Bool.false_eq_true, Bool.true_eq_false, and_self, ne_eq, not_false_eq_true, List.cons_ne_nil, Nat.zero_add, eq_self, Bool.false_and]
  by_cases h2 : (c.lps.length : Int) > 8
  · have : ¬ (1 ≤ c.lps.length ∧ c.lps.length ≤ 8 ∧ c.progs.length ≤ 8) := by omega
    simp only [c_ref19_sizes, h1, h2, this, decide_false, Bool.false_and, Ev.runFunc, Ev.exec, Ev.evOpers, Ev.evOper, Ev.item_op, Ev.evOp, Ev.Opnd.ev, Ev.Env.get, Ev.Env.set, Ev.Env.unset, Ev.look, Ev.argVars, Ev.cellsAt, Ev.loadC, Ev.AV.cells, Ev.plains, Ev.AV.plain, Ev.bin_lss, Ev.bin_gtr, Ev.resVals, Ev.resVal, Ev.resOf, Ev.kill, Ev.leave, Ev.storeLo, Ev.lo_v, Ev.frz_lo, List.length_map, ↓Ev.obind, ↓reduceIte, List.length_cons, List.length_nil, List.take_nil, List.drop_zero, List.head?_cons, Nat.reduceEqDiff, decide_true, decide_false, Bool.and_self, Bool.false_eq_true, Bool.true_eq_false, and_self, ne_eq, not_false_eq_true, List.cons_ne_nil, Nat.zero_add, eq_self, Bool.false_and]
  by_cases h3 : (c.progs.length : Int) > 8
  · have : ¬ (1 ≤ c.lps.length ∧ c.lps.length ≤ 8 ∧ c.progs.length ≤ 8) := by omega
    simp only [c_ref19_sizes, h1, h2, h3, this, decide_false, Bool.false_and, Ev.runFunc, Ev.exec, Ev.evOpers, Ev.evOper, Ev.item_op, Ev.evOp, Ev.Opnd.ev, Ev.Env.get, Ev.Env.set, Ev.look, Ev.argVars, Ev.cellsAt, Ev.loadC, Ev.AV.cells, Ev.plains, Ev.AV.plain, Ev.bin_lss, Ev.bin_gtr, Ev.resVals, Ev.resVal, Ev.resOf, Ev.kill, Ev.leave, Ev.storeLo, Ev.lo_v, Ev.frz_lo, List.length_map, ↓Ev.obind, ↓reduceIte, List.length_cons, List.length_nil, List.take_nil, List.drop_succ_cons, List.drop_zero, List.head?_cons, Nat.reduceEqDiff, decide_true, decide_false, Bool.and_self, Bool.false_eq_true, and_self, ne_eq, not_false_eq_true, List.cons_ne_nil, Nat.zero_add, eq_self, Bool.false_and]
  have h4 : (1 ≤ c.lps.length ∧ c.lps.length ≤ 8 ∧ c.progs.length ≤ 8) := by omega
  have hL : ∃ y, itB (exec (evL T) itL none c_ref19_sizes_L1) (Ev.settle [1, 3] true 0) ⟨[(1, (.fptr [(.fsl ((c.lps).map lpC) false), (.fsl ((c.progs).map progC) false), (.v (.int .i64 (c.look))), (.v (.int .i64 (c.fin))), (.v (.int .i64 (c.cap)))])), (3, (.v (.int .i64 (0))))], []⟩ [] = some y ∧ (c.lps.all len8 = true ∧ (y.1 = .exit 0 ∧ y.2.1.marks = [] ∧ y.2.2 = [] ∧ Ev.look y.2.1.vars 1 = some (.fptr [(.fsl ((c.lps).map lpC) false), (.fsl ((c.progs).map progC) false), (.v (.int .i64 (c.look))), (.v (.int .i64 (c.fin))), (.v (.int .i64 (c.cap)))])) ∨
      c.lps.all len8 = false ∧ ∃ x, c.lps.find? (fun x => !len8 x) = some x ∧ (y.1 = .ret ∧ y.2.1.marks = [] ∧ y.2.2 = [] ∧ Ev.look y.2.1.vars 2 = some (.v (.bool (false))))) := by
    refine itB_find c.lps (fun i => ⟨[(1, (.fptr [(.fsl ((c.lps).map lpC) false), (.fsl ((c.progs).map progC) false), (.v (.int .i64 (c.look))), (.v (.int .i64 (c.fin))), (.v (.int .i64 (c.cap)))])), (3, (.v (.int .i64 (i))))], []⟩) [] len8 _ (fun _ y => _) ?_ ?_ ?_
    · intro i x hi hx hp
      have hi' : (i : Int) < (c.lps.length : Int) := by omega
      have hw : IntKind.i64.wrap ((i : Int) + 1) = ((i + 1 : Nat) : Int) := by rw [w64_small (by omega) (by omega)]; simp
      have h1 : ¬ (x.length : Int) > 8 := by simpa [len8] using hp
      simp only [c_ref19_sizes_L1, Int.natCast_nonneg, Int.toNat_natCast, List.getElem?_map, Option.map_some, hx, hi', hw, h1, lps_lo, progs_lo, lpC, Ev.exec, Ev.evOpers, Ev.evOper, Ev.item_op, Ev.evOp, Ev.Opnd.ev, Ev.Env.get, Ev.Env.set, Ev.look, Ev.cellsAt, Ev.loadC, Ev.bin_add, Ev.bin_lss, Ev.bin_gtr, Ev.settle, Ev.keep, Ev.varsLo, Ev.marksLo, Ev.storeLo, Ev.lo_v, Ev.lo_fsl, Ev.lo_fptr, Ev.los_nil, Ev.los_cons, List.length_map, ↓Ev.obind, Ev.it1, ↓reduceIte, List.length_cons, List.length_nil, List.take_nil, List.drop_zero, List.head?_cons, Nat.reduceEqDiff, decide_true, decide_false, Bool.and_self, Bool.false_eq_true, and_self, Nat.zero_add, eq_self]
    · intro i x hi hx hp
      have hi' : (i : Int) < (c.lps.length : Int) := by omega
      have h1 : (x.length : Int) > 8 := by simpa [len8] using hp
      simp only [c_ref19_sizes_L1, Int.natCast_nonneg, Int.toNat_natCast, List.getElem?_map, Option.map_some, hx, hi', h1, lpC, Ev.exec, Ev.evOpers, Ev.evOper, Ev.item_op, Ev.evOp, Ev.Opnd.ev, Ev.Env.get, Ev.Env.set, Ev.look, Ev.cellsAt, Ev.loadC, Ev.bin_lss, Ev.bin_gtr, List.length_map, ↓Ev.obind, Ev.it1, ↓reduceIte, List.length_cons, List.length_nil, List.drop_zero, List.head?_cons, Nat.reduceEqDiff, decide_true, Bool.false_eq_true, Nat.zero_add, eq_self]
      exact ⟨_, rfl, rfl, rfl, rfl, rfl⟩
    · simp only [c_ref19_sizes_L1, Int.lt_irrefl, Ev.exec, Ev.evOpers, Ev.evOper, Ev.item_op, Ev.evOp, Ev.Opnd.ev, Ev.Env.get, Ev.Env.set, Ev.look, Ev.cellsAt, Ev.loadC, Ev.bin_lss, List.length_map, ↓Ev.obind, Ev.it1, ↓reduceIte, List.drop_zero, List.head?_cons, Nat.reduceEqDiff, decide_false, Bool.false_eq_true, eq_self]
      exact ⟨_, rfl, rfl, rfl, rfl, rfl⟩
  obtain ⟨⟨y, e, σ⟩, k1, k2⟩ := hL
  simp only at k2
  rcases k2 with ⟨k3, rfl, k4, rfl, k5⟩ | ⟨k3, x, _, rfl, k4, rfl, k5⟩
  · by_cases g1 : c.cap ≥ 1
    case neg =>
      have : ¬ (1 ≤ c.cap ∧ c.cap ≤ 64 ∧ 0 ≤ c.fin ∧ c.fin ≤ 1152921504606846976) := by omega
      simp only [c_ref19_sizes, h1, h2, h3, h4, k1, k3, k4, k5, g1, lps_lo, progs_lo, decide_false, Bool.and_false, Ev.runFunc, Ev.exec, Ev.evOpers, Ev.evOper, Ev.item_op, Ev.evOp, Ev.Opnd.ev, Ev.Env.get, Ev.Env.set, Ev.Env.unset, Ev.look, Ev.argVars, Ev.cellsAt, Ev.loadC, Ev.AV.cells, Ev.plains, Ev.AV.plain, Ev.bin_lss, Ev.bin_gtr, Ev.bin_geq, Ev.resVals, Ev.resVal, Ev.resOf, Ev.kill, Ev.leave, Ev.settle, Ev.keep, Ev.varsLo, Ev.marksLo, Ev.storeLo, Ev.lo_v, Ev.lo_fsl, Ev.lo_fptr, Ev.los_nil, Ev.los_cons, Ev.frz_lo, List.length_map, ↓Ev.obind, ↓Ev.itL_itB, ↓reduceIte, List.length_cons, List.length_nil, List.take_nil, List.drop_succ_cons, List.drop_zero, List.head?_cons, Nat.reduceEqDiff, decide_true, decide_false, Bool.and_self, Bool.false_eq_true, and_self, ne_eq, not_false_eq_true, List.cons_ne_nil, Nat.zero_add, eq_self, Bool.and_false, false_and]
    by_cases g2 : c.cap ≤ 64
    case neg =>
      have : ¬ (1 ≤ c.cap ∧ c.cap ≤ 64 ∧ 0 ≤ c.fin ∧ c.fin ≤ 1152921504606846976) := by omega
      simp only [c_ref19_sizes, h1, h2, h3, h4, k1, k3, k4, k5, g1, g2, lps_lo, progs_lo, decide_false, Bool.and_false, Ev.runFunc, Ev.exec, Ev.evOpers, Ev.evOper, Ev.item_op, Ev.evOp, Ev.Opnd.ev, Ev.Env.get, Ev.Env.set, Ev.Env.unset, Ev.look, Ev.argVars, Ev.cellsAt, Ev.loadC, Ev.AV.cells, Ev.plains, Ev.AV.plain, Ev.bin_lss, Ev.bin_leq, Ev.bin_gtr, Ev.bin_geq, Ev.resVals, Ev.resVal, Ev.resOf, Ev.kill, Ev.leave, Ev.settle, Ev.keep, Ev.varsLo, Ev.marksLo, Ev.storeLo, Ev.lo_v, Ev.lo_fsl, Ev.lo_fptr, Ev.los_nil, Ev.los_cons, Ev.frz_lo, List.length_map, ↓Ev.obind, ↓Ev.itL_itB, ↓reduceIte, List.length_cons, List.length_nil, List.take_nil, List.drop_succ_cons, List.drop_zero, List.head?_cons, Nat.reduceEqDiff, decide_true, decide_false, Bool.and_self, Bool.false_eq_true, and_self, ne_eq, not_false_eq_true, List.cons_ne_nil, Nat.zero_add, eq_self, Bool.and_false, false_and, and_false]
    by_cases g3 : c.fin ≥ 0
    case neg =>
      have : ¬ (1 ≤ c.cap ∧ c.cap ≤ 64 ∧ 0 ≤ c.fin ∧ c.fin ≤ 1152921504606846976) := by omega
      simp only [c_ref19_sizes, h1, h2, h3, h4, k1, k3, k4, k5, g1, g2, g3, lps_lo, progs_lo, decide_false, Bool.and_false, Ev.runFunc, Ev.exec, Ev.evOpers, Ev.evOper, Ev.item_op, Ev.evOp, Ev.Opnd.ev, Ev.Env.get, Ev.Env.set, Ev.Env.unset, Ev.look, Ev.argVars, Ev.cellsAt, Ev.loadC, Ev.AV.cells, Ev.plains, Ev.AV.plain, Ev.bin_lss, Ev.bin_leq, Ev.bin_gtr, Ev.bin_geq, Ev.resVals, Ev.resVal, Ev.resOf, Ev.kill, Ev.leave, Ev.settle, Ev.keep, Ev.varsLo, Ev.marksLo, Ev.storeLo, Ev.lo_v, Ev.lo_fsl, Ev.lo_fptr, Ev.los_nil, Ev.los_cons, Ev.frz_lo, List.length_map, ↓Ev.obind, ↓Ev.itL_itB, ↓reduceIte, List.length_cons, List.length_nil, List.take_nil, List.drop_succ_cons, List.drop_zero, List.head?_cons, Nat.reduceEqDiff, decide_true, decide_false, Bool.and_self, Bool.false_eq_true, and_self, ne_eq, not_false_eq_true, List.cons_ne_nil, Nat.zero_add, eq_self, Bool.and_false, false_and, and_false]
    by_cases g4 : c.fin ≤ 1152921504606846976
    case neg =>
      have : ¬ (1 ≤ c.cap ∧ c.cap ≤ 64 ∧ 0 ≤ c.fin ∧ c.fin ≤ 1152921504606846976) := by omega
      simp only [c_ref19_sizes, h1, h2, h3, h4, k1, k3, k4, k5, g1, g2, g3, g4, lps_lo, progs_lo, decide_false, Bool.and_false, Ev.runFunc, Ev.exec, Ev.evOpers, Ev.evOper, Ev.item_op, Ev.evOp, Ev.Opnd.ev, Ev.Env.get, Ev.Env.set, Ev.look, Ev.argVars, Ev.cellsAt, Ev.loadC, Ev.AV.cells, Ev.plains, Ev.AV.plain, Ev.bin_lss, Ev.bin_leq, Ev.bin_gtr, Ev.bin_geq, Ev.resVals, Ev.resVal, Ev.resOf, Ev.kill, Ev.leave, Ev.settle, Ev.keep, Ev.varsLo, Ev.marksLo, Ev.storeLo, Ev.lo_v, Ev.lo_fsl, Ev.lo_fptr, Ev.los_nil, Ev.los_cons, Ev.frz_lo, List.length_map, ↓Ev.obind, ↓Ev.itL_itB, ↓reduceIte, List.length_cons, List.length_nil, List.take_nil, List.drop_succ_cons, List.drop_zero, List.head?_cons, Nat.reduceEqDiff, decide_true, decide_false, Bool.and_self, Bool.false_eq_true, and_self, ne_eq, not_false_eq_true, List.cons_ne_nil, Nat.zero_add, eq_self, Bool.and_false, and_false]
    have : (1 ≤ c.cap ∧ c.cap ≤ 64 ∧ 0 ≤ c.fin ∧ c.fin ≤ 1152921504606846976) := by omega
    simp only [c_ref19_sizes, h1, h2, h3, h4, k1, k3, k4, k5, g1, g2, g3, g4, lps_lo, progs_lo, and_self, decide_true, Ev.runFunc, Ev.exec, Ev.evOpers, Ev.evOper, Ev.item_op, Ev.evOp, Ev.Opnd.ev, Ev.Env.get, Ev.Env.set, Ev.look, Ev.argVars, Ev.cellsAt, Ev.loadC, Ev.AV.cells, Ev.plains, Ev.AV.plain, Ev.bin_lss, Ev.bin_leq, Ev.bin_gtr, Ev.bin_geq, Ev.resVals, Ev.resVal, Ev.resOf, Ev.kill, Ev.leave, Ev.settle, Ev.keep, Ev.varsLo, Ev.marksLo, Ev.storeLo, Ev.lo_v, Ev.lo_fsl, Ev.lo_fptr, Ev.los_nil, Ev.los_cons, Ev.frz_lo, List.length_map, ↓Ev.obind, ↓Ev.itL_itB, ↓reduceIte, List.length_cons, List.length_nil, List.take_nil, List.drop_succ_cons, List.drop_zero, List.head?_cons, Nat.reduceEqDiff, decide_true, decide_false, Bool.and_self, Bool.false_eq_true, and_self, ne_eq, not_false_eq_true, List.cons_ne_nil, Nat.zero_add, eq_self]
  · simp only [c_ref19_sizes, h1, h2, h3, h4, k1, k3, k4, k5, lps_lo, progs_lo, decide_true, Bool.and_false, Bool.false_and, Ev.runFunc, Ev.exec, Ev.evOpers, Ev.evOper, Ev.item_op, Ev.evOp, Ev.Opnd.ev, Ev.Env.get, Ev.Env.set, Ev.look, Ev.argVars, Ev.cellsAt, Ev.loadC, Ev.AV.cells, Ev.plains, Ev.AV.plain, Ev.bin_lss, Ev.bin_gtr, Ev.resVals, Ev.resVal, Ev.resOf, Ev.kill, Ev.leave, Ev.settle, Ev.keep, Ev.varsLo, Ev.marksLo, Ev.storeLo, Ev.lo_v, Ev.lo_fsl, Ev.lo_fptr, Ev.los_nil, Ev.los_cons, Ev.frz_lo, List.length_map, ↓Ev.obind, ↓Ev.itL_itB, ↓reduceIte, List.length_cons, List.length_nil, List.take_nil, List.drop_succ_cons, List.drop_zero, List.head?_cons, Nat.reduceEqDiff, decide_true, decide_false, Bool.and_self, Bool.false_eq_true, and_self, ne_eq, not_false_eq_true, List.cons_ne_nil, Nat.zero_add, eq_self, Bool.false_and, Bool.and_false]
def rprogZ (c : Cfg) (p : List OpI) : Int := checkZ p c.progs.length c.lps.length c.look
def rstartZ (c : Cfg) (s : Start) : Int := if s.prog < 0 ∨ s.prog ≥ c.progs.length then 22 else if s.time < 0 ∨ s.time > 1152921504606846976 then 11 else 0
def rlpZ (c : Cfg) (l : List Start) : Int := firstZ (rstartZ c) l
def rcfgZ (c : Cfg) : Int := if rsizesB c = false then 1 else if c.look < 1 then 20 else if firstZ (rprogZ c) c.progs ≠ 0 then firstZ (rprogZ c) c.progs else firstZ (rlpZ c) c.lps
theorem rcheck_l1 (hl : c.progs.length ≤ 8) :
    ∃ y, itB (exec (evL T) itL none c_ref19_Check_L1) (Ev.settle [1, 3] true 0) ⟨[(1, (.fptr [(.fsl ((c.lps).map lpC) false), (.fsl ((c.progs).map progC) false), (.v (.int .i64 (c.look))), (.v (.int .i64 (c.fin))), (.v (.int .i64 (c.cap)))])), (3, (.v (.int .i64 (0))))], []⟩ [] = some y ∧ (c.progs.all (fun p => decide (rprogZ c p = 0)) = true ∧ (y.1 = .exit 0 ∧ y.2.1.marks = [] ∧ y.2.2 = [] ∧ Ev.look y.2.1.vars 1 = some (.fptr [(.fsl ((c.lps).map lpC) false), (.fsl ((c.progs).map progC) false), (.v (.int .i64 (c.look))), (.v (.int .i64 (c.fin))), (.v (.int .i64 (c.cap)))])) ∨
      c.progs.all (fun p => decide (rprogZ c p = 0)) = false ∧ ∃ x, c.progs.find? (fun p => !decide (rprogZ c p = 0)) = some x ∧ (y.1 = .ret ∧ y.2.1.marks = [] ∧ y.2.2 = [] ∧ Ev.look y.2.1.vars 2 = some (.v (.int .i64 (rprogZ c x))))) := by
  refine itB_find c.progs (fun i => ⟨[(1, (.fptr [(.fsl ((c.lps).map lpC) false), (.fsl ((c.progs).map progC) false), (.v (.int .i64 (c.look))), (.v (.int .i64 (c.fin))), (.v (.int .i64 (c.cap)))])), (3, (.v (.int .i64 (i))))], []⟩) [] (fun p => decide (rprogZ c p = 0)) _ (fun x y => _) ?_ ?_ ?_
  · intro i x hi hx hp
    have hi' : (i : Int) < (c.progs.length : Int) := by omega
    have hw : IntKind.i64.wrap ((i : Int) + 1) = ((i + 1 : Nat) : Int) := by rw [w64_small (by omega) (by omega)]; simp
    have hv := ref18_Check_ev x false c.progs.length c.lps.length c.look
    rw [show checkZ x c.progs.length c.lps.length c.look = 0 from of_decide_eq_true hp] at hv
    simp only [c_ref19_Check_L1, Int.natCast_nonneg, Int.toNat_natCast, List.getElem?_map, Option.map_some, hx, hi', hw, hv, lps_lo, progs_lo, prog_lo, progC, Ev.exec, Ev.evOpers, Ev.evOper, Ev.item_op, Ev.item_P, Ev.evOp, Ev.evs, Ev.Opnd.ev, Ev.Env.get, Ev.Env.set, Ev.look, Ev.cellsAt, Ev.loadC, Ev.bin_add, Ev.bin_neq, Ev.bin_lss, Ev.settle, Ev.keep, Ev.varsLo, Ev.marksLo, Ev.storeLo, Ev.lo_v, Ev.lo_fsl, Ev.lo_fptr, Ev.los_nil, Ev.los_cons, List.length_map, ↓Ev.obind, Ev.it1, ↓reduceIte, List.length_cons, List.length_nil, List.take_nil, List.drop_succ_cons, List.drop_zero, List.head?_cons, Nat.reduceEqDiff, decide_true, decide_false, Bool.and_self, Bool.false_eq_true, and_self, ne_eq, not_true_eq_false, Nat.zero_add, eq_self]
  · intro i x hi hx hp
    have hi' : (i : Int) < (c.progs.length : Int) := by omega
    have hv := ref18_Check_ev x false c.progs.length c.lps.length c.look
    have hz : ¬ checkZ x c.progs.length c.lps.length c.look = 0 := of_decide_eq_false hp
    simp only [c_ref19_Check_L1, Int.natCast_nonneg, Int.toNat_natCast, List.getElem?_map, Option.map_some, hx, hi', hv, hz, prog_lo, progC, Ev.exec, Ev.evOpers, Ev.evOper, Ev.item_op, Ev.item_P, Ev.evOp, Ev.evs, Ev.Opnd.ev, Ev.Env.get, Ev.Env.set, Ev.look, Ev.cellsAt, Ev.loadC, Ev.bin_neq, Ev.bin_lss, Ev.lo_v, Ev.lo_fsl, Ev.los_nil, Ev.los_cons, List.length_map, ↓Ev.obind, Ev.it1, ↓reduceIte, List.length_cons, List.length_nil, List.drop_succ_cons, List.drop_zero, List.head?_cons, Nat.reduceEqDiff, decide_true, Bool.and_self, Bool.false_eq_true, ne_eq, not_false_eq_true, Nat.zero_add, eq_self]
    exact ⟨_, rfl, rfl, rfl, rfl, rfl⟩
  · simp only [c_ref19_Check_L1, Int.lt_irrefl, Ev.exec, Ev.evOpers, Ev.evOper, Ev.item_op, Ev.evOp, Ev.Opnd.ev, Ev.Env.get, Ev.Env.set, Ev.look, Ev.cellsAt, Ev.loadC, Ev.bin_lss, List.length_map, ↓Ev.obind, Ev.it1, ↓reduceIte, List.drop_succ_cons, List.drop_zero, List.head?_cons, Nat.reduceEqDiff, decide_false, Bool.false_eq_true, eq_self]
    exact ⟨_, rfl, rfl, rfl, rfl, rfl⟩
theorem rcheck_l3 (i : Nat) (l : List Start) (hx : c.lps[i]? = some l) (hl : l.length ≤ 8) :
    ∃ y, itB (exec (evL T) itL none c_ref19_Check_L3) (Ev.settle [1, 5, 6] true 0) ⟨[(1, (.fptr [(.fsl ((c.lps).map lpC) false), (.fsl ((c.progs).map progC) false), (.v (.int .i64 (c.look))), (.v (.int .i64 (c.fin))), (.v (.int .i64 (c.cap)))])), (5, (.v (.int .i64 (i)))), (6, (.v (.int .i64 (0))))], []⟩ [] = some y ∧ (l.all (fun s => decide (rstartZ c s = 0)) = true ∧ (y.1 = .exit 4 ∧ y.2.1.marks = [] ∧ y.2.2 = [] ∧ Ev.look y.2.1.vars 1 = some (.fptr [(.fsl ((c.lps).map lpC) false), (.fsl ((c.progs).map progC) false), (.v (.int .i64 (c.look))), (.v (.int .i64 (c.fin))), (.v (.int .i64 (c.cap)))]) ∧ Ev.look y.2.1.vars 5 = some (.v (.int .i64 (i)))) ∨
      l.all (fun s => decide (rstartZ c s = 0)) = false ∧ ∃ x, l.find? (fun s => !decide (rstartZ c s = 0)) = some x ∧ (y.1 = .ret ∧ y.2.1.marks = [] ∧ y.2.2 = [.row 2 [x.r] 0] ∧ Ev.look y.2.1.vars 2 = some (.v (.int .i64 (rstartZ c x))))) := by
  refine itB_find l (fun k => ⟨[(1, (.fptr [(.fsl ((c.lps).map lpC) false), (.fsl ((c.progs).map progC) false), (.v (.int .i64 (c.look))), (.v (.int .i64 (c.fin))), (.v (.int .i64 (c.cap)))])), (5, (.v (.int .i64 (i)))), (6, (.v (.int .i64 (k))))], []⟩) [] (fun s => decide (rstartZ c s = 0)) _ (fun x y => _) ?_ ?_ ?_
  · intro k s hk hs hp
    have hk' : (k : Int) < (l.length : Int) := by omega
    have hw : IntKind.i64.wrap ((k : Int) + 1) = ((k + 1 : Nat) : Int) := by rw [w64_small (by omega) (by omega)]; simp
    have hz : rstartZ c s = 0 := of_decide_eq_true hp
    unfold rstartZ at hz
    by_cases g1 : s.prog < 0
    · rw [if_pos (.inl g1)] at hz; cases hz
    by_cases g2 : s.prog ≥ (c.progs.length : Int)
    · rw [if_pos (.inr g2)] at hz; cases hz
    by_cases g3 : s.time < 0
    · rw [if_neg (by omega), if_pos (.inl g3)] at hz; cases hz
    by_cases g4 : s.time > 1152921504606846976
    · rw [if_neg (by omega), if_pos (.inr g4)] at hz; cases hz
    simp only [c_ref19_Check_L3, Int.natCast_nonneg, Int.toNat_natCast, List.getElem?_map, Option.map_some, hx, hs, hk', hw, g1, g2, g3, g4, lps_lo, progs_lo, lpC, Start.r, Ev.exec, Ev.evOpers, Ev.evOper, Ev.item_op, Ev.evOp, Ev.Opnd.ev, Ev.Env.get, Ev.Env.set, Ev.look, Ev.cellsAt, Ev.loadC, Ev.AV.cells, Ev.plains, Ev.AV.plain, Ev.bin_add, Ev.bin_lss, Ev.bin_gtr, Ev.bin_geq, Ev.settle, Ev.keep, Ev.varsLo, Ev.marksLo, Ev.storeLo, Ev.lo_v, Ev.lo_fsl, Ev.lo_fptr, Ev.los_nil, Ev.los_cons, List.length_map, ↓Ev.obind, Ev.it1, ↓reduceIte, List.length_cons, List.length_nil, List.getElem?_cons_zero, List.take_succ_cons, List.take_zero, List.take_nil, List.drop_succ_cons, List.drop_zero, List.drop_nil, List.nil_append, List.append_nil, List.set_cons_zero, List.head?_cons, Nat.reduceAdd, Nat.reduceEqDiff, decide_true, decide_false, Bool.and_self, Bool.false_eq_true, and_self, ne_eq, not_false_eq_true, List.cons_ne_nil, Nat.zero_add, Nat.add_zero, Nat.le_refl, eq_self]
  · intro k s hk hs hp
    have hk' : (k : Int) < (l.length : Int) := by omega
    have hz : ¬ rstartZ c s = 0 := of_decide_eq_false hp
    unfold rstartZ at hz ⊢
    by_cases g1 : s.prog < 0
    · rw [if_pos (.inl g1)]
      simp only [c_ref19_Check_L3, Int.natCast_nonneg, Int.toNat_natCast, List.getElem?_map, Option.map_some, hx, hs, hk', g1, lpC, Start.r, Ev.exec, Ev.evOpers, Ev.evOper, Ev.item_op, Ev.evOp, Ev.Opnd.ev, Ev.Env.get, Ev.Env.set, Ev.Env.unset, Ev.look, Ev.cellsAt, Ev.loadC, Ev.AV.cells, Ev.plains, Ev.AV.plain, Ev.bin_lss, List.length_map, ↓Ev.obind, Ev.it1, ↓reduceIte, List.length_cons, List.length_nil, List.getElem?_cons_zero, List.take_succ_cons, List.take_zero, List.take_nil, List.drop_succ_cons, List.drop_zero, List.drop_nil, List.nil_append, List.append_nil, List.set_cons_zero, List.head?_cons, Nat.reduceAdd, Nat.reduceEqDiff, decide_true, Bool.and_self, Bool.false_eq_true, Bool.true_eq_false, and_self, ne_eq, not_false_eq_true, List.cons_ne_nil, Nat.zero_add, Nat.add_zero, Nat.le_refl, eq_self]
      exact ⟨_, rfl, rfl, rfl, rfl, rfl⟩
    by_cases g2 : s.prog ≥ (c.progs.length : Int)
    · rw [if_pos (.inr g2)]
      simp only [c_ref19_Check_L3, Int.natCast_nonneg, Int.toNat_natCast, List.getElem?_map, Option.map_some, hx, hs, hk', g1, g2, lpC, Start.r, Ev.exec, Ev.evOpers, Ev.evOper, Ev.item_op, Ev.evOp, Ev.Opnd.ev, Ev.Env.get, Ev.Env.set, Ev.look, Ev.cellsAt, Ev.loadC, Ev.AV.cells, Ev.plains, Ev.AV.plain, Ev.bin_lss, Ev.bin_geq, List.length_map, ↓Ev.obind, Ev.it1, ↓reduceIte, List.length_cons, List.length_nil, List.getElem?_cons_zero, List.take_succ_cons, List.take_zero, List.take_nil, List.drop_succ_cons, List.drop_zero, List.drop_nil, List.nil_append, List.append_nil, List.set_cons_zero, List.head?_cons, Nat.reduceAdd, Nat.reduceEqDiff, decide_true, decide_false, Bool.and_self, Bool.false_eq_true, and_self, ne_eq, not_false_eq_true, List.cons_ne_nil, Nat.zero_add, Nat.add_zero, Nat.le_refl, eq_self]
      exact ⟨_, rfl, rfl, rfl, rfl, rfl⟩
    rw [if_neg (by omega)] at hz ⊢
    by_cases g3 : s.time < 0
    · rw [if_pos (.inl g3)]
      simp only [c_ref19_Check_L3, Int.natCast_nonneg, Int.toNat_natCast, List.getElem?_map, Option.map_some, hx, hs, hk', g1, g2, g3, lpC, Start.r, Ev.exec, Ev.evOpers, Ev.evOper, Ev.item_op, Ev.evOp, Ev.Opnd.ev, Ev.Env.get, Ev.Env.set, Ev.Env.unset, Ev.look, Ev.cellsAt, Ev.loadC, Ev.AV.cells, Ev.plains, Ev.AV.plain, Ev.bin_lss, Ev.bin_geq, List.length_map, ↓Ev.obind, Ev.it1, ↓reduceIte, List.length_cons, List.length_nil, List.getElem?_cons_zero, List.take_succ_cons, List.take_zero, List.take_nil, List.drop_succ_cons, List.drop_zero, List.drop_nil, List.nil_append, List.append_nil, List.set_cons_zero, List.head?_cons, Nat.reduceAdd, Nat.reduceEqDiff, decide_true, decide_false, Bool.and_self, Bool.false_eq_true, Bool.true_eq_false, and_self, ne_eq, not_false_eq_true, List.cons_ne_nil, Nat.zero_add, Nat.add_zero, Nat.le_refl, eq_self]
      exact ⟨_, rfl, rfl, rfl, rfl, rfl⟩
    by_cases g4 : s.time > 1152921504606846976
    · rw [if_pos (.inr g4)]
      simp only [c_ref19_Check_L3, Int.natCast_nonneg, Int.toNat_natCast, List.getElem?_map, Option.map_some, hx, hs, hk', g1, g2, g3, g4, lpC, Start.r, Ev.exec, Ev.evOpers, Ev.evOper, Ev.item_op, Ev.evOp, Ev.Opnd.ev, Ev.Env.get, Ev.Env.set, Ev.look, Ev.cellsAt, Ev.loadC, Ev.AV.cells, Ev.plains, Ev.AV.plain, Ev.bin_lss, Ev.bin_gtr, Ev.bin_geq, List.length_map, ↓Ev.obind, Ev.it1, ↓reduceIte, List.length_cons, List.length_nil, List.getElem?_cons_zero, List.take_succ_cons, List.take_zero, List.take_nil, List.drop_succ_cons, List.drop_zero, List.drop_nil, List.nil_append, List.append_nil, List.set_cons_zero, List.head?_cons, Nat.reduceAdd, Nat.reduceEqDiff, decide_true, decide_false, Bool.and_self, Bool.false_eq_true, and_self, ne_eq, not_false_eq_true, List.cons_ne_nil, Nat.zero_add, Nat.add_zero, Nat.le_refl, eq_self]
      exact ⟨_, rfl, rfl, rfl, rfl, rfl⟩
    · exact absurd (by rw [if_neg (by omega)]) hz
  · simp only [c_ref19_Check_L3, Int.natCast_nonneg, Int.toNat_natCast, List.getElem?_map, Option.map_some, hx, Int.lt_irrefl, lpC, Ev.exec, Ev.evOpers, Ev.evOper, Ev.item_op, Ev.evOp, Ev.Opnd.ev, Ev.Env.get, Ev.Env.set, Ev.look, Ev.cellsAt, Ev.loadC, Ev.bin_lss, List.length_map, ↓Ev.obind, Ev.it1, ↓reduceIte, List.length_cons, List.length_nil, List.drop_zero, List.head?_cons, Nat.reduceEqDiff, decide_false, Bool.false_eq_true, Nat.zero_add, eq_self]
    exact ⟨_, rfl, rfl, rfl, rfl, rfl, rfl⟩
theorem rcheck_l2 (hl : c.lps.length ≤ 8) (hll : ∀ l ∈ c.lps, l.length ≤ 8) :
    ∃ y, itB (exec (evL T) itL none c_ref19_Check_L2) (Ev.settle [1, 5] true 0) ⟨[(1, (.fptr [(.fsl ((c.lps).map lpC) false), (.fsl ((c.progs).map progC) false), (.v (.int .i64 (c.look))), (.v (.int .i64 (c.fin))), (.v (.int .i64 (c.cap)))])), (5, (.v (.int .i64 (0))))], []⟩ [] = some y ∧ (c.lps.all (fun l => decide (rlpZ c l = 0)) = true ∧ (y.1 = .exit 2 ∧ y.2.1.marks = [] ∧ y.2.2 = []) ∨
      c.lps.all (fun l => decide (rlpZ c l = 0)) = false ∧ ∃ x, c.lps.find? (fun l => !decide (rlpZ c l = 0)) = some x ∧ (y.1 = .ret ∧ y.2.1.marks = [] ∧ (∃ s : Start, y.2.2 = [.row 2 [s.r] 0]) ∧ Ev.look y.2.1.vars 2 = some (.v (.int .i64 (rlpZ c x))))) := by
  refine itB_find c.lps (fun i => ⟨[(1, (.fptr [(.fsl ((c.lps).map lpC) false), (.fsl ((c.progs).map progC) false), (.v (.int .i64 (c.look))), (.v (.int .i64 (c.fin))), (.v (.int .i64 (c.cap)))])), (5, (.v (.int .i64 (i))))], []⟩) [] (fun l => decide (rlpZ c l = 0)) _ (fun x y => _) ?_ ?_ ?_
  · intro i l hi hx hp
    have hi' : (i : Int) < (c.lps.length : Int) := by omega
    have hw : IntKind.i64.wrap ((i : Int) + 1) = ((i + 1 : Nat) : Int) := by rw [w64_small (by omega) (by omega)]; simp
    have hz : rlpZ c l = 0 := of_decide_eq_true hp
    obtain ⟨⟨y, e, σ⟩, k1, k2⟩ := rcheck_l3 c i l hx (hll l (List.mem_of_getElem? hx))
    simp only at k2
    rcases k2 with ⟨k3, rfl, k4, rfl, k5, k6⟩ | ⟨k3, x, k7, rfl, k4, rfl, k5⟩
    · simp only [c_ref19_Check_L2, hi', hw, k1, k4, k5, k6, lps_lo, progs_lo, Ev.exec, Ev.evOpers, Ev.evOper, Ev.item_op, Ev.evOp, Ev.Opnd.ev, Ev.Env.get, Ev.Env.set, Ev.look, Ev.cellsAt, Ev.loadC, Ev.bin_add, Ev.bin_lss, Ev.settle, Ev.keep, Ev.varsLo, Ev.marksLo, Ev.storeLo, Ev.lo_v, Ev.lo_fsl, Ev.lo_fptr, Ev.los_nil, Ev.los_cons, List.length_map, ↓Ev.obind, ↓Ev.itL_itB, Ev.it1, ↓reduceIte, List.length_nil, List.take_nil, List.drop_zero, List.head?_cons, Nat.reduceEqDiff, decide_true, Bool.and_self, Bool.false_eq_true, and_self, eq_self]
    · have h1 := List.find?_some k7
      have h2 : rstartZ c x = 0 := by rw [← firstZ_some k7]; exact hz
      simp [h2] at h1
  · intro i l hi hx hp
    have hi' : (i : Int) < (c.lps.length : Int) := by omega
    have hz : ¬ rlpZ c l = 0 := of_decide_eq_false hp
    obtain ⟨⟨y, e, σ⟩, k1, k2⟩ := rcheck_l3 c i l hx (hll l (List.mem_of_getElem? hx))
    simp only at k2
    rcases k2 with ⟨k3, rfl, k4, rfl, k5, k6⟩ | ⟨k3, x, k7, rfl, k4, rfl, k5⟩
    · exact absurd (firstZ_all k3) hz
    · rw [show rlpZ c l = rstartZ c x from firstZ_some k7]
      simp only [c_ref19_Check_L2, hi', k1, lps_lo, progs_lo, Ev.exec, Ev.evOpers, Ev.evOper, Ev.item_op, Ev.evOp, Ev.Opnd.ev, Ev.Env.get, Ev.Env.set, Ev.look, Ev.cellsAt, Ev.loadC, Ev.bin_lss, Ev.settle, Ev.keep, Ev.varsLo, Ev.marksLo, Ev.storeLo, Ev.lo_v, Ev.lo_fsl, Ev.lo_fptr, Ev.los_nil, Ev.los_cons, List.length_map, ↓Ev.obind, ↓Ev.itL_itB, Ev.it1, ↓reduceIte, List.length_nil, List.take_nil, List.drop_zero, List.head?_cons, Nat.reduceEqDiff, decide_true, Bool.and_self, Bool.false_eq_true, and_self, eq_self]
      exact ⟨_, rfl, rfl, k4, ⟨x, rfl⟩, k5⟩
  · simp only [c_ref19_Check_L2, Int.lt_irrefl, Ev.exec, Ev.evOpers, Ev.evOper, Ev.item_op, Ev.evOp, Ev.Opnd.ev, Ev.Env.get, Ev.Env.set, Ev.look, Ev.cellsAt, Ev.loadC, Ev.bin_lss, List.length_map, ↓Ev.obind, Ev.it1, ↓reduceIte, List.drop_zero, List.head?_cons, Nat.reduceEqDiff, decide_false, Bool.false_eq_true, eq_self]
    exact ⟨_, rfl, rfl, rfl, rfl⟩
theorem ref19_Check_ev : callZ (evL T) n_ref19_Check [(.agg [(.fsl ((c.lps).map lpC) false), (.fsl ((c.progs).map progC) false), (.v (.int .i64 (c.look))), (.v (.int .i64 (c.fin))), (.v (.int .i64 (c.cap)))])] = some (.v (.int .i64 (rcfgZ c))) := by
  have hs := ref19_sizes_ev c
  unfold rcfgZ
  rw [callZ, evL_code ext_ref19_Check code_ref19_Check]
  cases h1 : rsizesB c with
  | false =>
    rw [h1] at hs
    simp only [c_ref19_Check, hs, lps_lo, progs_lo, Ev.runFunc, Ev.exec, Ev.evOpers, Ev.evOper, Ev.item_op, Ev.item_P, Ev.evOp, Ev.evs, Ev.Opnd.ev, Ev.Env.get, Ev.Env.set, Ev.look, Ev.argVars, Ev.cellsAt, Ev.loadC, Ev.AV.cells, Ev.plains, Ev.AV.plain, Ev.resVals, Ev.resVal, Ev.resOf, Ev.kill, Ev.leave, Ev.storeLo, Ev.lo_v, Ev.lo_agg, Ev.lo_fsl, Ev.los_nil, Ev.los_cons, Ev.frz_lo, ↓Ev.obind, ↓reduceIte, List.length_cons, List.length_nil, List.take_succ_cons, List.take_nil, Nat.reduceAdd, Nat.reduceEqDiff, Bool.and_self, Bool.not_false, and_self, ne_eq, not_false_eq_true, List.cons_ne_nil, Nat.zero_add, Nat.le_refl, eq_self]
  | true =>
    rw [h1] at hs
    have h2 := h1
    simp only [rsizesB, Bool.and_eq_true, decide_eq_true_eq, List.all_eq_true] at h2
    obtain ⟨⟨s1, s2, s3⟩, s4, s5⟩ := h2
    have s6 : ∀ l ∈ c.lps, l.length ≤ 8 := fun l hl => by have := s4 l hl; simp [len8] at this; omega
    simp only [Bool.true_eq_false, if_false]
    by_cases hk : c.look < 1
    · simp only [c_ref19_Check, hs, hk, lps_lo, progs_lo, Ev.runFunc, Ev.exec, Ev.evOpers, Ev.evOper, Ev.item_op, Ev.item_P, Ev.evOp, Ev.evs, Ev.Opnd.ev, Ev.Env.get, Ev.Env.set, Ev.look, Ev.argVars, Ev.cellsAt, Ev.loadC, Ev.AV.cells, Ev.plains, Ev.AV.plain, Ev.bin_lss, Ev.resVals, Ev.resVal, Ev.resOf, Ev.kill, Ev.leave, Ev.storeLo, Ev.lo_v, Ev.lo_agg, Ev.lo_fsl, Ev.los_nil, Ev.los_cons, Ev.frz_lo, ↓Ev.obind, ↓reduceIte, List.length_cons, List.length_nil, List.take_succ_cons, List.take_nil, List.drop_succ_cons, List.drop_zero, List.head?_cons, Nat.reduceAdd, Nat.reduceEqDiff, decide_true, Bool.and_self, Bool.not_true, Bool.false_eq_true, and_self, ne_eq, not_false_eq_true, List.cons_ne_nil, Nat.zero_add, Nat.le_refl, eq_self]
    rw [if_neg hk]
    obtain ⟨⟨y, e, σ⟩, k1, k2⟩ := rcheck_l1 c s3
    obtain ⟨⟨y', e', σ'⟩, m1, m2⟩ := rcheck_l2 c s2 s6
    simp only at k2 m2
    rcases k2 with ⟨k3, rfl, k4, rfl, k5⟩ | ⟨k3, x, k7, rfl, k4, rfl, k5⟩
    · rw [firstZ_all k3, if_neg (by simp)]
      rcases m2 with ⟨m3, rfl, m4, rfl⟩ | ⟨m3, x, m7, rfl, m4, ⟨s, rfl⟩, m5⟩
      · rw [firstZ_all m3]
        simp only [c_ref19_Check, hs, hk, k1, k4, k5, m1, m4, lps_lo, progs_lo, Ev.runFunc, Ev.exec, Ev.evOpers, Ev.evOper, Ev.item_op, Ev.item_P, Ev.evOp, Ev.evs, Ev.Opnd.ev, Ev.Env.get, Ev.Env.set, Ev.look, Ev.argVars, Ev.cellsAt, Ev.loadC, Ev.AV.cells, Ev.plains, Ev.AV.plain, Ev.bin_lss, Ev.resVals, Ev.resVal, Ev.resOf, Ev.kill, Ev.leave, Ev.settle, Ev.keep, Ev.varsLo, Ev.marksLo, Ev.storeLo, Ev.lo_v, Ev.lo_agg, Ev.lo_fsl, Ev.lo_fptr, Ev.los_nil, Ev.los_cons, Ev.frz_lo, ↓Ev.obind, ↓Ev.itL_itB, ↓reduceIte, List.length_cons, List.length_nil, List.take_succ_cons, List.take_nil, List.drop_succ_cons, List.drop_zero, List.head?_cons, Nat.reduceAdd, Nat.reduceEqDiff, decide_false, Bool.and_self, Bool.not_true, Bool.false_eq_true, and_self, ne_eq, not_false_eq_true, List.cons_ne_nil, Nat.zero_add, Nat.le_refl, eq_self]
      · rw [firstZ_some m7]
        simp only [c_ref19_Check, hs, hk, k1, k4, k5, m1, m4, m5, lps_lo, progs_lo, Ev.runFunc, Ev.exec, Ev.evOpers, Ev.evOper, Ev.item_op, Ev.item_P, Ev.evOp, Ev.evs, Ev.Opnd.ev, Ev.Env.get, Ev.Env.set, Ev.look, Ev.argVars, Ev.cellsAt, Ev.loadC, Ev.AV.cells, Ev.plains, Ev.AV.plain, Ev.bin_lss, Ev.resVals, Ev.resVal, Ev.resOf, Ev.kill, Ev.leave, Ev.settle, Ev.keep, Ev.varsLo, Ev.marksLo, Ev.storeLo, Ev.lo_v, Ev.lo_agg, Ev.lo_fsl, Ev.lo_fptr, Ev.los_nil, Ev.los_cons, Ev.frz_lo, ↓Ev.obind, ↓Ev.itL_itB, ↓reduceIte, List.length_cons, List.length_nil, List.take_succ_cons, List.take_zero, List.take_nil, List.drop_succ_cons, List.drop_zero, List.head?_cons, Nat.reduceAdd, Nat.reduceEqDiff, decide_false, Bool.and_self, Bool.not_true, Bool.false_eq_true, and_self, ne_eq, not_false_eq_true, List.cons_ne_nil, Nat.zero_add, Nat.le_refl, eq_self]
    · have hz := List.find?_some k7
      have hz' : ¬ rprogZ c x = 0 := by simpa using hz
      rw [firstZ_some k7, if_pos hz']
      simp only [c_ref19_Check, hs, hk, k1, k4, k5, lps_lo, progs_lo, Ev.runFunc, Ev.exec, Ev.evOpers, Ev.evOper, Ev.item_op, Ev.item_P, Ev.evOp, Ev.evs, Ev.Opnd.ev, Ev.Env.get, Ev.Env.set, Ev.look, Ev.argVars, Ev.cellsAt, Ev.loadC, Ev.AV.cells, Ev.plains, Ev.AV.plain, Ev.bin_lss, Ev.resVals, Ev.resVal, Ev.resOf, Ev.kill, Ev.leave, Ev.settle, Ev.keep, Ev.varsLo, Ev.marksLo, Ev.storeLo, Ev.lo_v, Ev.lo_agg, Ev.lo_fsl, Ev.lo_fptr, Ev.los_nil, Ev.los_cons, Ev.frz_lo, ↓Ev.obind, ↓Ev.itL_itB, ↓reduceIte, List.length_cons, List.length_nil, List.take_succ_cons, List.take_nil, List.drop_succ_cons, List.drop_zero, List.head?_cons, Nat.reduceAdd, Nat.reduceEqDiff, decide_false, Bool.and_self, Bool.not_true, Bool.false_eq_true, and_self, ne_eq, not_false_eq_true, List.cons_ne_nil, Nat.zero_add, Nat.le_refl, eq_self]
end
end Go.Proofs.Ythkjkdbjgpeigaa.K
namespace Go.Proofs.Ythkjkdbjgpeigaa.K
open Go.Ev
set_option linter.unusedSimpArgs false
set_option linter.unusedVariables false
set_option maxRecDepth 10000
section
variable (c : Cfg)
def l12 (l : List Start) : Bool := !decide ((l.length : Int) > 12)
def l30 (p : List OpI) : Bool := !decide ((p.length : Int) > 30)
def greatB (c : Cfg) : Bool := decide ((c.lps.length : Int) > 12) || (decide ((c.progs.length : Int) > 12) || (!(c.lps.all l12) || !(c.progs.all l30)))
theorem great_l1 (hl : c.lps.length ≤ 12) :
    ∃ y, itB (exec (evL T) itL none c_law19_Great_L1) (Ev.settle [1, 3] true 0) ⟨[(1, (.fptr [(.fsl ((c.lps).map lpC) false), (.fsl ((c.progs).map progC) false), (.v (.int .i64 (c.look))), (.v (.int .i64 (c.fin))), (.v (.int .i64 (c.cap)))])), (3, (.v (.int .i64 (0))))], []⟩ [] = some y ∧ (c.lps.all l12 = true ∧ (y.1 = .exit 0 ∧ y.2.1.marks = [] ∧ y.2.2 = [] ∧ Ev.look y.2.1.vars 1 = some (.fptr [(.fsl ((c.lps).map lpC) false), (.fsl ((c.progs).map progC) false), (.v (.int .i64 (c.look))), (.v (.int .i64 (c.fin))), (.v (.int .i64 (c.cap)))])) ∨
      c.lps.all l12 = false ∧ ∃ x, c.lps.find? (fun x => !l12 x) = some x ∧ (y.1 = .ret ∧ y.2.1.marks = [] ∧ y.2.2 = [] ∧ Ev.look y.2.1.vars 2 = some (.v (.bool (true))))) := by
  refine itB_find c.lps (fun i => ⟨[(1, (.fptr [(.fsl ((c.lps).map lpC) false), (.fsl ((c.progs).map progC) false), (.v (.int .i64 (c.look))), (.v (.int .i64 (c.fin))), (.v (.int .i64 (c.cap)))])), (3, (.v (.int .i64 (i))))], []⟩) [] l12 _ (fun _ y => _) ?_ ?_ ?_
  · intro i x hi hx hp
    have hi' : (i : Int) < (c.lps.length : Int) := by omega
    have hw : IntKind.i64.wrap ((i : Int) + 1) = ((i + 1 : Nat) : Int) := by rw [w64_small (by omega) (by omega)]; simp
    have h1 : ¬ (x.length : Int) > 12 := by simpa [l12] using hp
    simp only [c_law19_Great_L1, Int.natCast_nonneg, Int.toNat_natCast, List.getElem?_map, Option.map_some, hx, hi', hw, h1, lps_lo, progs_lo, lpC, Ev.exec, Ev.evOpers, Ev.evOper, Ev.item_op, Ev.evOp, Ev.Opnd.ev, Ev.Env.get, Ev.Env.set, Ev.look, Ev.cellsAt, Ev.loadC, Ev.bin_add, Ev.bin_lss, Ev.bin_gtr, Ev.settle, Ev.keep, Ev.varsLo, Ev.marksLo, Ev.storeLo, Ev.lo_v, Ev.lo_fsl, Ev.lo_fptr, Ev.los_nil, Ev.los_cons, List.length_map, ↓Ev.obind, Ev.it1, ↓reduceIte, List.length_cons, List.length_nil, List.take_nil, List.drop_zero, List.head?_cons, Nat.reduceEqDiff, decide_true, decide_false, Bool.and_self, Bool.false_eq_true, and_self, Nat.zero_add, eq_self]
  · intro i x hi hx hp
    have hi' : (i : Int) < (c.lps.length : Int) := by omega
    have h1 : (x.length : Int) > 12 := by simpa [l12] using hp
    simp only [c_law19_Great_L1, Int.natCast_nonneg, Int.toNat_natCast, List.getElem?_map, Option.map_some, hx, hi', h1, lpC, Ev.exec, Ev.evOpers, Ev.evOper, Ev.item_op, Ev.evOp, Ev.Opnd.ev, Ev.Env.get, Ev.Env.set, Ev.look, Ev.cellsAt, Ev.loadC, Ev.bin_lss, Ev.bin_gtr, List.length_map, ↓Ev.obind, Ev.it1, ↓reduceIte, List.length_cons, List.length_nil, List.drop_zero, List.head?_cons, Nat.reduceEqDiff, decide_true, Bool.false_eq_true, Nat.zero_add, eq_self]
    exact ⟨_, rfl, rfl, rfl, rfl, rfl⟩
  · simp only [c_law19_Great_L1, Int.lt_irrefl, Ev.exec, Ev.evOpers, Ev.evOper, Ev.item_op, Ev.evOp, Ev.Opnd.ev, Ev.Env.get, Ev.Env.set, Ev.look, Ev.cellsAt, Ev.loadC, Ev.bin_lss, List.length_map, ↓Ev.obind, Ev.it1, ↓reduceIte, List.drop_zero, List.head?_cons, Nat.reduceEqDiff, decide_false, Bool.false_eq_true, eq_self]
    exact ⟨_, rfl, rfl, rfl, rfl, rfl⟩
theorem great_l2 (hl : c.progs.length ≤ 12) :
    ∃ y, itB (exec (evL T) itL none c_law19_Great_L2) (Ev.settle [1, 4] true 0) ⟨[(1, (.fptr [(.fsl ((c.lps).map lpC) false), (.fsl ((c.progs).map progC) false), (.v (.int .i64 (c.look))), (.v (.int .i64 (c.fin))), (.v (.int .i64 (c.cap)))])), (4, (.v (.int .i64 (0))))], []⟩ [] = some y ∧ (c.progs.all l30 = true ∧ (y.1 = .exit 2 ∧ y.2.1.marks = [] ∧ y.2.2 = []) ∨
      c.progs.all l30 = false ∧ ∃ x, c.progs.find? (fun x => !l30 x) = some x ∧ (y.1 = .ret ∧ y.2.1.marks = [] ∧ y.2.2 = [] ∧ Ev.look y.2.1.vars 2 = some (.v (.bool (true))))) := by
  refine itB_find c.progs (fun i => ⟨[(1, (.fptr [(.fsl ((c.lps).map lpC) false), (.fsl ((c.progs).map progC) false), (.v (.int .i64 (c.look))), (.v (.int .i64 (c.fin))), (.v (.int .i64 (c.cap)))])), (4, (.v (.int .i64 (i))))], []⟩) [] l30 _ (fun _ y => _) ?_ ?_ ?_
  · intro i x hi hx hp
    have hi' : (i : Int) < (c.progs.length : Int) := by omega
    have hw : IntKind.i64.wrap ((i : Int) + 1) = ((i + 1 : Nat) : Int) := by rw [w64_small (by omega) (by omega)]; simp
    have h1 : ¬ (x.length : Int) > 30 := by simpa [l30] using hp
    simp only [c_law19_Great_L2, Int.natCast_nonneg, Int.toNat_natCast, List.getElem?_map, Option.map_some, hx, hi', hw, h1, lps_lo, progs_lo, progC, Ev.exec, Ev.evOpers, Ev.evOper, Ev.item_op, Ev.evOp, Ev.Opnd.ev, Ev.Env.get, Ev.Env.set, Ev.look, Ev.cellsAt, Ev.loadC, Ev.bin_add, Ev.bin_lss, Ev.bin_gtr, Ev.settle, Ev.keep, Ev.varsLo, Ev.marksLo, Ev.storeLo, Ev.lo_v, Ev.lo_fsl, Ev.lo_fptr, Ev.los_nil, Ev.los_cons, List.length_map, ↓Ev.obind, Ev.it1, ↓reduceIte, List.length_cons, List.length_nil, List.take_nil, List.drop_succ_cons, List.drop_zero, List.head?_cons, Nat.reduceEqDiff, decide_true, decide_false, Bool.and_self, Bool.false_eq_true, and_self, Nat.zero_add, eq_self]
  · intro i x hi hx hp
    have hi' : (i : Int) < (c.progs.length : Int) := by omega
    have h1 : (x.length : Int) > 30 := by simpa [l30] using hp
    simp only [c_law19_Great_L2, Int.natCast_nonneg, Int.toNat_natCast, List.getElem?_map, Option.map_some, hx, hi', h1, progC, Ev.exec, Ev.evOpers, Ev.evOper, Ev.item_op, Ev.evOp, Ev.Opnd.ev, Ev.Env.get, Ev.Env.set, Ev.look, Ev.cellsAt, Ev.loadC, Ev.bin_lss, Ev.bin_gtr, List.length_map, ↓Ev.obind, Ev.it1, ↓reduceIte, List.length_cons, List.length_nil, List.drop_succ_cons, List.drop_zero, List.head?_cons, Nat.reduceEqDiff, decide_true, Bool.false_eq_true, Nat.zero_add, eq_self]
    exact ⟨_, rfl, rfl, rfl, rfl, rfl⟩
  · simp only [c_law19_Great_L2, Int.lt_irrefl, Ev.exec, Ev.evOpers, Ev.evOper, Ev.item_op, Ev.evOp, Ev.Opnd.ev, Ev.Env.get, Ev.Env.set, Ev.look, Ev.cellsAt, Ev.loadC, Ev.bin_lss, List.length_map, ↓Ev.obind, Ev.it1, ↓reduceIte, List.drop_succ_cons, List.drop_zero, List.head?_cons, Nat.reduceEqDiff, decide_false, Bool.false_eq_true, eq_self]
    exact ⟨_, rfl, rfl, rfl, rfl⟩
theorem law19_Great_ev : callZ (evL T) n_law19_Great [(.agg [(.fsl ((c.lps).map lpC) false), (.fsl ((c.progs).map progC) false), (.v (.int .i64 (c.look))), (.v (.int .i64 (c.fin))), (.v (.int .i64 (c.cap)))])] = some (.v (.bool (greatB c))) := by
  rw [callZ, evL_code ext_law19_Great code_law19_Great]
  by_cases h1 : (c.lps.length : Int) > 12
  · simp only [c_law19_Great, greatB, h1, Ev.runFunc, Ev.exec, Ev.evOpers, Ev.evOper, Ev.item_op, Ev.evOp, Ev.Opnd.ev, Ev.Env.get, Ev.Env.set, Ev.Env.unset, Ev.look, Ev.argVars, Ev.cellsAt, Ev.loadC, Ev.AV.cells, Ev.plains, Ev.AV.plain, Ev.bin_gtr, Ev.resVals, Ev.resVal, Ev.resOf, Ev.kill, Ev.leave, Ev.storeLo, Ev.lo_v, Ev.frz_lo, List.length_map, ↓Ev.obind, ↓reduceIte, List.length_cons, List.length_nil, List.take_nil, List.drop_zero, List.head?_cons, Nat.reduceEqDiff, decide_true, Bool.and_self, Bool.true_or, Bool.false_eq_true, Bool.true_eq_false, and_self, ne_eq, not_false_eq_true, List.cons_ne_nil, Nat.zero_add, eq_self]
  by_cases h2 : (c.progs.length : Int) > 12
  · simp only [c_law19_Great, greatB, h1, h2, Ev.runFunc, Ev.exec, Ev.evOpers, Ev.evOper, Ev.item_op, Ev.evOp, Ev.Opnd.ev, Ev.Env.get, Ev.Env.set, Ev.look, Ev.argVars, Ev.cellsAt, Ev.loadC, Ev.AV.cells, Ev.plains, Ev.AV.plain, Ev.bin_gtr, Ev.resVals, Ev.resVal, Ev.resOf, Ev.kill, Ev.leave, Ev.storeLo, Ev.lo_v, Ev.frz_lo, List.length_map, ↓Ev.obind, ↓reduceIte, List.length_cons, List.length_nil, List.take_nil, List.drop_succ_cons, List.drop_zero, List.head?_cons, Nat.reduceEqDiff, decide_true, decide_false, Bool.and_self, Bool.true_or, Bool.or_true, Bool.false_eq_true, and_self, ne_eq, not_false_eq_true, List.cons_ne_nil, Nat.zero_add, eq_self]
  obtain ⟨⟨y, e, σ⟩, k1, k2⟩ := great_l1 c (by omega)
  obtain ⟨⟨y', e', σ'⟩, m1, m2⟩ := great_l2 c (by omega)
  simp only at k2 m2
  rcases k2 with ⟨k3, rfl, k4, rfl, k5⟩ | ⟨k3, x, _, rfl, k4, rfl, k5⟩
  · rcases m2 with ⟨m3, rfl, m4, rfl⟩ | ⟨m3, x, _, rfl, m4, rfl, m5⟩
    · simp only [c_law19_Great, greatB, h1, h2, k1, k3, k4, k5, m1, m3, m4, lps_lo, progs_lo, Bool.or_self, Ev.runFunc, Ev.exec, Ev.evOpers, Ev.evOper, Ev.item_op, Ev.evOp, Ev.Opnd.ev, Ev.Env.get, Ev.Env.set, Ev.look, Ev.argVars, Ev.cellsAt, Ev.loadC, Ev.AV.cells, Ev.plains, Ev.AV.plain, Ev.bin_gtr, Ev.resVals, Ev.resVal, Ev.resOf, Ev.kill, Ev.leave, Ev.settle, Ev.keep, Ev.varsLo, Ev.marksLo, Ev.storeLo, Ev.lo_v, Ev.lo_fsl, Ev.lo_fptr, Ev.los_nil, Ev.los_cons, Ev.frz_lo, List.length_map, ↓Ev.obind, ↓Ev.itL_itB, ↓reduceIte, List.length_cons, List.length_nil, List.take_nil, List.drop_succ_cons, List.drop_zero, List.head?_cons, Nat.reduceEqDiff, decide_false, Bool.and_self, Bool.not_true, Bool.false_eq_true, and_self, ne_eq, not_false_eq_true, List.cons_ne_nil, Nat.zero_add, eq_self]
    · simp only [c_law19_Great, greatB, h1, h2, k1, k3, k4, k5, m1, m3, m4, m5, lps_lo, progs_lo, Bool.or_true, Ev.runFunc, Ev.exec, Ev.evOpers, Ev.evOper, Ev.item_op, Ev.evOp, Ev.Opnd.ev, Ev.Env.get, Ev.Env.set, Ev.look, Ev.argVars, Ev.cellsAt, Ev.loadC, Ev.AV.cells, Ev.plains, Ev.AV.plain, Ev.bin_gtr, Ev.resVals, Ev.resVal, Ev.resOf, Ev.kill, Ev.leave, Ev.settle, Ev.keep, Ev.varsLo, Ev.marksLo, Ev.storeLo, Ev.lo_v, Ev.lo_fsl, Ev.lo_fptr, Ev.los_nil, Ev.los_cons, Ev.frz_lo, List.length_map, ↓Ev.obind, ↓Ev.itL_itB, ↓reduceIte, List.length_cons, List.length_nil, List.take_nil, List.drop_succ_cons, List.drop_zero, List.head?_cons, Nat.reduceEqDiff, decide_false, Bool.and_self, Bool.or_true, Bool.not_true, Bool.not_false, Bool.false_eq_true, and_self, ne_eq, not_false_eq_true, List.cons_ne_nil, Nat.zero_add, eq_self]
  · simp only [c_law19_Great, greatB, h1, h2, k1, k3, k4, k5, lps_lo, progs_lo, Bool.or_true, Bool.true_or, Ev.runFunc, Ev.exec, Ev.evOpers, Ev.evOper, Ev.item_op, Ev.evOp, Ev.Opnd.ev, Ev.Env.get, Ev.Env.set, Ev.look, Ev.argVars, Ev.cellsAt, Ev.loadC, Ev.AV.cells, Ev.plains, Ev.AV.plain, Ev.bin_gtr, Ev.resVals, Ev.resVal, Ev.resOf, Ev.kill, Ev.leave, Ev.settle, Ev.keep, Ev.varsLo, Ev.marksLo, Ev.storeLo, Ev.lo_v, Ev.lo_fsl, Ev.lo_fptr, Ev.los_nil, Ev.los_cons, Ev.frz_lo, List.length_map, ↓Ev.obind, ↓Ev.itL_itB, ↓reduceIte, List.length_cons, List.length_nil, List.take_nil, List.drop_succ_cons, List.drop_zero, List.head?_cons, Nat.reduceEqDiff, decide_false, Bool.and_self, Bool.true_or, Bool.or_true, Bool.not_false, Bool.false_eq_true, and_self, ne_eq, not_false_eq_true, List.cons_ne_nil, Nat.zero_add, eq_self]
theorem great_sizes (h : greatB c = false) : c.lps.length ≤ 12 ∧ c.progs.length ≤ 12 ∧ (∀ l ∈ c.lps, l.length ≤ 12) ∧ ∀ p ∈ c.progs, p.length ≤ 30 := by
  simp only [greatB, Bool.or_eq_false_iff, decide_eq_false_iff_not, Bool.not_eq_false', List.all_eq_true] at h
  obtain ⟨h1, h2, h3, h4⟩ := h
  exact ⟨by omega, by omega, fun l hl => by have := h3 l hl; simp [l12] at this; omega, fun p hp => by have := h4 p hp; simp [l30] at this; omega⟩
def okB (c : Cfg) : Bool := !greatB c && decide (rcfgZ c = 0)
end
end Go.Proofs.Ythkjkdbjgpeigaa.K
namespace Go.Proofs.Ythkjkdbjgpeigaa.K
open Go.Ev
set_option linter.unusedSimpArgs false
set_option linter.unusedVariables false
structure OpFull (c : Cfg) (p : List OpI) (op : OpI) : Prop where
  code : 1 ≤ op.code ∧ op.code ≤ 8
  hold : op.code = 1 → 1 ≤ op.a ∧ op.a ≤ 1099511627776
  send : op.code = 2 → 0 ≤ op.a ∧ op.a < c.lps.length ∧ 1 ≤ op.c ∧ op.c ≤ 1099511627776 ∧ c.look ≤ op.c
  timer : op.code = 3 → 1 ≤ op.a ∧ op.a ≤ 1099511627776 ∧ 0 ≤ op.b ∧ op.b < p.length
  spawn : op.code = 5 → 0 ≤ op.a ∧ op.a < c.progs.length ∧ 1 ≤ op.b ∧ op.b ≤ 1099511627776
  reg : op.code = 6 ∨ op.code = 7 → op.a = 0 ∨ op.a = 1
  to : op.code = 7 → 0 ≤ op.c ∧ op.c < p.length
theorem rcheckZ_zero {p : List OpI} {ps lps look : Int} (h : checkZ p ps lps look = 0) : shapeB p = true ∧ p.all (fun x => operB x p.length ps) = true ∧ p.all (tgtB lps) = true ∧ p.all (earlyB look) = true := by
  unfold checkZ at h
  cases h1 : shapeB p with
  | false => rw [if_pos h1] at h; cases h
  | true =>
    rw [if_neg (by simp [h1])] at h
    cases h2 : p.all (fun x => operB x p.length ps) with
    | false => rw [if_pos h2] at h; cases h
    | true =>
      rw [if_neg (by simp [h2])] at h
      cases h3 : p.all (tgtB lps) with
      | false => rw [if_pos h3] at h; cases h
      | true =>
        rw [if_neg (by simp [h3])] at h
        cases h4 : p.all (earlyB look) with
        | false => rw [if_pos h4] at h; cases h
        | true => exact ⟨rfl, rfl, rfl, rfl⟩
theorem delayB_iff {n : Int} : delayB n = true ↔ 1 ≤ n ∧ n ≤ 1099511627776 := by simp [delayB]
structure Valid (c : Cfg) : Prop where
  lps : 1 ≤ c.lps.length ∧ c.lps.length ≤ 8
  progs : c.progs.length ≤ 8
  lp : ∀ l ∈ c.lps, l.length ≤ 8
  cap : 1 ≤ c.cap ∧ c.cap ≤ 64
  fin : 0 ≤ c.fin ∧ c.fin ≤ 1152921504606846976
  look : 1 ≤ c.look
  prog : ∀ p ∈ c.progs, 1 ≤ p.length ∧ p.length ≤ 16 ∧ ∀ op ∈ p, OpFull c p op
  start : ∀ l ∈ c.lps, ∀ s ∈ l, 0 ≤ s.prog ∧ s.prog < c.progs.length ∧ 0 ≤ s.time ∧ s.time ≤ 1152921504606846976
theorem opFull_of {c : Cfg} {p : List OpI} (h : checkZ p c.progs.length c.lps.length c.look = 0) : 1 ≤ p.length ∧ p.length ≤ 16 ∧ ∀ op ∈ p, OpFull c p op := by
  obtain ⟨h1, h2, h3, h4⟩ := rcheckZ_zero h
  simp only [shapeB, Bool.and_eq_true, decide_eq_true_eq, List.all_eq_true] at h1 h2 h3 h4
  obtain ⟨⟨h5, h6⟩, h7⟩ := h1
  refine ⟨h5, h6, fun op ho => ?_⟩
  have g1 := h7 op ho
  have g2 := h2 op ho
  have g3 := h3 op ho
  have g4 := h4 op ho
  simp only [codeB, Bool.and_eq_true, decide_eq_true_eq] at g1
  simp only [tgtB, earlyB, Bool.not_eq_true', Bool.and_eq_false_iff, decide_eq_false_iff_not] at g3 g4
  unfold operB at g2
  refine ⟨⟨by omega, by omega⟩, ?_, ?_, ?_, ?_, ?_, ?_⟩
  · intro k; rw [if_pos k] at g2
    simp only [Bool.and_eq_true, delayB_iff, decide_eq_true_eq] at g2; exact g2.1
  · intro k
    rw [if_neg (by omega), if_pos k] at g2
    simp only [Bool.and_eq_true, delayB_iff, decide_eq_true_eq] at g2
    refine ⟨g2.1, ?_, g2.2.2.1, g2.2.2.2, ?_⟩
    · rcases g3 with g3 | g3
      · exact absurd k g3
      · omega
    · rcases g4 with g4 | g4
      · exact absurd k g4
      · omega
  · intro k
    rw [if_neg (by omega), if_neg (by omega), if_pos k] at g2
    simp only [Bool.and_eq_true, delayB_iff, decide_eq_true_eq] at g2
    exact ⟨g2.1.1, g2.1.2, g2.2.1, g2.2.2.1⟩
  · intro k
    rw [if_neg (by omega), if_neg (by omega), if_neg (by omega), if_pos k] at g2
    simp only [Bool.and_eq_true, delayB_iff, decide_eq_true_eq] at g2
    exact ⟨g2.1, g2.2.1, g2.2.2.1.1, g2.2.2.1.2⟩
  · rintro (k | k)
    · rw [if_neg (by omega), if_neg (by omega), if_neg (by omega), if_neg (by omega), if_pos k] at g2
      simp only [Bool.and_eq_true, decide_eq_true_eq] at g2
      obtain ⟨q1, q2, _⟩ := g2
      omega
    · rw [if_neg (by omega), if_neg (by omega), if_neg (by omega), if_neg (by omega), if_neg (by omega), if_pos k] at g2
      simp only [Bool.and_eq_true, decide_eq_true_eq] at g2
      obtain ⟨q1, q2, _⟩ := g2
      omega
  · intro k
    rw [if_neg (by omega), if_neg (by omega), if_neg (by omega), if_neg (by omega), if_neg (by omega), if_pos k] at g2
    simp only [Bool.and_eq_true, decide_eq_true_eq] at g2
    exact ⟨g2.2.2.2.1, g2.2.2.2.2⟩
theorem valid_of {c : Cfg} (h : rcfgZ c = 0) : Valid c := by
  unfold rcfgZ at h
  cases h1 : rsizesB c with
  | false => rw [if_pos h1] at h; cases h
  | true =>
    rw [if_neg (by simp [h1])] at h
    by_cases h2 : c.look < 1
    · rw [if_pos h2] at h; cases h
    rw [if_neg h2] at h
    by_cases h3 : firstZ (rprogZ c) c.progs ≠ 0
    · rw [if_pos h3] at h; exact absurd h h3
    rw [if_neg h3] at h
    have h4 := firstZ_zero.1 (Decidable.of_not_not h3)
    have h5 := firstZ_zero.1 h
    simp only [rsizesB, Bool.and_eq_true, decide_eq_true_eq, List.all_eq_true] at h1
    obtain ⟨⟨s1, s2, s3⟩, s4, s5⟩ := h1
    refine ⟨⟨s1, s2⟩, s3, fun l hl => by have := s4 l hl; simp [len8] at this; omega, ⟨s5.1, s5.2.1⟩, ⟨s5.2.2.1, s5.2.2.2⟩, by omega, fun p hp => opFull_of (h4 p hp), fun l hl s hs => ?_⟩
    have h6 := firstZ_zero.1 (h5 l hl) s hs
    unfold rstartZ at h6
    split at h6
    · cases h6
    split at h6
    · cases h6
    · omega
end Go.Proofs.Ythkjkdbjgpeigaa.K
namespace Go.Proofs.Ythkjkdbjgpeigaa.K
open Go.Ev
set_option linter.unusedSimpArgs false
set_option linter.unusedVariables false
def GoneOk (t0 : List Int) (x : Ex) (g : List Int) : Prop := g.length ≤ 100 ∧ (x.over = true ∨ g = t0 ∨ ∃ ev ∈ x.out, ev.kind = 2 ∧ ev.key = g)
structure EvOk (c : Cfg) (e : Evt) (x : Ex) (k : Nat) (ev : Evt) : Prop where
  time : e.time < ev.time ∧ ev.time ≤ 1152921504606846976
  key : ∃ m : Int, ev.key = e.key ++ [m] ∧ (k : Int) ≤ m ∧ m < x.n
  msg : ev.kind = 3 → 0 ≤ ev.lp ∧ ev.lp < c.lps.length ∧ e.time + c.look ≤ ev.time ∧ c.look ≤ 1099511627776
  own : ev.kind ≠ 3 → ev.lp = e.lp ∧ 0 ≤ ev.proc ∧ ev.proc < x.procs.length ∧ (ev.kind = 1 ∨ ev.kind = 2)
structure EInv (c : Cfg) (e : Evt) (i : Nat) (X : List Pr) (pr : Int) (p : List OpI) (t0 : List Int) (n : Nat) (x : Ex) : Prop where
  ev : x.ev = e
  len : X.length ≤ x.procs.length ∧ x.procs.length ≤ 8
  own : ∃ q, x.procs[i]? = some q ∧ q.prog = pr ∧ 0 ≤ q.pc ∧ q.pc ≤ p.length ∧ (q.timer = [] ∨ GoneOk t0 x q.timer)
  old : ∀ j, j ≠ i → j < X.length → x.procs[j]? = X[j]?
  new : ∀ j q, X.length ≤ j → x.procs[j]? = some q → q.alive = true ∧ q.pc = 0 ∧ q.timer = [] ∧ 0 ≤ q.prog ∧ q.prog < c.progs.length
  cnt : 0 ≤ x.n ∧ x.n ≤ n ∧ (x.out.length : Int) ≤ x.n
  outs : ∀ k ev, x.out[k]? = some ev → EvOk c e x k ev
  inc : ∀ k ev ev', x.out[k]? = some ev → x.out[k + 1]? = some ev' → ∃ m m', ev.key = e.key ++ [m] ∧ ev'.key = e.key ++ [m'] ∧ m < m'
  gone : ∀ g ∈ x.gone, GoneOk t0 x g
section
variable {c : Cfg} {e : Evt} {i : Nat} {X : List Pr} {pr : Int} {p : List OpI} {t0 : List Int} {n : Nat} {x : Ex}
theorem EInv.lt (h : EInv c e i X pr p t0 n x) : i < x.procs.length := by
  obtain ⟨q, h1, _⟩ := h.own; exact (List.getElem?_eq_some_iff.1 h1).1
theorem EInv.more (h : EInv c e i X pr p t0 n x) : EInv c e i X pr p t0 (n + 1) x :=
  ⟨h.ev, h.len, h.own, h.old, h.new, by have := h.cnt; omega, h.outs, h.inc, h.gone⟩
theorem EInv.setP (h : EInv c e i X pr p t0 n x) (hiX : i < X.length) {q : Pr} (h1 : q.prog = pr) (h2 : 0 ≤ q.pc ∧ q.pc ≤ p.length) (h3 : q.timer = [] ∨ GoneOk t0 x q.timer) : EInv c e i X pr p t0 n (x.setP i q) := by
  have hlt := h.lt
  refine ⟨h.ev, by simp only [Ex.setP, List.length_set]; exact h.len, ⟨q, by simp only [Ex.setP]; rw [List.getElem?_set_self hlt], h1, h2.1, h2.2, h3⟩, ?_, ?_, h.cnt, ?_, h.inc, h.gone⟩
  · intro j hj hl; simp only [Ex.setP]; rw [List.getElem?_set_ne (Ne.symm hj)]; exact h.old j hj hl
  · intro j q' hl hq; simp only [Ex.setP] at hq; rw [List.getElem?_set_ne (by omega)] at hq; exact h.new j q' hl hq
  · intro k ev hk
    obtain ⟨a, b, d, f⟩ := h.outs k ev hk
    exact ⟨a, b, d, by simpa only [Ex.setP, List.length_set] using f⟩
theorem EInv.push (h : EInv c e i X pr p t0 n x) {g : List Int} (hg : GoneOk t0 x g) : EInv c e i X pr p t0 n { x with gone := x.gone ++ [g] } := by
  refine ⟨h.ev, h.len, h.own, h.old, h.new, h.cnt, fun k ev hk => ?_, h.inc, ?_⟩
  · obtain ⟨a, b, d, f⟩ := h.outs k ev hk; exact ⟨a, b, d, f⟩
  · intro g' hg'
    rcases List.mem_append.1 hg' with hg' | hg'
    · exact h.gone g' hg'
    · simp at hg'; subst hg'; exact hg
theorem EInv.reg (h : EInv c e i X pr p t0 n x) (k v : Int) : EInv c e i X pr p t0 n (x.setReg k v) := by
  unfold Ex.setReg
  split
  · exact ⟨h.ev, h.len, h.own, h.old, h.new, h.cnt, fun k ev hk => by obtain ⟨a, b, d, f⟩ := h.outs k ev hk; exact ⟨a, b, d, f⟩, h.inc, h.gone⟩
  · exact ⟨h.ev, h.len, h.own, h.old, h.new, h.cnt, fun k ev hk => by obtain ⟨a, b, d, f⟩ := h.outs k ev hk; exact ⟨a, b, d, f⟩, h.inc, h.gone⟩
theorem EInv.spawn (h : EInv c e i X pr p t0 n x) (hiX : i < X.length) (hl : x.procs.length < 8) {a : Int} (ha : 0 ≤ a ∧ a < c.progs.length) : EInv c e i X pr p t0 n { x with procs := x.procs ++ [⟨a, 0, true, []⟩] } := by
  have hlt := h.lt
  have hln := h.len
  refine ⟨h.ev, by simp; omega, ?_, ?_, ?_, h.cnt, ?_, h.inc, h.gone⟩
  · obtain ⟨q, h1, h2⟩ := h.own
    exact ⟨q, by show (x.procs ++ _)[i]? = _; rw [List.getElem?_append_left hlt]; exact h1, h2⟩
  · intro j hj hl'; show (x.procs ++ _)[j]? = _; rw [List.getElem?_append_left (by omega)]; exact h.old j hj hl'
  · intro j q hj hq
    change (x.procs ++ [⟨a, 0, true, []⟩])[j]? = some q at hq
    by_cases hjl : j < x.procs.length
    · rw [List.getElem?_append_left hjl] at hq; exact h.new j q hj hq
    · have hj2 := (List.getElem?_eq_some_iff.1 hq).1
      simp at hj2
      have hje : j = x.procs.length := by omega
      subst hje
      simp at hq
      subst hq
      exact ⟨rfl, rfl, rfl, ha⟩
  · intro k ev hk
    obtain ⟨a, b, d, f⟩ := h.outs k ev hk
    exact ⟨a, b, d, fun hk' => by obtain ⟨f1, f2, f3, f4⟩ := f hk'; exact ⟨f1, f2, by simp; omega, f4⟩⟩
theorem create_over {d : Int} {s : Evt} (h : x.over = true) : (x.create d s).over = true := by unfold Ex.create; simp only; split <;> first | rfl | exact h
theorem create_mem {d : Int} {s ev : Evt} (h : ev ∈ x.out) : ev ∈ (x.create d s).out := by unfold Ex.create; simp only; split <;> first | exact h | exact List.mem_append_left _ h
theorem GoneOk.create {g : List Int} (h : GoneOk t0 x g) (d : Int) (s : Evt) : GoneOk t0 (x.create d s) g := by
  refine ⟨h.1, ?_⟩
  rcases h.2 with h | h | ⟨ev, h1, h2⟩
  · exact .inl (create_over h)
  · exact .inr (.inl h)
  · exact .inr (.inr ⟨ev, create_mem h1, h2⟩)
theorem EInv.create (h : EInv c e i X pr p t0 n x) (hn : n ≤ 90) (he : 0 ≤ e.time ∧ e.time ≤ 1152921504606846976) (hk : e.key.length ≤ 90) {d : Int} (hd : 1 ≤ d ∧ d ≤ 1099511627776) {s : Evt}
    (hm : s.kind = 3 → 0 ≤ s.lp ∧ s.lp < c.lps.length ∧ c.look ≤ d) (ho : s.kind ≠ 3 → s.lp = e.lp ∧ 0 ≤ s.proc ∧ s.proc < x.procs.length ∧ (s.kind = 1 ∨ s.kind = 2)) :
    EInv c e i X pr p t0 (n + 1) (x.create d s) ∧ (s.kind = 2 → GoneOk t0 (x.create d s) x.kid) := by
  obtain ⟨c1, c2, c3⟩ := h.cnt
  have hw : w64 (x.n + 1) = x.n + 1 := w64_small (by omega) (by omega)
  have ht : w64 (x.ev.time + d) = e.time + d := by rw [h.ev]; exact w64_small (by omega) (by omega)
  have hown : ∃ q, (x.create d s).procs[i]? = some q ∧ q.prog = pr ∧ 0 ≤ q.pc ∧ q.pc ≤ p.length ∧ (q.timer = [] ∨ GoneOk t0 (x.create d s) q.timer) := by
    obtain ⟨q, h1, h2, h3, h4, h5⟩ := h.own
    exact ⟨q, h1, h2, h3, h4, h5.imp id fun g => g.create d s⟩
  have hgone : ∀ g ∈ (x.create d s).gone, GoneOk t0 (x.create d s) g := fun g hg => (h.gone g hg).create d s
  have hkid : x.kid.length ≤ 100 := by unfold Ex.kid; rw [h.ev]; simp; omega
  by_cases hov : e.time + d > 1152921504606846976
  · have hx : x.create d s = { x with n := x.n + 1, over := true } := by unfold Ex.create; rw [hw, ht, if_pos hov, if_pos hov]
    rw [hx] at hown hgone ⊢
    refine ⟨⟨h.ev, h.len, hown, h.old, h.new, ⟨by show 0 ≤ x.n + 1; omega, by show x.n + 1 ≤ ((n + 1 : Nat) : Int); omega, by show (x.out.length : Int) ≤ x.n + 1; omega⟩, fun k ev hk' => ?_, h.inc, hgone⟩, fun _ => ⟨hkid, .inl rfl⟩⟩
    obtain ⟨a, ⟨m, b1, b2, b3⟩, d, f⟩ := h.outs k ev hk'
    exact ⟨a, ⟨m, b1, b2, by show m < x.n + 1; omega⟩, d, f⟩
  · have hx : x.create d s = { x with n := x.n + 1, out := x.out ++ [⟨e.time + d, e.key ++ [x.n], s.lp, s.kind, s.proc, s.arg⟩] } := by unfold Ex.create Ex.kid; rw [hw, ht, if_neg hov, if_neg hov, h.ev]
    rw [hx] at hown hgone ⊢
    refine ⟨⟨h.ev, h.len, hown, h.old, h.new, ⟨by show 0 ≤ x.n + 1; omega, by show x.n + 1 ≤ ((n + 1 : Nat) : Int); omega, by show ((x.out ++ _).length : Int) ≤ x.n + 1; simp; omega⟩, fun k ev hk' => ?_, ?_, hgone⟩, fun hs => ⟨hkid, .inr (.inr ⟨_, List.mem_append_right _ (List.mem_singleton.2 rfl), hs, by unfold Ex.kid; rw [h.ev]⟩)⟩⟩
    · change (x.out ++ [_])[k]? = some ev at hk'
      by_cases hkl : k < x.out.length
      · rw [List.getElem?_append_left hkl] at hk'
        obtain ⟨a, ⟨m, b1, b2, b3⟩, d, f⟩ := h.outs k ev hk'
        exact ⟨a, ⟨m, b1, b2, by show m < x.n + 1; omega⟩, d, f⟩
      · have hk2 := (List.getElem?_eq_some_iff.1 hk').1
        simp at hk2
        have hke : k = x.out.length := by omega
        subst hke
        simp at hk'
        subst hk'
        refine ⟨⟨by show e.time < e.time + d; omega, by show e.time + d ≤ _; omega⟩, ⟨x.n, rfl, c3, by show x.n < x.n + 1; omega⟩, fun hs => ?_, fun hs => ho hs⟩
        obtain ⟨m1, m2, m3⟩ := hm hs
        exact ⟨m1, m2, by show e.time + c.look ≤ e.time + d; omega, by omega⟩
    · intro k ev ev' h1 h2
      change (x.out ++ [_])[k]? = some ev at h1
      change (x.out ++ [_])[k + 1]? = some ev' at h2
      have hk2 := (List.getElem?_eq_some_iff.1 h2).1
      simp at hk2
      rw [List.getElem?_append_left (by omega)] at h1
      by_cases hkl : k + 1 < x.out.length
      · rw [List.getElem?_append_left hkl] at h2; exact h.inc k ev ev' h1 h2
      · have hke : k + 1 = x.out.length := by omega
        rw [hke] at h2
        simp at h2
        subst h2
        obtain ⟨m, b1, b2, b3⟩ := (h.outs k ev h1).key
        exact ⟨m, x.n, b1, rfl, b3⟩
theorem EInv.stop (h : EInv c e i X pr p t0 n x) (hiX : i < X.length) {q : Pr} (hq : x.procs[i]? = some q) : EInv c e i X pr p t0 n (x.stopE i q) := by
  obtain ⟨q', h1, h2, h3, h4, h5⟩ := h.own
  rw [hq] at h1; cases h1
  unfold Ex.stopE
  split
  next hl =>
    have hg : GoneOk t0 x q.timer := by
      rcases h5 with h5 | h5
      · rw [h5] at hl; simp at hl
      · exact h5
    exact (h.push hg).setP (q := { q with timer := [] }) hiX h2 ⟨h3, h4⟩ (.inl rfl)
  next => exact h
theorem EInv.step (h : EInv c e i X pr p t0 n x) (hiX : i < X.length) (hn : n ≤ 90) (he : 0 ≤ e.time ∧ e.time ≤ 1152921504606846976) (hk : e.key.length ≤ 90) (hpr : e.proc = i) {q : Pr} (hq : x.procs[i]? = some q) {op : OpI} (ho : OpFull c p op) :
    EInv c e i X pr p t0 (n + 1) (stepE x i q op).1 := by
  have hlt := h.lt
  obtain ⟨q', h1, h2, h3, h4, h5⟩ := h.own
  rw [hq] at h1; cases h1
  unfold stepE
  split
  next k => exact (h.create hn he hk (ho.hold k) (fun hs => absurd hs (by show ¬ (1 : Int) = 3; decide)) (fun _ => ⟨by show x.ev.lp = e.lp; rw [h.ev], by show 0 ≤ x.ev.proc; rw [h.ev, hpr]; omega, by show x.ev.proc < _; rw [h.ev, hpr]; omega, .inl rfl⟩)).1
  split
  next k =>
    obtain ⟨s1, s2, s3, s4, s5⟩ := ho.send k
    exact (h.create hn he hk ⟨s3, s4⟩ (s := ⟨0, [], op.a, 3, 0, op.b⟩) (fun _ => ⟨s1, s2, s5⟩) (fun hs => absurd rfl hs)).1
  split
  next k =>
    obtain ⟨s1, s2, s3, s4⟩ := ho.timer k
    have hst := h.stop hiX hq
    obtain ⟨g1, g2⟩ := hst.create hn he hk ⟨s1, s2⟩ (s := x.ownE 2 x.ev.proc op.b) (fun hs => absurd hs (by show ¬ (2 : Int) = 3; decide)) (fun _ => ⟨by show x.ev.lp = e.lp; rw [h.ev], by show 0 ≤ x.ev.proc; rw [h.ev, hpr]; omega, by show x.ev.proc < _; rw [h.ev, hpr]; have := hst.lt; omega, .inr rfl⟩)
    exact g1.setP (q := { q with timer := (x.stopE i q).kid }) hiX h2 ⟨h3, h4⟩ (.inr (g2 rfl))
  split
  next k => exact (h.stop hiX hq).more
  split
  next k =>
    obtain ⟨s1, s2, s3, s4⟩ := ho.spawn k
    unfold Ex.spawnE
    split
    next hl => exact ((h.spawn hiX hl ⟨s1, s2⟩).create hn he hk ⟨s3, s4⟩ (s := x.ownE 1 x.procs.length 0) (fun hs => absurd hs (by show ¬ (1 : Int) = 3; decide)) (fun _ => ⟨by show x.ev.lp = e.lp; rw [h.ev], by show (0 : Int) ≤ (x.procs.length : Int); omega, by show (x.procs.length : Int) < _; simp; omega, .inl rfl⟩)).1
    next => exact h.more
  split
  next k => exact (h.reg _ _).more
  split
  next k =>
    obtain ⟨s1, s2⟩ := ho.to k
    split
    · exact (h.setP (q := { q with pc := op.c }) hiX h2 ⟨s1, by show op.c ≤ _; omega⟩ h5).more
    · exact h.more
  next => exact h.more
theorem EInv.kill (h : EInv c e i X pr p t0 n x) (hiX : i < X.length) : EInv c e i X pr p t0 n (killE x i) := by
  obtain ⟨q, h1, h2, h3, h4, h5⟩ := h.own
  unfold killE; rw [h1]
  exact h.setP (q := { q with alive := false }) hiX h2 ⟨h3, h4⟩ h5
theorem EInv.stepR (h : EInv c e i X pr p t0 n x) (hiX : i < X.length) (hn : n ≤ 90) (he : 0 ≤ e.time ∧ e.time ≤ 1152921504606846976) (hk : e.key.length ≤ 90) (hpl : p.length ≤ 1000) (hpr : e.proc = i) {q : Pr} (hq : x.procs[i]? = some q) {op : OpI} (hop : p[q.pc.toNat]? = some op) (ho : OpFull c p op) :
    EInv c e i X pr p t0 (n + 1) (stepR x i q op).1 := by
  have hlt := h.lt
  obtain ⟨q', h1, h2, h3, h4, h5⟩ := h.own
  rw [hq] at h1; cases h1
  have hpc := (List.getElem?_eq_some_iff.1 hop).1
  have hw : w64 (q.pc + 1) = q.pc + 1 := w64_small (by omega) (by omega)
  have hz := h.setP (q := q.inc) hiX h2 ⟨by show 0 ≤ w64 (q.pc + 1); rw [hw]; omega, by show w64 (q.pc + 1) ≤ _; rw [hw]; omega⟩ h5
  have hzq : (x.setP i q.inc).procs[i]? = some q.inc := by simp only [Ex.setP]; rw [List.getElem?_set_self hlt]
  have hs := hz.step hiX hn he hk hpr hzq ho
  unfold K.stepR
  split
  · exact hs
  split
  · exact hs.kill hiX
  · exact hs
theorem EInv.act (hiX : i < X.length) (he : 0 ≤ e.time ∧ e.time ≤ 1152921504606846976) (hk : e.key.length ≤ 90) (hpl : p.length ≤ 1000) (hpr : e.proc = i) (ho : ∀ op ∈ p, OpFull c p op) :
    ∀ (m n : Nat) (x : Ex), n + m ≤ 90 → EInv c e i X pr p t0 n x → EInv c e i X pr p t0 (n + m) (actE p i m x)
  | 0, n, x, _, h => h.kill hiX
  | m + 1, n, x, hnm, h => by
    obtain ⟨q, h1, h2⟩ := h.own
    have mono : ∀ {k : Nat} {y : Ex}, EInv c e i X pr p t0 k y → ∀ l, k ≤ l → EInv c e i X pr p t0 l y := by
      intro k y hy l hl
      exact ⟨hy.ev, hy.len, hy.own, hy.old, hy.new, by have := hy.cnt; omega, hy.outs, hy.inc, hy.gone⟩
    rw [actE_succ p i m x q h1]
    cases hop : p[q.pc.toNat]? with
    | none => exact mono (h.kill hiX) _ (by omega)
    | some op =>
      have hs := h.stepR hiX (by omega) he hk hpl hpr h1 hop (ho op (List.mem_of_getElem? hop))
      simp only
      split
      · exact mono hs _ (by omega)
      · have := EInv.act hiX he hk hpl hpr ho m (n + 1) _ (by omega) hs
        rw [show n + (m + 1) = n + 1 + m from by omega]; exact this
end
end Go.Proofs.Ythkjkdbjgpeigaa.K
namespace Go.Proofs.Ythkjkdbjgpeigaa.K
open Go.Ev
set_option linter.unusedSimpArgs false
set_option linter.unusedVariables false
set_option maxRecDepth 10000
def badP (c : Cfg) (q : Pr) : Bool := !(decide (0 ≤ q.prog) && (decide (q.prog < c.progs.length) && (decide (0 ≤ q.pc) && decide (q.pc ≤ (((c.progs[q.prog.toNat]?).getD []).length : Int)))))
theorem not_lt_zero {x : Int} (h : ¬ x < 0) : 0 ≤ x := by omega
end Go.Proofs.Ythkjkdbjgpeigaa.K
namespace Go.Proofs.Ythkjkdbjgpeigaa.K
open Go.Ev
set_option linter.unusedSimpArgs false
set_option linter.unusedVariables false
set_option maxRecDepth 10000
end Go.Proofs.Ythkjkdbjgpeigaa.K
