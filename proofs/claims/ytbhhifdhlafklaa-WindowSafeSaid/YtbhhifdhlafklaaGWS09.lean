/- For every input the statement of this claim returns true: texts of its proof, joined (part 10). -/
import Derived.Test.YtbhhifdhlafklaaGWS06
import Derived.Test.YtbhhifdhlafklaaGWS07
import Derived.Test.YtbhhifdhlafklaaGWS08
set_option linter.unusedSectionVars false
set_option linter.unusedSimpArgs false
set_option linter.unusedVariables false
namespace Go.Proofs.Ytbhhifdhlafklaa.K
open Go.Ev
set_option maxRecDepth 10000
section
variable {c : Cfg} {s : Sim} {h : List Evt}
theorem qqi (h : List Evt) (e : Evt) (i : Nat) : qgg (h ++ [e]) i = if e.lp = i then qgg h i ++ [e] else qgg h i := by
  unfold qgg
  rw [List.filter_append, List.filter_cons, List.filter_nil]
  by_cases k : e.lp = i
  · rw [if_pos k, if_pos (by simpa using k)]
  · rw [if_neg k, if_neg (by simpa using k), List.append_nil]
theorem badP_iff {c : Cfg} {q : Pr} (h : badP c q = false) : 0 ≤ q.prog ∧ q.prog < c.progs.length ∧ 0 ≤ q.pc ∧ q.pc ≤ ((c.progs[q.prog.toNat]?).getD []).length := by
  simp only [badP, Bool.not_eq_false', Bool.and_eq_true, decide_eq_true_eq] at h
  omega
theorem SInvK.stepP (H : SInvK c s h) {e : Evt} {rest P T : List Evt} (ov : Bool) (hp : s.pend.Perm (e :: rest)) (hn : h.length ≤ 20000) (hP : (P ++ T).Perm (rest ++ (qbe c (q28 s e.lp) e).out)) :
    SInvK c ⟨s.trace.set e.lp.toNat (qsb s e.lp ++ [e]), s.lps.set e.lp.toNat (qbe c (q28 s e.lp) e).lp, P, s.n + 1, ov⟩ (h ++ [e]) := by
  have hme : e ∈ s.pend := hp.mem_iff.2 (by simp)
  obtain ⟨x, hx, hlx, R⟩ := H.headM hme hn
  have hkn := H.keyNeP hp hn
  have ge := H.ev e (List.mem_append_right _ hme)
  have hxl := H.lp x (List.mem_of_getElem? hx)
  obtain ⟨X, oX, o1, o2⟩ := R.outs
  obtain ⟨z1, _, z3, _, _, _⟩ := R.sizes
  obtain ⟨t1, t2⟩ := R.tims (B := 2 + (h.length + 1)) (by have := ge.key; omega) (fun q hq => by have := (hxl.2 q hq).2.2.2.2; omega)
  obtain ⟨st1, st2⟩ := R.state
  rw [hlx] at hkn hP
  have hmem : ∀ b, b ∈ P → b ∈ rest ∨ b ∈ (qbe c x e).out := fun b hb => List.mem_append.1 (hP.mem_iff.1 (List.mem_append_left _ hb))
  have hlpn : e.lp.toNat < c.lps.length := by have := ge.lp; omega
  have hout : ∀ b ∈ (qbe c x e).out, ∃ k, EvOk c e X k b := fun b hb => by
    obtain ⟨k, hk⟩ := List.mem_iff_getElem?.1 hb
    exact ⟨k, o1 k b hk⟩
  have rpe : ∀ b ∈ rest, b ∈ s.pend := fun b hb => hp.mem_iff.2 (List.mem_cons_of_mem _ hb)
  have rev : ∀ b ∈ rest, b ∈ h ++ s.pend := fun b hb => List.mem_append_right _ (rpe b hb)
  have evOut : ∀ b ∈ (qbe c x e).out, EvG c (h.length + 1) b := fun b hb => by
    obtain ⟨k, a1, ⟨m, hm, _⟩, a3, a4⟩ := hout b hb
    obtain ⟨u1, u2⟩ := t1 b hb
    have hkl : b.key.length = e.key.length + 1 := by rw [hm]; simp
    by_cases k3 : b.kind = 3
    · obtain ⟨c1, c2, _⟩ := a3 k3
      exact ⟨⟨c1, c2⟩, by have := ge.time; omega, by have := ge.key; omega, by rw [u1 k3]; omega, fun k2 => by omega⟩
    · obtain ⟨c1, c2, c3, c4⟩ := a4 k3
      rw [oX] at c3
      refine ⟨by rw [c1]; exact ge.lp, by have := ge.time; omega, by have := ge.key; omega, by omega, fun k2 => ?_⟩
      obtain ⟨q, p, _, hpp, _, d1, d2⟩ := u2 k2
      have := (H.valid.prog p (List.mem_of_getElem? hpp)).2.1
      omega
  have newProg : ∀ (j : Nat) (q : Pr), x.procs[j]? = some q → ∃ q', (qbe c x e).lp.procs[j]? = some q' ∧ q'.prog = q.prog := fun j q hq => by
    have hj := (List.getElem?_eq_some_iff.1 hq).1
    obtain ⟨q', hq'⟩ : ∃ q', (qbe c x e).lp.procs[j]? = some q' := ⟨_, List.getElem?_eq_getElem (by omega)⟩
    exact ⟨q', hq', ((st2 j q' hq').2.2 q hq).1⟩
  have setSelf : (s.lps.set e.lp.toNat (qbe c x e).lp)[e.lp.toNat]? = some (qbe c x e).lp := List.getElem?_set_self (by rw [H.lpl]; exact hlpn)
  rw [hlx]
  refine ⟨H.valid, by show s.n + 1 = _; rw [H.n]; simp, by show (s.trace.set _ _).length = _; rw [List.length_set]; exact H.trl, ?_, by show (s.lps.set _ _).length = _; rw [List.length_set]; exact H.lpl, ?_, ?_, ?_, ?_, ?_, ?_, ?_, ?_⟩
  · intro i hi
    show (s.trace.set e.lp.toNat (qsb s e.lp ++ [e]))[i]? = _
    rw [qqi]
    by_cases k : e.lp = i
    · have : e.lp.toNat = i := by omega
      rw [if_pos k, this, List.getElem?_set_self (by rw [H.trl]; exact hi)]
      unfold qsb
      rw [this, H.tr i hi]; rfl
    · rw [if_neg k, List.getElem?_set_ne (by have := ge.lp; omega)]; exact H.tr i hi
  · intro y hy
    rw [List.length_append]
    rcases List.mem_or_eq_of_mem_set hy with hy | rfl
    · have := H.lp y hy
      exact ⟨this.1, fun q hq => by obtain ⟨a, b, d, f, g⟩ := this.2 q hq; exact ⟨a, b, d, f, by omega⟩⟩
    · refine ⟨z1, fun q hq => ?_⟩
      obtain ⟨j, hj⟩ := List.mem_iff_getElem?.1 hq
      obtain ⟨a, b, d, f⟩ := badP_iff (st2 j q hj).1
      exact ⟨a, b, d, f, t2 q hq⟩
  · show qk7 ((h ++ [e]) ++ P)
    have := qk7.perm hkn (hP.append_left (h ++ [e]))
    exact List.Pairwise.sublist ((List.sublist_append_left P T).append_left _) this
  · intro b hb
    rw [List.length_append]
    rcases List.mem_append.1 hb with hb | hb
    · refine (H.ev b ?_).mono (by simp)
      rcases List.mem_append.1 hb with hb | hb
      · exact List.mem_append_left _ hb
      · rw [List.mem_singleton] at hb; subst hb; exact List.mem_append_right _ hme
    · rcases hmem b hb with hb | hb
      · exact (H.ev b (rev b hb)).mono (by simp)
      · exact evOut b hb
  · intro b hb hk
    show ∃ x' q p, (s.lps.set e.lp.toNat (qbe c x e).lp)[b.lp.toNat]? = some x' ∧ _
    rcases hmem b hb with hb | hb
    · obtain ⟨x', q, p, h1, h2, h3, h4⟩ := H.tim b (rpe b hb) hk
      by_cases k : e.lp.toNat = b.lp.toNat
      · rw [← k] at h1; rw [hx] at h1; cases h1
        obtain ⟨q', g1, g2⟩ := newProg _ q h2
        exact ⟨_, q', p, by rw [← k]; exact setSelf, g1, by rw [g2]; exact h3, h4⟩
      · exact ⟨x', q, p, by rw [List.getElem?_set_ne k]; exact h1, h2, h3, h4⟩
    · obtain ⟨k, _, _, _, a4⟩ := hout b hb
      obtain ⟨c1, _⟩ := a4 (by omega)
      obtain ⟨q, p, g1, g2, g3, g4⟩ := (t1 b hb).2 hk
      obtain ⟨q', g5, g6⟩ := newProg _ q g1
      exact ⟨_, q', p, by rw [c1]; exact setSelf, by rw [g3]; exact g5, by rw [g6]; exact g2, g4⟩
  · intro b hb
    have old : b ∈ h ++ s.pend → b.key.length = 2 ∨ ∃ p ∈ h ++ [e], ∃ m, b.key = p.key ++ [m] ∧ p.time < b.time := fun hb => by
      rcases H.par b hb with g | ⟨p, g1, g2⟩
      · exact .inl g
      · exact .inr ⟨p, List.mem_append_left _ g1, g2⟩
    rcases List.mem_append.1 hb with hb | hb
    · refine old ?_
      rcases List.mem_append.1 hb with hb | hb
      · exact List.mem_append_left _ hb
      · rw [List.mem_singleton] at hb; subst hb; exact List.mem_append_right _ hme
    · rcases hmem b hb with hb | hb
      · exact old (rev b hb)
      · obtain ⟨k, a1, ⟨m, hm, _⟩, _⟩ := hout b hb
        exact .inr ⟨e, by simp, m, hm, a1.1⟩
  · show P.length ≤ _
    have h1 := hP.length_eq
    have h2 := H.len
    rw [hp.length_eq] at h2
    simp only [List.length_append, List.length_cons, List.length_nil] at h1 h2 ⊢
    omega
  · intro i hi
    show (s.lps.set e.lp.toNat (qbe c x e).lp)[i]? = _
    rw [qqi]
    by_cases k : e.lp = i
    · have hki : e.lp.toNat = i := by omega
      have hr := H.rep i hi
      rw [← hki, hx, hki] at hr
      rw [if_pos k]
      unfold q6o at hr ⊢
      rw [List.foldl_append, List.foldl_cons, List.foldl_nil, ← Option.some.inj hr]
      have := setSelf; rw [hki] at this ⊢; exact this
    · rw [if_neg k, List.getElem?_set_ne (by have := ge.lp; omega)]; exact H.rep i hi
  · intro i hi k b hb
    rw [qqi] at hb ⊢
    by_cases hl : e.lp = i
    · rw [if_pos hl] at hb ⊢
      by_cases hk : k < (qgg h i).length
      · rw [List.getElem?_append_left hk] at hb
        rw [List.take_append_of_le_length (by omega)]
        exact H.rdy i hi k b hb
      · have hk2 := (List.getElem?_eq_some_iff.1 hb).1
        simp at hk2
        obtain rfl : k = (qgg h i).length := by omega
        simp at hb
        subst hb
        rw [List.take_append_of_le_length (Nat.le_refl _), List.take_length]
        have hr := H.rep i hi
        have hki : e.lp.toNat = i := by omega
        rw [← hki, hx, hki] at hr
        rw [← Option.some.inj hr]
        exact R
    · rw [if_neg hl] at hb ⊢
      exact H.rdy i hi k b hb
theorem SInv.step (H : SInv c s h) {e : Evt} {rest : List Evt} (hp : s.pend = e :: rest) (hn : h.length ≤ 20000) (hf : e.time < c.fin) : SInv c (s.step c e rest) (h ++ [e]) := by
  obtain ⟨x, hx, hlx, R⟩ := H.head hp hn
  obtain ⟨X, oX, o1, o2⟩ := R.outs
  have hP : ∃ T, (qgx ((rest ++ (qbe c (q28 s e.lp) e).out).filter (qjm (qbe c (q28 s e.lp) e).gone)) ++ T).Perm (rest ++ (qbe c (q28 s e.lp) e).out) :=
    ⟨_, ((qek _).append_right _).trans (List.filter_append_perm _ _)⟩
  obtain ⟨T, hT⟩ := hP
  refine ⟨H.toSInvK.stepP _ (by rw [hp]) hn hT, qgl _, ?_, ?_, ?_⟩
  · rw [List.pairwise_append]
    exact ⟨H.ord, List.pairwise_singleton _ _, fun a ha b hb => by rw [List.mem_singleton] at hb; subst hb; exact H.ord2 a ha b (by rw [hp]; simp)⟩
  · intro a ha b hb
    have hb' : b ∈ rest ∨ b ∈ (qbe c x e).out := by
      rw [← hlx]; exact List.mem_append.1 (hT.mem_iff.1 (List.mem_append_left _ hb))
    have lee : leE e b := by
      rcases hb' with hb | hb
      · have := H.sorted; rw [hp, List.pairwise_cons] at this; exact this.1 b hb
      · obtain ⟨k, hk⟩ := List.mem_iff_getElem?.1 hb; exact leE_time (o1 k b hk).1.1
    rcases List.mem_append.1 ha with ha | ha
    · exact qsv a e b (H.ord2 a ha e (by rw [hp]; simp)) lee
    · rw [List.mem_singleton] at ha; subst ha; exact lee
  · intro a ha
    rcases List.mem_append.1 ha with ha | ha
    · exact H.fin a ha
    · rw [List.mem_singleton] at ha; subst ha; exact hf
end
set_option maxRecDepth 10000
theorem q23 (lps : List (List Start)) : qk7 (qjn lps) := by
  have ne : ∀ {k k' i i' : Nat} {s s' : Start}, (qiq k i s).key = (qiq k' i' s').key → k = k' ∧ i = i' := by
    intro k k' i i' s s' h
    simp only [qiq, List.cons.injEq, and_true] at h
    omega
  unfold qk7 qjn
  rw [List.pairwise_flatten]
  constructor
  · intro r hr
    obtain ⟨k, hk⟩ := List.mem_iff_getElem?.1 hr
    rw [List.getElem?_mapIdx] at hk
    cases hl : lps[k]? with
    | none => rw [hl] at hk; cases hk
    | some l =>
      rw [hl] at hk; cases hk
      rw [List.pairwise_iff_getElem]
      intro i j hi hj hij h
      simp only [qjr, List.getElem_mapIdx] at h
      have := (ne h).2; omega
  · rw [List.pairwise_iff_getElem]
    intro k k' hk hk' hkk x hx y hy h
    simp only [List.getElem_mapIdx] at hx hy
    obtain ⟨i, s, _, rfl⟩ := qol hx
    obtain ⟨i', s', _, rfl⟩ := qol hy
    have := (ne h).1; omega
section
variable {c : Cfg}
theorem q2c (c : Cfg) : (start c).lps = (q5g c.lps).map fun ps => (⟨0, 0, ps, 0⟩ : Lp) := by
  simp only [start, qj4, List.map_map]; rfl
theorem SInv.start (hv : Valid c) : SInv c (start c) [] := by
  have hm : ∀ e ∈ qgx (qjn c.lps), e ∈ qjn c.lps := fun e he => (qek _).mem_iff.1 he
  have hv1 := hv.lps
  refine ⟨⟨hv, rfl, by simp [K.start], fun i hi => ?_, by rw [q2c]; simp [q5g], ?_, ?_, ?_, ?_, ?_, ?_, ?_, fun i hi k e he => by simp [qgg] at he⟩, qgl _, .nil, fun a ha => by simp at ha, fun e he => by simp at he⟩
  · simp [K.start, qgg, hi]
  · intro x hx
    rw [q2c, List.mem_map] at hx
    obtain ⟨ps, hps, rfl⟩ := hx
    simp only [q5g, List.mem_map] at hps
    obtain ⟨l, hl, rfl⟩ := hps
    refine ⟨by have := hv.lp l hl; simp; omega, fun q hq => ?_⟩
    simp only [List.mem_map] at hq
    obtain ⟨st, hst, rfl⟩ := hq
    obtain ⟨a, b, _⟩ := hv.start l hl st hst
    exact ⟨a, b, by simp [stP], by simp [stP], by simp [stP]⟩
  · rw [List.nil_append]; exact qk7.perm (q23 _) (qek _)
  · intro e he
    rw [List.nil_append] at he
    obtain ⟨k, l, i, s, h1, h2, rfl⟩ := qsk (hm e he)
    have k1 := (List.getElem?_eq_some_iff.1 h1).1
    have k2 := (List.getElem?_eq_some_iff.1 h2).1
    have k3 := hv.lp l (List.mem_of_getElem? h1)
    obtain ⟨a, b, d, f⟩ := hv.start l (List.mem_of_getElem? h1) s (List.mem_of_getElem? h2)
    exact ⟨by simp only [qiq]; omega, ⟨d, f⟩, by simp [qiq], by simp only [qiq]; omega, fun hk => by simp [qiq] at hk⟩
  · intro e he hk
    obtain ⟨k, l, i, s, h1, h2, rfl⟩ := qsk (hm e he)
    simp [qiq] at hk
  · intro e he
    rw [List.nil_append] at he
    obtain ⟨k, l, i, s, h1, h2, rfl⟩ := qsk (hm e he)
    exact .inl (by simp [qiq])
  · show (qgx _).length ≤ _
    rw [(qek _).length_eq]
    have := q1i (lps := c.lps) (m := 8) (fun l hl => hv.lp l hl)
    simp only [List.length_nil]; omega
  · intro i hi
    show ((qj4 c.lps).map Prod.fst)[i]? = _
    have : i < ((qj4 c.lps).map Prod.fst).length := by simp [qj4, q5g]; exact hi
    rw [List.getElem?_eq_getElem this]; rfl
variable {s : Sim} {h : List Evt}
theorem qzl (hr : s.ready c = true) : ∃ e rest, s.pend = e :: rest ∧ e.time < c.fin := by
  unfold Sim.ready at hr
  split at hr
  · cases hr
  next e rest hp => exact ⟨e, rest, hp, of_decide_eq_true hr⟩
theorem go_eq {e : Evt} {rest : List Evt} (hp : s.pend = e :: rest) : s.go c = s.step c e rest := by unfold Sim.go; rw [hp]
theorem SInv.run : ∀ (k : Nat) {s : Sim} {h : List Evt}, SInv c s h → h.length + k ≤ 20000 → ∃ h', SInv c (Sim.run c k s) (h ++ h') ∧ h'.length ≤ k ∧ (h'.length = k ∨ (Sim.run c k s).ready c = false)
  | 0, s, h, H, _ => ⟨[], by rw [List.append_nil]; exact H, Nat.le_refl _, .inl rfl⟩
  | k + 1, s, h, H, hk => by
    unfold Sim.run
    by_cases hr : s.ready c = true
    · rw [if_pos hr]
      obtain ⟨e, rest, hp, hf⟩ := qzl hr
      rw [go_eq hp]
      obtain ⟨h', g1, g2, g3⟩ := SInv.run k (H.step hp (by omega) hf) (by simp; omega)
      refine ⟨e :: h', by simpa using g1, by simp; omega, ?_⟩
      rcases g3 with g3 | g3
      · exact .inl (by simp; omega)
      · exact .inr g3
    · rw [if_neg hr]
      exact ⟨[], by rw [List.append_nil]; exact H, Nat.zero_le _, .inr (by simpa using hr)⟩
end
set_option maxRecDepth 10000
structure WSt where
  lp : Lp
  box : List Evt
  done : List Evt
  sent : List Evt
  over : Bool
def qlh (i : Int) (p : List Evt × List Evt) (n : Evt) : List Evt × List Evt := if n.lp = i then (qgx (n :: p.1), p.2) else (p.1, p.2 ++ [n])
def qei (i : Int) (p : List Evt × List Evt) (l : List Evt) : List Evt × List Evt := l.foldl (qlh i) p
def qt7 (b : List Evt) (g : List (List Int)) : List Evt := g.foldl (fun b k => (qgu b k).1) b
def WSt.step (c : Cfg) (w : WSt) (e : Evt) (rest : List Evt) : WSt :=
  ⟨(qbe c w.lp e).lp, qt7 (qei e.lp (rest, w.sent) (qbe c w.lp e).out).1 (qbe c w.lp e).gone, w.done ++ [e], (qei e.lp (rest, w.sent) (qbe c w.lp e).out).2, w.over || (qbe c w.lp e).over⟩
def WSt.run (c : Cfg) (hor : Int) : Nat → WSt → WSt
  | 0, w => w
  | k + 1, w => match w.box with
    | [] => w
    | e :: rest => if e.time < hor then WSt.run c hor k (w.step c e rest) else w
theorem q22 (l : List Evt) (k : List Int) : (qgu l k).1.Sublist l := List.eraseP_sublist
theorem q5u (b : List Evt) (k : List Int) (g : List (List Int)) : qt7 b (k :: g) = qt7 (qgu b k).1 g := rfl
theorem q48 (b : List Evt) (k : List Int) (g : List (List Int)) : qt7 b (g ++ [k]) = (qgu (qt7 b g) k).1 := by unfold qt7; rw [List.foldl_append]; rfl
theorem qn8 : ∀ (g : List (List Int)) (b : List Evt), (qt7 b g).Sublist b
  | [], b => List.Sublist.refl _
  | k :: g, b => by rw [q5u]; exact (qn8 g _).trans (q22 b k)
theorem q2z (i : Int) (p : List Evt × List Evt) (n : Evt) (l : List Evt) : qei i p (n :: l) = qei i (qlh i p n) l := rfl
theorem q24 (i : Int) (p : List Evt × List Evt) (n : Evt) (l : List Evt) : qei i p (l ++ [n]) = qlh i (qei i p l) n := by unfold qei; rw [List.foldl_append]; rfl
theorem qwh (i : Int) (p : List Evt × List Evt) (n : Evt) (l : List Evt) : ((qlh i p n).1 ++ ((qlh i p n).2 ++ l)).Perm (p.1 ++ (p.2 ++ n :: l)) := by
  unfold qlh
  split
  · refine ((qek (n :: p.1)).append_right _).trans ?_
    have h := (List.perm_middle (a := n) (l₁ := p.1 ++ p.2) (l₂ := l)).symm
    rw [List.append_assoc, List.append_assoc] at h
    rw [List.cons_append]; exact h
  · show (p.1 ++ ((p.2 ++ [n]) ++ l)).Perm _
    rw [List.append_assoc]; exact .refl _
theorem qoz (i : Int) : ∀ (l : List Evt) (p : List Evt × List Evt) (m : List Evt), ((qei i p l).1 ++ ((qei i p l).2 ++ m)).Perm (p.1 ++ (p.2 ++ (l ++ m)))
  | [], p, m => .refl _
  | n :: l, p, m => (qoz i l (qlh i p n) m).trans (qwh i p n (l ++ m))
theorem qs7 (i : Int) : ∀ (l : List Evt) (p : List Evt × List Evt), p.1.Pairwise leE → (qei i p l).1.Pairwise leE
  | [], p, h => h
  | n :: l, p, h => qs7 i l _ (by unfold qlh; split; exact qgl _; exact h)
theorem qza (i : Int) : ∀ (l : List Evt) (p : List Evt × List Evt), (∀ b ∈ p.1, b.lp = i) → ∀ b ∈ (qei i p l).1, b.lp = i
  | [], p, h => h
  | n :: l, p, h => qza i l _ (by
    unfold qlh; split
    · intro b hb
      rcases List.mem_cons.1 ((qek _).mem_iff.1 hb) with rfl | hb
      · assumption
      · exact h b hb
    · exact h)
theorem qrx (i : Int) : ∀ (l : List Evt) (p : List Evt × List Evt), (qei i p l).2 = p.2 ++ l.filter (fun n => !decide (n.lp = i))
  | [], p => by simp [qei]
  | n :: l, p => by
    rw [q2z, qrx i l]
    unfold qlh
    by_cases h : n.lp = i
    · rw [if_pos h, List.filter_cons, if_neg (by simp [h])]
    · rw [if_neg h, List.filter_cons, if_pos (by simp [h])]; simp
structure PlOk (p : List Evt × List Evt) (l : List Evt) : Prop where
  sorted : p.1.Pairwise leE
  keys : qk7 (p.1 ++ (p.2 ++ l))
  len : (p.1 ++ (p.2 ++ l)).length ≤ 1000000
  ok : qg4 (p.1 ++ (p.2 ++ l))
theorem PlOk.next {p : List Evt × List Evt} {n : Evt} {l : List Evt} (i : Int) (h : PlOk p (n :: l)) : PlOk (qlh i p n) l := by
  have hp := qwh i p n l
  refine ⟨?_, qk7.perm h.keys hp, by rw [hp.length_eq]; exact h.len, fun x hx => h.ok x (hp.mem_iff.1 hx)⟩
  unfold qlh; split
  · exact qgl _
  · exact h.sorted
theorem PlOk.at (i : Int) : ∀ {l : List Evt} {p : List Evt × List Evt} (h : PlOk p l) (j : Nat), PlOk (qei i p (l.take j)) (l.drop j)
  | [], p, h, j => by simpa [qei] using h
  | n :: l, p, h, 0 => h
  | n :: l, p, h, j + 1 => PlOk.at i (h.next i) j
theorem PlOk.ins {p : List Evt × List Evt} {n : Evt} {l : List Evt} (h : PlOk p (n :: l)) : p.1.length ≤ 1000000 ∧ qg4 p.1 ∧ n.key.length ≤ 9223372036854775807 ∧ p.1.Pairwise leE ∧ qud (n :: p.1) := by
  refine ⟨by have := h.len; rw [List.length_append] at this; omega, fun x hx => h.ok x (by simp [hx]), h.ok n (by simp), h.sorted, ?_⟩
  have hs : (p.1 ++ [n]).Sublist (p.1 ++ (p.2 ++ n :: l)) := List.Sublist.append_left ((List.singleton_sublist.2 (by simp))) p.1
  exact (qk7.dist (List.Pairwise.sublist hs h.keys)).perm (List.perm_append_singleton n p.1).symm
structure WInv (c : Cfg) (i : Nat) (w : WSt) (O : List Evt) (S : Sim) (H : List Evt) : Prop where
  K : SInvK c S H
  il : i < c.lps.length
  lp : S.lps[i]? = some w.lp
  sub : ∃ T, (w.box ++ (w.sent ++ (O ++ T))).Perm S.pend
  sorted : w.box.Pairwise leE
  own : ∀ b ∈ w.box, b.lp = i
section
variable {c : Cfg} {i : Nat} {w : WSt} {O : List Evt} {S : Sim} {H : List Evt}
theorem WInv.mem (h : WInv c i w O S H) {e : Evt} (he : e ∈ w.box ∨ e ∈ w.sent ∨ e ∈ O) : e ∈ S.pend := by
  obtain ⟨T, hT⟩ := h.sub
  refine hT.mem_iff.1 ?_
  rcases he with he | he | he <;> simp [he]
theorem WInv.ready (h : WInv c i w O S H) (hn : H.length ≤ 20000) {e : Evt} {rest : List Evt} (hb : w.box = e :: rest) : e.lp = i ∧ Ready c w.lp e ∧ q28 S e.lp = w.lp := by
  have h1 := h.own e (by rw [hb]; simp)
  obtain ⟨x, hx, hl, R⟩ := h.K.headM (h.mem (e := e) (.inl (by rw [hb]; simp))) hn
  rw [h1, Int.toNat_natCast, h.lp] at hx
  cases hx
  exact ⟨h1, R, hl⟩
theorem WInv.len (h : WInv c i w O S H) : w.box.length + (w.sent.length + O.length) ≤ 64 + 16 * H.length := by
  obtain ⟨T, hT⟩ := h.sub
  have := hT.length_eq
  have := h.K.len
  simp only [List.length_append] at *
  omega
theorem WInv.keyLen (h : WInv c i w O S H) {e : Evt} (he : e ∈ w.box ∨ e ∈ w.sent ∨ e ∈ O) : e.key.length ≤ 2 + H.length := (h.K.ev e (List.mem_append_right _ (h.mem he))).key.2
theorem WInv.plOk (h : WInv c i w O S H) (hn : H.length ≤ 20000) {e : Evt} {rest : List Evt} (hb : w.box = e :: rest) : PlOk (rest, w.sent) (qbe c w.lp e).out := by
  obtain ⟨h1, R, hl⟩ := h.ready hn hb
  obtain ⟨T, hT⟩ := h.sub
  rw [hb] at hT
  have hk := h.K.keyNeP hT.symm hn
  rw [hl] at hk
  have hk2 := (List.pairwise_append.1 hk).2.1
  have hsub : (rest ++ (w.sent ++ (qbe c w.lp e).out)).Sublist (rest ++ (w.sent ++ (O ++ T)) ++ (qbe c w.lp e).out) := by
    rw [List.append_assoc]
    refine List.Sublist.append_left ?_ rest
    rw [List.append_assoc]
    exact List.Sublist.append_left (List.sublist_append_right _ _) _
  have hl1 := h.len
  have hz := R.sizes
  rw [hb] at hl1
  refine ⟨?_, List.Pairwise.sublist hsub hk2, ?_, ?_⟩
  · have := h.sorted; rw [hb, List.pairwise_cons] at this; exact this.2
  · simp only [List.length_append, List.length_cons] at hl1 ⊢; omega
  · intro x hx
    simp only [List.mem_append] at hx
    rcases hx with hx | hx | hx
    · have := h.keyLen (e := x) (.inl (by rw [hb]; simp [hx])); omega
    · have := h.keyLen (e := x) (.inr (.inl hx)); omega
    · have := hz.2.2.2.1 x hx; omega
theorem WInv.step (h : WInv c i w O S H) (hn : H.length ≤ 20000) {e : Evt} {rest : List Evt} (hb : w.box = e :: rest) :
    ∃ S' : Sim, WInv c i (w.step c e rest) O S' (H ++ [e]) ∧ S'.lps = S.lps.set i (w.step c e rest).lp := by
  obtain ⟨h1, R, hl⟩ := h.ready hn hb
  obtain ⟨T, hT⟩ := h.sub
  have hp : S.pend.Perm (e :: (rest ++ (w.sent ++ (O ++ T)))) := by rw [hb] at hT; exact hT.symm
  have hK := h.K.stepP (P := rest ++ (w.sent ++ (O ++ T)) ++ (qbe c w.lp e).out) (T := []) false hp hn (by rw [hl, List.append_nil])
  rw [hl] at hK
  have hi : e.lp.toNat = i := by omega
  refine ⟨_, ⟨hK, h.il, ?_, ?_, ?_, ?_⟩, by rw [hi]; rfl⟩
  · show (S.lps.set e.lp.toNat (qbe c w.lp e).lp)[i]? = _
    rw [hi, List.getElem?_set_self (by rw [h.K.lpl]; exact h.il)]; rfl
  · show ∃ T', (qt7 (qei e.lp (rest, w.sent) (qbe c w.lp e).out).1 (qbe c w.lp e).gone ++ ((qei e.lp (rest, w.sent) (qbe c w.lp e).out).2 ++ (O ++ T'))).Perm (rest ++ (w.sent ++ (O ++ T)) ++ (qbe c w.lp e).out)
    have hs := qn8 (qbe c w.lp e).gone (qei e.lp (rest, w.sent) (qbe c w.lp e).out).1
    have hpl := qoz e.lp (qbe c w.lp e).out (rest, w.sent) (O ++ T)
    generalize (qei e.lp (rest, w.sent) (qbe c w.lp e).out).1 = B at *
    generalize (qei e.lp (rest, w.sent) (qbe c w.lp e).out).2 = Z at *
    generalize qt7 B (qbe c w.lp e).gone = B' at *
    obtain ⟨D, hD⟩ : ∃ D, (B' ++ D).Perm B := by
      clear hpl hK
      induction hs with
      | slnil => exact ⟨[], .refl _⟩
      | cons a _ ih => obtain ⟨D, hD⟩ := ih; exact ⟨a :: D, List.perm_middle.trans (hD.cons a)⟩
      | cons_cons a _ ih => obtain ⟨D, hD⟩ := ih; exact ⟨D, hD.cons a⟩
    refine ⟨D ++ T, ?_⟩
    have e1 : (B' ++ (Z ++ (O ++ (D ++ T)))).Perm ((B' ++ D) ++ (Z ++ (O ++ T))) := by
      rw [List.append_assoc]
      refine List.Perm.append_left B' ?_
      have : (Z ++ (O ++ (D ++ T))) = (Z ++ O) ++ (D ++ T) := by simp
      rw [this]
      refine (List.perm_append_comm_assoc (Z ++ O) D T).trans ?_
      simp
    refine e1.trans ((hD.append_right _).trans (hpl.trans ?_))
    simp only [List.append_assoc]
    refine List.Perm.append_left rest (List.Perm.append_left w.sent ?_)
    refine (List.perm_append_comm (l₁ := (qbe c w.lp e).out) (l₂ := O ++ T)).trans ?_
    simp
  · have hs := qn8 (qbe c w.lp e).gone (qei e.lp (rest, w.sent) (qbe c w.lp e).out).1
    refine List.Pairwise.sublist hs (qs7 _ _ _ ?_)
    have := h.sorted; rw [hb, List.pairwise_cons] at this; exact this.2
  · intro b hbm
    have hs := qn8 (qbe c w.lp e).gone (qei e.lp (rest, w.sent) (qbe c w.lp e).out).1
    have := qza e.lp (qbe c w.lp e).out (rest, w.sent) (fun b hb' => by rw [h1]; exact h.own b (by rw [hb]; simp [hb'])) b (hs.subset hbm)
    rw [this, h1]
end
set_option maxRecDepth 10000
def quq (a b : Int) : Int := if b < a then b else a
def qk6 (bs : List (List Evt)) : List Int := (bs.filterMap List.head?).map Evt.time
def qzk (bs : List (List Evt)) : Option Int := match qk6 bs with
  | [] => none
  | x :: r => some (r.foldl quq x)
theorem q3e (bs : List (List Evt)) (b : List Evt) : qk6 (bs ++ [b]) = qk6 bs ++ (b.head?.map Evt.time).toList := by
  unfold qk6
  rw [List.filterMap_append, List.map_append]
  cases b <;> simp
theorem qzs (bs : List (List Evt)) : (qk6 bs).length ≤ bs.length := by
  unfold qk6; rw [List.length_map]; exact List.length_filterMap_le _ _
theorem min_ev (x : Int) (r : List Int) (c : Bool) (h : r.length ≤ 1000) : qa7 (evL T) qc9 [(.fsl ((x :: r).map qbz) c)] = some (ii (r.foldl quq x)) := by
  have hL : ∃ y, itB (exec (evL T) itL none qd4) (qr [0, 3, 4] true 0) ⟨[(0, (.fsl ((x :: r).map qbz) c)), (3, (ii x)), (4, (ii ((1 : Nat))))], []⟩ [] = some y ∧ (y.1 = .exit 0 ∧ y.2.1.marks = [] ∧ y.2.2 = [] ∧ Ev.look y.2.1.vars 3 = some (ii (r.foldl quq x))) := by
    have key := qfg (f := exec (evL T) itL none qd4) (s := qr [0, 3, 4] true 0) (α := Int)
      (fun i a => ⟨[(0, (.fsl ((x :: r).map qbz) c)), (3, (ii a)), (4, (ii (i + 1 : Nat)))], []⟩) (fun _ _ => []) (fun i a => a = (r.take i).foldl quq x) r.length
      (fun y => y.1 = .exit 0 ∧ y.2.1.marks = [] ∧ y.2.2 = [] ∧ Ev.look y.2.1.vars 3 = some (ii (r.foldl quq x))) ?_ ?_ 0 x (Nat.zero_le _) rfl
    · exact key
    · rintro i a hi rfl
      obtain ⟨v, hv⟩ : ∃ v, r[i]? = some v := ⟨_, List.getElem?_eq_getElem hi⟩
      have hi' : ((i + 1 : Nat) : Int) < ((r.length + 1 : Nat) : Int) := by omega
      have hw : IntKind.i64.wrap (((i + 1 : Nat) : Int) + 1) = ((i + 1 + 1 : Nat) : Int) := by rw [qar (by omega) (by omega)]; simp
      refine .inl ⟨quq ((r.take i).foldl quq x) v, ?_, ?_⟩
      · simp only [qd4, Int.natCast_nonneg, Int.toNat_natCast, List.getElem?_map, Option.map_some, quq, qbz, List.map_cons, hv, hi', hw, qx, Ev.exec, qb, qe, qc, qah, Ev.Opnd.ev, Ev.Env.get, Ev.Env.set, Ev.look, qf, qv, qap, qi, qr, Ev.keep, qal, qad, qg, qbc, qm, qh, qd, qaj, List.length_map, ↓qn, Ev.it1, ↓reduceIte, List.length_cons, List.length_nil, List.getElem?_cons_succ, zfe, List.head?_cons, Nat.reduceEqDiff, reduceCtorEq, decide_true, zfc, zfa, and_self, zfd, eq_self]
      · rw [List.take_add_one, hv, List.foldl_append]; rfl
    · rintro a rfl
      rw [List.take_length]
      simp only [qd4, qbz, List.map_cons, Int.lt_irrefl, Ev.exec, qb, qe, qc, qah, Ev.Opnd.ev, Ev.Env.get, Ev.Env.set, Ev.look, qi, List.length_map, ↓qn, Ev.it1, ↓reduceIte, List.length_cons, Nat.reduceEqDiff, reduceCtorEq, decide_false, zfa, eq_self]
      exact ⟨_, rfl, rfl, rfl, rfl, rfl⟩
  obtain ⟨⟨y, e, σ⟩, k1, k2, k3, k4, k5⟩ := hL
  simp only at k2 k3 k4 k5
  subst k2; subst k4
  simp only [List.map_cons, qbz] at k1
  have c0 : ¬ ((r.length + 1 : Nat) : Int) < 1 := by omega
  have e1 : ((1 : Nat) : Int) = 1 := rfl
  rw [e1] at k1
  rw [qa7, qae qo6 qoi]
  simp only [qgp, qbz, List.map_cons, c0, k1, k3, k5, qx, Int.le_refl, Int.toNat_zero, qk, Ev.exec, qb, qe, qc, qah, Ev.Opnd.ev, Ev.Env.get, Ev.Env.set, Ev.look, ql, qf, qv, qi, qj, qs, qak, Ev.kill, qai, qr, Ev.keep, qal, qad, qg, qbc, qm, qh, qd, qaj, qac, List.length_map, ↓qn, ↓qa0, ↓reduceIte, List.length_cons, List.length_nil, List.getElem?_cons_zero, zfe, List.head?_cons, Nat.reduceEqDiff, reduceCtorEq, decide_false, zfc, zfa, and_self, zfd, eq_self]
theorem Floor_ev (bs : List (List Evt)) (c : Bool) (h : bs.length ≤ 1000) : qa7 (evL T) qem [(.fsl ((bs).map qcu) c)] = some (.tup [(ii (((qzk bs).getD 0))), (bb (((qzk bs).isSome)))]) := by
  have hL : ∃ y, itB (exec (evL T) itL none qft) (qr [4, 7, 8, 9] true 1) ⟨[(4, .sl 0 0 0 0 false), (7, (.fsl ((bs).map qcu) c)), (8, (ii bs.length)), (9, (ii ((0 : Nat))))], []⟩ [.row 1 [] 0] = some y ∧
      ∃ g : Nat, y.1 = .exit 0 ∧ y.2.1.marks = [] ∧ y.2.2 = [.row 1 ((qk6 bs).map qbz) g] ∧ Ev.look y.2.1.vars 4 = some (.sl 0 g 0 (qk6 bs).length false) := by
    have key := qfg (f := exec (evL T) itL none qft) (s := qr [4, 7, 8, 9] true 1) (α := List Int × Nat)
      (fun i a => ⟨[(4, .sl 0 a.2 0 a.1.length false), (7, (.fsl ((bs).map qcu) c)), (8, (ii bs.length)), (9, (ii i))], []⟩) (fun _ a => [.row 1 (a.1.map qbz) a.2]) (fun i a => a.1 = qk6 (bs.take i)) bs.length
      (fun y => ∃ g : Nat, y.1 = .exit 0 ∧ y.2.1.marks = [] ∧ y.2.2 = [.row 1 ((qk6 bs).map qbz) g] ∧ Ev.look y.2.1.vars 4 = some (.sl 0 g 0 (qk6 bs).length false)) ?_ ?_ 0 ([], 0) (Nat.zero_le _) rfl
    · exact key
    · rintro i ⟨l, g⟩ hi hl
      simp only at hl ⊢
      obtain ⟨v, hv⟩ : ∃ v, bs[i]? = some v := ⟨_, List.getElem?_eq_getElem hi⟩
      have hi' : (i : Int) < (bs.length : Int) := by omega
      have hw : IntKind.i64.wrap ((i : Int) + 1) = ((i + 1 : Nat) : Int) := by rw [qar (by omega) (by omega)]; simp
      have hf : qk6 (bs.take (i + 1)) = qk6 (bs.take i) ++ (v.head?.map Evt.time).toList := by rw [List.take_add_one, hv]; exact q3e _ _
      have hll : l.length ≤ 1000 := by rw [hl]; have := qzs (bs.take i); have := List.length_take_le i bs; omega
      cases v with
      | nil =>
        refine .inl ⟨(l, g), ?_, by simp only; rw [hf, hl]; exact (List.append_nil _).symm⟩
        simp only [qft, Int.natCast_nonneg, Int.toNat_natCast, List.getElem?_map, Option.map_some, hv, hi', hw, qcu, List.map_nil, gt_iff_lt, Int.lt_irrefl, qja, qx, Ev.exec, qb, qe, qc, qah, Ev.Opnd.ev, Ev.Env.get, Ev.Env.set, Ev.look, qf, qv, qap, qi, qbb, qr, Ev.keep, qal, qad, qg, Ev.SObj.lo, qbc, qm, qdn, ↓qn, Ev.it1, ↓reduceIte, List.length_cons, List.length_nil, List.take_succ_cons, zfe, List.head?_cons, Nat.reduceEqDiff, Int.cast_ofNat_Int, decide_true, decide_false, zfc, zfa, and_self, zfd, Nat.lt_add_one, eq_self]
      | cons e r =>
        refine .inl ⟨(l ++ [e.time], g + 1), ?_, by simp only; rw [hf, hl]; rfl⟩
        have c1 : ((r.length + 1 : Nat) : Int) > 0 := by omega
        have b : (l.length + 1) * 8 ≤ 140737488355328 := by omega
        have tk : List.take l.length (l.map qbz) = l.map qbz := List.take_of_length_le (by simp)
        have lo := qx 1 (l ++ [e.time])
        have hle : l.length ≤ l.length := Nat.le_refl _
        rw [List.map_append] at lo
        simp only [List.map_cons, List.map_nil, qbz] at lo
        obtain ⟨et, ek, el, ei, ep, ea⟩ := e
        simp only [List.map_append, List.length_append, List.map_cons, List.map_nil, qbz] at lo ⊢
        simp only [qft, Int.natCast_nonneg, Int.toNat_natCast, List.getElem?_map, Option.map_some, hv, hi', hw, c1, b, tk, lo, hle, qcu, Evt.r, List.map_cons, Int.le_refl, Int.toNat_zero, qja, Ev.exec, qb, qe, qc, qah, qn4, Ev.Opnd.ev, Ev.Env.get, Ev.Env.set, Ev.look, qf, qbt, qv, qfz, Ev.AV.cells, Ev.AV.uc, qo, Ev.AV.plain, qap, qi, qbb, qr, Ev.keep, qal, qad, qg, Ev.SObj.lo, qbc, qm, qdn, qbg, qbf, List.replicate_one, List.length_map, ↓qn, Ev.it1, ↓reduceIte, List.length_cons, List.length_nil, List.getElem?_cons_zero, List.take_succ_cons, zfe, List.drop_zero, List.set_cons_zero, List.head?_cons, Nat.reduceAdd, Nat.reduceEqDiff, Nat.reduceMul, Nat.reduceLeDiff, Nat.reducePow, decide_true, zfc, zfa, and_self, ne_eq, zfb, zff, zfd, Nat.lt_add_one, eq_self]
    · rintro ⟨l, g⟩ hl
      rw [List.take_length] at hl
      simp only at hl ⊢
      simp only [qft, Int.lt_irrefl, Ev.exec, qb, qe, qc, qah, Ev.Opnd.ev, Ev.Env.get, Ev.Env.set, Ev.look, qi, ↓qn, Ev.it1, ↓reduceIte, Nat.reduceEqDiff, decide_false, zfa, eq_self]
      exact ⟨_, rfl, g, rfl, rfl, by rw [hl], by rw [hl]; rfl⟩
  obtain ⟨⟨y, e, σ⟩, k1, g, k2, k3, k4, k5⟩ := hL
  simp only [Int.ofNat_zero] at k1 k2 k3 k4 k5
  subst k2; subst k4
  have hfl := qzs bs
  unfold qzk
  rw [qa7, qae qvq qtz]
  cases hf : qk6 bs with
  | nil =>
    rw [hf] at k1 k5
    simp only [List.map_nil, List.length_nil] at k1 k5
    simp only [qjs, k1, k3, k5, qja, Option.getD_none, qk, Ev.exec, qb, qe, qc, qah, Ev.Opnd.ev, Ev.Env.get, Ev.Env.set, Ev.look, ql, qas, qj, qs, qak, Ev.kill, qai, qr, Ev.keep, qal, qad, qg, Ev.SObj.lo, qbc, qb1, qm, qdn, qh, qd, qu, qac, List.length_map, ↓qn, ↓qa0, ↓reduceIte, List.length_cons, List.length_nil, List.take_succ_cons, List.take_zero, zfe, List.nil_append, Nat.reduceEqDiff, Int.cast_ofNat_Int, reduceCtorEq, decide_true, zfc, and_self, zfd, Nat.lt_add_one, Option.isSome_none, eq_self]
  | cons x r =>
    rw [hf] at k1 k5 hfl
    have hm := min_ev x r false (by simp at hfl; omega)
    have c0 : ¬ ((r.length + 1 : Nat) : Int) = 0 := by omega
    have tk : List.take (r.length + 1) ((x :: r).map qbz) = (x :: r).map qbz := List.take_of_length_le (by simp)
    have hln : ((x :: r).map qbz).length = r.length + 1 := by simp
    have hlo : qiz 0 ((x :: r).map qbz) = true := qx _ _
    simp only [List.length_cons] at k1 k5
    generalize (x :: r).map qbz = R at *
    simp only [qjs, k1, k3, k5, c0, tk, hln, hlo, hm, qja, Nat.le_refl, Option.getD_some, qk, Ev.exec, qb, qe, qc, qa5, qah, Ev.evs, Ev.Opnd.ev, Ev.Env.get, Ev.Env.set, Ev.look, ql, qas, qj, qs, qak, Ev.kill, qai, qr, Ev.keep, qal, qad, qg, Ev.SObj.lo, qbc, qb1, qm, qdn, qh, qd, qu, qac, List.length_map, ↓qn, ↓qa0, ↓reduceIte, List.length_cons, List.length_nil, List.getElem?_cons_zero, List.take_succ_cons, List.take_zero, zfe, List.drop_zero, List.nil_append, List.set_cons_zero, Nat.reduceEqDiff, reduceCtorEq, decide_true, decide_false, zfc, zfa, and_self, zfd, Nat.lt_add_one, Nat.le_refl, Option.isSome_some, eq_self]
theorem q44 (c : Cfg) (f : Int) (hf : 0 ≤ f ∧ f ≤ 1152921504606846976) (hl : 0 ≤ c.look ∧ c.look ≤ 9223372036854775807) (hF : 0 ≤ c.fin ∧ c.fin ≤ 1152921504606846976) : qa7 (evL T) qdr [(.agg [(.fsl ((c.lps).map lpC) false), (.fsl ((c.progs).map qcd) false), (ii c.look), (ii c.fin), (ii c.cap)]), (ii f)] = some (ii (f + quq c.look (c.fin - f))) := by
  have w1 : IntKind.i64.wrap (c.fin - f) = c.fin - f := qar (by omega) (by omega)
  have w2 : IntKind.i64.wrap (f + quq c.look (c.fin - f)) = f + quq c.look (c.fin - f) := by
    unfold quq; split <;> exact qar (by omega) (by omega)
  unfold quq at w2 ⊢
  rw [qa7, qae qsq qr3]
  simp only [qjx, w1, w2, qk, Ev.exec, qb, qe, qc, qah, Ev.Opnd.ev, Ev.Env.get, Ev.Env.set, Ev.look, ql, qf, qv, Ev.AV.cells, qo, Ev.AV.plain, qap, qo5, qj, qs, qak, Ev.kill, qai, qg, qbc, qac, ↓qn, ↓reduceIte, List.length_cons, List.length_nil, zfe, List.drop_succ_cons, List.drop_zero, List.head?_cons, Nat.reduceAdd, Nat.reduceEqDiff, reduceCtorEq, zfc, zfa, and_self, ne_eq, zfb, zff, zfd, eq_self]
set_option maxRecDepth 10000
section
variable {c : Cfg} {x : Lp} {e : Evt}
theorem q0g (hp : x.procs = []) : qle x e = none := by
  unfold qle
  rw [hp]; simp
theorem q1x (hp : x.procs = []) : (qbe c x e).lp.procs = [] := by
  unfold qbe
  split
  · exact hp
  · rw [q0g hp]; exact hp
theorem Exec_evF (h : Ready c x e) (f : Bool) (hf : f = true → x.procs = []) : qa7 (evL T) qdp [(.agg [(.fsl ((c.lps).map lpC) false), (.fsl ((c.progs).map qcd) false), (ii c.look), (ii c.fin), (ii c.cap)]), (.agg [(ii x.r0), (ii x.r1), (.fsl ((x.procs).map Pr.r) f), (ii x.sum)]), (.agg [(ii e.time), (.fsl ((e.key).map qbz) false), (ii e.lp), (ii e.kind), (ii e.proc), (ii e.arg)])] = some (.tup [(.agg [(ii ((qbe c x e).lp.r0)), (ii ((qbe c x e).lp.r1)), (.fsl (((qbe c x e).lp.procs).map Pr.r) f), (ii ((qbe c x e).lp.sum))]), (.fsl (((qbe c x e).out).map Evt.r) (qbe c x e).nil), (.fsl (((qbe c x e).gone).map qel) (qbe c x e).nil), (bb ((qbe c x e).over))]) := by
  cases f with
  | false => exact Exec_ev h
  | true =>
    have hp := hf rfl
    unfold qbe
    rw [qa7, qae qjw qjg]
    rw [q0g hp]
    by_cases hk : e.kind = 3
    · rw [if_pos hk]
      simp only [qbp, hk, hp, List.map_nil, qk, Ev.exec, qb, qe, qc, qah, Ev.Opnd.ev, Ev.Env.get, Ev.Env.set, Ev.look, ql, qf, qv, Ev.AV.cells, Ev.AV.uc, qo, Ev.AV.plain, qap, qas, qj, qs, qak, Ev.kill, qai, qg, qbc, qa2, qb1, qm, qh, qd, qu, qac, ↓qn, ↓reduceIte, List.length_cons, List.length_nil, List.getElem?_cons_zero, List.getElem?_cons_succ, List.take_succ_cons, List.take_zero, zfe, List.drop_succ_cons, List.drop_zero, List.drop_nil, List.cons_append, List.nil_append, List.append_nil, List.set_cons_zero, List.set_cons_succ, List.head?_cons, Nat.reduceAdd, Nat.reduceEqDiff, reduceCtorEq, decide_true, zfc, zfa, and_self, ne_eq, zfb, zff, zfd, Nat.le_refl, eq_self]
    rw [if_neg hk]
    by_cases h1 : e.proc < 0
    · by_cases k1 : e.kind = 1
      · simp only [qbp, k1, h1, hp, List.map_nil, qk, Ev.exec, qb, qe, qc, qah, Ev.Opnd.ev, Ev.Env.get, Ev.Env.set, Ev.Env.unset, Ev.look, ql, qf, qv, Ev.AV.cells, qo, Ev.AV.plain, qas, qbu, qi, qj, qs, qak, Ev.kill, qai, qg, qbc, qa2, qb1, qm, qh, qd, qu, qac, ↓qn, ↓reduceIte, List.length_cons, List.length_nil, List.getElem?_cons_zero, List.getElem?_cons_succ, List.take_succ_cons, List.take_zero, zfe, List.drop_succ_cons, List.drop_zero, List.drop_nil, List.cons_append, List.nil_append, List.append_nil, List.set_cons_zero, List.set_cons_succ, List.head?_cons, Nat.reduceAdd, Nat.reduceEqDiff, Int.reduceEq, reduceCtorEq, decide_true, decide_false, zfc, zfa, and_self, ne_eq, zfb, not_true_eq_false, zff, zfd, Nat.le_refl, eq_self]
      by_cases k2 : e.kind = 2
      · simp only [qbp, k2, h1, hp, List.map_nil, qk, Ev.exec, qb, qe, qc, qah, Ev.Opnd.ev, Ev.Env.get, Ev.Env.set, Ev.look, ql, qf, qv, Ev.AV.cells, qo, Ev.AV.plain, qas, qbu, qi, qj, qs, qak, Ev.kill, qai, qg, qbc, qa2, qb1, qm, qh, qd, qu, qac, ↓qn, ↓reduceIte, List.length_cons, List.length_nil, List.getElem?_cons_zero, List.getElem?_cons_succ, List.take_succ_cons, List.take_zero, zfe, List.drop_succ_cons, List.drop_zero, List.drop_nil, List.cons_append, List.nil_append, List.append_nil, List.set_cons_zero, List.set_cons_succ, List.head?_cons, Nat.reduceAdd, Nat.reduceEqDiff, Int.reduceEq, reduceCtorEq, decide_true, decide_false, zfc, zfa, and_self, ne_eq, zfb, not_true_eq_false, zff, zfd, Nat.le_refl, eq_self]
      · simp only [qbp, hk, k1, k2, hp, List.map_nil, qk, Ev.exec, qb, qe, qc, qah, Ev.Opnd.ev, Ev.Env.get, Ev.Env.set, Ev.look, ql, qf, qv, Ev.AV.cells, qo, Ev.AV.plain, qas, qbu, qj, qs, qak, Ev.kill, qai, qg, qbc, qa2, qb1, qm, qh, qd, qu, qac, ↓qn, ↓reduceIte, List.length_cons, List.length_nil, List.getElem?_cons_zero, List.getElem?_cons_succ, List.take_succ_cons, List.take_zero, zfe, List.drop_succ_cons, List.drop_zero, List.drop_nil, List.cons_append, List.nil_append, List.append_nil, List.set_cons_zero, List.set_cons_succ, List.head?_cons, Nat.reduceAdd, Nat.reduceEqDiff, reduceCtorEq, decide_true, decide_false, zfc, zfa, and_self, ne_eq, zfb, zff, zfd, Nat.le_refl, eq_self]
    have h2 : e.proc ≥ ((0 : Nat) : Int) := by omega
    have h2' : e.proc ≥ 0 := by omega
    · by_cases k1 : e.kind = 1
      · simp only [qbp, k1, h1, h2', hp, List.map_nil, qk, Ev.exec, qb, qe, qc, qah, Ev.Opnd.ev, Ev.Env.get, Ev.Env.set, Ev.Env.unset, Ev.look, ql, qf, qv, Ev.AV.cells, qo, Ev.AV.plain, qas, qbu, qi, qbq, qj, qs, qak, Ev.kill, qai, qg, qbc, qa2, qb1, qm, qh, qd, qu, qac, ↓qn, ↓reduceIte, List.length_cons, List.length_nil, List.getElem?_cons_zero, List.getElem?_cons_succ, List.take_succ_cons, List.take_zero, zfe, List.drop_succ_cons, List.drop_zero, List.drop_nil, List.cons_append, List.nil_append, List.append_nil, List.set_cons_zero, List.set_cons_succ, List.head?_cons, Nat.reduceAdd, Nat.reduceEqDiff, Int.reduceEq, Int.cast_ofNat_Int, reduceCtorEq, decide_true, decide_false, zfc, zfa, and_self, ne_eq, zfb, not_true_eq_false, zff, zfd, Nat.le_refl, eq_self]
      by_cases k2 : e.kind = 2
      · simp only [qbp, k2, h1, h2', hp, List.map_nil, qk, Ev.exec, qb, qe, qc, qah, Ev.Opnd.ev, Ev.Env.get, Ev.Env.set, Ev.look, ql, qf, qv, Ev.AV.cells, qo, Ev.AV.plain, qas, qbu, qi, qbq, qj, qs, qak, Ev.kill, qai, qg, qbc, qa2, qb1, qm, qh, qd, qu, qac, ↓qn, ↓reduceIte, List.length_cons, List.length_nil, List.getElem?_cons_zero, List.getElem?_cons_succ, List.take_succ_cons, List.take_zero, zfe, List.drop_succ_cons, List.drop_zero, List.drop_nil, List.cons_append, List.nil_append, List.append_nil, List.set_cons_zero, List.set_cons_succ, List.head?_cons, Nat.reduceAdd, Nat.reduceEqDiff, Int.reduceEq, Int.cast_ofNat_Int, reduceCtorEq, decide_true, decide_false, zfc, zfa, and_self, ne_eq, zfb, not_true_eq_false, zff, zfd, Nat.le_refl, eq_self]
      · simp only [qbp, hk, k1, k2, hp, List.map_nil, qk, Ev.exec, qb, qe, qc, qah, Ev.Opnd.ev, Ev.Env.get, Ev.Env.set, Ev.look, ql, qf, qv, Ev.AV.cells, qo, Ev.AV.plain, qas, qbu, qj, qs, qak, Ev.kill, qai, qg, qbc, qa2, qb1, qm, qh, qd, qu, qac, ↓qn, ↓reduceIte, List.length_cons, List.length_nil, List.getElem?_cons_zero, List.getElem?_cons_succ, List.take_succ_cons, List.take_zero, zfe, List.drop_succ_cons, List.drop_zero, List.drop_nil, List.cons_append, List.nil_append, List.append_nil, List.set_cons_zero, List.set_cons_succ, List.head?_cons, Nat.reduceAdd, Nat.reduceEqDiff, reduceCtorEq, decide_true, decide_false, zfc, zfa, and_self, ne_eq, zfb, zff, zfd, Nat.le_refl, eq_self]
theorem q7i (h : Ready c x e) (f : Bool) (hf : f = true → x.procs = []) : qa7 (evL T) qet [(.agg [(.fsl ((c.lps).map lpC) false), (.fsl ((c.progs).map qcd) false), (ii c.look), (ii c.fin), (ii c.cap)]), (.agg [(ii x.r0), (ii x.r1), (.fsl ((x.procs).map Pr.r) f), (ii x.sum)]), (.agg [(ii e.time), (.fsl ((e.key).map qbz) false), (ii e.lp), (ii e.kind), (ii e.proc), (ii e.arg)])] = some (.tup [(.agg [(ii ((qbe c x e).lp.r0)), (ii ((qbe c x e).lp.r1)), (.fsl (((qbe c x e).lp.procs).map Pr.r) f), (ii ((qbe c x e).lp.sum))]), (.fsl (((qbe c x e).out).map Evt.r) (qbe c x e).nil), (.fsl (((qbe c x e).gone).map qel) (qbe c x e).nil), (bb ((qbe c x e).over))]) := by
  cases f with
  | false => exact RExec_ev h
  | true =>
    have hp := hf rfl
    unfold qbe
    rw [qa7, qae qkx qko]
    rw [q0g hp]
    by_cases hk : e.kind = 3
    · rw [if_pos hk]
      simp only [qb0, hk, hp, List.map_nil, Nat.reduceLeDiff, qk, Ev.exec, qb, qe, qc, qah, Ev.Opnd.ev, Ev.Env.get, Ev.Env.set, Ev.look, ql, qf, qv, qfs, Ev.AV.cells, Ev.AV.uc, qo, Ev.AV.plain, qap, qas, qj, qs, qak, Ev.kill, qai, qg, qbc, qa2, qb1, qm, qh, qd, qu, qac, ↓qn, ↓reduceIte, List.length_cons, List.length_nil, List.getElem?_cons_zero, List.getElem?_cons_succ, List.take_succ_cons, List.take_zero, zfe, List.drop_succ_cons, List.drop_zero, List.drop_nil, List.cons_append, List.nil_append, List.append_nil, List.set_cons_zero, List.set_cons_succ, List.head?_cons, Nat.reduceAdd, Nat.reduceEqDiff, Nat.reduceLeDiff, reduceCtorEq, decide_true, zfc, zfa, and_self, ne_eq, zfb, zff, zfd, Nat.add_zero, Nat.le_refl, eq_self]
    rw [if_neg hk]
    by_cases h1 : e.proc < 0
    · by_cases k1 : e.kind = 1
      · simp only [qb0, k1, h1, hp, List.map_nil, Nat.reduceLeDiff, qk, Ev.exec, qb, qe, qc, qah, Ev.Opnd.ev, Ev.Env.get, Ev.Env.set, Ev.Env.unset, Ev.look, ql, qf, qv, qfs, Ev.AV.cells, qo, Ev.AV.plain, qas, qbu, qi, qj, qs, qak, Ev.kill, qai, qg, qbc, qa2, qb1, qm, qh, qd, qu, qac, ↓qn, ↓reduceIte, List.length_cons, List.length_nil, List.getElem?_cons_zero, List.getElem?_cons_succ, List.take_succ_cons, List.take_zero, zfe, List.drop_succ_cons, List.drop_zero, List.drop_nil, List.cons_append, List.nil_append, List.append_nil, List.set_cons_zero, List.set_cons_succ, List.head?_cons, Nat.reduceAdd, Nat.reduceEqDiff, Nat.reduceLeDiff, Int.reduceEq, reduceCtorEq, decide_true, decide_false, zfc, zfa, Bool.true_eq_false, and_self, ne_eq, zfb, not_true_eq_false, zff, zfd, Nat.le_refl, eq_self]
      by_cases k2 : e.kind = 2
      · simp only [qb0, k2, h1, hp, List.map_nil, Nat.reduceLeDiff, qk, Ev.exec, qb, qe, qc, qah, Ev.Opnd.ev, Ev.Env.get, Ev.Env.set, Ev.Env.unset, Ev.look, ql, qf, qv, qfs, Ev.AV.cells, qo, Ev.AV.plain, qas, qbu, qi, qj, qs, qak, Ev.kill, qai, qg, qbc, qa2, qb1, qm, qh, qd, qu, qac, ↓qn, ↓reduceIte, List.length_cons, List.length_nil, List.getElem?_cons_zero, List.getElem?_cons_succ, List.take_succ_cons, List.take_zero, zfe, List.drop_succ_cons, List.drop_zero, List.drop_nil, List.cons_append, List.nil_append, List.append_nil, List.set_cons_zero, List.set_cons_succ, List.head?_cons, Nat.reduceAdd, Nat.reduceEqDiff, Nat.reduceLeDiff, Int.reduceEq, reduceCtorEq, decide_true, decide_false, zfc, zfa, Bool.true_eq_false, and_self, ne_eq, zfb, not_true_eq_false, zff, zfd, Nat.le_refl, eq_self]
      · simp only [qb0, hk, k1, k2, hp, List.map_nil, Nat.reduceLeDiff, qk, Ev.exec, qb, qe, qc, qah, Ev.Opnd.ev, Ev.Env.get, Ev.Env.set, Ev.Env.unset, Ev.look, ql, qf, qv, qfs, Ev.AV.cells, qo, Ev.AV.plain, qas, qbu, qj, qs, qak, Ev.kill, qai, qg, qbc, qa2, qb1, qm, qh, qd, qu, qac, ↓qn, ↓reduceIte, List.length_cons, List.length_nil, List.getElem?_cons_zero, List.getElem?_cons_succ, List.take_succ_cons, List.take_zero, zfe, List.drop_succ_cons, List.drop_zero, List.drop_nil, List.cons_append, List.nil_append, List.append_nil, List.set_cons_zero, List.set_cons_succ, List.head?_cons, Nat.reduceAdd, Nat.reduceEqDiff, Nat.reduceLeDiff, reduceCtorEq, decide_true, decide_false, zfc, zfa, Bool.true_eq_false, and_self, ne_eq, zfb, zff, zfd, Nat.le_refl, eq_self]
    have h2 : e.proc ≥ ((0 : Nat) : Int) := by omega
    have h2' : e.proc ≥ 0 := by omega
    · by_cases k1 : e.kind = 1
      · simp only [qb0, k1, h1, h2', hp, List.map_nil, Nat.reduceLeDiff, qk, Ev.exec, qb, qe, qc, qah, Ev.Opnd.ev, Ev.Env.get, Ev.Env.set, Ev.Env.unset, Ev.look, ql, qf, qv, qfs, Ev.AV.cells, qo, Ev.AV.plain, qas, qbu, qi, qbq, qj, qs, qak, Ev.kill, qai, qg, qbc, qa2, qb1, qm, qh, qd, qu, qac, ↓qn, ↓reduceIte, List.length_cons, List.length_nil, List.getElem?_cons_zero, List.getElem?_cons_succ, List.take_succ_cons, List.take_zero, zfe, List.drop_succ_cons, List.drop_zero, List.drop_nil, List.cons_append, List.nil_append, List.append_nil, List.set_cons_zero, List.set_cons_succ, List.head?_cons, Nat.reduceAdd, Nat.reduceEqDiff, Nat.reduceLeDiff, Int.reduceEq, Int.cast_ofNat_Int, reduceCtorEq, decide_true, decide_false, zfc, zfa, Bool.true_eq_false, and_self, ne_eq, zfb, not_true_eq_false, zff, zfd, Nat.le_refl, eq_self]
      by_cases k2 : e.kind = 2
      · simp only [qb0, k2, h1, h2', hp, List.map_nil, Nat.reduceLeDiff, qk, Ev.exec, qb, qe, qc, qah, Ev.Opnd.ev, Ev.Env.get, Ev.Env.set, Ev.Env.unset, Ev.look, ql, qf, qv, qfs, Ev.AV.cells, qo, Ev.AV.plain, qas, qbu, qi, qbq, qj, qs, qak, Ev.kill, qai, qg, qbc, qa2, qb1, qm, qh, qd, qu, qac, ↓qn, ↓reduceIte, List.length_cons, List.length_nil, List.getElem?_cons_zero, List.getElem?_cons_succ, List.take_succ_cons, List.take_zero, zfe, List.drop_succ_cons, List.drop_zero, List.drop_nil, List.cons_append, List.nil_append, List.append_nil, List.set_cons_zero, List.set_cons_succ, List.head?_cons, Nat.reduceAdd, Nat.reduceEqDiff, Nat.reduceLeDiff, Int.reduceEq, Int.cast_ofNat_Int, reduceCtorEq, decide_true, decide_false, zfc, zfa, Bool.true_eq_false, and_self, ne_eq, zfb, not_true_eq_false, zff, zfd, Nat.le_refl, eq_self]
      · simp only [qb0, hk, k1, k2, hp, List.map_nil, Nat.reduceLeDiff, qk, Ev.exec, qb, qe, qc, qah, Ev.Opnd.ev, Ev.Env.get, Ev.Env.set, Ev.Env.unset, Ev.look, ql, qf, qv, qfs, Ev.AV.cells, qo, Ev.AV.plain, qas, qbu, qj, qs, qak, Ev.kill, qai, qg, qbc, qa2, qb1, qm, qh, qd, qu, qac, ↓qn, ↓reduceIte, List.length_cons, List.length_nil, List.getElem?_cons_zero, List.getElem?_cons_succ, List.take_succ_cons, List.take_zero, zfe, List.drop_succ_cons, List.drop_zero, List.drop_nil, List.cons_append, List.nil_append, List.append_nil, List.set_cons_zero, List.set_cons_succ, List.head?_cons, Nat.reduceAdd, Nat.reduceEqDiff, Nat.reduceLeDiff, reduceCtorEq, decide_true, decide_false, zfc, zfa, Bool.true_eq_false, and_self, ne_eq, zfb, zff, zfd, Nat.le_refl, eq_self]
end
set_option maxRecDepth 10000
section
variable {c : Cfg} {e : Evt} (R0 X4 X5 X6 X7 X8 X9 : SObj) (dn : List Evt) (g1 : Nat) (x : Lp) (o f : Bool)
theorem exec_l1 (h0 : R0.lo 10 = true) (h4 : X4.lo 10 = true) (h5 : X5.lo 10 = true) (h6 : X6.lo 10 = true) (h7 : X7.lo 10 = true) (h8 : X8.lo 10 = true) (h9 : X9.lo 10 = true) (out : List Evt) (co : Bool) (p : List Evt × List Evt) (g2 : Nat) (hP : PlOk p out) (v8 : AV) (hv8 : v8.lo 10 = true) :
    ∃ y, itB (exec (evL T) itL none qcq) (qr [0, 5, 8, 50, 51, 52] true 10) ⟨[(0, .ptr 3 0 0 0), (5, (.fptr [(ii e.time), (.fsl ((e.key).map qbz) false), (ii e.lp), (ii e.kind), (ii e.proc), (ii e.arg)])), (8, v8), (50, (.fsl ((out).map Evt.r) co)), (51, (ii out.length)), (52, (ii ((0 : Nat))))], []⟩ (R0 :: .row 6 ((dn).map Evt.r) g1 :: .row 6 ((p.2).map Evt.r) g2 :: .row 8 [[(ii ((x).r0)), (ii ((x).r1)), (.fsl (((x).procs).map Pr.r) f), (ii ((x).sum)), (.fsl ((p.1).map Evt.r) false), .sl 1 g1 0 (dn).length false, .sl 2 g2 0 (p.2).length false, (bb o)]] 0 :: [X4, X5, X6, X7, X8, X9]) = some y ∧
      ∃ g2' : Nat, y.1 = .exit 0 ∧ y.2.1.marks = [] ∧ y.2.2 = (R0 :: .row 6 ((dn).map Evt.r) g1 :: .row 6 (((qei e.lp p out).2).map Evt.r) g2' :: .row 8 [[(ii ((x).r0)), (ii ((x).r1)), (.fsl (((x).procs).map Pr.r) f), (ii ((x).sum)), (.fsl (((qei e.lp p out).1).map Evt.r) false), .sl 1 g1 0 (dn).length false, .sl 2 g2' 0 ((qei e.lp p out).2).length false, (bb o)]] 0 :: [X4, X5, X6, X7, X8, X9]) ∧ Ev.look y.2.1.vars 0 = some (.ptr 3 0 0 0) ∧ Ev.look y.2.1.vars 8 = some v8 := by
  simp only [SObj.lo] at h0 h4 h5 h6 h7 h8 h9
  have key := qfg (f := exec (evL T) itL none qcq) (s := qr [0, 5, 8, 50, 51, 52] true 10) (α := (List Evt × List Evt) × Nat)
    (fun i a => ⟨[(0, .ptr 3 0 0 0), (5, (.fptr [(ii e.time), (.fsl ((e.key).map qbz) false), (ii e.lp), (ii e.kind), (ii e.proc), (ii e.arg)])), (8, v8), (50, (.fsl ((out).map Evt.r) co)), (51, (ii out.length)), (52, (ii i))], []⟩) (fun _ a => (R0 :: .row 6 ((dn).map Evt.r) g1 :: .row 6 ((a.1.2).map Evt.r) a.2 :: .row 8 [[(ii ((x).r0)), (ii ((x).r1)), (.fsl (((x).procs).map Pr.r) f), (ii ((x).sum)), (.fsl ((a.1.1).map Evt.r) false), .sl 1 g1 0 (dn).length false, .sl 2 a.2 0 (a.1.2).length false, (bb o)]] 0 :: [X4, X5, X6, X7, X8, X9])) (fun i a => a.1 = qei e.lp p (out.take i)) out.length
    (fun y => ∃ g2' : Nat, y.1 = .exit 0 ∧ y.2.1.marks = [] ∧ y.2.2 = (R0 :: .row 6 ((dn).map Evt.r) g1 :: .row 6 (((qei e.lp p out).2).map Evt.r) g2' :: .row 8 [[(ii ((x).r0)), (ii ((x).r1)), (.fsl (((x).procs).map Pr.r) f), (ii ((x).sum)), (.fsl (((qei e.lp p out).1).map Evt.r) false), .sl 1 g1 0 (dn).length false, .sl 2 g2' 0 ((qei e.lp p out).2).length false, (bb o)]] 0 :: [X4, X5, X6, X7, X8, X9]) ∧ Ev.look y.2.1.vars 0 = some (.ptr 3 0 0 0) ∧ Ev.look y.2.1.vars 8 = some v8) ?_ ?_ 0 (p, g2) (Nat.zero_le _) rfl
  · exact key
  · rintro i ⟨⟨b, s⟩, g⟩ hi hbs
    simp only at hbs ⊢
    obtain ⟨n, hn⟩ : ∃ n, out[i]? = some n := ⟨_, List.getElem?_eq_getElem hi⟩
    have hA := PlOk.at e.lp hP i
    rw [← hbs, show out.drop i = n :: out.drop (i + 1) by rw [List.drop_eq_getElem_cons hi]; rw [List.getElem?_eq_getElem hi] at hn; cases hn; rfl] at hA
    have hlen := hP.len
    simp only [List.length_append] at hlen
    have hi' : (i : Int) < (out.length : Int) := by omega
    have hw : IntKind.i64.wrap ((i : Int) + 1) = ((i + 1 : Nat) : Int) := by rw [qar (by omega) (by omega)]; simp
    have hnx : qei e.lp p (out.take (i + 1)) = qlh e.lp (b, s) n := by rw [List.take_add_one, hn, hbs]; exact q24 _ _ _ _
    obtain ⟨i1, i2, i3, i4, i5⟩ := hA.ins
    have hsl := hA.len
    simp only [List.length_append] at hsl
    obtain ⟨et, ek, el, ei, ep, ea⟩ := e
    unfold qlh at hnx
    by_cases hlp : n.lp = el
    · refine .inl ⟨((qgx (n :: b), s), g), ?_, by simp only; rw [hnx, if_pos hlp]⟩
      have hI := quz b false n i1 i2 i3 i4 i5
      obtain ⟨nt, nk, nl, ni, np, na⟩ := n
      simp only at hlp
      subst hlp
      generalize qgx (⟨nt, nk, nl, ni, np, na⟩ :: b) = B at *
      simp only at hI
      simp only [qcq, Int.natCast_nonneg, Int.toNat_natCast, List.getElem?_map, Option.map_some, hn, hi', hw, hI, h0, h4, h5, h6, h7, h8, h9, hv8, Evt.r, qaa, qx, qag, Ev.exec, qb, qe, qc, qa5, qah, Ev.evs, Ev.Opnd.ev, Ev.Env.get, Ev.Env.set, Ev.look, qf, qv, Ev.AV.cells, Ev.AV.uc, qo, Ev.AV.plain, qap, qas, qi, qr, Ev.keep, qal, qad, qg, Ev.SObj.lo, qbc, qa2, qm, qbh, qdn, qg1, qh, qd, qu, qaj, ↓qn, Ev.it1, ↓reduceIte, List.length_cons, List.length_nil, List.getElem?_cons_zero, List.getElem?_cons_succ, List.take_succ_cons, List.take_zero, zfe, List.drop_succ_cons, List.drop_zero, List.drop_nil, List.cons_append, List.nil_append, List.append_nil, List.set_cons_zero, List.set_cons_succ, List.head?_cons, Nat.reduceAdd, Nat.reduceEqDiff, Nat.reduceLT, Nat.reduceLeDiff, reduceCtorEq, decide_true, zfc, zfa, and_self, ne_eq, zfb, zff, zfd, Nat.le_refl, eq_self]
    · refine .inl ⟨((b, s ++ [n]), g + 1), ?_, by simp only; rw [hnx, if_neg hlp]⟩
      have bd : (s.length + 1) * 64 ≤ 140737488355328 := by omega
      have tk : List.take s.length (s.map Evt.r) = s.map Evt.r := List.take_of_length_le (by simp)
      have lo := qaa 10 (s ++ [n])
      have hle : s.length ≤ s.length := Nat.le_refl _
      obtain ⟨nt, nk, nl, ni, np, na⟩ := n
      simp only at hlp
      rw [List.map_append] at lo
      simp only [List.map_append, List.length_append, List.map_cons, List.map_nil, Evt.r] at lo ⊢
      simp only [qcq, Int.natCast_nonneg, Int.toNat_natCast, List.getElem?_map, Option.map_some, hn, hi', hw, hlp, bd, tk, lo, hle, h0, h4, h5, h6, h7, h8, h9, hv8, Evt.r, qaa, qx, qag, Ev.exec, qb, qe, qc, qah, qn4, Ev.Opnd.ev, Ev.Env.get, Ev.Env.set, Ev.look, qf, qbt, qv, qfz, Ev.AV.cells, Ev.AV.uc, qo, Ev.AV.plain, qap, qas, qi, qr, Ev.keep, qal, qad, qg, Ev.SObj.lo, qbc, qm, qbh, qdn, qg1, qh, qd, qu, qaj, qbg, qbf, List.replicate_one, List.length_map, ↓qn, Ev.it1, ↓reduceIte, List.length_cons, List.length_nil, List.getElem?_cons_zero, List.getElem?_cons_succ, List.take_succ_cons, List.take_zero, zfe, List.drop_succ_cons, List.drop_zero, List.drop_nil, List.cons_append, List.nil_append, List.append_nil, List.set_cons_zero, List.set_cons_succ, List.head?_cons, Nat.reduceAdd, Nat.reduceEqDiff, Nat.reduceMul, Nat.reduceLT, Nat.reduceLeDiff, Nat.reducePow, reduceCtorEq, decide_true, decide_false, zfc, zfa, and_self, ne_eq, zfb, zff, zfd, Nat.lt_add_one, Nat.le_refl, eq_self]
  · rintro ⟨⟨b, s⟩, g⟩ hbs
    rw [List.take_length] at hbs
    simp only at hbs ⊢
    rw [← hbs]
    simp only [qcq, Int.lt_irrefl, Ev.exec, qb, qe, qc, qah, Ev.Opnd.ev, Ev.Env.get, Ev.Env.set, Ev.look, qi, ↓qn, Ev.it1, ↓reduceIte, Nat.reduceEqDiff, reduceCtorEq, decide_false, zfa, eq_self]
    exact ⟨_, rfl, g, rfl, rfl, rfl, rfl, rfl⟩
theorem exec_l2 (h0 : R0.lo 10 = true) (h4 : X4.lo 10 = true) (h5 : X5.lo 10 = true) (h6 : X6.lo 10 = true) (h7 : X7.lo 10 = true) (h8 : X8.lo 10 = true) (h9 : X9.lo 10 = true) (G : List (List Int)) (cg : Bool) (b : List Evt) (s : List Evt) (g2 : Nat) (hb : b.length ≤ 1000000) (hk : qg4 b) (hG : G.length ≤ 1000000) (hGk : ∀ k ∈ G, k.length ≤ 9223372036854775807) :
    ∃ y, itB (exec (evL T) itL none qdc) (qr [0, 81, 82, 83] true 10) ⟨[(0, .ptr 3 0 0 0), (81, (.fsl ((G).map qel) cg)), (82, (ii G.length)), (83, (ii ((0 : Nat))))], []⟩ (R0 :: .row 6 ((dn).map Evt.r) g1 :: .row 6 ((s).map Evt.r) g2 :: .row 8 [[(ii ((x).r0)), (ii ((x).r1)), (.fsl (((x).procs).map Pr.r) f), (ii ((x).sum)), (.fsl ((b).map Evt.r) false), .sl 1 g1 0 (dn).length false, .sl 2 g2 0 (s).length false, (bb o)]] 0 :: [X4, X5, X6, X7, X8, X9]) = some y ∧
      (y.1 = .exit 2 ∧ y.2.1.marks = [] ∧ y.2.2 = (R0 :: .row 6 ((dn).map Evt.r) g1 :: .row 6 ((s).map Evt.r) g2 :: .row 8 [[(ii ((x).r0)), (ii ((x).r1)), (.fsl (((x).procs).map Pr.r) f), (ii ((x).sum)), (.fsl (((qt7 b G)).map Evt.r) false), .sl 1 g1 0 (dn).length false, .sl 2 g2 0 (s).length false, (bb o)]] 0 :: [X4, X5, X6, X7, X8, X9])) := by
  simp only [SObj.lo] at h0 h4 h5 h6 h7 h8 h9
  have key := qfg (f := exec (evL T) itL none qdc) (s := qr [0, 81, 82, 83] true 10) (α := List Evt)
    (fun i a => ⟨[(0, .ptr 3 0 0 0), (81, (.fsl ((G).map qel) cg)), (82, (ii G.length)), (83, (ii i))], []⟩) (fun _ a => (R0 :: .row 6 ((dn).map Evt.r) g1 :: .row 6 ((s).map Evt.r) g2 :: .row 8 [[(ii ((x).r0)), (ii ((x).r1)), (.fsl (((x).procs).map Pr.r) f), (ii ((x).sum)), (.fsl ((a).map Evt.r) false), .sl 1 g1 0 (dn).length false, .sl 2 g2 0 (s).length false, (bb o)]] 0 :: [X4, X5, X6, X7, X8, X9])) (fun i a => a = qt7 b (G.take i)) G.length
    (fun y => y.1 = .exit 2 ∧ y.2.1.marks = [] ∧ y.2.2 = (R0 :: .row 6 ((dn).map Evt.r) g1 :: .row 6 ((s).map Evt.r) g2 :: .row 8 [[(ii ((x).r0)), (ii ((x).r1)), (.fsl (((x).procs).map Pr.r) f), (ii ((x).sum)), (.fsl (((qt7 b G)).map Evt.r) false), .sl 1 g1 0 (dn).length false, .sl 2 g2 0 (s).length false, (bb o)]] 0 :: [X4, X5, X6, X7, X8, X9])) ?_ ?_ 0 b (Nat.zero_le _) rfl
  · exact key
  · rintro i a hi ha
    obtain ⟨k, hkk⟩ : ∃ k, G[i]? = some k := ⟨_, List.getElem?_eq_getElem hi⟩
    have hi' : (i : Int) < (G.length : Int) := by omega
    have hw : IntKind.i64.wrap ((i : Int) + 1) = ((i + 1 : Nat) : Int) := by rw [qar (by omega) (by omega)]; simp
    have hs : a.Sublist b := by rw [ha]; exact qn8 _ _
    obtain ⟨cf, _, hC⟩ := quj a false k false (by have := hs.length_le; omega) (fun z hz => hk z (hs.subset hz)) (hGk k (List.mem_of_getElem? hkk)) (fun _ => rfl)
    refine .inl ⟨(qgu a k).1, ?_, by rw [List.take_add_one, hkk, ha]; exact (q48 _ _ _).symm⟩
    generalize qgu a k = ck at *
    obtain ⟨cl, cb⟩ := ck
    simp only at hC ⊢
    simp only [qdc, Int.natCast_nonneg, Int.toNat_natCast, List.getElem?_map, Option.map_some, hkk, hi', hw, hC, qel, h0, h4, h5, h6, h7, h8, h9, qaa, qx, qbm, qag, Ev.exec, qb, qe, qc, qa5, qah, Ev.evs, Ev.Opnd.ev, Ev.Env.get, Ev.Env.set, Ev.look, qf, qv, Ev.AV.cells, Ev.AV.uc, qo, Ev.AV.plain, qap, qi, qr, Ev.keep, qal, qad, qg, Ev.SObj.lo, qbc, qm, qdn, qg1, qh, qd, qu, qaj, ↓qn, Ev.it1, ↓reduceIte, List.length_cons, List.length_nil, List.getElem?_cons_zero, List.getElem?_cons_succ, List.take_succ_cons, List.take_zero, zfe, List.drop_succ_cons, List.drop_zero, List.cons_append, List.nil_append, List.set_cons_zero, List.set_cons_succ, List.head?_cons, Nat.reduceAdd, Nat.reduceEqDiff, Nat.reduceLT, Nat.reduceLeDiff, reduceCtorEq, decide_true, zfc, zfa, and_self, zfd, eq_self]
  · rintro a ha
    rw [List.take_length] at ha
    rw [← ha]
    simp only [qdc, Int.lt_irrefl, Ev.exec, qb, qe, qc, qah, Ev.Opnd.ev, Ev.Env.get, Ev.Env.set, Ev.look, qi, ↓qn, Ev.it1, ↓reduceIte, Nat.reduceEqDiff, reduceCtorEq, decide_false, zfa, eq_self]
    exact ⟨_, rfl, rfl, rfl, rfl⟩
theorem q4o (h0 : R0.lo 9 = true) (h4 : X4.lo 9 = true) (h5 : X5.lo 9 = true) (h6 : X6.lo 9 = true) (h7 : X7.lo 9 = true) (h8 : X8.lo 9 = true) (w : WSt) (rest : List Evt) (g2 : Nat) (R : Ready c w.lp e) (hf : f = true → w.lp.procs = []) (hP : PlOk (rest, w.sent) (qbe c w.lp e).out) (hd : w.done.length ≤ 100000) :
    ∃ g1' g2' : Nat, (evL T).call qcr [.ptr 3 0 0 0, (.agg [(.fsl ((c.lps).map lpC) false), (.fsl ((c.progs).map qcd) false), (ii c.look), (ii c.fin), (ii c.cap)]), (.agg [(ii e.time), (.fsl ((e.key).map qbz) false), (ii e.lp), (ii e.kind), (ii e.proc), (ii e.arg)])] (R0 :: .row 6 ((w.done).map Evt.r) g1 :: .row 6 ((w.sent).map Evt.r) g2 :: .row 8 [[(ii ((w.lp).r0)), (ii ((w.lp).r1)), (.fsl (((w.lp).procs).map Pr.r) f), (ii ((w.lp).sum)), (.fsl ((rest).map Evt.r) false), .sl 1 g1 0 (w.done).length false, .sl 2 g2 0 (w.sent).length false, (bb w.over)]] 0 :: [X4, X5, X6, X7, X8]) =
      some (.tup [], (R0 :: .row 6 (((w.step c e rest).done).map Evt.r) g1' :: .row 6 (((w.step c e rest).sent).map Evt.r) g2' :: .row 8 [[(ii (((w.step c e rest).lp).r0)), (ii (((w.step c e rest).lp).r1)), (.fsl ((((w.step c e rest).lp).procs).map Pr.r) f), (ii (((w.step c e rest).lp).sum)), (.fsl (((w.step c e rest).box).map Evt.r) false), .sl 1 g1' 0 ((w.step c e rest).done).length false, .sl 2 g2' 0 ((w.step c e rest).sent).length false, (bb ((w.step c e rest).over))]] 0 :: [X4, X5, X6, X7, X8])) := by
  have mono : ∀ {X : SObj}, X.lo 9 = true → X.lo 10 = true := fun h => q2x (by omega) _ h
  have hz := R.sizes
  have hE := Exec_evF R f hf
  obtain ⟨wl, wb, wd, ws, wo⟩ := w
  simp only at R hP hz hE hd hf ⊢
  unfold WSt.step
  simp only
  generalize hr : qbe c wl e = r at *
  obtain ⟨⟨y1, f1, σ1⟩, k1, g2', k2, k3, k4, k5, k6⟩ := exec_l1 (e := e) R0 X4 X5 X6 X7 X8 (.row 4 [[(ii r.lp.r0), (ii r.lp.r1), (.fsl ((r.lp.procs).map Pr.r) f), (ii r.lp.sum)]] 0) (wd ++ [e]) (g1 + 1) r.lp (wo || r.over) f (mono h0) (mono h4) (mono h5) (mono h6) (mono h7) (mono h8) (by simp only [qag, Ev.SObj.lo, qbc, qm, qh, qd, qu, qaj, zfc, eq_self]) r.out r.nil (rest, ws) g2 hP ((.fsl ((r.gone).map qel) r.nil)) (by simp only [qbm, qm, eq_self])
  have hpl := qoz e.lp r.out (rest, ws) []
  have hln := hP.len
  have hkk := hP.ok
  rw [List.append_nil, List.append_nil] at hpl
  obtain ⟨⟨y2, f2, σ2⟩, m1, m2, m3, m4⟩ := exec_l2 R0 X4 X5 X6 X7 X8 (.row 4 [[(ii r.lp.r0), (ii r.lp.r1), (.fsl ((r.lp.procs).map Pr.r) f), (ii r.lp.sum)]] 0) (wd ++ [e]) (g1 + 1) r.lp (wo || r.over) f (mono h0) (mono h4) (mono h5) (mono h6) (mono h7) (mono h8) (by simp only [qag, Ev.SObj.lo, qbc, qm, qh, qd, qu, qaj, zfc, eq_self]) r.gone r.nil (qei e.lp (rest, ws) r.out).1 (qei e.lp (rest, ws) r.out).2 g2'
    (by have := hpl.length_eq; simp only [List.length_append] at this hln; omega) (fun z hz' => hkk z (hpl.mem_iff.1 (List.mem_append_left _ hz'))) (by omega) (fun k hk' => by have := hz.2.2.2.2.1 k hk'; omega)
  simp only [Int.ofNat_zero] at k1 k2 k3 k4 k5 k6 m1 m2 m3 m4
  subst k2; subst k4; subst m2; subst m4
  refine ⟨g1 + 1, g2', ?_⟩
  have bd : (wd.length + 1) * 64 ≤ 140737488355328 := by omega
  have tk : List.take wd.length (wd.map Evt.r) = wd.map Evt.r := List.take_of_length_le (by simp)
  have hle : wd.length ≤ wd.length := Nat.le_refl _
  have j0 := mono h0
  have j4 := mono h4
  have j5 := mono h5
  have j6 := mono h6
  have j7 := mono h7
  have j8 := mono h8
  simp only [SObj.lo] at h0 h4 h5 h6 h7 h8 j0 j4 j5 j6 j7 j8
  generalize (qei e.lp (rest, ws) r.out).2 = Z at *
  generalize (qei e.lp (rest, ws) r.out).1 = B at *
  generalize qt7 B r.gone = B' at *
  obtain ⟨et, ek, el, ei, ep, ea⟩ := e
  obtain ⟨a0, a1, ap, as'⟩ := wl
  have lo := qaa 9 (wd ++ [⟨et, ek, el, ei, ep, ea⟩])
  have lo10 := qaa 10 (wd ++ [⟨et, ek, el, ei, ep, ea⟩])
  rw [List.map_append] at lo lo10 k1 m1
  simp only [List.map_append, List.length_append, List.map_cons, List.map_nil, List.length_cons, List.length_nil, zfd, Evt.r] at lo lo10 k1 m1 ⊢
  rw [qae qmt ql4]
  cases wo with
  | true =>
    simp only [Bool.true_or] at k1 m1 ⊢
    simp only [qd1, hE, k1, k3, k5, k6, m1, m3, bd, tk, hle, lo, lo10, h0, h4, h5, h6, h7, h8, j0, j4, j5, j6, j7, j8, qaa, qx, qbm, qag, qcb, qaw, qk, Ev.exec, qb, qe, qc, qa5, qah, qn4, Ev.evs, Ev.Opnd.ev, Ev.Env.get, Ev.Env.set, Ev.Env.unset, Ev.look, ql, qf, qbt, qv, qfz, Ev.AV.cells, Ev.AV.uc, qo, Ev.AV.plain, qj, qak, Ev.kill, qai, qr, Ev.keep, qal, qad, qg, Ev.SObj.lo, qbc, qa2, qb1, qm, qbh, qdn, qg1, qh, qd, qu, qaj, qbg, qbf, List.replicate_one, List.length_map, ↓qn, ↓qa0, ↓reduceIte, List.length_cons, List.length_nil, List.getElem?_cons_zero, List.getElem?_cons_succ, List.take_succ_cons, List.take_zero, zfe, List.drop_succ_cons, List.drop_zero, List.drop_nil, List.cons_append, List.nil_append, List.append_nil, List.set_cons_zero, List.set_cons_succ, List.head?_cons, Nat.reduceAdd, Nat.reduceEqDiff, Nat.reduceMul, Nat.reduceLT, Nat.reduceLeDiff, Nat.reducePow, reduceCtorEq, decide_true, zfc, zfa, Bool.true_eq_false, and_self, ne_eq, zfb, zff, zfd, Nat.add_zero, Nat.lt_add_one, Nat.le_refl, eq_self]
  | false =>
    simp only [Bool.false_or] at k1 m1 ⊢
    simp only [qd1, hE, k1, k3, k5, k6, m1, m3, bd, tk, hle, lo, lo10, h0, h4, h5, h6, h7, h8, j0, j4, j5, j6, j7, j8, qaa, qx, qbm, qag, qcb, qaw, qk, Ev.exec, qb, qe, qc, qa5, qah, qn4, Ev.evs, Ev.Opnd.ev, Ev.Env.get, Ev.Env.set, Ev.look, ql, qf, qbt, qv, qfz, Ev.AV.cells, Ev.AV.uc, qo, Ev.AV.plain, qj, qak, Ev.kill, qai, qr, Ev.keep, qal, qad, qg, Ev.SObj.lo, qbc, qa2, qb1, qm, qbh, qdn, qg1, qh, qd, qu, qaj, qbg, qbf, List.replicate_one, List.length_map, ↓qn, ↓qa0, ↓reduceIte, List.length_cons, List.length_nil, List.getElem?_cons_zero, List.getElem?_cons_succ, List.take_succ_cons, List.take_zero, zfe, List.drop_succ_cons, List.drop_zero, List.drop_nil, List.cons_append, List.nil_append, List.append_nil, List.set_cons_zero, List.set_cons_succ, List.head?_cons, Nat.reduceAdd, Nat.reduceEqDiff, Nat.reduceMul, Nat.reduceLT, Nat.reduceLeDiff, Nat.reducePow, reduceCtorEq, decide_true, zfc, zfa, and_self, ne_eq, zfb, zff, zfd, Nat.add_zero, Nat.lt_add_one, Nat.le_refl, eq_self]
end
set_option maxRecDepth 10000
theorem WInv.run {c : Cfg} {i : Nat} {O : List Evt} (hor : Int) : ∀ (k : Nat) {w : WSt} {S : Sim} {H : List Evt}, WInv c i w O S H → H.length + k ≤ 20000 →
    ∃ (S' : Sim) (es : List Evt), WInv c i (WSt.run c hor k w) O S' (H ++ es) ∧ (WSt.run c hor k w).done = w.done ++ es ∧ S'.lps = S.lps.set i (WSt.run c hor k w).lp ∧ es.length ≤ k
  | 0, w, S, H, h, _ => ⟨S, [], by rw [List.append_nil]; exact h, (List.append_nil _).symm, (by
      have : S.lps.set i w.lp = S.lps := List.ext_getElem? fun j => by
        by_cases e : i = j
        · subst e; rw [List.getElem?_set_self (by rw [h.K.lpl]; exact h.il), h.lp]
        · rw [List.getElem?_set_ne e]
      exact this.symm), Nat.le_refl _⟩
  | k + 1, w, S, H, h, hk => by
    unfold WSt.run
    split
    · obtain ⟨S', es, h1, h2, h3, h4⟩ := WInv.run hor 0 h (by omega)
      exact ⟨S', es, h1, h2, h3, by omega⟩
    next e rest hb =>
      split
      · obtain ⟨S1, g1, g2⟩ := h.step (by omega) hb
        obtain ⟨S', es, h1, h2, h3, h4⟩ := WInv.run hor k g1 (by simp; omega)
        refine ⟨S', e :: es, by simpa using h1, by rw [h2]; simp [WSt.step], ?_, by simp; omega⟩
        rw [h3, g2, List.set_set]
      · obtain ⟨S', es, h1, h2, h3, h4⟩ := WInv.run hor 0 h (by omega)
        exact ⟨S', es, h1, h2, h3, by omega⟩
def pL (c : Cfg) : SObj := .loop ⟨[(4, (.fptr [(.fsl ((c.lps).map lpC) false), (.fsl ((c.progs).map qcd) false), (ii c.look), (ii c.fin), (ii c.cap)])), (13, .ptr 4 0 0 0)], []⟩ [22] qdw qdx .ready none
def pLb (c : Cfg) : SObj := .loop ⟨[(4, (.fptr [(.fsl ((c.lps).map lpC) false), (.fsl ((c.progs).map qcd) false), (ii c.look), (ii c.fin), (ii c.cap)])), (13, .ptr 4 0 0 0)], []⟩ [22] qdw qdx .busy none
def pS (c : Cfg) (f : Bool) (w : WSt) (b : List Evt) (g1 g2 : Nat) : qq := ((.row 4 [[(ii 0), (ii 0), .fsl [] false, (ii 0)]] 0) :: .row 6 ((w.done).map Evt.r) g1 :: .row 6 ((w.sent).map Evt.r) g2 :: .row 8 [[(ii ((w.lp).r0)), (ii ((w.lp).r1)), (.fsl (((w.lp).procs).map Pr.r) f), (ii ((w.lp).sum)), (.fsl ((b).map Evt.r) false), .sl 1 g1 0 (w.done).length false, .sl 2 g2 0 (w.sent).length false, (bb w.over)]] 0 :: [.row 1 [[.ptr 3 0 0 0]] 0, .defr, (pL c)])
section
variable {c : Cfg} {f : Bool}
theorem w_round {e : Evt} (w : WSt) (rest : List Evt) (g1 g2 : Nat) (R : Ready c w.lp e) (hf : f = true → w.lp.procs = []) (hP : PlOk (rest, w.sent) (qbe c w.lp e).out) (hd : w.done.length ≤ 100000) :
    ∃ g1' g2' : Nat, (evL T).round 6 [(.agg [(ii e.time), (.fsl ((e.key).map qbz) false), (ii e.lp), (ii e.kind), (ii e.proc), (ii e.arg)])] (pS c f w rest g1 g2 ++ [.row 6 [e.r] 0]) = some ((bb true), pS c f (w.step c e rest) (w.step c e rest).box g1' g2' ++ [.row 6 [e.r] 0]) := by
  obtain ⟨g1', g2', h⟩ := q4o (e := e) (.row 4 [[(ii 0), (ii 0), .fsl [] false, (ii 0)]] 0) (.row 1 [[.ptr 3 0 0 0]] 0) .defr (pLb c) (.row 6 [e.r] 0) (.row 6 [e.r] 0) g1 f (by simp only [Ev.SObj.lo, qbc, qm, qh, qd, qu, qaj, zfc, eq_self]) (by simp only [Ev.SObj.lo, qg1, qh, qd, qu, qaj, Nat.reduceLT, decide_true, zfc, eq_self]) (by simp only [Ev.SObj.lo, eq_self]) (by simp only [pLb, qcb, qaw, qal, Ev.SObj.lo, qbc, qm, qbh, qg1, qh, qd, Nat.reduceLT, decide_true, zfc, eq_self]) (by simp only [Evt.r, qx, Ev.SObj.lo, qbc, qm, qh, qd, qu, qaj, zfc, eq_self]) (by simp only [Evt.r, qx, Ev.SObj.lo, qbc, qm, qh, qd, qu, qaj, zfc, eq_self]) w rest g2 R hf hP hd
  refine ⟨g1', g2', ?_⟩
  rw [q8f]
  generalize w.step c e rest = w' at *
  obtain ⟨et, ek, el, ei, ep, ea⟩ := e
  simp only [pLb, Evt.r, qdw, qdx] at h
  simp only [pS, pL, qdw, qdx, List.cons_append, List.nil_append, Evt.r, h, qaa, qx, qag, qcb, qaw, qm5, qk5, Ev.exec, qb, qe, qc, qjq, qah, Ev.evs, Ev.Opnd.ev, Ev.Env.get, Ev.Env.set, Ev.look, qf, qv, Ev.AV.cells, qo, Ev.AV.plain, qai, qal, qg, Ev.SObj.lo, qbc, qm, qbh, qdn, qg1, qh, qd, qu, qaj, ↓qn, ↓reduceIte, List.length_cons, List.length_nil, List.getElem?_cons_zero, List.getElem?_cons_succ, List.take_succ_cons, List.take_zero, zfe, List.drop_succ_cons, List.drop_zero, List.drop_nil, List.cons_append, List.nil_append, List.append_nil, List.set_cons_zero, List.set_cons_succ, List.head?_cons, Nat.reduceAdd, Nat.reduceEqDiff, Nat.reduceLT, decide_true, zfc, zfa, and_self, ne_eq, zfb, zff, zfd, Nat.le_refl, eq_self]
theorem events_L (hor : Int) : ∀ (k : Nat) {w : WSt} {i : Nat} {O : List Evt} {S : Sim} {H : List Evt} (g1 g2 : Nat), w.done.length + k = 2000 → WInv c i w O S H → (f = true → w.lp.procs = []) → H.length + k ≤ 20000 →
    ∃ y, itB (exec (evL T) itL none qbo) (qr [0, 1, 2] true 7) ⟨[(0, .yld 6), (1, .fptr [.ptr 3 0 0 0]), (2, .fptr [(ii hor)])], []⟩ (pS c f w w.box g1 g2) = some y ∧
      ∃ g1' g2' : Nat, (y.1 = .exit 0 ∨ y.1 = .ret) ∧ y.2.1.marks = [] ∧ ∃ X : qq, y.2.2 = pS c f (WSt.run c hor k w) (WSt.run c hor k w).box g1' g2' ++ X := by
  intro k
  induction k with
  | zero =>
    intro w i O S H g1 g2 hk h hf hn
    have c1 : ¬ (w.done.length : Int) < 2000 := by omega
    have hx : ∃ y, it1 (exec (evL T) itL none qbo) (qr [0, 1, 2] true 7) ⟨[(0, .yld 6), (1, .fptr [.ptr 3 0 0 0]), (2, .fptr [(ii hor)])], []⟩ (pS c f w w.box g1 g2) = some (.inr y) ∧ (y.1 = .exit 0 ∨ y.1 = .ret) ∧ y.2.1.marks = [] ∧ y.2.2 = pS c f w w.box g1 g2 := by
      simp only [qbo, pS, pL, c1, Ev.exec, qb, qe, qc, qah, Ev.Opnd.ev, Ev.Env.get, Ev.Env.set, Ev.look, qf, qv, qi, ↓qn, Ev.it1, ↓reduceIte, List.getElem?_cons_zero, List.getElem?_cons_succ, List.drop_succ_cons, List.drop_zero, List.head?_cons, reduceCtorEq, decide_false, zfa, zfd, eq_self]
      exact ⟨_, rfl, by simp, rfl, rfl⟩
    obtain ⟨y, h1, h2, h3, h4⟩ := hx
    exact ⟨y, qoq h1, g1, g2, h2, h3, [], by rw [List.append_nil]; exact h4⟩
  | succ k ih =>
    intro w i O S H g1 g2 hk h hf hn
    have c1 : (w.done.length : Int) < 2000 := by omega
    have hl := h.len
    obtain ⟨cf, hT⟩ := qwt w.box false hor (by omega)
    cases hb : w.box with
    | nil =>
      have hrun : WSt.run c hor (k + 1) w = w := by rw [WSt.run, hb]
      rw [hrun]
      rw [hb] at hT
      have hx : ∃ y, it1 (exec (evL T) itL none qbo) (qr [0, 1, 2] true 7) ⟨[(0, .yld 6), (1, .fptr [.ptr 3 0 0 0]), (2, .fptr [(ii hor)])], []⟩ (pS c f w [] g1 g2) = some (.inr y) ∧ (y.1 = .exit 0 ∨ y.1 = .ret) ∧ y.2.1.marks = [] ∧ ∃ X, y.2.2 = pS c f w w.box g1 g2 ++ X := by
        rw [hb]
        simp only [qsj, q5z, List.map_nil] at hT
        simp only [qbo, pS, pL, c1, hT, List.map_nil, Ev.exec, qb, qe, qc, qa5, qah, Ev.evs, Ev.Opnd.ev, Ev.Env.get, Ev.Env.set, Ev.look, qf, qv, Ev.AV.cells, qo, Ev.AV.plain, qi, qbc, qm, qh, qd, qu, ↓qn, Ev.it1, ↓reduceIte, List.length_cons, List.length_nil, List.getElem?_cons_zero, List.getElem?_cons_succ, List.take_zero, List.drop_succ_cons, List.drop_zero, List.drop_nil, List.cons_append, List.nil_append, List.append_nil, List.set_cons_zero, List.set_cons_succ, List.head?_cons, Nat.reduceAdd, Nat.reduceEqDiff, reduceCtorEq, decide_true, zfc, Bool.not_false, zfa, and_self, ne_eq, zfb, zff, zfd, Nat.le_refl, eq_self]
        exact ⟨_, rfl, by simp, rfl, _, rfl⟩
      obtain ⟨y, h1, h2, h3, h4⟩ := hx
      exact ⟨y, qoq h1, g1, g2, h2, h3, h4⟩
    | cons e rest =>
      rw [hb] at hT
      by_cases ht : e.time < hor
      · have hrun : WSt.run c hor (k + 1) w = WSt.run c hor k (w.step c e rest) := by rw [WSt.run, hb]; simp only [ht, if_true]
        rw [hrun]
        obtain ⟨_, R, _⟩ := h.ready (by omega) hb
        have hP := h.plOk (by omega) hb
        obtain ⟨S', hS, _⟩ := h.step (by omega) hb
        obtain ⟨g1', g2', hr⟩ := w_round w rest g1 g2 R hf hP (by omega)
        obtain ⟨y, k1, k2⟩ := ih (w := w.step c e rest) (S := S') (H := H ++ [e]) g1' g2' (by simp [WSt.step]; omega) hS (fun k => q1x (hf k)) (by simp; omega)
        refine ⟨y, q0m ?_ k1, k2⟩
        clear k1 k2 ih hP R hS hrun
        generalize w.step c e rest = w' at *
        obtain ⟨et, ek, el, ei, ep, ea⟩ := e
        simp only at ht
        simp only [qsj, ht, if_true, List.map_cons, Evt.r] at hT
        simp only [pS, pL, List.cons_append, List.nil_append, Evt.r] at hr
        have hlo' := fun (w : WSt) => qag 7 w.lp.procs
        simp only [qbo, pS, pL, c1, hT, hr, List.map_cons, Evt.r, List.cons_append, qaa, qx, qag, qcb, qaw, Ev.exec, qb, qe, qc, qa5, qso, qah, Ev.evs, Ev.Opnd.ev, Ev.Env.get, Ev.Env.set, Ev.look, qf, qv, Ev.AV.cells, Ev.AV.uc, qo, Ev.AV.plain, qi, qr, Ev.keep, qal, qad, qg, Ev.SObj.lo, qbc, qm, qbh, qdn, qg1, q8a, qh, qd, qu, qaj, ↓qn, Ev.it1, ↓reduceIte, List.length_cons, List.length_nil, List.getElem?_cons_zero, List.getElem?_cons_succ, List.take_succ_cons, List.take_zero, zfe, List.drop_succ_cons, List.drop_zero, List.drop_nil, List.cons_append, List.nil_append, List.append_nil, List.set_cons_zero, List.set_cons_succ, List.head?_cons, Nat.reduceAdd, Nat.reduceEqDiff, Nat.reduceLT, Nat.reduceLeDiff, reduceCtorEq, decide_true, zfc, Bool.not_true, zfa, and_self, ne_eq, zfb, zff, zfd, Nat.lt_add_one, Nat.le_refl, eq_self]
      · have hrun : WSt.run c hor (k + 1) w = w := by rw [WSt.run, hb]; simp only [ht, if_false]
        rw [hrun]
        have hx : ∃ y, it1 (exec (evL T) itL none qbo) (qr [0, 1, 2] true 7) ⟨[(0, .yld 6), (1, .fptr [.ptr 3 0 0 0]), (2, .fptr [(ii hor)])], []⟩ (pS c f w (e :: rest) g1 g2) = some (.inr y) ∧ (y.1 = .exit 0 ∨ y.1 = .ret) ∧ y.2.1.marks = [] ∧ ∃ X, y.2.2 = pS c f w w.box g1 g2 ++ X := by
          rw [hb]
          obtain ⟨et, ek, el, ei, ep, ea⟩ := e
          simp only at ht
          simp only [qsj, ht, if_false, q5z, List.map_cons, List.map_nil, Evt.r] at hT
          simp only [qbo, pS, pL, c1, hT, List.map_cons, Evt.r, qaa, qx, Ev.exec, qb, qe, qc, qa5, qah, Ev.evs, Ev.Opnd.ev, Ev.Env.get, Ev.Env.set, Ev.look, qf, qv, Ev.AV.cells, qo, Ev.AV.plain, qi, qbc, qm, qh, qd, qaj, ↓qn, Ev.it1, ↓reduceIte, List.length_cons, List.length_nil, List.getElem?_cons_zero, List.getElem?_cons_succ, List.take_zero, List.drop_succ_cons, List.drop_zero, List.drop_nil, List.cons_append, List.nil_append, List.append_nil, List.set_cons_zero, List.set_cons_succ, List.head?_cons, Nat.reduceAdd, Nat.reduceEqDiff, reduceCtorEq, decide_true, zfc, Bool.not_false, zfa, and_self, ne_eq, zfb, zff, zfd, Nat.le_refl, eq_self]
          exact ⟨_, rfl, by simp, rfl, _, rfl⟩
        obtain ⟨y, h1, h2, h3, h4⟩ := hx
        exact ⟨y, qoq h1, g1, g2, h2, h3, h4⟩
theorem q64 (hor : Int) {x : Lp} {b : List Evt} {i : Nat} {O : List Evt} {S : Sim} {H : List Evt} (h : WInv c i ⟨x, b, [], [], false⟩ O S H) (hf : f = true → x.procs = []) (hn : H.length ≤ 18000) :
    ∃ g1 g2 : Nat, (evL T).call qca [.yld 6, .fptr [.ptr 3 0 0 0], .fptr [(ii hor)]] (pS c f ⟨x, b, [], [], false⟩ b 0 0) = some (.tup [], pS c f (WSt.run c hor 2000 ⟨x, b, [], [], false⟩) (WSt.run c hor 2000 ⟨x, b, [], [], false⟩).box g1 g2) := by
  obtain ⟨⟨y, e, σ⟩, k1, g1, g2, k2, k3, X, k4⟩ := events_L hor 2000 0 0 rfl h hf (by omega)
  simp only at k1 k2 k3 k4
  subst k4
  refine ⟨g1, g2, ?_⟩
  rw [qae qi7 qlj]
  generalize WSt.run c hor 2000 ⟨x, b, [], [], false⟩ = w at *
  have hn1 : ∀ (w : WSt) (b : List Evt) (g1 g2 : Nat), (pS c f w b g1 g2).length = 7 := fun _ _ _ _ => rfl
  have ht : ∀ (w : WSt) (b : List Evt) (g1 g2 : Nat) (X : qq), (pS c f w b g1 g2 ++ X).take 7 = pS c f w b g1 g2 := fun _ _ _ _ _ => List.take_left' rfl
  have hlo : ∀ (w : WSt) (b : List Evt) (g1 g2 : Nat), qg 7 (pS c f w b g1 g2) = true := fun w b g1 g2 => by simp only [pS, pL, qaa, qag, qcb, qaw, qal, qg, Ev.SObj.lo, qbc, qm, qbh, qdn, qg1, qh, qd, qu, qaj, Nat.reduceLT, decide_true, zfc, eq_self]
  have ht0 : ∀ (w : WSt) (b : List Evt) (g1 g2 : Nat), (pS c f w b g1 g2).take 7 = pS c f w b g1 g2 := fun _ _ _ _ => rfl
  rcases k2 with rfl | rfl
  · simp only [qdm, hn1, ht, ht0, hlo, k1, k3, qk, Ev.exec, Ev.Env.get, Ev.look, ql, qj, qak, Ev.kill, qai, qr, Ev.keep, qal, qad, qbc, qb1, qbh, qg1, q8a, qh, qd, ↓qn, ↓qa0, ↓reduceIte, List.length_cons, List.length_nil, Nat.reduceAdd, Nat.reduceEqDiff, Nat.reduceLT, reduceCtorEq, decide_true, zfc, and_self, zfd, Nat.lt_add_one, eq_self]
  · simp only [qdm, hn1, ht, ht0, hlo, k1, k3, qk, Ev.exec, Ev.Env.get, Ev.look, ql, qj, qak, Ev.kill, qai, qr, Ev.keep, qal, qad, qbc, qb1, qbh, qg1, q8a, qh, qd, ↓qn, ↓qa0, ↓reduceIte, List.length_cons, List.length_nil, Nat.reduceAdd, Nat.reduceEqDiff, Nat.reduceLT, reduceCtorEq, decide_true, zfc, and_self, zfd, Nat.lt_add_one, eq_self]
theorem q1d (f : Bool) (w : WSt) (g1 g2 : Nat) (R0 X4 X5 X6 : SObj) (h0 : R0.lo 7 = true) (h4 : X4.lo 7 = true) (h5 : X5.lo 7 = true) (h6 : X6.lo 7 = true) : (evL T).call qcy [.ptr 3 0 0 0] (R0 :: .row 6 ((w.done).map Evt.r) g1 :: .row 6 ((w.sent).map Evt.r) g2 :: .row 8 [[(ii ((w.lp).r0)), (ii ((w.lp).r1)), (.fsl (((w.lp).procs).map Pr.r) f), (ii ((w.lp).sum)), (.fsl ((w.box).map Evt.r) false), .sl 1 g1 0 (w.done).length false, .sl 2 g2 0 (w.sent).length false, (bb w.over)]] 0 :: [X4, X5, X6]) =
    some (.tup [.agg [(ii w.lp.r0), (ii w.lp.r1), (.fsl ((w.lp.procs).map Pr.r) f), (ii w.lp.sum)], (.fsl ((w.box).map Evt.r) false), .sl 1 g1 0 w.done.length false, .sl 2 g2 0 w.sent.length false, (bb w.over)], (R0 :: .row 6 ((w.done).map Evt.r) g1 :: .row 6 ((w.sent).map Evt.r) g2 :: .row 8 [[(ii ((w.lp).r0)), (ii ((w.lp).r1)), (.fsl (((w.lp).procs).map Pr.r) f), (ii ((w.lp).sum)), (.fsl ((w.box).map Evt.r) false), .sl 1 g1 0 (w.done).length false, .sl 2 g2 0 (w.sent).length false, (bb w.over)]] 0 :: [X4, X5, X6])) := by
  simp only [SObj.lo] at h0 h4 h5 h6
  rw [qae qnn qmx]
  simp only [qfe, h0, h4, h5, h6, qaa, qag, qk, Ev.exec, qb, qe, qc, qah, Ev.Opnd.ev, Ev.Env.get, Ev.Env.set, Ev.look, ql, qf, qv, Ev.AV.cells, qo, Ev.AV.plain, qj, qs, qak, Ev.kill, qai, qg, Ev.SObj.lo, qbc, qa2, qb1, qm, qdn, ql8, Ev.AV.obj?, qh, qd, qu, qaj, ↓qn, ↓reduceIte, List.length_cons, List.length_nil, List.getElem?_cons_zero, List.getElem?_cons_succ, List.take_succ_cons, List.take_zero, zfe, List.drop_succ_cons, List.drop_zero, List.drop_nil, List.cons_append, List.nil_append, List.append_nil, List.set_cons_zero, List.set_cons_succ, List.head?_cons, Nat.reduceAdd, Nat.reduceEqDiff, Nat.reduceBEq, Nat.reduceLT, Nat.reduceLeDiff, reduceCtorEq, decide_true, zfc, Bool.not_false, zfa, and_self, ne_eq, zfb, zff, zfd, Nat.add_zero, Nat.le_refl, eq_self]
  try rfl
theorem q5r (hor : Int) {x : Lp} {b : List Evt} {cb : Bool} {i : Nat} {O : List Evt} {S : Sim} {H : List Evt} (h : WInv c i ⟨x, b, [], [], false⟩ O S H) (hf : f = true → x.procs = []) (hn : H.length ≤ 18000) :
    qa7 (evL T) qeg [(.agg [(.fsl ((c.lps).map lpC) false), (.fsl ((c.progs).map qcd) false), (ii c.look), (ii c.fin), (ii c.cap)]), (.agg [(ii x.r0), (ii x.r1), (.fsl ((x.procs).map Pr.r) f), (ii x.sum)]), (.fsl ((b).map Evt.r) cb), (ii hor)] = some (.tup [(.agg [(ii ((WSt.run c hor 2000 ⟨x, b, [], [], false⟩).lp.r0)), (ii ((WSt.run c hor 2000 ⟨x, b, [], [], false⟩).lp.r1)), (.fsl (((WSt.run c hor 2000 ⟨x, b, [], [], false⟩).lp.procs).map Pr.r) f), (ii ((WSt.run c hor 2000 ⟨x, b, [], [], false⟩).lp.sum))]), (.fsl (((WSt.run c hor 2000 ⟨x, b, [], [], false⟩).box).map Evt.r) false), (.fsl (((WSt.run c hor 2000 ⟨x, b, [], [], false⟩).done).map Evt.r) false), (.fsl (((WSt.run c hor 2000 ⟨x, b, [], [], false⟩).sent).map Evt.r) false), (bb ((WSt.run c hor 2000 ⟨x, b, [], [], false⟩).over))]) := by
  obtain ⟨g1, g2, h1⟩ := q64 hor h hf hn
  generalize WSt.run c hor 2000 ⟨x, b, [], [], false⟩ = w at *
  have h2 := q1d f w g1 g2 (.row 4 [[(ii 0), (ii 0), .fsl [] false, (ii 0)]] 0) (.row 1 [[.ptr 3 0 0 0]] 0) .dead (.loop ⟨[(4, (.fptr [(.fsl ((c.lps).map lpC) false), (.fsl ((c.progs).map qcd) false), (ii c.look), (ii c.fin), (ii c.cap)])), (13, .ptr 4 0 0 0)], []⟩ [22] qdw qdx .exhausted none) (by simp only [Ev.SObj.lo, qbc, qm, qh, qd, qu, qaj, zfc, eq_self]) (by simp only [Ev.SObj.lo, qg1, qh, qd, qu, qaj, Nat.reduceLT, decide_true, zfc, eq_self]) (by simp only [Ev.SObj.lo, eq_self]) (by simp only [qcb, qaw, qal, Ev.SObj.lo, qbc, qm, qbh, qg1, qh, qd, Nat.reduceLT, decide_true, zfc, eq_self])
  have h2' := q1d f w g1 g2 (.row 4 [[(ii 0), (ii 0), .fsl [] false, (ii 0)]] 0) (.row 1 [[.ptr 3 0 0 0]] 0) .defr (.loop ⟨[(4, (.fptr [(.fsl ((c.lps).map lpC) false), (.fsl ((c.progs).map qcd) false), (ii c.look), (ii c.fin), (ii c.cap)])), (13, .ptr 4 0 0 0)], []⟩ [22] qdw qdx .exhausted none) (by simp only [Ev.SObj.lo, qbc, qm, qh, qd, qu, qaj, zfc, eq_self]) (by simp only [Ev.SObj.lo, qg1, qh, qd, qu, qaj, Nat.reduceLT, decide_true, zfc, eq_self]) (by simp only [Ev.SObj.lo, eq_self]) (by simp only [qcb, qaw, qal, Ev.SObj.lo, qbc, qm, qbh, qg1, qh, qd, Nat.reduceLT, decide_true, zfc, eq_self])
  have hev : ∀ σ : qq, (evL T).call qcz [.ptr 3 0 0 0, (ii hor)] σ = some (.fn (.func qca) [] [.fptr [.ptr 3 0 0 0], .fptr [(ii hor)]], σ) := fun σ => by
    rw [qae qnw qmn]
    simp only [qfh, ite_self, List.take_length, qk, Ev.exec, qb, qe, qc, qah, Ev.evs, Ev.Opnd.ev, Ev.Env.get, Ev.Env.set, Ev.look, ql, Ev.AV.cells, Ev.AV.uc, qo, Ev.AV.plain, qj, qs, qak, Ev.kill, qai, qbc, qbh, qg1, qx7, qh, qd, List.take_length, ↓qn, ↓reduceIte, List.length_cons, List.length_nil, Nat.reduceAdd, Nat.reduceEqDiff, reduceCtorEq, zfc, Bool.and_true, Bool.true_and, and_self, ne_eq, zfb, zff, zfd, eq_self]
  have tk1 : List.take w.done.length (w.done.map Evt.r) = w.done.map Evt.r := List.take_of_length_le (by simp)
  have tk2 : List.take w.sent.length (w.sent.map Evt.r) = w.sent.map Evt.r := List.take_of_length_le (by simp)
  have hle : ∀ n : Nat, n ≤ n := fun n => Nat.le_refl n
  simp only [pS, pL, List.map_nil, List.length_nil] at h1
  rw [qa7, qae qsu qrr]
  simp only [qj0, hev, h1, h2', tk1, tk2, hle, evL_ent qi7, qaa, qag, qk, qo4, Ev.exec, qb, qe, qc, qjq, qah, q2u, Ev.evs, Ev.Opnd.ev, Ev.Env.get, Ev.Env.set, Ev.look, ql, qf, qv, qfs, Ev.AV.cells, Ev.AV.uc, qo, Ev.AV.plain, qj, qs, qak, Ev.kill, qai, Ev.keep, qg, qbc, qa2, qb1, qm, qdn, qh, qd, qac, qtj, qg8, qe1, qgi, qeh, List.length_map, ↓qn, ↓reduceIte, List.length_cons, List.length_nil, List.getElem?_cons_zero, List.getElem?_cons_succ, List.take_succ_cons, List.take_zero, zfe, List.drop_succ_cons, List.drop_zero, List.drop_nil, List.cons_append, List.nil_append, List.append_nil, List.set_cons_zero, List.set_cons_succ, List.head?_cons, Nat.reduceAdd, Nat.reduceEqDiff, Nat.reduceLT, Nat.reduceLeDiff, reduceCtorEq, decide_false, zfc, Bool.and_true, zfa, and_self, and_true, ne_eq, zfb, zff, zfd, eq_self, Bool.and_false]
end
set_option maxRecDepth 10000
structure SimSt (n : Nat) (s : Sim) (L : List (Lp × Bool)) (A : qq) (O : List (List AV)) : Prop where
  len : A.length = n + 1
  lps : A[0]? = some (.row 4 (L.map lpF) 1)
  lpl : L.length = n
  lpf : L.map Prod.fst = s.lps
  flag : ∀ x ∈ L, x.2 = true → x.1.procs = []
  trl : s.trace.length = n
  ol : O.length = n
  tr : ∀ i : Nat, i < n → ∃ g, A[i + 1]? = some (.row 6 ((qsb s i).map Evt.r) g) ∧ O[i]? = some [.sl (i + 1) g 0 (qsb s i).length false]
  alo : qg (n + 1) A = true
  olo : qiz (n + 1) O = true
structure Pre (A : qq) (n : Nat) : Prop where
  len : A.length = n + 1
section
variable {A : qq} {n : Nat} (h : A.length = n + 1) (B : qq) (x : SObj)
include h
end
section
variable (c : Cfg) (n : Nat) (A : qq) (O : List (List AV)) (hA : A.length = n + 1) (rest : List Evt) (e : Evt) (k : Int) (ov : Bool)
include hA
end
set_option maxRecDepth 10000
def q3r : List Evt → List Evt → List Evt
  | [], b => b
  | x :: ax, [] => x :: ax
  | x :: ax, y :: bs => if qpn y x < 0 then y :: q3r (x :: ax) bs else x :: q3r ax (y :: bs)
termination_by a b => a.length + b.length
section
variable (a0 b0 : List Evt)
structure MgInv (s : (List Evt × List Evt) × (List Evt × Nat)) : Prop where
  sum : s.2.1 ++ q3r s.1.1 s.1.2 = q3r a0 b0
  len : s.2.1.length + (s.1.1.length + s.1.2.length) ≤ 1000000
  ka : qg4 s.1.1
  kb : qg4 s.1.2
end
set_option maxRecDepth 10000
structure DSt (n : Nat) (B : List (List AV)) (t : Nat → List Evt) (A : qq) (O : List (List AV)) : Prop where
  len : A.length = n + 1
  box : A[0]? = some (.row 1 B 0)
  ol : O.length = n
  tr : ∀ i : Nat, i < n → ∃ g, A[i + 1]? = some (.row 6 ((t i).map Evt.r) g) ∧ O[i]? = some [.sl (i + 1) g 0 (t i).length false]
  alo : qg (n + 1) A = true
  olo : qiz (n + 1) O = true
section
variable (n : Nat) (B : List (List AV)) (D : List Evt) (cd : Bool)
end
set_option maxRecDepth 10000
section
variable (c : Cfg) (n : Nat) (A : qq) (O : List (List AV)) (hA : A.length = n + 1) (rest : List Evt) (et ei ep ea : Int) (ek : List Int) (i : Nat) (hi : i < n) (k : Int) (ov : Bool)
include hA
end
set_option maxRecDepth 10000
section
variable (c : Cfg) (n : Nat) (A : qq) (O : List (List AV)) (hA : A.length = n + 1) (rest : List Evt) (et ei ep ea : Int) (ek : List Int) (i : Nat) (hi : i < n) (k : Int) (ov : Bool)
include hA
end
set_option maxRecDepth 10000
section
variable {c : Cfg} {s : Sim} {h : List Evt} {n : Nat} {L : List (Lp × Bool)} {A : qq} {O : List (List AV)}
end
set_option maxRecDepth 10000
section
variable {c : Cfg} {s : Sim} {h : List Evt} {n : Nat} {L : List (Lp × Bool)} {A : qq} {O : List (List AV)}
end
set_option maxRecDepth 10000
section
variable (n ps lps look : Int) (x : OpI)
end
section
variable (p : List OpI) (c : Bool) (n ps lps look : Int)
end
set_option maxRecDepth 10000
section
variable (k : Nat) (cap : List AV) (hcap : los 0 cap = true)
include hcap
end
set_option maxRecDepth 10000
section
variable (c : Cfg)
structure CfgOk (c : Cfg) : Prop where
  lps : c.lps.length < 2 ^ 62
  progs : c.progs.length < 2 ^ 62
  prog : ∀ p ∈ c.progs, p.length < 2 ^ 62
  lp : ∀ l ∈ c.lps, l.length < 2 ^ 62
end
set_option maxRecDepth 10000
set_option maxRecDepth 10000
section
variable {c : Cfg} {s : Sim} {h : List Evt} {n : Nat} {L : List (Lp × Bool)} {A : qq} {O : List (List AV)}
end
set_option maxRecDepth 10000
theorem q1e (h : List Evt) : ∀ n : Nat, ((List.range n).map fun i => qgg h i).flatten.Perm (h.filter fun e => decide (0 ≤ e.lp ∧ e.lp < (n : Int)))
  | 0 => by
    have : h.filter (fun e => decide (0 ≤ e.lp ∧ e.lp < ((0 : Nat) : Int))) = [] := List.filter_eq_nil_iff.2 (fun e _ => by simp only [decide_eq_true_eq]; omega)
    rw [this]; exact .refl _
  | n + 1 => by
    rw [List.range_succ, List.map_append, List.flatten_append]
    refine (List.Perm.append (q1e h n) (.refl _)).trans ?_
    have e1 : h.filter (fun e => decide (0 ≤ e.lp ∧ e.lp < (n : Int))) = (h.filter fun e => decide (0 ≤ e.lp ∧ e.lp < ((n + 1 : Nat) : Int))).filter (fun e => decide (e.lp < (n : Int))) := by
      rw [List.filter_filter]
      refine List.filter_congr (fun e _ => ?_)
      rw [← Bool.decide_and]
      refine decide_eq_decide.2 ?_
      omega
    have e2 : ([qgg h n].flatten : List Evt) = (h.filter fun e => decide (0 ≤ e.lp ∧ e.lp < ((n + 1 : Nat) : Int))).filter (fun e => !decide (e.lp < (n : Int))) := by
      rw [List.filter_filter, List.flatten_cons, List.flatten_nil, List.append_nil]
      refine List.filter_congr (fun e _ => ?_)
      rw [← decide_not, ← Bool.decide_and]
      refine decide_eq_decide.2 ?_
      omega
    rw [e1, List.map_cons, List.map_nil, e2]
    exact List.filter_append_perm _ _
theorem own_perm {h : List Evt} {n : Nat} (hl : ∀ e ∈ h, 0 ≤ e.lp ∧ e.lp < (n : Int)) : ((List.range n).map fun i => qgg h i).flatten.Perm h := by
  have := q1e h n
  rwa [List.filter_eq_self.2 (fun e he => by simpa using hl e he)] at this
section
variable {c : Cfg} {s : Sim} {h : List Evt}
theorem ran (hv : Valid c) (lim : Nat) (hl : lim ≤ 60) : ∃ h, SInv c (Sim.run c lim (start c)) h ∧ h.length ≤ lim ∧ (h.length = lim ∨ (Sim.run c lim (start c)).ready c = false) := by
  obtain ⟨h, h1, h2, h3⟩ := SInv.run lim (SInv.start hv) (by simp; omega)
  exact ⟨h, by simpa using h1, h2, h3⟩
end
set_option maxRecDepth 10000
structure Good (c : Cfg) : Prop where
  h12 : Small12 c
  v : Valid c
theorem good_of {c : Cfg} (h : okB c = true) : Good c := by
  simp only [okB, Bool.and_eq_true, Bool.not_eq_true', decide_eq_true_eq] at h
  obtain ⟨h1, h2⟩ := h
  obtain ⟨g1, g2, g3, g4⟩ := qwo c h1
  exact ⟨⟨g1, g3⟩, valid_of h2⟩
def runS (c : Cfg) (lim : Nat) : Sim := Sim.run c lim (start c)
structure RunF (c : Cfg) (s : Sim) (h : List Evt) : Prop where
  inv : SInv c s h
  len : h.length ≤ 60
theorem RunF.n {c : Cfg} {s : Sim} {h : List Evt} (H : RunF c s h) : s.trace.length = c.lps.length ∧ c.lps.length ≤ 8 := ⟨H.inv.trl, H.inv.valid.lps.2⟩
set_option maxRecDepth 10000
section
variable (l : List Evt) (cl : Bool)
theorem q3b (out : List Evt) (x : Evt) (i : Nat) (cf : Bool) (hx : l[i]? = some x) (ho : out.length ≤ 1000000) (hk : qg4 out) (hkx : x.key.length ≤ 9223372036854775807) :
    ∃ y, itB (exec (evL T) itL none qer) (qr [0, 3, 4, 5] true 0) ⟨[(0, (.fsl ((l).map Evt.r) cl)), (3, (.fsl ((out).map Evt.r) cf)), (4, (ii i)), (5, (ii out.length))], []⟩ [] = some y ∧
      ∃ k : Nat, y.1 = .exit 2 ∧ y.2.1.marks = [] ∧ y.2.2 = [] ∧ Ev.look y.2.1.vars 0 = some (.fsl ((l).map Evt.r) cl) ∧ Ev.look y.2.1.vars 3 = some (.fsl ((out).map Evt.r) cf) ∧ Ev.look y.2.1.vars 4 = some (ii i) ∧ Ev.look y.2.1.vars 5 = some (ii k) ∧
        k ≤ out.length ∧ (∀ u, 0 < k → out[k - 1]? = some u → leE u x) ∧ (∀ v, out[k]? = some v → leE x v) := by
  refine qx0 (τ := Nat) (fun k => ⟨[(0, (.fsl ((l).map Evt.r) cl)), (3, (.fsl ((out).map Evt.r) cf)), (4, (ii i)), (5, (ii k))], []⟩) (fun _ => []) (fun k => k)
    (fun k => k ≤ out.length ∧ (∀ v, out[k]? = some v → leE x v)) _ ?_ out.length ⟨Nat.le_refl _, fun v hv => by simp at hv⟩
  rintro k ⟨h1, h2⟩
  cases k with
  | zero =>
    right
    simp only [qer, Int.lt_irrefl, Ev.exec, qb, qe, qc, qah, Ev.Opnd.ev, Ev.Env.get, Ev.Env.set, Ev.Env.unset, Ev.look, qbb, ↓qn, Ev.it1, ↓reduceIte, Nat.reduceEqDiff, Int.cast_ofNat_Int, reduceCtorEq, decide_false, zfa, eq_self]
    exact ⟨_, rfl, 0, rfl, rfl, rfl, rfl, rfl, rfl, rfl, Nat.zero_le _, fun u h => by omega, h2⟩
  | succ j =>
    obtain ⟨y, hy⟩ : ∃ y, out[j]? = some y := ⟨_, List.getElem?_eq_getElem (by omega)⟩
    obtain ⟨k, hk1⟩ : ∃ k, k = j + 1 := ⟨_, rfl⟩
    rw [← hk1] at h1 h2 ⊢
    have c1 : (k : Int) > 0 := by omega
    have w1 : IntKind.i64.wrap ((k : Int) - 1) = (j : Int) := q0b hk1 (by omega)
    have hc := qip y x (hk y (List.mem_of_getElem? hy)) hkx
    by_cases hlt : qpn y x > 0
    · left
      refine ⟨j, ?_, ⟨by omega, fun v hv => by rw [hy] at hv; cases hv; exact (by have := qow y x; unfold leE; omega)⟩, by omega⟩
      obtain ⟨xt, xk, xl, xi, xp, xa⟩ := x
      obtain ⟨yt, yk, yl, yi, yp, ya⟩ := y
      simp only at hc
      simp only [qer, Int.natCast_nonneg, Int.toNat_natCast, List.getElem?_map, Option.map_some, hx, hy, c1, w1, hc, hlt, Evt.r, qaa, qx, Ev.exec, qb, qe, qc, qa5, qah, Ev.evs, Ev.Opnd.ev, Ev.Env.get, Ev.Env.set, Ev.look, qf, qv, qo5, qbb, qr, Ev.keep, qal, qad, qg, qbc, qa2, qm, qh, qd, ↓qn, Ev.it1, ↓reduceIte, List.length_cons, List.length_nil, List.take_succ_cons, zfe, Nat.reduceAdd, Nat.reduceEqDiff, reduceCtorEq, decide_true, zfc, and_self, zfd, Nat.le_refl, eq_self]
    · right
      have hle : leE y x := by unfold leE; omega
      have h3 : ∀ u, 0 < k → out[k - 1]? = some u → leE u x := fun u _ hu => by
        rw [hk1, Nat.add_sub_cancel, hy] at hu; cases hu; exact hle
      clear hle
      obtain ⟨xt, xk, xl, xi, xp, xa⟩ := x
      obtain ⟨yt, yk, yl, yi, yp, ya⟩ := y
      simp only at hc
      simp only [qer, Int.natCast_nonneg, Int.toNat_natCast, List.getElem?_map, Option.map_some, hx, hy, c1, w1, hc, hlt, Evt.r, qx, Ev.exec, qb, qe, qc, qa5, qah, Ev.evs, Ev.Opnd.ev, Ev.Env.get, Ev.Env.set, Ev.look, qf, qv, qo5, qbb, qbc, qa2, qm, qh, qd, ↓qn, Ev.it1, ↓reduceIte, List.length_cons, List.length_nil, List.take_succ_cons, zfe, Nat.reduceAdd, Nat.reduceEqDiff, reduceCtorEq, decide_true, decide_false, zfc, zfa, zfd, Nat.le_refl, eq_self]
      exact ⟨_, rfl, k, rfl, rfl, rfl, rfl, rfl, rfl, rfl, h1, h3, h2⟩
theorem q3d (hl : l.length ≤ 1000000) (hk : qg4 l) :
    ∃ y, itB (exec (evL T) itL none qcw) (qr [0, 3, 4] true 0) ⟨[(0, (.fsl ((l).map Evt.r) cl)), (3, .fsl [] true), (4, (ii 0))], []⟩ [] = some y ∧
      ∃ (l' : List Evt) (cf : Bool), y.1 = .exit 0 ∧ y.2.1.marks = [] ∧ y.2.2 = [] ∧ Ev.look y.2.1.vars 3 = some (.fsl ((l').map Evt.r) cf) ∧ l'.Perm l ∧ l'.Pairwise leE ∧ (l ≠ [] → cf = false) := by
  have key := qfg (f := exec (evL T) itL none qcw) (s := qr [0, 3, 4] true 0) (α := List Evt × Bool)
    (fun i a => ⟨[(0, (.fsl ((l).map Evt.r) cl)), (3, (.fsl ((a.1).map Evt.r) a.2)), (4, (ii i))], []⟩) (fun i a => [])
    (fun i a => a.1.Perm (l.take i) ∧ a.1.Pairwise leE ∧ (i ≠ 0 → a.2 = false)) l.length
    (fun y => ∃ (l' : List Evt) (cf : Bool), y.1 = .exit 0 ∧ y.2.1.marks = [] ∧ y.2.2 = [] ∧ Ev.look y.2.1.vars 3 = some (.fsl ((l').map Evt.r) cf) ∧ l'.Perm l ∧ l'.Pairwise leE ∧ (l ≠ [] → cf = false)) ?_ ?_ 0 ([], true) (Nat.zero_le _) ⟨by simp, .nil, fun h => absurd rfl h⟩
  · exact key
  · rintro i ⟨out, cf⟩ hi ⟨hp, hs, _⟩
    simp only at hp hs ⊢
    obtain ⟨x, hx⟩ : ∃ x, l[i]? = some x := ⟨_, List.getElem?_eq_getElem hi⟩
    have hi' : (i : Int) < (l.length : Int) := by omega
    have hw : IntKind.i64.wrap ((i : Int) + 1) = ((i + 1 : Nat) : Int) := by rw [qar (by omega) (by omega)]; simp
    have hol : out.length ≤ 1000000 := by have := hp.length_eq; rw [List.length_take] at this; omega
    obtain ⟨⟨y, e, σ⟩, k1, k, k2, k3, k4, k5, k6, k7, k8, k9, k10, k11⟩ := q3b l cl out x i cf hx hol (fun z hz => hk z (List.mem_of_mem_take (hp.mem_iff.1 hz))) (hk x (List.mem_of_getElem? hx))
    simp only at k1 k2 k3 k4 k5 k6 k7 k8
    subst k2; subst k4
    obtain ⟨A, B, rfl, hA⟩ : ∃ A B, out = A ++ B ∧ A.length = k := ⟨out.take k, out.drop k, (List.take_append_drop _ _).symm, by simp; omega⟩
    subst hA
    have c1 : (A.length : Int) ≤ ((A ++ B).length : Int) := by rw [List.length_append]; omega
    have c2 : (0 : Int) ≤ (A.length : Int) := by omega
    have tk : List.take A.length ((A ++ B).map Evt.r) = A.map Evt.r := by rw [List.map_append]; exact List.take_left' (by simp)
    have dr : List.drop A.length ((A ++ B).map Evt.r) = B.map Evt.r := by rw [List.map_append]; exact List.drop_left' (by simp)
    have hlen : A.length + B.length ≤ 1000000 := by rw [List.length_append] at hol; exact hol
    have new : (A ++ x :: B).Perm (l.take (i + 1)) ∧ (A ++ x :: B).Pairwise leE := by
      constructor
      · rw [qi4 hx]
        exact (List.perm_middle.trans ((List.Perm.cons x hp))).trans (List.perm_append_singleton x _).symm
      · refine qur qsv hs (fun u hu => ?_) (fun v hv => ?_)
        · have hlt : A.length - 1 < A.length := (List.getElem?_eq_some_iff.1 hu).1
          refine k10 u (by omega) ?_
          rw [List.getElem?_append_left hlt]; exact hu
        · refine k11 v ?_
          rw [List.getElem?_append_right (Nat.le_refl _), Nat.sub_self]; exact hv
    refine .inl ⟨(A ++ x :: B, false), ?_, new.1, new.2, fun _ => rfl⟩
    have b1 : A.length * 64 ≤ 140737488355328 := by omega
    have b2 : (A.length + 1) * 64 ≤ 140737488355328 := by omega
    have b3 : (A.length + 1 + B.length) * 64 ≤ 140737488355328 := by omega
    have tb : List.take ((A ++ B).length - A.length) (B.map Evt.r) = B.map Evt.r := List.take_of_length_le (by simp)
    have ta : List.take A.length (A.map Evt.r) = A.map Evt.r := List.take_of_length_le (by simp)
    have ta2 : ∀ e : List AV, List.take (A.length + 1) (A.map Evt.r ++ [e]) = A.map Evt.r ++ [e] := fun e => List.take_of_length_le (by simp)
    have ta3 : ∀ e : List AV, List.take (A.length + 1 + B.length) (A.map Evt.r ++ e :: B.map Evt.r) = A.map Evt.r ++ e :: B.map Evt.r := fun e => List.take_of_length_le (by simp; omega)
    have okAB : qce 6 ((A ++ B).map Evt.r) = true := qf1 _
    have goal' : (AV.fsl ((A ++ x :: B).map Evt.r) false) = AV.fsl (A.map Evt.r ++ x.r :: B.map Evt.r) false := by rw [List.map_append, List.map_cons]
    have n1 : ∀ p q : Nat, p + 1 + q ≤ p + (q + 1) := fun p q => by omega
    have n2 : ∀ q : Nat, 1 + q ≤ q + 1 := fun q => by omega
    simp only
    rw [goal']
    rcases A with _ | ⟨a, A⟩ <;> rcases B with _ | ⟨b, B⟩
    · obtain ⟨xt, xk, xl, xi, xp, xa⟩ := x
      simp only [List.nil_append, List.length_nil, List.map_nil, Int.ofNat_zero] at *
      simp only [qcw, Int.natCast_nonneg, Int.toNat_natCast, List.getElem?_map, Option.map_some, hx, hi', hw, k1, k3, k5, k6, k7, k8, c1, tk, dr, b1, b2, ta2, okAB, imp_self, Nat.sub_zero, Int.toNat_zero, Evt.r, qaa, qx, Ev.exec, qb, qe, qc, qah, qn4, Ev.Opnd.ev, Ev.Env.get, Ev.Env.set, Ev.look, qf0, qf, qbt, qv, qfz, Ev.AV.cells, qo, Ev.AV.plain, qap, qi, qr, Ev.keep, qal, qad, qg, qbc, qm, qh, qd, qu, qaj, qbf, List.replicate_one, List.length_map, ↓qn, ↓qa0, Ev.it1, ↓reduceIte, List.length_cons, List.length_nil, List.getElem?_cons_zero, List.take_succ_cons, List.take_zero, zfe, List.drop_zero, List.nil_append, List.set_cons_zero, Nat.reduceAdd, Nat.reduceEqDiff, Nat.reduceMul, Nat.reduceLT, Nat.reduceLeDiff, Nat.reducePow, Int.cast_ofNat_Int, reduceCtorEq, decide_true, zfc, Bool.and_true, zfa, and_self, ne_eq, zfb, zff, zfd, Nat.add_zero, Nat.lt_add_one, Nat.le_refl, Option.isSome_some, Option.isSome_none, eq_self, implies_true]
    · generalize hRB : List.map Evt.r (b :: B) = RB at *
      have nB : ¬ RB = [] := by rw [← hRB]; simp
      have lB : RB.length = (b :: B).length := by rw [← hRB]; simp
      have oB : qce 6 RB = true := by rw [← hRB]; exact qf1 _
      have loB : ∀ n, qiz n RB = true := fun n => by rw [← hRB]; exact qaa n _
      obtain ⟨xt, xk, xl, xi, xp, xa⟩ := x
      simp only [List.nil_append, List.length_nil, List.map_nil, Int.ofNat_zero, hRB, Nat.sub_zero, List.drop_zero] at *
      generalize hrb : (b :: B).length = nb at *
      simp only [qcw, Int.natCast_nonneg, Int.toNat_natCast, List.getElem?_map, Option.map_some, hx, hi', hw, k1, k3, k5, k6, k7, k8, c1, c2, tk, b1, b2, b3, ta, ta2, ta3, tb, okAB, imp_self, n2, Int.le_refl, Nat.sub_zero, nB, lB, loB, qbg, Int.toNat_zero, Evt.r, qaa, qx, Ev.exec, qb, qe, qc, qah, qn4, Ev.Opnd.ev, Ev.Env.get, Ev.Env.set, Ev.look, qf0, qf, qbt, qv, qfz, Ev.AV.cells, qo, Ev.AV.plain, qap, qi, qr, Ev.keep, qal, qad, qg, qbc, qm, qh, qd, qaj, qbg, qbf, List.replicate_one, List.length_map, ↓qn, ↓qa0, Ev.it1, ↓reduceIte, List.length_cons, List.length_nil, List.getElem?_cons_zero, List.take_succ_cons, List.take_zero, zfe, List.drop_zero, List.cons_append, List.nil_append, List.set_cons_zero, Nat.reduceAdd, Nat.reduceEqDiff, Nat.reduceMul, Nat.reduceLT, Nat.reduceLeDiff, Nat.reducePow, reduceCtorEq, decide_true, zfc, Bool.and_true, zfa, and_self, ne_eq, zfb, zff, zfd, Nat.add_zero, Nat.lt_add_one, Nat.le_refl, Option.isSome_some, Option.isSome_none, eq_self, implies_true]
    · generalize hRA : List.map Evt.r (a :: A) = RA at *
      have nA : ¬ RA = [] := by rw [← hRA]; simp
      have lA : RA.length = (a :: A).length := by rw [← hRA]; simp
      have oA : qce 6 RA = true := by rw [← hRA]; exact qf1 _
      have loA : ∀ n, qiz n RA = true := fun n => by rw [← hRA]; exact qaa n _
      obtain ⟨xt, xk, xl, xi, xp, xa⟩ := x
      simp only [List.append_nil, List.length_nil, List.map_nil, hRA, Nat.add_zero, Nat.sub_self] at *
      generalize hra : (a :: A).length = na at *
      simp only [qcw, Int.natCast_nonneg, Int.toNat_natCast, List.getElem?_map, Option.map_some, hx, hi', hw, k1, k3, k5, k6, k7, k8, c1, c2, tk, dr, b1, b2, ta2, tb, okAB, imp_self, Int.le_refl, Nat.sub_zero, nA, lA, loA, qbg, zfe, qjj, Evt.r, qaa, qx, Ev.exec, qb, qe, qc, qah, qn4, Ev.Opnd.ev, Ev.Env.get, Ev.Env.set, Ev.look, qf0, qf, qbt, qv, qfz, Ev.AV.cells, qo, Ev.AV.plain, qap, qi, qr, Ev.keep, qal, qad, qg, qbc, qm, qh, qd, qu, qaj, qbg, qbf, List.replicate_one, List.length_map, ↓qn, ↓qa0, Ev.it1, ↓reduceIte, List.length_cons, List.length_nil, List.length_append, List.getElem?_cons_zero, List.take_succ_cons, List.take_zero, zfe, List.drop_zero, List.nil_append, List.set_cons_zero, Nat.reduceAdd, Nat.reduceEqDiff, Nat.reduceMul, Nat.reduceLT, Nat.reduceLeDiff, Nat.reducePow, Int.reduceToNat, reduceCtorEq, decide_true, zfc, Bool.and_true, zfa, and_self, ne_eq, zfb, zff, zfd, Nat.add_zero, Nat.lt_add_one, Nat.le_refl, Option.isSome_some, Option.isSome_none, eq_self, implies_true]
    · generalize hRA : List.map Evt.r (a :: A) = RA at *
      generalize hRB : List.map Evt.r (b :: B) = RB at *
      have nA : ¬ RA = [] := by rw [← hRA]; simp
      have nB : ¬ RB = [] := by rw [← hRB]; simp
      have lA : RA.length = (a :: A).length := by rw [← hRA]; simp
      have lB : RB.length = (b :: B).length := by rw [← hRB]; simp
      have oA : qce 6 RA = true := by rw [← hRA]; exact qf1 _
      have oB : qce 6 RB = true := by rw [← hRB]; exact qf1 _
      have loA : ∀ n, qiz n RA = true := fun n => by rw [← hRA]; exact qaa n _
      have loB : ∀ n, qiz n RB = true := fun n => by rw [← hRB]; exact qaa n _
      generalize hra : (a :: A).length = na at *
      generalize hrb : (b :: B).length = nb at *
      generalize (a :: A) ++ (b :: B) = AB at *
      obtain ⟨xt, xk, xl, xi, xp, xa⟩ := x
      simp only [qcw, Int.natCast_nonneg, Int.toNat_natCast, List.getElem?_map, Option.map_some, hx, hi', hw, k1, k3, k5, k6, k7, k8, c1, c2, tk, dr, b1, b2, b3, ta, ta2, ta3, tb, okAB, imp_self, n1, List.append_assoc, Int.le_refl, Nat.sub_zero, nA, nB, lA, lB, oA, oB, loA, loB, qjj, Evt.r, qaa, qx, Ev.exec, qb, qe, qc, qah, qn4, Ev.Opnd.ev, Ev.Env.get, Ev.Env.set, Ev.look, qf0, qf, qbt, qv, qfz, Ev.AV.cells, qo, Ev.AV.plain, qap, qi, qr, Ev.keep, qal, qad, qg, qbc, qm, qh, qd, qaj, qbg, qbf, List.replicate_one, List.length_map, ↓qn, ↓qa0, Ev.it1, ↓reduceIte, List.length_cons, List.length_nil, List.length_append, List.getElem?_cons_zero, List.take_succ_cons, List.take_zero, zfe, List.drop_zero, List.cons_append, List.nil_append, List.set_cons_zero, Nat.reduceAdd, Nat.reduceEqDiff, Nat.reduceMul, Nat.reduceLT, Nat.reduceLeDiff, Nat.reducePow, Int.reduceToNat, reduceCtorEq, decide_true, zfc, Bool.and_true, zfa, and_self, ne_eq, zfb, zff, zfd, Nat.lt_add_one, Nat.le_refl, Option.isSome_some, Option.isSome_none, eq_self, implies_true]
  · rintro ⟨out, cf⟩ ⟨hp, hs, hc⟩
    rw [List.take_length] at hp
    simp only at hp hs hc ⊢
    simp only [qcw, Int.lt_irrefl, Ev.exec, qb, qe, qc, qah, Ev.Opnd.ev, Ev.Env.get, Ev.Env.set, Ev.look, qi, List.length_map, ↓qn, Ev.it1, ↓reduceIte, Nat.reduceEqDiff, reduceCtorEq, decide_false, zfa, ne_eq, eq_self]
    exact ⟨_, rfl, out, cf, rfl, rfl, rfl, rfl, hp, hs, fun h => hc (by intro e; exact h (List.eq_nil_of_length_eq_zero e))⟩
theorem qro (hl : l.length ≤ 1000000) (hk : qg4 l) : ∃ (l' : List Evt) (cf : Bool), l'.Perm l ∧ l'.Pairwise leE ∧ (l ≠ [] → cf = false) ∧ qa7 (evL T) qc5 [(.fsl ((l).map Evt.r) cl)] = some (.fsl ((l').map Evt.r) cf) := by
  obtain ⟨⟨y, e, σ⟩, k1, l', cf, k2, k3, k4, k5, k6, k7, k8⟩ := q3d l cl hl hk
  simp only at k1 k2 k3 k4 k5
  subst k2; subst k4
  refine ⟨l', cf, k6, k7, k8, ?_⟩
  rw [qa7, qae qq3 qqa]
  simp only [qis, k1, k3, k5, qaa, qk, Ev.exec, qb, qe, qc, qah, Ev.Opnd.ev, Ev.Env.get, Ev.Env.set, Ev.look, ql, qj, qs, qak, Ev.kill, qai, qr, Ev.keep, qal, qad, qg, qbc, qm, qu, qac, ↓qn, ↓qa0, ↓reduceIte, List.length_cons, List.length_nil, zfe, Nat.reduceEqDiff, reduceCtorEq, zfc, and_self, zfd, eq_self]
theorem qlg (hl : l.length ≤ 1000000) (hk : qg4 l) (hd : qud l) : ∃ cf : Bool, (l ≠ [] → cf = false) ∧ qa7 (evL T) qc5 [(.fsl ((l).map Evt.r) cl)] = some (.fsl ((qgx l).map Evt.r) cf) := by
  obtain ⟨l', cf, h1, h2, h3, h4⟩ := qro l cl hl hk
  rw [← qp4 hd h1 h2]; exact ⟨cf, h3, h4⟩
end
set_option maxRecDepth 10000
section
variable (c : Cfg)
theorem q3l (k : Nat) (l : List Start) (hkl : c.lps[k]? = some l) (o0 : List Evt) (g0 : Nat) (hl : l.length ≤ 12) (hk : k ≤ 12) (ho : o0.length ≤ 1000) :
    ∃ y, itB (exec (evL T) itL none qge) (qr [1, 3, 4, 5] true 1) ⟨[(1, (.fptr [(.fsl ((c.lps).map lpC) false), (.fsl ((c.progs).map qcd) false), (ii c.look), (ii c.fin), (ii c.cap)])), (3, .sl 0 g0 0 o0.length false), (4, (ii k)), (5, (ii 0))], []⟩ [.row 6 (o0.map Evt.r) g0] = some y ∧
      ∃ g : Nat, y.1 = .exit 2 ∧ y.2.1.marks = [] ∧ y.2.2 = [.row 6 ((o0 ++ qjr k l).map Evt.r) g] ∧ Ev.look y.2.1.vars 3 = some (.sl 0 g 0 (o0 ++ qjr k l).length false) ∧ Ev.look y.2.1.vars 1 = some (.fptr [(.fsl ((c.lps).map lpC) false), (.fsl ((c.progs).map qcd) false), (ii c.look), (ii c.fin), (ii c.cap)]) ∧ Ev.look y.2.1.vars 4 = some (ii k) := by
  have key := qfg (f := exec (evL T) itL none qge) (s := qr [1, 3, 4, 5] true 1) (α := List Evt × Nat)
    (fun i a => ⟨[(1, (.fptr [(.fsl ((c.lps).map lpC) false), (.fsl ((c.progs).map qcd) false), (ii c.look), (ii c.fin), (ii c.cap)])), (3, .sl 0 a.2 0 a.1.length false), (4, (ii k)), (5, (ii i))], []⟩) (fun i a => [.row 6 (a.1.map Evt.r) a.2])
    (fun i a => a.1 = o0 ++ qjr k (l.take i)) l.length
    (fun y => ∃ g : Nat, y.1 = .exit 2 ∧ y.2.1.marks = [] ∧ y.2.2 = [.row 6 ((o0 ++ qjr k l).map Evt.r) g] ∧ Ev.look y.2.1.vars 3 = some (.sl 0 g 0 (o0 ++ qjr k l).length false) ∧ Ev.look y.2.1.vars 1 = some (.fptr [(.fsl ((c.lps).map lpC) false), (.fsl ((c.progs).map qcd) false), (ii c.look), (ii c.fin), (ii c.cap)]) ∧ Ev.look y.2.1.vars 4 = some (ii k)) ?_ ?_ 0 (o0, g0) (Nat.zero_le _) (by simp [qjr])
  · exact key
  · rintro i ⟨out, g⟩ hi hout
    simp only at hout ⊢
    obtain ⟨x, hx⟩ : ∃ x, l[i]? = some x := ⟨_, List.getElem?_eq_getElem hi⟩
    have hi' : (i : Int) < (l.length : Int) := by omega
    have hw : IntKind.i64.wrap ((i : Int) + 1) = ((i + 1 : Nat) : Int) := by rw [qar (by omega) (by omega)]; simp
    have ho2 : out.length ≤ 1012 := by rw [hout, List.length_append, qy1]; have := List.length_take_le i l; omega
    have hb : (out.length + 1) * 64 ≤ 140737488355328 := by omega
    obtain ⟨t1, t2⟩ := quu out (qiq k i x).r
    have hr : (out ++ [qiq k i x]).map Evt.r = out.map Evt.r ++ [(qiq k i x).r] := by rw [List.map_append]; rfl
    refine .inl ⟨(out ++ [qiq k i x], g + 1), ?_, by simp only; rw [q2l hx, hout, List.append_assoc]⟩
    have hlo := qaa 1 (out ++ [qiq k i x])
    simp only
    rw [hr, List.length_append]
    rw [hr] at hlo
    have hrep : ∀ v : List AV, List.replicate 2 v = [v, v] := fun _ => rfl
    simp only [qiq, Evt.r, List.map_cons, List.map_nil, qbz] at t2 hlo ⊢
    simp only [qge, Int.natCast_nonneg, Int.toNat_natCast, List.getElem?_map, Option.map_some, hx, hkl, hi', hw, hb, t1, hlo, hrep, lpC, Start.r, qcb, qaw, Ev.exec, qb, qe, qc, qah, qn4, Ev.Opnd.ev, Ev.Env.get, Ev.Env.set, Ev.look, qf, qbt, qv, qfs, qfz, Ev.AV.cells, Ev.AV.uc, qo, Ev.AV.plain, qap, qi, qr, Ev.keep, qal, qad, qg, Ev.SObj.lo, qbc, qm, qbh, qdn, qh, qd, qbg, qbf, List.replicate_one, List.length_map, ↓qn, Ev.it1, ↓reduceIte, List.length_cons, List.length_nil, List.getElem?_cons_zero, List.take_succ_cons, List.take_zero, zfe, List.drop_succ_cons, List.drop_zero, List.cons_append, List.nil_append, List.set_cons_zero, List.set_cons_succ, List.head?_cons, Nat.reduceAdd, Nat.reduceEqDiff, Nat.reduceMul, Nat.reduceLT, Nat.reduceLeDiff, Nat.reducePow, decide_true, zfc, zfa, and_self, ne_eq, zfb, zff, zfd, Nat.lt_add_one, Nat.le_refl, eq_self]
  · rintro ⟨out, g⟩ hout
    rw [List.take_length] at hout
    simp only at hout ⊢
    simp only [qge, Int.natCast_nonneg, Int.toNat_natCast, List.getElem?_map, Option.map_some, hkl, lpC, Int.lt_irrefl, Ev.exec, qb, qe, qc, qah, Ev.Opnd.ev, Ev.Env.get, Ev.Env.set, Ev.look, qf, qv, qi, List.length_map, ↓qn, Ev.it1, ↓reduceIte, List.length_cons, List.length_nil, List.length_append, List.drop_zero, List.head?_cons, Nat.reduceEqDiff, decide_false, zfa, zfd, eq_self]
    exact ⟨_, rfl, g, rfl, rfl, by rw [hout], by rw [hout, List.length_append]; rfl, rfl, rfl⟩
theorem q2r (h : Small12 c) :
    ∃ y, itB (exec (evL T) itL none qgj) (qr [1, 3, 4] true 1) ⟨[(1, (.fptr [(.fsl ((c.lps).map lpC) false), (.fsl ((c.progs).map qcd) false), (ii c.look), (ii c.fin), (ii c.cap)])), (3, .sl 0 0 0 0 false), (4, (ii 0))], []⟩ [.row 6 [] 0] = some y ∧
      ∃ g : Nat, y.1 = .exit 0 ∧ y.2.1.marks = [] ∧ y.2.2 = [.row 6 ((qjn c.lps).map Evt.r) g] ∧ Ev.look y.2.1.vars 3 = some (.sl 0 g 0 (qjn c.lps).length false) := by
  have key := qfg (f := exec (evL T) itL none qgj) (s := qr [1, 3, 4] true 1) (α := List Evt × Nat)
    (fun i a => ⟨[(1, (.fptr [(.fsl ((c.lps).map lpC) false), (.fsl ((c.progs).map qcd) false), (ii c.look), (ii c.fin), (ii c.cap)])), (3, .sl 0 a.2 0 a.1.length false), (4, (ii i))], []⟩) (fun i a => [.row 6 (a.1.map Evt.r) a.2])
    (fun i a => a.1 = qjn (c.lps.take i)) c.lps.length
    (fun y => ∃ g : Nat, y.1 = .exit 0 ∧ y.2.1.marks = [] ∧ y.2.2 = [.row 6 ((qjn c.lps).map Evt.r) g] ∧ Ev.look y.2.1.vars 3 = some (.sl 0 g 0 (qjn c.lps).length false)) ?_ ?_ 0 ([], 0) (Nat.zero_le _) (by simp [qjn])
  · exact key
  · rintro i ⟨out, g⟩ hi hout
    simp only at hout ⊢
    obtain ⟨x, hx⟩ : ∃ x, c.lps[i]? = some x := ⟨_, List.getElem?_eq_getElem hi⟩
    have hlps := h.lps
    have hi' : (i : Int) < (c.lps.length : Int) := by omega
    have hw : IntKind.i64.wrap ((i : Int) + 1) = ((i + 1 : Nat) : Int) := by rw [qar (by omega) (by omega)]; simp
    have hl := h.len i
    obtain ⟨⟨y, e, σ⟩, k1, g', k2, k3, k4, k5, k6, k7⟩ := q3l c i x hx out g (h.lp _ (List.mem_of_getElem? hx)) (by omega) (by rw [hout]; omega)
    simp only at k1 k2 k3 k4 k5 k6 k7
    subst k2; subst k4
    refine .inl ⟨(out ++ qjr i x, g'), ?_, by simp only; rw [qy3 hx, hout]⟩
    simp only [List.length_append] at k5 ⊢
    simp only [qgj, hi', hw, k1, k3, k5, k6, k7, qaa, qcb, qaw, Ev.exec, qb, qe, qc, qah, Ev.Opnd.ev, Ev.Env.get, Ev.Env.set, Ev.look, qf, qv, qap, qi, qr, Ev.keep, qal, qad, qg, Ev.SObj.lo, qbc, qm, qbh, qdn, qh, qd, List.length_map, ↓qn, ↓qa0, Ev.it1, ↓reduceIte, List.length_cons, List.length_nil, List.take_succ_cons, zfe, List.drop_zero, List.head?_cons, Nat.reduceEqDiff, decide_true, zfc, zfa, and_self, zfd, Nat.lt_add_one, eq_self]
  · rintro ⟨out, g⟩ hout
    rw [List.take_length] at hout
    simp only at hout ⊢
    simp only [qgj, Int.lt_irrefl, Ev.exec, qb, qe, qc, qah, Ev.Opnd.ev, Ev.Env.get, Ev.Env.set, Ev.look, qf, qv, qi, List.length_map, ↓qn, Ev.it1, ↓reduceIte, List.drop_zero, List.head?_cons, Nat.reduceEqDiff, decide_false, zfa, eq_self]
    exact ⟨_, rfl, g, rfl, rfl, by rw [hout], by rw [hout]; rfl⟩
theorem qva (h : Small12 c) : ∃ cf : Bool, qa7 (evL T) qeq [(.agg [(.fsl ((c.lps).map lpC) false), (.fsl ((c.progs).map qcd) false), (ii c.look), (ii c.fin), (ii c.cap)])] = some (.fsl ((qgx (qjn c.lps)).map Evt.r) cf) := by
  obtain ⟨⟨y, e, σ⟩, k1, g, k2, k3, k4, k5⟩ := q2r c h
  simp only at k1 k2 k3 k4 k5
  subst k2; subst k4
  have hl := h.len c.lps.length
  rw [List.take_length] at hl
  obtain ⟨cf, _, hs⟩ := qlg (qjn c.lps) false (by omega) (q4w _) (q4n _)
  refine ⟨cf, ?_⟩
  have t1 := (quu (qjn c.lps) []).1
  rw [qa7, qae qtt qsl]
  simp only [qkl, k1, k3, k5, hs, t1, qaa, qcb, qaw, qk, Ev.exec, qb, qe, qc, qa5, qah, Ev.evs, Ev.Opnd.ev, Ev.Env.get, Ev.Env.set, Ev.look, ql, Ev.AV.cells, qo, Ev.AV.plain, qj, qs, qak, Ev.kill, qai, qr, Ev.keep, qal, qad, qg, Ev.SObj.lo, qbc, qm, qbh, qdn, qh, qd, qu, qac, List.length_map, ↓qn, ↓qa0, ↓reduceIte, List.length_cons, List.length_nil, List.getElem?_cons_zero, List.take_succ_cons, List.take_zero, zfe, List.drop_zero, List.nil_append, List.set_cons_zero, Nat.reduceEqDiff, Nat.reduceLT, decide_true, zfc, and_self, ne_eq, zfb, zff, zfd, Nat.lt_add_one, Nat.le_refl, eq_self]
end
set_option maxRecDepth 10000
section
variable (D : List Evt) (G : List (List Int)) (cd cg : Bool)
theorem q3g (o : List Evt) (g i : Nat) (x : Evt) (hx : D[i]? = some x) (hG : G.length ≤ 1000) (hk : ∀ k ∈ G, k.length ≤ 9223372036854775807) (hxk : x.key.length ≤ 9223372036854775807) :
    ∃ y, itB (exec (evL T) itL none qgn) (qr [0, 1, 5, 6, 7, 8] true 1) ⟨[(0, (.fsl ((D).map Evt.r) cd)), (1, (.fsl ((G).map qel) cg)), (5, .sl 0 g 0 o.length false), (6, (ii i)), (7, (bb false)), (8, (ii ((0 : Nat))))], []⟩ [.row 6 (o.map Evt.r) g] = some y ∧
      (y.1 = .exit 2 ∧ y.2.1.marks = [] ∧ y.2.2 = [.row 6 (o.map Evt.r) g] ∧ Ev.look y.2.1.vars 0 = some (.fsl ((D).map Evt.r) cd) ∧ Ev.look y.2.1.vars 1 = some (.fsl ((G).map qel) cg) ∧ Ev.look y.2.1.vars 5 = some (.sl 0 g 0 o.length false) ∧ Ev.look y.2.1.vars 6 = some (ii i) ∧ Ev.look y.2.1.vars 7 = some (bb (!qjm G x))) := by
  have hb : (!qjm G x) = G.any fun k => decide (x.key = k) := by
    unfold qjm
    rw [Bool.not_not]
    congr 1; funext k; exact decide_eq_decide.2 eq_comm
  rw [hb]
  have key := qfg (f := exec (evL T) itL none qgn) (s := qr [0, 1, 5, 6, 7, 8] true 1) (α := Unit)
    (fun j _ => ⟨[(0, (.fsl ((D).map Evt.r) cd)), (1, (.fsl ((G).map qel) cg)), (5, .sl 0 g 0 o.length false), (6, (ii i)), (7, (bb (((G.take j).any fun k => decide (x.key = k))))), (8, (ii j))], []⟩) (fun _ _ => [.row 6 (o.map Evt.r) g])
    (fun _ _ => True) G.length
    (fun y => y.1 = .exit 2 ∧ y.2.1.marks = [] ∧ y.2.2 = [.row 6 (o.map Evt.r) g] ∧ Ev.look y.2.1.vars 0 = some (.fsl ((D).map Evt.r) cd) ∧ Ev.look y.2.1.vars 1 = some (.fsl ((G).map qel) cg) ∧ Ev.look y.2.1.vars 5 = some (.sl 0 g 0 o.length false) ∧ Ev.look y.2.1.vars 6 = some (ii i) ∧ Ev.look y.2.1.vars 7 = some (bb ((G.any fun k => decide (x.key = k))))) ?_ ?_ 0 () (Nat.zero_le _) trivial
  · exact key
  · rintro j _ hj _
    obtain ⟨z, hz⟩ : ∃ z, G[j]? = some z := ⟨_, List.getElem?_eq_getElem hj⟩
    have hj' : (j : Int) < (G.length : Int) := by omega
    have hw : IntKind.i64.wrap ((j : Int) + 1) = ((j + 1 : Nat) : Int) := by rw [qar (by omega) (by omega)]; simp
    have e1 : ((G.take (j + 1)).any fun k => decide (x.key = k)) = (((G.take j).any fun k => decide (x.key = k)) || decide (x.key = z)) := by rw [qi4 hz, List.any_append]; simp
    have sk := qzm x.key z false false hxk (hk z (List.mem_of_getElem? hz))
    refine .inl ⟨(), ?_, trivial⟩
    rw [e1]
    generalize ((G.take j).any fun k => decide (x.key = k)) = f
    generalize decide (x.key = z) = f2 at *
    obtain ⟨xt, xk, xl, xi, xp, xa⟩ := x
    cases f <;> simp only [qgn, Int.natCast_nonneg, Int.toNat_natCast, List.getElem?_map, Option.map_some, hx, hz, hj', hw, sk, Evt.r, qel, qbm, qaa, qx, Ev.exec, qb, qe, qc, qa5, qah, Ev.evs, Ev.Opnd.ev, Ev.Env.get, Ev.Env.set, Ev.Env.unset, Ev.look, qf, qv, qap, qi, qr, Ev.keep, qal, qad, qg, Ev.SObj.lo, qbc, qm, qdn, qh, qd, List.length_map, ↓qn, Ev.it1, ↓reduceIte, List.length_cons, List.length_nil, List.take_succ_cons, zfe, List.drop_succ_cons, List.drop_zero, List.head?_cons, Nat.reduceAdd, Nat.reduceEqDiff, reduceCtorEq, decide_true, zfc, Bool.true_or, Bool.false_or, zfa, Bool.true_eq_false, and_self, zfd, Nat.lt_add_one, eq_self]
  · rintro _ _
    simp only [List.take_length]
    simp only [qgn, Int.lt_irrefl, Ev.exec, qb, qe, qc, qah, Ev.Opnd.ev, Ev.Env.get, Ev.Env.set, Ev.look, qi, List.length_map, ↓qn, Ev.it1, ↓reduceIte, Nat.reduceEqDiff, reduceCtorEq, decide_false, zfa, eq_self]
    exact ⟨_, rfl, rfl, rfl, rfl, rfl, rfl, rfl, rfl, rfl⟩
theorem q5t (hD : D.length ≤ 1000000) (hDk : qg4 D) (hG : G.length ≤ 1000) (hk : ∀ k ∈ G, k.length ≤ 9223372036854775807) :
    qa7 (evL T) qfv [(.fsl ((D).map Evt.r) cd), (.fsl ((G).map qel) cg)] = some (.fsl (((D.filter (qjm G))).map Evt.r) false) := by
  have hL : ∃ y, itB (exec (evL T) itL none qey) (qr [0, 1, 5, 6] true 1) ⟨[(0, (.fsl ((D).map Evt.r) cd)), (1, (.fsl ((G).map qel) cg)), (5, .sl 0 0 0 0 false), (6, (ii ((0 : Nat))))], []⟩ [.row 6 [] 0] = some y ∧
      ∃ g : Nat, y.1 = .exit 0 ∧ y.2.1.marks = [] ∧ y.2.2 = [.row 6 ((D.filter (qjm G)).map Evt.r) g] ∧ Ev.look y.2.1.vars 5 = some (.sl 0 g 0 (D.filter (qjm G)).length false) := by
    have key := qfg (f := exec (evL T) itL none qey) (s := qr [0, 1, 5, 6] true 1) (α := Nat)
      (fun i g => ⟨[(0, (.fsl ((D).map Evt.r) cd)), (1, (.fsl ((G).map qel) cg)), (5, .sl 0 g 0 ((D.take i).filter (qjm G)).length false), (6, (ii i))], []⟩) (fun i g => [.row 6 (((D.take i).filter (qjm G)).map Evt.r) g])
      (fun _ _ => True) D.length
      (fun y => ∃ g : Nat, y.1 = .exit 0 ∧ y.2.1.marks = [] ∧ y.2.2 = [.row 6 ((D.filter (qjm G)).map Evt.r) g] ∧ Ev.look y.2.1.vars 5 = some (.sl 0 g 0 (D.filter (qjm G)).length false)) ?_ ?_ 0 0 (Nat.zero_le _) trivial
    · exact key
    · rintro i g hi _
      obtain ⟨x, hx⟩ : ∃ z, D[i]? = some z := ⟨_, List.getElem?_eq_getElem hi⟩
      have hi' : (i : Int) < (D.length : Int) := by omega
      have hw : IntKind.i64.wrap ((i : Int) + 1) = ((i + 1 : Nat) : Int) := by rw [qar (by omega) (by omega)]; simp
      obtain ⟨⟨y, e, σ⟩, k1, k2, k3, k4, k5, k6, k7, k8, k9⟩ := q3g D G cd cg ((D.take i).filter (qjm G)) g i x hx hG hk (hDk x (List.mem_of_getElem? hx))
      simp only [Int.ofNat_zero] at k1 k2 k3 k4 k5 k6 k7 k8 k9
      subst k2; subst k4
      have hle : ((D.take i).filter (qjm G)).length ≤ 1000000 := by
        have h1 := List.length_filter_le (qjm G) (D.take i)
        have h2 := List.length_take_le' i D
        omega
      cases hb : qjm G x with
      | true =>
        rw [hb] at k9
        have e1 : (D.take (i + 1)).filter (qjm G) = (D.take i).filter (qjm G) ++ [x] := by rw [qi4 hx, List.filter_append]; simp [hb]
        refine .inl ⟨g + 1, ?_, trivial⟩
        rw [e1]
        generalize (D.take i).filter (qjm G) = W at *
        have tk : List.take W.length (W.map Evt.r) = W.map Evt.r := List.take_of_length_le (by simp)
        have b : (W.length + 1) * 64 ≤ 140737488355328 := by omega
        have hm : (W ++ [x]).map Evt.r = W.map Evt.r ++ [x.r] := by rw [List.map_append]; rfl
        have hlo : qiz 1 (W.map Evt.r ++ [x.r]) = true := by rw [← hm]; exact qaa _ _
        rw [hm, List.length_append]
        obtain ⟨xt, xk, xl, xi, xp, xa⟩ := x
        simp only [Evt.r] at hlo
        simp only [qey, Int.natCast_nonneg, Int.toNat_natCast, List.getElem?_map, Option.map_some, hx, hi', hw, k1, k3, k5, k6, k7, k8, k9, tk, b, hlo, Evt.r, qbm, qaa, Ev.exec, qb, qe, qc, qah, qn4, Ev.Opnd.ev, Ev.Env.get, Ev.Env.set, Ev.look, qf, qbt, qv, qfz, Ev.AV.cells, qo, Ev.AV.plain, qap, qi, qr, Ev.keep, qal, qad, qg, Ev.SObj.lo, qbc, qm, qdn, qbg, qbf, List.replicate_one, List.length_map, ↓qn, ↓qa0, Ev.it1, ↓reduceIte, List.length_cons, List.length_nil, List.getElem?_cons_zero, List.take_succ_cons, zfe, List.set_cons_zero, Nat.reduceAdd, Nat.reduceEqDiff, Nat.reduceMul, Nat.reduceLeDiff, Nat.reducePow, reduceCtorEq, decide_true, zfc, Bool.not_true, Bool.not_false, and_self, ne_eq, zfb, zff, zfd, Nat.lt_add_one, Nat.le_refl, eq_self]
      | false =>
        rw [hb] at k9
        have e1 : (D.take (i + 1)).filter (qjm G) = (D.take i).filter (qjm G) := by rw [qi4 hx, List.filter_append]; simp [hb]
        refine .inl ⟨g, ?_, trivial⟩
        rw [e1]
        generalize (D.take i).filter (qjm G) = W at *
        simp only [qey, hi', hw, k1, k3, k5, k6, k7, k8, k9, qbm, qaa, Ev.exec, qb, qe, qc, qah, Ev.Opnd.ev, Ev.Env.get, Ev.Env.set, Ev.look, qap, qi, qr, Ev.keep, qal, qad, qg, Ev.SObj.lo, qbc, qm, qdn, List.length_map, ↓qn, ↓qa0, Ev.it1, ↓reduceIte, List.length_cons, List.length_nil, List.take_succ_cons, zfe, Nat.reduceEqDiff, reduceCtorEq, decide_true, zfc, Bool.not_true, Bool.not_false, zfa, and_self, zfd, Nat.lt_add_one, eq_self]
    · rintro g _
      simp only [List.take_length]
      simp only [qey, Int.lt_irrefl, Ev.exec, qb, qe, qc, qah, Ev.Opnd.ev, Ev.Env.get, Ev.Env.set, Ev.look, qi, List.length_map, ↓qn, Ev.it1, ↓reduceIte, Nat.reduceEqDiff, reduceCtorEq, decide_false, zfa, eq_self]
      exact ⟨_, rfl, g, rfl, rfl, rfl, rfl⟩
  obtain ⟨⟨y, e, σ⟩, k1, g, k2, k3, k4, k5⟩ := hL
  simp only [Int.ofNat_zero] at k1 k2 k3 k4 k5
  subst k2; subst k4
  have tk : List.take (D.filter (qjm G)).length ((D.filter (qjm G)).map Evt.r) = (D.filter (qjm G)).map Evt.r := List.take_of_length_le (by simp)
  generalize D.filter (qjm G) = W at *
  rw [qa7, qae qtm qsp]
  simp only [qkf, k1, k3, k5, tk, qbm, qaa, qk, Ev.exec, qb, qe, qc, qah, Ev.Opnd.ev, Ev.Env.get, Ev.Env.set, Ev.look, ql, qj, qs, qak, Ev.kill, qai, qr, Ev.keep, qal, qad, qg, Ev.SObj.lo, qbc, qm, qdn, qu, qg8, qe1, List.length_map, ↓qn, ↓qa0, ↓reduceIte, List.length_cons, List.length_nil, List.getElem?_cons_zero, List.take_succ_cons, List.take_zero, zfe, List.drop_zero, List.nil_append, Nat.reduceAdd, Nat.reduceEqDiff, Nat.reduceLT, reduceCtorEq, decide_true, decide_false, zfc, zfa, and_self, and_true, zfd, Nat.lt_add_one, Nat.le_refl, eq_self]
end
set_option maxRecDepth 10000
theorem q8g (c : Cfg) (h : Small12 c) (h1 : 1 ≤ c.lps.length) : qa7 (evL T) qh3 [(.agg [(.fsl ((c.lps).map lpC) false), (.fsl ((c.progs).map qcd) false), (ii c.look), (ii c.fin), (ii c.cap)])] = some (.agg [(.fsl (((start c).trace).map qcu) false), (.fsl (((qj4 c.lps)).map lpF) false), (.fsl (((start c).pend).map Evt.r) false), (ii ((start c).n)), (bb ((start c).over))]) := by
  have hs := qwp c h
  obtain ⟨cf, hi⟩ := qva c h
  have hlps := h.lps
  have hL : ∃ y, itB (exec (evL T) itL none qf7) (qr [1, 2, 3, 4] false 2) ⟨[(1, (.fptr [(.fsl ((c.lps).map lpC) false), (.fsl ((c.progs).map qcd) false), (ii c.look), (ii c.fin), (ii c.cap)])), (2, .ptr 0 0 0 0), (3, .ptr 1 0 0 0), (4, (ii ((0 : Nat))))], []⟩ (.row 5 [[.fsl [] false, .fsl [] false, .fsl [] false, (ii 0), (bb false)]] 0 :: .row 5 [[.fsl [] true, (.fsl (((qj4 c.lps)).map lpF) false), (.fsl (((qgx (qjn c.lps))).map Evt.r) false), (ii 0), (bb false)]] 0 :: []) = some y ∧
      ∃ g : Nat, y.1 = .exit 0 ∧ y.2.1.marks = [] ∧ y.2.2 = [.row 5 [[.fsl [] false, .fsl [] false, .fsl [] false, (ii 0), (bb false)]] 0, .row 5 [[.sl 2 g 0 c.lps.length false, (.fsl (((qj4 c.lps)).map lpF) false), (.fsl (((qgx (qjn c.lps))).map Evt.r) false), (ii 0), (bb false)]] 0, .row 1 (List.replicate c.lps.length (qcu [])) g] ∧ Ev.look y.2.1.vars 2 = some (.ptr 0 0 0 0) ∧ Ev.look y.2.1.vars 3 = some (.ptr 1 0 0 0) := by
    have key := qfg (f := exec (evL T) itL none qf7) (s := qr [1, 2, 3, 4] false 2) (α := AV × qq)
      (fun i a => ⟨[(1, (.fptr [(.fsl ((c.lps).map lpC) false), (.fsl ((c.progs).map qcd) false), (ii c.look), (ii c.fin), (ii c.cap)])), (2, .ptr 0 0 0 0), (3, .ptr 1 0 0 0), (4, (ii i))], []⟩) (fun i a => .row 5 [[.fsl [] false, .fsl [] false, .fsl [] false, (ii 0), (bb false)]] 0 :: .row 5 [[a.1, (.fsl (((qj4 c.lps)).map lpF) false), (.fsl (((qgx (qjn c.lps))).map Evt.r) false), (ii 0), (bb false)]] 0 :: a.2)
      (fun i a => i = 0 ∧ a = (.fsl [] true, []) ∨ 0 < i ∧ ∃ g : Nat, a = (.sl 2 g 0 i false, [.row 1 (List.replicate i (qcu [])) g])) c.lps.length
      (fun y => ∃ g : Nat, y.1 = .exit 0 ∧ y.2.1.marks = [] ∧ y.2.2 = [.row 5 [[.fsl [] false, .fsl [] false, .fsl [] false, (ii 0), (bb false)]] 0, .row 5 [[.sl 2 g 0 c.lps.length false, (.fsl (((qj4 c.lps)).map lpF) false), (.fsl (((qgx (qjn c.lps))).map Evt.r) false), (ii 0), (bb false)]] 0, .row 1 (List.replicate c.lps.length (qcu [])) g] ∧ Ev.look y.2.1.vars 2 = some (.ptr 0 0 0 0) ∧ Ev.look y.2.1.vars 3 = some (.ptr 1 0 0 0)) ?_ ?_ 0 (.fsl [] true, []) (Nat.zero_le _) (.inl ⟨rfl, rfl⟩)
    · exact key
    · rintro i a hi ha
      have hi' : (i : Int) < (c.lps.length : Int) := by omega
      have hw : IntKind.i64.wrap ((i : Int) + 1) = ((i + 1 : Nat) : Int) := by rw [qar (by omega) (by omega)]; simp
      rcases ha with ⟨h0, rfl⟩ | ⟨h0, g, rfl⟩
      · refine .inl ⟨(.sl 2 0 0 (i + 1) false, [.row 1 (List.replicate (i + 1) (qcu [])) 0]), ?_, .inr ⟨by omega, 0, rfl⟩⟩
        have e1 : i + 1 = 1 := by omega
        have e2 : List.replicate (i + 1) (qcu []) = [[.fsl [] false]] := by rw [e1]; rfl
        rw [e2]
        have e3 : (AV.sl 2 0 0 (i + 1) false) = .sl 2 0 0 1 false := by rw [e1]
        simp only [e3]
        simp only [qf7, hi', hw, Ev.exec, qb, qe, qc, qah, qn4, Ev.Opnd.ev, Ev.Env.get, Ev.Env.set, Ev.look, qf, qbt, qv, qfz, Ev.AV.cells, Ev.AV.uc, qo, Ev.AV.plain, qap, qi, qr, Ev.keep, qbg, qbf, List.replicate_one, List.length_map, ↓qn, Ev.it1, ↓reduceIte, List.length_cons, List.length_nil, List.getElem?_cons_zero, List.getElem?_cons_succ, List.take_zero, List.drop_succ_cons, List.drop_zero, List.cons_append, List.nil_append, List.set_cons_zero, List.set_cons_succ, List.head?_cons, Nat.reduceAdd, Nat.reduceEqDiff, Nat.reduceMul, Nat.reduceLeDiff, Nat.reducePow, decide_true, zfc, zfa, and_self, ne_eq, zfb, not_true_eq_false, zff, zfd, Nat.add_zero, Nat.lt_add_one, eq_self]
      · refine .inl ⟨(.sl 2 (g + 1) 0 (i + 1) false, [.row 1 (List.replicate (i + 1) (qcu [])) (g + 1)]), ?_, .inr ⟨by omega, g + 1, rfl⟩⟩
        have e1 : List.replicate (i + 1) (qcu []) = List.replicate i (qcu []) ++ [[.fsl [] false]] := by rw [List.replicate_succ']; rfl
        have b : (i + 1) * 24 ≤ 140737488355328 := by omega
        have hl : (List.replicate i (qcu [])).length = i := List.length_replicate
        have tk : List.take i (List.replicate i (qcu [])) = List.replicate i (qcu []) := List.take_of_length_le (by simp)
        rw [e1]
        generalize List.replicate i (qcu []) = RR at *
        have hle : i ≤ i := Nat.le_refl _
        simp only [qf7, hi', hw, b, hl, tk, hle, Ev.exec, qb, qe, qc, qah, qn4, Ev.Opnd.ev, Ev.Env.get, Ev.Env.set, Ev.look, qf, qbt, qv, qfz, Ev.AV.cells, Ev.AV.uc, qo, Ev.AV.plain, qap, qi, qr, Ev.keep, qbg, qbf, List.replicate_one, List.length_map, ↓qn, Ev.it1, ↓reduceIte, List.length_cons, List.length_nil, List.getElem?_cons_zero, List.getElem?_cons_succ, List.take_zero, List.drop_succ_cons, List.drop_zero, List.cons_append, List.nil_append, List.set_cons_zero, List.set_cons_succ, List.head?_cons, Nat.reduceAdd, Nat.reduceEqDiff, Nat.reduceMul, Nat.reduceLeDiff, Nat.reducePow, decide_true, zfc, zfa, and_self, ne_eq, zfb, zff, zfd, Nat.add_zero, Nat.lt_add_one, eq_self]
    · rintro a ha
      rcases ha with ⟨h0, rfl⟩ | ⟨h0, g, rfl⟩
      · omega
      · simp only [qf7, Int.lt_irrefl, Ev.exec, qb, qe, qc, qah, Ev.Opnd.ev, Ev.Env.get, Ev.Env.set, Ev.look, qf, qv, qi, List.length_map, ↓qn, Ev.it1, ↓reduceIte, List.drop_zero, List.head?_cons, Nat.reduceEqDiff, decide_false, zfa, eq_self]
        exact ⟨_, rfl, g, rfl, rfl, rfl, rfl, rfl⟩
  obtain ⟨⟨y, e, σ⟩, k1, g, k2, k3, k4, k5, k6⟩ := hL
  simp only [Int.ofNat_zero] at k1 k2 k3 k4 k5 k6
  subst k2; subst k4
  have e1 : (start c).trace.map qcu = List.replicate c.lps.length (qcu []) := by simp [K.start]
  have e2 : (start c).pend = qgx (qjn c.lps) := rfl
  have e3 : (start c).n = 0 := rfl
  have e4 : (start c).over = false := rfl
  rw [e1, e2, e3, e4]
  have tk : List.take c.lps.length (List.replicate c.lps.length (qcu [])) = List.replicate c.lps.length (qcu []) := List.take_of_length_le (by simp)
  have hlo : qiz 0 (List.replicate c.lps.length (qcu [])) = true := qyi _ _ _ (q3v _ _)
  have hl : (List.replicate c.lps.length (qcu [])).length = c.lps.length := List.length_replicate
  generalize List.replicate c.lps.length (qcu []) = RR at *
  have hle : c.lps.length ≤ c.lps.length := Nat.le_refl _
  rw [qa7, qae qwy qvk]
  simp only [qln, hs, hi, k1, k3, k5, k6, tk, hlo, hl, hle, qcb, qaw, qaa, qtn, qk, Ev.exec, qb, qe, qc, qa5, qah, Ev.evs, Ev.Opnd.ev, Ev.Env.get, Ev.Env.set, Ev.look, ql, qf, qv, qfs, Ev.AV.cells, Ev.AV.uc, qo, Ev.AV.plain, qj, qs, qak, Ev.kill, qai, qr, Ev.keep, qg, qbc, qa2, qm, qdn, qh, qd, qac, q0d, qg8, qe1, qgi, qeh, ↓qn, ↓qa0, ↓reduceIte, List.length_cons, List.length_nil, List.getElem?_cons_zero, List.getElem?_cons_succ, List.take_succ_cons, List.take_zero, zfe, List.drop_succ_cons, List.drop_zero, List.drop_nil, List.cons_append, List.nil_append, List.append_nil, List.set_cons_zero, List.set_cons_succ, Nat.reduceAdd, Nat.reduceEqDiff, Nat.reduceLT, Nat.reduceLeDiff, Int.cast_ofNat_Int, decide_false, zfc, Bool.and_true, zfa, and_self, and_true, ne_eq, zfb, zff, zfd, Nat.le_refl, eq_self]
section
variable {c : Cfg} {s : Sim} {h : List Evt}
theorem q46 (H : SInv c s h) {e : Evt} {rest : List Evt} (hp : s.pend = e :: rest) (hh : h.length ≤ 60) (L : List (Lp × Bool)) (hL : L.map Prod.fst = s.lps) (hfl : ∀ x ∈ L, x.2 = true → x.1.procs = []) :
    ∃ L' : List (Lp × Bool), L'.map Prod.fst = (s.step c e rest).lps ∧ (∀ x ∈ L', x.2 = true → x.1.procs = []) ∧
      qa7 (evL T) qgt [(.agg [(.fsl ((c.lps).map lpC) false), (.fsl ((c.progs).map qcd) false), (ii c.look), (ii c.fin), (ii c.cap)]), (.agg [(.fsl ((s.trace).map qcu) false), (.fsl ((L).map lpF) false), (.fsl ((s.pend).map Evt.r) false), (ii s.n), (bb s.over)])] = some (.agg [(.fsl (((s.step c e rest).trace).map qcu) false), (.fsl ((L').map lpF) false), (.fsl (((s.step c e rest).pend).map Evt.r) false), (ii ((s.step c e rest).n)), (bb ((s.step c e rest).over))]) := by
  obtain ⟨x, hx, hlx, R⟩ := H.head hp (by omega)
  have ge := H.ev e (by rw [hp]; simp)
  obtain ⟨i, hi⟩ : ∃ i : Nat, e.lp = i := ⟨_, (Int.toNat_of_nonneg ge.lp.1).symm⟩
  have hin : i < c.lps.length := by have := ge.lp; omega
  rw [hi, Int.toNat_natCast] at hx
  obtain ⟨z, hz⟩ : ∃ z, L[i]? = some z := ⟨_, List.getElem?_eq_getElem (by have := congrArg List.length hL; rw [List.length_map, H.lpl] at this; omega)⟩
  have hz1 : z.1 = x := by
    have : s.lps[i]? = some z.1 := by rw [← hL, List.getElem?_map, hz]; rfl
    rw [hx] at this; exact (Option.some.inj this).symm
  obtain ⟨z1, f⟩ := z
  simp only at hz1
  subst hz1
  have hf := hfl _ (List.mem_of_getElem? hz)
  simp only at hf
  have hsz := R.sizes
  have hkn := H.keyNe hp (by omega)
  rw [hlx] at hkn
  obtain ⟨q1, _, q3, q4, q5, q6⟩ := hsz
  have hlen := H.len
  rw [hp] at hlen
  have ht : s.trace[i]? = some (qsb s i) := by unfold qsb; rw [Int.toNat_natCast, List.getElem?_eq_getElem (by rw [H.trl]; exact hin)]; rfl
  have htl : (qsb s i).length ≤ 1000 := by
    have h1 := H.tr i hin
    have : qsb s i = qgg h i := by unfold qsb; rw [Int.toNat_natCast, h1]; rfl
    rw [this]
    have := List.length_filter_le (fun e : Evt => decide (e.lp = i)) h
    unfold qgg; omega
  have hE := q7i R f hf
  have hkr : qk7 (rest ++ (qbe c z1 e).out) := (List.pairwise_append.1 hkn).2.1
  have hko : qg4 (rest ++ (qbe c z1 e).out) := by
    intro y hy
    rcases List.mem_append.1 hy with hy | hy
    · have := (H.ev y (by rw [hp]; simp [hy])).key; omega
    · have := q4 y hy; omega
  have hsub : ((rest ++ (qbe c z1 e).out).filter (qjm (qbe c z1 e).gone)).Sublist (rest ++ (qbe c z1 e).out) := List.filter_sublist
  have hDl : (rest ++ (qbe c z1 e).out).length ≤ 1000000 := by simp only [List.length_append, List.length_cons] at hlen ⊢; omega
  have hW := q5t (rest ++ (qbe c z1 e).out) (qbe c z1 e).gone false (qbe c z1 e).nil hDl hko (by omega) (fun k hk => by have := q5 k hk; omega)
  obtain ⟨cf, _, hS⟩ := qlg ((rest ++ (qbe c z1 e).out).filter (qjm (qbe c z1 e).gone)) false (by have := hsub.length_le; omega) (fun x hx => hko x (hsub.subset hx)) (List.Pairwise.sublist hsub hkr.dist)
  have hstep : s.step c e rest = ⟨s.trace.set i (qsb s i ++ [e]), s.lps.set i (qbe c z1 e).lp, qgx ((rest ++ (qbe c z1 e).out).filter (qjm (qbe c z1 e).gone)), s.n + 1, s.over || (qbe c z1 e).over⟩ := by
    unfold Sim.step; rw [hlx, hi, Int.toNat_natCast]
  refine ⟨L.set i ((qbe c z1 e).lp, f), by rw [hstep, List.map_set, hL], fun y hy hyf => ?_, ?_⟩
  · rcases List.mem_or_eq_of_mem_set hy with hy | rfl
    · exact hfl y hy hyf
    · exact q1x (hf hyf)
  rw [hstep, hp]
  have hw : IntKind.i64.wrap ((s.n : Int) + 1) = ((s.n + 1 : Nat) : Int) := by
    have := H.n; rw [qar (by omega) (by omega)]; simp
  have htr := H.trl
  have hLl : L.length = c.lps.length := by have := congrArg List.length hL; rw [List.length_map, H.lpl] at this; exact this
  have hn8 := H.valid.lps.2
  have hnz : 1 ≤ c.lps.length := H.valid.lps.1
  simp only
  generalize hr : qbe c z1 e = r at *
  rw [List.map_set, List.map_set]
  have g1 : (s.trace.map qcu)[i]? = some (qcu (qsb s i)) := by rw [List.getElem?_map, ht]; rfl
  have g2 : (L.map lpF)[i]? = some (lpF (z1, f)) := by rw [List.getElem?_map, hz]; rfl
  have ok1 := evss_ok s.trace
  have ok2 := lpFs_ok L
  have ok3 := qf1 (qsb s i)
  have ok4 := qf1 rest
  have ok5 := qf1 (e :: rest)
  have ok6 := qf1 r.out
  have lo1 := qja 0 (s.trace.set i (qsb s i ++ [e]))
  have lo2 := qtn 0 (L.set i (r.lp, f))
  rw [List.map_set] at lo1 lo2
  have b1 : c.lps.length * 24 ≤ 140737488355328 := by omega
  have b2 : c.lps.length * 48 ≤ 140737488355328 := by omega
  have b3 : (qsb s i).length * 64 ≤ 140737488355328 := by omega
  have b4 : ((qsb s i).length + 1) * 64 ≤ 140737488355328 := by omega
  have b5 : rest.length * 64 ≤ 140737488355328 := by simp only [List.length_cons] at hlen; omega
  have b6 : (rest.length + r.out.length) * 64 ≤ 140737488355328 := by simp only [List.length_cons] at hlen; omega
  have n1 : (s.trace.map qcu) ≠ [] := by intro k; have := congrArg List.length k; simp at this; rw [this] at htr; simp at htr; omega
  have l1 : (s.trace.map qcu).length = c.lps.length := by rw [List.length_map, htr]
  have l2 : (L.map lpF).length = c.lps.length := by rw [List.length_map, hLl]
  have tk1 : ∀ v, List.take c.lps.length ((s.trace.map qcu).set i v) = (s.trace.map qcu).set i v := fun v => List.take_of_length_le (by rw [List.length_set, l1]; exact Nat.le_refl _)
  have tk2 : ∀ v, List.take c.lps.length ((L.map lpF).set i v) = (L.map lpF).set i v := fun v => List.take_of_length_le (by rw [List.length_set, l2]; exact Nat.le_refl _)
  have tk3 : List.take (qsb s i).length ((qsb s i).map Evt.r) = (qsb s i).map Evt.r := List.take_of_length_le (by simp)
  have tk4 : List.take rest.length (rest.map Evt.r) = rest.map Evt.r := List.take_of_length_le (by simp)
  have tk5 : ∀ v, List.take ((qsb s i).length + 1) ((qsb s i).map Evt.r ++ [v]) = (qsb s i).map Evt.r ++ [v] := fun v => List.take_of_length_le (by simp)
  have tk6 : List.take (rest.length + r.out.length) (rest.map Evt.r ++ r.out.map Evt.r) = rest.map Evt.r ++ r.out.map Evt.r := List.take_of_length_le (by simp)
  have hle : c.lps.length ≤ c.lps.length := Nat.le_refl _
  have c1 : (1 : Int) ≤ ((rest.length + 1 : Nat) : Int) := by omega
  have c2 : (((rest.length + 1 : Nat) : Int)).toNat - 1 = rest.length := by omega
  have hm : (qsb s i ++ [e]).map Evt.r = (qsb s i).map Evt.r ++ [e.r] := by rw [List.map_append]; rfl
  have lo3 : qiz 0 ((qsb s i).map Evt.r ++ [e.r]) = true := by rw [← hm]; exact qaa _ _
  have hmo : (rest ++ r.out).map Evt.r = rest.map Evt.r ++ r.out.map Evt.r := List.map_append
  have ev1 : qcu (qsb s i ++ [e]) = [.fsl ((qsb s i).map Evt.r ++ [e.r]) false] := by unfold qcu; rw [hm]
  have ev2 : qcu (qsb s i) = [(.fsl (((qsb s i)).map Evt.r) false)] := rfl
  rw [hmo] at hW
  generalize (rest ++ r.out).filter (qjm r.gone) = F at hW hS ⊢
  rw [ev1] at lo1 ⊢
  rw [ev2] at g1
  obtain ⟨et, ek, el, ei, ep, ea⟩ := e
  simp only at hi
  subst hi
  simp only [List.map_cons] at ok5 ⊢
  simp only [Evt.r] at lo1 lo3 tk5 ok5 ⊢
  simp only [lpF] at g2 lo2
  rw [qa7, qae qve qt6]
  have hrep : List.replicate 1 ([(ii 0), .fsl [] false, (ii 0), (ii 0), (ii 0), (ii 0)] : List AV) = [[(ii 0), .fsl [] false, (ii 0), (ii 0), (ii 0), (ii 0)]] := rfl
  by_cases ho : r.out = []
  · have ho1 : r.out.map Evt.r = [] := by rw [ho]; rfl
    have ho2 : r.out.length = 0 := by rw [ho]; rfl
    rw [ho1] at hW hE tk6
    simp only [List.append_nil, ho2, Nat.add_zero] at hW b6 tk6
    cases hov : s.over <;> simp only [qjv, hrep, g1, g2, ok1, ok2, ok3, ok4, ok5, b1, b2, b3, b4, b5, n1, l1, l2, tk1, tk2, tk3, tk4, tk5, hle, c1, lo1, lo2, hE, hW, hS, hw, hin, lpF, Int.natCast_nonneg, Int.toNat_natCast, Int.toNat_zero, Int.toNat_one, Int.le_refl, imp_self, Nat.zero_mul, Nat.zero_le, Nat.add_sub_cancel, qaa, qcb, qaw, qag, qx, qbm, qk, Ev.exec, qb, qe, qc, qa5, qah, qn4, Ev.evs, Ev.Opnd.ev, Ev.Env.get, Ev.Env.set, Ev.Env.unset, Ev.look, ql, qf0, qf, qbt, qv, qfz, Ev.AV.cells, Ev.AV.uc, qo, Ev.AV.plain, qap, qj, qs, qak, Ev.kill, qai, qg, qbc, qa2, qm, qh, qd, qbg, qbf, qac, List.length_set, List.replicate_zero, List.length_map, ↓qn, ↓reduceIte, List.length_cons, List.length_nil, List.length_append, List.getElem?_cons_zero, List.getElem?_cons_succ, List.take_succ_cons, List.take_zero, zfe, List.drop_succ_cons, List.drop_zero, List.drop_nil, List.cons_append, List.nil_append, List.append_nil, List.set_cons_zero, List.set_cons_succ, List.head?_cons, Nat.reduceAdd, Nat.reduceEqDiff, Nat.reduceMul, Nat.reduceLT, Nat.reduceLeDiff, Nat.reducePow, Int.reduceLE, reduceCtorEq, decide_true, zfc, Bool.and_true, Bool.true_or, Bool.false_or, zfa, Bool.true_eq_false, and_self, ne_eq, zfb, not_true_eq_false, zff, zfd, Nat.add_zero, Nat.lt_add_one, Nat.le_refl, Option.isSome_none, eq_self, and_false]
    all_goals done
  · have ho1 : ¬ r.out.map Evt.r = [] := by simpa using ho
    cases hov : s.over <;> simp only [qjv, hrep, g1, g2, ok1, ok2, ok3, ok4, ok5, ok6, b1, b2, b3, b4, b5, b6, n1, l1, l2, tk1, tk2, tk3, tk4, tk5, tk6, hle, c1, lo1, lo2, hE, hW, hS, hw, hin, ho1, lpF, Int.natCast_nonneg, Int.toNat_natCast, Int.toNat_zero, Int.toNat_one, Int.le_refl, imp_self, Nat.zero_mul, Nat.zero_le, Nat.add_sub_cancel, qjj, qaa, qcb, qaw, qag, qx, qbm, qk, Ev.exec, qb, qe, qc, qa5, qah, qn4, Ev.evs, Ev.Opnd.ev, Ev.Env.get, Ev.Env.set, Ev.Env.unset, Ev.look, ql, qf0, qf, qbt, qv, qfz, Ev.AV.cells, Ev.AV.uc, qo, Ev.AV.plain, qap, qj, qs, qak, Ev.kill, qai, qg, qbc, qa2, qm, qh, qd, qbg, qbf, qac, List.length_set, List.replicate_zero, List.length_map, ↓qn, ↓reduceIte, List.length_cons, List.length_nil, List.length_append, List.getElem?_cons_zero, List.getElem?_cons_succ, List.take_succ_cons, List.take_zero, zfe, List.drop_succ_cons, List.drop_zero, List.drop_nil, List.cons_append, List.nil_append, List.append_nil, List.set_cons_zero, List.set_cons_succ, List.head?_cons, Nat.reduceAdd, Nat.reduceEqDiff, Nat.reduceMul, Nat.reduceLT, Nat.reduceLeDiff, Nat.reducePow, Int.reduceLE, reduceCtorEq, decide_true, zfc, Bool.and_true, Bool.true_or, Bool.false_or, zfa, Bool.true_eq_false, and_self, ne_eq, zfb, not_true_eq_false, zff, zfd, Nat.add_zero, Nat.lt_add_one, Nat.le_refl, Option.isSome_none, eq_self, and_false]
    all_goals done
end
end Go.Proofs.Ytbhhifdhlafklaa.K
