/- Part of the proofs about this seat's program (module CRuns). -/
import Derived.Test.YtdpeepljabbcfaaCRefs
import Derived.Test.YtdpeepljabbcfaaCValids
import Derived.Test.YtdpeepljabbcfaaCSames
import Derived.Test.YtdpeepljabbcfaaEvZB
import Derived.OpenShut
set_option linter.unusedSectionVars false
set_option linter.unusedSimpArgs false
set_option linter.unusedVariables false
namespace Go.Proofs.Ytdpeepljabbcfaa.K
open Go.Ev
set_option linter.unusedSimpArgs false
set_option linter.unusedVariables false
/-! ### What holds of an execution all the while -/
def GoneOk (t0 : List Int) (x : Ex) (g : List Int) : Prop := g.length ≤ 100 ∧ (x.over = true ∨ g = t0 ∨ ∃ ev ∈ x.out, ev.kind = 2 ∧ ev.key = g)
structure EvOk (c : Cfg) (e : Evt) (x : Ex) (k : Nat) (ev : Evt) : Prop where
  time : e.time < ev.time ∧ ev.time ≤ 1152921504606846976
  key : ∃ m : Int, ev.key = e.key ++ [m] ∧ (k : Int) ≤ m ∧ m < x.n
  msg : ev.kind = 3 → 0 ≤ ev.lp ∧ ev.lp < c.lps.length ∧ e.time + c.look ≤ ev.time ∧ c.look ≤ 1099511627776
  own : ev.kind ≠ 3 → ev.lp = e.lp ∧ 0 ≤ ev.proc ∧ ev.proc < x.procs.length ∧ (ev.kind = 1 ∨ ev.kind = 2)
structure EInv (c : Cfg) (e : Evt) (i : Nat) (X : List Pr) (pr : Int) (p : List OpI) (t0 : List Int) (n : Nat) (x : Ex) : Prop where
  ev : x.ev = e
  len : X.length ≤ x.procs.length ∧ x.procs.length ≤ 8
  own : ∃ q, x.procs[i]? = some q ∧ q.prog = pr ∧ 0 ≤ q.pc ∧ q.pc ≤ p.length ∧ (q.timer = [] ∨ GoneOk t0 x q.timer)
  old : ∀ j, j ≠ i → j < X.length → x.procs[j]? = X[j]?
  new : ∀ j q, X.length ≤ j → x.procs[j]? = some q → q.alive = true ∧ q.pc = 0 ∧ q.timer = [] ∧ 0 ≤ q.prog ∧ q.prog < c.progs.length
  cnt : 0 ≤ x.n ∧ x.n ≤ n ∧ (x.out.length : Int) ≤ x.n
  outs : ∀ k ev, x.out[k]? = some ev → EvOk c e x k ev
  inc : ∀ k ev ev', x.out[k]? = some ev → x.out[k + 1]? = some ev' → ∃ m m', ev.key = e.key ++ [m] ∧ ev'.key = e.key ++ [m'] ∧ m < m'
  gone : ∀ g ∈ x.gone, GoneOk t0 x g
section
variable {c : Cfg} {e : Evt} {i : Nat} {X : List Pr} {pr : Int} {p : List OpI} {t0 : List Int} {n : Nat} {x : Ex}
theorem EInv.lt (h : EInv c e i X pr p t0 n x) : i < x.procs.length := by
  obtain ⟨q, h1, _⟩ := h.own; exact (List.getElem?_eq_some_iff.1 h1).1
theorem EInv.more (h : EInv c e i X pr p t0 n x) : EInv c e i X pr p t0 (n + 1) x :=
  ⟨h.ev, h.len, h.own, h.old, h.new, by have := h.cnt; omega, h.outs, h.inc, h.gone⟩
theorem EInv.setP (h : EInv c e i X pr p t0 n x) (hiX : i < X.length) {q : Pr} (h1 : q.prog = pr) (h2 : 0 ≤ q.pc ∧ q.pc ≤ p.length) (h3 : q.timer = [] ∨ GoneOk t0 x q.timer) : EInv c e i X pr p t0 n (x.setP i q) := by
  have hlt := h.lt
  refine ⟨h.ev, by simp only [Ex.setP, List.length_set]; exact h.len, ⟨q, by simp only [Ex.setP]; rw [List.getElem?_set_self hlt], h1, h2.1, h2.2, h3⟩, ?_, ?_, h.cnt, ?_, h.inc, h.gone⟩
  · intro j hj hl; simp only [Ex.setP]; rw [List.getElem?_set_ne (Ne.symm hj)]; exact h.old j hj hl
  · intro j q' hl hq; simp only [Ex.setP] at hq; rw [List.getElem?_set_ne (by omega)] at hq; exact h.new j q' hl hq
  · intro k ev hk
    obtain ⟨a, b, d, f⟩ := h.outs k ev hk
    exact ⟨a, b, d, by simpa only [Ex.setP, List.length_set] using f⟩
theorem EInv.push (h : EInv c e i X pr p t0 n x) {g : List Int} (hg : GoneOk t0 x g) : EInv c e i X pr p t0 n { x with gone := x.gone ++ [g] } := by
  refine ⟨h.ev, h.len, h.own, h.old, h.new, h.cnt, fun k ev hk => ?_, h.inc, ?_⟩
  · obtain ⟨a, b, d, f⟩ := h.outs k ev hk; exact ⟨a, b, d, f⟩
  · intro g' hg'
    rcases List.mem_append.1 hg' with hg' | hg'
    · exact h.gone g' hg'
    · simp at hg'; subst hg'; exact hg
theorem EInv.reg (h : EInv c e i X pr p t0 n x) (k v : Int) : EInv c e i X pr p t0 n (x.setReg k v) := by
  unfold Ex.setReg
  split
  · exact ⟨h.ev, h.len, h.own, h.old, h.new, h.cnt, fun k ev hk => by obtain ⟨a, b, d, f⟩ := h.outs k ev hk; exact ⟨a, b, d, f⟩, h.inc, h.gone⟩
  · exact ⟨h.ev, h.len, h.own, h.old, h.new, h.cnt, fun k ev hk => by obtain ⟨a, b, d, f⟩ := h.outs k ev hk; exact ⟨a, b, d, f⟩, h.inc, h.gone⟩
theorem EInv.spawn (h : EInv c e i X pr p t0 n x) (hiX : i < X.length) (hl : x.procs.length < 8) {a : Int} (ha : 0 ≤ a ∧ a < c.progs.length) : EInv c e i X pr p t0 n { x with procs := x.procs ++ [⟨a, 0, true, []⟩] } := by
  have hlt := h.lt
  have hln := h.len
  refine ⟨h.ev, by simp; omega, ?_, ?_, ?_, h.cnt, ?_, h.inc, h.gone⟩
  · obtain ⟨q, h1, h2⟩ := h.own
    exact ⟨q, by show (x.procs ++ _)[i]? = _; rw [List.getElem?_append_left hlt]; exact h1, h2⟩
  · intro j hj hl'; show (x.procs ++ _)[j]? = _; rw [List.getElem?_append_left (by omega)]; exact h.old j hj hl'
  · intro j q hj hq
    change (x.procs ++ [⟨a, 0, true, []⟩])[j]? = some q at hq
    by_cases hjl : j < x.procs.length
    · rw [List.getElem?_append_left hjl] at hq; exact h.new j q hj hq
    · have hj2 := (List.getElem?_eq_some_iff.1 hq).1
      simp at hj2
      have hje : j = x.procs.length := by omega
      subst hje
      simp at hq
      subst hq
      exact ⟨rfl, rfl, rfl, ha⟩
  · intro k ev hk
    obtain ⟨a, b, d, f⟩ := h.outs k ev hk
    exact ⟨a, b, d, fun hk' => by obtain ⟨f1, f2, f3, f4⟩ := f hk'; exact ⟨f1, f2, by simp; omega, f4⟩⟩
theorem create_over {d : Int} {s : Evt} (h : x.over = true) : (x.create d s).over = true := by unfold Ex.create; simp only; split <;> first | rfl | exact h
theorem create_mem {d : Int} {s ev : Evt} (h : ev ∈ x.out) : ev ∈ (x.create d s).out := by unfold Ex.create; simp only; split <;> first | exact h | exact List.mem_append_left _ h
theorem GoneOk.create {g : List Int} (h : GoneOk t0 x g) (d : Int) (s : Evt) : GoneOk t0 (x.create d s) g := by
  refine ⟨h.1, ?_⟩
  rcases h.2 with h | h | ⟨ev, h1, h2⟩
  · exact .inl (create_over h)
  · exact .inr (.inl h)
  · exact .inr (.inr ⟨ev, create_mem h1, h2⟩)
theorem EInv.create (h : EInv c e i X pr p t0 n x) (hn : n ≤ 90) (he : 0 ≤ e.time ∧ e.time ≤ 1152921504606846976) (hk : e.key.length ≤ 90) {d : Int} (hd : 1 ≤ d ∧ d ≤ 1099511627776) {s : Evt}
    (hm : s.kind = 3 → 0 ≤ s.lp ∧ s.lp < c.lps.length ∧ c.look ≤ d) (ho : s.kind ≠ 3 → s.lp = e.lp ∧ 0 ≤ s.proc ∧ s.proc < x.procs.length ∧ (s.kind = 1 ∨ s.kind = 2)) :
    EInv c e i X pr p t0 (n + 1) (x.create d s) ∧ (s.kind = 2 → GoneOk t0 (x.create d s) x.kid) := by
  obtain ⟨c1, c2, c3⟩ := h.cnt
  have hw : w64 (x.n + 1) = x.n + 1 := w64_small (by omega) (by omega)
  have ht : w64 (x.ev.time + d) = e.time + d := by rw [h.ev]; exact w64_small (by omega) (by omega)
  have hown : ∃ q, (x.create d s).procs[i]? = some q ∧ q.prog = pr ∧ 0 ≤ q.pc ∧ q.pc ≤ p.length ∧ (q.timer = [] ∨ GoneOk t0 (x.create d s) q.timer) := by
    obtain ⟨q, h1, h2, h3, h4, h5⟩ := h.own
    exact ⟨q, h1, h2, h3, h4, h5.imp id fun g => g.create d s⟩
  have hgone : ∀ g ∈ (x.create d s).gone, GoneOk t0 (x.create d s) g := fun g hg => (h.gone g hg).create d s
  have hkid : x.kid.length ≤ 100 := by unfold Ex.kid; rw [h.ev]; simp; omega
  by_cases hov : e.time + d > 1152921504606846976
  · have hx : x.create d s = { x with n := x.n + 1, over := true } := by unfold Ex.create; rw [hw, ht, if_pos hov, if_pos hov]
    rw [hx] at hown hgone ⊢
    refine ⟨⟨h.ev, h.len, hown, h.old, h.new, ⟨by show 0 ≤ x.n + 1; omega, by show x.n + 1 ≤ ((n + 1 : Nat) : Int); omega, by show (x.out.length : Int) ≤ x.n + 1; omega⟩, fun k ev hk' => ?_, h.inc, hgone⟩, fun _ => ⟨hkid, .inl rfl⟩⟩
    obtain ⟨a, ⟨m, b1, b2, b3⟩, d, f⟩ := h.outs k ev hk'
    exact ⟨a, ⟨m, b1, b2, by show m < x.n + 1; omega⟩, d, f⟩
  · have hx : x.create d s = { x with n := x.n + 1, out := x.out ++ [⟨e.time + d, e.key ++ [x.n], s.lp, s.kind, s.proc, s.arg⟩] } := by unfold Ex.create Ex.kid; rw [hw, ht, if_neg hov, if_neg hov, h.ev]
    rw [hx] at hown hgone ⊢
    refine ⟨⟨h.ev, h.len, hown, h.old, h.new, ⟨by show 0 ≤ x.n + 1; omega, by show x.n + 1 ≤ ((n + 1 : Nat) : Int); omega, by show ((x.out ++ _).length : Int) ≤ x.n + 1; simp; omega⟩, fun k ev hk' => ?_, ?_, hgone⟩, fun hs => ⟨hkid, .inr (.inr ⟨_, List.mem_append_right _ (List.mem_singleton.2 rfl), hs, by unfold Ex.kid; rw [h.ev]⟩)⟩⟩
    · change (x.out ++ [_])[k]? = some ev at hk'
      by_cases hkl : k < x.out.length
      · rw [List.getElem?_append_left hkl] at hk'
        obtain ⟨a, ⟨m, b1, b2, b3⟩, d, f⟩ := h.outs k ev hk'
        exact ⟨a, ⟨m, b1, b2, by show m < x.n + 1; omega⟩, d, f⟩
      · have hk2 := (List.getElem?_eq_some_iff.1 hk').1
        simp at hk2
        have hke : k = x.out.length := by omega
        subst hke
        simp at hk'
        subst hk'
        refine ⟨⟨by show e.time < e.time + d; omega, by show e.time + d ≤ _; omega⟩, ⟨x.n, rfl, c3, by show x.n < x.n + 1; omega⟩, fun hs => ?_, fun hs => ho hs⟩
        obtain ⟨m1, m2, m3⟩ := hm hs
        exact ⟨m1, m2, by show e.time + c.look ≤ e.time + d; omega, by omega⟩
    · intro k ev ev' h1 h2
      change (x.out ++ [_])[k]? = some ev at h1
      change (x.out ++ [_])[k + 1]? = some ev' at h2
      have hk2 := (List.getElem?_eq_some_iff.1 h2).1
      simp at hk2
      rw [List.getElem?_append_left (by omega)] at h1
      by_cases hkl : k + 1 < x.out.length
      · rw [List.getElem?_append_left hkl] at h2; exact h.inc k ev ev' h1 h2
      · have hke : k + 1 = x.out.length := by omega
        rw [hke] at h2
        simp at h2
        subst h2
        obtain ⟨m, b1, b2, b3⟩ := (h.outs k ev h1).key
        exact ⟨m, x.n, b1, rfl, b3⟩
theorem EInv.stop (h : EInv c e i X pr p t0 n x) (hiX : i < X.length) {q : Pr} (hq : x.procs[i]? = some q) : EInv c e i X pr p t0 n (x.stopE i q) := by
  obtain ⟨q', h1, h2, h3, h4, h5⟩ := h.own
  rw [hq] at h1; cases h1
  unfold Ex.stopE
  split
  next hl =>
    have hg : GoneOk t0 x q.timer := by
      rcases h5 with h5 | h5
      · rw [h5] at hl; simp at hl
      · exact h5
    exact (h.push hg).setP (q := { q with timer := [] }) hiX h2 ⟨h3, h4⟩ (.inl rfl)
  next => exact h
theorem EInv.step (h : EInv c e i X pr p t0 n x) (hiX : i < X.length) (hn : n ≤ 90) (he : 0 ≤ e.time ∧ e.time ≤ 1152921504606846976) (hk : e.key.length ≤ 90) (hpr : e.proc = i) {q : Pr} (hq : x.procs[i]? = some q) {op : OpI} (ho : OpFull c p op) :
    EInv c e i X pr p t0 (n + 1) (stepE x i q op).1 := by
  have hlt := h.lt
  obtain ⟨q', h1, h2, h3, h4, h5⟩ := h.own
  rw [hq] at h1; cases h1
  unfold stepE
  split
  next k => exact (h.create hn he hk (ho.hold k) (fun hs => absurd hs (by show ¬ (1 : Int) = 3; decide)) (fun _ => ⟨by show x.ev.lp = e.lp; rw [h.ev], by show 0 ≤ x.ev.proc; rw [h.ev, hpr]; omega, by show x.ev.proc < _; rw [h.ev, hpr]; omega, .inl rfl⟩)).1
  split
  next k =>
    obtain ⟨s1, s2, s3, s4, s5⟩ := ho.send k
    exact (h.create hn he hk ⟨s3, s4⟩ (s := ⟨0, [], op.a, 3, 0, op.b⟩) (fun _ => ⟨s1, s2, s5⟩) (fun hs => absurd rfl hs)).1
  split
  next k =>
    obtain ⟨s1, s2, s3, s4⟩ := ho.timer k
    have hst := h.stop hiX hq
    obtain ⟨g1, g2⟩ := hst.create hn he hk ⟨s1, s2⟩ (s := x.ownE 2 x.ev.proc op.b) (fun hs => absurd hs (by show ¬ (2 : Int) = 3; decide)) (fun _ => ⟨by show x.ev.lp = e.lp; rw [h.ev], by show 0 ≤ x.ev.proc; rw [h.ev, hpr]; omega, by show x.ev.proc < _; rw [h.ev, hpr]; have := hst.lt; omega, .inr rfl⟩)
    exact g1.setP (q := { q with timer := (x.stopE i q).kid }) hiX h2 ⟨h3, h4⟩ (.inr (g2 rfl))
  split
  next k => exact (h.stop hiX hq).more
  split
  next k =>
    obtain ⟨s1, s2, s3, s4⟩ := ho.spawn k
    unfold Ex.spawnE
    split
    next hl => exact ((h.spawn hiX hl ⟨s1, s2⟩).create hn he hk ⟨s3, s4⟩ (s := x.ownE 1 x.procs.length 0) (fun hs => absurd hs (by show ¬ (1 : Int) = 3; decide)) (fun _ => ⟨by show x.ev.lp = e.lp; rw [h.ev], by show (0 : Int) ≤ (x.procs.length : Int); omega, by show (x.procs.length : Int) < _; simp; omega, .inl rfl⟩)).1
    next => exact h.more
  split
  next k => exact (h.reg _ _).more
  split
  next k =>
    obtain ⟨s1, s2⟩ := ho.to k
    split
    · exact (h.setP (q := { q with pc := op.c }) hiX h2 ⟨s1, by show op.c ≤ _; omega⟩ h5).more
    · exact h.more
  next => exact h.more
theorem EInv.kill (h : EInv c e i X pr p t0 n x) (hiX : i < X.length) : EInv c e i X pr p t0 n (killE x i) := by
  obtain ⟨q, h1, h2, h3, h4, h5⟩ := h.own
  unfold killE; rw [h1]
  exact h.setP (q := { q with alive := false }) hiX h2 ⟨h3, h4⟩ h5
theorem EInv.stepR (h : EInv c e i X pr p t0 n x) (hiX : i < X.length) (hn : n ≤ 90) (he : 0 ≤ e.time ∧ e.time ≤ 1152921504606846976) (hk : e.key.length ≤ 90) (hpl : p.length ≤ 1000) (hpr : e.proc = i) {q : Pr} (hq : x.procs[i]? = some q) {op : OpI} (hop : p[q.pc.toNat]? = some op) (ho : OpFull c p op) :
    EInv c e i X pr p t0 (n + 1) (stepR x i q op).1 := by
  have hlt := h.lt
  obtain ⟨q', h1, h2, h3, h4, h5⟩ := h.own
  rw [hq] at h1; cases h1
  have hpc := (List.getElem?_eq_some_iff.1 hop).1
  have hw : w64 (q.pc + 1) = q.pc + 1 := w64_small (by omega) (by omega)
  have hz := h.setP (q := q.inc) hiX h2 ⟨by show 0 ≤ w64 (q.pc + 1); rw [hw]; omega, by show w64 (q.pc + 1) ≤ _; rw [hw]; omega⟩ h5
  have hzq : (x.setP i q.inc).procs[i]? = some q.inc := by simp only [Ex.setP]; rw [List.getElem?_set_self hlt]
  have hs := hz.step hiX hn he hk hpr hzq ho
  unfold K.stepR
  split
  · exact hs
  split
  · exact hs.kill hiX
  · exact hs
theorem EInv.act (hiX : i < X.length) (he : 0 ≤ e.time ∧ e.time ≤ 1152921504606846976) (hk : e.key.length ≤ 90) (hpl : p.length ≤ 1000) (hpr : e.proc = i) (ho : ∀ op ∈ p, OpFull c p op) :
    ∀ (m n : Nat) (x : Ex), n + m ≤ 90 → EInv c e i X pr p t0 n x → EInv c e i X pr p t0 (n + m) (actE p i m x)
  | 0, n, x, _, h => h.kill hiX
  | m + 1, n, x, hnm, h => by
    obtain ⟨q, h1, h2⟩ := h.own
    have mono : ∀ {k : Nat} {y : Ex}, EInv c e i X pr p t0 k y → ∀ l, k ≤ l → EInv c e i X pr p t0 l y := by
      intro k y hy l hl
      exact ⟨hy.ev, hy.len, hy.own, hy.old, hy.new, by have := hy.cnt; omega, hy.outs, hy.inc, hy.gone⟩
    rw [actE_succ p i m x q h1]
    cases hop : p[q.pc.toNat]? with
    | none => exact mono (h.kill hiX) _ (by omega)
    | some op =>
      have hs := h.stepR hiX (by omega) he hk hpl hpr h1 hop (ho op (List.mem_of_getElem? hop))
      simp only
      split
      · exact mono hs _ (by omega)
      · have := EInv.act hiX he hk hpl hpr ho m (n + 1) _ (by omega) hs
        rw [show n + (m + 1) = n + 1 + m from by omega]; exact this
end
end Go.Proofs.Ytdpeepljabbcfaa.K

namespace Go.Proofs.Ytdpeepljabbcfaa.K
open Go.Ev
set_option linter.unusedSimpArgs false
set_option linter.unusedVariables false
set_option maxRecDepth 10000
def normZ (a n : Int) : Int := (IntKind.i64.wrap (a.tmod n + n)).tmod n
theorem tmod_small (a : Int) {n : Int} (h : 1 ≤ n) : - n < a.tmod n ∧ a.tmod n < n := by
  refine ⟨?_, Int.tmod_lt_of_pos a (by omega)⟩
  have h1 := Int.tmod_lt_of_pos (-a) (b := n) (by omega)
  rw [Int.neg_tmod] at h1; omega
theorem normZ_range (a : Int) {n : Int} (h : 1 ≤ n) (h2 : n ≤ 4294967296) : 0 ≤ normZ a n ∧ normZ a n < n := by
  have := tmod_small a h
  unfold normZ
  rw [show IntKind.i64.wrap (a.tmod n + n) = a.tmod n + n from w64_small (by omega) (by omega)]
  exact ⟨Int.tmod_nonneg _ (by omega), Int.tmod_lt_of_pos _ (by omega)⟩
def cut20 (l : List Int) : List Int := if (l.length : Int) > 20 then l.take 20 else l
theorem cut20_len (l : List Int) : (cut20 l).length ≤ 20 := by unfold cut20; split <;> first | (simp; omega) | omega
def stateP (c : Cfg) (q : Pr) : Pr where
  prog := normZ q.prog c.progs.length
  pc := normZ q.pc (((c.progs[(normZ q.prog c.progs.length).toNat]?).getD []).length + 1)
  alive := q.alive
  timer := cut20 q.timer
def stateL (c : Cfg) (x : Lp) : Lp where
  r0 := x.r0
  r1 := x.r1
  procs := if 0 < c.progs.length then (x.procs.take 8).map (stateP c) else []
  sum := x.sum
theorem law20_ok_ev (c : Cfg) : callZ (evL T) n_law20_ok [(.agg [(.fsl ((c.lps).map lpC) false), (.fsl ((c.progs).map progC) false), (.v (.int .i64 (c.look))), (.v (.int .i64 (c.fin))), (.v (.int .i64 (c.cap)))])] = some (.v (.bool (okB c))) := by
  have h1 := law19_Great_ev c
  have h2 := ref19_Check_ev c
  unfold okB
  rw [callZ, evL_code ext_law20_ok code_law20_ok]
  cases hg : greatB c with
  | true =>
    rw [hg] at h1
    simp only [c_law20_ok, h1, lps_lo, progs_lo, Bool.not_true, Bool.false_and, Go.Ev.runFunc, Go.Ev.exec, Go.Ev.evOpers, Go.Ev.evOper, Go.Ev.item_op, Go.Ev.item_P, Go.Ev.evOp, Go.Ev.evs, Go.Ev.Opnd.ev, Go.Ev.Env.get, Go.Ev.Env.set, Go.Ev.Env.unset, Go.Ev.look, Go.Ev.argVars, Go.Ev.cellsAt, Go.Ev.loadC, Go.Ev.AV.cells, Go.Ev.plains, Go.Ev.AV.plain, Go.Ev.resVals, Go.Ev.resVal, Go.Ev.resOf, Go.Ev.kill, Go.Ev.leave, Go.Ev.storeLo, Go.Ev.lo_v, Go.Ev.lo_agg, Go.Ev.lo_fsl, Go.Ev.los_nil, Go.Ev.los_cons, Go.Ev.frz_lo, ↓Go.Ev.obind, ↓reduceIte, List.length_cons, List.length_nil, List.take_succ_cons, List.take_nil, Nat.reduceAdd, Nat.reduceEqDiff, Bool.and_self, Bool.not_true, Bool.false_eq_true, and_self, ne_eq, not_false_eq_true, List.cons_ne_nil, Nat.zero_add, Nat.le_refl, eq_self, Bool.false_and]
  | false =>
    rw [hg] at h1
    simp only [c_law20_ok, h1, h2, lps_lo, progs_lo, Bool.not_false, Bool.true_and, Go.Ev.runFunc, Go.Ev.exec, Go.Ev.evOpers, Go.Ev.evOper, Go.Ev.item_op, Go.Ev.item_P, Go.Ev.evOp, Go.Ev.evs, Go.Ev.Opnd.ev, Go.Ev.Env.get, Go.Ev.Env.set, Go.Ev.look, Go.Ev.argVars, Go.Ev.cellsAt, Go.Ev.loadC, Go.Ev.AV.cells, Go.Ev.plains, Go.Ev.AV.plain, Go.Ev.bin_eql, Go.Ev.resVals, Go.Ev.resVal, Go.Ev.resOf, Go.Ev.kill, Go.Ev.leave, Go.Ev.storeLo, Go.Ev.lo_v, Go.Ev.lo_agg, Go.Ev.lo_fsl, Go.Ev.los_nil, Go.Ev.los_cons, Go.Ev.frz_lo, ↓Go.Ev.obind, ↓reduceIte, List.length_cons, List.length_nil, List.take_succ_cons, List.take_nil, Nat.reduceAdd, Nat.reduceEqDiff, Bool.and_self, Bool.true_and, Bool.not_false, and_self, ne_eq, not_false_eq_true, List.cons_ne_nil, Nat.zero_add, Nat.le_refl, eq_self]
section
variable (c : Cfg) (x : Lp)
theorem State_loop (hc : Valid c) (n : Nat) (hn : n = if 0 < c.progs.length then min x.procs.length 8 else 0) :
    ∃ y, itB (exec (evL T) itL none c_law20_State_L1) (Ev.settle [2, 3, 4, 5, 6] true 3) ⟨[(2, (.fptr [(.fsl ((c.lps).map lpC) false), (.fsl ((c.progs).map progC) false), (.v (.int .i64 (c.look))), (.v (.int .i64 (c.fin))), (.v (.int .i64 (c.cap)))])), (3, (.fptr [(.v (.int .i64 (x.r0))), (.v (.int .i64 (x.r1))), (.fsl ((x.procs).map Pr.r) false), (.v (.int .i64 (x.sum)))])), (4, .ptr 0 0 0 0), (5, .ptr 2 0 0 0), (6, (.v (.int .i64 (0))))], []⟩ [.row 4 [[(.v (.int .i64 (0))), (.v (.int .i64 (0))), .fsl [] false, (.v (.int .i64 (0)))]] 0, .row 4 ((([] : List Pr)).map Pr.r) 0, .row 4 [[(.v (.int .i64 (x.r0))), (.v (.int .i64 (x.r1))), .sl 1 0 0 ((([] : List Pr)).length) false, (.v (.int .i64 (x.sum)))]] 0] = some y ∧ (y.1 = .exit 0 ∧ y.2.1.marks = [] ∧ y.2.2 = [.row 4 [[(.v (.int .i64 (0))), (.v (.int .i64 (0))), .fsl [] false, (.v (.int .i64 (0)))]] 0, .row 4 ((((stateL c x).procs)).map Pr.r) n, .row 4 [[(.v (.int .i64 (x.r0))), (.v (.int .i64 (x.r1))), .sl 1 n 0 ((((stateL c x).procs)).length) false, (.v (.int .i64 (x.sum)))]] 0] ∧ Ev.look y.2.1.vars 5 = some (.ptr 2 0 0 0) ∧ Ev.look y.2.1.vars 4 = some (.ptr 0 0 0 0)) := by
  have hpl := hc.progs
  have := itB_for (f := exec (evL T) itL none c_law20_State_L1) (s := Ev.settle [2, 3, 4, 5, 6] true 3) (α := List Pr) (fun j _ => ⟨[(2, (.fptr [(.fsl ((c.lps).map lpC) false), (.fsl ((c.progs).map progC) false), (.v (.int .i64 (c.look))), (.v (.int .i64 (c.fin))), (.v (.int .i64 (c.cap)))])), (3, (.fptr [(.v (.int .i64 (x.r0))), (.v (.int .i64 (x.r1))), (.fsl ((x.procs).map Pr.r) false), (.v (.int .i64 (x.sum)))])), (4, .ptr 0 0 0 0), (5, .ptr 2 0 0 0), (6, (.v (.int .i64 ((j : Int)))))], []⟩) (fun j a => [.row 4 [[(.v (.int .i64 (0))), (.v (.int .i64 (0))), .fsl [] false, (.v (.int .i64 (0)))]] 0, .row 4 ((a).map Pr.r) j, .row 4 [[(.v (.int .i64 (x.r0))), (.v (.int .i64 (x.r1))), .sl 1 j 0 ((a).length) false, (.v (.int .i64 (x.sum)))]] 0])
    (fun j a => a = (x.procs.take j).map (stateP c)) n (fun y => y.1 = .exit 0 ∧ y.2.1.marks = [] ∧ y.2.2 = [.row 4 [[(.v (.int .i64 (0))), (.v (.int .i64 (0))), .fsl [] false, (.v (.int .i64 (0)))]] 0, .row 4 ((((stateL c x).procs)).map Pr.r) n, .row 4 [[(.v (.int .i64 (x.r0))), (.v (.int .i64 (x.r1))), .sl 1 n 0 ((((stateL c x).procs)).length) false, (.v (.int .i64 (x.sum)))]] 0] ∧ Ev.look y.2.1.vars 5 = some (.ptr 2 0 0 0) ∧ Ev.look y.2.1.vars 4 = some (.ptr 0 0 0 0)) ?_ ?_ 0 [] (Nat.zero_le _) (by simp)
  · exact this
  · rintro i a hi ha
    have hp0 : 0 < c.progs.length := by
      by_cases h : 0 < c.progs.length
      · exact h
      · rw [if_neg h] at hn; omega
    rw [if_pos hp0] at hn
    have hi1 : (i : Int) < (x.procs.length : Int) := by omega
    have hi2 : (i : Int) < 8 := by omega
    have hp0' : (c.progs.length : Int) > 0 := by omega
    have hp1 : ¬ (c.progs.length : Int) = 0 := by omega
    have hw : IntKind.i64.wrap ((i : Int) + 1) = ((i + 1 : Nat) : Int) := by rw [w64_small (by omega) (by omega)]; simp
    obtain ⟨q, hq⟩ : ∃ q, x.procs[i]? = some q := ⟨_, List.getElem?_eq_getElem (by omega)⟩
    obtain ⟨r1, r2⟩ := normZ_range q.prog (n := (c.progs.length : Int)) (by omega) (by omega)
    obtain ⟨p, hp⟩ : ∃ p, c.progs[(normZ q.prog c.progs.length).toNat]? = some p := ⟨_, List.getElem?_eq_getElem (by omega)⟩
    obtain ⟨pl1, pl2, _⟩ := hc.prog p (List.mem_of_getElem? hp)
    have hw2 : IntKind.i64.wrap ((p.length : Int) + 1) = (p.length : Int) + 1 := w64_small (by omega) (by omega)
    have hp2 : ¬ (p.length : Int) + 1 = 0 := by omega
    have hal : a.length = i := by rw [ha]; simp; omega
    have hbd : (i + 1) * 48 ≤ 140737488355328 := by omega
    have htk : List.take i (a.map Pr.r) = a.map Pr.r := List.take_of_length_le (by simp [hal])
    have hst : stateP c q = ⟨normZ q.prog c.progs.length, normZ q.pc ((p.length : Int) + 1), q.alive, cut20 q.timer⟩ := by unfold stateP; rw [hp]; rfl
    left
    refine ⟨a ++ [stateP c q], ?_, by rw [take_next hq, List.map_append, ha]; rfl⟩
    have hr : (a ++ [stateP c q]).map Pr.r = a.map Pr.r ++ [(stateP c q).r] := by rw [List.map_append]; rfl
    rw [hst] at hr ⊢
    have hl2 : (a ++ [(⟨normZ q.prog c.progs.length, normZ q.pc ((p.length : Int) + 1), q.alive, cut20 q.timer⟩ : Pr)]).length = i + 1 := by simp [hal]
    rw [hr, hl2, hal]
    simp only [normZ] at r1 hp
    by_cases ht : (q.timer.length : Int) > 20
    · have hm : List.take 20 (q.timer.map intC) = (q.timer.take 20).map intC := List.map_take.symm
      have h20 : (20 : Int) ≤ (q.timer.length : Int) := by omega
      have h21 : 20 ≤ q.timer.length := by omega
      simp only [cut20, normZ, ht, if_true]
      simp only [c_law20_State_L1, hi1, hi2, hp0', hp1, hw, hq, hp, r1, hw2, hp2, hal, hbd, htk, ht, hm, h20, ints_ok, progC, loss_app, Pr.r, lps_lo, progs_lo, Int.natCast_nonneg, Int.toNat_natCast, List.getElem?_map, Option.map_some, ints_lo, procs_lo, Nat.reduceLT, Nat.reduceLeDiff, Go.Ev.exec, Go.Ev.evOpers, Go.Ev.evOper, Go.Ev.item_op, Go.Ev.evOp, Go.Ev.appE, Go.Ev.Opnd.ev, Go.Ev.Env.get, Go.Ev.Env.set, Go.Ev.look, Go.Ev.optInt, Go.Ev.cellsAt, Go.Ev.content, Go.Ev.loadC, Go.Ev.fillR, Go.Ev.AV.cells, Go.Ev.AV.uc, Go.Ev.plains, Go.Ev.AV.plain, Go.Ev.bin_add, Go.Ev.bin_rem, Go.Ev.bin_lss, Go.Ev.bin_gtr, Go.Ev.settle, Go.Ev.keep, Go.Ev.varsLo, Go.Ev.marksLo, Go.Ev.storeLo, Go.Ev.SObj.lo, Go.Ev.lo_v, Go.Ev.lo_fsl, Go.Ev.lo_fptr, Go.Ev.lo_sl, Go.Ev.lo_ptr, Go.Ev.los_nil, Go.Ev.los_cons, Go.Ev.loss_nil, Go.Ev.loss_cons, Go.Ev.okRows_nil, Go.Ev.okRows_cons, List.replicate_one, List.length_map, ↓Go.Ev.obind, Go.Ev.it1, ↓reduceIte, List.length_cons, List.length_nil, List.getElem?_cons_zero, List.getElem?_cons_succ, List.take_succ_cons, List.take_zero, List.take_nil, List.drop_succ_cons, List.drop_zero, List.drop_nil, List.cons_append, List.nil_append, List.append_nil, List.set_cons_zero, List.set_cons_succ, List.head?_cons, Nat.reduceAdd, Nat.reduceEqDiff, Nat.reduceSub, Nat.reduceMul, Nat.reduceLT, Nat.reduceLeDiff, Nat.reducePow, Int.reduceLE, Int.reduceToNat, decide_true, Bool.and_self, Bool.false_eq_true, and_self, ne_eq, not_false_eq_true, List.cons_ne_nil, Nat.zero_add, Nat.add_zero, Nat.lt_add_one, Nat.le_refl, Option.isSome_some, Option.isSome_none, eq_self, implies_true, Bool.false_and]
      done
    · simp only [cut20, normZ, ht, if_false]
      simp only [c_law20_State_L1, hi1, hi2, hp0', hp1, hw, hq, hp, r1, hw2, hp2, hal, hbd, htk, ht, progC, loss_app, Pr.r, lps_lo, progs_lo, Int.natCast_nonneg, Int.toNat_natCast, List.getElem?_map, Option.map_some, ints_lo, procs_lo, Nat.reduceLT, Nat.reduceLeDiff, Go.Ev.exec, Go.Ev.evOpers, Go.Ev.evOper, Go.Ev.item_op, Go.Ev.evOp, Go.Ev.appE, Go.Ev.Opnd.ev, Go.Ev.Env.get, Go.Ev.Env.set, Go.Ev.look, Go.Ev.cellsAt, Go.Ev.content, Go.Ev.loadC, Go.Ev.fillR, Go.Ev.AV.cells, Go.Ev.AV.uc, Go.Ev.plains, Go.Ev.AV.plain, Go.Ev.bin_add, Go.Ev.bin_rem, Go.Ev.bin_lss, Go.Ev.bin_gtr, Go.Ev.settle, Go.Ev.keep, Go.Ev.varsLo, Go.Ev.marksLo, Go.Ev.storeLo, Go.Ev.SObj.lo, Go.Ev.lo_v, Go.Ev.lo_fsl, Go.Ev.lo_fptr, Go.Ev.lo_sl, Go.Ev.lo_ptr, Go.Ev.los_nil, Go.Ev.los_cons, Go.Ev.loss_nil, Go.Ev.loss_cons, Go.Ev.okRows_nil, Go.Ev.okRows_cons, List.replicate_one, List.length_map, ↓Go.Ev.obind, Go.Ev.it1, ↓reduceIte, List.length_cons, List.length_nil, List.getElem?_cons_zero, List.getElem?_cons_succ, List.take_succ_cons, List.take_zero, List.take_nil, List.drop_succ_cons, List.drop_zero, List.drop_nil, List.cons_append, List.nil_append, List.append_nil, List.set_cons_zero, List.set_cons_succ, List.head?_cons, Nat.reduceAdd, Nat.reduceEqDiff, Nat.reduceMul, Nat.reduceLT, Nat.reduceLeDiff, Nat.reducePow, decide_true, decide_false, Bool.and_self, Bool.false_eq_true, and_self, ne_eq, not_false_eq_true, List.cons_ne_nil, Nat.zero_add, Nat.add_zero, Nat.lt_add_one, Nat.le_refl, eq_self]
      done
  · rintro a ha
    have hpr : a = (stateL c x).procs := by
      unfold stateL; simp only
      rw [ha, hn]
      split
      · congr 1
        by_cases h8 : x.procs.length ≤ 8
        · rw [Nat.min_eq_left h8, List.take_of_length_le (Nat.le_refl _), List.take_of_length_le h8]
        · rw [Nat.min_eq_right (by omega)]
      · rfl
    subst hpr
    by_cases hp0 : 0 < c.progs.length
    · rw [if_pos hp0] at hn
      by_cases h8 : x.procs.length ≤ 8
      · have hn' : n = x.procs.length := by rw [hn]; omega
        subst hn'
        simp only [c_law20_State_L1, Int.lt_irrefl, Go.Ev.exec, Go.Ev.evOpers, Go.Ev.evOper, Go.Ev.item_op, Go.Ev.evOp, Go.Ev.Opnd.ev, Go.Ev.Env.get, Go.Ev.Env.set, Go.Ev.Env.unset, Go.Ev.look, Go.Ev.cellsAt, Go.Ev.loadC, Go.Ev.bin_lss, List.length_map, ↓Go.Ev.obind, Go.Ev.it1, ↓reduceIte, List.drop_succ_cons, List.drop_zero, List.head?_cons, Nat.reduceEqDiff, decide_false, Bool.false_eq_true, eq_self]
        exact ⟨_, rfl, rfl, rfl, rfl, rfl, rfl⟩
      · have hn' : n = 8 := by rw [hn]; omega
        subst hn'
        have h8' : (8 : Int) < (x.procs.length : Int) := by omega
        have h88 : ¬ (8 : Int) < 8 := by decide
        simp only [c_law20_State_L1, h8', h88, Go.Ev.exec, Go.Ev.evOpers, Go.Ev.evOper, Go.Ev.item_op, Go.Ev.evOp, Go.Ev.Opnd.ev, Go.Ev.Env.get, Go.Ev.Env.set, Go.Ev.Env.unset, Go.Ev.look, Go.Ev.cellsAt, Go.Ev.loadC, Go.Ev.bin_lss, List.length_map, ↓Go.Ev.obind, Go.Ev.it1, ↓reduceIte, List.drop_succ_cons, List.drop_zero, List.head?_cons, Nat.reduceEqDiff, Int.cast_ofNat_Int, decide_true, decide_false, Bool.false_eq_true, eq_self]
        exact ⟨_, rfl, rfl, rfl, rfl, rfl, rfl⟩
    · rw [if_neg hp0] at hn
      subst hn
      have hp1 : ¬ (c.progs.length : Int) > 0 := by omega
      have z8 : (0 : Int) < 8 := by decide
      by_cases hx : (0 : Int) < (x.procs.length : Int)
      · simp only [c_law20_State_L1, hx, hp1, z8, Go.Ev.exec, Go.Ev.evOpers, Go.Ev.evOper, Go.Ev.item_op, Go.Ev.evOp, Go.Ev.Opnd.ev, Go.Ev.Env.get, Go.Ev.Env.set, Go.Ev.look, Go.Ev.cellsAt, Go.Ev.loadC, Go.Ev.bin_lss, Go.Ev.bin_gtr, List.length_map, ↓Go.Ev.obind, Go.Ev.it1, ↓reduceIte, List.drop_succ_cons, List.drop_zero, List.head?_cons, Nat.reduceEqDiff, Int.cast_ofNat_Int, decide_true, decide_false, Bool.false_eq_true, eq_self]
        exact ⟨_, rfl, rfl, rfl, rfl, rfl, rfl⟩
      · simp only [c_law20_State_L1, hx, Go.Ev.exec, Go.Ev.evOpers, Go.Ev.evOper, Go.Ev.item_op, Go.Ev.evOp, Go.Ev.Opnd.ev, Go.Ev.Env.get, Go.Ev.Env.set, Go.Ev.Env.unset, Go.Ev.look, Go.Ev.cellsAt, Go.Ev.loadC, Go.Ev.bin_lss, List.length_map, ↓Go.Ev.obind, Go.Ev.it1, ↓reduceIte, List.drop_succ_cons, List.drop_zero, List.head?_cons, Nat.reduceEqDiff, Int.cast_ofNat_Int, decide_false, Bool.false_eq_true, eq_self]
        exact ⟨_, rfl, rfl, rfl, rfl, rfl, rfl⟩
theorem law20_State_ev (hc : Valid c) : callZ (evL T) n_law20_State [(.agg [(.fsl ((c.lps).map lpC) false), (.fsl ((c.progs).map progC) false), (.v (.int .i64 (c.look))), (.v (.int .i64 (c.fin))), (.v (.int .i64 (c.cap)))]), (.agg [(.v (.int .i64 (x.r0))), (.v (.int .i64 (x.r1))), (.fsl ((x.procs).map Pr.r) false), (.v (.int .i64 (x.sum)))])] = some (.agg [(.v (.int .i64 ((stateL c x).r0))), (.v (.int .i64 ((stateL c x).r1))), (.fsl (((stateL c x).procs).map Pr.r) false), (.v (.int .i64 ((stateL c x).sum)))]) := by
  obtain ⟨⟨y, e, σ⟩, k1, k2, k3, k4, k5, k6⟩ := State_loop c x hc _ rfl
  simp only at k2 k3 k4
  subst k2 k4
  have e1 : (stateL c x).r0 = x.r0 := rfl
  have e2 : (stateL c x).r1 = x.r1 := rfl
  have e3 : (stateL c x).sum = x.sum := rfl
  rw [e1, e2, e3]
  generalize (stateL c x).procs = l at *
  have htk : List.take l.length (l.map Pr.r) = l.map Pr.r := List.take_of_length_le (by simp)
  simp only [List.map_nil, List.length_nil] at k1
  rw [callZ, evL_code ext_law20_State code_law20_State]
  simp only [c_law20_State, k1, k3, k5, k6, htk, lps_lo, progs_lo, procs_lo, Nat.reduceLT, Nat.reduceLeDiff, Go.Ev.runFunc, Go.Ev.exec, Go.Ev.evOpers, Go.Ev.evOper, Go.Ev.item_op, Go.Ev.evOp, Go.Ev.ownL, Go.Ev.Opnd.ev, Go.Ev.Env.get, Go.Ev.Env.set, Go.Ev.look, Go.Ev.argVars, Go.Ev.cellsAt, Go.Ev.loadC, Go.Ev.fillP, Go.Ev.AV.cells, Go.Ev.AV.uc, Go.Ev.plains, Go.Ev.AV.plain, Go.Ev.resVals, Go.Ev.resVal, Go.Ev.resOf, Go.Ev.kill, Go.Ev.leave, Go.Ev.settle, Go.Ev.keep, Go.Ev.varsLo, Go.Ev.marksLo, Go.Ev.storeLo, Go.Ev.SObj.lo, Go.Ev.lo_v, Go.Ev.lo_agg, Go.Ev.lo_fsl, Go.Ev.lo_fptr, Go.Ev.lo_sl, Go.Ev.lo_ptr, Go.Ev.los_nil, Go.Ev.los_cons, Go.Ev.loss_nil, Go.Ev.loss_cons, Go.Ev.frz_lo, Go.Ev.frz_agg, Go.Ev.frz_own, Go.Ev.omap_los, Go.Ev.omap_nil, Go.Ev.omap_cons, List.length_map, ↓Go.Ev.obind, ↓Go.Ev.itL_itB, ↓reduceIte, List.length_cons, List.length_nil, List.getElem?_cons_zero, List.getElem?_cons_succ, List.take_succ_cons, List.take_zero, List.take_nil, List.drop_succ_cons, List.drop_zero, List.drop_nil, List.cons_append, List.nil_append, List.append_nil, List.set_cons_zero, List.set_cons_succ, List.head?_cons, Nat.reduceAdd, Nat.reduceEqDiff, Nat.reduceLT, Nat.reduceLeDiff, reduceCtorEq, decide_true, decide_false, Bool.and_self, Bool.and_true, Bool.false_eq_true, and_self, and_true, ne_eq, not_false_eq_true, List.cons_ne_nil, Nat.zero_add, Nat.lt_add_one, Nat.le_refl, eq_self, Bool.and_false]
end
def eventE (c : Cfg) (x : Lp) (e : Evt) : Evt where
  time := if e.time.tmod 1152921504606846977 < IntKind.i64.wrap (0 - e.time.tmod 1152921504606846977) then IntKind.i64.wrap (0 - e.time.tmod 1152921504606846977) else e.time.tmod 1152921504606846977
  key := cut20 e.key
  lp := e.lp
  kind := e.kind
  proc := e.proc
  arg := if e.kind = 2 ∧ 0 ≤ e.proc then match x.procs[e.proc.toNat]? with
    | some q => normZ e.arg ((c.progs[q.prog.toNat]?).getD []).length
    | none => e.arg else e.arg
theorem law20_Event_ev (c : Cfg) (x : Lp) (e : Evt) (hc : Valid c) (hx : ∀ q ∈ x.procs, 0 ≤ q.prog ∧ q.prog < c.progs.length) (hl : x.procs.length ≤ 8) : callZ (evL T) n_law20_Event [(.agg [(.fsl ((c.lps).map lpC) false), (.fsl ((c.progs).map progC) false), (.v (.int .i64 (c.look))), (.v (.int .i64 (c.fin))), (.v (.int .i64 (c.cap)))]), (.agg [(.v (.int .i64 (x.r0))), (.v (.int .i64 (x.r1))), (.fsl ((x.procs).map Pr.r) false), (.v (.int .i64 (x.sum)))]), (.agg [(.v (.int .i64 (e.time))), (.fsl ((e.key).map intC) false), (.v (.int .i64 (e.lp))), (.v (.int .i64 (e.kind))), (.v (.int .i64 (e.proc))), (.v (.int .i64 (e.arg)))])] = some (.agg [(.v (.int .i64 ((eventE c x e).time))), (.fsl (((eventE c x e).key).map intC) false), (.v (.int .i64 ((eventE c x e).lp))), (.v (.int .i64 ((eventE c x e).kind))), (.v (.int .i64 ((eventE c x e).proc))), (.v (.int .i64 ((eventE c x e).arg)))]) := by
  have hm : (1152921504606846977 : Int) ≠ 0 := by decide
  have hm' : ¬ (1152921504606846977 : Int) = 0 := by decide
  have hcut : ∀ l : List Int, List.take 20 (l.map intC) = (l.take 20).map intC := fun l => List.map_take.symm
  unfold eventE
  by_cases hk : (e.key.length : Int) > 20
  · have h20 : (20 : Int) ≤ (e.key.length : Int) := by omega
    have h21 : 20 ≤ e.key.length := by omega
    simp only [cut20, hk, if_true]
    by_cases k2 : e.kind = 2
    case neg =>
      simp only [k2, false_and, if_false]
      by_cases hp0 : e.proc ≥ 0
      · by_cases hp1 : e.proc < (x.procs.length : Int)
        · rw [callZ, evL_code ext_law20_Event code_law20_Event]; simp only [c_law20_Event, hm, hk, k2, hp0, hp1, hcut, h20, ints_ok, ints_lo, Nat.reduceLeDiff, Go.Ev.runFunc, Go.Ev.exec, Go.Ev.evOpers, Go.Ev.evOper, Go.Ev.item_op, Go.Ev.evOp, Go.Ev.Opnd.ev, Go.Ev.Env.get, Go.Ev.Env.set, Go.Ev.look, Go.Ev.argVars, Go.Ev.optInt, Go.Ev.cellsAt, Go.Ev.loadC, Go.Ev.AV.cells, Go.Ev.AV.uc, Go.Ev.plains, Go.Ev.AV.plain, Go.Ev.bin_rem, Go.Ev.bin_eql, Go.Ev.bin_lss, Go.Ev.bin_gtr, Go.Ev.bin_geq, Go.Ev.resVals, Go.Ev.resVal, Go.Ev.resOf, Go.Ev.kill, Go.Ev.leave, Go.Ev.storeLo, Go.Ev.lo_v, Go.Ev.lo_agg, Go.Ev.lo_fsl, Go.Ev.los_nil, Go.Ev.los_cons, Go.Ev.frz_lo, List.length_map, ↓Go.Ev.obind, ↓reduceIte, List.length_cons, List.length_nil, List.getElem?_cons_zero, List.getElem?_cons_succ, List.take_succ_cons, List.take_zero, List.take_nil, List.drop_succ_cons, List.drop_zero, List.drop_nil, List.cons_append, List.nil_append, List.append_nil, List.set_cons_zero, List.set_cons_succ, List.head?_cons, Nat.reduceAdd, Nat.reduceEqDiff, Nat.reduceSub, Nat.reduceLeDiff, Int.reduceLE, Int.reduceToNat, reduceCtorEq, decide_true, decide_false, Bool.and_self, Bool.false_eq_true, and_self, ne_eq, not_false_eq_true, List.cons_ne_nil, Nat.zero_add, Nat.add_zero, Nat.le_refl, Option.isSome_some, Option.isSome_none, eq_self, implies_true, Bool.false_and]
        · rw [callZ, evL_code ext_law20_Event code_law20_Event]; simp only [c_law20_Event, hm, hk, hp0, hp1, hcut, h20, ints_ok, ints_lo, Nat.reduceLeDiff, Go.Ev.runFunc, Go.Ev.exec, Go.Ev.evOpers, Go.Ev.evOper, Go.Ev.item_op, Go.Ev.evOp, Go.Ev.Opnd.ev, Go.Ev.Env.get, Go.Ev.Env.set, Go.Ev.Env.unset, Go.Ev.look, Go.Ev.argVars, Go.Ev.optInt, Go.Ev.cellsAt, Go.Ev.loadC, Go.Ev.AV.cells, Go.Ev.AV.uc, Go.Ev.plains, Go.Ev.AV.plain, Go.Ev.bin_rem, Go.Ev.bin_lss, Go.Ev.bin_gtr, Go.Ev.bin_geq, Go.Ev.resVals, Go.Ev.resVal, Go.Ev.resOf, Go.Ev.kill, Go.Ev.leave, Go.Ev.storeLo, Go.Ev.lo_v, Go.Ev.lo_agg, Go.Ev.lo_fsl, Go.Ev.los_nil, Go.Ev.los_cons, Go.Ev.frz_lo, List.length_map, ↓Go.Ev.obind, ↓reduceIte, List.length_cons, List.length_nil, List.getElem?_cons_zero, List.getElem?_cons_succ, List.take_succ_cons, List.take_zero, List.take_nil, List.drop_succ_cons, List.drop_zero, List.drop_nil, List.cons_append, List.nil_append, List.append_nil, List.set_cons_zero, List.set_cons_succ, List.head?_cons, Nat.reduceAdd, Nat.reduceEqDiff, Nat.reduceSub, Nat.reduceLeDiff, Int.reduceLE, Int.reduceToNat, reduceCtorEq, decide_true, decide_false, Bool.and_self, Bool.false_eq_true, and_self, ne_eq, not_false_eq_true, List.cons_ne_nil, Nat.zero_add, Nat.add_zero, Nat.le_refl, Option.isSome_some, Option.isSome_none, eq_self, implies_true, Bool.false_and]
      · rw [callZ, evL_code ext_law20_Event code_law20_Event]; simp only [c_law20_Event, hm, hk, hp0, hcut, h20, ints_ok, ints_lo, Nat.reduceLeDiff, Go.Ev.runFunc, Go.Ev.exec, Go.Ev.evOpers, Go.Ev.evOper, Go.Ev.item_op, Go.Ev.evOp, Go.Ev.Opnd.ev, Go.Ev.Env.get, Go.Ev.Env.set, Go.Ev.Env.unset, Go.Ev.look, Go.Ev.argVars, Go.Ev.optInt, Go.Ev.cellsAt, Go.Ev.loadC, Go.Ev.AV.cells, Go.Ev.AV.uc, Go.Ev.plains, Go.Ev.AV.plain, Go.Ev.bin_rem, Go.Ev.bin_gtr, Go.Ev.bin_geq, Go.Ev.resVals, Go.Ev.resVal, Go.Ev.resOf, Go.Ev.kill, Go.Ev.leave, Go.Ev.storeLo, Go.Ev.lo_v, Go.Ev.lo_agg, Go.Ev.lo_fsl, Go.Ev.los_nil, Go.Ev.los_cons, Go.Ev.frz_lo, List.length_map, ↓Go.Ev.obind, ↓reduceIte, List.length_cons, List.length_nil, List.getElem?_cons_zero, List.getElem?_cons_succ, List.take_succ_cons, List.take_zero, List.take_nil, List.drop_succ_cons, List.drop_zero, List.drop_nil, List.cons_append, List.nil_append, List.append_nil, List.set_cons_zero, List.set_cons_succ, List.head?_cons, Nat.reduceAdd, Nat.reduceEqDiff, Nat.reduceSub, Nat.reduceLeDiff, Int.reduceLE, Int.reduceToNat, reduceCtorEq, decide_true, decide_false, Bool.and_self, Bool.false_eq_true, and_self, ne_eq, not_false_eq_true, List.cons_ne_nil, Nat.zero_add, Nat.add_zero, Nat.le_refl, Option.isSome_some, Option.isSome_none, eq_self, implies_true, Bool.false_and]
    by_cases hp0 : e.proc ≥ 0
    case neg =>
      have : ¬ 0 ≤ e.proc := hp0
      simp only [this, and_false, if_false]
      rw [callZ, evL_code ext_law20_Event code_law20_Event]; simp only [c_law20_Event, hm, hk, k2, hp0, hcut, h20, ints_ok, ints_lo, Nat.reduceLeDiff, Go.Ev.runFunc, Go.Ev.exec, Go.Ev.evOpers, Go.Ev.evOper, Go.Ev.item_op, Go.Ev.evOp, Go.Ev.Opnd.ev, Go.Ev.Env.get, Go.Ev.Env.set, Go.Ev.Env.unset, Go.Ev.look, Go.Ev.argVars, Go.Ev.optInt, Go.Ev.cellsAt, Go.Ev.loadC, Go.Ev.AV.cells, Go.Ev.AV.uc, Go.Ev.plains, Go.Ev.AV.plain, Go.Ev.bin_rem, Go.Ev.bin_gtr, Go.Ev.bin_geq, Go.Ev.resVals, Go.Ev.resVal, Go.Ev.resOf, Go.Ev.kill, Go.Ev.leave, Go.Ev.storeLo, Go.Ev.lo_v, Go.Ev.lo_agg, Go.Ev.lo_fsl, Go.Ev.los_nil, Go.Ev.los_cons, Go.Ev.frz_lo, List.length_map, ↓Go.Ev.obind, ↓reduceIte, List.length_cons, List.length_nil, List.getElem?_cons_zero, List.getElem?_cons_succ, List.take_succ_cons, List.take_zero, List.take_nil, List.drop_succ_cons, List.drop_zero, List.drop_nil, List.cons_append, List.nil_append, List.append_nil, List.set_cons_zero, List.set_cons_succ, List.head?_cons, Nat.reduceAdd, Nat.reduceEqDiff, Nat.reduceSub, Nat.reduceLeDiff, Int.reduceLE, Int.reduceToNat, reduceCtorEq, decide_true, decide_false, Bool.and_self, Bool.false_eq_true, and_self, ne_eq, not_false_eq_true, List.cons_ne_nil, Nat.zero_add, Nat.add_zero, Nat.le_refl, Option.isSome_some, Option.isSome_none, eq_self, implies_true, Bool.false_and]
    have hp0' : 0 ≤ e.proc := hp0
    simp only [k2, hp0', and_self, if_true]
    by_cases hp1 : e.proc < (x.procs.length : Int)
    case neg =>
      have : x.procs[e.proc.toNat]? = none := by rw [List.getElem?_eq_none_iff]; omega
      rw [this]
      rw [callZ, evL_code ext_law20_Event code_law20_Event]; simp only [c_law20_Event, hm, hk, hp0, hp1, hcut, h20, ints_ok, ints_lo, Nat.reduceLeDiff, Go.Ev.runFunc, Go.Ev.exec, Go.Ev.evOpers, Go.Ev.evOper, Go.Ev.item_op, Go.Ev.evOp, Go.Ev.Opnd.ev, Go.Ev.Env.get, Go.Ev.Env.set, Go.Ev.Env.unset, Go.Ev.look, Go.Ev.argVars, Go.Ev.optInt, Go.Ev.cellsAt, Go.Ev.loadC, Go.Ev.AV.cells, Go.Ev.AV.uc, Go.Ev.plains, Go.Ev.AV.plain, Go.Ev.bin_rem, Go.Ev.bin_lss, Go.Ev.bin_gtr, Go.Ev.bin_geq, Go.Ev.resVals, Go.Ev.resVal, Go.Ev.resOf, Go.Ev.kill, Go.Ev.leave, Go.Ev.storeLo, Go.Ev.lo_v, Go.Ev.lo_agg, Go.Ev.lo_fsl, Go.Ev.los_nil, Go.Ev.los_cons, Go.Ev.frz_lo, List.length_map, ↓Go.Ev.obind, ↓reduceIte, List.length_cons, List.length_nil, List.getElem?_cons_zero, List.getElem?_cons_succ, List.take_succ_cons, List.take_zero, List.take_nil, List.drop_succ_cons, List.drop_zero, List.drop_nil, List.cons_append, List.nil_append, List.append_nil, List.set_cons_zero, List.set_cons_succ, List.head?_cons, Nat.reduceAdd, Nat.reduceEqDiff, Nat.reduceSub, Nat.reduceLeDiff, Int.reduceLE, Int.reduceToNat, reduceCtorEq, decide_true, decide_false, Bool.and_self, Bool.false_eq_true, and_self, ne_eq, not_false_eq_true, List.cons_ne_nil, Nat.zero_add, Nat.add_zero, Nat.le_refl, Option.isSome_some, Option.isSome_none, eq_self, implies_true, Bool.false_and]
    obtain ⟨q, hq⟩ : ∃ q, x.procs[e.proc.toNat]? = some q := ⟨_, List.getElem?_eq_getElem (by omega)⟩
    obtain ⟨q1, q2⟩ := hx q (List.mem_of_getElem? hq)
    obtain ⟨p, hp⟩ : ∃ p, c.progs[q.prog.toNat]? = some p := ⟨_, List.getElem?_eq_getElem (by omega)⟩
    obtain ⟨pl1, pl2, _⟩ := hc.prog p (List.mem_of_getElem? hp)
    have hp2 : ¬ (p.length : Int) = 0 := by omega
    rw [hq]
    simp only [hp, Option.getD_some, normZ]
    rw [callZ, evL_code ext_law20_Event code_law20_Event]; simp only [c_law20_Event, hm, hk, hp0, hp1, hp2, hq, q1, hp, hcut, h20, ints_ok, progC, Pr.r, List.getElem?_map, Option.map_some, ints_lo, Nat.reduceLeDiff, Go.Ev.runFunc, Go.Ev.exec, Go.Ev.evOpers, Go.Ev.evOper, Go.Ev.item_op, Go.Ev.evOp, Go.Ev.Opnd.ev, Go.Ev.Env.get, Go.Ev.Env.set, Go.Ev.look, Go.Ev.argVars, Go.Ev.optInt, Go.Ev.cellsAt, Go.Ev.loadC, Go.Ev.AV.cells, Go.Ev.AV.uc, Go.Ev.plains, Go.Ev.AV.plain, Go.Ev.bin_add, Go.Ev.bin_rem, Go.Ev.bin_eql, Go.Ev.bin_lss, Go.Ev.bin_gtr, Go.Ev.bin_geq, Go.Ev.resVals, Go.Ev.resVal, Go.Ev.resOf, Go.Ev.kill, Go.Ev.leave, Go.Ev.storeLo, Go.Ev.lo_v, Go.Ev.lo_agg, Go.Ev.lo_fsl, Go.Ev.los_nil, Go.Ev.los_cons, Go.Ev.frz_lo, List.length_map, ↓Go.Ev.obind, ↓reduceIte, List.length_cons, List.length_nil, List.getElem?_cons_zero, List.getElem?_cons_succ, List.take_succ_cons, List.take_zero, List.take_nil, List.drop_succ_cons, List.drop_zero, List.drop_nil, List.cons_append, List.nil_append, List.append_nil, List.set_cons_zero, List.set_cons_succ, List.head?_cons, Nat.reduceAdd, Nat.reduceEqDiff, Nat.reduceSub, Nat.reduceLeDiff, Int.reduceLE, Int.reduceToNat, reduceCtorEq, decide_true, Bool.and_self, Bool.false_eq_true, and_self, ne_eq, not_false_eq_true, List.cons_ne_nil, Nat.zero_add, Nat.add_zero, Nat.le_refl, Option.isSome_some, Option.isSome_none, eq_self, implies_true, Bool.false_and]
  · simp only [cut20, hk, if_false]
    by_cases k2 : e.kind = 2
    case neg =>
      simp only [k2, false_and, if_false]
      by_cases hp0 : e.proc ≥ 0
      · by_cases hp1 : e.proc < (x.procs.length : Int)
        · rw [callZ, evL_code ext_law20_Event code_law20_Event]; simp only [c_law20_Event, hm, hk, k2, hp0, hp1, ints_lo, Nat.reduceLeDiff, Go.Ev.runFunc, Go.Ev.exec, Go.Ev.evOpers, Go.Ev.evOper, Go.Ev.item_op, Go.Ev.evOp, Go.Ev.Opnd.ev, Go.Ev.Env.get, Go.Ev.Env.set, Go.Ev.look, Go.Ev.argVars, Go.Ev.cellsAt, Go.Ev.loadC, Go.Ev.AV.cells, Go.Ev.AV.uc, Go.Ev.plains, Go.Ev.AV.plain, Go.Ev.bin_rem, Go.Ev.bin_eql, Go.Ev.bin_lss, Go.Ev.bin_gtr, Go.Ev.bin_geq, Go.Ev.resVals, Go.Ev.resVal, Go.Ev.resOf, Go.Ev.kill, Go.Ev.leave, Go.Ev.storeLo, Go.Ev.lo_v, Go.Ev.lo_agg, Go.Ev.lo_fsl, Go.Ev.los_nil, Go.Ev.los_cons, Go.Ev.frz_lo, List.length_map, ↓Go.Ev.obind, ↓reduceIte, List.length_cons, List.length_nil, List.getElem?_cons_zero, List.getElem?_cons_succ, List.take_succ_cons, List.take_zero, List.take_nil, List.drop_succ_cons, List.drop_zero, List.drop_nil, List.cons_append, List.nil_append, List.append_nil, List.set_cons_zero, List.set_cons_succ, List.head?_cons, Nat.reduceAdd, Nat.reduceEqDiff, Nat.reduceLeDiff, reduceCtorEq, decide_true, decide_false, Bool.and_self, Bool.false_eq_true, and_self, ne_eq, not_false_eq_true, List.cons_ne_nil, Nat.zero_add, Nat.add_zero, Nat.le_refl, eq_self]
        · rw [callZ, evL_code ext_law20_Event code_law20_Event]; simp only [c_law20_Event, hm, hk, hp0, hp1, ints_lo, Nat.reduceLeDiff, Go.Ev.runFunc, Go.Ev.exec, Go.Ev.evOpers, Go.Ev.evOper, Go.Ev.item_op, Go.Ev.evOp, Go.Ev.Opnd.ev, Go.Ev.Env.get, Go.Ev.Env.set, Go.Ev.Env.unset, Go.Ev.look, Go.Ev.argVars, Go.Ev.cellsAt, Go.Ev.loadC, Go.Ev.AV.cells, Go.Ev.AV.uc, Go.Ev.plains, Go.Ev.AV.plain, Go.Ev.bin_rem, Go.Ev.bin_lss, Go.Ev.bin_gtr, Go.Ev.bin_geq, Go.Ev.resVals, Go.Ev.resVal, Go.Ev.resOf, Go.Ev.kill, Go.Ev.leave, Go.Ev.storeLo, Go.Ev.lo_v, Go.Ev.lo_agg, Go.Ev.lo_fsl, Go.Ev.los_nil, Go.Ev.los_cons, Go.Ev.frz_lo, List.length_map, ↓Go.Ev.obind, ↓reduceIte, List.length_cons, List.length_nil, List.getElem?_cons_zero, List.getElem?_cons_succ, List.take_succ_cons, List.take_zero, List.take_nil, List.drop_succ_cons, List.drop_zero, List.drop_nil, List.cons_append, List.nil_append, List.append_nil, List.set_cons_zero, List.set_cons_succ, List.head?_cons, Nat.reduceAdd, Nat.reduceEqDiff, Nat.reduceLeDiff, reduceCtorEq, decide_true, decide_false, Bool.and_self, Bool.false_eq_true, and_self, ne_eq, not_false_eq_true, List.cons_ne_nil, Nat.zero_add, Nat.add_zero, Nat.le_refl, eq_self]
      · rw [callZ, evL_code ext_law20_Event code_law20_Event]; simp only [c_law20_Event, hm, hk, hp0, ints_lo, Nat.reduceLeDiff, Go.Ev.runFunc, Go.Ev.exec, Go.Ev.evOpers, Go.Ev.evOper, Go.Ev.item_op, Go.Ev.evOp, Go.Ev.Opnd.ev, Go.Ev.Env.get, Go.Ev.Env.set, Go.Ev.Env.unset, Go.Ev.look, Go.Ev.argVars, Go.Ev.cellsAt, Go.Ev.loadC, Go.Ev.AV.cells, Go.Ev.AV.uc, Go.Ev.plains, Go.Ev.AV.plain, Go.Ev.bin_rem, Go.Ev.bin_gtr, Go.Ev.bin_geq, Go.Ev.resVals, Go.Ev.resVal, Go.Ev.resOf, Go.Ev.kill, Go.Ev.leave, Go.Ev.storeLo, Go.Ev.lo_v, Go.Ev.lo_agg, Go.Ev.lo_fsl, Go.Ev.los_nil, Go.Ev.los_cons, Go.Ev.frz_lo, List.length_map, ↓Go.Ev.obind, ↓reduceIte, List.length_cons, List.length_nil, List.getElem?_cons_zero, List.getElem?_cons_succ, List.take_succ_cons, List.take_zero, List.take_nil, List.drop_succ_cons, List.drop_zero, List.drop_nil, List.cons_append, List.nil_append, List.append_nil, List.set_cons_zero, List.set_cons_succ, List.head?_cons, Nat.reduceAdd, Nat.reduceEqDiff, Nat.reduceLeDiff, reduceCtorEq, decide_false, Bool.and_self, Bool.false_eq_true, and_self, ne_eq, not_false_eq_true, List.cons_ne_nil, Nat.zero_add, Nat.add_zero, Nat.le_refl, eq_self]
    by_cases hp0 : e.proc ≥ 0
    case neg =>
      have : ¬ 0 ≤ e.proc := hp0
      simp only [this, and_false, if_false]
      rw [callZ, evL_code ext_law20_Event code_law20_Event]; simp only [c_law20_Event, hm, hk, k2, hp0, ints_lo, Nat.reduceLeDiff, Go.Ev.runFunc, Go.Ev.exec, Go.Ev.evOpers, Go.Ev.evOper, Go.Ev.item_op, Go.Ev.evOp, Go.Ev.Opnd.ev, Go.Ev.Env.get, Go.Ev.Env.set, Go.Ev.Env.unset, Go.Ev.look, Go.Ev.argVars, Go.Ev.cellsAt, Go.Ev.loadC, Go.Ev.AV.cells, Go.Ev.AV.uc, Go.Ev.plains, Go.Ev.AV.plain, Go.Ev.bin_rem, Go.Ev.bin_gtr, Go.Ev.bin_geq, Go.Ev.resVals, Go.Ev.resVal, Go.Ev.resOf, Go.Ev.kill, Go.Ev.leave, Go.Ev.storeLo, Go.Ev.lo_v, Go.Ev.lo_agg, Go.Ev.lo_fsl, Go.Ev.los_nil, Go.Ev.los_cons, Go.Ev.frz_lo, List.length_map, ↓Go.Ev.obind, ↓reduceIte, List.length_cons, List.length_nil, List.getElem?_cons_zero, List.getElem?_cons_succ, List.take_succ_cons, List.take_zero, List.take_nil, List.drop_succ_cons, List.drop_zero, List.drop_nil, List.cons_append, List.nil_append, List.append_nil, List.set_cons_zero, List.set_cons_succ, List.head?_cons, Nat.reduceAdd, Nat.reduceEqDiff, Nat.reduceLeDiff, reduceCtorEq, decide_false, Bool.and_self, Bool.false_eq_true, and_self, ne_eq, not_false_eq_true, List.cons_ne_nil, Nat.zero_add, Nat.add_zero, Nat.le_refl, eq_self]
    have hp0' : 0 ≤ e.proc := hp0
    simp only [k2, hp0', and_self, if_true]
    by_cases hp1 : e.proc < (x.procs.length : Int)
    case neg =>
      have : x.procs[e.proc.toNat]? = none := by rw [List.getElem?_eq_none_iff]; omega
      rw [this]
      rw [callZ, evL_code ext_law20_Event code_law20_Event]; simp only [c_law20_Event, hm, hk, hp0, hp1, ints_lo, Nat.reduceLeDiff, Go.Ev.runFunc, Go.Ev.exec, Go.Ev.evOpers, Go.Ev.evOper, Go.Ev.item_op, Go.Ev.evOp, Go.Ev.Opnd.ev, Go.Ev.Env.get, Go.Ev.Env.set, Go.Ev.Env.unset, Go.Ev.look, Go.Ev.argVars, Go.Ev.cellsAt, Go.Ev.loadC, Go.Ev.AV.cells, Go.Ev.AV.uc, Go.Ev.plains, Go.Ev.AV.plain, Go.Ev.bin_rem, Go.Ev.bin_lss, Go.Ev.bin_gtr, Go.Ev.bin_geq, Go.Ev.resVals, Go.Ev.resVal, Go.Ev.resOf, Go.Ev.kill, Go.Ev.leave, Go.Ev.storeLo, Go.Ev.lo_v, Go.Ev.lo_agg, Go.Ev.lo_fsl, Go.Ev.los_nil, Go.Ev.los_cons, Go.Ev.frz_lo, List.length_map, ↓Go.Ev.obind, ↓reduceIte, List.length_cons, List.length_nil, List.getElem?_cons_zero, List.getElem?_cons_succ, List.take_succ_cons, List.take_zero, List.take_nil, List.drop_succ_cons, List.drop_zero, List.drop_nil, List.cons_append, List.nil_append, List.append_nil, List.set_cons_zero, List.set_cons_succ, List.head?_cons, Nat.reduceAdd, Nat.reduceEqDiff, Nat.reduceLeDiff, reduceCtorEq, decide_true, decide_false, Bool.and_self, Bool.false_eq_true, and_self, ne_eq, not_false_eq_true, List.cons_ne_nil, Nat.zero_add, Nat.add_zero, Nat.le_refl, eq_self]
    obtain ⟨q, hq⟩ : ∃ q, x.procs[e.proc.toNat]? = some q := ⟨_, List.getElem?_eq_getElem (by omega)⟩
    obtain ⟨q1, q2⟩ := hx q (List.mem_of_getElem? hq)
    obtain ⟨p, hp⟩ : ∃ p, c.progs[q.prog.toNat]? = some p := ⟨_, List.getElem?_eq_getElem (by omega)⟩
    obtain ⟨pl1, pl2, _⟩ := hc.prog p (List.mem_of_getElem? hp)
    have hp2 : ¬ (p.length : Int) = 0 := by omega
    rw [hq]
    simp only [hp, Option.getD_some, normZ]
    rw [callZ, evL_code ext_law20_Event code_law20_Event]; simp only [c_law20_Event, hm, hk, hp0, hp1, hp2, hq, q1, hp, progC, Pr.r, List.getElem?_map, Option.map_some, ints_lo, Nat.reduceLeDiff, Go.Ev.runFunc, Go.Ev.exec, Go.Ev.evOpers, Go.Ev.evOper, Go.Ev.item_op, Go.Ev.evOp, Go.Ev.Opnd.ev, Go.Ev.Env.get, Go.Ev.Env.set, Go.Ev.look, Go.Ev.argVars, Go.Ev.cellsAt, Go.Ev.loadC, Go.Ev.AV.cells, Go.Ev.AV.uc, Go.Ev.plains, Go.Ev.AV.plain, Go.Ev.bin_add, Go.Ev.bin_rem, Go.Ev.bin_eql, Go.Ev.bin_lss, Go.Ev.bin_gtr, Go.Ev.bin_geq, Go.Ev.resVals, Go.Ev.resVal, Go.Ev.resOf, Go.Ev.kill, Go.Ev.leave, Go.Ev.storeLo, Go.Ev.lo_v, Go.Ev.lo_agg, Go.Ev.lo_fsl, Go.Ev.los_nil, Go.Ev.los_cons, Go.Ev.frz_lo, List.length_map, ↓Go.Ev.obind, ↓reduceIte, List.length_cons, List.length_nil, List.getElem?_cons_zero, List.getElem?_cons_succ, List.take_succ_cons, List.take_zero, List.take_nil, List.drop_succ_cons, List.drop_zero, List.drop_nil, List.cons_append, List.nil_append, List.append_nil, List.set_cons_zero, List.set_cons_succ, List.head?_cons, Nat.reduceAdd, Nat.reduceEqDiff, Nat.reduceLeDiff, reduceCtorEq, decide_true, decide_false, Bool.and_self, Bool.false_eq_true, and_self, ne_eq, not_false_eq_true, List.cons_ne_nil, Nat.zero_add, Nat.add_zero, Nat.le_refl, eq_self]
end Go.Proofs.Ytdpeepljabbcfaa.K

namespace Go.Proofs.Ytdpeepljabbcfaa.K
open Go.Ev
set_option linter.unusedSimpArgs false
set_option linter.unusedVariables false
set_option maxRecDepth 10000
/-- A state and an event that may be executed. -/
structure Ready (c : Cfg) (x : Lp) (e : Evt) : Prop where
  valid : Valid c
  len : x.procs.length ≤ 8
  proc : ∀ q ∈ x.procs, 0 ≤ q.prog ∧ q.prog < c.progs.length ∧ 0 ≤ q.pc ∧ q.pc ≤ ((c.progs[q.prog.toNat]?).getD []).length ∧ q.timer.length ≤ 20
  time : 0 ≤ e.time ∧ e.time ≤ 1152921504606846976
  key : e.key.length ≤ 20
  arg : ∀ q, actsE x e = some q → e.kind = 2 → 0 ≤ e.arg ∧ e.arg ≤ ((c.progs[q.prog.toNat]?).getD []).length
theorem opOk_of {c : Cfg} {p : List OpI} {op : OpI} (h : OpFull c p op) (hp : p.length ≤ 16) : OpOk' op := ⟨h.code, h.reg, fun k => by have := h.to k; omega⟩
section
variable {c : Cfg} {x : Lp} {e : Evt}
theorem acts_some {q : Pr} (h : actsE x e = some q) : (e.kind = 1 ∨ e.kind = 2) ∧ 0 ≤ e.proc ∧ x.procs[e.proc.toNat]? = some q ∧ q.alive = true := by
  unfold actsE at h
  split at h
  case isFalse => cases h
  rename_i hc
  rw [Option.bind_eq_some_iff] at h
  obtain ⟨q', hq, ha⟩ := h
  split at ha
  case isFalse => cases ha
  rename_i hal
  cases ha
  exact ⟨hc.1, hc.2, hq, hal⟩
theorem Ready.ops (h : Ready c x e) {p : List OpI} (hp : p ∈ c.progs) : p.length ≤ 16 ∧ ∀ op ∈ p, OpFull c p op := ⟨(h.valid.prog p hp).2.1, (h.valid.prog p hp).2.2⟩
theorem Ready.plen (h : Ready c x e) (k : Nat) : ((c.progs[k]?).getD []).length ≤ 16 := by
  cases hk : c.progs[k]? with
  | none => simp
  | some p => simpa using (h.ops (List.mem_of_getElem? hk)).1
theorem Ready.execOk (h : Ready c x e) {q : Pr} (ha : actsE x e = some q) : ExecOk c x e :=
  ⟨by have := h.len; omega, by have := h.key; omega, fun q hq => by obtain ⟨a, b, d, f, g⟩ := h.proc q hq; have := h.plen q.prog.toNat; exact ⟨a, b, d, by omega, by omega⟩,
    fun p hp => ⟨by have := (h.ops hp).1; omega, fun op ho => opOk_of ((h.ops hp).2 op ho) (h.ops hp).1⟩, fun k => by have := h.arg q ha k; have := h.plen q.prog.toNat; omega⟩
theorem Ready.inv (h : Ready c x e) {q : Pr} (ha : actsE x e = some q) : ∃ (i : Nat) (p : List OpI), e.proc = i ∧ x.procs[i]? = some q ∧ p ∈ c.progs ∧ c.progs[q.prog.toNat]? = some p ∧ EInv c e i x.procs q.prog p q.timer 16 (runE c x e q) := by
  obtain ⟨a1, a2, a3, a4⟩ := acts_some ha
  obtain ⟨i, hi⟩ : ∃ i : Nat, e.proc = i := ⟨_, (Int.toNat_of_nonneg a2).symm⟩
  have hin : e.proc.toNat = i := by omega
  rw [hin] at a3
  obtain ⟨p1, p2, p3, p4, p5⟩ := h.proc q (List.mem_of_getElem? a3)
  obtain ⟨p, hp⟩ : ∃ p, c.progs[q.prog.toNat]? = some p := ⟨_, List.getElem?_eq_getElem (by omega)⟩
  have hpm := List.mem_of_getElem? hp
  have hlt := (List.getElem?_eq_some_iff.1 a3).1
  have hgd : ((c.progs[q.prog.toNat]?).getD []).length = p.length := by rw [hp]; rfl
  rw [hgd] at p4
  refine ⟨i, p, hi, a3, hpm, hp, ?_⟩
  have hrun : runE c x e q = actE p i 16 ((beginE x e).setP i (wakeE e q)) := by unfold runE; rw [hin, hp]; rfl
  rw [hrun]
  have hg : q.timer = [] ∨ GoneOk q.timer (beginE x e) q.timer := .inr ⟨by omega, .inr (.inl rfl)⟩
  have h0 : EInv c e i x.procs q.prog p q.timer 0 (beginE x e) := by
    refine ⟨rfl, ⟨Nat.le_refl _, h.len⟩, ⟨q, a3, rfl, p3, p4, hg⟩, fun j _ _ => rfl, fun j q' hj hq' => ?_, ⟨Int.le_refl 0, Int.le_refl 0, Int.le_refl 0⟩, fun k ev hk => by simp [beginE] at hk, fun k ev ev' hk => by simp [beginE] at hk, fun g hg => by simp [beginE] at hg⟩
    have := (List.getElem?_eq_some_iff.1 hq').1
    change j < x.procs.length at this
    omega
  have h1 : EInv c e i x.procs q.prog p q.timer 0 ((beginE x e).setP i (wakeE e q)) := by
    refine h0.setP hlt (wake_prog e q) ?_ ?_
    · unfold wakeE; split
      next k => have := h.arg q ha k; rw [hgd] at this; exact this
      next => exact ⟨p3, p4⟩
    · unfold wakeE; split
      · by_cases ht : q.timer = e.key
        · simp [ht]
        · simp only [ht, if_false]; exact hg
      · exact hg
  have := EInv.act hlt h.time (by have := h.key; omega) (by have := (h.ops hpm).1; omega) hi (h.ops hpm).2 16 0 _ (by omega) h1
  exact this
theorem ActInv.act {i : Nat} {p : List OpI} (hpl : p.length ≤ 1000) (ho : ∀ op ∈ p, OpOk' op) : ∀ (m n : Nat) (y : Ex), ActInv e i n y → ActInv e i (n + m) (actE p i m y)
  | 0, n, y, h => by
    obtain ⟨q, h1, h2⟩ := h.has
    show ActInv e i n (killE y i)
    unfold killE; rw [h1]; exact h.pc h1 h2 false
  | m + 1, n, y, h => by
    have mono : ∀ {k : Nat} {z : Ex}, ActInv e i k z → ∀ l, k ≤ l → ActInv e i l z := fun hz l hl => ⟨hz.ev, hz.has, hz.procs, by have := hz.out; omega, by have := hz.gone; omega⟩
    obtain ⟨q, h1, h2⟩ := h.has
    rw [actE_succ p i m y q h1]
    cases hop : p[q.pc.toNat]? with
    | none =>
      refine mono (k := n) ?_ _ (by omega)
      show ActInv e i n (killE y i)
      unfold killE; rw [h1]; exact h.pc h1 h2 false
    | some op =>
      have hlp := (List.getElem?_eq_some_iff.1 hop).1
      have hs := h.stepR h1 ⟨by omega, by omega⟩ (ho op (List.mem_of_getElem? hop))
      simp only
      split
      · exact mono hs _ (by omega)
      · have := ActInv.act hpl ho m (n + 1) _ hs
        rw [show n + (m + 1) = n + 1 + m from by omega]; exact this
theorem Ready.goneLen (h : Ready c x e) {q : Pr} (ha : actsE x e = some q) : (runE c x e q).gone.length ≤ 16 := by
  obtain ⟨i, p, hi, hq, hpm, hp, _⟩ := h.inv ha
  have hin : e.proc.toNat = i := by omega
  have hrun : runE c x e q = actE p i 16 ((beginE x e).setP i (wakeE e q)) := by unfold runE; rw [hin, hp]; rfl
  have h0 := begin_inv c x e (h.execOk ha) hi hq
  have := ActInv.act (by have := (h.ops hpm).1; omega) (fun op ho => opOk_of ((h.ops hpm).2 op ho) (h.ops hpm).1) 16 0 _ h0
  rw [hrun]; have := this.gone; omega
structure XRes where
  lp : Lp
  out : List Evt
  gone : List (List Int)
  over : Bool
  nil : Bool
def execR (c : Cfg) (x : Lp) (e : Evt) : XRes :=
  if e.kind = 3 then ⟨⟨x.r0, x.r1, x.procs, w64 (x.sum + e.arg)⟩, [], [], false, true⟩
  else match actsE x e with
    | none => ⟨x, [], [], false, true⟩
    | some q => ⟨endE (runE c x e q), (runE c x e q).out, (runE c x e q).gone, (runE c x e q).over, false⟩
theorem Exec_ev (h : Ready c x e) : callZ (evL T) n_process_Exec [(.agg [(.fsl ((c.lps).map lpC) false), (.fsl ((c.progs).map progC) false), (.v (.int .i64 (c.look))), (.v (.int .i64 (c.fin))), (.v (.int .i64 (c.cap)))]), (.agg [(.v (.int .i64 (x.r0))), (.v (.int .i64 (x.r1))), (.fsl ((x.procs).map Pr.r) false), (.v (.int .i64 (x.sum)))]), (.agg [(.v (.int .i64 (e.time))), (.fsl ((e.key).map intC) false), (.v (.int .i64 (e.lp))), (.v (.int .i64 (e.kind))), (.v (.int .i64 (e.proc))), (.v (.int .i64 (e.arg)))])] = some (.tup [(.agg [(.v (.int .i64 ((execR c x e).lp.r0))), (.v (.int .i64 ((execR c x e).lp.r1))), (.fsl (((execR c x e).lp.procs).map Pr.r) false), (.v (.int .i64 ((execR c x e).lp.sum)))]), (.fsl (((execR c x e).out).map Evt.r) (execR c x e).nil), (.fsl (((execR c x e).gone).map keyC) (execR c x e).nil), (.v (.bool ((execR c x e).over)))]) := by
  unfold execR
  by_cases hk : e.kind = 3
  · rw [if_pos hk]; exact Exec_msg c x e hk
  rw [if_neg hk]
  cases ha : actsE x e with
  | none => exact Exec_none c x e hk ha
  | some q => exact Exec_run c x e (h.execOk ha) ha
theorem RExec_ev (h : Ready c x e) : callZ (evL T) n_ref20_Exec [(.agg [(.fsl ((c.lps).map lpC) false), (.fsl ((c.progs).map progC) false), (.v (.int .i64 (c.look))), (.v (.int .i64 (c.fin))), (.v (.int .i64 (c.cap)))]), (.agg [(.v (.int .i64 (x.r0))), (.v (.int .i64 (x.r1))), (.fsl ((x.procs).map Pr.r) false), (.v (.int .i64 (x.sum)))]), (.agg [(.v (.int .i64 (e.time))), (.fsl ((e.key).map intC) false), (.v (.int .i64 (e.lp))), (.v (.int .i64 (e.kind))), (.v (.int .i64 (e.proc))), (.v (.int .i64 (e.arg)))])] = some (.tup [(.agg [(.v (.int .i64 ((execR c x e).lp.r0))), (.v (.int .i64 ((execR c x e).lp.r1))), (.fsl (((execR c x e).lp.procs).map Pr.r) false), (.v (.int .i64 ((execR c x e).lp.sum)))]), (.fsl (((execR c x e).out).map Evt.r) (execR c x e).nil), (.fsl (((execR c x e).gone).map keyC) (execR c x e).nil), (.v (.bool ((execR c x e).over)))]) := by
  unfold execR
  by_cases hk : e.kind = 3
  · rw [if_pos hk]; exact RExec_msg c x e hk
  rw [if_neg hk]
  cases ha : actsE x e with
  | none => exact RExec_none c x e hk ha
  | some q => exact RExec_run c x e (h.execOk ha) ha
/-- Sizes of what an execution returns. -/
theorem Ready.sizes (h : Ready c x e) : (execR c x e).lp.procs.length ≤ 8 ∧ (∀ q ∈ (execR c x e).lp.procs, q.timer.length ≤ 100) ∧ (execR c x e).out.length ≤ 16 ∧ (∀ ev ∈ (execR c x e).out, ev.key.length ≤ 100) ∧ (∀ g ∈ (execR c x e).gone, g.length ≤ 100) ∧ (execR c x e).gone.length ≤ 16 := by
  unfold execR
  by_cases hk : e.kind = 3
  · rw [if_pos hk]
    exact ⟨h.len, fun q hq => by have := (h.proc q hq).2.2.2.2; omega, by simp, fun _ h => by simp at h, fun _ h => by simp at h, by simp⟩
  rw [if_neg hk]
  cases ha : actsE x e with
  | none => exact ⟨h.len, fun q hq => by have := (h.proc q hq).2.2.2.2; omega, by simp, fun _ h => by simp at h, fun _ h => by simp at h, by simp⟩
  | some q =>
    obtain ⟨i, p, hi, hq, hpm, hp, hI⟩ := h.inv ha
    refine ⟨hI.len.2, fun q' hq' => ?_, by have := hI.cnt; show (runE c x e q).out.length ≤ 16; omega, fun ev hev => ?_, fun g hg => (hI.gone g hg).1, h.goneLen ha⟩
    · obtain ⟨j, hj⟩ := List.mem_iff_getElem?.1 hq'
      change (runE c x e q).procs[j]? = some q' at hj
      by_cases hji : j = i
      · obtain ⟨q2, b1, _, _, _, b5⟩ := hI.own
        subst hji
        rw [hj] at b1; cases b1
        rcases b5 with b5 | b5
        · rw [b5]; simp
        · exact b5.1
      · by_cases hjl : j < x.procs.length
        · rw [hI.old j hji hjl] at hj
          have := (h.proc q' (List.mem_of_getElem? hj)).2.2.2.2; omega
        · rw [(hI.new j q' (by omega) hj).2.2.1]; simp
    · obtain ⟨k, hk'⟩ := List.mem_iff_getElem?.1 hev
      obtain ⟨m, hm, _⟩ := (hI.outs k ev hk').key
      rw [hm]; have := h.key; simp; omega
end
theorem eventE_time (c : Cfg) (x : Lp) (r : Evt) : 0 ≤ (eventE c x r).time ∧ (eventE c x r).time ≤ 1152921504606846976 := by
  have h := tmod_small r.time (n := 1152921504606846977) (by decide)
  unfold eventE
  simp only
  rw [show IntKind.i64.wrap (0 - r.time.tmod 1152921504606846977) = 0 - r.time.tmod 1152921504606846977 from w64_small (by omega) (by omega)]
  split <;> omega
theorem stateL_proc {c : Cfg} (hc : Valid c) (x : Lp) : (stateL c x).procs.length ≤ 8 ∧ ∀ q ∈ (stateL c x).procs, 0 ≤ q.prog ∧ q.prog < c.progs.length ∧ 0 ≤ q.pc ∧ q.pc ≤ ((c.progs[q.prog.toNat]?).getD []).length ∧ q.timer.length ≤ 20 := by
  unfold stateL
  have hpl := hc.progs
  by_cases h0 : 0 < c.progs.length
  · simp only [h0, if_true]
    refine ⟨by simp; omega, fun q hq => ?_⟩
    obtain ⟨q0, _, rfl⟩ := List.mem_map.1 hq
    obtain ⟨r1, r2⟩ := normZ_range q0.prog (n := (c.progs.length : Int)) (by omega) (by omega)
    obtain ⟨p, hp⟩ : ∃ p, c.progs[(normZ q0.prog c.progs.length).toNat]? = some p := ⟨_, List.getElem?_eq_getElem (by omega)⟩
    have hp16 := (hc.prog p (List.mem_of_getElem? hp)).2.1
    have hst : stateP c q0 = ⟨normZ q0.prog c.progs.length, normZ q0.pc ((p.length : Int) + 1), q0.alive, cut20 q0.timer⟩ := by unfold stateP; rw [hp]; rfl
    rw [hst]
    obtain ⟨s1, s2⟩ := normZ_range q0.pc (n := (p.length : Int) + 1) (by omega) (by omega)
    exact ⟨r1, r2, s1, by simp only [hp, Option.getD_some]; omega, cut20_len _⟩
  · simp only [h0, if_false]
    exact ⟨by simp, fun q hq => by simp at hq⟩
theorem ready_of {c : Cfg} (hc : Valid c) (raw : Lp) (r : Evt) : Ready c (stateL c raw) (eventE c (stateL c raw) r) := by
  obtain ⟨s1, s2⟩ := stateL_proc hc raw
  refine ⟨hc, s1, s2, eventE_time c _ r, cut20_len _, fun q ha hk => ?_⟩
  obtain ⟨a1, a2, a3, a4⟩ := acts_some ha
  change r.kind = 2 at hk
  change 0 ≤ r.proc at a2
  change (stateL c raw).procs[r.proc.toNat]? = some q at a3
  have hq := s2 q (List.mem_of_getElem? a3)
  obtain ⟨p, hp⟩ : ∃ p, c.progs[q.prog.toNat]? = some p := ⟨_, List.getElem?_eq_getElem (by omega)⟩
  obtain ⟨pl1, pl2, _⟩ := hc.prog p (List.mem_of_getElem? hp)
  have : (eventE c (stateL c raw) r).arg = normZ r.arg p.length := by
    unfold eventE; simp only; rw [if_pos ⟨hk, a2⟩, a3]; simp only [hp, Option.getD_some]
  rw [this, hp]
  have := normZ_range r.arg (n := (p.length : Int)) (by omega) (by omega)
  simp only [Option.getD_some]; omega
end Go.Proofs.Ytdpeepljabbcfaa.K

namespace Go.Proofs.Ytdpeepljabbcfaa.K
open Go.Ev
set_option linter.unusedSimpArgs false
set_option linter.unusedVariables false
set_option maxRecDepth 10000
theorem itB_each {f : Env → Store → R3} {s : Env → Store → Option (Env × Store)} {τ : Type} (l : List τ) (E : Nat → Env) (σ : Store) (Q : CExit × Env × Store → Prop)
    (good : ∀ (i : Nat) (x : τ), i < l.length → l[i]? = some x → it1 f s (E i) σ = some (.inl (E (i + 1), σ)))
    (last : ∃ y, it1 f s (E l.length) σ = some (.inr y) ∧ Q y) : ∃ y, itB f s (E 0) σ = some y ∧ Q y := by
  have H := itB_find l E σ (fun _ => true) Q (fun _ _ => False) (fun i x h1 h2 _ => good i x h1 h2) (fun i x _ _ h => by cases h) last
  obtain ⟨y, h1, h2 | ⟨h2, _⟩⟩ := H
  · exact ⟨y, h1, h2.2⟩
  · simp at h2
section
variable {c : Cfg} {x : Lp} {e : Evt}
theorem Ready.cases (h : Ready c x e) : (e.kind = 3 ∧ execR c x e = ⟨⟨x.r0, x.r1, x.procs, w64 (x.sum + e.arg)⟩, [], [], false, true⟩) ∨ (¬ e.kind = 3 ∧ actsE x e = none ∧ execR c x e = ⟨x, [], [], false, true⟩) ∨
    ∃ q, ¬ e.kind = 3 ∧ actsE x e = some q ∧ execR c x e = ⟨endE (runE c x e q), (runE c x e q).out, (runE c x e q).gone, (runE c x e q).over, false⟩ := by
  unfold execR
  by_cases hk : e.kind = 3
  · exact .inl ⟨hk, if_pos hk⟩
  · rw [if_neg hk]
    cases ha : actsE x e with
    | none => exact .inr (.inl ⟨hk, rfl, rfl⟩)
    | some q => exact .inr (.inr ⟨q, hk, rfl, rfl⟩)
theorem Ready.outs (h : Ready c x e) : ∃ X : Ex, X.procs = (execR c x e).lp.procs ∧ (∀ k ev, (execR c x e).out[k]? = some ev → EvOk c e X k ev) ∧
    ∀ k ev ev', (execR c x e).out[k]? = some ev → (execR c x e).out[k + 1]? = some ev' → ∃ m m', ev.key = e.key ++ [m] ∧ ev'.key = e.key ++ [m'] ∧ m < m' := by
  rcases h.cases with ⟨_, hx⟩ | ⟨_, _, hx⟩ | ⟨q, _, ha, hx⟩
  · rw [hx]; exact ⟨beginE x e, rfl, fun k ev hk => by simp at hk, fun k ev ev' hk => by simp at hk⟩
  · rw [hx]; exact ⟨beginE x e, rfl, fun k ev hk => by simp at hk, fun k ev ev' hk => by simp at hk⟩
  · rw [hx]
    obtain ⟨i, p, hi, hq, hpm, hp, hI⟩ := h.inv ha
    exact ⟨runE c x e q, rfl, hI.outs, hI.inc⟩
theorem Ready.gones (h : Ready c x e) : ∀ g ∈ (execR c x e).gone, (execR c x e).over = true ∨ (∃ q, 0 ≤ e.proc ∧ x.procs[e.proc.toNat]? = some q ∧ q.timer = g) ∨ ∃ ev ∈ (execR c x e).out, ev.kind = 2 ∧ ev.key = g := by
  rcases h.cases with ⟨_, hx⟩ | ⟨_, _, hx⟩ | ⟨q, _, ha, hx⟩
  · rw [hx]; intro g hg; simp at hg
  · rw [hx]; intro g hg; simp at hg
  · rw [hx]
    obtain ⟨i, p, hi, hq, hpm, hp, hI⟩ := h.inv ha
    intro g hg
    rcases (hI.gone g hg).2 with k | k | k
    · exact .inl k
    · exact .inr (.inl ⟨q, by omega, by rw [hi, Int.toNat_natCast]; exact hq, k.symm⟩)
    · exact .inr (.inr k)
theorem Ready.state (h : Ready c x e) : x.procs.length ≤ (execR c x e).lp.procs.length ∧ ∀ (j : Nat) (q' : Pr), (execR c x e).lp.procs[j]? = some q' →
    (badP c q' = false ∧ (x.procs.length ≤ j → q'.alive = true ∧ q'.pc = 0) ∧ ∀ q, x.procs[j]? = some q → q'.prog = q.prog ∧ ((j : Int) ≠ e.proc → q' = q)) := by
  have old : ∀ q ∈ x.procs, badP c q = false := by
    intro q hq
    obtain ⟨a, b, d, f, g⟩ := h.proc q hq
    simp only [badP, a, b, d, f, decide_true, Bool.and_self, Bool.not_true]
  rcases h.cases with ⟨_, hx⟩ | ⟨_, _, hx⟩ | ⟨q0, _, ha, hx⟩
  · rw [hx]
    refine ⟨Nat.le_refl _, fun j q' hj => ⟨old q' (List.mem_of_getElem? hj), fun hl => ?_, fun q hq => ?_⟩⟩
    · have := (List.getElem?_eq_some_iff.1 hj).1; simp only at this; omega
    · simp only at hj; rw [hq] at hj; cases hj; exact ⟨rfl, fun _ => rfl⟩
  · rw [hx]
    refine ⟨Nat.le_refl _, fun j q' hj => ⟨old q' (List.mem_of_getElem? hj), fun hl => ?_, fun q hq => ?_⟩⟩
    · have := (List.getElem?_eq_some_iff.1 hj).1; simp only at this; omega
    · simp only at hj; rw [hq] at hj; cases hj; exact ⟨rfl, fun _ => rfl⟩
  · rw [hx]
    obtain ⟨i, p, hi, hq0, hpm, hp, hI⟩ := h.inv ha
    have hlt := (List.getElem?_eq_some_iff.1 hq0).1
    obtain ⟨p1, p2, p3, p4, p5⟩ := h.proc q0 (List.mem_of_getElem? hq0)
    refine ⟨hI.len.1, fun j q' hj => ?_⟩
    change (runE c x e q0).procs[j]? = some q' at hj
    by_cases hji : j = i
    · subst hji
      obtain ⟨q2, b1, b2, b3, b4, b5⟩ := hI.own
      rw [hj] at b1; cases b1
      refine ⟨?_, fun hl => by omega, fun q hq => ?_⟩
      · simp only [badP, b2, b3, b4, hp, p1, p2, Option.getD_some, decide_true, Bool.and_self, Bool.not_true]
      · rw [hq0] at hq; cases hq; exact ⟨b2, fun hne => absurd hi.symm hne⟩
    · by_cases hjl : j < x.procs.length
      · rw [hI.old j hji hjl] at hj
        refine ⟨old q' (List.mem_of_getElem? hj), fun hl => by omega, fun q hq => ?_⟩
        rw [hq] at hj; cases hj; exact ⟨rfl, fun _ => rfl⟩
      · obtain ⟨n1, n2, n3, n4, n5⟩ := hI.new j q' (by omega) hj
        refine ⟨?_, fun _ => ⟨n1, n2⟩, fun q hq => ?_⟩
        · simp [badP, n2, n4, n5]
        · have := (List.getElem?_eq_some_iff.1 hq).1; omega
end
end Go.Proofs.Ytdpeepljabbcfaa.K

namespace Go.Proofs.Ytdpeepljabbcfaa.K
open Go.Ev
theorem isData_array2 {P : Program} {H : Type} {enc : TypeId × Value → H} {t e : TypeId} {sz n : Nat} {τ : Type} {c : τ → List AV} {ok : τ → Prop} (hu : P.underlying t = some (.array 2 e)) (hs : P.cellsOf e = sz) (ht : P.cellsOf t = n) (hn : n = sz + sz) (h : IsData P enc e c ok) :
    IsData P enc t (fun x : τ × τ => c x.1 ++ c x.2) (fun x => ok x.1 ∧ ok x.2) := by
  intro w fuel cs d ps htr
  obtain ⟨xs, m, rfl, _, hl, hx, hall⟩ := DataW.trod_array hu htr
  have h0 := hall 0 (by omega)
  have h1 := hall 1 (by omega)
  rw [List.getElem?_eq_getElem (by omega)] at h0 h1
  obtain ⟨x, k1, k2⟩ := h w m _ _ _ h0
  obtain ⟨y, k3, k4⟩ := h w m _ _ _ h1
  refine ⟨(x, y), ⟨k1, k3⟩, ?_⟩
  have hc : cs = (cs.drop (0 * P.cellsOf e)).take (P.cellsOf e) ++ (cs.drop (1 * P.cellsOf e)).take (P.cellsOf e) := by
    rw [hs, Nat.zero_mul, Nat.one_mul, List.drop_zero]
    rw [ht] at hl
    have : (cs.drop sz).take sz = cs.drop sz := List.take_of_length_le (by simp; omega)
    rw [this, List.take_append_drop]
  rw [hc]
  exact k2.append k4
end Go.Proofs.Ytdpeepljabbcfaa.K
