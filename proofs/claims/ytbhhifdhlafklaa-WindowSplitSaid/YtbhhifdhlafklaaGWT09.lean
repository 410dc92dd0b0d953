/- For every input the statement of this claim returns true: texts of its proof, joined (part 10). -/
import Derived.Test.YtbhhifdhlafklaaGWT06
import Derived.Test.YtbhhifdhlafklaaGWT07
import Derived.Test.YtbhhifdhlafklaaGWT08
set_option linter.unusedSectionVars false
set_option linter.unusedSimpArgs false
set_option linter.unusedVariables false
namespace Go.Proofs.Ytbhhifdhlafklaa.K
open Go.Ev
set_option maxRecDepth 10000
structure WSt where
 lp : Lp
 box : List Evt
 done : List Evt
 sent : List Evt
 over : Bool
def qk9 (i : Int) (p : List Evt × List Evt) (n : Evt) : List Evt × List Evt := if n.lp = i then (qga (n :: p.1), p.2) else (p.1, p.2 ++ [n])
def qev (i : Int) (p : List Evt × List Evt) (l : List Evt) : List Evt × List Evt := l.foldl (qk9 i) p
def qud (b : List Evt) (g : List (List Int)) : List Evt := g.foldl (fun b k => (qg2 b k).1) b
def WSt.step (c : Cfg) (w : WSt) (e : Evt) (rest : List Evt) : WSt :=
 ⟨(qbf c w.lp e).lp, qud (qev e.lp (rest, w.sent) (qbf c w.lp e).out).1 (qbf c w.lp e).gone, w.done ++ [e], (qev e.lp (rest, w.sent) (qbf c w.lp e).out).2, w.over || (qbf c w.lp e).over⟩
def WSt.run (c : Cfg) (hor : Int) : Nat → WSt → WSt
 | 0, w => w
 | k + 1, w => match w.box with
  | [] => w
  | e :: rest => if e.time < hor then WSt.run c hor k (w.step c e rest) else w
theorem q23 (l : List Evt) (k : List Int) : (qg2 l k).1.Sublist l := List.eraseP_sublist
theorem q5h (b : List Evt) (k : List Int) (g : List (List Int)) : qud b (k :: g) = qud (qg2 b k).1 g := rfl
theorem q5s (b : List Evt) (k : List Int) (g : List (List Int)) : qud b (g ++ [k]) = (qg2 (qud b g) k).1 := by unfold qud; rw [List.foldl_append]; rfl
theorem qqm : ∀ (g : List (List Int)) (b : List Evt), (qud b g).Sublist b
 | [], b => List.Sublist.refl _
 | k :: g, b => by rw [q5h]; exact (qqm g _).trans (q23 b k)
theorem qwy (i : Int) (p : List Evt × List Evt) (n : Evt) (l : List Evt) : qev i p (n :: l) = qev i (qk9 i p n) l := rfl
theorem q2y (i : Int) (p : List Evt × List Evt) (n : Evt) (l : List Evt) : qev i p (l ++ [n]) = qk9 i (qev i p l) n := by unfold qev; rw [List.foldl_append]; rfl
theorem qyh (i : Int) (p : List Evt × List Evt) (n : Evt) (l : List Evt) : ((qk9 i p n).1 ++ ((qk9 i p n).2 ++ l)).Perm (p.1 ++ (p.2 ++ n :: l)) := by
 unfold qk9
 split
 ·refine ((qe6 (n :: p.1)).append_right _).trans ?_
  have h := (List.perm_middle (a := n) (l₁ := p.1 ++ p.2) (l₂ := l)).symm
  rw [List.append_assoc, List.append_assoc] at h
  rw [List.cons_append]; exact h
 ·show (p.1 ++ ((p.2 ++ [n]) ++ l)).Perm _
  rw [List.append_assoc]; exact .refl _
theorem qsd (i : Int) : ∀ (l : List Evt) (p : List Evt × List Evt) (m : List Evt), ((qev i p l).1 ++ ((qev i p l).2 ++ m)).Perm (p.1 ++ (p.2 ++ (l ++ m)))
 | [], p, m => .refl _
 | n :: l, p, m => (qsd i l (qk9 i p n) m).trans (qyh i p n (l ++ m))
theorem qs1 (i : Int) : ∀ (l : List Evt) (p : List Evt × List Evt), p.1.Pairwise leE → (qev i p l).1.Pairwise leE
 | [], p, h => h
 | n :: l, p, h => qs1 i l _ (by unfold qk9; split; exact qgr _; exact h)
theorem qzw (i : Int) : ∀ (l : List Evt) (p : List Evt × List Evt), (∀ b ∈ p.1, b.lp = i) → ∀ b ∈ (qev i p l).1, b.lp = i
 | [], p, h => h
 | n :: l, p, h => qzw i l _ (by
  unfold qk9; split
  ·intro b hb
   rcases List.mem_cons.1 ((qe6 _).mem_iff.1 hb) with rfl | hb
   ·assumption
   ·exact h b hb
  ·exact h)
structure PlOk (p : List Evt × List Evt) (l : List Evt) : Prop where
 sorted : p.1.Pairwise leE
 keys : qma (p.1 ++ (p.2 ++ l))
 len : (p.1 ++ (p.2 ++ l)).length ≤ 1000000
 ok : qid (p.1 ++ (p.2 ++ l))
theorem PlOk.next {p : List Evt × List Evt} {n : Evt} {l : List Evt} (i : Int) (h : PlOk p (n :: l)) : PlOk (qk9 i p n) l := by
 have hp := qyh i p n l
 refine ⟨?_, qma.perm h.keys hp, by rw [hp.length_eq]; exact h.len, fun x hx => h.ok x (hp.mem_iff.1 hx)⟩
 unfold qk9; split
 ·exact qgr _
 ·exact h.sorted
theorem PlOk.at (i : Int) : ∀ {l : List Evt} {p : List Evt × List Evt} (h : PlOk p l) (j : Nat), PlOk (qev i p (l.take j)) (l.drop j)
 | [], p, h, j => by simpa [qev] using h
 | n :: l, p, h, 0 => h
 | n :: l, p, h, j + 1 => PlOk.at i (h.next i) j
theorem PlOk.ins {p : List Evt × List Evt} {n : Evt} {l : List Evt} (h : PlOk p (n :: l)) : p.1.length ≤ 1000000 ∧ qid p.1 ∧ n.key.length ≤ 9223372036854775807 ∧ p.1.Pairwise leE ∧ qu6 (n :: p.1) := by
 refine ⟨by have := h.len; rw [List.length_append] at this; omega, fun x hx => h.ok x (by simp [hx]), h.ok n (by simp), h.sorted, ?_⟩
 have hs : (p.1 ++ [n]).Sublist (p.1 ++ (p.2 ++ n :: l)) := List.Sublist.append_left ((List.singleton_sublist.2 (by simp))) p.1
 exact (qma.dist (List.Pairwise.sublist hs h.keys)).perm (List.perm_append_singleton n p.1).symm
structure WInv (c : Cfg) (i : Nat) (w : WSt) (O : List Evt) (S : Sim) (H : List Evt) : Prop where
 K : SInvK c S H
 il : i < c.lps.length
 lp : S.lps[i]? = some w.lp
 sub : ∃ T, (w.box ++ (w.sent ++ (O ++ T))).Perm S.pend
 sorted : w.box.Pairwise leE
 own : ∀ b ∈ w.box, b.lp = i
section
variable {c : Cfg} {i : Nat} {w : WSt} {O : List Evt} {S : Sim} {H : List Evt}
theorem WInv.mem (h : WInv c i w O S H) {e : Evt} (he : e ∈ w.box ∨ e ∈ w.sent ∨ e ∈ O) : e ∈ S.pend := by
 obtain ⟨T, hT⟩ := h.sub
 refine hT.mem_iff.1 ?_
 rcases he with he | he | he <;> simp [he]
theorem WInv.ready (h : WInv c i w O S H) (hn : H.length ≤ 20000) {e : Evt} {rest : List Evt} (hb : w.box = e :: rest) : e.lp = i ∧ Ready c w.lp e ∧ q3u S e.lp = w.lp := by
 have h1 := h.own e (by rw [hb]; simp)
 obtain ⟨x, hx, hl, R⟩ := h.K.headM (h.mem (e := e) (.inl (by rw [hb]; simp))) hn
 rw [h1, Int.toNat_natCast, h.lp] at hx
 cases hx
 exact ⟨h1, R, hl⟩
theorem WInv.len (h : WInv c i w O S H) : w.box.length + (w.sent.length + O.length) ≤ 64 + 16 * H.length := by
 obtain ⟨T, hT⟩ := h.sub
 have := hT.length_eq
 have := h.K.len
 simp only [zgp] at *
 omega
theorem WInv.keyLen (h : WInv c i w O S H) {e : Evt} (he : e ∈ w.box ∨ e ∈ w.sent ∨ e ∈ O) : e.key.length ≤ 2 + H.length := (h.K.ev e (List.mem_append_right _ (h.mem he))).key.2
theorem WInv.plOk (h : WInv c i w O S H) (hn : H.length ≤ 20000) {e : Evt} {rest : List Evt} (hb : w.box = e :: rest) : PlOk (rest, w.sent) (qbf c w.lp e).out := by
 obtain ⟨h1, R, hl⟩ := h.ready hn hb
 obtain ⟨T, hT⟩ := h.sub
 rw [hb] at hT
 have hk := h.K.keyNeP hT.symm hn
 rw [hl] at hk
 have hk2 := (List.pairwise_append.1 hk).2.1
 have hsub : (rest ++ (w.sent ++ (qbf c w.lp e).out)).Sublist (rest ++ (w.sent ++ (O ++ T)) ++ (qbf c w.lp e).out) := by
  rw [List.append_assoc]
  refine List.Sublist.append_left ?_ rest
  rw [List.append_assoc]
  exact List.Sublist.append_left (List.sublist_append_right _ _) _
 have hl1 := h.len
 have hz := R.sizes
 rw [hb] at hl1
 refine ⟨?_, List.Pairwise.sublist hsub hk2, ?_, ?_⟩
 ·have := h.sorted; rw [hb, List.pairwise_cons] at this; exact this.2
 ·simp only [zgp, zga] at hl1 ⊢; omega
 ·intro x hx
  simp only [List.mem_append] at hx
  rcases hx with hx | hx | hx
  ·have := h.keyLen (e := x) (.inl (by rw [hb]; simp [hx])); omega
  ·have := h.keyLen (e := x) (.inr (.inl hx)); omega
  ·have := hz.2.2.2.1 x hx; omega
theorem WInv.step (h : WInv c i w O S H) (hn : H.length ≤ 20000) {e : Evt} {rest : List Evt} (hb : w.box = e :: rest) :
  ∃ S' : Sim, WInv c i (w.step c e rest) O S' (H ++ [e]) ∧ S'.lps = S.lps.set i (w.step c e rest).lp := by
 obtain ⟨h1, R, hl⟩ := h.ready hn hb
 obtain ⟨T, hT⟩ := h.sub
 have hp : S.pend.Perm (e :: (rest ++ (w.sent ++ (O ++ T)))) := by rw [hb] at hT; exact hT.symm
 have hK := h.K.stepP (P := rest ++ (w.sent ++ (O ++ T)) ++ (qbf c w.lp e).out) (T := []) false hp hn (by rw [hl, List.append_nil])
 rw [hl] at hK
 have hi : e.lp.toNat = i := by omega
 refine ⟨_, ⟨hK, h.il, ?_, ?_, ?_, ?_⟩, by rw [hi]; rfl⟩
 ·show (S.lps.set e.lp.toNat (qbf c w.lp e).lp)[i]? = _
  rw [hi, List.getElem?_set_self (by rw [h.K.lpl]; exact h.il)]; rfl
 ·show ∃ T', (qud (qev e.lp (rest, w.sent) (qbf c w.lp e).out).1 (qbf c w.lp e).gone ++ ((qev e.lp (rest, w.sent) (qbf c w.lp e).out).2 ++ (O ++ T'))).Perm (rest ++ (w.sent ++ (O ++ T)) ++ (qbf c w.lp e).out)
  have hs := qqm (qbf c w.lp e).gone (qev e.lp (rest, w.sent) (qbf c w.lp e).out).1
  have hpl := qsd e.lp (qbf c w.lp e).out (rest, w.sent) (O ++ T)
  generalize (qev e.lp (rest, w.sent) (qbf c w.lp e).out).1 = B at *
  generalize (qev e.lp (rest, w.sent) (qbf c w.lp e).out).2 = Z at *
  generalize qud B (qbf c w.lp e).gone = B' at *
  obtain ⟨D, hD⟩ : ∃ D, (B' ++ D).Perm B := by
   clear hpl hK
   induction hs with
   | slnil => exact ⟨[], .refl _⟩
   | cons a _ ih => obtain ⟨D, hD⟩ := ih; exact ⟨a :: D, List.perm_middle.trans (hD.cons a)⟩
   | cons_cons a _ ih => obtain ⟨D, hD⟩ := ih; exact ⟨D, hD.cons a⟩
  refine ⟨D ++ T, ?_⟩
  have e1 : (B' ++ (Z ++ (O ++ (D ++ T)))).Perm ((B' ++ D) ++ (Z ++ (O ++ T))) := by
   rw [List.append_assoc]
   refine List.Perm.append_left B' ?_
   have : (Z ++ (O ++ (D ++ T))) = (Z ++ O) ++ (D ++ T) := by simp
   rw [this]
   refine (List.perm_append_comm_assoc (Z ++ O) D T).trans ?_
   simp
  refine e1.trans ((hD.append_right _).trans (hpl.trans ?_))
  simp only [List.append_assoc]
  refine List.Perm.append_left rest (List.Perm.append_left w.sent ?_)
  refine (List.perm_append_comm (l₁ := (qbf c w.lp e).out) (l₂ := O ++ T)).trans ?_
  simp
 ·have hs := qqm (qbf c w.lp e).gone (qev e.lp (rest, w.sent) (qbf c w.lp e).out).1
  refine List.Pairwise.sublist hs (qs1 _ _ _ ?_)
  have := h.sorted; rw [hb, List.pairwise_cons] at this; exact this.2
 ·intro b hbm
  have hs := qqm (qbf c w.lp e).gone (qev e.lp (rest, w.sent) (qbf c w.lp e).out).1
  have := qzw e.lp (qbf c w.lp e).out (rest, w.sent) (fun b hb' => by rw [h1]; exact h.own b (by rw [hb]; simp [hb'])) b (hs.subset hbm)
  rw [this, h1]
end
set_option maxRecDepth 10000
def qu9 (a b : Int) : Int := if b < a then b else a
def qk6 (bs : List (List Evt)) : List Int := (bs.filterMap List.head?).map Evt.time
def qzh (bs : List (List Evt)) : Option Int := match qk6 bs with
 | [] => none
 | x :: r => some (r.foldl qu9 x)
theorem q2s (bs : List (List Evt)) (b : List Evt) : qk6 (bs ++ [b]) = qk6 bs ++ (b.head?.map Evt.time).toList := by
 unfold qk6
 rw [List.filterMap_append, List.map_append]
 cases b <;> simp
theorem qzg (bs : List (List Evt)) : (qk6 bs).length ≤ bs.length := by
 unfold qk6; rw [List.length_map]; exact List.length_filterMap_le _ _
theorem min_ev (x : Int) (r : List Int) (c : Bool) (h : r.length ≤ 1000) : qa3 (evL T) qda [(.fsl ((x :: r).map qby) c)] = some (ii (r.foldl qu9 x)) := by
 have hL : ∃ y, itB (exec (evL T) itL none qea) (qs [0, 3, 4] true 0) ⟨[(0, (.fsl ((x :: r).map qby) c)), (3, (ii x)), (4, (ii ((1 : Nat))))], []⟩ [] = some y ∧ (y.1 = .exit 0 ∧ y.2.1.marks = [] ∧ y.2.2 = [] ∧ Ev.look y.2.1.vars 3 = some (ii (r.foldl qu9 x))) := by
  have key := qf4 (f := exec (evL T) itL none qea) (s := qs [0, 3, 4] true 0) (α := Int)
   (fun i a => ⟨[(0, (.fsl ((x :: r).map qby) c)), (3, (ii a)), (4, (ii (i + 1 : Nat)))], []⟩) (fun _ _ => []) (fun i a => a = (r.take i).foldl qu9 x) r.length
   (fun y => y.1 = .exit 0 ∧ y.2.1.marks = [] ∧ y.2.2 = [] ∧ Ev.look y.2.1.vars 3 = some (ii (r.foldl qu9 x))) ?_ ?_ 0 x (Nat.zero_le _) rfl
  ·exact key
  ·rintro i a hi rfl
   obtain ⟨v, hv⟩ : ∃ v, r[i]? = some v := ⟨_, List.getElem?_eq_getElem hi⟩
   have hi' : ((i + 1 : Nat) : Int) < ((r.length + 1 : Nat) : Int) := by omega
   have hw : IntKind.i64.wrap (((i + 1 : Nat) : Int) + 1) = ((i + 1 + 1 : Nat) : Int) := by rw [qas (by omega) (by omega)]; simp
   refine .inl ⟨qu9 ((r.take i).foldl qu9 x) v, ?_, ?_⟩
   ·simp only [qea, zgs, zgr, zgq, zgt, qu9, qby, List.map_cons, hv, hi', hw, qw, Ev.exec, qb, qe, qc, qai, Ev.Opnd.ev, Ev.Env.get, Ev.Env.set, Ev.look, qf, qv, qao, ql, qs, Ev.keep, qal, qaf, qg, qba, qm, qh, qd, qak, zgi, ↓qn, Ev.it1, ↓reduceIte, zga, zgb, zge, zfe, zgh, Nat.reduceEqDiff, reduceCtorEq, zgv, zfc, zfa, zgx, zfd, zgy]
   ·rw [List.take_add_one, hv, List.foldl_append]; rfl
  ·rintro a rfl
   rw [List.take_length]
   simp only [qea, qby, List.map_cons, Int.lt_irrefl, Ev.exec, qb, qe, qc, qai, Ev.Opnd.ev, Ev.Env.get, Ev.Env.set, Ev.look, ql, zgi, ↓qn, Ev.it1, ↓reduceIte, zga, Nat.reduceEqDiff, reduceCtorEq, zgw, zfa, zgy]
   exact ⟨_, rfl, rfl, rfl, rfl, rfl⟩
 obtain ⟨⟨y, e, σ⟩, k1, k2, k3, k4, k5⟩ := hL
 simp only at k2 k3 k4 k5
 subst k2; subst k4
 simp only [List.map_cons, qby] at k1
 have c0 : ¬ ((r.length + 1 : Nat) : Int) < 1 := by omega
 have e1 : ((1 : Nat) : Int) = 1 := rfl
 rw [e1] at k1
 rw [qa3, qad qo9 qn8]
 simp only [qgt, qby, List.map_cons, c0, k1, k3, k5, qw, Int.le_refl, Int.toNat_zero, qj, Ev.exec, qb, qe, qc, qai, Ev.Opnd.ev, Ev.Env.get, Ev.Env.set, Ev.look, qk, qf, qv, ql, qi, qq, qaj, Ev.kill, qag, qs, Ev.keep, qal, qaf, qg, qba, qm, qh, qd, qak, qx, zgi, ↓qn, ↓qa4, ↓reduceIte, zga, zgb, zgd, zfe, zgh, Nat.reduceEqDiff, reduceCtorEq, zgw, zfc, zfa, zgx, zfd, zgy]
theorem Floor_ev (bs : List (List Evt)) (c : Bool) (h : bs.length ≤ 1000) : qa3 (evL T) qet [(.fsl ((bs).map qcp) c)] = some (.tup [(ii (((qzh bs).getD 0))), (bb (((qzh bs).isSome)))]) := by
 have hL : ∃ y, itB (exec (evL T) itL none qf0) (qs [4, 7, 8, 9] true 1) ⟨[(4, .sl 0 0 0 0 false), (7, (.fsl ((bs).map qcp) c)), (8, (ii bs.length)), (9, (ii ((0 : Nat))))], []⟩ [.row 1 [] 0] = some y ∧
   ∃ g : Nat, y.1 = .exit 0 ∧ y.2.1.marks = [] ∧ y.2.2 = [.row 1 ((qk6 bs).map qby) g] ∧ Ev.look y.2.1.vars 4 = some (.sl 0 g 0 (qk6 bs).length false) := by
  have key := qf4 (f := exec (evL T) itL none qf0) (s := qs [4, 7, 8, 9] true 1) (α := List Int × Nat)
   (fun i a => ⟨[(4, .sl 0 a.2 0 a.1.length false), (7, (.fsl ((bs).map qcp) c)), (8, (ii bs.length)), (9, (ii i))], []⟩) (fun _ a => [.row 1 (a.1.map qby) a.2]) (fun i a => a.1 = qk6 (bs.take i)) bs.length
   (fun y => ∃ g : Nat, y.1 = .exit 0 ∧ y.2.1.marks = [] ∧ y.2.2 = [.row 1 ((qk6 bs).map qby) g] ∧ Ev.look y.2.1.vars 4 = some (.sl 0 g 0 (qk6 bs).length false)) ?_ ?_ 0 ([], 0) (Nat.zero_le _) rfl
  ·exact key
  ·rintro i ⟨l, g⟩ hi hl
   simp only at hl ⊢
   obtain ⟨v, hv⟩ : ∃ v, bs[i]? = some v := ⟨_, List.getElem?_eq_getElem hi⟩
   have hi' : (i : Int) < (bs.length : Int) := by omega
   have hw : IntKind.i64.wrap ((i : Int) + 1) = ((i + 1 : Nat) : Int) := by rw [qas (by omega) (by omega)]; simp
   have hf : qk6 (bs.take (i + 1)) = qk6 (bs.take i) ++ (v.head?.map Evt.time).toList := by rw [List.take_add_one, hv]; exact q2s _ _
   have hll : l.length ≤ 1000 := by rw [hl]; have := qzg (bs.take i); have := List.length_take_le i bs; omega
   cases v with
   | nil =>
    refine .inl ⟨(l, g), ?_, by simp only; rw [hf, hl]; exact (List.append_nil _).symm⟩
    simp only [qf0, zgs, zgr, zgq, zgt, hv, hi', hw, qcp, List.map_nil, gt_iff_lt, Int.lt_irrefl, qjr, qw, Ev.exec, qb, qe, qc, qai, Ev.Opnd.ev, Ev.Env.get, Ev.Env.set, Ev.look, qf, qv, qao, ql, qbh, qs, Ev.keep, qal, qaf, qg, Ev.SObj.lo, qba, qm, qdq, ↓qn, Ev.it1, ↓reduceIte, zga, zgb, zgc, zfe, zgh, Nat.reduceEqDiff, Int.cast_ofNat_Int, zgv, zgw, zfc, zfa, zgx, zfd, zgu, zgy]
   | cons e r =>
    refine .inl ⟨(l ++ [e.time], g + 1), ?_, by simp only; rw [hf, hl]; rfl⟩
    have c1 : ((r.length + 1 : Nat) : Int) > 0 := by omega
    have b : (l.length + 1) * 8 ≤ 140737488355328 := by omega
    have tk : List.take l.length (l.map qby) = l.map qby := List.take_of_length_le (by simp)
    have lo := qw 1 (l ++ [e.time])
    have hle : l.length ≤ l.length := Nat.le_refl _
    rw [List.map_append] at lo
    simp only [List.map_cons, List.map_nil, qby] at lo
    obtain ⟨et, ek, el, ei, ep, ea⟩ := e
    simp only [List.map_append, zgp, List.map_cons, List.map_nil, qby] at lo ⊢
    simp only [qf0, zgs, zgr, zgq, zgt, hv, hi', hw, c1, b, tk, lo, hle, qcp, Evt.r, List.map_cons, Int.le_refl, Int.toNat_zero, qjr, Ev.exec, qb, qe, qc, qai, qm5, Ev.Opnd.ev, Ev.Env.get, Ev.Env.set, Ev.look, qf, qbq, qv, qfk, Ev.AV.cells, Ev.AV.uc, qo, Ev.AV.plain, qao, ql, qbh, qs, Ev.keep, qal, qaf, qg, Ev.SObj.lo, qba, qm, qdq, qbc, qbg, List.replicate_one, zgi, ↓qn, Ev.it1, ↓reduceIte, zga, zgb, zgd, zgc, zfe, zgg, zgj, zgh, Nat.reduceAdd, Nat.reduceEqDiff, Nat.reduceMul, Nat.reduceLeDiff, Nat.reducePow, zgv, zfc, zfa, zgx, ne_eq, zfb, zff, zfd, zgu, zgy]
  ·rintro ⟨l, g⟩ hl
   rw [List.take_length] at hl
   simp only at hl ⊢
   simp only [qf0, Int.lt_irrefl, Ev.exec, qb, qe, qc, qai, Ev.Opnd.ev, Ev.Env.get, Ev.Env.set, Ev.look, ql, ↓qn, Ev.it1, ↓reduceIte, Nat.reduceEqDiff, zgw, zfa, zgy]
   exact ⟨_, rfl, g, rfl, rfl, by rw [hl], by rw [hl]; rfl⟩
 obtain ⟨⟨y, e, σ⟩, k1, g, k2, k3, k4, k5⟩ := hL
 simp only [Int.ofNat_zero] at k1 k2 k3 k4 k5
 subst k2; subst k4
 have hfl := qzg bs
 unfold qzh
 rw [qa3, qad qv1 qtq]
 cases hf : qk6 bs with
 | nil =>
  rw [hf] at k1 k5
  simp only [List.map_nil, zgb] at k1 k5
  simp only [qju, k1, k3, k5, qjr, Option.getD_none, qj, Ev.exec, qb, qe, qc, qai, Ev.Opnd.ev, Ev.Env.get, Ev.Env.set, Ev.look, qk, qar, qi, qq, qaj, Ev.kill, qag, qs, Ev.keep, qal, qaf, qg, Ev.SObj.lo, qba, qb0, qm, qdq, qh, qd, qu, qx, zgi, ↓qn, ↓qa4, ↓reduceIte, zga, zgb, zgc, zgo, zfe, zgl, Nat.reduceEqDiff, Int.cast_ofNat_Int, reduceCtorEq, zgv, zfc, zgx, zfd, zgu, Option.isSome_none, zgy]
 | cons x r =>
  rw [hf] at k1 k5 hfl
  have hm := min_ev x r false (by simp at hfl; omega)
  have c0 : ¬ ((r.length + 1 : Nat) : Int) = 0 := by omega
  have tk : List.take (r.length + 1) ((x :: r).map qby) = (x :: r).map qby := List.take_of_length_le (by simp)
  have hln : ((x :: r).map qby).length = r.length + 1 := by simp
  have hlo : qiu 0 ((x :: r).map qby) = true := qw _ _
  simp only [zga] at k1 k5
  generalize (x :: r).map qby = R at *
  simp only [qju, k1, k3, k5, c0, tk, hln, hlo, hm, qjr, Nat.le_refl, Option.getD_some, qj, Ev.exec, qb, qe, qc, qav, qai, Ev.evs, Ev.Opnd.ev, Ev.Env.get, Ev.Env.set, Ev.look, qk, qar, qi, qq, qaj, Ev.kill, qag, qs, Ev.keep, qal, qaf, qg, Ev.SObj.lo, qba, qb0, qm, qdq, qh, qd, qu, qx, zgi, ↓qn, ↓qa4, ↓reduceIte, zga, zgb, zgd, zgc, zgo, zfe, zgg, zgl, zgj, Nat.reduceEqDiff, reduceCtorEq, zgv, zgw, zfc, zfa, zgx, zfd, zgu, Nat.le_refl, Option.isSome_some, zgy]
theorem q54 (c : Cfg) (f : Int) (hf : 0 ≤ f ∧ f ≤ 1152921504606846976) (hl : 0 ≤ c.look ∧ c.look ≤ 9223372036854775807) (hF : 0 ≤ c.fin ∧ c.fin ≤ 1152921504606846976) : qa3 (evL T) qdw [(.agg [(.fsl ((c.lps).map lpC) false), (.fsl ((c.progs).map qcf) false), (ii c.look), (ii c.fin), (ii c.cap)]), (ii f)] = some (ii (f + qu9 c.look (c.fin - f))) := by
 have w1 : IntKind.i64.wrap (c.fin - f) = c.fin - f := qas (by omega) (by omega)
 have w2 : IntKind.i64.wrap (f + qu9 c.look (c.fin - f)) = f + qu9 c.look (c.fin - f) := by
  unfold qu9; split <;> exact qas (by omega) (by omega)
 unfold qu9 at w2 ⊢
 rw [qa3, qad qte qsa]
 simp only [qj3, w1, w2, qj, Ev.exec, qb, qe, qc, qai, Ev.Opnd.ev, Ev.Env.get, Ev.Env.set, Ev.look, qk, qf, qv, Ev.AV.cells, qo, Ev.AV.plain, qao, qsf, qi, qq, qaj, Ev.kill, qag, qg, qba, qx, ↓qn, ↓reduceIte, zga, zgb, zfe, zgf, zgg, zgh, Nat.reduceAdd, Nat.reduceEqDiff, reduceCtorEq, zfc, zfa, zgx, ne_eq, zfb, zff, zfd, zgy]
set_option maxRecDepth 10000
section
variable {c : Cfg} {x : Lp} {e : Evt}
theorem q0u (hp : x.procs = []) : qlc x e = none := by
 unfold qlc
 rw [hp]; simp
theorem qxq (hp : x.procs = []) : (qbf c x e).lp.procs = [] := by
 unfold qbf
 split
 ·exact hp
 ·rw [q0u hp]; exact hp
theorem Exec_evF (h : Ready c x e) (f : Bool) (hf : f = true → x.procs = []) : qa3 (evL T) qdp [(.agg [(.fsl ((c.lps).map lpC) false), (.fsl ((c.progs).map qcf) false), (ii c.look), (ii c.fin), (ii c.cap)]), (.agg [(ii x.r0), (ii x.r1), (.fsl ((x.procs).map Pr.r) f), (ii x.sum)]), (.agg [(ii e.time), (.fsl ((e.key).map qby) false), (ii e.lp), (ii e.kind), (ii e.proc), (ii e.arg)])] = some (.tup [(.agg [(ii ((qbf c x e).lp.r0)), (ii ((qbf c x e).lp.r1)), (.fsl (((qbf c x e).lp.procs).map Pr.r) f), (ii ((qbf c x e).lp.sum))]), (.fsl (((qbf c x e).out).map Evt.r) (qbf c x e).nil), (.fsl (((qbf c x e).gone).map qep) (qbf c x e).nil), (bb ((qbf c x e).over))]) := by
 cases f with
 | false => exact Exec_ev h
 | true =>
  have hp := hf rfl
  unfold qbf
  rw [qa3, qad qj5 qjk]
  rw [q0u hp]
  by_cases hk : e.kind = 3
  ·rw [if_pos hk]
   simp only [qbr, hk, hp, List.map_nil, qj, Ev.exec, qb, qe, qc, qai, Ev.Opnd.ev, Ev.Env.get, Ev.Env.set, Ev.look, qk, qf, qv, Ev.AV.cells, Ev.AV.uc, qo, Ev.AV.plain, qao, qar, qi, qq, qaj, Ev.kill, qag, qg, qba, qa2, qb0, qm, qh, qd, qu, qx, ↓qn, ↓reduceIte, zga, zgb, zgd, zge, zgc, zgo, zfe, zgf, zgg, List.drop_nil, zgm, zgl, zgn, zgj, zgk, zgh, Nat.reduceAdd, Nat.reduceEqDiff, reduceCtorEq, zgv, zfc, zfa, zgx, ne_eq, zfb, zff, zfd, Nat.le_refl, zgy]
  rw [if_neg hk]
  by_cases h1 : e.proc < 0
  ·by_cases k1 : e.kind = 1
   ·simp only [qbr, k1, h1, hp, List.map_nil, qj, Ev.exec, qb, qe, qc, qai, Ev.Opnd.ev, Ev.Env.get, Ev.Env.set, Ev.Env.unset, Ev.look, qk, qf, qv, Ev.AV.cells, qo, Ev.AV.plain, qar, qbe, ql, qi, qq, qaj, Ev.kill, qag, qg, qba, qa2, qb0, qm, qh, qd, qu, qx, ↓qn, ↓reduceIte, zga, zgb, zgd, zge, zgc, zgo, zfe, zgf, zgg, List.drop_nil, zgm, zgl, zgn, zgj, zgk, zgh, Nat.reduceAdd, Nat.reduceEqDiff, Int.reduceEq, reduceCtorEq, zgv, zgw, zfc, zfa, zgx, ne_eq, zfb, not_true_eq_false, zff, zfd, Nat.le_refl, zgy]
   by_cases k2 : e.kind = 2
   ·simp only [qbr, k2, h1, hp, List.map_nil, qj, Ev.exec, qb, qe, qc, qai, Ev.Opnd.ev, Ev.Env.get, Ev.Env.set, Ev.look, qk, qf, qv, Ev.AV.cells, qo, Ev.AV.plain, qar, qbe, ql, qi, qq, qaj, Ev.kill, qag, qg, qba, qa2, qb0, qm, qh, qd, qu, qx, ↓qn, ↓reduceIte, zga, zgb, zgd, zge, zgc, zgo, zfe, zgf, zgg, List.drop_nil, zgm, zgl, zgn, zgj, zgk, zgh, Nat.reduceAdd, Nat.reduceEqDiff, Int.reduceEq, reduceCtorEq, zgv, zgw, zfc, zfa, zgx, ne_eq, zfb, not_true_eq_false, zff, zfd, Nat.le_refl, zgy]
   ·simp only [qbr, hk, k1, k2, hp, List.map_nil, qj, Ev.exec, qb, qe, qc, qai, Ev.Opnd.ev, Ev.Env.get, Ev.Env.set, Ev.look, qk, qf, qv, Ev.AV.cells, qo, Ev.AV.plain, qar, qbe, qi, qq, qaj, Ev.kill, qag, qg, qba, qa2, qb0, qm, qh, qd, qu, qx, ↓qn, ↓reduceIte, zga, zgb, zgd, zge, zgc, zgo, zfe, zgf, zgg, List.drop_nil, zgm, zgl, zgn, zgj, zgk, zgh, Nat.reduceAdd, Nat.reduceEqDiff, reduceCtorEq, zgv, zgw, zfc, zfa, zgx, ne_eq, zfb, zff, zfd, Nat.le_refl, zgy]
  have h2 : e.proc ≥ ((0 : Nat) : Int) := by omega
  have h2' : e.proc ≥ 0 := by omega
  ·by_cases k1 : e.kind = 1
   ·simp only [qbr, k1, h1, h2', hp, List.map_nil, qj, Ev.exec, qb, qe, qc, qai, Ev.Opnd.ev, Ev.Env.get, Ev.Env.set, Ev.Env.unset, Ev.look, qk, qf, qv, Ev.AV.cells, qo, Ev.AV.plain, qar, qbe, ql, qbu, qi, qq, qaj, Ev.kill, qag, qg, qba, qa2, qb0, qm, qh, qd, qu, qx, ↓qn, ↓reduceIte, zga, zgb, zgd, zge, zgc, zgo, zfe, zgf, zgg, List.drop_nil, zgm, zgl, zgn, zgj, zgk, zgh, Nat.reduceAdd, Nat.reduceEqDiff, Int.reduceEq, Int.cast_ofNat_Int, reduceCtorEq, zgv, zgw, zfc, zfa, zgx, ne_eq, zfb, not_true_eq_false, zff, zfd, Nat.le_refl, zgy]
   by_cases k2 : e.kind = 2
   ·simp only [qbr, k2, h1, h2', hp, List.map_nil, qj, Ev.exec, qb, qe, qc, qai, Ev.Opnd.ev, Ev.Env.get, Ev.Env.set, Ev.look, qk, qf, qv, Ev.AV.cells, qo, Ev.AV.plain, qar, qbe, ql, qbu, qi, qq, qaj, Ev.kill, qag, qg, qba, qa2, qb0, qm, qh, qd, qu, qx, ↓qn, ↓reduceIte, zga, zgb, zgd, zge, zgc, zgo, zfe, zgf, zgg, List.drop_nil, zgm, zgl, zgn, zgj, zgk, zgh, Nat.reduceAdd, Nat.reduceEqDiff, Int.reduceEq, Int.cast_ofNat_Int, reduceCtorEq, zgv, zgw, zfc, zfa, zgx, ne_eq, zfb, not_true_eq_false, zff, zfd, Nat.le_refl, zgy]
   ·simp only [qbr, hk, k1, k2, hp, List.map_nil, qj, Ev.exec, qb, qe, qc, qai, Ev.Opnd.ev, Ev.Env.get, Ev.Env.set, Ev.look, qk, qf, qv, Ev.AV.cells, qo, Ev.AV.plain, qar, qbe, qi, qq, qaj, Ev.kill, qag, qg, qba, qa2, qb0, qm, qh, qd, qu, qx, ↓qn, ↓reduceIte, zga, zgb, zgd, zge, zgc, zgo, zfe, zgf, zgg, List.drop_nil, zgm, zgl, zgn, zgj, zgk, zgh, Nat.reduceAdd, Nat.reduceEqDiff, reduceCtorEq, zgv, zgw, zfc, zfa, zgx, ne_eq, zfb, zff, zfd, Nat.le_refl, zgy]
theorem q77 (h : Ready c x e) (f : Bool) (hf : f = true → x.procs = []) : qa3 (evL T) qeu [(.agg [(.fsl ((c.lps).map lpC) false), (.fsl ((c.progs).map qcf) false), (ii c.look), (ii c.fin), (ii c.cap)]), (.agg [(ii x.r0), (ii x.r1), (.fsl ((x.procs).map Pr.r) f), (ii x.sum)]), (.agg [(ii e.time), (.fsl ((e.key).map qby) false), (ii e.lp), (ii e.kind), (ii e.proc), (ii e.arg)])] = some (.tup [(.agg [(ii ((qbf c x e).lp.r0)), (ii ((qbf c x e).lp.r1)), (.fsl (((qbf c x e).lp.procs).map Pr.r) f), (ii ((qbf c x e).lp.sum))]), (.fsl (((qbf c x e).out).map Evt.r) (qbf c x e).nil), (.fsl (((qbf c x e).gone).map qep) (qbf c x e).nil), (bb ((qbf c x e).over))]) := by
 cases f with
 | false => exact RExec_ev h
 | true =>
  have hp := hf rfl
  unfold qbf
  rw [qa3, qad qk1 qkn]
  rw [q0u hp]
  by_cases hk : e.kind = 3
  ·rw [if_pos hk]
   simp only [qb1, hk, hp, List.map_nil, Nat.reduceLeDiff, qj, Ev.exec, qb, qe, qc, qai, Ev.Opnd.ev, Ev.Env.get, Ev.Env.set, Ev.look, qk, qf, qv, qfz, Ev.AV.cells, Ev.AV.uc, qo, Ev.AV.plain, qao, qar, qi, qq, qaj, Ev.kill, qag, qg, qba, qa2, qb0, qm, qh, qd, qu, qx, ↓qn, ↓reduceIte, zga, zgb, zgd, zge, zgc, zgo, zfe, zgf, zgg, List.drop_nil, zgm, zgl, zgn, zgj, zgk, zgh, Nat.reduceAdd, Nat.reduceEqDiff, Nat.reduceLeDiff, reduceCtorEq, zgv, zfc, zfa, zgx, ne_eq, zfb, zff, zfd, Nat.add_zero, Nat.le_refl, zgy]
  rw [if_neg hk]
  by_cases h1 : e.proc < 0
  ·by_cases k1 : e.kind = 1
   ·simp only [qb1, k1, h1, hp, List.map_nil, Nat.reduceLeDiff, qj, Ev.exec, qb, qe, qc, qai, Ev.Opnd.ev, Ev.Env.get, Ev.Env.set, Ev.Env.unset, Ev.look, qk, qf, qv, qfz, Ev.AV.cells, qo, Ev.AV.plain, qar, qbe, ql, qi, qq, qaj, Ev.kill, qag, qg, qba, qa2, qb0, qm, qh, qd, qu, qx, ↓qn, ↓reduceIte, zga, zgb, zgd, zge, zgc, zgo, zfe, zgf, zgg, List.drop_nil, zgm, zgl, zgn, zgj, zgk, zgh, Nat.reduceAdd, Nat.reduceEqDiff, Nat.reduceLeDiff, Int.reduceEq, reduceCtorEq, zgv, zgw, zfc, zfa, Bool.true_eq_false, zgx, ne_eq, zfb, not_true_eq_false, zff, zfd, Nat.le_refl, zgy]
   by_cases k2 : e.kind = 2
   ·simp only [qb1, k2, h1, hp, List.map_nil, Nat.reduceLeDiff, qj, Ev.exec, qb, qe, qc, qai, Ev.Opnd.ev, Ev.Env.get, Ev.Env.set, Ev.Env.unset, Ev.look, qk, qf, qv, qfz, Ev.AV.cells, qo, Ev.AV.plain, qar, qbe, ql, qi, qq, qaj, Ev.kill, qag, qg, qba, qa2, qb0, qm, qh, qd, qu, qx, ↓qn, ↓reduceIte, zga, zgb, zgd, zge, zgc, zgo, zfe, zgf, zgg, List.drop_nil, zgm, zgl, zgn, zgj, zgk, zgh, Nat.reduceAdd, Nat.reduceEqDiff, Nat.reduceLeDiff, Int.reduceEq, reduceCtorEq, zgv, zgw, zfc, zfa, Bool.true_eq_false, zgx, ne_eq, zfb, not_true_eq_false, zff, zfd, Nat.le_refl, zgy]
   ·simp only [qb1, hk, k1, k2, hp, List.map_nil, Nat.reduceLeDiff, qj, Ev.exec, qb, qe, qc, qai, Ev.Opnd.ev, Ev.Env.get, Ev.Env.set, Ev.Env.unset, Ev.look, qk, qf, qv, qfz, Ev.AV.cells, qo, Ev.AV.plain, qar, qbe, qi, qq, qaj, Ev.kill, qag, qg, qba, qa2, qb0, qm, qh, qd, qu, qx, ↓qn, ↓reduceIte, zga, zgb, zgd, zge, zgc, zgo, zfe, zgf, zgg, List.drop_nil, zgm, zgl, zgn, zgj, zgk, zgh, Nat.reduceAdd, Nat.reduceEqDiff, Nat.reduceLeDiff, reduceCtorEq, zgv, zgw, zfc, zfa, Bool.true_eq_false, zgx, ne_eq, zfb, zff, zfd, Nat.le_refl, zgy]
  have h2 : e.proc ≥ ((0 : Nat) : Int) := by omega
  have h2' : e.proc ≥ 0 := by omega
  ·by_cases k1 : e.kind = 1
   ·simp only [qb1, k1, h1, h2', hp, List.map_nil, Nat.reduceLeDiff, qj, Ev.exec, qb, qe, qc, qai, Ev.Opnd.ev, Ev.Env.get, Ev.Env.set, Ev.Env.unset, Ev.look, qk, qf, qv, qfz, Ev.AV.cells, qo, Ev.AV.plain, qar, qbe, ql, qbu, qi, qq, qaj, Ev.kill, qag, qg, qba, qa2, qb0, qm, qh, qd, qu, qx, ↓qn, ↓reduceIte, zga, zgb, zgd, zge, zgc, zgo, zfe, zgf, zgg, List.drop_nil, zgm, zgl, zgn, zgj, zgk, zgh, Nat.reduceAdd, Nat.reduceEqDiff, Nat.reduceLeDiff, Int.reduceEq, Int.cast_ofNat_Int, reduceCtorEq, zgv, zgw, zfc, zfa, Bool.true_eq_false, zgx, ne_eq, zfb, not_true_eq_false, zff, zfd, Nat.le_refl, zgy]
   by_cases k2 : e.kind = 2
   ·simp only [qb1, k2, h1, h2', hp, List.map_nil, Nat.reduceLeDiff, qj, Ev.exec, qb, qe, qc, qai, Ev.Opnd.ev, Ev.Env.get, Ev.Env.set, Ev.Env.unset, Ev.look, qk, qf, qv, qfz, Ev.AV.cells, qo, Ev.AV.plain, qar, qbe, ql, qbu, qi, qq, qaj, Ev.kill, qag, qg, qba, qa2, qb0, qm, qh, qd, qu, qx, ↓qn, ↓reduceIte, zga, zgb, zgd, zge, zgc, zgo, zfe, zgf, zgg, List.drop_nil, zgm, zgl, zgn, zgj, zgk, zgh, Nat.reduceAdd, Nat.reduceEqDiff, Nat.reduceLeDiff, Int.reduceEq, Int.cast_ofNat_Int, reduceCtorEq, zgv, zgw, zfc, zfa, Bool.true_eq_false, zgx, ne_eq, zfb, not_true_eq_false, zff, zfd, Nat.le_refl, zgy]
   ·simp only [qb1, hk, k1, k2, hp, List.map_nil, Nat.reduceLeDiff, qj, Ev.exec, qb, qe, qc, qai, Ev.Opnd.ev, Ev.Env.get, Ev.Env.set, Ev.Env.unset, Ev.look, qk, qf, qv, qfz, Ev.AV.cells, qo, Ev.AV.plain, qar, qbe, qi, qq, qaj, Ev.kill, qag, qg, qba, qa2, qb0, qm, qh, qd, qu, qx, ↓qn, ↓reduceIte, zga, zgb, zgd, zge, zgc, zgo, zfe, zgf, zgg, List.drop_nil, zgm, zgl, zgn, zgj, zgk, zgh, Nat.reduceAdd, Nat.reduceEqDiff, Nat.reduceLeDiff, reduceCtorEq, zgv, zgw, zfc, zfa, Bool.true_eq_false, zgx, ne_eq, zfb, zff, zfd, Nat.le_refl, zgy]
end
set_option maxRecDepth 10000
section
variable {c : Cfg} {e : Evt} (R0 X4 X5 X6 X7 X8 X9 : SObj) (dn : List Evt) (g1 : Nat) (x : Lp) (o f : Bool)
theorem exec_l1 (h0 : R0.lo 10 = true) (h4 : X4.lo 10 = true) (h5 : X5.lo 10 = true) (h6 : X6.lo 10 = true) (h7 : X7.lo 10 = true) (h8 : X8.lo 10 = true) (h9 : X9.lo 10 = true) (out : List Evt) (co : Bool) (p : List Evt × List Evt) (g2 : Nat) (hP : PlOk p out) (v8 : AV) (hv8 : v8.lo 10 = true) :
  ∃ y, itB (exec (evL T) itL none qcr) (qs [0, 5, 8, 50, 51, 52] true 10) ⟨[(0, .ptr 3 0 0 0), (5, (.fptr [(ii e.time), (.fsl ((e.key).map qby) false), (ii e.lp), (ii e.kind), (ii e.proc), (ii e.arg)])), (8, v8), (50, (.fsl ((out).map Evt.r) co)), (51, (ii out.length)), (52, (ii ((0 : Nat))))], []⟩ (R0 :: .row 6 ((dn).map Evt.r) g1 :: .row 6 ((p.2).map Evt.r) g2 :: .row 8 [[(ii ((x).r0)), (ii ((x).r1)), (.fsl (((x).procs).map Pr.r) f), (ii ((x).sum)), (.fsl ((p.1).map Evt.r) false), .sl 1 g1 0 (dn).length false, .sl 2 g2 0 (p.2).length false, (bb o)]] 0 :: [X4, X5, X6, X7, X8, X9]) = some y ∧
   ∃ g2' : Nat, y.1 = .exit 0 ∧ y.2.1.marks = [] ∧ y.2.2 = (R0 :: .row 6 ((dn).map Evt.r) g1 :: .row 6 (((qev e.lp p out).2).map Evt.r) g2' :: .row 8 [[(ii ((x).r0)), (ii ((x).r1)), (.fsl (((x).procs).map Pr.r) f), (ii ((x).sum)), (.fsl (((qev e.lp p out).1).map Evt.r) false), .sl 1 g1 0 (dn).length false, .sl 2 g2' 0 ((qev e.lp p out).2).length false, (bb o)]] 0 :: [X4, X5, X6, X7, X8, X9]) ∧ Ev.look y.2.1.vars 0 = some (.ptr 3 0 0 0) ∧ Ev.look y.2.1.vars 8 = some v8 := by
 simp only [SObj.lo] at h0 h4 h5 h6 h7 h8 h9
 have key := qf4 (f := exec (evL T) itL none qcr) (s := qs [0, 5, 8, 50, 51, 52] true 10) (α := (List Evt × List Evt) × Nat)
  (fun i a => ⟨[(0, .ptr 3 0 0 0), (5, (.fptr [(ii e.time), (.fsl ((e.key).map qby) false), (ii e.lp), (ii e.kind), (ii e.proc), (ii e.arg)])), (8, v8), (50, (.fsl ((out).map Evt.r) co)), (51, (ii out.length)), (52, (ii i))], []⟩) (fun _ a => (R0 :: .row 6 ((dn).map Evt.r) g1 :: .row 6 ((a.1.2).map Evt.r) a.2 :: .row 8 [[(ii ((x).r0)), (ii ((x).r1)), (.fsl (((x).procs).map Pr.r) f), (ii ((x).sum)), (.fsl ((a.1.1).map Evt.r) false), .sl 1 g1 0 (dn).length false, .sl 2 a.2 0 (a.1.2).length false, (bb o)]] 0 :: [X4, X5, X6, X7, X8, X9])) (fun i a => a.1 = qev e.lp p (out.take i)) out.length
  (fun y => ∃ g2' : Nat, y.1 = .exit 0 ∧ y.2.1.marks = [] ∧ y.2.2 = (R0 :: .row 6 ((dn).map Evt.r) g1 :: .row 6 (((qev e.lp p out).2).map Evt.r) g2' :: .row 8 [[(ii ((x).r0)), (ii ((x).r1)), (.fsl (((x).procs).map Pr.r) f), (ii ((x).sum)), (.fsl (((qev e.lp p out).1).map Evt.r) false), .sl 1 g1 0 (dn).length false, .sl 2 g2' 0 ((qev e.lp p out).2).length false, (bb o)]] 0 :: [X4, X5, X6, X7, X8, X9]) ∧ Ev.look y.2.1.vars 0 = some (.ptr 3 0 0 0) ∧ Ev.look y.2.1.vars 8 = some v8) ?_ ?_ 0 (p, g2) (Nat.zero_le _) rfl
 ·exact key
 ·rintro i ⟨⟨b, s⟩, g⟩ hi hbs
  simp only at hbs ⊢
  obtain ⟨n, hn⟩ : ∃ n, out[i]? = some n := ⟨_, List.getElem?_eq_getElem hi⟩
  have hA := PlOk.at e.lp hP i
  rw [← hbs, show out.drop i = n :: out.drop (i + 1) by rw [List.drop_eq_getElem_cons hi]; rw [List.getElem?_eq_getElem hi] at hn; cases hn; rfl] at hA
  have hlen := hP.len
  simp only [zgp] at hlen
  have hi' : (i : Int) < (out.length : Int) := by omega
  have hw : IntKind.i64.wrap ((i : Int) + 1) = ((i + 1 : Nat) : Int) := by rw [qas (by omega) (by omega)]; simp
  have hnx : qev e.lp p (out.take (i + 1)) = qk9 e.lp (b, s) n := by rw [List.take_add_one, hn, hbs]; exact q2y _ _ _ _
  obtain ⟨i1, i2, i3, i4, i5⟩ := hA.ins
  have hsl := hA.len
  simp only [zgp] at hsl
  obtain ⟨et, ek, el, ei, ep, ea⟩ := e
  unfold qk9 at hnx
  by_cases hlp : n.lp = el
  ·refine .inl ⟨((qga (n :: b), s), g), ?_, by simp only; rw [hnx, if_pos hlp]⟩
   have hI := qvv b false n i1 i2 i3 i4 i5
   obtain ⟨nt, nk, nl, ni, np, na⟩ := n
   simp only at hlp
   subst hlp
   generalize qga (⟨nt, nk, nl, ni, np, na⟩ :: b) = B at *
   simp only at hI
   simp only [qcr, zgs, zgr, zgq, zgt, hn, hi', hw, hI, h0, h4, h5, h6, h7, h8, h9, hv8, Evt.r, qaa, qw, qae, Ev.exec, qb, qe, qc, qav, qai, Ev.evs, Ev.Opnd.ev, Ev.Env.get, Ev.Env.set, Ev.look, qf, qv, Ev.AV.cells, Ev.AV.uc, qo, Ev.AV.plain, qao, qar, ql, qs, Ev.keep, qal, qaf, qg, Ev.SObj.lo, qba, qa2, qm, qbm, qdq, qg6, qh, qd, qu, qak, ↓qn, Ev.it1, ↓reduceIte, zga, zgb, zgd, zge, zgc, zgo, zfe, zgf, zgg, List.drop_nil, zgm, zgl, zgn, zgj, zgk, zgh, Nat.reduceAdd, Nat.reduceEqDiff, Nat.reduceLT, Nat.reduceLeDiff, reduceCtorEq, zgv, zfc, zfa, zgx, ne_eq, zfb, zff, zfd, Nat.le_refl, zgy]
  ·refine .inl ⟨((b, s ++ [n]), g + 1), ?_, by simp only; rw [hnx, if_neg hlp]⟩
   have bd : (s.length + 1) * 64 ≤ 140737488355328 := by omega
   have tk : List.take s.length (s.map Evt.r) = s.map Evt.r := List.take_of_length_le (by simp)
   have lo := qaa 10 (s ++ [n])
   have hle : s.length ≤ s.length := Nat.le_refl _
   obtain ⟨nt, nk, nl, ni, np, na⟩ := n
   simp only at hlp
   rw [List.map_append] at lo
   simp only [List.map_append, zgp, List.map_cons, List.map_nil, Evt.r] at lo ⊢
   simp only [qcr, zgs, zgr, zgq, zgt, hn, hi', hw, hlp, bd, tk, lo, hle, h0, h4, h5, h6, h7, h8, h9, hv8, Evt.r, qaa, qw, qae, Ev.exec, qb, qe, qc, qai, qm5, Ev.Opnd.ev, Ev.Env.get, Ev.Env.set, Ev.look, qf, qbq, qv, qfk, Ev.AV.cells, Ev.AV.uc, qo, Ev.AV.plain, qao, qar, ql, qs, Ev.keep, qal, qaf, qg, Ev.SObj.lo, qba, qm, qbm, qdq, qg6, qh, qd, qu, qak, qbc, qbg, List.replicate_one, zgi, ↓qn, Ev.it1, ↓reduceIte, zga, zgb, zgd, zge, zgc, zgo, zfe, zgf, zgg, List.drop_nil, zgm, zgl, zgn, zgj, zgk, zgh, Nat.reduceAdd, Nat.reduceEqDiff, Nat.reduceMul, Nat.reduceLT, Nat.reduceLeDiff, Nat.reducePow, reduceCtorEq, zgv, zgw, zfc, zfa, zgx, ne_eq, zfb, zff, zfd, zgu, Nat.le_refl, zgy]
 ·rintro ⟨⟨b, s⟩, g⟩ hbs
  rw [List.take_length] at hbs
  simp only at hbs ⊢
  rw [← hbs]
  simp only [qcr, Int.lt_irrefl, Ev.exec, qb, qe, qc, qai, Ev.Opnd.ev, Ev.Env.get, Ev.Env.set, Ev.look, ql, ↓qn, Ev.it1, ↓reduceIte, Nat.reduceEqDiff, reduceCtorEq, zgw, zfa, zgy]
  exact ⟨_, rfl, g, rfl, rfl, rfl, rfl, rfl⟩
theorem exec_l2 (h0 : R0.lo 10 = true) (h4 : X4.lo 10 = true) (h5 : X5.lo 10 = true) (h6 : X6.lo 10 = true) (h7 : X7.lo 10 = true) (h8 : X8.lo 10 = true) (h9 : X9.lo 10 = true) (G : List (List Int)) (cg : Bool) (b : List Evt) (s : List Evt) (g2 : Nat) (hb : b.length ≤ 1000000) (hk : qid b) (hG : G.length ≤ 1000000) (hGk : ∀ k ∈ G, k.length ≤ 9223372036854775807) :
  ∃ y, itB (exec (evL T) itL none qde) (qs [0, 81, 82, 83] true 10) ⟨[(0, .ptr 3 0 0 0), (81, (.fsl ((G).map qep) cg)), (82, (ii G.length)), (83, (ii ((0 : Nat))))], []⟩ (R0 :: .row 6 ((dn).map Evt.r) g1 :: .row 6 ((s).map Evt.r) g2 :: .row 8 [[(ii ((x).r0)), (ii ((x).r1)), (.fsl (((x).procs).map Pr.r) f), (ii ((x).sum)), (.fsl ((b).map Evt.r) false), .sl 1 g1 0 (dn).length false, .sl 2 g2 0 (s).length false, (bb o)]] 0 :: [X4, X5, X6, X7, X8, X9]) = some y ∧
   (y.1 = .exit 2 ∧ y.2.1.marks = [] ∧ y.2.2 = (R0 :: .row 6 ((dn).map Evt.r) g1 :: .row 6 ((s).map Evt.r) g2 :: .row 8 [[(ii ((x).r0)), (ii ((x).r1)), (.fsl (((x).procs).map Pr.r) f), (ii ((x).sum)), (.fsl (((qud b G)).map Evt.r) false), .sl 1 g1 0 (dn).length false, .sl 2 g2 0 (s).length false, (bb o)]] 0 :: [X4, X5, X6, X7, X8, X9])) := by
 simp only [SObj.lo] at h0 h4 h5 h6 h7 h8 h9
 have key := qf4 (f := exec (evL T) itL none qde) (s := qs [0, 81, 82, 83] true 10) (α := List Evt)
  (fun i a => ⟨[(0, .ptr 3 0 0 0), (81, (.fsl ((G).map qep) cg)), (82, (ii G.length)), (83, (ii i))], []⟩) (fun _ a => (R0 :: .row 6 ((dn).map Evt.r) g1 :: .row 6 ((s).map Evt.r) g2 :: .row 8 [[(ii ((x).r0)), (ii ((x).r1)), (.fsl (((x).procs).map Pr.r) f), (ii ((x).sum)), (.fsl ((a).map Evt.r) false), .sl 1 g1 0 (dn).length false, .sl 2 g2 0 (s).length false, (bb o)]] 0 :: [X4, X5, X6, X7, X8, X9])) (fun i a => a = qud b (G.take i)) G.length
  (fun y => y.1 = .exit 2 ∧ y.2.1.marks = [] ∧ y.2.2 = (R0 :: .row 6 ((dn).map Evt.r) g1 :: .row 6 ((s).map Evt.r) g2 :: .row 8 [[(ii ((x).r0)), (ii ((x).r1)), (.fsl (((x).procs).map Pr.r) f), (ii ((x).sum)), (.fsl (((qud b G)).map Evt.r) false), .sl 1 g1 0 (dn).length false, .sl 2 g2 0 (s).length false, (bb o)]] 0 :: [X4, X5, X6, X7, X8, X9])) ?_ ?_ 0 b (Nat.zero_le _) rfl
 ·exact key
 ·rintro i a hi ha
  obtain ⟨k, hkk⟩ : ∃ k, G[i]? = some k := ⟨_, List.getElem?_eq_getElem hi⟩
  have hi' : (i : Int) < (G.length : Int) := by omega
  have hw : IntKind.i64.wrap ((i : Int) + 1) = ((i + 1 : Nat) : Int) := by rw [qas (by omega) (by omega)]; simp
  have hs : a.Sublist b := by rw [ha]; exact qqm _ _
  obtain ⟨cf, _, hC⟩ := qtv a false k false (by have := hs.length_le; omega) (fun z hz => hk z (hs.subset hz)) (hGk k (List.mem_of_getElem? hkk)) (fun _ => rfl)
  refine .inl ⟨(qg2 a k).1, ?_, by rw [List.take_add_one, hkk, ha]; exact (q5s _ _ _).symm⟩
  generalize qg2 a k = ck at *
  obtain ⟨cl, cb⟩ := ck
  simp only at hC ⊢
  simp only [qde, zgs, zgr, zgq, zgt, hkk, hi', hw, hC, qep, h0, h4, h5, h6, h7, h8, h9, qaa, qw, qbk, qae, Ev.exec, qb, qe, qc, qav, qai, Ev.evs, Ev.Opnd.ev, Ev.Env.get, Ev.Env.set, Ev.look, qf, qv, Ev.AV.cells, Ev.AV.uc, qo, Ev.AV.plain, qao, ql, qs, Ev.keep, qal, qaf, qg, Ev.SObj.lo, qba, qm, qdq, qg6, qh, qd, qu, qak, ↓qn, Ev.it1, ↓reduceIte, zga, zgb, zgd, zge, zgc, zgo, zfe, zgf, zgg, zgm, zgl, zgj, zgk, zgh, Nat.reduceAdd, Nat.reduceEqDiff, Nat.reduceLT, Nat.reduceLeDiff, reduceCtorEq, zgv, zfc, zfa, zgx, zfd, zgy]
 ·rintro a ha
  rw [List.take_length] at ha
  rw [← ha]
  simp only [qde, Int.lt_irrefl, Ev.exec, qb, qe, qc, qai, Ev.Opnd.ev, Ev.Env.get, Ev.Env.set, Ev.look, ql, ↓qn, Ev.it1, ↓reduceIte, Nat.reduceEqDiff, reduceCtorEq, zgw, zfa, zgy]
  exact ⟨_, rfl, rfl, rfl, rfl⟩
theorem q5k (h0 : R0.lo 9 = true) (h4 : X4.lo 9 = true) (h5 : X5.lo 9 = true) (h6 : X6.lo 9 = true) (h7 : X7.lo 9 = true) (h8 : X8.lo 9 = true) (w : WSt) (rest : List Evt) (g2 : Nat) (R : Ready c w.lp e) (hf : f = true → w.lp.procs = []) (hP : PlOk (rest, w.sent) (qbf c w.lp e).out) (hd : w.done.length ≤ 100000) :
  ∃ g1' g2' : Nat, (evL T).call qcu [.ptr 3 0 0 0, (.agg [(.fsl ((c.lps).map lpC) false), (.fsl ((c.progs).map qcf) false), (ii c.look), (ii c.fin), (ii c.cap)]), (.agg [(ii e.time), (.fsl ((e.key).map qby) false), (ii e.lp), (ii e.kind), (ii e.proc), (ii e.arg)])] (R0 :: .row 6 ((w.done).map Evt.r) g1 :: .row 6 ((w.sent).map Evt.r) g2 :: .row 8 [[(ii ((w.lp).r0)), (ii ((w.lp).r1)), (.fsl (((w.lp).procs).map Pr.r) f), (ii ((w.lp).sum)), (.fsl ((rest).map Evt.r) false), .sl 1 g1 0 (w.done).length false, .sl 2 g2 0 (w.sent).length false, (bb w.over)]] 0 :: [X4, X5, X6, X7, X8]) =
   some (.tup [], (R0 :: .row 6 (((w.step c e rest).done).map Evt.r) g1' :: .row 6 (((w.step c e rest).sent).map Evt.r) g2' :: .row 8 [[(ii (((w.step c e rest).lp).r0)), (ii (((w.step c e rest).lp).r1)), (.fsl ((((w.step c e rest).lp).procs).map Pr.r) f), (ii (((w.step c e rest).lp).sum)), (.fsl (((w.step c e rest).box).map Evt.r) false), .sl 1 g1' 0 ((w.step c e rest).done).length false, .sl 2 g2' 0 ((w.step c e rest).sent).length false, (bb ((w.step c e rest).over))]] 0 :: [X4, X5, X6, X7, X8])) := by
 have mono : ∀ {X : SObj}, X.lo 9 = true → X.lo 10 = true := fun h => q3k (by omega) _ h
 have hz := R.sizes
 have hE := Exec_evF R f hf
 obtain ⟨wl, wb, wd, ws, wo⟩ := w
 simp only at R hP hz hE hd hf ⊢
 unfold WSt.step
 simp only
 generalize hr : qbf c wl e = r at *
 obtain ⟨⟨y1, f1, σ1⟩, k1, g2', k2, k3, k4, k5, k6⟩ := exec_l1 (e := e) R0 X4 X5 X6 X7 X8 (.row 4 [[(ii r.lp.r0), (ii r.lp.r1), (.fsl ((r.lp.procs).map Pr.r) f), (ii r.lp.sum)]] 0) (wd ++ [e]) (g1 + 1) r.lp (wo || r.over) f (mono h0) (mono h4) (mono h5) (mono h6) (mono h7) (mono h8) (by simp only [qae, Ev.SObj.lo, qba, qm, qh, qd, qu, qak, zfc, zgy]) r.out r.nil (rest, ws) g2 hP ((.fsl ((r.gone).map qep) r.nil)) (by simp only [qbk, qm, zgy])
 have hpl := qsd e.lp r.out (rest, ws) []
 have hln := hP.len
 have hkk := hP.ok
 rw [List.append_nil, List.append_nil] at hpl
 obtain ⟨⟨y2, f2, σ2⟩, m1, m2, m3, m4⟩ := exec_l2 R0 X4 X5 X6 X7 X8 (.row 4 [[(ii r.lp.r0), (ii r.lp.r1), (.fsl ((r.lp.procs).map Pr.r) f), (ii r.lp.sum)]] 0) (wd ++ [e]) (g1 + 1) r.lp (wo || r.over) f (mono h0) (mono h4) (mono h5) (mono h6) (mono h7) (mono h8) (by simp only [qae, Ev.SObj.lo, qba, qm, qh, qd, qu, qak, zfc, zgy]) r.gone r.nil (qev e.lp (rest, ws) r.out).1 (qev e.lp (rest, ws) r.out).2 g2'
  (by have := hpl.length_eq; simp only [zgp] at this hln; omega) (fun z hz' => hkk z (hpl.mem_iff.1 (List.mem_append_left _ hz'))) (by omega) (fun k hk' => by have := hz.2.2.2.2.1 k hk'; omega)
 simp only [Int.ofNat_zero] at k1 k2 k3 k4 k5 k6 m1 m2 m3 m4
 subst k2; subst k4; subst m2; subst m4
 refine ⟨g1 + 1, g2', ?_⟩
 have bd : (wd.length + 1) * 64 ≤ 140737488355328 := by omega
 have tk : List.take wd.length (wd.map Evt.r) = wd.map Evt.r := List.take_of_length_le (by simp)
 have hle : wd.length ≤ wd.length := Nat.le_refl _
 have j0 := mono h0
 have j4 := mono h4
 have j5 := mono h5
 have j6 := mono h6
 have j7 := mono h7
 have j8 := mono h8
 simp only [SObj.lo] at h0 h4 h5 h6 h7 h8 j0 j4 j5 j6 j7 j8
 generalize (qev e.lp (rest, ws) r.out).2 = Z at *
 generalize (qev e.lp (rest, ws) r.out).1 = B at *
 generalize qud B r.gone = B' at *
 obtain ⟨et, ek, el, ei, ep, ea⟩ := e
 obtain ⟨a0, a1, ap, as'⟩ := wl
 have lo := qaa 9 (wd ++ [⟨et, ek, el, ei, ep, ea⟩])
 have lo10 := qaa 10 (wd ++ [⟨et, ek, el, ei, ep, ea⟩])
 rw [List.map_append] at lo lo10 k1 m1
 simp only [List.map_append, zgp, List.map_cons, List.map_nil, zga, zgb, zfd, Evt.r] at lo lo10 k1 m1 ⊢
 rw [qad qmy qmh]
 cases wo with
 | true =>
  simp only [Bool.true_or] at k1 m1 ⊢
  simp only [qd8, hE, k1, k3, k5, k6, m1, m3, bd, tk, hle, lo, lo10, h0, h4, h5, h6, h7, h8, j0, j4, j5, j6, j7, j8, qaa, qw, qbk, qae, qcb, qax, qj, Ev.exec, qb, qe, qc, qav, qai, qm5, Ev.evs, Ev.Opnd.ev, Ev.Env.get, Ev.Env.set, Ev.Env.unset, Ev.look, qk, qf, qbq, qv, qfk, Ev.AV.cells, Ev.AV.uc, qo, Ev.AV.plain, qi, qaj, Ev.kill, qag, qs, Ev.keep, qal, qaf, qg, Ev.SObj.lo, qba, qa2, qb0, qm, qbm, qdq, qg6, qh, qd, qu, qak, qbc, qbg, List.replicate_one, zgi, ↓qn, ↓qa4, ↓reduceIte, zga, zgb, zgd, zge, zgc, zgo, zfe, zgf, zgg, List.drop_nil, zgm, zgl, zgn, zgj, zgk, zgh, Nat.reduceAdd, Nat.reduceEqDiff, Nat.reduceMul, Nat.reduceLT, Nat.reduceLeDiff, Nat.reducePow, reduceCtorEq, zgv, zfc, zfa, Bool.true_eq_false, zgx, ne_eq, zfb, zff, zfd, Nat.add_zero, zgu, Nat.le_refl, zgy]
 | false =>
  simp only [Bool.false_or] at k1 m1 ⊢
  simp only [qd8, hE, k1, k3, k5, k6, m1, m3, bd, tk, hle, lo, lo10, h0, h4, h5, h6, h7, h8, j0, j4, j5, j6, j7, j8, qaa, qw, qbk, qae, qcb, qax, qj, Ev.exec, qb, qe, qc, qav, qai, qm5, Ev.evs, Ev.Opnd.ev, Ev.Env.get, Ev.Env.set, Ev.look, qk, qf, qbq, qv, qfk, Ev.AV.cells, Ev.AV.uc, qo, Ev.AV.plain, qi, qaj, Ev.kill, qag, qs, Ev.keep, qal, qaf, qg, Ev.SObj.lo, qba, qa2, qb0, qm, qbm, qdq, qg6, qh, qd, qu, qak, qbc, qbg, List.replicate_one, zgi, ↓qn, ↓qa4, ↓reduceIte, zga, zgb, zgd, zge, zgc, zgo, zfe, zgf, zgg, List.drop_nil, zgm, zgl, zgn, zgj, zgk, zgh, Nat.reduceAdd, Nat.reduceEqDiff, Nat.reduceMul, Nat.reduceLT, Nat.reduceLeDiff, Nat.reducePow, reduceCtorEq, zgv, zfc, zfa, zgx, ne_eq, zfb, zff, zfd, Nat.add_zero, zgu, Nat.le_refl, zgy]
end
set_option maxRecDepth 10000
theorem WInv.run {c : Cfg} {i : Nat} {O : List Evt} (hor : Int) : ∀ (k : Nat) {w : WSt} {S : Sim} {H : List Evt}, WInv c i w O S H → H.length + k ≤ 20000 →
  ∃ (S' : Sim) (es : List Evt), WInv c i (WSt.run c hor k w) O S' (H ++ es) ∧ (WSt.run c hor k w).done = w.done ++ es ∧ S'.lps = S.lps.set i (WSt.run c hor k w).lp ∧ es.length ≤ k
 | 0, w, S, H, h, _ => ⟨S, [], by rw [List.append_nil]; exact h, (List.append_nil _).symm, (by
   have : S.lps.set i w.lp = S.lps := List.ext_getElem? fun j => by
    by_cases e : i = j
    ·subst e; rw [List.getElem?_set_self (by rw [h.K.lpl]; exact h.il), h.lp]
    ·rw [List.getElem?_set_ne e]
   exact this.symm), Nat.le_refl _⟩
 | k + 1, w, S, H, h, hk => by
  unfold WSt.run
  split
  ·obtain ⟨S', es, h1, h2, h3, h4⟩ := WInv.run hor 0 h (by omega)
   exact ⟨S', es, h1, h2, h3, by omega⟩
  next e rest hb =>
   split
   ·obtain ⟨S1, g1, g2⟩ := h.step (by omega) hb
    obtain ⟨S', es, h1, h2, h3, h4⟩ := WInv.run hor k g1 (by simp; omega)
    refine ⟨S', e :: es, by simpa using h1, by rw [h2]; simp [WSt.step], ?_, by simp; omega⟩
    rw [h3, g2, List.set_set]
   ·obtain ⟨S', es, h1, h2, h3, h4⟩ := WInv.run hor 0 h (by omega)
    exact ⟨S', es, h1, h2, h3, by omega⟩
def pL (c : Cfg) : SObj := .loop ⟨[(4, (.fptr [(.fsl ((c.lps).map lpC) false), (.fsl ((c.progs).map qcf) false), (ii c.look), (ii c.fin), (ii c.cap)])), (13, .ptr 4 0 0 0)], []⟩ [22] qdx qd1 .ready none
def pLb (c : Cfg) : SObj := .loop ⟨[(4, (.fptr [(.fsl ((c.lps).map lpC) false), (.fsl ((c.progs).map qcf) false), (ii c.look), (ii c.fin), (ii c.cap)])), (13, .ptr 4 0 0 0)], []⟩ [22] qdx qd1 .busy none
def pS (c : Cfg) (f : Bool) (w : WSt) (b : List Evt) (g1 g2 : Nat) : qr := ((.row 4 [[(ii 0), (ii 0), .fsl [] false, (ii 0)]] 0) :: .row 6 ((w.done).map Evt.r) g1 :: .row 6 ((w.sent).map Evt.r) g2 :: .row 8 [[(ii ((w.lp).r0)), (ii ((w.lp).r1)), (.fsl (((w.lp).procs).map Pr.r) f), (ii ((w.lp).sum)), (.fsl ((b).map Evt.r) false), .sl 1 g1 0 (w.done).length false, .sl 2 g2 0 (w.sent).length false, (bb w.over)]] 0 :: [.row 1 [[.ptr 3 0 0 0]] 0, .defr, (pL c)])
section
variable {c : Cfg} {f : Bool}
theorem w_round {e : Evt} (w : WSt) (rest : List Evt) (g1 g2 : Nat) (R : Ready c w.lp e) (hf : f = true → w.lp.procs = []) (hP : PlOk (rest, w.sent) (qbf c w.lp e).out) (hd : w.done.length ≤ 100000) :
  ∃ g1' g2' : Nat, (evL T).round 6 [(.agg [(ii e.time), (.fsl ((e.key).map qby) false), (ii e.lp), (ii e.kind), (ii e.proc), (ii e.arg)])] (pS c f w rest g1 g2 ++ [.row 6 [e.r] 0]) = some ((bb true), pS c f (w.step c e rest) (w.step c e rest).box g1' g2' ++ [.row 6 [e.r] 0]) := by
 obtain ⟨g1', g2', h⟩ := q5k (e := e) (.row 4 [[(ii 0), (ii 0), .fsl [] false, (ii 0)]] 0) (.row 1 [[.ptr 3 0 0 0]] 0) .defr (pLb c) (.row 6 [e.r] 0) (.row 6 [e.r] 0) g1 f (by simp only [Ev.SObj.lo, qba, qm, qh, qd, qu, qak, zfc, zgy]) (by simp only [Ev.SObj.lo, qg6, qh, qd, qu, qak, Nat.reduceLT, zgv, zfc, zgy]) (by simp only [Ev.SObj.lo, zgy]) (by simp only [pLb, qcb, qax, qal, Ev.SObj.lo, qba, qm, qbm, qg6, qh, qd, Nat.reduceLT, zgv, zfc, zgy]) (by simp only [Evt.r, qw, Ev.SObj.lo, qba, qm, qh, qd, qu, qak, zfc, zgy]) (by simp only [Evt.r, qw, Ev.SObj.lo, qba, qm, qh, qd, qu, qak, zfc, zgy]) w rest g2 R hf hP hd
 refine ⟨g1', g2', ?_⟩
 rw [q6v]
 generalize w.step c e rest = w' at *
 obtain ⟨et, ek, el, ei, ep, ea⟩ := e
 simp only [pLb, Evt.r, qdx, qd1] at h
 simp only [pS, pL, qdx, qd1, zgm, zgl, Evt.r, h, qaa, qw, qae, qcb, qax, qnh, qk4, Ev.exec, qb, qe, qc, qjv, qai, Ev.evs, Ev.Opnd.ev, Ev.Env.get, Ev.Env.set, Ev.look, qf, qv, Ev.AV.cells, qo, Ev.AV.plain, qag, qal, qg, Ev.SObj.lo, qba, qm, qbm, qdq, qg6, qh, qd, qu, qak, ↓qn, ↓reduceIte, zga, zgb, zgd, zge, zgc, zgo, zfe, zgf, zgg, List.drop_nil, zgm, zgl, zgn, zgj, zgk, zgh, Nat.reduceAdd, Nat.reduceEqDiff, Nat.reduceLT, zgv, zfc, zfa, zgx, ne_eq, zfb, zff, zfd, Nat.le_refl, zgy]
theorem events_L (hor : Int) : ∀ (k : Nat) {w : WSt} {i : Nat} {O : List Evt} {S : Sim} {H : List Evt} (g1 g2 : Nat), w.done.length + k = 2000 → WInv c i w O S H → (f = true → w.lp.procs = []) → H.length + k ≤ 20000 →
  ∃ y, itB (exec (evL T) itL none qbp) (qs [0, 1, 2] true 7) ⟨[(0, .yld 6), (1, .fptr [.ptr 3 0 0 0]), (2, .fptr [(ii hor)])], []⟩ (pS c f w w.box g1 g2) = some y ∧
   ∃ g1' g2' : Nat, (y.1 = .exit 0 ∨ y.1 = .ret) ∧ y.2.1.marks = [] ∧ ∃ X : qr, y.2.2 = pS c f (WSt.run c hor k w) (WSt.run c hor k w).box g1' g2' ++ X := by
 intro k
 induction k with
 | zero =>
  intro w i O S H g1 g2 hk h hf hn
  have c1 : ¬ (w.done.length : Int) < 2000 := by omega
  have hx : ∃ y, it1 (exec (evL T) itL none qbp) (qs [0, 1, 2] true 7) ⟨[(0, .yld 6), (1, .fptr [.ptr 3 0 0 0]), (2, .fptr [(ii hor)])], []⟩ (pS c f w w.box g1 g2) = some (.inr y) ∧ (y.1 = .exit 0 ∨ y.1 = .ret) ∧ y.2.1.marks = [] ∧ y.2.2 = pS c f w w.box g1 g2 := by
   simp only [qbp, pS, pL, c1, Ev.exec, qb, qe, qc, qai, Ev.Opnd.ev, Ev.Env.get, Ev.Env.set, Ev.look, qf, qv, ql, ↓qn, Ev.it1, ↓reduceIte, zgd, zge, zgf, zgg, zgh, reduceCtorEq, zgw, zfa, zfd, zgy]
   exact ⟨_, rfl, by simp, rfl, rfl⟩
  obtain ⟨y, h1, h2, h3, h4⟩ := hx
  exact ⟨y, qoy h1, g1, g2, h2, h3, [], by rw [List.append_nil]; exact h4⟩
 | succ k ih =>
  intro w i O S H g1 g2 hk h hf hn
  have c1 : (w.done.length : Int) < 2000 := by omega
  have hl := h.len
  obtain ⟨cf, hT⟩ := qya w.box false hor (by omega)
  cases hb : w.box with
  | nil =>
   have hrun : WSt.run c hor (k + 1) w = w := by rw [WSt.run, hb]
   rw [hrun]
   rw [hb] at hT
   have hx : ∃ y, it1 (exec (evL T) itL none qbp) (qs [0, 1, 2] true 7) ⟨[(0, .yld 6), (1, .fptr [.ptr 3 0 0 0]), (2, .fptr [(ii hor)])], []⟩ (pS c f w [] g1 g2) = some (.inr y) ∧ (y.1 = .exit 0 ∨ y.1 = .ret) ∧ y.2.1.marks = [] ∧ ∃ X, y.2.2 = pS c f w w.box g1 g2 ++ X := by
    rw [hb]
    simp only [qtm, q5y, List.map_nil] at hT
    simp only [qbp, pS, pL, c1, hT, List.map_nil, Ev.exec, qb, qe, qc, qav, qai, Ev.evs, Ev.Opnd.ev, Ev.Env.get, Ev.Env.set, Ev.look, qf, qv, Ev.AV.cells, qo, Ev.AV.plain, ql, qba, qm, qh, qd, qu, ↓qn, Ev.it1, ↓reduceIte, zga, zgb, zgd, zge, zgo, zgf, zgg, List.drop_nil, zgm, zgl, zgn, zgj, zgk, zgh, Nat.reduceAdd, Nat.reduceEqDiff, reduceCtorEq, zgv, zfc, Bool.not_false, zfa, zgx, ne_eq, zfb, zff, zfd, Nat.le_refl, zgy]
    exact ⟨_, rfl, by simp, rfl, _, rfl⟩
   obtain ⟨y, h1, h2, h3, h4⟩ := hx
   exact ⟨y, qoy h1, g1, g2, h2, h3, h4⟩
  | cons e rest =>
   rw [hb] at hT
   by_cases ht : e.time < hor
   ·have hrun : WSt.run c hor (k + 1) w = WSt.run c hor k (w.step c e rest) := by rw [WSt.run, hb]; simp only [ht, if_true]
    rw [hrun]
    obtain ⟨_, R, _⟩ := h.ready (by omega) hb
    have hP := h.plOk (by omega) hb
    obtain ⟨S', hS, _⟩ := h.step (by omega) hb
    obtain ⟨g1', g2', hr⟩ := w_round w rest g1 g2 R hf hP (by omega)
    obtain ⟨y, k1, k2⟩ := ih (w := w.step c e rest) (S := S') (H := H ++ [e]) g1' g2' (by simp [WSt.step]; omega) hS (fun k => qxq (hf k)) (by simp; omega)
    refine ⟨y, q0o ?_ k1, k2⟩
    clear k1 k2 ih hP R hS hrun
    generalize w.step c e rest = w' at *
    obtain ⟨et, ek, el, ei, ep, ea⟩ := e
    simp only at ht
    simp only [qtm, ht, if_true, List.map_cons, Evt.r] at hT
    simp only [pS, pL, zgm, zgl, Evt.r] at hr
    have hlo' := fun (w : WSt) => qae 7 w.lp.procs
    simp only [qbp, pS, pL, c1, hT, hr, List.map_cons, Evt.r, zgm, qaa, qw, qae, qcb, qax, Ev.exec, qb, qe, qc, qav, qtl, qai, Ev.evs, Ev.Opnd.ev, Ev.Env.get, Ev.Env.set, Ev.look, qf, qv, Ev.AV.cells, Ev.AV.uc, qo, Ev.AV.plain, ql, qs, Ev.keep, qal, qaf, qg, Ev.SObj.lo, qba, qm, qbm, qdq, qg6, q7t, qh, qd, qu, qak, ↓qn, Ev.it1, ↓reduceIte, zga, zgb, zgd, zge, zgc, zgo, zfe, zgf, zgg, List.drop_nil, zgm, zgl, zgn, zgj, zgk, zgh, Nat.reduceAdd, Nat.reduceEqDiff, Nat.reduceLT, Nat.reduceLeDiff, reduceCtorEq, zgv, zfc, Bool.not_true, zfa, zgx, ne_eq, zfb, zff, zfd, zgu, Nat.le_refl, zgy]
   ·have hrun : WSt.run c hor (k + 1) w = w := by rw [WSt.run, hb]; simp only [ht, if_false]
    rw [hrun]
    have hx : ∃ y, it1 (exec (evL T) itL none qbp) (qs [0, 1, 2] true 7) ⟨[(0, .yld 6), (1, .fptr [.ptr 3 0 0 0]), (2, .fptr [(ii hor)])], []⟩ (pS c f w (e :: rest) g1 g2) = some (.inr y) ∧ (y.1 = .exit 0 ∨ y.1 = .ret) ∧ y.2.1.marks = [] ∧ ∃ X, y.2.2 = pS c f w w.box g1 g2 ++ X := by
     rw [hb]
     obtain ⟨et, ek, el, ei, ep, ea⟩ := e
     simp only at ht
     simp only [qtm, ht, if_false, q5y, List.map_cons, List.map_nil, Evt.r] at hT
     simp only [qbp, pS, pL, c1, hT, List.map_cons, Evt.r, qaa, qw, Ev.exec, qb, qe, qc, qav, qai, Ev.evs, Ev.Opnd.ev, Ev.Env.get, Ev.Env.set, Ev.look, qf, qv, Ev.AV.cells, qo, Ev.AV.plain, ql, qba, qm, qh, qd, qak, ↓qn, Ev.it1, ↓reduceIte, zga, zgb, zgd, zge, zgo, zgf, zgg, List.drop_nil, zgm, zgl, zgn, zgj, zgk, zgh, Nat.reduceAdd, Nat.reduceEqDiff, reduceCtorEq, zgv, zfc, Bool.not_false, zfa, zgx, ne_eq, zfb, zff, zfd, Nat.le_refl, zgy]
     exact ⟨_, rfl, by simp, rfl, _, rfl⟩
    obtain ⟨y, h1, h2, h3, h4⟩ := hx
    exact ⟨y, qoy h1, g1, g2, h2, h3, h4⟩
theorem q7a (hor : Int) {x : Lp} {b : List Evt} {i : Nat} {O : List Evt} {S : Sim} {H : List Evt} (h : WInv c i ⟨x, b, [], [], false⟩ O S H) (hf : f = true → x.procs = []) (hn : H.length ≤ 18000) :
  ∃ g1 g2 : Nat, (evL T).call qca [.yld 6, .fptr [.ptr 3 0 0 0], .fptr [(ii hor)]] (pS c f ⟨x, b, [], [], false⟩ b 0 0) = some (.tup [], pS c f (WSt.run c hor 2000 ⟨x, b, [], [], false⟩) (WSt.run c hor 2000 ⟨x, b, [], [], false⟩).box g1 g2) := by
 obtain ⟨⟨y, e, σ⟩, k1, g1, g2, k2, k3, X, k4⟩ := events_L hor 2000 0 0 rfl h hf (by omega)
 simp only at k1 k2 k3 k4
 subst k4
 refine ⟨g1, g2, ?_⟩
 rw [qad qje qlq]
 generalize WSt.run c hor 2000 ⟨x, b, [], [], false⟩ = w at *
 have hn1 : ∀ (w : WSt) (b : List Evt) (g1 g2 : Nat), (pS c f w b g1 g2).length = 7 := fun _ _ _ _ => rfl
 have ht : ∀ (w : WSt) (b : List Evt) (g1 g2 : Nat) (X : qr), (pS c f w b g1 g2 ++ X).take 7 = pS c f w b g1 g2 := fun _ _ _ _ _ => List.take_left' rfl
 have hlo : ∀ (w : WSt) (b : List Evt) (g1 g2 : Nat), qg 7 (pS c f w b g1 g2) = true := fun w b g1 g2 => by simp only [pS, pL, qaa, qae, qcb, qax, qal, qg, Ev.SObj.lo, qba, qm, qbm, qdq, qg6, qh, qd, qu, qak, Nat.reduceLT, zgv, zfc, zgy]
 have ht0 : ∀ (w : WSt) (b : List Evt) (g1 g2 : Nat), (pS c f w b g1 g2).take 7 = pS c f w b g1 g2 := fun _ _ _ _ => rfl
 rcases k2 with rfl | rfl
 ·simp only [qdr, hn1, ht, ht0, hlo, k1, k3, qj, Ev.exec, Ev.Env.get, Ev.look, qk, qi, qaj, Ev.kill, qag, qs, Ev.keep, qal, qaf, qba, qb0, qbm, qg6, q7t, qh, qd, ↓qn, ↓qa4, ↓reduceIte, zga, zgb, Nat.reduceAdd, Nat.reduceEqDiff, Nat.reduceLT, reduceCtorEq, zgv, zfc, zgx, zfd, zgu, zgy]
 ·simp only [qdr, hn1, ht, ht0, hlo, k1, k3, qj, Ev.exec, Ev.Env.get, Ev.look, qk, qi, qaj, Ev.kill, qag, qs, Ev.keep, qal, qaf, qba, qb0, qbm, qg6, q7t, qh, qd, ↓qn, ↓qa4, ↓reduceIte, zga, zgb, Nat.reduceAdd, Nat.reduceEqDiff, Nat.reduceLT, reduceCtorEq, zgv, zfc, zgx, zfd, zgu, zgy]
theorem q2k (f : Bool) (w : WSt) (g1 g2 : Nat) (R0 X4 X5 X6 : SObj) (h0 : R0.lo 7 = true) (h4 : X4.lo 7 = true) (h5 : X5.lo 7 = true) (h6 : X6.lo 7 = true) : (evL T).call qc0 [.ptr 3 0 0 0] (R0 :: .row 6 ((w.done).map Evt.r) g1 :: .row 6 ((w.sent).map Evt.r) g2 :: .row 8 [[(ii ((w.lp).r0)), (ii ((w.lp).r1)), (.fsl (((w.lp).procs).map Pr.r) f), (ii ((w.lp).sum)), (.fsl ((w.box).map Evt.r) false), .sl 1 g1 0 (w.done).length false, .sl 2 g2 0 (w.sent).length false, (bb w.over)]] 0 :: [X4, X5, X6]) =
  some (.tup [.agg [(ii w.lp.r0), (ii w.lp.r1), (.fsl ((w.lp.procs).map Pr.r) f), (ii w.lp.sum)], (.fsl ((w.box).map Evt.r) false), .sl 1 g1 0 w.done.length false, .sl 2 g2 0 w.sent.length false, (bb w.over)], (R0 :: .row 6 ((w.done).map Evt.r) g1 :: .row 6 ((w.sent).map Evt.r) g2 :: .row 8 [[(ii ((w.lp).r0)), (ii ((w.lp).r1)), (.fsl (((w.lp).procs).map Pr.r) f), (ii ((w.lp).sum)), (.fsl ((w.box).map Evt.r) false), .sl 1 g1 0 (w.done).length false, .sl 2 g2 0 (w.sent).length false, (bb w.over)]] 0 :: [X4, X5, X6])) := by
 simp only [SObj.lo] at h0 h4 h5 h6
 rw [qad qn2 qm6]
 simp only [qfn, h0, h4, h5, h6, qaa, qae, qj, Ev.exec, qb, qe, qc, qai, Ev.Opnd.ev, Ev.Env.get, Ev.Env.set, Ev.look, qk, qf, qv, Ev.AV.cells, qo, Ev.AV.plain, qi, qq, qaj, Ev.kill, qag, qg, Ev.SObj.lo, qba, qa2, qb0, qm, qdq, qmd, Ev.AV.obj?, qh, qd, qu, qak, ↓qn, ↓reduceIte, zga, zgb, zgd, zge, zgc, zgo, zfe, zgf, zgg, List.drop_nil, zgm, zgl, zgn, zgj, zgk, zgh, Nat.reduceAdd, Nat.reduceEqDiff, Nat.reduceBEq, Nat.reduceLT, Nat.reduceLeDiff, reduceCtorEq, zgv, zfc, Bool.not_false, zfa, zgx, ne_eq, zfb, zff, zfd, Nat.add_zero, Nat.le_refl, zgy]
 try rfl
theorem qt0 (hor : Int) {x : Lp} {b : List Evt} {cb : Bool} {i : Nat} {O : List Evt} {S : Sim} {H : List Evt} (h : WInv c i ⟨x, b, [], [], false⟩ O S H) (hf : f = true → x.procs = []) (hn : H.length ≤ 18000) :
  qa3 (evL T) qdf [(.agg [(.fsl ((c.lps).map lpC) false), (.fsl ((c.progs).map qcf) false), (ii c.look), (ii c.fin), (ii c.cap)]), (.agg [(ii x.r0), (ii x.r1), (.fsl ((x.procs).map Pr.r) f), (ii x.sum)]), (.fsl ((b).map Evt.r) cb), (ii hor)] = some (.tup [(.agg [(ii ((WSt.run c hor 2000 ⟨x, b, [], [], false⟩).lp.r0)), (ii ((WSt.run c hor 2000 ⟨x, b, [], [], false⟩).lp.r1)), (.fsl (((WSt.run c hor 2000 ⟨x, b, [], [], false⟩).lp.procs).map Pr.r) f), (ii ((WSt.run c hor 2000 ⟨x, b, [], [], false⟩).lp.sum))]), (.fsl (((WSt.run c hor 2000 ⟨x, b, [], [], false⟩).box).map Evt.r) false), (.fsl (((WSt.run c hor 2000 ⟨x, b, [], [], false⟩).done).map Evt.r) false), (.fsl (((WSt.run c hor 2000 ⟨x, b, [], [], false⟩).sent).map Evt.r) false), (bb ((WSt.run c hor 2000 ⟨x, b, [], [], false⟩).over))]) := by
 obtain ⟨g1, g2, h1⟩ := q7a hor h hf hn
 generalize WSt.run c hor 2000 ⟨x, b, [], [], false⟩ = w at *
 have h2 := q2k f w g1 g2 (.row 4 [[(ii 0), (ii 0), .fsl [] false, (ii 0)]] 0) (.row 1 [[.ptr 3 0 0 0]] 0) .dead (.loop ⟨[(4, (.fptr [(.fsl ((c.lps).map lpC) false), (.fsl ((c.progs).map qcf) false), (ii c.look), (ii c.fin), (ii c.cap)])), (13, .ptr 4 0 0 0)], []⟩ [22] qdx qd1 .exhausted none) (by simp only [Ev.SObj.lo, qba, qm, qh, qd, qu, qak, zfc, zgy]) (by simp only [Ev.SObj.lo, qg6, qh, qd, qu, qak, Nat.reduceLT, zgv, zfc, zgy]) (by simp only [Ev.SObj.lo, zgy]) (by simp only [qcb, qax, qal, Ev.SObj.lo, qba, qm, qbm, qg6, qh, qd, Nat.reduceLT, zgv, zfc, zgy])
 have h2' := q2k f w g1 g2 (.row 4 [[(ii 0), (ii 0), .fsl [] false, (ii 0)]] 0) (.row 1 [[.ptr 3 0 0 0]] 0) .defr (.loop ⟨[(4, (.fptr [(.fsl ((c.lps).map lpC) false), (.fsl ((c.progs).map qcf) false), (ii c.look), (ii c.fin), (ii c.cap)])), (13, .ptr 4 0 0 0)], []⟩ [22] qdx qd1 .exhausted none) (by simp only [Ev.SObj.lo, qba, qm, qh, qd, qu, qak, zfc, zgy]) (by simp only [Ev.SObj.lo, qg6, qh, qd, qu, qak, Nat.reduceLT, zgv, zfc, zgy]) (by simp only [Ev.SObj.lo, zgy]) (by simp only [qcb, qax, qal, Ev.SObj.lo, qba, qm, qbm, qg6, qh, qd, Nat.reduceLT, zgv, zfc, zgy])
 have hev : ∀ σ : qr, (evL T).call qcz [.ptr 3 0 0 0, (ii hor)] σ = some (.fn (.func qca) [] [.fptr [.ptr 3 0 0 0], .fptr [(ii hor)]], σ) := fun σ => by
  rw [qad qnk qmw]
  simp only [qfp, ite_self, List.take_length, qj, Ev.exec, qb, qe, qc, qai, Ev.evs, Ev.Opnd.ev, Ev.Env.get, Ev.Env.set, Ev.look, qk, Ev.AV.cells, Ev.AV.uc, qo, Ev.AV.plain, qi, qq, qaj, Ev.kill, qag, qba, qbm, qg6, qzd, qh, qd, List.take_length, ↓qn, ↓reduceIte, zga, zgb, Nat.reduceAdd, Nat.reduceEqDiff, reduceCtorEq, zfc, Bool.and_true, Bool.true_and, zgx, ne_eq, zfb, zff, zfd, zgy]
 have tk1 : List.take w.done.length (w.done.map Evt.r) = w.done.map Evt.r := List.take_of_length_le (by simp)
 have tk2 : List.take w.sent.length (w.sent.map Evt.r) = w.sent.map Evt.r := List.take_of_length_le (by simp)
 have hle : ∀ n : Nat, n ≤ n := fun n => Nat.le_refl n
 simp only [pS, pL, List.map_nil, zgb] at h1
 rw [qa3, qad qst qsk]
 simp only [qj4, hev, h1, h2', tk1, tk2, hle, evL_ent qje, qaa, qae, qj, qo6, Ev.exec, qb, qe, qc, qjv, qai, q3e, Ev.evs, Ev.Opnd.ev, Ev.Env.get, Ev.Env.set, Ev.look, qk, qf, qv, qfz, Ev.AV.cells, Ev.AV.uc, qo, Ev.AV.plain, qi, qq, qaj, Ev.kill, qag, Ev.keep, qg, qba, qa2, qb0, qm, qdq, qh, qd, qx, quu, qhb, qe3, qgs, qel, zgi, ↓qn, ↓reduceIte, zga, zgb, zgd, zge, zgc, zgo, zfe, zgf, zgg, List.drop_nil, zgm, zgl, zgn, zgj, zgk, zgh, Nat.reduceAdd, Nat.reduceEqDiff, Nat.reduceLT, Nat.reduceLeDiff, reduceCtorEq, zgw, zfc, Bool.and_true, zfa, zgx, and_true, ne_eq, zfb, zff, zfd, zgy, Bool.and_false]
end
set_option maxRecDepth 10000
structure SimSt (n : Nat) (s : Sim) (L : List (Lp × Bool)) (A : qr) (O : List (List AV)) : Prop where
 len : A.length = n + 1
 lps : A[0]? = some (.row 4 (L.map lpF) 1)
 lpl : L.length = n
 lpf : L.map Prod.fst = s.lps
 flag : ∀ x ∈ L, x.2 = true → x.1.procs = []
 trl : s.trace.length = n
 ol : O.length = n
 tr : ∀ i : Nat, i < n → ∃ g, A[i + 1]? = some (.row 6 ((qsm s i).map Evt.r) g) ∧ O[i]? = some [.sl (i + 1) g 0 (qsm s i).length false]
 alo : qg (n + 1) A = true
 olo : qiu (n + 1) O = true
structure Pre (A : qr) (n : Nat) : Prop where
 len : A.length = n + 1
section
variable {A : qr} {n : Nat} (h : A.length = n + 1) (B : qr) (x : SObj)
include h
end
section
variable (c : Cfg) (n : Nat) (A : qr) (O : List (List AV)) (hA : A.length = n + 1) (rest : List Evt) (e : Evt) (k : Int) (ov : Bool)
include hA
end
set_option maxRecDepth 10000
def q31 : List Evt → List Evt → List Evt
 | [], b => b
 | x :: ax, [] => x :: ax
 | x :: ax, y :: bs => if qr7 y x < 0 then y :: q31 (x :: ax) bs else x :: q31 ax (y :: bs)
termination_by a b => a.length + b.length
section
variable (a0 b0 : List Evt)
structure MgInv (s : (List Evt × List Evt) × (List Evt × Nat)) : Prop where
 sum : s.2.1 ++ q31 s.1.1 s.1.2 = q31 a0 b0
 len : s.2.1.length + (s.1.1.length + s.1.2.length) ≤ 1000000
 ka : qid s.1.1
 kb : qid s.1.2
end
set_option maxRecDepth 10000
structure DSt (n : Nat) (B : List (List AV)) (t : Nat → List Evt) (A : qr) (O : List (List AV)) : Prop where
 len : A.length = n + 1
 box : A[0]? = some (.row 1 B 0)
 ol : O.length = n
 tr : ∀ i : Nat, i < n → ∃ g, A[i + 1]? = some (.row 6 ((t i).map Evt.r) g) ∧ O[i]? = some [.sl (i + 1) g 0 (t i).length false]
 alo : qg (n + 1) A = true
 olo : qiu (n + 1) O = true
section
variable (n : Nat) (B : List (List AV)) (D : List Evt) (cd : Bool)
end
set_option maxRecDepth 10000
section
variable (c : Cfg) (n : Nat) (A : qr) (O : List (List AV)) (hA : A.length = n + 1) (rest : List Evt) (et ei ep ea : Int) (ek : List Int) (i : Nat) (hi : i < n) (k : Int) (ov : Bool)
include hA
end
set_option maxRecDepth 10000
section
variable (c : Cfg) (n : Nat) (A : qr) (O : List (List AV)) (hA : A.length = n + 1) (rest : List Evt) (et ei ep ea : Int) (ek : List Int) (i : Nat) (hi : i < n) (k : Int) (ov : Bool)
include hA
end
set_option maxRecDepth 10000
section
variable {c : Cfg} {s : Sim} {h : List Evt} {n : Nat} {L : List (Lp × Bool)} {A : qr} {O : List (List AV)}
end
set_option maxRecDepth 10000
section
variable {c : Cfg} {s : Sim} {h : List Evt} {n : Nat} {L : List (Lp × Bool)} {A : qr} {O : List (List AV)}
end
set_option maxRecDepth 10000
section
variable (n ps lps look : Int) (x : OpI)
end
section
variable (p : List OpI) (c : Bool) (n ps lps look : Int)
end
set_option maxRecDepth 10000
section
variable (k : Nat) (cap : List AV) (hcap : los 0 cap = true)
include hcap
end
set_option maxRecDepth 10000
section
variable (c : Cfg)
structure CfgOk (c : Cfg) : Prop where
 lps : c.lps.length < 2 ^ 62
 progs : c.progs.length < 2 ^ 62
 prog : ∀ p ∈ c.progs, p.length < 2 ^ 62
 lp : ∀ l ∈ c.lps, l.length < 2 ^ 62
end
set_option maxRecDepth 10000
set_option maxRecDepth 10000
section
variable {c : Cfg} {s : Sim} {h : List Evt} {n : Nat} {L : List (Lp × Bool)} {A : qr} {O : List (List AV)}
end
set_option maxRecDepth 10000
theorem q1p (h : List Evt) : ∀ n : Nat, ((List.range n).map fun i => qf8 h i).flatten.Perm (h.filter fun e => decide (0 ≤ e.lp ∧ e.lp < (n : Int)))
 | 0 => by
  have : h.filter (fun e => decide (0 ≤ e.lp ∧ e.lp < ((0 : Nat) : Int))) = [] := List.filter_eq_nil_iff.2 (fun e _ => by simp only [decide_eq_true_eq]; omega)
  rw [this]; exact .refl _
 | n + 1 => by
  rw [List.range_succ, List.map_append, List.flatten_append]
  refine (List.Perm.append (q1p h n) (.refl _)).trans ?_
  have e1 : h.filter (fun e => decide (0 ≤ e.lp ∧ e.lp < (n : Int))) = (h.filter fun e => decide (0 ≤ e.lp ∧ e.lp < ((n + 1 : Nat) : Int))).filter (fun e => decide (e.lp < (n : Int))) := by
   rw [List.filter_filter]
   refine List.filter_congr (fun e _ => ?_)
   rw [← Bool.decide_and]
   refine decide_eq_decide.2 ?_
   omega
  have e2 : ([qf8 h n].flatten : List Evt) = (h.filter fun e => decide (0 ≤ e.lp ∧ e.lp < ((n + 1 : Nat) : Int))).filter (fun e => !decide (e.lp < (n : Int))) := by
   rw [List.filter_filter, List.flatten_cons, List.flatten_nil, List.append_nil]
   refine List.filter_congr (fun e _ => ?_)
   rw [← decide_not, ← Bool.decide_and]
   refine decide_eq_decide.2 ?_
   omega
  rw [e1, List.map_cons, List.map_nil, e2]
  exact List.filter_append_perm _ _
theorem own_perm {h : List Evt} {n : Nat} (hl : ∀ e ∈ h, 0 ≤ e.lp ∧ e.lp < (n : Int)) : ((List.range n).map fun i => qf8 h i).flatten.Perm h := by
 have := q1p h n
 rwa [List.filter_eq_self.2 (fun e he => by simpa using hl e he)] at this
section
variable {c : Cfg} {s : Sim} {h : List Evt}
theorem ran (hv : Valid c) (lim : Nat) (hl : lim ≤ 60) : ∃ h, SInv c (Sim.run c lim (start c)) h ∧ h.length ≤ lim ∧ (h.length = lim ∨ (Sim.run c lim (start c)).ready c = false) := by
 obtain ⟨h, h1, h2, h3⟩ := SInv.run lim (SInv.start hv) (by simp; omega)
 exact ⟨h, by simpa using h1, h2, h3⟩
end
set_option maxRecDepth 10000
structure Good (c : Cfg) : Prop where
 h12 : Small12 c
 v : Valid c
theorem good_of {c : Cfg} (h : okB c = true) : Good c := by
 simp only [okB, Bool.and_eq_true, Bool.not_eq_true', decide_eq_true_eq] at h
 obtain ⟨h1, h2⟩ := h
 obtain ⟨g1, g2, g3, g4⟩ := qwp c h1
 exact ⟨⟨g1, g3⟩, valid_of h2⟩
def runS (c : Cfg) (lim : Nat) : Sim := Sim.run c lim (start c)
structure RunF (c : Cfg) (s : Sim) (h : List Evt) : Prop where
 inv : SInv c s h
 len : h.length ≤ 60
theorem RunF.n {c : Cfg} {s : Sim} {h : List Evt} (H : RunF c s h) : s.trace.length = c.lps.length ∧ c.lps.length ≤ 8 := ⟨H.inv.trl, H.inv.valid.lps.2⟩
set_option maxRecDepth 10000
section
variable (l : List Evt) (cl : Bool)
theorem q29 (out : List Evt) (x : Evt) (i : Nat) (cf : Bool) (hx : l[i]? = some x) (ho : out.length ≤ 1000000) (hk : qid out) (hkx : x.key.length ≤ 9223372036854775807) :
  ∃ y, itB (exec (evL T) itL none qez) (qs [0, 3, 4, 5] true 0) ⟨[(0, (.fsl ((l).map Evt.r) cl)), (3, (.fsl ((out).map Evt.r) cf)), (4, (ii i)), (5, (ii out.length))], []⟩ [] = some y ∧
   ∃ k : Nat, y.1 = .exit 2 ∧ y.2.1.marks = [] ∧ y.2.2 = [] ∧ Ev.look y.2.1.vars 0 = some (.fsl ((l).map Evt.r) cl) ∧ Ev.look y.2.1.vars 3 = some (.fsl ((out).map Evt.r) cf) ∧ Ev.look y.2.1.vars 4 = some (ii i) ∧ Ev.look y.2.1.vars 5 = some (ii k) ∧
    k ≤ out.length ∧ (∀ u, 0 < k → out[k - 1]? = some u → leE u x) ∧ (∀ v, out[k]? = some v → leE x v) := by
 refine qwz (τ := Nat) (fun k => ⟨[(0, (.fsl ((l).map Evt.r) cl)), (3, (.fsl ((out).map Evt.r) cf)), (4, (ii i)), (5, (ii k))], []⟩) (fun _ => []) (fun k => k)
  (fun k => k ≤ out.length ∧ (∀ v, out[k]? = some v → leE x v)) _ ?_ out.length ⟨Nat.le_refl _, fun v hv => by simp at hv⟩
 rintro k ⟨h1, h2⟩
 cases k with
 | zero =>
  right
  simp only [qez, Int.lt_irrefl, Ev.exec, qb, qe, qc, qai, Ev.Opnd.ev, Ev.Env.get, Ev.Env.set, Ev.Env.unset, Ev.look, qbh, ↓qn, Ev.it1, ↓reduceIte, Nat.reduceEqDiff, Int.cast_ofNat_Int, reduceCtorEq, zgw, zfa, zgy]
  exact ⟨_, rfl, 0, rfl, rfl, rfl, rfl, rfl, rfl, rfl, Nat.zero_le _, fun u h => by omega, h2⟩
 | succ j =>
  obtain ⟨y, hy⟩ : ∃ y, out[j]? = some y := ⟨_, List.getElem?_eq_getElem (by omega)⟩
  obtain ⟨k, hk1⟩ : ∃ k, k = j + 1 := ⟨_, rfl⟩
  rw [← hk1] at h1 h2 ⊢
  have c1 : (k : Int) > 0 := by omega
  have w1 : IntKind.i64.wrap ((k : Int) - 1) = (j : Int) := q4u hk1 (by omega)
  have hc := qkr y x (hk y (List.mem_of_getElem? hy)) hkx
  by_cases hlt : qr7 y x > 0
  ·left
   refine ⟨j, ?_, ⟨by omega, fun v hv => by rw [hy] at hv; cases hv; exact (by have := qo3 y x; unfold leE; omega)⟩, by omega⟩
   obtain ⟨xt, xk, xl, xi, xp, xa⟩ := x
   obtain ⟨yt, yk, yl, yi, yp, ya⟩ := y
   simp only at hc
   simp only [qez, zgs, zgr, zgq, zgt, hx, hy, c1, w1, hc, hlt, Evt.r, qaa, qw, Ev.exec, qb, qe, qc, qav, qai, Ev.evs, Ev.Opnd.ev, Ev.Env.get, Ev.Env.set, Ev.look, qf, qv, qsf, qbh, qs, Ev.keep, qal, qaf, qg, qba, qa2, qm, qh, qd, ↓qn, Ev.it1, ↓reduceIte, zga, zgb, zgc, zfe, Nat.reduceAdd, Nat.reduceEqDiff, reduceCtorEq, zgv, zfc, zgx, zfd, Nat.le_refl, zgy]
  ·right
   have hle : leE y x := by unfold leE; omega
   have h3 : ∀ u, 0 < k → out[k - 1]? = some u → leE u x := fun u _ hu => by
    rw [hk1, Nat.add_sub_cancel, hy] at hu; cases hu; exact hle
   clear hle
   obtain ⟨xt, xk, xl, xi, xp, xa⟩ := x
   obtain ⟨yt, yk, yl, yi, yp, ya⟩ := y
   simp only at hc
   simp only [qez, zgs, zgr, zgq, zgt, hx, hy, c1, w1, hc, hlt, Evt.r, qw, Ev.exec, qb, qe, qc, qav, qai, Ev.evs, Ev.Opnd.ev, Ev.Env.get, Ev.Env.set, Ev.look, qf, qv, qsf, qbh, qba, qa2, qm, qh, qd, ↓qn, Ev.it1, ↓reduceIte, zga, zgb, zgc, zfe, Nat.reduceAdd, Nat.reduceEqDiff, reduceCtorEq, zgv, zgw, zfc, zfa, zfd, Nat.le_refl, zgy]
   exact ⟨_, rfl, k, rfl, rfl, rfl, rfl, rfl, rfl, rfl, h1, h3, h2⟩
theorem q3t (hl : l.length ≤ 1000000) (hk : qid l) :
  ∃ y, itB (exec (evL T) itL none qcx) (qs [0, 3, 4] true 0) ⟨[(0, (.fsl ((l).map Evt.r) cl)), (3, .fsl [] true), (4, (ii 0))], []⟩ [] = some y ∧
   ∃ (l' : List Evt) (cf : Bool), y.1 = .exit 0 ∧ y.2.1.marks = [] ∧ y.2.2 = [] ∧ Ev.look y.2.1.vars 3 = some (.fsl ((l').map Evt.r) cf) ∧ l'.Perm l ∧ l'.Pairwise leE ∧ (l ≠ [] → cf = false) := by
 have key := qf4 (f := exec (evL T) itL none qcx) (s := qs [0, 3, 4] true 0) (α := List Evt × Bool)
  (fun i a => ⟨[(0, (.fsl ((l).map Evt.r) cl)), (3, (.fsl ((a.1).map Evt.r) a.2)), (4, (ii i))], []⟩) (fun i a => [])
  (fun i a => a.1.Perm (l.take i) ∧ a.1.Pairwise leE ∧ (i ≠ 0 → a.2 = false)) l.length
  (fun y => ∃ (l' : List Evt) (cf : Bool), y.1 = .exit 0 ∧ y.2.1.marks = [] ∧ y.2.2 = [] ∧ Ev.look y.2.1.vars 3 = some (.fsl ((l').map Evt.r) cf) ∧ l'.Perm l ∧ l'.Pairwise leE ∧ (l ≠ [] → cf = false)) ?_ ?_ 0 ([], true) (Nat.zero_le _) ⟨by simp, .nil, fun h => absurd rfl h⟩
 ·exact key
 ·rintro i ⟨out, cf⟩ hi ⟨hp, hs, _⟩
  simp only at hp hs ⊢
  obtain ⟨x, hx⟩ : ∃ x, l[i]? = some x := ⟨_, List.getElem?_eq_getElem hi⟩
  have hi' : (i : Int) < (l.length : Int) := by omega
  have hw : IntKind.i64.wrap ((i : Int) + 1) = ((i + 1 : Nat) : Int) := by rw [qas (by omega) (by omega)]; simp
  have hol : out.length ≤ 1000000 := by have := hp.length_eq; rw [List.length_take] at this; omega
  obtain ⟨⟨y, e, σ⟩, k1, k, k2, k3, k4, k5, k6, k7, k8, k9, k10, k11⟩ := q29 l cl out x i cf hx hol (fun z hz => hk z (List.mem_of_mem_take (hp.mem_iff.1 hz))) (hk x (List.mem_of_getElem? hx))
  simp only at k1 k2 k3 k4 k5 k6 k7 k8
  subst k2; subst k4
  obtain ⟨A, B, rfl, hA⟩ : ∃ A B, out = A ++ B ∧ A.length = k := ⟨out.take k, out.drop k, (List.take_append_drop _ _).symm, by simp; omega⟩
  subst hA
  have c1 : (A.length : Int) ≤ ((A ++ B).length : Int) := by rw [List.length_append]; omega
  have c2 : (0 : Int) ≤ (A.length : Int) := by omega
  have tk : List.take A.length ((A ++ B).map Evt.r) = A.map Evt.r := by rw [List.map_append]; exact List.take_left' (by simp)
  have dr : List.drop A.length ((A ++ B).map Evt.r) = B.map Evt.r := by rw [List.map_append]; exact List.drop_left' (by simp)
  have hlen : A.length + B.length ≤ 1000000 := by rw [List.length_append] at hol; exact hol
  have new : (A ++ x :: B).Perm (l.take (i + 1)) ∧ (A ++ x :: B).Pairwise leE := by
   constructor
   ·rw [qjb hx]
    exact (List.perm_middle.trans ((List.Perm.cons x hp))).trans (List.perm_append_singleton x _).symm
   ·refine qvc qth hs (fun u hu => ?_) (fun v hv => ?_)
    ·have hlt : A.length - 1 < A.length := (List.getElem?_eq_some_iff.1 hu).1
     refine k10 u (by omega) ?_
     rw [List.getElem?_append_left hlt]; exact hu
    ·refine k11 v ?_
     rw [List.getElem?_append_right (Nat.le_refl _), Nat.sub_self]; exact hv
  refine .inl ⟨(A ++ x :: B, false), ?_, new.1, new.2, fun _ => rfl⟩
  have b1 : A.length * 64 ≤ 140737488355328 := by omega
  have b2 : (A.length + 1) * 64 ≤ 140737488355328 := by omega
  have b3 : (A.length + 1 + B.length) * 64 ≤ 140737488355328 := by omega
  have tb : List.take ((A ++ B).length - A.length) (B.map Evt.r) = B.map Evt.r := List.take_of_length_le (by simp)
  have ta : List.take A.length (A.map Evt.r) = A.map Evt.r := List.take_of_length_le (by simp)
  have ta2 : ∀ e : List AV, List.take (A.length + 1) (A.map Evt.r ++ [e]) = A.map Evt.r ++ [e] := fun e => List.take_of_length_le (by simp)
  have ta3 : ∀ e : List AV, List.take (A.length + 1 + B.length) (A.map Evt.r ++ e :: B.map Evt.r) = A.map Evt.r ++ e :: B.map Evt.r := fun e => List.take_of_length_le (by simp; omega)
  have okAB : qcd 6 ((A ++ B).map Evt.r) = true := qew _
  have goal' : (AV.fsl ((A ++ x :: B).map Evt.r) false) = AV.fsl (A.map Evt.r ++ x.r :: B.map Evt.r) false := by rw [List.map_append, List.map_cons]
  have n1 : ∀ p q : Nat, p + 1 + q ≤ p + (q + 1) := fun p q => by omega
  have n2 : ∀ q : Nat, 1 + q ≤ q + 1 := fun q => by omega
  simp only
  rw [goal']
  rcases A with _ | ⟨a, A⟩ <;> rcases B with _ | ⟨b, B⟩
  ·obtain ⟨xt, xk, xl, xi, xp, xa⟩ := x
   simp only [zgl, zgb, List.map_nil, Int.ofNat_zero] at *
   simp only [qcx, zgs, zgr, zgq, zgt, hx, hi', hw, k1, k3, k5, k6, k7, k8, c1, tk, dr, b1, b2, ta2, okAB, imp_self, Nat.sub_zero, Int.toNat_zero, Evt.r, qaa, qw, Ev.exec, qb, qe, qc, qai, qm5, Ev.Opnd.ev, Ev.Env.get, Ev.Env.set, Ev.look, qf9, qf, qbq, qv, qfk, Ev.AV.cells, qo, Ev.AV.plain, qao, ql, qs, Ev.keep, qal, qaf, qg, qba, qm, qh, qd, qu, qak, qbg, List.replicate_one, zgi, ↓qn, ↓qa4, Ev.it1, ↓reduceIte, zga, zgb, zgd, zgc, zgo, zfe, zgg, zgl, zgj, Nat.reduceAdd, Nat.reduceEqDiff, Nat.reduceMul, Nat.reduceLT, Nat.reduceLeDiff, Nat.reducePow, Int.cast_ofNat_Int, reduceCtorEq, zgv, zfc, Bool.and_true, zfa, zgx, ne_eq, zfb, zff, zfd, Nat.add_zero, zgu, Nat.le_refl, Option.isSome_some, Option.isSome_none, zgy, implies_true]
  ·generalize hRB : List.map Evt.r (b :: B) = RB at *
   have nB : ¬ RB = [] := by rw [← hRB]; simp
   have lB : RB.length = (b :: B).length := by rw [← hRB]; simp
   have oB : qcd 6 RB = true := by rw [← hRB]; exact qew _
   have loB : ∀ n, qiu n RB = true := fun n => by rw [← hRB]; exact qaa n _
   obtain ⟨xt, xk, xl, xi, xp, xa⟩ := x
   simp only [zgl, zgb, List.map_nil, Int.ofNat_zero, hRB, Nat.sub_zero, zgg] at *
   generalize hrb : (b :: B).length = nb at *
   simp only [qcx, zgs, zgr, zgq, zgt, hx, hi', hw, k1, k3, k5, k6, k7, k8, c1, c2, tk, b1, b2, b3, ta, ta2, ta3, tb, okAB, imp_self, n2, Int.le_refl, Nat.sub_zero, nB, lB, loB, qbc, Int.toNat_zero, Evt.r, qaa, qw, Ev.exec, qb, qe, qc, qai, qm5, Ev.Opnd.ev, Ev.Env.get, Ev.Env.set, Ev.look, qf9, qf, qbq, qv, qfk, Ev.AV.cells, qo, Ev.AV.plain, qao, ql, qs, Ev.keep, qal, qaf, qg, qba, qm, qh, qd, qak, qbc, qbg, List.replicate_one, zgi, ↓qn, ↓qa4, Ev.it1, ↓reduceIte, zga, zgb, zgd, zgc, zgo, zfe, zgg, zgm, zgl, zgj, Nat.reduceAdd, Nat.reduceEqDiff, Nat.reduceMul, Nat.reduceLT, Nat.reduceLeDiff, Nat.reducePow, reduceCtorEq, zgv, zfc, Bool.and_true, zfa, zgx, ne_eq, zfb, zff, zfd, Nat.add_zero, zgu, Nat.le_refl, Option.isSome_some, Option.isSome_none, zgy, implies_true]
  ·generalize hRA : List.map Evt.r (a :: A) = RA at *
   have nA : ¬ RA = [] := by rw [← hRA]; simp
   have lA : RA.length = (a :: A).length := by rw [← hRA]; simp
   have oA : qcd 6 RA = true := by rw [← hRA]; exact qew _
   have loA : ∀ n, qiu n RA = true := fun n => by rw [← hRA]; exact qaa n _
   obtain ⟨xt, xk, xl, xi, xp, xa⟩ := x
   simp only [zgn, zgb, List.map_nil, hRA, Nat.add_zero, Nat.sub_self] at *
   generalize hra : (a :: A).length = na at *
   simp only [qcx, zgs, zgr, zgq, zgt, hx, hi', hw, k1, k3, k5, k6, k7, k8, c1, c2, tk, dr, b1, b2, ta2, tb, okAB, imp_self, Int.le_refl, Nat.sub_zero, nA, lA, loA, qbc, zfe, qjj, Evt.r, qaa, qw, Ev.exec, qb, qe, qc, qai, qm5, Ev.Opnd.ev, Ev.Env.get, Ev.Env.set, Ev.look, qf9, qf, qbq, qv, qfk, Ev.AV.cells, qo, Ev.AV.plain, qao, ql, qs, Ev.keep, qal, qaf, qg, qba, qm, qh, qd, qu, qak, qbc, qbg, List.replicate_one, zgi, ↓qn, ↓qa4, Ev.it1, ↓reduceIte, zga, zgb, zgp, zgd, zgc, zgo, zfe, zgg, zgl, zgj, Nat.reduceAdd, Nat.reduceEqDiff, Nat.reduceMul, Nat.reduceLT, Nat.reduceLeDiff, Nat.reducePow, Int.reduceToNat, reduceCtorEq, zgv, zfc, Bool.and_true, zfa, zgx, ne_eq, zfb, zff, zfd, Nat.add_zero, zgu, Nat.le_refl, Option.isSome_some, Option.isSome_none, zgy, implies_true]
  ·generalize hRA : List.map Evt.r (a :: A) = RA at *
   generalize hRB : List.map Evt.r (b :: B) = RB at *
   have nA : ¬ RA = [] := by rw [← hRA]; simp
   have nB : ¬ RB = [] := by rw [← hRB]; simp
   have lA : RA.length = (a :: A).length := by rw [← hRA]; simp
   have lB : RB.length = (b :: B).length := by rw [← hRB]; simp
   have oA : qcd 6 RA = true := by rw [← hRA]; exact qew _
   have oB : qcd 6 RB = true := by rw [← hRB]; exact qew _
   have loA : ∀ n, qiu n RA = true := fun n => by rw [← hRA]; exact qaa n _
   have loB : ∀ n, qiu n RB = true := fun n => by rw [← hRB]; exact qaa n _
   generalize hra : (a :: A).length = na at *
   generalize hrb : (b :: B).length = nb at *
   generalize (a :: A) ++ (b :: B) = AB at *
   obtain ⟨xt, xk, xl, xi, xp, xa⟩ := x
   simp only [qcx, zgs, zgr, zgq, zgt, hx, hi', hw, k1, k3, k5, k6, k7, k8, c1, c2, tk, dr, b1, b2, b3, ta, ta2, ta3, tb, okAB, imp_self, n1, List.append_assoc, Int.le_refl, Nat.sub_zero, nA, nB, lA, lB, oA, oB, loA, loB, qjj, Evt.r, qaa, qw, Ev.exec, qb, qe, qc, qai, qm5, Ev.Opnd.ev, Ev.Env.get, Ev.Env.set, Ev.look, qf9, qf, qbq, qv, qfk, Ev.AV.cells, qo, Ev.AV.plain, qao, ql, qs, Ev.keep, qal, qaf, qg, qba, qm, qh, qd, qak, qbc, qbg, List.replicate_one, zgi, ↓qn, ↓qa4, Ev.it1, ↓reduceIte, zga, zgb, zgp, zgd, zgc, zgo, zfe, zgg, zgm, zgl, zgj, Nat.reduceAdd, Nat.reduceEqDiff, Nat.reduceMul, Nat.reduceLT, Nat.reduceLeDiff, Nat.reducePow, Int.reduceToNat, reduceCtorEq, zgv, zfc, Bool.and_true, zfa, zgx, ne_eq, zfb, zff, zfd, zgu, Nat.le_refl, Option.isSome_some, Option.isSome_none, zgy, implies_true]
 ·rintro ⟨out, cf⟩ ⟨hp, hs, hc⟩
  rw [List.take_length] at hp
  simp only at hp hs hc ⊢
  simp only [qcx, Int.lt_irrefl, Ev.exec, qb, qe, qc, qai, Ev.Opnd.ev, Ev.Env.get, Ev.Env.set, Ev.look, ql, zgi, ↓qn, Ev.it1, ↓reduceIte, Nat.reduceEqDiff, reduceCtorEq, zgw, zfa, ne_eq, zgy]
  exact ⟨_, rfl, out, cf, rfl, rfl, rfl, rfl, hp, hs, fun h => hc (by intro e; exact h (List.eq_nil_of_length_eq_zero e))⟩
theorem qru (hl : l.length ≤ 1000000) (hk : qid l) : ∃ (l' : List Evt) (cf : Bool), l'.Perm l ∧ l'.Pairwise leE ∧ (l ≠ [] → cf = false) ∧ qa3 (evL T) qc7 [(.fsl ((l).map Evt.r) cl)] = some (.fsl ((l').map Evt.r) cf) := by
 obtain ⟨⟨y, e, σ⟩, k1, l', cf, k2, k3, k4, k5, k6, k7, k8⟩ := q3t l cl hl hk
 simp only at k1 k2 k3 k4 k5
 subst k2; subst k4
 refine ⟨l', cf, k6, k7, k8, ?_⟩
 rw [qa3, qad qq6 qpx]
 simp only [qix, k1, k3, k5, qaa, qj, Ev.exec, qb, qe, qc, qai, Ev.Opnd.ev, Ev.Env.get, Ev.Env.set, Ev.look, qk, qi, qq, qaj, Ev.kill, qag, qs, Ev.keep, qal, qaf, qg, qba, qm, qu, qx, ↓qn, ↓qa4, ↓reduceIte, zga, zgb, zfe, Nat.reduceEqDiff, reduceCtorEq, zfc, zgx, zfd, zgy]
theorem qlj (hl : l.length ≤ 1000000) (hk : qid l) (hd : qu6 l) : ∃ cf : Bool, (l ≠ [] → cf = false) ∧ qa3 (evL T) qc7 [(.fsl ((l).map Evt.r) cl)] = some (.fsl ((qga l).map Evt.r) cf) := by
 obtain ⟨l', cf, h1, h2, h3, h4⟩ := qru l cl hl hk
 rw [← qp4 hd h1 h2]; exact ⟨cf, h3, h4⟩
end
set_option maxRecDepth 10000
section
variable (c : Cfg)
theorem q3j (k : Nat) (l : List Start) (hkl : c.lps[k]? = some l) (o0 : List Evt) (g0 : Nat) (hl : l.length ≤ 12) (hk : k ≤ 12) (ho : o0.length ≤ 1000) :
  ∃ y, itB (exec (evL T) itL none qgn) (qs [1, 3, 4, 5] true 1) ⟨[(1, (.fptr [(.fsl ((c.lps).map lpC) false), (.fsl ((c.progs).map qcf) false), (ii c.look), (ii c.fin), (ii c.cap)])), (3, .sl 0 g0 0 o0.length false), (4, (ii k)), (5, (ii 0))], []⟩ [.row 6 (o0.map Evt.r) g0] = some y ∧
   ∃ g : Nat, y.1 = .exit 2 ∧ y.2.1.marks = [] ∧ y.2.2 = [.row 6 ((o0 ++ qjy k l).map Evt.r) g] ∧ Ev.look y.2.1.vars 3 = some (.sl 0 g 0 (o0 ++ qjy k l).length false) ∧ Ev.look y.2.1.vars 1 = some (.fptr [(.fsl ((c.lps).map lpC) false), (.fsl ((c.progs).map qcf) false), (ii c.look), (ii c.fin), (ii c.cap)]) ∧ Ev.look y.2.1.vars 4 = some (ii k) := by
 have key := qf4 (f := exec (evL T) itL none qgn) (s := qs [1, 3, 4, 5] true 1) (α := List Evt × Nat)
  (fun i a => ⟨[(1, (.fptr [(.fsl ((c.lps).map lpC) false), (.fsl ((c.progs).map qcf) false), (ii c.look), (ii c.fin), (ii c.cap)])), (3, .sl 0 a.2 0 a.1.length false), (4, (ii k)), (5, (ii i))], []⟩) (fun i a => [.row 6 (a.1.map Evt.r) a.2])
  (fun i a => a.1 = o0 ++ qjy k (l.take i)) l.length
  (fun y => ∃ g : Nat, y.1 = .exit 2 ∧ y.2.1.marks = [] ∧ y.2.2 = [.row 6 ((o0 ++ qjy k l).map Evt.r) g] ∧ Ev.look y.2.1.vars 3 = some (.sl 0 g 0 (o0 ++ qjy k l).length false) ∧ Ev.look y.2.1.vars 1 = some (.fptr [(.fsl ((c.lps).map lpC) false), (.fsl ((c.progs).map qcf) false), (ii c.look), (ii c.fin), (ii c.cap)]) ∧ Ev.look y.2.1.vars 4 = some (ii k)) ?_ ?_ 0 (o0, g0) (Nat.zero_le _) (by simp [qjy])
 ·exact key
 ·rintro i ⟨out, g⟩ hi hout
  simp only at hout ⊢
  obtain ⟨x, hx⟩ : ∃ x, l[i]? = some x := ⟨_, List.getElem?_eq_getElem hi⟩
  have hi' : (i : Int) < (l.length : Int) := by omega
  have hw : IntKind.i64.wrap ((i : Int) + 1) = ((i + 1 : Nat) : Int) := by rw [qas (by omega) (by omega)]; simp
  have ho2 : out.length ≤ 1012 := by rw [hout, List.length_append, qzk]; have := List.length_take_le i l; omega
  have hb : (out.length + 1) * 64 ≤ 140737488355328 := by omega
  obtain ⟨t1, t2⟩ := qu3 out (qiw k i x).r
  have hr : (out ++ [qiw k i x]).map Evt.r = out.map Evt.r ++ [(qiw k i x).r] := by rw [List.map_append]; rfl
  refine .inl ⟨(out ++ [qiw k i x], g + 1), ?_, by simp only; rw [q3m hx, hout, List.append_assoc]⟩
  have hlo := qaa 1 (out ++ [qiw k i x])
  simp only
  rw [hr, List.length_append]
  rw [hr] at hlo
  have hrep : ∀ v : List AV, List.replicate 2 v = [v, v] := fun _ => rfl
  simp only [qiw, Evt.r, List.map_cons, List.map_nil, qby] at t2 hlo ⊢
  simp only [qgn, zgs, zgr, zgq, zgt, hx, hkl, hi', hw, hb, t1, hlo, hrep, lpC, Start.r, qcb, qax, Ev.exec, qb, qe, qc, qai, qm5, Ev.Opnd.ev, Ev.Env.get, Ev.Env.set, Ev.look, qf, qbq, qv, qfz, qfk, Ev.AV.cells, Ev.AV.uc, qo, Ev.AV.plain, qao, ql, qs, Ev.keep, qal, qaf, qg, Ev.SObj.lo, qba, qm, qbm, qdq, qh, qd, qbc, qbg, List.replicate_one, zgi, ↓qn, Ev.it1, ↓reduceIte, zga, zgb, zgd, zgc, zgo, zfe, zgf, zgg, zgm, zgl, zgj, zgk, zgh, Nat.reduceAdd, Nat.reduceEqDiff, Nat.reduceMul, Nat.reduceLT, Nat.reduceLeDiff, Nat.reducePow, zgv, zfc, zfa, zgx, ne_eq, zfb, zff, zfd, zgu, Nat.le_refl, zgy]
 ·rintro ⟨out, g⟩ hout
  rw [List.take_length] at hout
  simp only at hout ⊢
  simp only [qgn, zgs, zgr, zgq, zgt, hkl, lpC, Int.lt_irrefl, Ev.exec, qb, qe, qc, qai, Ev.Opnd.ev, Ev.Env.get, Ev.Env.set, Ev.look, qf, qv, ql, zgi, ↓qn, Ev.it1, ↓reduceIte, zga, zgb, zgp, zgg, zgh, Nat.reduceEqDiff, zgw, zfa, zfd, zgy]
  exact ⟨_, rfl, g, rfl, rfl, by rw [hout], by rw [hout, List.length_append]; rfl, rfl, rfl⟩
theorem q3n (h : Small12 c) :
  ∃ y, itB (exec (evL T) itL none qgo) (qs [1, 3, 4] true 1) ⟨[(1, (.fptr [(.fsl ((c.lps).map lpC) false), (.fsl ((c.progs).map qcf) false), (ii c.look), (ii c.fin), (ii c.cap)])), (3, .sl 0 0 0 0 false), (4, (ii 0))], []⟩ [.row 6 [] 0] = some y ∧
   ∃ g : Nat, y.1 = .exit 0 ∧ y.2.1.marks = [] ∧ y.2.2 = [.row 6 ((qjp c.lps).map Evt.r) g] ∧ Ev.look y.2.1.vars 3 = some (.sl 0 g 0 (qjp c.lps).length false) := by
 have key := qf4 (f := exec (evL T) itL none qgo) (s := qs [1, 3, 4] true 1) (α := List Evt × Nat)
  (fun i a => ⟨[(1, (.fptr [(.fsl ((c.lps).map lpC) false), (.fsl ((c.progs).map qcf) false), (ii c.look), (ii c.fin), (ii c.cap)])), (3, .sl 0 a.2 0 a.1.length false), (4, (ii i))], []⟩) (fun i a => [.row 6 (a.1.map Evt.r) a.2])
  (fun i a => a.1 = qjp (c.lps.take i)) c.lps.length
  (fun y => ∃ g : Nat, y.1 = .exit 0 ∧ y.2.1.marks = [] ∧ y.2.2 = [.row 6 ((qjp c.lps).map Evt.r) g] ∧ Ev.look y.2.1.vars 3 = some (.sl 0 g 0 (qjp c.lps).length false)) ?_ ?_ 0 ([], 0) (Nat.zero_le _) (by simp [qjp])
 ·exact key
 ·rintro i ⟨out, g⟩ hi hout
  simp only at hout ⊢
  obtain ⟨x, hx⟩ : ∃ x, c.lps[i]? = some x := ⟨_, List.getElem?_eq_getElem hi⟩
  have hlps := h.lps
  have hi' : (i : Int) < (c.lps.length : Int) := by omega
  have hw : IntKind.i64.wrap ((i : Int) + 1) = ((i + 1 : Nat) : Int) := by rw [qas (by omega) (by omega)]; simp
  have hl := h.len i
  obtain ⟨⟨y, e, σ⟩, k1, g', k2, k3, k4, k5, k6, k7⟩ := q3j c i x hx out g (h.lp _ (List.mem_of_getElem? hx)) (by omega) (by rw [hout]; omega)
  simp only at k1 k2 k3 k4 k5 k6 k7
  subst k2; subst k4
  refine .inl ⟨(out ++ qjy i x, g'), ?_, by simp only; rw [qzt hx, hout]⟩
  simp only [zgp] at k5 ⊢
  simp only [qgo, hi', hw, k1, k3, k5, k6, k7, qaa, qcb, qax, Ev.exec, qb, qe, qc, qai, Ev.Opnd.ev, Ev.Env.get, Ev.Env.set, Ev.look, qf, qv, qao, ql, qs, Ev.keep, qal, qaf, qg, Ev.SObj.lo, qba, qm, qbm, qdq, qh, qd, zgi, ↓qn, ↓qa4, Ev.it1, ↓reduceIte, zga, zgb, zgc, zfe, zgg, zgh, Nat.reduceEqDiff, zgv, zfc, zfa, zgx, zfd, zgu, zgy]
 ·rintro ⟨out, g⟩ hout
  rw [List.take_length] at hout
  simp only at hout ⊢
  simp only [qgo, Int.lt_irrefl, Ev.exec, qb, qe, qc, qai, Ev.Opnd.ev, Ev.Env.get, Ev.Env.set, Ev.look, qf, qv, ql, zgi, ↓qn, Ev.it1, ↓reduceIte, zgg, zgh, Nat.reduceEqDiff, zgw, zfa, zgy]
  exact ⟨_, rfl, g, rfl, rfl, by rw [hout], by rw [hout]; rfl⟩
theorem qvq (h : Small12 c) : ∃ cf : Bool, qa3 (evL T) qex [(.agg [(.fsl ((c.lps).map lpC) false), (.fsl ((c.progs).map qcf) false), (ii c.look), (ii c.fin), (ii c.cap)])] = some (.fsl ((qga (qjp c.lps)).map Evt.r) cf) := by
 obtain ⟨⟨y, e, σ⟩, k1, g, k2, k3, k4, k5⟩ := q3n c h
 simp only at k1 k2 k3 k4 k5
 subst k2; subst k4
 have hl := h.len c.lps.length
 rw [List.take_length] at hl
 obtain ⟨cf, _, hs⟩ := qlj (qjp c.lps) false (by omega) (q5l _) (q5z _)
 refine ⟨cf, ?_⟩
 have t1 := (qu3 (qjp c.lps) []).1
 rw [qa3, qad qul qtc]
 simp only [qkq, k1, k3, k5, hs, t1, qaa, qcb, qax, qj, Ev.exec, qb, qe, qc, qav, qai, Ev.evs, Ev.Opnd.ev, Ev.Env.get, Ev.Env.set, Ev.look, qk, Ev.AV.cells, qo, Ev.AV.plain, qi, qq, qaj, Ev.kill, qag, qs, Ev.keep, qal, qaf, qg, Ev.SObj.lo, qba, qm, qbm, qdq, qh, qd, qu, qx, zgi, ↓qn, ↓qa4, ↓reduceIte, zga, zgb, zgd, zgc, zgo, zfe, zgg, zgl, zgj, Nat.reduceEqDiff, Nat.reduceLT, zgv, zfc, zgx, ne_eq, zfb, zff, zfd, zgu, Nat.le_refl, zgy]
end
set_option maxRecDepth 10000
section
variable (D : List Evt) (G : List (List Int)) (cd cg : Bool)
theorem q3h (o : List Evt) (g i : Nat) (x : Evt) (hx : D[i]? = some x) (hG : G.length ≤ 1000) (hk : ∀ k ∈ G, k.length ≤ 9223372036854775807) (hxk : x.key.length ≤ 9223372036854775807) :
  ∃ y, itB (exec (evL T) itL none qgq) (qs [0, 1, 5, 6, 7, 8] true 1) ⟨[(0, (.fsl ((D).map Evt.r) cd)), (1, (.fsl ((G).map qep) cg)), (5, .sl 0 g 0 o.length false), (6, (ii i)), (7, (bb false)), (8, (ii ((0 : Nat))))], []⟩ [.row 6 (o.map Evt.r) g] = some y ∧
   (y.1 = .exit 2 ∧ y.2.1.marks = [] ∧ y.2.2 = [.row 6 (o.map Evt.r) g] ∧ Ev.look y.2.1.vars 0 = some (.fsl ((D).map Evt.r) cd) ∧ Ev.look y.2.1.vars 1 = some (.fsl ((G).map qep) cg) ∧ Ev.look y.2.1.vars 5 = some (.sl 0 g 0 o.length false) ∧ Ev.look y.2.1.vars 6 = some (ii i) ∧ Ev.look y.2.1.vars 7 = some (bb (!qjs G x))) := by
 have hb : (!qjs G x) = G.any fun k => decide (x.key = k) := by
  unfold qjs
  rw [Bool.not_not]
  congr 1; funext k; exact decide_eq_decide.2 eq_comm
 rw [hb]
 have key := qf4 (f := exec (evL T) itL none qgq) (s := qs [0, 1, 5, 6, 7, 8] true 1) (α := Unit)
  (fun j _ => ⟨[(0, (.fsl ((D).map Evt.r) cd)), (1, (.fsl ((G).map qep) cg)), (5, .sl 0 g 0 o.length false), (6, (ii i)), (7, (bb (((G.take j).any fun k => decide (x.key = k))))), (8, (ii j))], []⟩) (fun _ _ => [.row 6 (o.map Evt.r) g])
  (fun _ _ => True) G.length
  (fun y => y.1 = .exit 2 ∧ y.2.1.marks = [] ∧ y.2.2 = [.row 6 (o.map Evt.r) g] ∧ Ev.look y.2.1.vars 0 = some (.fsl ((D).map Evt.r) cd) ∧ Ev.look y.2.1.vars 1 = some (.fsl ((G).map qep) cg) ∧ Ev.look y.2.1.vars 5 = some (.sl 0 g 0 o.length false) ∧ Ev.look y.2.1.vars 6 = some (ii i) ∧ Ev.look y.2.1.vars 7 = some (bb ((G.any fun k => decide (x.key = k))))) ?_ ?_ 0 () (Nat.zero_le _) trivial
 ·exact key
 ·rintro j _ hj _
  obtain ⟨z, hz⟩ : ∃ z, G[j]? = some z := ⟨_, List.getElem?_eq_getElem hj⟩
  have hj' : (j : Int) < (G.length : Int) := by omega
  have hw : IntKind.i64.wrap ((j : Int) + 1) = ((j + 1 : Nat) : Int) := by rw [qas (by omega) (by omega)]; simp
  have e1 : ((G.take (j + 1)).any fun k => decide (x.key = k)) = (((G.take j).any fun k => decide (x.key = k)) || decide (x.key = z)) := by rw [qjb hz, List.any_append]; simp
  have sk := qoi x.key z false false hxk (hk z (List.mem_of_getElem? hz))
  refine .inl ⟨(), ?_, trivial⟩
  rw [e1]
  generalize ((G.take j).any fun k => decide (x.key = k)) = f
  generalize decide (x.key = z) = f2 at *
  obtain ⟨xt, xk, xl, xi, xp, xa⟩ := x
  cases f <;> simp only [qgq, zgs, zgr, zgq, zgt, hx, hz, hj', hw, sk, Evt.r, qep, qbk, qaa, qw, Ev.exec, qb, qe, qc, qav, qai, Ev.evs, Ev.Opnd.ev, Ev.Env.get, Ev.Env.set, Ev.Env.unset, Ev.look, qf, qv, qao, ql, qs, Ev.keep, qal, qaf, qg, Ev.SObj.lo, qba, qm, qdq, qh, qd, zgi, ↓qn, Ev.it1, ↓reduceIte, zga, zgb, zgc, zfe, zgf, zgg, zgh, Nat.reduceAdd, Nat.reduceEqDiff, reduceCtorEq, zgv, zfc, Bool.true_or, Bool.false_or, zfa, Bool.true_eq_false, zgx, zfd, zgu, zgy]
 ·rintro _ _
  simp only [List.take_length]
  simp only [qgq, Int.lt_irrefl, Ev.exec, qb, qe, qc, qai, Ev.Opnd.ev, Ev.Env.get, Ev.Env.set, Ev.look, ql, zgi, ↓qn, Ev.it1, ↓reduceIte, Nat.reduceEqDiff, reduceCtorEq, zgw, zfa, zgy]
  exact ⟨_, rfl, rfl, rfl, rfl, rfl, rfl, rfl, rfl, rfl⟩
theorem q55 (hD : D.length ≤ 1000000) (hDk : qid D) (hG : G.length ≤ 1000) (hk : ∀ k ∈ G, k.length ≤ 9223372036854775807) :
  qa3 (evL T) qf3 [(.fsl ((D).map Evt.r) cd), (.fsl ((G).map qep) cg)] = some (.fsl (((D.filter (qjs G))).map Evt.r) false) := by
 have hL : ∃ y, itB (exec (evL T) itL none qe9) (qs [0, 1, 5, 6] true 1) ⟨[(0, (.fsl ((D).map Evt.r) cd)), (1, (.fsl ((G).map qep) cg)), (5, .sl 0 0 0 0 false), (6, (ii ((0 : Nat))))], []⟩ [.row 6 [] 0] = some y ∧
   ∃ g : Nat, y.1 = .exit 0 ∧ y.2.1.marks = [] ∧ y.2.2 = [.row 6 ((D.filter (qjs G)).map Evt.r) g] ∧ Ev.look y.2.1.vars 5 = some (.sl 0 g 0 (D.filter (qjs G)).length false) := by
  have key := qf4 (f := exec (evL T) itL none qe9) (s := qs [0, 1, 5, 6] true 1) (α := Nat)
   (fun i g => ⟨[(0, (.fsl ((D).map Evt.r) cd)), (1, (.fsl ((G).map qep) cg)), (5, .sl 0 g 0 ((D.take i).filter (qjs G)).length false), (6, (ii i))], []⟩) (fun i g => [.row 6 (((D.take i).filter (qjs G)).map Evt.r) g])
   (fun _ _ => True) D.length
   (fun y => ∃ g : Nat, y.1 = .exit 0 ∧ y.2.1.marks = [] ∧ y.2.2 = [.row 6 ((D.filter (qjs G)).map Evt.r) g] ∧ Ev.look y.2.1.vars 5 = some (.sl 0 g 0 (D.filter (qjs G)).length false)) ?_ ?_ 0 0 (Nat.zero_le _) trivial
  ·exact key
  ·rintro i g hi _
   obtain ⟨x, hx⟩ : ∃ z, D[i]? = some z := ⟨_, List.getElem?_eq_getElem hi⟩
   have hi' : (i : Int) < (D.length : Int) := by omega
   have hw : IntKind.i64.wrap ((i : Int) + 1) = ((i + 1 : Nat) : Int) := by rw [qas (by omega) (by omega)]; simp
   obtain ⟨⟨y, e, σ⟩, k1, k2, k3, k4, k5, k6, k7, k8, k9⟩ := q3h D G cd cg ((D.take i).filter (qjs G)) g i x hx hG hk (hDk x (List.mem_of_getElem? hx))
   simp only [Int.ofNat_zero] at k1 k2 k3 k4 k5 k6 k7 k8 k9
   subst k2; subst k4
   have hle : ((D.take i).filter (qjs G)).length ≤ 1000000 := by
    have h1 := List.length_filter_le (qjs G) (D.take i)
    have h2 := List.length_take_le' i D
    omega
   cases hb : qjs G x with
   | true =>
    rw [hb] at k9
    have e1 : (D.take (i + 1)).filter (qjs G) = (D.take i).filter (qjs G) ++ [x] := by rw [qjb hx, List.filter_append]; simp [hb]
    refine .inl ⟨g + 1, ?_, trivial⟩
    rw [e1]
    generalize (D.take i).filter (qjs G) = W at *
    have tk : List.take W.length (W.map Evt.r) = W.map Evt.r := List.take_of_length_le (by simp)
    have b : (W.length + 1) * 64 ≤ 140737488355328 := by omega
    have hm : (W ++ [x]).map Evt.r = W.map Evt.r ++ [x.r] := by rw [List.map_append]; rfl
    have hlo : qiu 1 (W.map Evt.r ++ [x.r]) = true := by rw [← hm]; exact qaa _ _
    rw [hm, List.length_append]
    obtain ⟨xt, xk, xl, xi, xp, xa⟩ := x
    simp only [Evt.r] at hlo
    simp only [qe9, zgs, zgr, zgq, zgt, hx, hi', hw, k1, k3, k5, k6, k7, k8, k9, tk, b, hlo, Evt.r, qbk, qaa, Ev.exec, qb, qe, qc, qai, qm5, Ev.Opnd.ev, Ev.Env.get, Ev.Env.set, Ev.look, qf, qbq, qv, qfk, Ev.AV.cells, qo, Ev.AV.plain, qao, ql, qs, Ev.keep, qal, qaf, qg, Ev.SObj.lo, qba, qm, qdq, qbc, qbg, List.replicate_one, zgi, ↓qn, ↓qa4, Ev.it1, ↓reduceIte, zga, zgb, zgd, zgc, zfe, zgj, Nat.reduceAdd, Nat.reduceEqDiff, Nat.reduceMul, Nat.reduceLeDiff, Nat.reducePow, reduceCtorEq, zgv, zfc, Bool.not_true, Bool.not_false, zgx, ne_eq, zfb, zff, zfd, zgu, Nat.le_refl, zgy]
   | false =>
    rw [hb] at k9
    have e1 : (D.take (i + 1)).filter (qjs G) = (D.take i).filter (qjs G) := by rw [qjb hx, List.filter_append]; simp [hb]
    refine .inl ⟨g, ?_, trivial⟩
    rw [e1]
    generalize (D.take i).filter (qjs G) = W at *
    simp only [qe9, hi', hw, k1, k3, k5, k6, k7, k8, k9, qbk, qaa, Ev.exec, qb, qe, qc, qai, Ev.Opnd.ev, Ev.Env.get, Ev.Env.set, Ev.look, qao, ql, qs, Ev.keep, qal, qaf, qg, Ev.SObj.lo, qba, qm, qdq, zgi, ↓qn, ↓qa4, Ev.it1, ↓reduceIte, zga, zgb, zgc, zfe, Nat.reduceEqDiff, reduceCtorEq, zgv, zfc, Bool.not_true, Bool.not_false, zfa, zgx, zfd, zgu, zgy]
  ·rintro g _
   simp only [List.take_length]
   simp only [qe9, Int.lt_irrefl, Ev.exec, qb, qe, qc, qai, Ev.Opnd.ev, Ev.Env.get, Ev.Env.set, Ev.look, ql, zgi, ↓qn, Ev.it1, ↓reduceIte, Nat.reduceEqDiff, reduceCtorEq, zgw, zfa, zgy]
   exact ⟨_, rfl, g, rfl, rfl, rfl, rfl⟩
 obtain ⟨⟨y, e, σ⟩, k1, g, k2, k3, k4, k5⟩ := hL
 simp only [Int.ofNat_zero] at k1 k2 k3 k4 k5
 subst k2; subst k4
 have tk : List.take (D.filter (qjs G)).length ((D.filter (qjs G)).map Evt.r) = (D.filter (qjs G)).map Evt.r := List.take_of_length_le (by simp)
 generalize D.filter (qjs G) = W at *
 rw [qa3, qad qum qsw]
 simp only [qkm, k1, k3, k5, tk, qbk, qaa, qj, Ev.exec, qb, qe, qc, qai, Ev.Opnd.ev, Ev.Env.get, Ev.Env.set, Ev.look, qk, qi, qq, qaj, Ev.kill, qag, qs, Ev.keep, qal, qaf, qg, Ev.SObj.lo, qba, qm, qdq, qu, qhb, qe3, zgi, ↓qn, ↓qa4, ↓reduceIte, zga, zgb, zgd, zgc, zgo, zfe, zgg, zgl, Nat.reduceAdd, Nat.reduceEqDiff, Nat.reduceLT, reduceCtorEq, zgv, zgw, zfc, zfa, zgx, and_true, zfd, zgu, Nat.le_refl, zgy]
end
set_option maxRecDepth 10000
theorem q63 (c : Cfg) (h : Small12 c) (h1 : 1 ≤ c.lps.length) : qa3 (evL T) qh1 [(.agg [(.fsl ((c.lps).map lpC) false), (.fsl ((c.progs).map qcf) false), (ii c.look), (ii c.fin), (ii c.cap)])] = some (.agg [(.fsl (((start c).trace).map qcp) false), (.fsl (((qj6 c.lps)).map lpF) false), (.fsl (((start c).pend).map Evt.r) false), (ii ((start c).n)), (bb ((start c).over))]) := by
 have hs := qw8 c h
 obtain ⟨cf, hi⟩ := qvq c h
 have hlps := h.lps
 have hL : ∃ y, itB (exec (evL T) itL none qgf) (qs [1, 2, 3, 4] false 2) ⟨[(1, (.fptr [(.fsl ((c.lps).map lpC) false), (.fsl ((c.progs).map qcf) false), (ii c.look), (ii c.fin), (ii c.cap)])), (2, .ptr 0 0 0 0), (3, .ptr 1 0 0 0), (4, (ii ((0 : Nat))))], []⟩ (.row 5 [[.fsl [] false, .fsl [] false, .fsl [] false, (ii 0), (bb false)]] 0 :: .row 5 [[.fsl [] true, (.fsl (((qj6 c.lps)).map lpF) false), (.fsl (((qga (qjp c.lps))).map Evt.r) false), (ii 0), (bb false)]] 0 :: []) = some y ∧
   ∃ g : Nat, y.1 = .exit 0 ∧ y.2.1.marks = [] ∧ y.2.2 = [.row 5 [[.fsl [] false, .fsl [] false, .fsl [] false, (ii 0), (bb false)]] 0, .row 5 [[.sl 2 g 0 c.lps.length false, (.fsl (((qj6 c.lps)).map lpF) false), (.fsl (((qga (qjp c.lps))).map Evt.r) false), (ii 0), (bb false)]] 0, .row 1 (List.replicate c.lps.length (qcp [])) g] ∧ Ev.look y.2.1.vars 2 = some (.ptr 0 0 0 0) ∧ Ev.look y.2.1.vars 3 = some (.ptr 1 0 0 0) := by
  have key := qf4 (f := exec (evL T) itL none qgf) (s := qs [1, 2, 3, 4] false 2) (α := AV × qr)
   (fun i a => ⟨[(1, (.fptr [(.fsl ((c.lps).map lpC) false), (.fsl ((c.progs).map qcf) false), (ii c.look), (ii c.fin), (ii c.cap)])), (2, .ptr 0 0 0 0), (3, .ptr 1 0 0 0), (4, (ii i))], []⟩) (fun i a => .row 5 [[.fsl [] false, .fsl [] false, .fsl [] false, (ii 0), (bb false)]] 0 :: .row 5 [[a.1, (.fsl (((qj6 c.lps)).map lpF) false), (.fsl (((qga (qjp c.lps))).map Evt.r) false), (ii 0), (bb false)]] 0 :: a.2)
   (fun i a => i = 0 ∧ a = (.fsl [] true, []) ∨ 0 < i ∧ ∃ g : Nat, a = (.sl 2 g 0 i false, [.row 1 (List.replicate i (qcp [])) g])) c.lps.length
   (fun y => ∃ g : Nat, y.1 = .exit 0 ∧ y.2.1.marks = [] ∧ y.2.2 = [.row 5 [[.fsl [] false, .fsl [] false, .fsl [] false, (ii 0), (bb false)]] 0, .row 5 [[.sl 2 g 0 c.lps.length false, (.fsl (((qj6 c.lps)).map lpF) false), (.fsl (((qga (qjp c.lps))).map Evt.r) false), (ii 0), (bb false)]] 0, .row 1 (List.replicate c.lps.length (qcp [])) g] ∧ Ev.look y.2.1.vars 2 = some (.ptr 0 0 0 0) ∧ Ev.look y.2.1.vars 3 = some (.ptr 1 0 0 0)) ?_ ?_ 0 (.fsl [] true, []) (Nat.zero_le _) (.inl ⟨rfl, rfl⟩)
  ·exact key
  ·rintro i a hi ha
   have hi' : (i : Int) < (c.lps.length : Int) := by omega
   have hw : IntKind.i64.wrap ((i : Int) + 1) = ((i + 1 : Nat) : Int) := by rw [qas (by omega) (by omega)]; simp
   rcases ha with ⟨h0, rfl⟩ | ⟨h0, g, rfl⟩
   ·refine .inl ⟨(.sl 2 0 0 (i + 1) false, [.row 1 (List.replicate (i + 1) (qcp [])) 0]), ?_, .inr ⟨by omega, 0, rfl⟩⟩
    have e1 : i + 1 = 1 := by omega
    have e2 : List.replicate (i + 1) (qcp []) = [[.fsl [] false]] := by rw [e1]; rfl
    rw [e2]
    have e3 : (AV.sl 2 0 0 (i + 1) false) = .sl 2 0 0 1 false := by rw [e1]
    simp only [e3]
    simp only [qgf, hi', hw, Ev.exec, qb, qe, qc, qai, qm5, Ev.Opnd.ev, Ev.Env.get, Ev.Env.set, Ev.look, qf, qbq, qv, qfk, Ev.AV.cells, Ev.AV.uc, qo, Ev.AV.plain, qao, ql, qs, Ev.keep, qbc, qbg, List.replicate_one, zgi, ↓qn, Ev.it1, ↓reduceIte, zga, zgb, zgd, zge, zgo, zgf, zgg, zgm, zgl, zgj, zgk, zgh, Nat.reduceAdd, Nat.reduceEqDiff, Nat.reduceMul, Nat.reduceLeDiff, Nat.reducePow, zgv, zfc, zfa, zgx, ne_eq, zfb, not_true_eq_false, zff, zfd, Nat.add_zero, zgu, zgy]
   ·refine .inl ⟨(.sl 2 (g + 1) 0 (i + 1) false, [.row 1 (List.replicate (i + 1) (qcp [])) (g + 1)]), ?_, .inr ⟨by omega, g + 1, rfl⟩⟩
    have e1 : List.replicate (i + 1) (qcp []) = List.replicate i (qcp []) ++ [[.fsl [] false]] := by rw [List.replicate_succ']; rfl
    have b : (i + 1) * 24 ≤ 140737488355328 := by omega
    have hl : (List.replicate i (qcp [])).length = i := List.length_replicate
    have tk : List.take i (List.replicate i (qcp [])) = List.replicate i (qcp []) := List.take_of_length_le (by simp)
    rw [e1]
    generalize List.replicate i (qcp []) = RR at *
    have hle : i ≤ i := Nat.le_refl _
    simp only [qgf, hi', hw, b, hl, tk, hle, Ev.exec, qb, qe, qc, qai, qm5, Ev.Opnd.ev, Ev.Env.get, Ev.Env.set, Ev.look, qf, qbq, qv, qfk, Ev.AV.cells, Ev.AV.uc, qo, Ev.AV.plain, qao, ql, qs, Ev.keep, qbc, qbg, List.replicate_one, zgi, ↓qn, Ev.it1, ↓reduceIte, zga, zgb, zgd, zge, zgo, zgf, zgg, zgm, zgl, zgj, zgk, zgh, Nat.reduceAdd, Nat.reduceEqDiff, Nat.reduceMul, Nat.reduceLeDiff, Nat.reducePow, zgv, zfc, zfa, zgx, ne_eq, zfb, zff, zfd, Nat.add_zero, zgu, zgy]
  ·rintro a ha
   rcases ha with ⟨h0, rfl⟩ | ⟨h0, g, rfl⟩
   ·omega
   ·simp only [qgf, Int.lt_irrefl, Ev.exec, qb, qe, qc, qai, Ev.Opnd.ev, Ev.Env.get, Ev.Env.set, Ev.look, qf, qv, ql, zgi, ↓qn, Ev.it1, ↓reduceIte, zgg, zgh, Nat.reduceEqDiff, zgw, zfa, zgy]
    exact ⟨_, rfl, g, rfl, rfl, rfl, rfl, rfl⟩
 obtain ⟨⟨y, e, σ⟩, k1, g, k2, k3, k4, k5, k6⟩ := hL
 simp only [Int.ofNat_zero] at k1 k2 k3 k4 k5 k6
 subst k2; subst k4
 have e1 : (start c).trace.map qcp = List.replicate c.lps.length (qcp []) := by simp [K.start]
 have e2 : (start c).pend = qga (qjp c.lps) := rfl
 have e3 : (start c).n = 0 := rfl
 have e4 : (start c).over = false := rfl
 rw [e1, e2, e3, e4]
 have tk : List.take c.lps.length (List.replicate c.lps.length (qcp [])) = List.replicate c.lps.length (qcp []) := List.take_of_length_le (by simp)
 have hlo : qiu 0 (List.replicate c.lps.length (qcp [])) = true := qy6 _ _ _ (q3z _ _)
 have hl : (List.replicate c.lps.length (qcp [])).length = c.lps.length := List.length_replicate
 generalize List.replicate c.lps.length (qcp []) = RR at *
 have hle : c.lps.length ≤ c.lps.length := Nat.le_refl _
 rw [qa3, qad qw4 qv5]
 simp only [qlt, hs, hi, k1, k3, k5, k6, tk, hlo, hl, hle, qcb, qax, qaa, qt2, qj, Ev.exec, qb, qe, qc, qav, qai, Ev.evs, Ev.Opnd.ev, Ev.Env.get, Ev.Env.set, Ev.look, qk, qf, qv, qfz, Ev.AV.cells, Ev.AV.uc, qo, Ev.AV.plain, qi, qq, qaj, Ev.kill, qag, qs, Ev.keep, qg, qba, qa2, qm, qdq, qh, qd, qx, q0h, qhb, qe3, qgs, qel, ↓qn, ↓qa4, ↓reduceIte, zga, zgb, zgd, zge, zgc, zgo, zfe, zgf, zgg, List.drop_nil, zgm, zgl, zgn, zgj, zgk, Nat.reduceAdd, Nat.reduceEqDiff, Nat.reduceLT, Nat.reduceLeDiff, Int.cast_ofNat_Int, zgw, zfc, Bool.and_true, zfa, zgx, and_true, ne_eq, zfb, zff, zfd, Nat.le_refl, zgy]
section
variable {c : Cfg} {s : Sim} {h : List Evt}
theorem q5v (H : SInv c s h) {e : Evt} {rest : List Evt} (hp : s.pend = e :: rest) (hh : h.length ≤ 60) (L : List (Lp × Bool)) (hL : L.map Prod.fst = s.lps) (hfl : ∀ x ∈ L, x.2 = true → x.1.procs = []) :
  ∃ L' : List (Lp × Bool), L'.map Prod.fst = (s.step c e rest).lps ∧ (∀ x ∈ L', x.2 = true → x.1.procs = []) ∧
   qa3 (evL T) qg4 [(.agg [(.fsl ((c.lps).map lpC) false), (.fsl ((c.progs).map qcf) false), (ii c.look), (ii c.fin), (ii c.cap)]), (.agg [(.fsl ((s.trace).map qcp) false), (.fsl ((L).map lpF) false), (.fsl ((s.pend).map Evt.r) false), (ii s.n), (bb s.over)])] = some (.agg [(.fsl (((s.step c e rest).trace).map qcp) false), (.fsl ((L').map lpF) false), (.fsl (((s.step c e rest).pend).map Evt.r) false), (ii ((s.step c e rest).n)), (bb ((s.step c e rest).over))]) := by
 obtain ⟨x, hx, hlx, R⟩ := H.head hp (by omega)
 have ge := H.ev e (by rw [hp]; simp)
 obtain ⟨i, hi⟩ : ∃ i : Nat, e.lp = i := ⟨_, (Int.toNat_of_nonneg ge.lp.1).symm⟩
 have hin : i < c.lps.length := by have := ge.lp; omega
 rw [hi, Int.toNat_natCast] at hx
 obtain ⟨z, hz⟩ : ∃ z, L[i]? = some z := ⟨_, List.getElem?_eq_getElem (by have := congrArg List.length hL; rw [List.length_map, H.lpl] at this; omega)⟩
 have hz1 : z.1 = x := by
  have : s.lps[i]? = some z.1 := by rw [← hL, List.getElem?_map, hz]; rfl
  rw [hx] at this; exact (Option.some.inj this).symm
 obtain ⟨z1, f⟩ := z
 simp only at hz1
 subst hz1
 have hf := hfl _ (List.mem_of_getElem? hz)
 simp only at hf
 have hsz := R.sizes
 have hkn := H.keyNe hp (by omega)
 rw [hlx] at hkn
 obtain ⟨q1, _, q3, q4, q5, q6⟩ := hsz
 have hlen := H.len
 rw [hp] at hlen
 have ht : s.trace[i]? = some (qsm s i) := by unfold qsm; rw [Int.toNat_natCast, List.getElem?_eq_getElem (by rw [H.trl]; exact hin)]; rfl
 have htl : (qsm s i).length ≤ 1000 := by
  have h1 := H.tr i hin
  have : qsm s i = qf8 h i := by unfold qsm; rw [Int.toNat_natCast, h1]; rfl
  rw [this]
  have := List.length_filter_le (fun e : Evt => decide (e.lp = i)) h
  unfold qf8; omega
 have hE := q77 R f hf
 have hkr : qma (rest ++ (qbf c z1 e).out) := (List.pairwise_append.1 hkn).2.1
 have hko : qid (rest ++ (qbf c z1 e).out) := by
  intro y hy
  rcases List.mem_append.1 hy with hy | hy
  ·have := (H.ev y (by rw [hp]; simp [hy])).key; omega
  ·have := q4 y hy; omega
 have hsub : ((rest ++ (qbf c z1 e).out).filter (qjs (qbf c z1 e).gone)).Sublist (rest ++ (qbf c z1 e).out) := List.filter_sublist
 have hDl : (rest ++ (qbf c z1 e).out).length ≤ 1000000 := by simp only [zgp, zga] at hlen ⊢; omega
 have hW := q55 (rest ++ (qbf c z1 e).out) (qbf c z1 e).gone false (qbf c z1 e).nil hDl hko (by omega) (fun k hk => by have := q5 k hk; omega)
 obtain ⟨cf, _, hS⟩ := qlj ((rest ++ (qbf c z1 e).out).filter (qjs (qbf c z1 e).gone)) false (by have := hsub.length_le; omega) (fun x hx => hko x (hsub.subset hx)) (List.Pairwise.sublist hsub hkr.dist)
 have hstep : s.step c e rest = ⟨s.trace.set i (qsm s i ++ [e]), s.lps.set i (qbf c z1 e).lp, qga ((rest ++ (qbf c z1 e).out).filter (qjs (qbf c z1 e).gone)), s.n + 1, s.over || (qbf c z1 e).over⟩ := by
  unfold Sim.step; rw [hlx, hi, Int.toNat_natCast]
 refine ⟨L.set i ((qbf c z1 e).lp, f), by rw [hstep, List.map_set, hL], fun y hy hyf => ?_, ?_⟩
 ·rcases List.mem_or_eq_of_mem_set hy with hy | rfl
  ·exact hfl y hy hyf
  ·exact qxq (hf hyf)
 rw [hstep, hp]
 have hw : IntKind.i64.wrap ((s.n : Int) + 1) = ((s.n + 1 : Nat) : Int) := by
  have := H.n; rw [qas (by omega) (by omega)]; simp
 have htr := H.trl
 have hLl : L.length = c.lps.length := by have := congrArg List.length hL; rw [List.length_map, H.lpl] at this; exact this
 have hn8 := H.valid.lps.2
 have hnz : 1 ≤ c.lps.length := H.valid.lps.1
 simp only
 generalize hr : qbf c z1 e = r at *
 rw [List.map_set, List.map_set]
 have g1 : (s.trace.map qcp)[i]? = some (qcp (qsm s i)) := by rw [List.getElem?_map, ht]; rfl
 have g2 : (L.map lpF)[i]? = some (lpF (z1, f)) := by rw [List.getElem?_map, hz]; rfl
 have ok1 := evss_ok s.trace
 have ok2 := lpFs_ok L
 have ok3 := qew (qsm s i)
 have ok4 := qew rest
 have ok5 := qew (e :: rest)
 have ok6 := qew r.out
 have lo1 := qjr 0 (s.trace.set i (qsm s i ++ [e]))
 have lo2 := qt2 0 (L.set i (r.lp, f))
 rw [List.map_set] at lo1 lo2
 have b1 : c.lps.length * 24 ≤ 140737488355328 := by omega
 have b2 : c.lps.length * 48 ≤ 140737488355328 := by omega
 have b3 : (qsm s i).length * 64 ≤ 140737488355328 := by omega
 have b4 : ((qsm s i).length + 1) * 64 ≤ 140737488355328 := by omega
 have b5 : rest.length * 64 ≤ 140737488355328 := by simp only [zga] at hlen; omega
 have b6 : (rest.length + r.out.length) * 64 ≤ 140737488355328 := by simp only [zga] at hlen; omega
 have n1 : (s.trace.map qcp) ≠ [] := by intro k; have := congrArg List.length k; simp at this; rw [this] at htr; simp at htr; omega
 have l1 : (s.trace.map qcp).length = c.lps.length := by rw [List.length_map, htr]
 have l2 : (L.map lpF).length = c.lps.length := by rw [List.length_map, hLl]
 have tk1 : ∀ v, List.take c.lps.length ((s.trace.map qcp).set i v) = (s.trace.map qcp).set i v := fun v => List.take_of_length_le (by rw [List.length_set, l1]; exact Nat.le_refl _)
 have tk2 : ∀ v, List.take c.lps.length ((L.map lpF).set i v) = (L.map lpF).set i v := fun v => List.take_of_length_le (by rw [List.length_set, l2]; exact Nat.le_refl _)
 have tk3 : List.take (qsm s i).length ((qsm s i).map Evt.r) = (qsm s i).map Evt.r := List.take_of_length_le (by simp)
 have tk4 : List.take rest.length (rest.map Evt.r) = rest.map Evt.r := List.take_of_length_le (by simp)
 have tk5 : ∀ v, List.take ((qsm s i).length + 1) ((qsm s i).map Evt.r ++ [v]) = (qsm s i).map Evt.r ++ [v] := fun v => List.take_of_length_le (by simp)
 have tk6 : List.take (rest.length + r.out.length) (rest.map Evt.r ++ r.out.map Evt.r) = rest.map Evt.r ++ r.out.map Evt.r := List.take_of_length_le (by simp)
 have hle : c.lps.length ≤ c.lps.length := Nat.le_refl _
 have c1 : (1 : Int) ≤ ((rest.length + 1 : Nat) : Int) := by omega
 have c2 : (((rest.length + 1 : Nat) : Int)).toNat - 1 = rest.length := by omega
 have hm : (qsm s i ++ [e]).map Evt.r = (qsm s i).map Evt.r ++ [e.r] := by rw [List.map_append]; rfl
 have lo3 : qiu 0 ((qsm s i).map Evt.r ++ [e.r]) = true := by rw [← hm]; exact qaa _ _
 have hmo : (rest ++ r.out).map Evt.r = rest.map Evt.r ++ r.out.map Evt.r := List.map_append
 have ev1 : qcp (qsm s i ++ [e]) = [.fsl ((qsm s i).map Evt.r ++ [e.r]) false] := by unfold qcp; rw [hm]
 have ev2 : qcp (qsm s i) = [(.fsl (((qsm s i)).map Evt.r) false)] := rfl
 rw [hmo] at hW
 generalize (rest ++ r.out).filter (qjs r.gone) = F at hW hS ⊢
 rw [ev1] at lo1 ⊢
 rw [ev2] at g1
 obtain ⟨et, ek, el, ei, ep, ea⟩ := e
 simp only at hi
 subst hi
 simp only [List.map_cons] at ok5 ⊢
 simp only [Evt.r] at lo1 lo3 tk5 ok5 ⊢
 simp only [lpF] at g2 lo2
 rw [qa3, qad qvg quq]
 have hrep : List.replicate 1 ([(ii 0), .fsl [] false, (ii 0), (ii 0), (ii 0), (ii 0)] : List AV) = [[(ii 0), .fsl [] false, (ii 0), (ii 0), (ii 0), (ii 0)]] := rfl
 by_cases ho : r.out = []
 ·have ho1 : r.out.map Evt.r = [] := by rw [ho]; rfl
  have ho2 : r.out.length = 0 := by rw [ho]; rfl
  rw [ho1] at hW hE tk6
  simp only [zgn, ho2, Nat.add_zero] at hW b6 tk6
  cases hov : s.over <;> simp only [qj0, hrep, g1, g2, ok1, ok2, ok3, ok4, ok5, b1, b2, b3, b4, b5, n1, l1, l2, tk1, tk2, tk3, tk4, tk5, hle, c1, lo1, lo2, hE, hW, hS, hw, hin, lpF, zgs, zgr, Int.toNat_zero, Int.toNat_one, Int.le_refl, imp_self, Nat.zero_mul, Nat.zero_le, Nat.add_sub_cancel, qaa, qcb, qax, qae, qw, qbk, qj, Ev.exec, qb, qe, qc, qav, qai, qm5, Ev.evs, Ev.Opnd.ev, Ev.Env.get, Ev.Env.set, Ev.Env.unset, Ev.look, qk, qf9, qf, qbq, qv, qfk, Ev.AV.cells, Ev.AV.uc, qo, Ev.AV.plain, qao, qi, qq, qaj, Ev.kill, qag, qg, qba, qa2, qm, qh, qd, qbc, qbg, qx, List.length_set, List.replicate_zero, zgi, ↓qn, ↓reduceIte, zga, zgb, zgp, zgd, zge, zgc, zgo, zfe, zgf, zgg, List.drop_nil, zgm, zgl, zgn, zgj, zgk, zgh, Nat.reduceAdd, Nat.reduceEqDiff, Nat.reduceMul, Nat.reduceLT, Nat.reduceLeDiff, Nat.reducePow, Int.reduceLE, reduceCtorEq, zgv, zfc, Bool.and_true, Bool.true_or, Bool.false_or, zfa, Bool.true_eq_false, zgx, ne_eq, zfb, not_true_eq_false, zff, zfd, Nat.add_zero, zgu, Nat.le_refl, Option.isSome_none, zgy, and_false]
  all_goals done
 ·have ho1 : ¬ r.out.map Evt.r = [] := by simpa using ho
  cases hov : s.over <;> simp only [qj0, hrep, g1, g2, ok1, ok2, ok3, ok4, ok5, ok6, b1, b2, b3, b4, b5, b6, n1, l1, l2, tk1, tk2, tk3, tk4, tk5, tk6, hle, c1, lo1, lo2, hE, hW, hS, hw, hin, ho1, lpF, zgs, zgr, Int.toNat_zero, Int.toNat_one, Int.le_refl, imp_self, Nat.zero_mul, Nat.zero_le, Nat.add_sub_cancel, qjj, qaa, qcb, qax, qae, qw, qbk, qj, Ev.exec, qb, qe, qc, qav, qai, qm5, Ev.evs, Ev.Opnd.ev, Ev.Env.get, Ev.Env.set, Ev.Env.unset, Ev.look, qk, qf9, qf, qbq, qv, qfk, Ev.AV.cells, Ev.AV.uc, qo, Ev.AV.plain, qao, qi, qq, qaj, Ev.kill, qag, qg, qba, qa2, qm, qh, qd, qbc, qbg, qx, List.length_set, List.replicate_zero, zgi, ↓qn, ↓reduceIte, zga, zgb, zgp, zgd, zge, zgc, zgo, zfe, zgf, zgg, List.drop_nil, zgm, zgl, zgn, zgj, zgk, zgh, Nat.reduceAdd, Nat.reduceEqDiff, Nat.reduceMul, Nat.reduceLT, Nat.reduceLeDiff, Nat.reducePow, Int.reduceLE, reduceCtorEq, zgv, zfc, Bool.and_true, Bool.true_or, Bool.false_or, zfa, Bool.true_eq_false, zgx, ne_eq, zfb, not_true_eq_false, zff, zfd, Nat.add_zero, zgu, Nat.le_refl, Option.isSome_none, zgy, and_false]
  all_goals done
end
set_option maxRecDepth 10000
section
variable {c : Cfg} {s : Sim} {h : List Evt}
def LOk (L : List (Lp × Bool)) (s : Sim) : Prop := L.map Prod.fst = s.lps ∧ ∀ x ∈ L, x.2 = true → x.1.procs = []
theorem rsim_L (lim : Nat) (hlim : lim ≤ 60) : ∀ (k : Nat) {s : Sim} {h : List Evt} {L : List (Lp × Bool)}, s.n + k = lim → SInv c s h → LOk L s →
  ∃ y, itB (exec (evL T) itL none qdc) (qs [1, 2, 4, 5] true 2) ⟨[(1, (ii lim)), (2, (.fptr [(.fsl ((c.lps).map lpC) false), (.fsl ((c.progs).map qcf) false), (ii c.look), (ii c.fin), (ii c.cap)])), (4, .ptr 0 0 0 0), (5, .ptr 1 0 0 0)], []⟩ [.row 5 [[.fsl [] false, .fsl [] false, .fsl [] false, (ii 0), (bb false)]] 0, .row 5 [[(.fsl ((s.trace).map qcp) false), (.fsl ((L).map lpF) false), (.fsl ((s.pend).map Evt.r) false), (ii s.n), (bb s.over)]] 0] = some y ∧
   ∃ L' : List (Lp × Bool), LOk L' (Sim.run c k s) ∧ y.1 = .exit 0 ∧ y.2.1.marks = [] ∧ y.2.2 = [.row 5 [[.fsl [] false, .fsl [] false, .fsl [] false, (ii 0), (bb false)]] 0, .row 5 [[(.fsl (((Sim.run c k s).trace).map qcp) false), (.fsl ((L').map lpF) false), (.fsl (((Sim.run c k s).pend).map Evt.r) false), (ii ((Sim.run c k s).n)), (bb ((Sim.run c k s).over))]] 0] ∧ Ev.look y.2.1.vars 4 = some (.ptr 0 0 0 0) ∧ Ev.look y.2.1.vars 5 = some (.ptr 1 0 0 0) := by
 intro k
 induction k with
 | zero =>
  intro s h L hk H hL
  have c1 : ¬ (s.n : Int) < (lim : Int) := by omega
  have hx : ∃ y, it1 (exec (evL T) itL none qdc) (qs [1, 2, 4, 5] true 2) ⟨[(1, (ii lim)), (2, (.fptr [(.fsl ((c.lps).map lpC) false), (.fsl ((c.progs).map qcf) false), (ii c.look), (ii c.fin), (ii c.cap)])), (4, .ptr 0 0 0 0), (5, .ptr 1 0 0 0)], []⟩ [.row 5 [[.fsl [] false, .fsl [] false, .fsl [] false, (ii 0), (bb false)]] 0, .row 5 [[(.fsl ((s.trace).map qcp) false), (.fsl ((L).map lpF) false), (.fsl ((s.pend).map Evt.r) false), (ii s.n), (bb s.over)]] 0] = some (.inr y) ∧ y.1 = .exit 0 ∧ y.2.1.marks = [] ∧ y.2.2 = [.row 5 [[.fsl [] false, .fsl [] false, .fsl [] false, (ii 0), (bb false)]] 0, .row 5 [[(.fsl ((s.trace).map qcp) false), (.fsl ((L).map lpF) false), (.fsl ((s.pend).map Evt.r) false), (ii s.n), (bb s.over)]] 0] ∧ Ev.look y.2.1.vars 4 = some (.ptr 0 0 0 0) ∧ Ev.look y.2.1.vars 5 = some (.ptr 1 0 0 0) := by
   simp only [qdc, c1, Ev.exec, qb, qe, qc, qai, Ev.Opnd.ev, Ev.Env.get, Ev.Env.set, Ev.Env.unset, Ev.look, qf, qv, ql, ↓qn, Ev.it1, ↓reduceIte, zgd, zge, zgf, zgg, zgh, Nat.reduceEqDiff, zgw, zfa, zfd, zgy]
   exact ⟨_, rfl, rfl, rfl, rfl, rfl, rfl⟩
  obtain ⟨y, h1, h2, h3, h4, h5, h6⟩ := hx
  exact ⟨y, qoy h1, L, hL, h2, h3, h4, h5, h6⟩
 | succ k ih =>
  intro s h L hk H hL
  have c1 : (s.n : Int) < (lim : Int) := by omega
  have c2 : (s.n : Int) < 2000 := by omega
  by_cases hb : s.ready c = true
  ·obtain ⟨e, rest, hp, hf⟩ := qz6 hb
   have hhl : h.length ≤ 60 := by have := H.n; omega
   obtain ⟨L1, l1, l2, hc⟩ := q5v H hp hhl L hL.1 hL.2
   obtain ⟨y, g1, g2⟩ := ih (s := s.step c e rest) (h := h ++ [e]) (by show s.n + 1 + k = lim; omega) (H.step hp (by omega) hf) ⟨l1, l2⟩
   have hrun : Sim.run c (k + 1) s = Sim.run c k (s.step c e rest) := by rw [Sim.run, if_pos hb, go_eq hp]
   rw [hrun]
   refine ⟨y, q0o ?_ g1, g2⟩
   have c3 : ((rest.length + 1 : Nat) : Int) > 0 := by omega
   rw [hp] at hc ⊢
   obtain ⟨et, ek, el, ei, ep, ea⟩ := e
   simp only at hf
   simp only [List.map_cons, Evt.r] at hc ⊢
   simp only [qdc, c1, c2, c3, hf, hc, Int.le_refl, Int.toNat_zero, qjr, qt2, qaa, qcb, qax, qw, Ev.exec, qb, qe, qc, qav, qai, Ev.evs, Ev.Opnd.ev, Ev.Env.get, Ev.Env.set, Ev.look, qf, qv, Ev.AV.cells, qo, Ev.AV.plain, ql, qbh, qs, Ev.keep, qal, qaf, qg, Ev.SObj.lo, qba, qa2, qm, qbm, qg6, qh, qd, qu, qak, zgi, ↓qn, Ev.it1, ↓reduceIte, zga, zgb, zgd, zge, zgc, zgo, zfe, zgf, zgg, List.drop_nil, zgl, zgn, zgj, zgk, zgh, Nat.reduceAdd, Nat.reduceEqDiff, Nat.reduceLT, zgv, zfc, zfa, zgx, zfd, zgu, Nat.le_refl, zgy]
  ·have hb' : s.ready c = false := by simpa using hb
   have hrun : Sim.run c (k + 1) s = s := by rw [Sim.run, if_neg hb]
   rw [hrun]
   have hx : ∃ y, it1 (exec (evL T) itL none qdc) (qs [1, 2, 4, 5] true 2) ⟨[(1, (ii lim)), (2, (.fptr [(.fsl ((c.lps).map lpC) false), (.fsl ((c.progs).map qcf) false), (ii c.look), (ii c.fin), (ii c.cap)])), (4, .ptr 0 0 0 0), (5, .ptr 1 0 0 0)], []⟩ [.row 5 [[.fsl [] false, .fsl [] false, .fsl [] false, (ii 0), (bb false)]] 0, .row 5 [[(.fsl ((s.trace).map qcp) false), (.fsl ((L).map lpF) false), (.fsl ((s.pend).map Evt.r) false), (ii s.n), (bb s.over)]] 0] = some (.inr y) ∧ y.1 = .exit 0 ∧ y.2.1.marks = [] ∧ y.2.2 = [.row 5 [[.fsl [] false, .fsl [] false, .fsl [] false, (ii 0), (bb false)]] 0, .row 5 [[(.fsl ((s.trace).map qcp) false), (.fsl ((L).map lpF) false), (.fsl ((s.pend).map Evt.r) false), (ii s.n), (bb s.over)]] 0] ∧ Ev.look y.2.1.vars 4 = some (.ptr 0 0 0 0) ∧ Ev.look y.2.1.vars 5 = some (.ptr 1 0 0 0) := by
    unfold Sim.ready at hb'
    cases hp : s.pend with
    | nil =>
     simp only [List.map_nil]
     simp only [qdc, c1, c2, gt_iff_lt, Int.lt_irrefl, Ev.exec, qb, qe, qc, qai, Ev.Opnd.ev, Ev.Env.get, Ev.Env.set, Ev.Env.unset, Ev.look, qf, qv, ql, qbh, ↓qn, Ev.it1, ↓reduceIte, zgb, zgd, zge, zgf, zgg, zgh, Nat.reduceEqDiff, Int.cast_ofNat_Int, zgv, zgw, zfa, zfd, zgy]
     exact ⟨_, rfl, rfl, rfl, rfl, rfl, rfl⟩
    | cons e rest =>
     rw [hp] at hb'
     simp only [decide_eq_false_iff_not] at hb'
     have c3 : ((rest.length + 1 : Nat) : Int) > 0 := by omega
     obtain ⟨et, ek, el, ei, ep, ea⟩ := e
     simp only at hb'
     simp only [List.map_cons, Evt.r]
     simp only [qdc, c1, c2, c3, hb', Int.le_refl, Int.toNat_zero, Ev.exec, qb, qe, qc, qai, Ev.Opnd.ev, Ev.Env.get, Ev.Env.set, Ev.look, qf, qv, ql, qbh, zgi, ↓qn, Ev.it1, ↓reduceIte, zga, zgb, zgd, zge, zgf, zgg, zgh, Nat.reduceAdd, Nat.reduceEqDiff, zgv, zgw, zfa, zfd, zgy]
     exact ⟨_, rfl, rfl, rfl, rfl, rfl, rfl⟩
   obtain ⟨y, h1, h2, h3, h4, h5, h6⟩ := hx
   exact ⟨y, qoy h1, L, hL, h2, h3, h4, h5, h6⟩
theorem LOk.start (c : Cfg) : LOk (qj6 c.lps) (start c) := by
 refine ⟨rfl, fun x hx hf => ?_⟩
 simp only [qj6, q46, List.mem_map] at hx
 obtain ⟨ps, ⟨l, _, rfl⟩, rfl⟩ := hx
 simpa [stLp] using hf
theorem q3b (G : Good c) (lim : Nat) (hlim : lim ≤ 60) : ∃ L : List (Lp × Bool), LOk L (runS c lim) ∧ qa3 (evL T) qfe [(.agg [(.fsl ((c.lps).map lpC) false), (.fsl ((c.progs).map qcf) false), (ii c.look), (ii c.fin), (ii c.cap)]), (ii lim)] = some (.agg [(.fsl (((runS c lim).trace).map qcp) false), (.fsl ((L).map lpF) false), (.fsl (((runS c lim).pend).map Evt.r) false), (ii ((runS c lim).n)), (bb ((runS c lim).over))]) := by
 have hs := q63 c G.h12 G.v.lps.1
 obtain ⟨⟨y, e, σ⟩, k1, L, hL, k2, k3, k4, k5, k6⟩ := rsim_L (c := c) lim hlim lim (by show 0 + lim = lim; omega) (SInv.start G.v) (LOk.start c)
 simp only at k2 k3 k4 k5 k6
 subst k2; subst k4
 refine ⟨L, hL, ?_⟩
 unfold runS
 generalize start c = s0 at *
 rw [qa3, qad qs7 qrz]
 simp only [qj1, hs, k1, k3, k5, k6, qjr, qt2, qaa, qcb, qax, qj, Ev.exec, qb, qe, qc, qav, qai, Ev.evs, Ev.Opnd.ev, Ev.Env.get, Ev.Env.set, Ev.look, qk, qf, qv, Ev.AV.cells, qo, Ev.AV.plain, qi, qq, qaj, Ev.kill, qag, qs, Ev.keep, qal, qaf, qg, Ev.SObj.lo, qba, qa2, qm, qbm, qg6, qh, qd, qu, qak, qx, ↓qn, ↓qa4, ↓reduceIte, zga, zgb, zgd, zge, zgc, zgo, zfe, zgf, zgg, List.drop_nil, zgm, zgl, zgn, zgj, zgk, Nat.reduceAdd, Nat.reduceEqDiff, Nat.reduceLT, reduceCtorEq, zgv, zfc, zgx, ne_eq, zfb, zff, zfd, zgu, Nat.le_refl, zgy]
end
set_option maxRecDepth 10000
def qe2 (n : Nat) (l : List Evt) : List (List Evt) := (List.range n).map fun i => qga (qf8 l i)
theorem q4x (l : List Evt) (k : Nat) (e : Evt) (i : Nat) (h : l[k]? = some e) : qf8 (l.take (k + 1)) i = if e.lp = i then qf8 (l.take k) i ++ [e] else qf8 (l.take k) i := by
 rw [List.take_add_one, h]; exact qqu _ _ _
theorem q59 {l : List Evt} (h : qu6 l) (i : Nat) : qu6 (qf8 l i) := h.sub List.filter_sublist
section
variable (l : List Evt) (cl : Bool)
theorem q8h (hl : l.length ≤ 1000000) (hk : qid l) (hd : qu6 l) (i n : Nat) (R : List (List AV)) (g : Nat) (hlo : qiu 1 R = true) :
  ∃ y, itB (exec (evL T) itL none qgc) (qs [0, 1, 5, 6, 7, 8] true 1) ⟨[(0, (ii n)), (1, (.fsl ((l).map Evt.r) cl)), (5, .sl 0 g 0 R.length false), (6, (ii i)), (7, .fsl [] true), (8, (ii ((0 : Nat))))], []⟩ [.row 1 R g] = some y ∧
   ∃ cf : Bool, y.1 = .exit 2 ∧ y.2.1.marks = [] ∧ y.2.2 = [.row 1 R g] ∧ Ev.look y.2.1.vars 0 = some (ii n) ∧ Ev.look y.2.1.vars 1 = some (.fsl ((l).map Evt.r) cl) ∧ Ev.look y.2.1.vars 5 = some (.sl 0 g 0 R.length false) ∧ Ev.look y.2.1.vars 6 = some (ii i) ∧ Ev.look y.2.1.vars 7 = some (.fsl (((qga (qf8 l i))).map Evt.r) cf) := by
 have key := qf4 (f := exec (evL T) itL none qgc) (s := qs [0, 1, 5, 6, 7, 8] true 1) (α := List Evt × Bool)
  (fun k a => ⟨[(0, (ii n)), (1, (.fsl ((l).map Evt.r) cl)), (5, .sl 0 g 0 R.length false), (6, (ii i)), (7, (.fsl ((a.1).map Evt.r) a.2)), (8, (ii k))], []⟩) (fun _ _ => [.row 1 R g]) (fun k a => a.1 = qga (qf8 (l.take k) i)) l.length
  (fun y => ∃ cf : Bool, y.1 = .exit 2 ∧ y.2.1.marks = [] ∧ y.2.2 = [.row 1 R g] ∧ Ev.look y.2.1.vars 0 = some (ii n) ∧ Ev.look y.2.1.vars 1 = some (.fsl ((l).map Evt.r) cl) ∧ Ev.look y.2.1.vars 5 = some (.sl 0 g 0 R.length false) ∧ Ev.look y.2.1.vars 6 = some (ii i) ∧ Ev.look y.2.1.vars 7 = some (.fsl (((qga (qf8 l i))).map Evt.r) cf)) ?_ ?_ 0 ([], true) (Nat.zero_le _) (by simp [qga, qf8])
 ·exact key
 ·rintro k ⟨b, c⟩ hk' hb
  simp only at hb ⊢
  obtain ⟨e, he⟩ : ∃ e, l[k]? = some e := ⟨_, List.getElem?_eq_getElem hk'⟩
  have hk1 : (k : Int) < (l.length : Int) := by omega
  have hw : IntKind.i64.wrap ((k : Int) + 1) = ((k + 1 : Nat) : Int) := by rw [qas (by omega) (by omega)]; simp
  have ho := q4x l k e i he
  by_cases hi : e.lp = i
  ·rw [if_pos hi] at ho
   have sl : ∀ z ∈ qf8 (l.take k) i, z ∈ l := fun z hz => List.mem_of_mem_take (List.mem_filter.1 hz).1
   have hds : qu6 (qf8 (l.take (k + 1)) i) := q59 (hd.sub (List.take_sublist _ _)) i
   rw [ho] at hds
   have pb := qe6 (qf8 (l.take k) i)
   have hd2 : qu6 (e :: b) := by rw [hb]; exact hds.perm ((pb.cons e).trans (List.perm_append_singleton e _).symm)
   have hbl : b.length ≤ 1000000 := by
    rw [hb, q1n]
    have := List.length_filter_le (fun e : Evt => decide (e.lp = i)) (l.take k)
    have := List.length_take_le' k l
    unfold qf8; omega
   have hI := qy0 b c e hbl (fun z hz => hk z (sl z (pb.mem_iff.1 (by rw [← hb]; exact hz)))) (hk e (List.mem_of_getElem? he)) (by rw [hb]; exact qgr _) hd2
   have hse : qga (e :: b) = qga (qf8 (l.take k) i ++ [e]) := q05 hds (by rw [hb]; exact (pb.cons e).trans (List.perm_append_singleton e _).symm)
   refine .inl ⟨(qga (e :: b), false), ?_, by simp only; rw [ho, hse]⟩
   clear hse hd2 hds ho hb
   obtain ⟨et, ek, el, ei, ep, ea⟩ := e
   simp only at hi
   subst hi
   simp only at hI
   generalize qga (⟨et, ek, (i : Int), ei, ep, ea⟩ :: b) = B at *
   simp only [qgc, zgs, zgr, zgq, zgt, he, hk1, hw, hI, hlo, Evt.r, qaa, qw, Ev.exec, qb, qe, qc, qav, qai, Ev.evs, Ev.Opnd.ev, Ev.Env.get, Ev.Env.set, Ev.look, qf, qv, qao, qar, ql, qs, Ev.keep, qal, qaf, qg, Ev.SObj.lo, qba, qa2, qm, qdq, qh, qd, zgi, ↓qn, Ev.it1, ↓reduceIte, zga, zgb, zgc, zfe, zgf, zgg, zgh, Nat.reduceAdd, Nat.reduceEqDiff, reduceCtorEq, zgv, zfc, zfa, zgx, zfd, zgu, Nat.le_refl, zgy]
  ·rw [if_neg hi] at ho
   refine .inl ⟨(b, c), ?_, by simp only; rw [ho, hb]⟩
   obtain ⟨et, ek, el, ei, ep, ea⟩ := e
   simp only at hi
   simp only [qgc, zgs, zgr, zgq, zgt, he, hk1, hw, hi, hlo, Evt.r, qaa, Ev.exec, qb, qe, qc, qai, Ev.Opnd.ev, Ev.Env.get, Ev.Env.set, Ev.look, qf, qv, qao, qar, ql, qs, Ev.keep, qal, qaf, qg, Ev.SObj.lo, qba, qm, qdq, zgi, ↓qn, Ev.it1, ↓reduceIte, zga, zgb, zgc, zfe, zgf, zgg, zgh, Nat.reduceAdd, Nat.reduceEqDiff, reduceCtorEq, zgv, zgw, zfc, zfa, zgx, zfd, zgu, zgy]
 ·rintro ⟨b, c⟩ hb
  simp only [List.take_length] at hb ⊢
  simp only [qgc, Int.lt_irrefl, Ev.exec, qb, qe, qc, qai, Ev.Opnd.ev, Ev.Env.get, Ev.Env.set, Ev.look, ql, zgi, ↓qn, Ev.it1, ↓reduceIte, Nat.reduceEqDiff, reduceCtorEq, zgw, zfa, zgy]
  exact ⟨_, rfl, c, rfl, rfl, rfl, rfl, rfl, rfl, rfl, by rw [← hb]; rfl⟩
theorem q70 (n : Nat) (hn : n ≤ 8) (hl : l.length ≤ 1000000) (hk : qid l) (hd : qu6 l) : qa3 (evL T) qhu [(ii n), (.fsl ((l).map Evt.r) cl)] = some (.fsl (((qe2 n l)).map qcp) false) := by
 have hL : ∃ y, itB (exec (evL T) itL none qie) (qs [0, 1, 5, 6] true 1) ⟨[(0, (ii n)), (1, (.fsl ((l).map Evt.r) cl)), (5, .sl 0 0 0 0 false), (6, (ii ((0 : Nat))))], []⟩ [.row 1 [] 0] = some y ∧
   ∃ g : Nat, y.1 = .exit 0 ∧ y.2.1.marks = [] ∧ y.2.2 = [.row 1 ((qe2 n l).map qcp) g] ∧ Ev.look y.2.1.vars 5 = some (.sl 0 g 0 n false) := by
  have key := qf4 (f := exec (evL T) itL none qie) (s := qs [0, 1, 5, 6] true 1) (α := Nat)
   (fun i a => ⟨[(0, (ii n)), (1, (.fsl ((l).map Evt.r) cl)), (5, .sl 0 a 0 i false), (6, (ii i))], []⟩) (fun i a => [.row 1 ((qe2 i l).map qcp) a]) (fun i a => True) n
   (fun y => ∃ g : Nat, y.1 = .exit 0 ∧ y.2.1.marks = [] ∧ y.2.2 = [.row 1 ((qe2 n l).map qcp) g] ∧ Ev.look y.2.1.vars 5 = some (.sl 0 g 0 n false)) ?_ ?_ 0 0 (Nat.zero_le _) trivial
  ·exact key
  ·rintro i g hi _
   have hbl : ((qe2 i l).map qcp).length = i := by simp [qe2]
   obtain ⟨⟨y, e, σ⟩, k1, cf, k2, k3, k4, k5, k6, k7, k8, k9⟩ := q8h l cl hl hk hd i n ((qe2 i l).map qcp) g (qjr _ _)
   simp only [Int.ofNat_zero, hbl] at k1 k2 k3 k4 k5 k6 k7 k8 k9
   subst k2; subst k4
   have hi' : (i : Int) < (n : Int) := by omega
   have hi8 : (i : Int) < 8 := by omega
   have hw : IntKind.i64.wrap ((i : Int) + 1) = ((i + 1 : Nat) : Int) := by rw [qas (by omega) (by omega)]; simp
   have hnx : (qe2 (i + 1) l).map qcp = (qe2 i l).map qcp ++ [[(.fsl (((qga (qf8 l i))).map Evt.r) false)]] := by unfold qe2; rw [List.range_succ]; simp [qcp]
   have lo := qjr 1 (qe2 (i + 1) l)
   have lo0 := qjr 1 (qe2 i l)
   rw [hnx] at lo
   have tk : List.take i ((qe2 i l).map qcp) = (qe2 i l).map qcp := List.take_of_length_le (by omega)
   have bd : (i + 1) * 24 ≤ 140737488355328 := by omega
   have hle : i ≤ i := Nat.le_refl _
   refine .inl ⟨g + 1, ?_, trivial⟩
   rw [hnx]
   generalize (qe2 i l).map qcp = R at *
   simp only [qie, hi', hi8, hw, k1, k3, k5, k6, k7, k8, k9, lo, lo0, tk, bd, hbl, hle, qaa, Ev.exec, qb, qe, qc, qai, qm5, Ev.Opnd.ev, Ev.Env.get, Ev.Env.set, Ev.look, qbq, qfk, Ev.AV.cells, Ev.AV.uc, qo, Ev.AV.plain, qao, ql, qs, Ev.keep, qal, qaf, qg, Ev.SObj.lo, qba, qm, qdq, qu, qbc, qbg, List.replicate_one, ↓qn, ↓qa4, Ev.it1, ↓reduceIte, zga, zgb, zgd, zgc, zfe, zgj, Nat.reduceEqDiff, Nat.reduceMul, Nat.reduceLeDiff, Nat.reducePow, reduceCtorEq, zgv, zfc, zgx, ne_eq, zfb, zff, zfd, zgu, zgy]
  ·rintro g _
   simp only [qie, Int.lt_irrefl, Ev.exec, qb, qe, qc, qai, Ev.Opnd.ev, Ev.Env.get, Ev.Env.set, Ev.Env.unset, Ev.look, ql, ↓qn, Ev.it1, ↓reduceIte, Nat.reduceEqDiff, reduceCtorEq, zgw, zfa, zgy]
   exact ⟨_, rfl, g, rfl, rfl, rfl, rfl⟩
 obtain ⟨⟨y, e, σ⟩, k1, g, k2, k3, k4, k5⟩ := hL
 simp only [Int.ofNat_zero] at k1 k2 k3 k4 k5
 subst k2; subst k4
 have hbl : (qe2 n l).length = n := by simp [qe2]
 have tk : List.take n ((qe2 n l).map qcp) = (qe2 n l).map qcp := List.take_of_length_le (by simp [hbl])
 have hle : n ≤ n := Nat.le_refl _
 rw [qa3, qad qxj qvy]
 simp only [qln, k1, k3, k5, tk, hbl, hle, qaa, qjr, zgi, qj, Ev.exec, qb, qe, qc, qai, Ev.Opnd.ev, Ev.Env.get, Ev.Env.set, Ev.look, qk, qi, qq, qaj, Ev.kill, qag, qs, Ev.keep, qal, qaf, qg, Ev.SObj.lo, qba, qm, qdq, qu, qhb, qe3, zgi, ↓qn, ↓qa4, ↓reduceIte, zga, zgb, zgd, zgc, zgo, zfe, zgg, zgl, Nat.reduceAdd, Nat.reduceEqDiff, Nat.reduceLT, reduceCtorEq, zgv, zgw, zfc, zfa, zgx, and_true, zfd, zgu, zgy]
end
theorem Quick_ev (c : Cfg) : ∃ b : Bool, qa3 (evL T) qh0 [(.agg [(.fsl ((c.lps).map lpC) false), (.fsl ((c.progs).map qcf) false), (ii c.look), (ii c.fin), (ii c.cap)])] = some (bb b) ∧ (b = true → okB c = true ∧ c.look ≤ 8 ∧ c.lps.length ≤ 4) := by
 have hg := qyr c
 have hr := qzf c
 rw [qa3, qad qyg qvj]
 by_cases h1 : qrp c = true
 ·rw [h1] at hg
  exact ⟨false, by simp only [qfr, hg, qcb, qax, qj, Ev.exec, qb, qe, qc, qav, qai, Ev.evs, Ev.Opnd.ev, Ev.Env.get, Ev.Env.set, Ev.Env.unset, Ev.look, qk, qf, qv, Ev.AV.cells, qo, Ev.AV.plain, qi, qq, qaj, Ev.kill, qag, qg, qba, qa2, qm, qh, qd, qx, ↓qn, ↓reduceIte, zga, zgb, zgc, zfe, Nat.reduceAdd, Nat.reduceEqDiff, zfc, Bool.true_eq_false, zgx, ne_eq, zfb, zff, zfd, Nat.le_refl, zgy], fun h => by cases h⟩
 simp only [Bool.not_eq_true] at h1
 rw [h1] at hg
 by_cases h2 : q44 c = 0
 case neg => exact ⟨false, by simp only [qfr, hg, hr, h2, qcb, qax, qj, Ev.exec, qb, qe, qc, qav, qai, Ev.evs, Ev.Opnd.ev, Ev.Env.get, Ev.Env.set, Ev.Env.unset, Ev.look, qk, qf, qv, Ev.AV.cells, qo, Ev.AV.plain, qbe, qi, qq, qaj, Ev.kill, qag, qg, qba, qa2, qm, qh, qd, qx, ↓qn, ↓reduceIte, zga, zgb, zgc, zfe, Nat.reduceAdd, Nat.reduceEqDiff, zgv, zfc, zfa, Bool.true_eq_false, zgx, ne_eq, zfb, zff, zfd, Nat.le_refl, zgy], fun h => by cases h⟩
 rw [h2] at hr
 by_cases h3 : c.look > 8
 ·exact ⟨false, by simp only [qfr, hg, hr, h3, qcb, qax, qj, Ev.exec, qb, qe, qc, qav, qai, Ev.evs, Ev.Opnd.ev, Ev.Env.get, Ev.Env.set, Ev.Env.unset, Ev.look, qk, qf, qv, Ev.AV.cells, qo, Ev.AV.plain, qbe, qbh, qi, qq, qaj, Ev.kill, qag, qg, qba, qa2, qm, qh, qd, qx, ↓qn, ↓reduceIte, zga, zgb, zgc, zfe, zgf, zgg, zgh, Nat.reduceAdd, Nat.reduceEqDiff, zgv, zgw, zfc, zfa, Bool.true_eq_false, zgx, ne_eq, zfb, not_true_eq_false, zff, zfd, Nat.le_refl, zgy], fun h => by cases h⟩
 by_cases h4 : (c.lps.length : Int) > 4
 ·exact ⟨false, by simp only [qfr, hg, hr, h3, h4, qcb, qax, qj, Ev.exec, qb, qe, qc, qav, qai, Ev.evs, Ev.Opnd.ev, Ev.Env.get, Ev.Env.set, Ev.look, qk, qf, qv, Ev.AV.cells, qo, Ev.AV.plain, qbe, qbh, qi, qq, qaj, Ev.kill, qag, qg, qba, qa2, qm, qh, qd, qx, zgi, ↓qn, ↓reduceIte, zga, zgb, zgc, zfe, zgf, zgg, zgh, Nat.reduceAdd, Nat.reduceEqDiff, zgv, zgw, zfc, zfa, zgx, ne_eq, zfb, not_true_eq_false, zff, zfd, Nat.le_refl, zgy], fun h => by cases h⟩
 have hok : okB c = true ∧ c.look ≤ 8 ∧ c.lps.length ≤ 4 := ⟨by unfold okB; rw [h1, h2]; rfl, by omega, by omega⟩
 obtain ⟨s1, s2, s3, s4⟩ := qwp c h1
 have hL1 : ∃ y, itB (exec (evL T) itL none qih) (qs [1, 3, 4, 5] true 0) ⟨[(1, (.fptr [(.fsl ((c.lps).map lpC) false), (.fsl ((c.progs).map qcf) false), (ii c.look), (ii c.fin), (ii c.cap)])), (3, (ii 0)), (4, (ii 0)), (5, (ii ((0 : Nat))))], []⟩ [] = some y ∧ ∃ a : Int, y.1 = .exit 0 ∧ y.2.1.marks = [] ∧ y.2.2 = [] ∧ Ev.look y.2.1.vars 1 = some (.fptr [(.fsl ((c.lps).map lpC) false), (.fsl ((c.progs).map qcf) false), (ii c.look), (ii c.fin), (ii c.cap)]) ∧ Ev.look y.2.1.vars 3 = some (ii a) ∧ Ev.look y.2.1.vars 4 = some (ii 0) := by
  have key := qf4 (f := exec (evL T) itL none qih) (s := qs [1, 3, 4, 5] true 0) (α := Int) (fun i a => ⟨[(1, (.fptr [(.fsl ((c.lps).map lpC) false), (.fsl ((c.progs).map qcf) false), (ii c.look), (ii c.fin), (ii c.cap)])), (3, (ii a)), (4, (ii 0)), (5, (ii i))], []⟩) (fun _ _ => []) (fun _ _ => True) c.lps.length
   (fun y => ∃ a : Int, y.1 = .exit 0 ∧ y.2.1.marks = [] ∧ y.2.2 = [] ∧ Ev.look y.2.1.vars 1 = some (.fptr [(.fsl ((c.lps).map lpC) false), (.fsl ((c.progs).map qcf) false), (ii c.look), (ii c.fin), (ii c.cap)]) ∧ Ev.look y.2.1.vars 3 = some (ii a) ∧ Ev.look y.2.1.vars 4 = some (ii 0)) ?_ ?_ 0 0 (Nat.zero_le _) trivial
  ·exact key
  ·rintro i a hi _
   obtain ⟨x, hx⟩ : ∃ x, c.lps[i]? = some x := ⟨_, List.getElem?_eq_getElem hi⟩
   have hi' : (i : Int) < (c.lps.length : Int) := by omega
   have hw : IntKind.i64.wrap ((i : Int) + 1) = ((i + 1 : Nat) : Int) := by rw [qas (by omega) (by omega)]; simp
   refine .inl ⟨IntKind.i64.wrap (a + (x.length : Int)), ?_, trivial⟩
   simp only [qih, zgs, zgr, zgq, zgt, hx, hi', hw, lpC, qcb, qax, Ev.exec, qb, qe, qc, qai, Ev.Opnd.ev, Ev.Env.get, Ev.Env.set, Ev.look, qf, qv, qao, ql, qs, Ev.keep, qal, qaf, qg, qba, qm, qbm, qh, qd, zgi, ↓qn, Ev.it1, ↓reduceIte, zga, zgb, zfe, zgg, zgh, Nat.reduceEqDiff, zgv, zfc, zfa, zgx, zfd, zgy]
  ·rintro a _
   simp only [qih, Int.lt_irrefl, Ev.exec, qb, qe, qc, qai, Ev.Opnd.ev, Ev.Env.get, Ev.Env.set, Ev.look, qf, qv, ql, zgi, ↓qn, Ev.it1, ↓reduceIte, zgg, zgh, Nat.reduceEqDiff, zgw, zfa, zgy]
   exact ⟨_, rfl, a, rfl, rfl, rfl, rfl, rfl, rfl⟩
 have hL3 : ∀ (i : Nat) (p : List OpI) (a b : Int), c.progs[i]? = some p → ∃ y, itB (exec (evL T) itL none qgd) (qs [1, 3, 4, 6, 7] true 0) ⟨[(1, (.fptr [(.fsl ((c.lps).map lpC) false), (.fsl ((c.progs).map qcf) false), (ii c.look), (ii c.fin), (ii c.cap)])), (3, (ii a)), (4, (ii b)), (6, (ii i)), (7, (ii ((0 : Nat))))], []⟩ [] = some y ∧ ∃ b : Int, y.1 = .exit 4 ∧ y.2.1.marks = [] ∧ y.2.2 = [] ∧ Ev.look y.2.1.vars 1 = some (.fptr [(.fsl ((c.lps).map lpC) false), (.fsl ((c.progs).map qcf) false), (ii c.look), (ii c.fin), (ii c.cap)]) ∧ Ev.look y.2.1.vars 3 = some (ii a) ∧ Ev.look y.2.1.vars 4 = some (ii b) ∧ Ev.look y.2.1.vars 6 = some (ii i) := by
  intro i p a b hp
  have key := qf4 (f := exec (evL T) itL none qgd) (s := qs [1, 3, 4, 6, 7] true 0) (α := Int) (fun k b => ⟨[(1, (.fptr [(.fsl ((c.lps).map lpC) false), (.fsl ((c.progs).map qcf) false), (ii c.look), (ii c.fin), (ii c.cap)])), (3, (ii a)), (4, (ii b)), (6, (ii i)), (7, (ii k))], []⟩) (fun _ _ => []) (fun _ _ => True) p.length
   (fun y => ∃ b : Int, y.1 = .exit 4 ∧ y.2.1.marks = [] ∧ y.2.2 = [] ∧ Ev.look y.2.1.vars 1 = some (.fptr [(.fsl ((c.lps).map lpC) false), (.fsl ((c.progs).map qcf) false), (ii c.look), (ii c.fin), (ii c.cap)]) ∧ Ev.look y.2.1.vars 3 = some (ii a) ∧ Ev.look y.2.1.vars 4 = some (ii b) ∧ Ev.look y.2.1.vars 6 = some (ii i)) ?_ ?_ 0 b (Nat.zero_le _) trivial
  ·exact key
  ·rintro k b hk _
   obtain ⟨x, hx⟩ : ∃ x, p[k]? = some x := ⟨_, List.getElem?_eq_getElem hk⟩
   have := s4 p (List.mem_of_getElem? hp)
   have hk' : (k : Int) < (p.length : Int) := by omega
   have hw : IntKind.i64.wrap ((k : Int) + 1) = ((k + 1 : Nat) : Int) := by rw [qas (by omega) (by omega)]; simp
   obtain ⟨xc, xa, xb, xd⟩ := x
   by_cases h : xc = 2
   ·exact .inl ⟨IntKind.i64.wrap (b + 1), by simp only [qgd, zgs, zgr, zgq, zgt, hp, hx, hk', hw, h, qcf, OpI.r, qcb, qax, Ev.exec, qb, qe, qc, qai, Ev.Opnd.ev, Ev.Env.get, Ev.Env.set, Ev.look, qf, qv, qao, qar, ql, qs, Ev.keep, qal, qaf, qg, qba, qm, qbm, qh, qd, zgi, ↓qn, Ev.it1, ↓reduceIte, zga, zgb, zfe, zgf, zgg, zgh, Nat.reduceAdd, Nat.reduceEqDiff, zgv, zfc, zfa, zgx, zfd, zgy], trivial⟩
   ·exact .inl ⟨b, by simp only [qgd, zgs, zgr, zgq, zgt, hp, hx, hk', hw, h, qcf, OpI.r, qcb, qax, Ev.exec, qb, qe, qc, qai, Ev.Opnd.ev, Ev.Env.get, Ev.Env.set, Ev.look, qf, qv, qao, qar, ql, qs, Ev.keep, qal, qaf, qg, qba, qm, qbm, qh, qd, zgi, ↓qn, Ev.it1, ↓reduceIte, zga, zgb, zfe, zgf, zgg, zgh, Nat.reduceAdd, Nat.reduceEqDiff, zgv, zgw, zfc, zfa, zgx, zfd, zgy], trivial⟩
  ·rintro b _
   simp only [qgd, zgs, zgr, zgq, zgt, hp, Int.lt_irrefl, qcf, Ev.exec, qb, qe, qc, qai, Ev.Opnd.ev, Ev.Env.get, Ev.Env.set, Ev.look, qf, qv, ql, zgi, ↓qn, Ev.it1, ↓reduceIte, zga, zgb, zgf, zgg, zgh, Nat.reduceEqDiff, zgw, zfa, zfd, zgy]
   exact ⟨_, rfl, b, rfl, rfl, rfl, rfl, rfl, rfl, rfl⟩
 have hL2 : ∀ a : Int, ∃ y, itB (exec (evL T) itL none qii) (qs [1, 3, 4, 6] true 0) ⟨[(1, (.fptr [(.fsl ((c.lps).map lpC) false), (.fsl ((c.progs).map qcf) false), (ii c.look), (ii c.fin), (ii c.cap)])), (3, (ii a)), (4, (ii 0)), (6, (ii ((0 : Nat))))], []⟩ [] = some y ∧ ∃ b : Int, y.1 = .exit 2 ∧ y.2.1.marks = [] ∧ y.2.2 = [] ∧ Ev.look y.2.1.vars 3 = some (ii a) ∧ Ev.look y.2.1.vars 4 = some (ii b) := by
  intro a
  have key := qf4 (f := exec (evL T) itL none qii) (s := qs [1, 3, 4, 6] true 0) (α := Int) (fun i b => ⟨[(1, (.fptr [(.fsl ((c.lps).map lpC) false), (.fsl ((c.progs).map qcf) false), (ii c.look), (ii c.fin), (ii c.cap)])), (3, (ii a)), (4, (ii b)), (6, (ii i))], []⟩) (fun _ _ => []) (fun _ _ => True) c.progs.length
   (fun y => ∃ b : Int, y.1 = .exit 2 ∧ y.2.1.marks = [] ∧ y.2.2 = [] ∧ Ev.look y.2.1.vars 3 = some (ii a) ∧ Ev.look y.2.1.vars 4 = some (ii b)) ?_ ?_ 0 0 (Nat.zero_le _) trivial
  ·exact key
  ·rintro i b hi _
   obtain ⟨x, hx⟩ : ∃ x, c.progs[i]? = some x := ⟨_, List.getElem?_eq_getElem hi⟩
   have hi' : (i : Int) < (c.progs.length : Int) := by omega
   have hw : IntKind.i64.wrap ((i : Int) + 1) = ((i + 1 : Nat) : Int) := by rw [qas (by omega) (by omega)]; simp
   obtain ⟨⟨y, e, σ⟩, k1, b', k2, k3, k4, k5, k6, k7, k8⟩ := hL3 i x a b hx
   simp only [Int.ofNat_zero] at k1 k2 k3 k4 k5 k6 k7 k8
   subst k2; subst k4
   refine .inl ⟨b', ?_, trivial⟩
   simp only [qii, hi', hw, k1, k3, k5, k6, k7, k8, qcb, qax, Ev.exec, qb, qe, qc, qai, Ev.Opnd.ev, Ev.Env.get, Ev.Env.set, Ev.look, qf, qv, qao, ql, qs, Ev.keep, qal, qaf, qg, qba, qm, qbm, qh, qd, zgi, ↓qn, ↓qa4, Ev.it1, ↓reduceIte, zgb, zfe, zgf, zgg, zgh, Nat.reduceEqDiff, zgv, zfc, zfa, zgx, zgy]
  ·rintro b _
   simp only [qii, Int.lt_irrefl, Ev.exec, qb, qe, qc, qai, Ev.Opnd.ev, Ev.Env.get, Ev.Env.set, Ev.look, qf, qv, ql, zgi, ↓qn, Ev.it1, ↓reduceIte, zgf, zgg, zgh, Nat.reduceEqDiff, zgw, zfa, zgy]
   exact ⟨_, rfl, b, rfl, rfl, rfl, rfl, rfl⟩
 obtain ⟨⟨y, e, σ⟩, k1, a, k2, k3, k4, k5, k6, k7⟩ := hL1
 obtain ⟨⟨y', e', σ'⟩, m1, b, m2, m3, m4, m5, m6⟩ := hL2 a
 simp only [Int.ofNat_zero] at k1 k2 k3 k4 k5 k6 k7 m1 m2 m3 m4 m5 m6
 subst k2; subst k4; subst m2; subst m4
 by_cases h5 : a ≤ 6
 ·exact ⟨decide (b ≤ 6), by simp only [qfr, hg, hr, h3, h4, h5, k1, k3, k5, k6, k7, m1, m3, m5, m6, qcb, qax, qj, Ev.exec, qb, qe, qc, qav, qai, Ev.evs, Ev.Opnd.ev, Ev.Env.get, Ev.Env.set, Ev.look, qk, qf, qv, Ev.AV.cells, qo, Ev.AV.plain, qbe, qqc, qbh, qi, qq, qaj, Ev.kill, qag, qs, Ev.keep, qal, qaf, qg, qba, qa2, qm, qbm, qh, qd, qx, zgi, ↓qn, ↓qa4, ↓reduceIte, zga, zgb, zgc, zfe, zgf, zgg, zgh, Nat.reduceAdd, Nat.reduceEqDiff, zgv, zgw, zfc, zfa, zgx, ne_eq, zfb, not_true_eq_false, zff, zfd, Nat.le_refl, zgy], fun _ => hok⟩
 ·exact ⟨false, by simp only [qfr, hg, hr, h3, h4, h5, k1, k3, k5, k6, k7, m1, m3, m5, qcb, qax, qj, Ev.exec, qb, qe, qc, qav, qai, Ev.evs, Ev.Opnd.ev, Ev.Env.get, Ev.Env.set, Ev.Env.unset, Ev.look, qk, qf, qv, Ev.AV.cells, qo, Ev.AV.plain, qbe, qqc, qbh, qi, qq, qaj, Ev.kill, qag, qs, Ev.keep, qal, qaf, qg, qba, qa2, qm, qbm, qh, qd, qx, zgi, ↓qn, ↓qa4, ↓reduceIte, zga, zgb, zgc, zfe, zgf, zgg, zgh, Nat.reduceAdd, Nat.reduceEqDiff, zgw, zfc, zfa, zgx, ne_eq, zfb, not_true_eq_false, zff, zfd, Nat.le_refl, zgy], fun _ => hok⟩
end Go.Proofs.Ytbhhifdhlafklaa.K
