/- For every input the statement of this claim returns true: texts of its proof, joined (part 9). -/
import Derived.Test.YthkjkdbjgpeigaaGB05
import Derived.Test.YthkjkdbjgpeigaaGB06
import Derived.Test.YthkjkdbjgpeigaaGB07
set_option linter.unusedSectionVars false
set_option linter.unusedSimpArgs false
set_option linter.unusedVariables false
namespace Go.Proofs.Ythkjkdbjgpeigaa.K
open Go.Ev
set_option maxRecDepth 10000
section
variable (g : Nat) (cl : Bool) (n : Nat)
theorem q4a (P S Q : List Evt) (x : Evt) (hn : n = (P ++ x :: (S ++ Q)).length) (hb : n < 2 ^ 61) (a i : Nat) (ha : a = P.length) (hi : i = a + S.length + 1) :
    ∃ y, itB (exec (evL T) itL none qcv) (Ev.qs [0, 10, 13] true 1) ⟨[(0, .sl 0 g 0 n cl), (10, (.v (.int .i64 (i)))), (13, (.v (.int .i64 (a))))], []⟩ [.row 6 ((P ++ x :: (S ++ Q)).map Evt.r) g] = some y ∧
      (y.1 = .exit 2 ∧ y.2.1.marks = [] ∧ y.2.2 = [.row 6 ((P ++ (S ++ x :: Q)).map Evt.r) g]) := by
  refine qi2 (τ := List Evt × Nat) (fun s => ⟨[(0, .sl 0 g 0 n cl), (10, (.v (.int .i64 (i)))), (13, (.v (.int .i64 (s.2))))], []⟩) (fun s => [.row 6 ((s.1).map Evt.r) g]) (fun s => i - s.2)
    (fun s => ∃ A B, s.1 = P ++ (A ++ x :: (B ++ Q)) ∧ s.2 = a + A.length ∧ A ++ B = S) _ ?_ (P ++ x :: (S ++ Q), a) ⟨[], S, by simp, rfl, by simp⟩
  rintro ⟨D, k⟩ ⟨A, B, hD, hk, hAB⟩
  simp only at hD hk ⊢
  have hlen : n = P.length + (S.length + (Q.length + 1)) := by rw [hn]; simp; omega
  have hSl : S.length = A.length + B.length := by rw [← hAB]; simp
  obtain ⟨i', hi'⟩ : ∃ i', i' = a + S.length := ⟨_, rfl⟩
  have w1 : IntKind.i64.wrap ((i : Int) - 1) = (i' : Int) := qwo (by omega) (by omega)
  cases B with
  | nil =>
    have h1 : ¬ (k : Int) < (i' : Int) := by simp at hSl; omega
    right
    simp only [qcv, w1, h1, Ev.exec, Ev.qb, Ev.qe, Ev.qc, Ev.qaf, Ev.Opnd.ev, Ev.Env.get, Ev.Env.set, Ev.look, Ev.qce, Ev.qo, ↓Ev.qq, Ev.it1, ↓reduceIte, Nat.reduceEqDiff, reduceCtorEq, decide_false, Bool.false_eq_true, eq_self]
    refine ⟨_, rfl, rfl, rfl, ?_⟩
    rw [hD, ← hAB]; simp
  | cons y B =>
    rw [List.length_cons] at hSl
    have h1 : (k : Int) < (i' : Int) := by omega
    have e1 : D = (P ++ A) ++ x :: y :: (B ++ Q) := by rw [hD]; simp
    have l1 : k = (P ++ A).length := by simp; omega
    obtain ⟨j, hj⟩ : ∃ j, j = k + 1 := ⟨_, rfl⟩
    have gx : D[k]? = some x := qor e1 l1
    have gy : D[j]? = some y := qor (L := P ++ A ++ [x]) (M := B ++ Q) (by rw [e1]; simp) (by simp; omega)
    have ge : D.length = n := by rw [e1, hlen]; simp; omega
    have w2 : IntKind.i64.wrap ((k : Int) + 1) = (j : Int) := by rw [hj]; exact qqa (by omega)
    have rj : j < n := by omega
    have rk : k < n := by omega
    have sw := q6b e1 l1 hj
    have hne : ¬ (k = j) := by omega
    left
    have hlo := qah 1 ((D.set k y).set j x)
    refine ⟨((D.set k y).set j x, j), ?_, ⟨A ++ [y], B, by rw [sw]; simp, by simp; omega, by rw [← hAB]; simp⟩, by simp only; omega⟩
    obtain ⟨xt, xk, xl, xi, xp, xa⟩ := x
    obtain ⟨yt, yk, yl, yi, yp, ya⟩ := y
    have hs : ∀ v, ((D.map Evt.r).set k v)[j]? = some (Evt.r ⟨yt, yk, yl, yi, yp, ya⟩) := fun v => by rw [List.getElem?_set_ne hne, List.getElem?_map, gy]; rfl
    simp only [List.map_set, Evt.r] at hlo
    simp only [qcv, Int.natCast_nonneg, Int.toNat_natCast, List.getElem?_map, Option.map_some, gx, gy, hs, h1, w1, w2, rj, rk, hlo, List.map_set, Evt.r, Ev.exec, Ev.qb, Ev.qe, Ev.qc, Ev.qaf, Ev.Opnd.ev, Ev.Env.get, Ev.Env.set, Ev.look, Ev.qi, Ev.qab, Ev.AV.cells, Ev.qv, Ev.AV.plain, Ev.qaj, Ev.qce, Ev.qo, Ev.qs, Ev.keep, Ev.qai, Ev.qaa, Ev.qd, Ev.SObj.lo, Ev.qa4, Ev.qb8, ↓Ev.qq, Ev.it1, ↓reduceIte, List.length_cons, List.length_nil, List.getElem?_cons_zero, List.take_succ_cons, List.take_zero, List.take_nil, List.drop_succ_cons, List.drop_zero, List.drop_nil, List.nil_append, List.append_nil, List.set_cons_zero, Nat.reduceAdd, Nat.reduceEqDiff, reduceCtorEq, decide_true, Bool.and_self, and_self, Nat.zero_add, Nat.lt_add_one, Nat.le_refl, eq_self]
theorem q32 (P S Q : List Evt) (x : Evt) (hn : n = (P ++ (S ++ x :: Q)).length) (hb : n < 2 ^ 61) (m i : Nat) (hi : i = P.length) (hm : m = i + S.length) :
    ∃ y, itB (exec (evL T) itL none qcu) (Ev.qs [0, 14, 17] true 1) ⟨[(0, .sl 0 g 0 n cl), (14, (.v (.int .i64 (i)))), (17, (.v (.int .i64 (m))))], []⟩ [.row 6 ((P ++ (S ++ x :: Q)).map Evt.r) g] = some y ∧
      (y.1 = .exit 6 ∧ y.2.1.marks = [] ∧ y.2.2 = [.row 6 ((P ++ x :: (S ++ Q)).map Evt.r) g]) := by
  refine qi2 (τ := List Evt × Nat) (fun s => ⟨[(0, .sl 0 g 0 n cl), (14, (.v (.int .i64 (i)))), (17, (.v (.int .i64 (s.2))))], []⟩) (fun s => [.row 6 ((s.1).map Evt.r) g]) (fun s => s.2)
    (fun s => ∃ A B, s.1 = P ++ (A ++ x :: (B ++ Q)) ∧ s.2 = i + A.length ∧ A ++ B = S) _ ?_ (P ++ (S ++ x :: Q), m) ⟨S, [], by simp, hm, by simp⟩
  rintro ⟨D, j⟩ ⟨A, B, hD, hj, hAB⟩
  simp only at hD hj ⊢
  have hlen : n = P.length + (S.length + (Q.length + 1)) := by rw [hn]; simp
  have hSl : S.length = A.length + B.length := by rw [← hAB]; simp
  rcases List.eq_nil_or_concat A with rfl | ⟨A0, y, rfl⟩
  · have h1 : ¬ (j : Int) > (i : Int) := by simp at hj; omega
    right
    simp only [qcu, h1, Ev.exec, Ev.qb, Ev.qe, Ev.qc, Ev.qaf, Ev.Opnd.ev, Ev.Env.get, Ev.Env.set, Ev.look, Ev.qau, ↓Ev.qq, Ev.it1, ↓reduceIte, Nat.reduceEqDiff, reduceCtorEq, decide_false, Bool.false_eq_true, eq_self]
    refine ⟨_, rfl, rfl, rfl, ?_⟩
    rw [hD, ← hAB]; simp
  · simp only [List.concat_eq_append, List.length_append, List.length_cons, List.length_nil] at hD hj hSl hAB
    obtain ⟨k, hk1⟩ : ∃ k, k = i + A0.length := ⟨_, rfl⟩
    have hjk : j = k + 1 := by omega
    have h1 : (j : Int) > (i : Int) := by omega
    have e1 : D = (P ++ A0) ++ y :: x :: (B ++ Q) := by rw [hD]; simp
    have l1 : k = (P ++ A0).length := by simp; omega
    have gy : D[k]? = some y := qor e1 l1
    have gx : D[j]? = some x := qor (L := P ++ A0 ++ [y]) (M := B ++ Q) (by rw [e1]; simp) (by simp; omega)
    have ge : D.length = n := by rw [e1, hlen]; simp; omega
    have ws : IntKind.i64.wrap ((j : Int) - 1) = (k : Int) := qwo hjk (by omega)
    have rj : j < n := by omega
    have rk : k < n := by omega
    have sw := q2r e1 l1 hjk
    have hne : ¬ (j = k) := by omega
    left
    have hlo := qah 1 ((D.set j y).set k x)
    refine ⟨((D.set j y).set k x, k), ?_, ⟨A0, y :: B, by rw [sw]; simp, hk1, by rw [← hAB]; simp⟩, by simp only; omega⟩
    obtain ⟨xt, xk, xl, xi, xp, xa⟩ := x
    obtain ⟨yt, yk, yl, yi, yp, ya⟩ := y
    have hs : ∀ v, ((D.map Evt.r).set j v)[k]? = some (Evt.r ⟨yt, yk, yl, yi, yp, ya⟩) := fun v => by rw [List.getElem?_set_ne hne, List.getElem?_map, gy]; rfl
    simp only [List.map_set, Evt.r] at hlo
    simp only [qcu, Int.natCast_nonneg, Int.toNat_natCast, List.getElem?_map, Option.map_some, gx, gy, hs, h1, ws, rj, rk, hlo, List.map_set, Evt.r, Ev.exec, Ev.qb, Ev.qe, Ev.qc, Ev.qaf, Ev.Opnd.ev, Ev.Env.get, Ev.Env.set, Ev.look, Ev.qi, Ev.qab, Ev.AV.cells, Ev.qv, Ev.AV.plain, Ev.qce, Ev.qau, Ev.qs, Ev.keep, Ev.qai, Ev.qaa, Ev.qd, Ev.SObj.lo, Ev.qa4, Ev.qb8, ↓Ev.qq, Ev.it1, ↓reduceIte, List.length_cons, List.length_nil, List.getElem?_cons_zero, List.take_succ_cons, List.take_zero, List.take_nil, List.drop_succ_cons, List.drop_zero, List.drop_nil, List.nil_append, List.append_nil, List.set_cons_zero, Nat.reduceAdd, Nat.reduceEqDiff, reduceCtorEq, decide_true, Bool.and_self, and_self, Nat.zero_add, Nat.lt_add_one, Nat.le_refl, eq_self]
theorem qhp.perm {D E : List Evt} (h : qhp D) (p : E.Perm D) : qhp E := fun x hx => h x (p.mem_iff.1 hx)
theorem q6c (P Y Q : List Evt) (x : Evt) (hY : Y.Pairwise leE) (hY0 : 0 < Y.length) (hn : n = (P ++ x :: (Y ++ Q)).length) (hb : n < 2 ^ 61) (hk : qhp (P ++ x :: (Y ++ Q))) (a m b : Nat) (ha : a = P.length) (hm : m = a + 1) (hbb : b = m + Y.length) :
    ∃ Z : List Evt, Z.Perm (x :: Y) ∧ Z.Pairwise leE ∧ (evL T).call qap [.sl 0 g 0 n cl, (.v (.int .i64 (a))), (.v (.int .i64 (m))), (.v (.int .i64 (b))), (.fn (.func qr) [] [])] [.row 6 ((P ++ x :: (Y ++ Q)).map Evt.r) g] = some (.tup [], [.row 6 ((P ++ (Z ++ Q)).map Evt.r) g]) := by
  have hlen : n = P.length + (1 + (Y.length + Q.length)) := by rw [hn]; simp; omega
  obtain ⟨⟨y, e, σ⟩, k1, i, k2, k3, k4, k5, k6, k7, k8, k9, k10, k11⟩ := q30 g cl n (P ++ x :: (Y ++ Q)) x hn hb hk a m b (qor rfl ha) (by omega) (by omega) (by omega)
  simp only at k1 k2 k3 k4 k5 k6 k7
  subst k2; subst k4
  obtain ⟨Y1, Y2, rfl, hY1⟩ : ∃ Y1 Y2, Y = Y1 ++ Y2 ∧ Y1.length = i - m := ⟨Y.take (i - m), Y.drop (i - m), (List.take_append_drop _ _).symm, by simp; omega⟩
  rw [List.length_append] at hbb hlen hY0
  obtain ⟨⟨y', e', σ'⟩, l1, l2, l3, l4⟩ := q4a g cl n P Y1 (Y2 ++ Q) x (by rw [hlen]; simp; omega) hb a i ha (by omega)
  simp only at l1 l2 l3 l4
  subst l2; subst l4
  rw [List.append_assoc] at hk
  refine ⟨Y1 ++ x :: Y2, List.perm_middle, qrr qpg hY ?_ ?_, ?_⟩
  · intro u hu
    rcases k10 with h | h
    · rw [show Y1 = [] from List.eq_nil_of_length_eq_zero (by omega)] at hu; simp at hu
    · have hlt : Y1.length - 1 < Y1.length := (List.getElem?_eq_some_iff.1 hu).1
      refine h u ?_
      rw [← hu]
      exact qvn (L := P ++ [x]) (X := Y1) (M := Y2 ++ Q) (by simp) hlt (by simp; omega)
  · intro v hv
    rcases k11 with h | h
    · rw [show Y2 = [] from List.eq_nil_of_length_eq_zero (by omega)] at hv; simp at hv
    · have hlt : 0 < Y2.length := (List.getElem?_eq_some_iff.1 hv).1
      refine h v ?_
      rw [← hv]
      exact qvn (L := P ++ x :: Y1) (X := Y2) (M := Q) (by simp) hlt (by simp; omega)
  · have c1 : (m : Int) - (a : Int) = 1 := by omega
    have w1 : IntKind.i64.wrap ((m : Int) - (a : Int)) = 1 := by rw [c1]; exact qat (by omega) (by omega)
    rw [List.append_assoc] at k1 ⊢
    rw [qu qh qf]
    simp only [List.append_assoc, List.cons_append]
    simp only [qg, w1, k1, k3, k5, k6, k7, l1, l3, qah, Ev.qm, Ev.exec, Ev.qb, Ev.qe, Ev.qc, Ev.qaf, Ev.Opnd.ev, Ev.Env.get, Ev.Env.set, Ev.look, Ev.qn, Ev.qce, Ev.qak, Ev.ql, Ev.qae, Ev.kill, Ev.qad, Ev.qs, Ev.keep, Ev.qai, Ev.qaa, Ev.qd, Ev.SObj.lo, Ev.qa4, Ev.qbc, Ev.qb8, Ev.qde, Ev.qj, ↓Ev.qq, ↓Ev.qan, ↓reduceIte, List.length_cons, List.length_nil, List.take_succ_cons, List.take_nil, Nat.reduceAdd, Nat.reduceEqDiff, reduceCtorEq, decide_true, Bool.and_self, and_self, Nat.zero_add, Nat.lt_add_one, eq_self]
theorem q60 (P X Q : List Evt) (x : Evt) (hX : X.Pairwise leE) (hX0 : 1 < X.length) (hn : n = (P ++ (X ++ x :: Q)).length) (hb : n < 2 ^ 61) (hk : qhp (P ++ (X ++ x :: Q))) (a m b : Nat) (ha : a = P.length) (hm : m = a + X.length) (hbb : b = m + 1) :
    ∃ Z : List Evt, Z.Perm (X ++ [x]) ∧ Z.Pairwise leE ∧ (evL T).call qap [.sl 0 g 0 n cl, (.v (.int .i64 (a))), (.v (.int .i64 (m))), (.v (.int .i64 (b))), (.fn (.func qr) [] [])] [.row 6 ((P ++ (X ++ x :: Q)).map Evt.r) g] = some (.tup [], [.row 6 ((P ++ (Z ++ Q)).map Evt.r) g]) := by
  have hlen : n = P.length + (X.length + (Q.length + 1)) := by rw [hn]; simp
  obtain ⟨⟨y, e, σ⟩, k1, i, k2, k3, k4, k5, k6, k7, k8, k9, k10, k11⟩ := q4j g cl n (P ++ (X ++ x :: Q)) x hn hb hk a m (qor (L := P ++ X) (M := Q) (by simp) (by simp; omega)) (by omega) (by omega)
  simp only at k1 k2 k3 k4 k5 k6 k7
  subst k2; subst k4
  obtain ⟨X1, X2, rfl, hX1⟩ : ∃ X1 X2, X = X1 ++ X2 ∧ X1.length = i - a := ⟨X.take (i - a), X.drop (i - a), (List.take_append_drop _ _).symm, by simp; omega⟩
  rw [List.length_append] at hm hlen hX0
  obtain ⟨⟨y', e', σ'⟩, l1, l2, l3, l4⟩ := q32 g cl n (P ++ X1) X2 Q x (by rw [hlen]; simp; omega) hb m i (by simp; omega) (by omega)
  simp only at l1 l2 l3 l4
  subst l2; subst l4
  refine ⟨X1 ++ x :: X2, ?_, qrr qpg hX ?_ ?_, ?_⟩
  · rw [List.append_assoc]
    exact List.Perm.append_left X1 (List.perm_append_singleton x X2).symm
  · intro u hu
    rcases k10 with h | h
    · rw [show X1 = [] from List.eq_nil_of_length_eq_zero (by omega)] at hu; simp at hu
    · have hlt : X1.length - 1 < X1.length := (List.getElem?_eq_some_iff.1 hu).1
      refine h u ?_
      rw [← hu]
      exact qvn (L := P) (X := X1) (M := X2 ++ x :: Q) (by simp) hlt (by omega)
  · intro v hv
    rcases k11 with h | h
    · rw [show X2 = [] from List.eq_nil_of_length_eq_zero (by omega)] at hv; simp at hv
    · have hlt : 0 < X2.length := (List.getElem?_eq_some_iff.1 hv).1
      refine h v ?_
      rw [← hv]
      exact qvn (L := P ++ X1) (X := X2) (M := x :: Q) (by simp) hlt (by simp; omega)
  · have w1 : IntKind.i64.wrap ((m : Int) - (a : Int)) = ((X1.length + X2.length : Nat) : Int) := qe2 hm (by omega)
    have h1 : ¬ ((X1.length + X2.length : Nat) : Int) = 1 := by omega
    have w2 : IntKind.i64.wrap ((b : Int) - (m : Int)) = 1 := by rw [show (b : Int) - (m : Int) = 1 by omega]; exact qat (by omega) (by omega)
    rw [qu qh qf]
    simp only [List.append_assoc, List.cons_append] at k1 l1 ⊢
    simp only [qg, w1, w2, h1, k1, k3, k5, k6, k7, l1, l3, qah, Ev.qm, Ev.exec, Ev.qb, Ev.qe, Ev.qc, Ev.qaf, Ev.Opnd.ev, Ev.Env.get, Ev.Env.set, Ev.look, Ev.qn, Ev.qce, Ev.qak, Ev.ql, Ev.qae, Ev.kill, Ev.qad, Ev.qs, Ev.keep, Ev.qai, Ev.qaa, Ev.qd, Ev.SObj.lo, Ev.qa4, Ev.qbc, Ev.qb8, Ev.qde, Ev.qj, ↓Ev.qq, ↓Ev.qan, ↓reduceIte, List.length_cons, List.length_nil, List.take_succ_cons, List.take_nil, Nat.reduceAdd, Nat.reduceEqDiff, reduceCtorEq, decide_true, decide_false, Bool.and_self, Bool.false_eq_true, and_self, Nat.zero_add, Nat.lt_add_one, eq_self]
end
set_option maxRecDepth 10000
section
variable (g : Nat) (cl : Bool) (n : Nat)
def qbb (a m b : Nat) (D D' : List Evt) : Prop := (evL T).call qap [.sl 0 g 0 n cl, (.v (.int .i64 (a))), (.v (.int .i64 (m))), (.v (.int .i64 (b))), (.fn (.func qr) [] [])] [.row 6 ((D).map Evt.r) g] = some (.tup [], [.row 6 ((D').map Evt.r) g])
structure Nums (x1 x2 y1 y2 a m b mid nn lo hi p start fin : Nat) : Prop where
  hX1 : 1 < x1 + x2
  hY1 : 1 < y1 + y2
  hb : n < 2 ^ 61
  hmid : mid = (a + b) / 2
  hnn : nn = mid + m
  hp : nn = p + 1
  hfin : nn = start + fin
  hm : m = a + (x1 + x2)
  hbb : b = m + (y1 + y2)
  hbn : b ≤ n
  hst : start = a + x1
  hfi : fin = m + y1
structure Wraps (x1 x2 y1 y2 a m b mid nn p start fin : Nat) : Prop where
  w1 : IntKind.i64.wrap ((m : Int) - (a : Int)) = ((x1 + x2 : Nat) : Int)
  h1 : ¬ ((x1 + x2 : Nat) : Int) = 1
  w2 : IntKind.i64.wrap ((b : Int) - (m : Int)) = ((y1 + y2 : Nat) : Int)
  h2 : ¬ ((y1 + y2 : Nat) : Int) = 1
  w3 : IntKind.i64.wrap ((a : Int) + (b : Int)) = ((a + b : Nat) : Int)
  w4 : IntKind.u64.wrap ((a + b : Nat) : Int) = ((a + b : Nat) : Int)
  w5 : qk4 .shr (.v (.int .u64 ((a + b : Nat) : Int))) (.v (.int .u64 1)) = some (.v (.int .u64 (mid : Int)))
  w6 : IntKind.i64.wrap (mid : Int) = (mid : Int)
  w7 : IntKind.i64.wrap ((mid : Int) + (m : Int)) = (nn : Int)
  w8 : IntKind.i64.wrap ((nn : Int) - 1) = (p : Int)
  w9 : IntKind.i64.wrap ((nn : Int) - (start : Int)) = (fin : Int)
  c5 : mid < fin ↔ start < m
  c6 : start < mid ↔ m < fin
theorem Nums.wraps {n x1 x2 y1 y2 a m b mid nn lo hi p start fin : Nat} (N : Nums n x1 x2 y1 y2 a m b mid nn lo hi p start fin) : Wraps x1 x2 y1 y2 a m b mid nn p start fin := by
  obtain ⟨hX1, hY1, hb, hmid, hnn, hp, hfin, hm, hbb, hbn, hst, hfi⟩ := N
  refine ⟨qe2 hm (by omega), by omega, qe2 hbb (by omega), by omega, qlx (by omega), qtv (by omega), qwt (a + b) mid hmid, qti (by omega), ?_, qwo hp (by omega), qe2 hfin (by omega), by omega, by omega⟩
  rw [hnn]; exact qlx (by omega)
def qju (a m b mid nn lo hi p start : Nat) (D : List Evt) : Prop := ∃ y, itB (exec (evL T) itL none qbf) (Ev.qs [0, 1, 2, 3, 4, 18, 19, 20, 21, 22] true 1) ⟨[(0, .sl 0 g 0 n cl), (1, (.v (.int .i64 (a)))), (2, (.v (.int .i64 (m)))), (3, (.v (.int .i64 (b)))), (4, (.fn (.func qr) [] [])), (18, (.v (.int .i64 (mid)))), (19, (.v (.int .i64 (nn)))), (20, (.v (.int .i64 (lo)))), (21, (.v (.int .i64 (hi)))), (22, (.v (.int .i64 (p))))], []⟩ [.row 6 ((D).map Evt.r) g] = some y ∧
      (y.1 = .exit 8 ∧ y.2.1.marks = [] ∧ y.2.2 = [.row 6 ((D).map Evt.r) g] ∧ Ev.look y.2.1.vars 0 = some (.sl 0 g 0 n cl) ∧ Ev.look y.2.1.vars 1 = some (.v (.int .i64 (a))) ∧ Ev.look y.2.1.vars 2 = some (.v (.int .i64 (m))) ∧ Ev.look y.2.1.vars 3 = some (.v (.int .i64 (b))) ∧ Ev.look y.2.1.vars 4 = some (.fn (.func qr) [] []) ∧ Ev.look y.2.1.vars 18 = some (.v (.int .i64 (mid))) ∧
        Ev.look y.2.1.vars 19 = some (.v (.int .i64 (nn))) ∧ Ev.look y.2.1.vars 20 = some (.v (.int .i64 (start))))
structure Steps (a m b mid start fin : Nat) (D D2 D3 D4 : List Evt) : Prop where
  s1 : start < m → m < fin → (evL T).call qbi [.sl 0 g 0 n cl, (.v (.int .i64 (start))), (.v (.int .i64 (m))), (.v (.int .i64 (fin))), (.fn (.func qr) [] [])] [.row 6 ((D).map Evt.r) g] = some (.tup [], [.row 6 ((D2).map Evt.r) g])
  n1 : ¬ (start < m ∧ m < fin) → D2 = D
  s2 : a < start → start < mid → qbb g cl n a start mid D2 D3
  n2 : ¬ (a < start ∧ start < mid) → D3 = D2
  s3 : mid < fin → fin < b → qbb g cl n mid fin b D3 D4
  n3 : ¬ (mid < fin ∧ fin < b) → D4 = D3
theorem qyf (x1 x2 y1 y2 a m b mid nn lo hi p start fin : Nat) (D D2 D3 D4 : List Evt) (N : Nums n x1 x2 y1 y2 a m b mid nn lo hi p start fin) (g1 : mid < m) (g2 : nn = b + lo)
    (d1 : start < m) (d2 : m < fin) (d3 : a < start) (d4 : fin < b)
    (hf : qju g cl n a m b mid nn lo mid p start D) (hS : Steps g cl n a m b mid start fin D D2 D3 D4) : qbb g cl n a m b D D4 := by
  obtain ⟨s1, n1, s2, n2, s3, n3⟩ := hS
  obtain ⟨⟨y, e, σ⟩, k1, k2, k3, k4, k5, k6, k7, k8, k9, k10, k11, k12⟩ := hf
  obtain ⟨w1, h1, w2, h2, w3, w4, w5, w6, w7, w8, w9, c5, c6⟩ := N.wraps
  simp only at k1 k2 k3 k4 k5 k6 k7 k8 k9 k10 k11 k12
  subst k2; subst k4
  unfold qbb at *
  rw [qu qh qf]
  have g4 : (m : Int) > (mid : Int) := Int.ofNat_lt.2 g1
  have g5 : IntKind.i64.wrap ((nn : Int) - (b : Int)) = (lo : Int) := qe2 g2 (by have := N.hnn; have := N.hmid; have := N.hb; have := N.hbn; have := N.hm; have := N.hbb; omega)
  have e1 : (start : Int) < (m : Int) := Int.ofNat_lt.2 d1
  have e2 : (m : Int) < (fin : Int) := Int.ofNat_lt.2 d2
  have e3 : (a : Int) < (start : Int) := Int.ofNat_lt.2 d3
  have e5 : (mid : Int) < (fin : Int) := Int.ofNat_lt.2 (c5.2 d1)
  have e6 : (start : Int) < (mid : Int) := Int.ofNat_lt.2 (c6.2 d2)
  have e4 : (fin : Int) < (b : Int) := Int.ofNat_lt.2 d4
  have r1 := s1 d1 d2
  have r2 := s2 d3 (c6.2 d2)
  have r3 := s3 (c5.2 d1) d4
  simp only [qg, w1, w2, w3, w4, w5, w6, w7, w8, w9, h1, h2, g4, k1, k3, k5, k6, k7, k8, k9, k10, k11, k12, e1, e2, e3, e5, e6, g5, r1, r2, r3, e4, qah, Ev.qm, Ev.exec, Ev.qb, Ev.qe, Ev.qc, Ev.qd0, Ev.qaf, Ev.evs, Ev.Opnd.ev, Ev.Env.get, Ev.Env.set, Ev.look, Ev.qn, Ev.qaj, Ev.qce, Ev.qak, Ev.qo, Ev.qau, Ev.ql, Ev.qae, Ev.kill, Ev.qad, Ev.qs, Ev.keep, Ev.qai, Ev.qaa, Ev.qd, Ev.SObj.lo, Ev.qa4, Ev.qbc, Ev.qb8, Ev.qde, Ev.qj, ↓Ev.qq, ↓Ev.qan, ↓reduceIte, List.length_cons, List.length_nil, List.take_succ_cons, List.take_nil, Nat.reduceAdd, Nat.reduceEqDiff, reduceCtorEq, decide_true, decide_false, Bool.and_self, Bool.false_eq_true, and_self, Nat.zero_add, Nat.lt_add_one, eq_self]
theorem qw6 (x1 x2 y1 y2 a m b mid nn lo hi p start fin : Nat) (D D2 D3 D4 : List Evt) (N : Nums n x1 x2 y1 y2 a m b mid nn lo hi p start fin) (g1 : mid < m) (g2 : nn = b + lo)
    (d1 : start < m) (d2 : m < fin) (d3 : a < start) (d4 : ¬ fin < b)
    (hf : qju g cl n a m b mid nn lo mid p start D) (hS : Steps g cl n a m b mid start fin D D2 D3 D4) : qbb g cl n a m b D D4 := by
  obtain ⟨s1, n1, s2, n2, s3, n3⟩ := hS
  obtain ⟨⟨y, e, σ⟩, k1, k2, k3, k4, k5, k6, k7, k8, k9, k10, k11, k12⟩ := hf
  obtain ⟨w1, h1, w2, h2, w3, w4, w5, w6, w7, w8, w9, c5, c6⟩ := N.wraps
  simp only at k1 k2 k3 k4 k5 k6 k7 k8 k9 k10 k11 k12
  subst k2; subst k4
  unfold qbb at *
  rw [qu qh qf]
  have g4 : (m : Int) > (mid : Int) := Int.ofNat_lt.2 g1
  have g5 : IntKind.i64.wrap ((nn : Int) - (b : Int)) = (lo : Int) := qe2 g2 (by have := N.hnn; have := N.hmid; have := N.hb; have := N.hbn; have := N.hm; have := N.hbb; omega)
  have e1 : (start : Int) < (m : Int) := Int.ofNat_lt.2 d1
  have e2 : (m : Int) < (fin : Int) := Int.ofNat_lt.2 d2
  have e3 : (a : Int) < (start : Int) := Int.ofNat_lt.2 d3
  have e5 : (mid : Int) < (fin : Int) := Int.ofNat_lt.2 (c5.2 d1)
  have e6 : (start : Int) < (mid : Int) := Int.ofNat_lt.2 (c6.2 d2)
  have e4 : ¬ (fin : Int) < (b : Int) := fun h => d4 (Int.ofNat_lt.1 h)
  have r1 := s1 d1 d2
  have r2 := s2 d3 (c6.2 d2)
  have r3 := n3 (fun h => d4 h.2); subst r3
  simp only [qg, w1, w2, w3, w4, w5, w6, w7, w8, w9, h1, h2, g4, k1, k3, k5, k6, k7, k8, k9, k10, k11, k12, e1, e2, e3, e5, e6, g5, r1, r2, e4, qah, Ev.qm, Ev.exec, Ev.qb, Ev.qe, Ev.qc, Ev.qd0, Ev.qaf, Ev.evs, Ev.Opnd.ev, Ev.Env.get, Ev.Env.set, Ev.look, Ev.qn, Ev.qaj, Ev.qce, Ev.qak, Ev.qo, Ev.qau, Ev.ql, Ev.qae, Ev.kill, Ev.qad, Ev.qs, Ev.keep, Ev.qai, Ev.qaa, Ev.qd, Ev.SObj.lo, Ev.qa4, Ev.qbc, Ev.qb8, Ev.qde, Ev.qj, ↓Ev.qq, ↓Ev.qan, ↓reduceIte, List.length_cons, List.length_nil, List.take_succ_cons, List.take_nil, Nat.reduceAdd, Nat.reduceEqDiff, reduceCtorEq, decide_true, decide_false, Bool.and_self, Bool.false_eq_true, and_self, Nat.zero_add, Nat.lt_add_one, eq_self]
theorem qzf (x1 x2 y1 y2 a m b mid nn lo hi p start fin : Nat) (D D2 D3 D4 : List Evt) (N : Nums n x1 x2 y1 y2 a m b mid nn lo hi p start fin) (g1 : mid < m) (g2 : nn = b + lo)
    (d1 : start < m) (d2 : m < fin) (d3 : ¬ a < start) (d4 : fin < b)
    (hf : qju g cl n a m b mid nn lo mid p start D) (hS : Steps g cl n a m b mid start fin D D2 D3 D4) : qbb g cl n a m b D D4 := by
  obtain ⟨s1, n1, s2, n2, s3, n3⟩ := hS
  obtain ⟨⟨y, e, σ⟩, k1, k2, k3, k4, k5, k6, k7, k8, k9, k10, k11, k12⟩ := hf
  obtain ⟨w1, h1, w2, h2, w3, w4, w5, w6, w7, w8, w9, c5, c6⟩ := N.wraps
  simp only at k1 k2 k3 k4 k5 k6 k7 k8 k9 k10 k11 k12
  subst k2; subst k4
  unfold qbb at *
  rw [qu qh qf]
  have g4 : (m : Int) > (mid : Int) := Int.ofNat_lt.2 g1
  have g5 : IntKind.i64.wrap ((nn : Int) - (b : Int)) = (lo : Int) := qe2 g2 (by have := N.hnn; have := N.hmid; have := N.hb; have := N.hbn; have := N.hm; have := N.hbb; omega)
  have e1 : (start : Int) < (m : Int) := Int.ofNat_lt.2 d1
  have e2 : (m : Int) < (fin : Int) := Int.ofNat_lt.2 d2
  have e3 : ¬ (a : Int) < (start : Int) := fun h => d3 (Int.ofNat_lt.1 h)
  have e5 : (mid : Int) < (fin : Int) := Int.ofNat_lt.2 (c5.2 d1)
  have e6 : (start : Int) < (mid : Int) := Int.ofNat_lt.2 (c6.2 d2)
  have e4 : (fin : Int) < (b : Int) := Int.ofNat_lt.2 d4
  have r1 := s1 d1 d2
  have r2 := n2 (fun h => d3 h.1); subst r2
  have r3 := s3 (c5.2 d1) d4
  simp only [qg, w1, w2, w3, w4, w5, w6, w7, w8, w9, h1, h2, g4, k1, k3, k5, k6, k7, k8, k9, k10, k11, k12, e1, e2, e3, e5, g5, r1, r3, e4, qah, Ev.qm, Ev.exec, Ev.qb, Ev.qe, Ev.qc, Ev.qd0, Ev.qaf, Ev.evs, Ev.Opnd.ev, Ev.Env.get, Ev.Env.set, Ev.Env.unset, Ev.look, Ev.qn, Ev.qaj, Ev.qce, Ev.qak, Ev.qo, Ev.qau, Ev.ql, Ev.qae, Ev.kill, Ev.qad, Ev.qs, Ev.keep, Ev.qai, Ev.qaa, Ev.qd, Ev.SObj.lo, Ev.qa4, Ev.qbc, Ev.qb8, Ev.qde, Ev.qj, ↓Ev.qq, ↓Ev.qan, ↓reduceIte, List.length_cons, List.length_nil, List.take_succ_cons, List.take_nil, Nat.reduceAdd, Nat.reduceEqDiff, reduceCtorEq, decide_true, decide_false, Bool.and_self, Bool.false_eq_true, and_self, Nat.zero_add, Nat.lt_add_one, eq_self]
theorem qyy (x1 x2 y1 y2 a m b mid nn lo hi p start fin : Nat) (D D2 D3 D4 : List Evt) (N : Nums n x1 x2 y1 y2 a m b mid nn lo hi p start fin) (g1 : mid < m) (g2 : nn = b + lo)
    (d1 : start < m) (d2 : m < fin) (d3 : ¬ a < start) (d4 : ¬ fin < b)
    (hf : qju g cl n a m b mid nn lo mid p start D) (hS : Steps g cl n a m b mid start fin D D2 D3 D4) : qbb g cl n a m b D D4 := by
  obtain ⟨s1, n1, s2, n2, s3, n3⟩ := hS
  obtain ⟨⟨y, e, σ⟩, k1, k2, k3, k4, k5, k6, k7, k8, k9, k10, k11, k12⟩ := hf
  obtain ⟨w1, h1, w2, h2, w3, w4, w5, w6, w7, w8, w9, c5, c6⟩ := N.wraps
  simp only at k1 k2 k3 k4 k5 k6 k7 k8 k9 k10 k11 k12
  subst k2; subst k4
  unfold qbb at *
  rw [qu qh qf]
  have g4 : (m : Int) > (mid : Int) := Int.ofNat_lt.2 g1
  have g5 : IntKind.i64.wrap ((nn : Int) - (b : Int)) = (lo : Int) := qe2 g2 (by have := N.hnn; have := N.hmid; have := N.hb; have := N.hbn; have := N.hm; have := N.hbb; omega)
  have e1 : (start : Int) < (m : Int) := Int.ofNat_lt.2 d1
  have e2 : (m : Int) < (fin : Int) := Int.ofNat_lt.2 d2
  have e3 : ¬ (a : Int) < (start : Int) := fun h => d3 (Int.ofNat_lt.1 h)
  have e5 : (mid : Int) < (fin : Int) := Int.ofNat_lt.2 (c5.2 d1)
  have e6 : (start : Int) < (mid : Int) := Int.ofNat_lt.2 (c6.2 d2)
  have e4 : ¬ (fin : Int) < (b : Int) := fun h => d4 (Int.ofNat_lt.1 h)
  have r1 := s1 d1 d2
  have r2 := n2 (fun h => d3 h.1); subst r2
  have r3 := n3 (fun h => d4 h.2); subst r3
  simp only [qg, w1, w2, w3, w4, w5, w6, w7, w8, w9, h1, h2, g4, k1, k3, k5, k6, k7, k8, k9, k10, k11, k12, e1, e2, e3, e5, g5, r1, e4, qah, Ev.qm, Ev.exec, Ev.qb, Ev.qe, Ev.qc, Ev.qd0, Ev.qaf, Ev.evs, Ev.Opnd.ev, Ev.Env.get, Ev.Env.set, Ev.Env.unset, Ev.look, Ev.qn, Ev.qaj, Ev.qce, Ev.qak, Ev.qo, Ev.qau, Ev.ql, Ev.qae, Ev.kill, Ev.qad, Ev.qs, Ev.keep, Ev.qai, Ev.qaa, Ev.qd, Ev.SObj.lo, Ev.qa4, Ev.qbc, Ev.qb8, Ev.qde, Ev.qj, ↓Ev.qq, ↓Ev.qan, ↓reduceIte, List.length_cons, List.length_nil, List.take_succ_cons, List.take_nil, Nat.reduceAdd, Nat.reduceEqDiff, reduceCtorEq, decide_true, decide_false, Bool.and_self, Bool.false_eq_true, and_self, Nat.zero_add, Nat.lt_add_one, eq_self]
theorem qwx (x1 x2 y1 y2 a m b mid nn lo hi p start fin : Nat) (D D2 D3 D4 : List Evt) (N : Nums n x1 x2 y1 y2 a m b mid nn lo hi p start fin) (g1 : mid < m) (g2 : nn = b + lo)
    (d1 : start < m) (d2 : ¬ m < fin) (d3 : a < start) (d4 : fin < b)
    (hf : qju g cl n a m b mid nn lo mid p start D) (hS : Steps g cl n a m b mid start fin D D2 D3 D4) : qbb g cl n a m b D D4 := by
  obtain ⟨s1, n1, s2, n2, s3, n3⟩ := hS
  obtain ⟨⟨y, e, σ⟩, k1, k2, k3, k4, k5, k6, k7, k8, k9, k10, k11, k12⟩ := hf
  obtain ⟨w1, h1, w2, h2, w3, w4, w5, w6, w7, w8, w9, c5, c6⟩ := N.wraps
  simp only at k1 k2 k3 k4 k5 k6 k7 k8 k9 k10 k11 k12
  subst k2; subst k4
  unfold qbb at *
  rw [qu qh qf]
  have g4 : (m : Int) > (mid : Int) := Int.ofNat_lt.2 g1
  have g5 : IntKind.i64.wrap ((nn : Int) - (b : Int)) = (lo : Int) := qe2 g2 (by have := N.hnn; have := N.hmid; have := N.hb; have := N.hbn; have := N.hm; have := N.hbb; omega)
  have e1 : (start : Int) < (m : Int) := Int.ofNat_lt.2 d1
  have e2 : ¬ (m : Int) < (fin : Int) := fun h => d2 (Int.ofNat_lt.1 h)
  have e3 : (a : Int) < (start : Int) := Int.ofNat_lt.2 d3
  have e5 : (mid : Int) < (fin : Int) := Int.ofNat_lt.2 (c5.2 d1)
  have e6 : ¬ (start : Int) < (mid : Int) := fun h => d2 (c6.1 (Int.ofNat_lt.1 h))
  have e4 : (fin : Int) < (b : Int) := Int.ofNat_lt.2 d4
  have r1 := n1 (fun h => d2 h.2); subst r1
  have r2 := n2 (fun h => d2 (c6.1 h.2)); subst r2
  have r3 := s3 (c5.2 d1) d4
  simp only [qg, w1, w2, w3, w4, w5, w6, w7, w8, w9, h1, h2, g4, k1, k3, k5, k6, k7, k8, k9, k10, k11, k12, e1, e2, e3, e5, e6, g5, r3, e4, qah, Ev.qm, Ev.exec, Ev.qb, Ev.qe, Ev.qc, Ev.qd0, Ev.qaf, Ev.evs, Ev.Opnd.ev, Ev.Env.get, Ev.Env.set, Ev.look, Ev.qn, Ev.qaj, Ev.qce, Ev.qak, Ev.qo, Ev.qau, Ev.ql, Ev.qae, Ev.kill, Ev.qad, Ev.qs, Ev.keep, Ev.qai, Ev.qaa, Ev.qd, Ev.SObj.lo, Ev.qa4, Ev.qbc, Ev.qb8, Ev.qde, Ev.qj, ↓Ev.qq, ↓Ev.qan, ↓reduceIte, List.length_cons, List.length_nil, List.take_succ_cons, List.take_nil, Nat.reduceAdd, Nat.reduceEqDiff, reduceCtorEq, decide_true, decide_false, Bool.and_self, Bool.false_eq_true, and_self, Nat.zero_add, Nat.lt_add_one, eq_self]
theorem qym (x1 x2 y1 y2 a m b mid nn lo hi p start fin : Nat) (D D2 D3 D4 : List Evt) (N : Nums n x1 x2 y1 y2 a m b mid nn lo hi p start fin) (g1 : mid < m) (g2 : nn = b + lo)
    (d1 : start < m) (d2 : ¬ m < fin) (d3 : a < start) (d4 : ¬ fin < b)
    (hf : qju g cl n a m b mid nn lo mid p start D) (hS : Steps g cl n a m b mid start fin D D2 D3 D4) : qbb g cl n a m b D D4 := by
  obtain ⟨s1, n1, s2, n2, s3, n3⟩ := hS
  obtain ⟨⟨y, e, σ⟩, k1, k2, k3, k4, k5, k6, k7, k8, k9, k10, k11, k12⟩ := hf
  obtain ⟨w1, h1, w2, h2, w3, w4, w5, w6, w7, w8, w9, c5, c6⟩ := N.wraps
  simp only at k1 k2 k3 k4 k5 k6 k7 k8 k9 k10 k11 k12
  subst k2; subst k4
  unfold qbb at *
  rw [qu qh qf]
  have g4 : (m : Int) > (mid : Int) := Int.ofNat_lt.2 g1
  have g5 : IntKind.i64.wrap ((nn : Int) - (b : Int)) = (lo : Int) := qe2 g2 (by have := N.hnn; have := N.hmid; have := N.hb; have := N.hbn; have := N.hm; have := N.hbb; omega)
  have e1 : (start : Int) < (m : Int) := Int.ofNat_lt.2 d1
  have e2 : ¬ (m : Int) < (fin : Int) := fun h => d2 (Int.ofNat_lt.1 h)
  have e3 : (a : Int) < (start : Int) := Int.ofNat_lt.2 d3
  have e5 : (mid : Int) < (fin : Int) := Int.ofNat_lt.2 (c5.2 d1)
  have e6 : ¬ (start : Int) < (mid : Int) := fun h => d2 (c6.1 (Int.ofNat_lt.1 h))
  have e4 : ¬ (fin : Int) < (b : Int) := fun h => d4 (Int.ofNat_lt.1 h)
  have r1 := n1 (fun h => d2 h.2); subst r1
  have r2 := n2 (fun h => d2 (c6.1 h.2)); subst r2
  have r3 := n3 (fun h => d4 h.2); subst r3
  simp only [qg, w1, w2, w3, w4, w5, w6, w7, w8, w9, h1, h2, g4, k1, k3, k6, k7, k8, k10, k11, k12, e1, e2, e3, e5, e6, g5, e4, qah, Ev.qm, Ev.exec, Ev.qb, Ev.qe, Ev.qc, Ev.qaf, Ev.Opnd.ev, Ev.Env.get, Ev.Env.set, Ev.look, Ev.qn, Ev.qaj, Ev.qce, Ev.qak, Ev.qo, Ev.qau, Ev.ql, Ev.qae, Ev.kill, Ev.qad, Ev.qs, Ev.keep, Ev.qai, Ev.qaa, Ev.qd, Ev.SObj.lo, Ev.qa4, Ev.qbc, Ev.qb8, Ev.qde, Ev.qj, ↓Ev.qq, ↓Ev.qan, ↓reduceIte, List.length_cons, List.length_nil, List.take_succ_cons, List.take_nil, Nat.reduceAdd, Nat.reduceEqDiff, reduceCtorEq, decide_true, decide_false, Bool.and_self, Bool.false_eq_true, and_self, Nat.zero_add, Nat.lt_add_one, eq_self]
theorem qxe (x1 x2 y1 y2 a m b mid nn lo hi p start fin : Nat) (D D2 D3 D4 : List Evt) (N : Nums n x1 x2 y1 y2 a m b mid nn lo hi p start fin) (g1 : mid < m) (g2 : nn = b + lo)
    (d1 : start < m) (d2 : ¬ m < fin) (d3 : ¬ a < start) (d4 : fin < b)
    (hf : qju g cl n a m b mid nn lo mid p start D) (hS : Steps g cl n a m b mid start fin D D2 D3 D4) : qbb g cl n a m b D D4 := by
  obtain ⟨s1, n1, s2, n2, s3, n3⟩ := hS
  obtain ⟨⟨y, e, σ⟩, k1, k2, k3, k4, k5, k6, k7, k8, k9, k10, k11, k12⟩ := hf
  obtain ⟨w1, h1, w2, h2, w3, w4, w5, w6, w7, w8, w9, c5, c6⟩ := N.wraps
  simp only at k1 k2 k3 k4 k5 k6 k7 k8 k9 k10 k11 k12
  subst k2; subst k4
  unfold qbb at *
  rw [qu qh qf]
  have g4 : (m : Int) > (mid : Int) := Int.ofNat_lt.2 g1
  have g5 : IntKind.i64.wrap ((nn : Int) - (b : Int)) = (lo : Int) := qe2 g2 (by have := N.hnn; have := N.hmid; have := N.hb; have := N.hbn; have := N.hm; have := N.hbb; omega)
  have e1 : (start : Int) < (m : Int) := Int.ofNat_lt.2 d1
  have e2 : ¬ (m : Int) < (fin : Int) := fun h => d2 (Int.ofNat_lt.1 h)
  have e3 : ¬ (a : Int) < (start : Int) := fun h => d3 (Int.ofNat_lt.1 h)
  have e5 : (mid : Int) < (fin : Int) := Int.ofNat_lt.2 (c5.2 d1)
  have e6 : ¬ (start : Int) < (mid : Int) := fun h => d2 (c6.1 (Int.ofNat_lt.1 h))
  have e4 : (fin : Int) < (b : Int) := Int.ofNat_lt.2 d4
  have r1 := n1 (fun h => d2 h.2); subst r1
  have r2 := n2 (fun h => d3 h.1); subst r2
  have r3 := s3 (c5.2 d1) d4
  simp only [qg, w1, w2, w3, w4, w5, w6, w7, w8, w9, h1, h2, g4, k1, k3, k5, k6, k7, k8, k9, k10, k11, k12, e1, e2, e3, e5, g5, r3, e4, qah, Ev.qm, Ev.exec, Ev.qb, Ev.qe, Ev.qc, Ev.qd0, Ev.qaf, Ev.evs, Ev.Opnd.ev, Ev.Env.get, Ev.Env.set, Ev.Env.unset, Ev.look, Ev.qn, Ev.qaj, Ev.qce, Ev.qak, Ev.qo, Ev.qau, Ev.ql, Ev.qae, Ev.kill, Ev.qad, Ev.qs, Ev.keep, Ev.qai, Ev.qaa, Ev.qd, Ev.SObj.lo, Ev.qa4, Ev.qbc, Ev.qb8, Ev.qde, Ev.qj, ↓Ev.qq, ↓Ev.qan, ↓reduceIte, List.length_cons, List.length_nil, List.take_succ_cons, List.take_nil, Nat.reduceAdd, Nat.reduceEqDiff, reduceCtorEq, decide_true, decide_false, Bool.and_self, Bool.false_eq_true, and_self, Nat.zero_add, Nat.lt_add_one, eq_self]
theorem qx3 (x1 x2 y1 y2 a m b mid nn lo hi p start fin : Nat) (D D2 D3 D4 : List Evt) (N : Nums n x1 x2 y1 y2 a m b mid nn lo hi p start fin) (g1 : mid < m) (g2 : nn = b + lo)
    (d1 : start < m) (d2 : ¬ m < fin) (d3 : ¬ a < start) (d4 : ¬ fin < b)
    (hf : qju g cl n a m b mid nn lo mid p start D) (hS : Steps g cl n a m b mid start fin D D2 D3 D4) : qbb g cl n a m b D D4 := by
  obtain ⟨s1, n1, s2, n2, s3, n3⟩ := hS
  obtain ⟨⟨y, e, σ⟩, k1, k2, k3, k4, k5, k6, k7, k8, k9, k10, k11, k12⟩ := hf
  obtain ⟨w1, h1, w2, h2, w3, w4, w5, w6, w7, w8, w9, c5, c6⟩ := N.wraps
  simp only at k1 k2 k3 k4 k5 k6 k7 k8 k9 k10 k11 k12
  subst k2; subst k4
  unfold qbb at *
  rw [qu qh qf]
  have g4 : (m : Int) > (mid : Int) := Int.ofNat_lt.2 g1
  have g5 : IntKind.i64.wrap ((nn : Int) - (b : Int)) = (lo : Int) := qe2 g2 (by have := N.hnn; have := N.hmid; have := N.hb; have := N.hbn; have := N.hm; have := N.hbb; omega)
  have e1 : (start : Int) < (m : Int) := Int.ofNat_lt.2 d1
  have e2 : ¬ (m : Int) < (fin : Int) := fun h => d2 (Int.ofNat_lt.1 h)
  have e3 : ¬ (a : Int) < (start : Int) := fun h => d3 (Int.ofNat_lt.1 h)
  have e5 : (mid : Int) < (fin : Int) := Int.ofNat_lt.2 (c5.2 d1)
  have e6 : ¬ (start : Int) < (mid : Int) := fun h => d2 (c6.1 (Int.ofNat_lt.1 h))
  have e4 : ¬ (fin : Int) < (b : Int) := fun h => d4 (Int.ofNat_lt.1 h)
  have r1 := n1 (fun h => d2 h.2); subst r1
  have r2 := n2 (fun h => d3 h.1); subst r2
  have r3 := n3 (fun h => d4 h.2); subst r3
  simp only [qg, w1, w2, w3, w4, w5, w6, w7, w8, w9, h1, h2, g4, k1, k3, k6, k7, k8, k10, k11, k12, e1, e2, e3, e5, g5, e4, qah, Ev.qm, Ev.exec, Ev.qb, Ev.qe, Ev.qc, Ev.qaf, Ev.Opnd.ev, Ev.Env.get, Ev.Env.set, Ev.Env.unset, Ev.look, Ev.qn, Ev.qaj, Ev.qce, Ev.qak, Ev.qo, Ev.qau, Ev.ql, Ev.qae, Ev.kill, Ev.qad, Ev.qs, Ev.keep, Ev.qai, Ev.qaa, Ev.qd, Ev.SObj.lo, Ev.qa4, Ev.qbc, Ev.qb8, Ev.qde, Ev.qj, ↓Ev.qq, ↓Ev.qan, ↓reduceIte, List.length_cons, List.length_nil, List.take_succ_cons, List.take_nil, Nat.reduceAdd, Nat.reduceEqDiff, reduceCtorEq, decide_true, decide_false, Bool.and_self, Bool.false_eq_true, and_self, Nat.zero_add, Nat.lt_add_one, eq_self]
theorem qxh (x1 x2 y1 y2 a m b mid nn lo hi p start fin : Nat) (D D2 D3 D4 : List Evt) (N : Nums n x1 x2 y1 y2 a m b mid nn lo hi p start fin) (g1 : mid < m) (g2 : nn = b + lo)
    (d1 : ¬ start < m) (d2 : m < fin) (d3 : a < start) (d4 : fin < b)
    (hf : qju g cl n a m b mid nn lo mid p start D) (hS : Steps g cl n a m b mid start fin D D2 D3 D4) : qbb g cl n a m b D D4 := by
  obtain ⟨s1, n1, s2, n2, s3, n3⟩ := hS
  obtain ⟨⟨y, e, σ⟩, k1, k2, k3, k4, k5, k6, k7, k8, k9, k10, k11, k12⟩ := hf
  obtain ⟨w1, h1, w2, h2, w3, w4, w5, w6, w7, w8, w9, c5, c6⟩ := N.wraps
  simp only at k1 k2 k3 k4 k5 k6 k7 k8 k9 k10 k11 k12
  subst k2; subst k4
  unfold qbb at *
  rw [qu qh qf]
  have g4 : (m : Int) > (mid : Int) := Int.ofNat_lt.2 g1
  have g5 : IntKind.i64.wrap ((nn : Int) - (b : Int)) = (lo : Int) := qe2 g2 (by have := N.hnn; have := N.hmid; have := N.hb; have := N.hbn; have := N.hm; have := N.hbb; omega)
  have e1 : ¬ (start : Int) < (m : Int) := fun h => d1 (Int.ofNat_lt.1 h)
  have e2 : (m : Int) < (fin : Int) := Int.ofNat_lt.2 d2
  have e3 : (a : Int) < (start : Int) := Int.ofNat_lt.2 d3
  have e5 : ¬ (mid : Int) < (fin : Int) := fun h => d1 (c5.1 (Int.ofNat_lt.1 h))
  have e6 : (start : Int) < (mid : Int) := Int.ofNat_lt.2 (c6.2 d2)
  have e4 : (fin : Int) < (b : Int) := Int.ofNat_lt.2 d4
  have r1 := n1 (fun h => d1 h.1); subst r1
  have r2 := s2 d3 (c6.2 d2)
  have r3 := n3 (fun h => d1 (c5.1 h.1)); subst r3
  simp only [qg, w1, w2, w3, w4, w5, w6, w7, w8, w9, h1, h2, g4, k1, k3, k5, k6, k7, k9, k10, k11, k12, e1, e3, e5, e6, g5, r2, qah, Ev.qm, Ev.exec, Ev.qb, Ev.qe, Ev.qc, Ev.qd0, Ev.qaf, Ev.evs, Ev.Opnd.ev, Ev.Env.get, Ev.Env.set, Ev.Env.unset, Ev.look, Ev.qn, Ev.qaj, Ev.qce, Ev.qak, Ev.qo, Ev.qau, Ev.ql, Ev.qae, Ev.kill, Ev.qad, Ev.qs, Ev.keep, Ev.qai, Ev.qaa, Ev.qd, Ev.SObj.lo, Ev.qa4, Ev.qbc, Ev.qb8, Ev.qde, Ev.qj, ↓Ev.qq, ↓Ev.qan, ↓reduceIte, List.length_cons, List.length_nil, List.take_succ_cons, List.take_nil, Nat.reduceAdd, Nat.reduceEqDiff, reduceCtorEq, decide_true, decide_false, Bool.and_self, Bool.false_eq_true, and_self, Nat.zero_add, Nat.lt_add_one, eq_self]
theorem qzd (x1 x2 y1 y2 a m b mid nn lo hi p start fin : Nat) (D D2 D3 D4 : List Evt) (N : Nums n x1 x2 y1 y2 a m b mid nn lo hi p start fin) (g1 : mid < m) (g2 : nn = b + lo)
    (d1 : ¬ start < m) (d2 : m < fin) (d3 : a < start) (d4 : ¬ fin < b)
    (hf : qju g cl n a m b mid nn lo mid p start D) (hS : Steps g cl n a m b mid start fin D D2 D3 D4) : qbb g cl n a m b D D4 := by
  obtain ⟨s1, n1, s2, n2, s3, n3⟩ := hS
  obtain ⟨⟨y, e, σ⟩, k1, k2, k3, k4, k5, k6, k7, k8, k9, k10, k11, k12⟩ := hf
  obtain ⟨w1, h1, w2, h2, w3, w4, w5, w6, w7, w8, w9, c5, c6⟩ := N.wraps
  simp only at k1 k2 k3 k4 k5 k6 k7 k8 k9 k10 k11 k12
  subst k2; subst k4
  unfold qbb at *
  rw [qu qh qf]
  have g4 : (m : Int) > (mid : Int) := Int.ofNat_lt.2 g1
  have g5 : IntKind.i64.wrap ((nn : Int) - (b : Int)) = (lo : Int) := qe2 g2 (by have := N.hnn; have := N.hmid; have := N.hb; have := N.hbn; have := N.hm; have := N.hbb; omega)
  have e1 : ¬ (start : Int) < (m : Int) := fun h => d1 (Int.ofNat_lt.1 h)
  have e2 : (m : Int) < (fin : Int) := Int.ofNat_lt.2 d2
  have e3 : (a : Int) < (start : Int) := Int.ofNat_lt.2 d3
  have e5 : ¬ (mid : Int) < (fin : Int) := fun h => d1 (c5.1 (Int.ofNat_lt.1 h))
  have e6 : (start : Int) < (mid : Int) := Int.ofNat_lt.2 (c6.2 d2)
  have e4 : ¬ (fin : Int) < (b : Int) := fun h => d4 (Int.ofNat_lt.1 h)
  have r1 := n1 (fun h => d1 h.1); subst r1
  have r2 := s2 d3 (c6.2 d2)
  have r3 := n3 (fun h => d1 (c5.1 h.1)); subst r3
  simp only [qg, w1, w2, w3, w4, w5, w6, w7, w8, w9, h1, h2, g4, k1, k3, k5, k6, k7, k9, k10, k11, k12, e1, e3, e5, e6, g5, r2, qah, Ev.qm, Ev.exec, Ev.qb, Ev.qe, Ev.qc, Ev.qd0, Ev.qaf, Ev.evs, Ev.Opnd.ev, Ev.Env.get, Ev.Env.set, Ev.Env.unset, Ev.look, Ev.qn, Ev.qaj, Ev.qce, Ev.qak, Ev.qo, Ev.qau, Ev.ql, Ev.qae, Ev.kill, Ev.qad, Ev.qs, Ev.keep, Ev.qai, Ev.qaa, Ev.qd, Ev.SObj.lo, Ev.qa4, Ev.qbc, Ev.qb8, Ev.qde, Ev.qj, ↓Ev.qq, ↓Ev.qan, ↓reduceIte, List.length_cons, List.length_nil, List.take_succ_cons, List.take_nil, Nat.reduceAdd, Nat.reduceEqDiff, reduceCtorEq, decide_true, decide_false, Bool.and_self, Bool.false_eq_true, and_self, Nat.zero_add, Nat.lt_add_one, eq_self]
theorem qyz (x1 x2 y1 y2 a m b mid nn lo hi p start fin : Nat) (D D2 D3 D4 : List Evt) (N : Nums n x1 x2 y1 y2 a m b mid nn lo hi p start fin) (g1 : mid < m) (g2 : nn = b + lo)
    (d1 : ¬ start < m) (d2 : m < fin) (d3 : ¬ a < start) (d4 : fin < b)
    (hf : qju g cl n a m b mid nn lo mid p start D) (hS : Steps g cl n a m b mid start fin D D2 D3 D4) : qbb g cl n a m b D D4 := by
  obtain ⟨s1, n1, s2, n2, s3, n3⟩ := hS
  obtain ⟨⟨y, e, σ⟩, k1, k2, k3, k4, k5, k6, k7, k8, k9, k10, k11, k12⟩ := hf
  obtain ⟨w1, h1, w2, h2, w3, w4, w5, w6, w7, w8, w9, c5, c6⟩ := N.wraps
  simp only at k1 k2 k3 k4 k5 k6 k7 k8 k9 k10 k11 k12
  subst k2; subst k4
  unfold qbb at *
  rw [qu qh qf]
  have g4 : (m : Int) > (mid : Int) := Int.ofNat_lt.2 g1
  have g5 : IntKind.i64.wrap ((nn : Int) - (b : Int)) = (lo : Int) := qe2 g2 (by have := N.hnn; have := N.hmid; have := N.hb; have := N.hbn; have := N.hm; have := N.hbb; omega)
  have e1 : ¬ (start : Int) < (m : Int) := fun h => d1 (Int.ofNat_lt.1 h)
  have e2 : (m : Int) < (fin : Int) := Int.ofNat_lt.2 d2
  have e3 : ¬ (a : Int) < (start : Int) := fun h => d3 (Int.ofNat_lt.1 h)
  have e5 : ¬ (mid : Int) < (fin : Int) := fun h => d1 (c5.1 (Int.ofNat_lt.1 h))
  have e6 : (start : Int) < (mid : Int) := Int.ofNat_lt.2 (c6.2 d2)
  have e4 : (fin : Int) < (b : Int) := Int.ofNat_lt.2 d4
  have r1 := n1 (fun h => d1 h.1); subst r1
  have r2 := n2 (fun h => d3 h.1); subst r2
  have r3 := n3 (fun h => d1 (c5.1 h.1)); subst r3
  simp only [qg, w1, w2, w3, w4, w5, w6, w7, w8, w9, h1, h2, g4, k1, k3, k6, k7, k10, k11, k12, e1, e3, e5, g5, qah, Ev.qm, Ev.exec, Ev.qb, Ev.qe, Ev.qc, Ev.qaf, Ev.Opnd.ev, Ev.Env.get, Ev.Env.set, Ev.Env.unset, Ev.look, Ev.qn, Ev.qaj, Ev.qce, Ev.qak, Ev.qo, Ev.qau, Ev.ql, Ev.qae, Ev.kill, Ev.qad, Ev.qs, Ev.keep, Ev.qai, Ev.qaa, Ev.qd, Ev.SObj.lo, Ev.qa4, Ev.qbc, Ev.qb8, Ev.qde, Ev.qj, ↓Ev.qq, ↓Ev.qan, ↓reduceIte, List.length_cons, List.length_nil, List.take_succ_cons, List.take_nil, Nat.reduceAdd, Nat.reduceEqDiff, reduceCtorEq, decide_true, decide_false, Bool.and_self, Bool.false_eq_true, and_self, Nat.zero_add, Nat.lt_add_one, eq_self]
theorem qwy (x1 x2 y1 y2 a m b mid nn lo hi p start fin : Nat) (D D2 D3 D4 : List Evt) (N : Nums n x1 x2 y1 y2 a m b mid nn lo hi p start fin) (g1 : mid < m) (g2 : nn = b + lo)
    (d1 : ¬ start < m) (d2 : m < fin) (d3 : ¬ a < start) (d4 : ¬ fin < b)
    (hf : qju g cl n a m b mid nn lo mid p start D) (hS : Steps g cl n a m b mid start fin D D2 D3 D4) : qbb g cl n a m b D D4 := by
  obtain ⟨s1, n1, s2, n2, s3, n3⟩ := hS
  obtain ⟨⟨y, e, σ⟩, k1, k2, k3, k4, k5, k6, k7, k8, k9, k10, k11, k12⟩ := hf
  obtain ⟨w1, h1, w2, h2, w3, w4, w5, w6, w7, w8, w9, c5, c6⟩ := N.wraps
  simp only at k1 k2 k3 k4 k5 k6 k7 k8 k9 k10 k11 k12
  subst k2; subst k4
  unfold qbb at *
  rw [qu qh qf]
  have g4 : (m : Int) > (mid : Int) := Int.ofNat_lt.2 g1
  have g5 : IntKind.i64.wrap ((nn : Int) - (b : Int)) = (lo : Int) := qe2 g2 (by have := N.hnn; have := N.hmid; have := N.hb; have := N.hbn; have := N.hm; have := N.hbb; omega)
  have e1 : ¬ (start : Int) < (m : Int) := fun h => d1 (Int.ofNat_lt.1 h)
  have e2 : (m : Int) < (fin : Int) := Int.ofNat_lt.2 d2
  have e3 : ¬ (a : Int) < (start : Int) := fun h => d3 (Int.ofNat_lt.1 h)
  have e5 : ¬ (mid : Int) < (fin : Int) := fun h => d1 (c5.1 (Int.ofNat_lt.1 h))
  have e6 : (start : Int) < (mid : Int) := Int.ofNat_lt.2 (c6.2 d2)
  have e4 : ¬ (fin : Int) < (b : Int) := fun h => d4 (Int.ofNat_lt.1 h)
  have r1 := n1 (fun h => d1 h.1); subst r1
  have r2 := n2 (fun h => d3 h.1); subst r2
  have r3 := n3 (fun h => d1 (c5.1 h.1)); subst r3
  simp only [qg, w1, w2, w3, w4, w5, w6, w7, w8, w9, h1, h2, g4, k1, k3, k6, k7, k10, k11, k12, e1, e3, e5, g5, qah, Ev.qm, Ev.exec, Ev.qb, Ev.qe, Ev.qc, Ev.qaf, Ev.Opnd.ev, Ev.Env.get, Ev.Env.set, Ev.Env.unset, Ev.look, Ev.qn, Ev.qaj, Ev.qce, Ev.qak, Ev.qo, Ev.qau, Ev.ql, Ev.qae, Ev.kill, Ev.qad, Ev.qs, Ev.keep, Ev.qai, Ev.qaa, Ev.qd, Ev.SObj.lo, Ev.qa4, Ev.qbc, Ev.qb8, Ev.qde, Ev.qj, ↓Ev.qq, ↓Ev.qan, ↓reduceIte, List.length_cons, List.length_nil, List.take_succ_cons, List.take_nil, Nat.reduceAdd, Nat.reduceEqDiff, reduceCtorEq, decide_true, decide_false, Bool.and_self, Bool.false_eq_true, and_self, Nat.zero_add, Nat.lt_add_one, eq_self]
theorem qye (x1 x2 y1 y2 a m b mid nn lo hi p start fin : Nat) (D D2 D3 D4 : List Evt) (N : Nums n x1 x2 y1 y2 a m b mid nn lo hi p start fin) (g1 : mid < m) (g2 : nn = b + lo)
    (d1 : ¬ start < m) (d2 : ¬ m < fin) (d3 : a < start) (d4 : fin < b)
    (hf : qju g cl n a m b mid nn lo mid p start D) (hS : Steps g cl n a m b mid start fin D D2 D3 D4) : qbb g cl n a m b D D4 := by
  obtain ⟨s1, n1, s2, n2, s3, n3⟩ := hS
  obtain ⟨⟨y, e, σ⟩, k1, k2, k3, k4, k5, k6, k7, k8, k9, k10, k11, k12⟩ := hf
  obtain ⟨w1, h1, w2, h2, w3, w4, w5, w6, w7, w8, w9, c5, c6⟩ := N.wraps
  simp only at k1 k2 k3 k4 k5 k6 k7 k8 k9 k10 k11 k12
  subst k2; subst k4
  unfold qbb at *
  rw [qu qh qf]
  have g4 : (m : Int) > (mid : Int) := Int.ofNat_lt.2 g1
  have g5 : IntKind.i64.wrap ((nn : Int) - (b : Int)) = (lo : Int) := qe2 g2 (by have := N.hnn; have := N.hmid; have := N.hb; have := N.hbn; have := N.hm; have := N.hbb; omega)
  have e1 : ¬ (start : Int) < (m : Int) := fun h => d1 (Int.ofNat_lt.1 h)
  have e2 : ¬ (m : Int) < (fin : Int) := fun h => d2 (Int.ofNat_lt.1 h)
  have e3 : (a : Int) < (start : Int) := Int.ofNat_lt.2 d3
  have e5 : ¬ (mid : Int) < (fin : Int) := fun h => d1 (c5.1 (Int.ofNat_lt.1 h))
  have e6 : ¬ (start : Int) < (mid : Int) := fun h => d2 (c6.1 (Int.ofNat_lt.1 h))
  have e4 : (fin : Int) < (b : Int) := Int.ofNat_lt.2 d4
  have r1 := n1 (fun h => d1 h.1); subst r1
  have r2 := n2 (fun h => d2 (c6.1 h.2)); subst r2
  have r3 := n3 (fun h => d1 (c5.1 h.1)); subst r3
  simp only [qg, w1, w2, w3, w4, w5, w6, w7, w8, w9, h1, h2, g4, k1, k3, k6, k7, k10, k11, k12, e1, e3, e5, e6, g5, qah, Ev.qm, Ev.exec, Ev.qb, Ev.qe, Ev.qc, Ev.qaf, Ev.Opnd.ev, Ev.Env.get, Ev.Env.set, Ev.Env.unset, Ev.look, Ev.qn, Ev.qaj, Ev.qce, Ev.qak, Ev.qo, Ev.qau, Ev.ql, Ev.qae, Ev.kill, Ev.qad, Ev.qs, Ev.keep, Ev.qai, Ev.qaa, Ev.qd, Ev.SObj.lo, Ev.qa4, Ev.qbc, Ev.qb8, Ev.qde, Ev.qj, ↓Ev.qq, ↓Ev.qan, ↓reduceIte, List.length_cons, List.length_nil, List.take_succ_cons, List.take_nil, Nat.reduceAdd, Nat.reduceEqDiff, reduceCtorEq, decide_true, decide_false, Bool.and_self, Bool.false_eq_true, and_self, Nat.zero_add, Nat.lt_add_one, eq_self]
theorem qzh (x1 x2 y1 y2 a m b mid nn lo hi p start fin : Nat) (D D2 D3 D4 : List Evt) (N : Nums n x1 x2 y1 y2 a m b mid nn lo hi p start fin) (g1 : mid < m) (g2 : nn = b + lo)
    (d1 : ¬ start < m) (d2 : ¬ m < fin) (d3 : a < start) (d4 : ¬ fin < b)
    (hf : qju g cl n a m b mid nn lo mid p start D) (hS : Steps g cl n a m b mid start fin D D2 D3 D4) : qbb g cl n a m b D D4 := by
  obtain ⟨s1, n1, s2, n2, s3, n3⟩ := hS
  obtain ⟨⟨y, e, σ⟩, k1, k2, k3, k4, k5, k6, k7, k8, k9, k10, k11, k12⟩ := hf
  obtain ⟨w1, h1, w2, h2, w3, w4, w5, w6, w7, w8, w9, c5, c6⟩ := N.wraps
  simp only at k1 k2 k3 k4 k5 k6 k7 k8 k9 k10 k11 k12
  subst k2; subst k4
  unfold qbb at *
  rw [qu qh qf]
  have g4 : (m : Int) > (mid : Int) := Int.ofNat_lt.2 g1
  have g5 : IntKind.i64.wrap ((nn : Int) - (b : Int)) = (lo : Int) := qe2 g2 (by have := N.hnn; have := N.hmid; have := N.hb; have := N.hbn; have := N.hm; have := N.hbb; omega)
  have e1 : ¬ (start : Int) < (m : Int) := fun h => d1 (Int.ofNat_lt.1 h)
  have e2 : ¬ (m : Int) < (fin : Int) := fun h => d2 (Int.ofNat_lt.1 h)
  have e3 : (a : Int) < (start : Int) := Int.ofNat_lt.2 d3
  have e5 : ¬ (mid : Int) < (fin : Int) := fun h => d1 (c5.1 (Int.ofNat_lt.1 h))
  have e6 : ¬ (start : Int) < (mid : Int) := fun h => d2 (c6.1 (Int.ofNat_lt.1 h))
  have e4 : ¬ (fin : Int) < (b : Int) := fun h => d4 (Int.ofNat_lt.1 h)
  have r1 := n1 (fun h => d1 h.1); subst r1
  have r2 := n2 (fun h => d2 (c6.1 h.2)); subst r2
  have r3 := n3 (fun h => d1 (c5.1 h.1)); subst r3
  simp only [qg, w1, w2, w3, w4, w5, w6, w7, w8, w9, h1, h2, g4, k1, k3, k6, k7, k10, k11, k12, e1, e3, e5, e6, g5, qah, Ev.qm, Ev.exec, Ev.qb, Ev.qe, Ev.qc, Ev.qaf, Ev.Opnd.ev, Ev.Env.get, Ev.Env.set, Ev.Env.unset, Ev.look, Ev.qn, Ev.qaj, Ev.qce, Ev.qak, Ev.qo, Ev.qau, Ev.ql, Ev.qae, Ev.kill, Ev.qad, Ev.qs, Ev.keep, Ev.qai, Ev.qaa, Ev.qd, Ev.SObj.lo, Ev.qa4, Ev.qbc, Ev.qb8, Ev.qde, Ev.qj, ↓Ev.qq, ↓Ev.qan, ↓reduceIte, List.length_cons, List.length_nil, List.take_succ_cons, List.take_nil, Nat.reduceAdd, Nat.reduceEqDiff, reduceCtorEq, decide_true, decide_false, Bool.and_self, Bool.false_eq_true, and_self, Nat.zero_add, Nat.lt_add_one, eq_self]
theorem qzi (x1 x2 y1 y2 a m b mid nn lo hi p start fin : Nat) (D D2 D3 D4 : List Evt) (N : Nums n x1 x2 y1 y2 a m b mid nn lo hi p start fin) (g1 : mid < m) (g2 : nn = b + lo)
    (d1 : ¬ start < m) (d2 : ¬ m < fin) (d3 : ¬ a < start) (d4 : fin < b)
    (hf : qju g cl n a m b mid nn lo mid p start D) (hS : Steps g cl n a m b mid start fin D D2 D3 D4) : qbb g cl n a m b D D4 := by
  obtain ⟨s1, n1, s2, n2, s3, n3⟩ := hS
  obtain ⟨⟨y, e, σ⟩, k1, k2, k3, k4, k5, k6, k7, k8, k9, k10, k11, k12⟩ := hf
  obtain ⟨w1, h1, w2, h2, w3, w4, w5, w6, w7, w8, w9, c5, c6⟩ := N.wraps
  simp only at k1 k2 k3 k4 k5 k6 k7 k8 k9 k10 k11 k12
  subst k2; subst k4
  unfold qbb at *
  rw [qu qh qf]
  have g4 : (m : Int) > (mid : Int) := Int.ofNat_lt.2 g1
  have g5 : IntKind.i64.wrap ((nn : Int) - (b : Int)) = (lo : Int) := qe2 g2 (by have := N.hnn; have := N.hmid; have := N.hb; have := N.hbn; have := N.hm; have := N.hbb; omega)
  have e1 : ¬ (start : Int) < (m : Int) := fun h => d1 (Int.ofNat_lt.1 h)
  have e2 : ¬ (m : Int) < (fin : Int) := fun h => d2 (Int.ofNat_lt.1 h)
  have e3 : ¬ (a : Int) < (start : Int) := fun h => d3 (Int.ofNat_lt.1 h)
  have e5 : ¬ (mid : Int) < (fin : Int) := fun h => d1 (c5.1 (Int.ofNat_lt.1 h))
  have e6 : ¬ (start : Int) < (mid : Int) := fun h => d2 (c6.1 (Int.ofNat_lt.1 h))
  have e4 : (fin : Int) < (b : Int) := Int.ofNat_lt.2 d4
  have r1 := n1 (fun h => d1 h.1); subst r1
  have r2 := n2 (fun h => d3 h.1); subst r2
  have r3 := n3 (fun h => d1 (c5.1 h.1)); subst r3
  simp only [qg, w1, w2, w3, w4, w5, w6, w7, w8, w9, h1, h2, g4, k1, k3, k6, k7, k10, k11, k12, e1, e3, e5, g5, qah, Ev.qm, Ev.exec, Ev.qb, Ev.qe, Ev.qc, Ev.qaf, Ev.Opnd.ev, Ev.Env.get, Ev.Env.set, Ev.Env.unset, Ev.look, Ev.qn, Ev.qaj, Ev.qce, Ev.qak, Ev.qo, Ev.qau, Ev.ql, Ev.qae, Ev.kill, Ev.qad, Ev.qs, Ev.keep, Ev.qai, Ev.qaa, Ev.qd, Ev.SObj.lo, Ev.qa4, Ev.qbc, Ev.qb8, Ev.qde, Ev.qj, ↓Ev.qq, ↓Ev.qan, ↓reduceIte, List.length_cons, List.length_nil, List.take_succ_cons, List.take_nil, Nat.reduceAdd, Nat.reduceEqDiff, reduceCtorEq, decide_true, decide_false, Bool.and_self, Bool.false_eq_true, and_self, Nat.zero_add, Nat.lt_add_one, eq_self]
theorem qwz (x1 x2 y1 y2 a m b mid nn lo hi p start fin : Nat) (D D2 D3 D4 : List Evt) (N : Nums n x1 x2 y1 y2 a m b mid nn lo hi p start fin) (g1 : mid < m) (g2 : nn = b + lo)
    (d1 : ¬ start < m) (d2 : ¬ m < fin) (d3 : ¬ a < start) (d4 : ¬ fin < b)
    (hf : qju g cl n a m b mid nn lo mid p start D) (hS : Steps g cl n a m b mid start fin D D2 D3 D4) : qbb g cl n a m b D D4 := by
  obtain ⟨s1, n1, s2, n2, s3, n3⟩ := hS
  obtain ⟨⟨y, e, σ⟩, k1, k2, k3, k4, k5, k6, k7, k8, k9, k10, k11, k12⟩ := hf
  obtain ⟨w1, h1, w2, h2, w3, w4, w5, w6, w7, w8, w9, c5, c6⟩ := N.wraps
  simp only at k1 k2 k3 k4 k5 k6 k7 k8 k9 k10 k11 k12
  subst k2; subst k4
  unfold qbb at *
  rw [qu qh qf]
  have g4 : (m : Int) > (mid : Int) := Int.ofNat_lt.2 g1
  have g5 : IntKind.i64.wrap ((nn : Int) - (b : Int)) = (lo : Int) := qe2 g2 (by have := N.hnn; have := N.hmid; have := N.hb; have := N.hbn; have := N.hm; have := N.hbb; omega)
  have e1 : ¬ (start : Int) < (m : Int) := fun h => d1 (Int.ofNat_lt.1 h)
  have e2 : ¬ (m : Int) < (fin : Int) := fun h => d2 (Int.ofNat_lt.1 h)
  have e3 : ¬ (a : Int) < (start : Int) := fun h => d3 (Int.ofNat_lt.1 h)
  have e5 : ¬ (mid : Int) < (fin : Int) := fun h => d1 (c5.1 (Int.ofNat_lt.1 h))
  have e6 : ¬ (start : Int) < (mid : Int) := fun h => d2 (c6.1 (Int.ofNat_lt.1 h))
  have e4 : ¬ (fin : Int) < (b : Int) := fun h => d4 (Int.ofNat_lt.1 h)
  have r1 := n1 (fun h => d1 h.1); subst r1
  have r2 := n2 (fun h => d3 h.1); subst r2
  have r3 := n3 (fun h => d1 (c5.1 h.1)); subst r3
  simp only [qg, w1, w2, w3, w4, w5, w6, w7, w8, w9, h1, h2, g4, k1, k3, k6, k7, k10, k11, k12, e1, e3, e5, g5, qah, Ev.qm, Ev.exec, Ev.qb, Ev.qe, Ev.qc, Ev.qaf, Ev.Opnd.ev, Ev.Env.get, Ev.Env.set, Ev.Env.unset, Ev.look, Ev.qn, Ev.qaj, Ev.qce, Ev.qak, Ev.qo, Ev.qau, Ev.ql, Ev.qae, Ev.kill, Ev.qad, Ev.qs, Ev.keep, Ev.qai, Ev.qaa, Ev.qd, Ev.SObj.lo, Ev.qa4, Ev.qbc, Ev.qb8, Ev.qde, Ev.qj, ↓Ev.qq, ↓Ev.qan, ↓reduceIte, List.length_cons, List.length_nil, List.take_succ_cons, List.take_nil, Nat.reduceAdd, Nat.reduceEqDiff, reduceCtorEq, decide_true, decide_false, Bool.and_self, Bool.false_eq_true, and_self, Nat.zero_add, Nat.lt_add_one, eq_self]
theorem qxz (x1 x2 y1 y2 a m b mid nn lo hi p start fin : Nat) (D D2 D3 D4 : List Evt) (N : Nums n x1 x2 y1 y2 a m b mid nn lo hi p start fin) (g1 : ¬ mid < m)
    (d1 : start < m) (d2 : m < fin) (d3 : a < start) (d4 : fin < b)
    (hf : qju g cl n a m b mid nn a m p start D) (hS : Steps g cl n a m b mid start fin D D2 D3 D4) : qbb g cl n a m b D D4 := by
  obtain ⟨s1, n1, s2, n2, s3, n3⟩ := hS
  obtain ⟨⟨y, e, σ⟩, k1, k2, k3, k4, k5, k6, k7, k8, k9, k10, k11, k12⟩ := hf
  obtain ⟨w1, h1, w2, h2, w3, w4, w5, w6, w7, w8, w9, c5, c6⟩ := N.wraps
  simp only at k1 k2 k3 k4 k5 k6 k7 k8 k9 k10 k11 k12
  subst k2; subst k4
  unfold qbb at *
  rw [qu qh qf]
  have g4 : ¬ (m : Int) > (mid : Int) := fun h => g1 (Int.ofNat_lt.1 h)
  have e1 : (start : Int) < (m : Int) := Int.ofNat_lt.2 d1
  have e2 : (m : Int) < (fin : Int) := Int.ofNat_lt.2 d2
  have e3 : (a : Int) < (start : Int) := Int.ofNat_lt.2 d3
  have e5 : (mid : Int) < (fin : Int) := Int.ofNat_lt.2 (c5.2 d1)
  have e6 : (start : Int) < (mid : Int) := Int.ofNat_lt.2 (c6.2 d2)
  have e4 : (fin : Int) < (b : Int) := Int.ofNat_lt.2 d4
  have r1 := s1 d1 d2
  have r2 := s2 d3 (c6.2 d2)
  have r3 := s3 (c5.2 d1) d4
  simp only [qg, w1, w2, w3, w4, w5, w6, w7, w8, w9, h1, h2, g4, k1, k3, k5, k6, k7, k8, k9, k10, k11, k12, e1, e2, e3, e5, e6, r1, r2, r3, e4, qah, Ev.qm, Ev.exec, Ev.qb, Ev.qe, Ev.qc, Ev.qd0, Ev.qaf, Ev.evs, Ev.Opnd.ev, Ev.Env.get, Ev.Env.set, Ev.look, Ev.qn, Ev.qaj, Ev.qce, Ev.qak, Ev.qo, Ev.qau, Ev.ql, Ev.qae, Ev.kill, Ev.qad, Ev.qs, Ev.keep, Ev.qai, Ev.qaa, Ev.qd, Ev.SObj.lo, Ev.qa4, Ev.qbc, Ev.qb8, Ev.qde, Ev.qj, ↓Ev.qq, ↓Ev.qan, ↓reduceIte, List.length_cons, List.length_nil, List.take_succ_cons, List.take_nil, Nat.reduceAdd, Nat.reduceEqDiff, reduceCtorEq, decide_true, decide_false, Bool.and_self, Bool.false_eq_true, and_self, Nat.zero_add, Nat.lt_add_one, eq_self]
theorem qyi (x1 x2 y1 y2 a m b mid nn lo hi p start fin : Nat) (D D2 D3 D4 : List Evt) (N : Nums n x1 x2 y1 y2 a m b mid nn lo hi p start fin) (g1 : ¬ mid < m)
    (d1 : start < m) (d2 : m < fin) (d3 : a < start) (d4 : ¬ fin < b)
    (hf : qju g cl n a m b mid nn a m p start D) (hS : Steps g cl n a m b mid start fin D D2 D3 D4) : qbb g cl n a m b D D4 := by
  obtain ⟨s1, n1, s2, n2, s3, n3⟩ := hS
  obtain ⟨⟨y, e, σ⟩, k1, k2, k3, k4, k5, k6, k7, k8, k9, k10, k11, k12⟩ := hf
  obtain ⟨w1, h1, w2, h2, w3, w4, w5, w6, w7, w8, w9, c5, c6⟩ := N.wraps
  simp only at k1 k2 k3 k4 k5 k6 k7 k8 k9 k10 k11 k12
  subst k2; subst k4
  unfold qbb at *
  rw [qu qh qf]
  have g4 : ¬ (m : Int) > (mid : Int) := fun h => g1 (Int.ofNat_lt.1 h)
  have e1 : (start : Int) < (m : Int) := Int.ofNat_lt.2 d1
  have e2 : (m : Int) < (fin : Int) := Int.ofNat_lt.2 d2
  have e3 : (a : Int) < (start : Int) := Int.ofNat_lt.2 d3
  have e5 : (mid : Int) < (fin : Int) := Int.ofNat_lt.2 (c5.2 d1)
  have e6 : (start : Int) < (mid : Int) := Int.ofNat_lt.2 (c6.2 d2)
  have e4 : ¬ (fin : Int) < (b : Int) := fun h => d4 (Int.ofNat_lt.1 h)
  have r1 := s1 d1 d2
  have r2 := s2 d3 (c6.2 d2)
  have r3 := n3 (fun h => d4 h.2); subst r3
  simp only [qg, w1, w2, w3, w4, w5, w6, w7, w8, w9, h1, h2, g4, k1, k3, k5, k6, k7, k8, k9, k10, k11, k12, e1, e2, e3, e5, e6, r1, r2, e4, qah, Ev.qm, Ev.exec, Ev.qb, Ev.qe, Ev.qc, Ev.qd0, Ev.qaf, Ev.evs, Ev.Opnd.ev, Ev.Env.get, Ev.Env.set, Ev.look, Ev.qn, Ev.qaj, Ev.qce, Ev.qak, Ev.qo, Ev.qau, Ev.ql, Ev.qae, Ev.kill, Ev.qad, Ev.qs, Ev.keep, Ev.qai, Ev.qaa, Ev.qd, Ev.SObj.lo, Ev.qa4, Ev.qbc, Ev.qb8, Ev.qde, Ev.qj, ↓Ev.qq, ↓Ev.qan, ↓reduceIte, List.length_cons, List.length_nil, List.take_succ_cons, List.take_nil, Nat.reduceAdd, Nat.reduceEqDiff, reduceCtorEq, decide_true, decide_false, Bool.and_self, Bool.false_eq_true, and_self, Nat.zero_add, Nat.lt_add_one, eq_self]
theorem qyq (x1 x2 y1 y2 a m b mid nn lo hi p start fin : Nat) (D D2 D3 D4 : List Evt) (N : Nums n x1 x2 y1 y2 a m b mid nn lo hi p start fin) (g1 : ¬ mid < m)
    (d1 : start < m) (d2 : m < fin) (d3 : ¬ a < start) (d4 : fin < b)
    (hf : qju g cl n a m b mid nn a m p start D) (hS : Steps g cl n a m b mid start fin D D2 D3 D4) : qbb g cl n a m b D D4 := by
  obtain ⟨s1, n1, s2, n2, s3, n3⟩ := hS
  obtain ⟨⟨y, e, σ⟩, k1, k2, k3, k4, k5, k6, k7, k8, k9, k10, k11, k12⟩ := hf
  obtain ⟨w1, h1, w2, h2, w3, w4, w5, w6, w7, w8, w9, c5, c6⟩ := N.wraps
  simp only at k1 k2 k3 k4 k5 k6 k7 k8 k9 k10 k11 k12
  subst k2; subst k4
  unfold qbb at *
  rw [qu qh qf]
  have g4 : ¬ (m : Int) > (mid : Int) := fun h => g1 (Int.ofNat_lt.1 h)
  have e1 : (start : Int) < (m : Int) := Int.ofNat_lt.2 d1
  have e2 : (m : Int) < (fin : Int) := Int.ofNat_lt.2 d2
  have e3 : ¬ (a : Int) < (start : Int) := fun h => d3 (Int.ofNat_lt.1 h)
  have e5 : (mid : Int) < (fin : Int) := Int.ofNat_lt.2 (c5.2 d1)
  have e6 : (start : Int) < (mid : Int) := Int.ofNat_lt.2 (c6.2 d2)
  have e4 : (fin : Int) < (b : Int) := Int.ofNat_lt.2 d4
  have r1 := s1 d1 d2
  have r2 := n2 (fun h => d3 h.1); subst r2
  have r3 := s3 (c5.2 d1) d4
  simp only [qg, w1, w2, w3, w4, w5, w6, w7, w8, w9, h1, h2, g4, k1, k3, k5, k6, k7, k8, k9, k10, k11, k12, e1, e2, e3, e5, r1, r3, e4, qah, Ev.qm, Ev.exec, Ev.qb, Ev.qe, Ev.qc, Ev.qd0, Ev.qaf, Ev.evs, Ev.Opnd.ev, Ev.Env.get, Ev.Env.set, Ev.Env.unset, Ev.look, Ev.qn, Ev.qaj, Ev.qce, Ev.qak, Ev.qo, Ev.qau, Ev.ql, Ev.qae, Ev.kill, Ev.qad, Ev.qs, Ev.keep, Ev.qai, Ev.qaa, Ev.qd, Ev.SObj.lo, Ev.qa4, Ev.qbc, Ev.qb8, Ev.qde, Ev.qj, ↓Ev.qq, ↓Ev.qan, ↓reduceIte, List.length_cons, List.length_nil, List.take_succ_cons, List.take_nil, Nat.reduceAdd, Nat.reduceEqDiff, reduceCtorEq, decide_true, decide_false, Bool.and_self, Bool.false_eq_true, and_self, Nat.zero_add, Nat.lt_add_one, eq_self]
theorem qyd (x1 x2 y1 y2 a m b mid nn lo hi p start fin : Nat) (D D2 D3 D4 : List Evt) (N : Nums n x1 x2 y1 y2 a m b mid nn lo hi p start fin) (g1 : ¬ mid < m)
    (d1 : start < m) (d2 : m < fin) (d3 : ¬ a < start) (d4 : ¬ fin < b)
    (hf : qju g cl n a m b mid nn a m p start D) (hS : Steps g cl n a m b mid start fin D D2 D3 D4) : qbb g cl n a m b D D4 := by
  obtain ⟨s1, n1, s2, n2, s3, n3⟩ := hS
  obtain ⟨⟨y, e, σ⟩, k1, k2, k3, k4, k5, k6, k7, k8, k9, k10, k11, k12⟩ := hf
  obtain ⟨w1, h1, w2, h2, w3, w4, w5, w6, w7, w8, w9, c5, c6⟩ := N.wraps
  simp only at k1 k2 k3 k4 k5 k6 k7 k8 k9 k10 k11 k12
  subst k2; subst k4
  unfold qbb at *
  rw [qu qh qf]
  have g4 : ¬ (m : Int) > (mid : Int) := fun h => g1 (Int.ofNat_lt.1 h)
  have e1 : (start : Int) < (m : Int) := Int.ofNat_lt.2 d1
  have e2 : (m : Int) < (fin : Int) := Int.ofNat_lt.2 d2
  have e3 : ¬ (a : Int) < (start : Int) := fun h => d3 (Int.ofNat_lt.1 h)
  have e5 : (mid : Int) < (fin : Int) := Int.ofNat_lt.2 (c5.2 d1)
  have e6 : (start : Int) < (mid : Int) := Int.ofNat_lt.2 (c6.2 d2)
  have e4 : ¬ (fin : Int) < (b : Int) := fun h => d4 (Int.ofNat_lt.1 h)
  have r1 := s1 d1 d2
  have r2 := n2 (fun h => d3 h.1); subst r2
  have r3 := n3 (fun h => d4 h.2); subst r3
  simp only [qg, w1, w2, w3, w4, w5, w6, w7, w8, w9, h1, h2, g4, k1, k3, k5, k6, k7, k8, k9, k10, k11, k12, e1, e2, e3, e5, r1, e4, qah, Ev.qm, Ev.exec, Ev.qb, Ev.qe, Ev.qc, Ev.qd0, Ev.qaf, Ev.evs, Ev.Opnd.ev, Ev.Env.get, Ev.Env.set, Ev.Env.unset, Ev.look, Ev.qn, Ev.qaj, Ev.qce, Ev.qak, Ev.qo, Ev.qau, Ev.ql, Ev.qae, Ev.kill, Ev.qad, Ev.qs, Ev.keep, Ev.qai, Ev.qaa, Ev.qd, Ev.SObj.lo, Ev.qa4, Ev.qbc, Ev.qb8, Ev.qde, Ev.qj, ↓Ev.qq, ↓Ev.qan, ↓reduceIte, List.length_cons, List.length_nil, List.take_succ_cons, List.take_nil, Nat.reduceAdd, Nat.reduceEqDiff, reduceCtorEq, decide_true, decide_false, Bool.and_self, Bool.false_eq_true, and_self, Nat.zero_add, Nat.lt_add_one, eq_self]
theorem qya (x1 x2 y1 y2 a m b mid nn lo hi p start fin : Nat) (D D2 D3 D4 : List Evt) (N : Nums n x1 x2 y1 y2 a m b mid nn lo hi p start fin) (g1 : ¬ mid < m)
    (d1 : start < m) (d2 : ¬ m < fin) (d3 : a < start) (d4 : fin < b)
    (hf : qju g cl n a m b mid nn a m p start D) (hS : Steps g cl n a m b mid start fin D D2 D3 D4) : qbb g cl n a m b D D4 := by
  obtain ⟨s1, n1, s2, n2, s3, n3⟩ := hS
  obtain ⟨⟨y, e, σ⟩, k1, k2, k3, k4, k5, k6, k7, k8, k9, k10, k11, k12⟩ := hf
  obtain ⟨w1, h1, w2, h2, w3, w4, w5, w6, w7, w8, w9, c5, c6⟩ := N.wraps
  simp only at k1 k2 k3 k4 k5 k6 k7 k8 k9 k10 k11 k12
  subst k2; subst k4
  unfold qbb at *
  rw [qu qh qf]
  have g4 : ¬ (m : Int) > (mid : Int) := fun h => g1 (Int.ofNat_lt.1 h)
  have e1 : (start : Int) < (m : Int) := Int.ofNat_lt.2 d1
  have e2 : ¬ (m : Int) < (fin : Int) := fun h => d2 (Int.ofNat_lt.1 h)
  have e3 : (a : Int) < (start : Int) := Int.ofNat_lt.2 d3
  have e5 : (mid : Int) < (fin : Int) := Int.ofNat_lt.2 (c5.2 d1)
  have e6 : ¬ (start : Int) < (mid : Int) := fun h => d2 (c6.1 (Int.ofNat_lt.1 h))
  have e4 : (fin : Int) < (b : Int) := Int.ofNat_lt.2 d4
  have r1 := n1 (fun h => d2 h.2); subst r1
  have r2 := n2 (fun h => d2 (c6.1 h.2)); subst r2
  have r3 := s3 (c5.2 d1) d4
  simp only [qg, w1, w2, w3, w4, w5, w6, w7, w8, w9, h1, h2, g4, k1, k3, k5, k6, k7, k8, k9, k10, k11, k12, e1, e2, e3, e5, e6, r3, e4, qah, Ev.qm, Ev.exec, Ev.qb, Ev.qe, Ev.qc, Ev.qd0, Ev.qaf, Ev.evs, Ev.Opnd.ev, Ev.Env.get, Ev.Env.set, Ev.look, Ev.qn, Ev.qaj, Ev.qce, Ev.qak, Ev.qo, Ev.qau, Ev.ql, Ev.qae, Ev.kill, Ev.qad, Ev.qs, Ev.keep, Ev.qai, Ev.qaa, Ev.qd, Ev.SObj.lo, Ev.qa4, Ev.qbc, Ev.qb8, Ev.qde, Ev.qj, ↓Ev.qq, ↓Ev.qan, ↓reduceIte, List.length_cons, List.length_nil, List.take_succ_cons, List.take_nil, Nat.reduceAdd, Nat.reduceEqDiff, reduceCtorEq, decide_true, decide_false, Bool.and_self, Bool.false_eq_true, and_self, Nat.zero_add, Nat.lt_add_one, eq_self]
theorem qxw (x1 x2 y1 y2 a m b mid nn lo hi p start fin : Nat) (D D2 D3 D4 : List Evt) (N : Nums n x1 x2 y1 y2 a m b mid nn lo hi p start fin) (g1 : ¬ mid < m)
    (d1 : start < m) (d2 : ¬ m < fin) (d3 : a < start) (d4 : ¬ fin < b)
    (hf : qju g cl n a m b mid nn a m p start D) (hS : Steps g cl n a m b mid start fin D D2 D3 D4) : qbb g cl n a m b D D4 := by
  obtain ⟨s1, n1, s2, n2, s3, n3⟩ := hS
  obtain ⟨⟨y, e, σ⟩, k1, k2, k3, k4, k5, k6, k7, k8, k9, k10, k11, k12⟩ := hf
  obtain ⟨w1, h1, w2, h2, w3, w4, w5, w6, w7, w8, w9, c5, c6⟩ := N.wraps
  simp only at k1 k2 k3 k4 k5 k6 k7 k8 k9 k10 k11 k12
  subst k2; subst k4
  unfold qbb at *
  rw [qu qh qf]
  have g4 : ¬ (m : Int) > (mid : Int) := fun h => g1 (Int.ofNat_lt.1 h)
  have e1 : (start : Int) < (m : Int) := Int.ofNat_lt.2 d1
  have e2 : ¬ (m : Int) < (fin : Int) := fun h => d2 (Int.ofNat_lt.1 h)
  have e3 : (a : Int) < (start : Int) := Int.ofNat_lt.2 d3
  have e5 : (mid : Int) < (fin : Int) := Int.ofNat_lt.2 (c5.2 d1)
  have e6 : ¬ (start : Int) < (mid : Int) := fun h => d2 (c6.1 (Int.ofNat_lt.1 h))
  have e4 : ¬ (fin : Int) < (b : Int) := fun h => d4 (Int.ofNat_lt.1 h)
  have r1 := n1 (fun h => d2 h.2); subst r1
  have r2 := n2 (fun h => d2 (c6.1 h.2)); subst r2
  have r3 := n3 (fun h => d4 h.2); subst r3
  simp only [qg, w1, w2, w3, w4, w5, w6, w7, w8, w9, h1, h2, g4, k1, k3, k6, k7, k8, k10, k11, k12, e1, e2, e3, e5, e6, e4, qah, Ev.qm, Ev.exec, Ev.qb, Ev.qe, Ev.qc, Ev.qaf, Ev.Opnd.ev, Ev.Env.get, Ev.Env.set, Ev.look, Ev.qn, Ev.qaj, Ev.qce, Ev.qak, Ev.qo, Ev.qau, Ev.ql, Ev.qae, Ev.kill, Ev.qad, Ev.qs, Ev.keep, Ev.qai, Ev.qaa, Ev.qd, Ev.SObj.lo, Ev.qa4, Ev.qbc, Ev.qb8, Ev.qde, Ev.qj, ↓Ev.qq, ↓Ev.qan, ↓reduceIte, List.length_cons, List.length_nil, List.take_succ_cons, List.take_nil, Nat.reduceAdd, Nat.reduceEqDiff, reduceCtorEq, decide_true, decide_false, Bool.and_self, Bool.false_eq_true, and_self, Nat.zero_add, Nat.lt_add_one, eq_self]
theorem qy1 (x1 x2 y1 y2 a m b mid nn lo hi p start fin : Nat) (D D2 D3 D4 : List Evt) (N : Nums n x1 x2 y1 y2 a m b mid nn lo hi p start fin) (g1 : ¬ mid < m)
    (d1 : start < m) (d2 : ¬ m < fin) (d3 : ¬ a < start) (d4 : fin < b)
    (hf : qju g cl n a m b mid nn a m p start D) (hS : Steps g cl n a m b mid start fin D D2 D3 D4) : qbb g cl n a m b D D4 := by
  obtain ⟨s1, n1, s2, n2, s3, n3⟩ := hS
  obtain ⟨⟨y, e, σ⟩, k1, k2, k3, k4, k5, k6, k7, k8, k9, k10, k11, k12⟩ := hf
  obtain ⟨w1, h1, w2, h2, w3, w4, w5, w6, w7, w8, w9, c5, c6⟩ := N.wraps
  simp only at k1 k2 k3 k4 k5 k6 k7 k8 k9 k10 k11 k12
  subst k2; subst k4
  unfold qbb at *
  rw [qu qh qf]
  have g4 : ¬ (m : Int) > (mid : Int) := fun h => g1 (Int.ofNat_lt.1 h)
  have e1 : (start : Int) < (m : Int) := Int.ofNat_lt.2 d1
  have e2 : ¬ (m : Int) < (fin : Int) := fun h => d2 (Int.ofNat_lt.1 h)
  have e3 : ¬ (a : Int) < (start : Int) := fun h => d3 (Int.ofNat_lt.1 h)
  have e5 : (mid : Int) < (fin : Int) := Int.ofNat_lt.2 (c5.2 d1)
  have e6 : ¬ (start : Int) < (mid : Int) := fun h => d2 (c6.1 (Int.ofNat_lt.1 h))
  have e4 : (fin : Int) < (b : Int) := Int.ofNat_lt.2 d4
  have r1 := n1 (fun h => d2 h.2); subst r1
  have r2 := n2 (fun h => d3 h.1); subst r2
  have r3 := s3 (c5.2 d1) d4
  simp only [qg, w1, w2, w3, w4, w5, w6, w7, w8, w9, h1, h2, g4, k1, k3, k5, k6, k7, k8, k9, k10, k11, k12, e1, e2, e3, e5, r3, e4, qah, Ev.qm, Ev.exec, Ev.qb, Ev.qe, Ev.qc, Ev.qd0, Ev.qaf, Ev.evs, Ev.Opnd.ev, Ev.Env.get, Ev.Env.set, Ev.Env.unset, Ev.look, Ev.qn, Ev.qaj, Ev.qce, Ev.qak, Ev.qo, Ev.qau, Ev.ql, Ev.qae, Ev.kill, Ev.qad, Ev.qs, Ev.keep, Ev.qai, Ev.qaa, Ev.qd, Ev.SObj.lo, Ev.qa4, Ev.qbc, Ev.qb8, Ev.qde, Ev.qj, ↓Ev.qq, ↓Ev.qan, ↓reduceIte, List.length_cons, List.length_nil, List.take_succ_cons, List.take_nil, Nat.reduceAdd, Nat.reduceEqDiff, reduceCtorEq, decide_true, decide_false, Bool.and_self, Bool.false_eq_true, and_self, Nat.zero_add, Nat.lt_add_one, eq_self]
theorem qzc (x1 x2 y1 y2 a m b mid nn lo hi p start fin : Nat) (D D2 D3 D4 : List Evt) (N : Nums n x1 x2 y1 y2 a m b mid nn lo hi p start fin) (g1 : ¬ mid < m)
    (d1 : start < m) (d2 : ¬ m < fin) (d3 : ¬ a < start) (d4 : ¬ fin < b)
    (hf : qju g cl n a m b mid nn a m p start D) (hS : Steps g cl n a m b mid start fin D D2 D3 D4) : qbb g cl n a m b D D4 := by
  obtain ⟨s1, n1, s2, n2, s3, n3⟩ := hS
  obtain ⟨⟨y, e, σ⟩, k1, k2, k3, k4, k5, k6, k7, k8, k9, k10, k11, k12⟩ := hf
  obtain ⟨w1, h1, w2, h2, w3, w4, w5, w6, w7, w8, w9, c5, c6⟩ := N.wraps
  simp only at k1 k2 k3 k4 k5 k6 k7 k8 k9 k10 k11 k12
  subst k2; subst k4
  unfold qbb at *
  rw [qu qh qf]
  have g4 : ¬ (m : Int) > (mid : Int) := fun h => g1 (Int.ofNat_lt.1 h)
  have e1 : (start : Int) < (m : Int) := Int.ofNat_lt.2 d1
  have e2 : ¬ (m : Int) < (fin : Int) := fun h => d2 (Int.ofNat_lt.1 h)
  have e3 : ¬ (a : Int) < (start : Int) := fun h => d3 (Int.ofNat_lt.1 h)
  have e5 : (mid : Int) < (fin : Int) := Int.ofNat_lt.2 (c5.2 d1)
  have e6 : ¬ (start : Int) < (mid : Int) := fun h => d2 (c6.1 (Int.ofNat_lt.1 h))
  have e4 : ¬ (fin : Int) < (b : Int) := fun h => d4 (Int.ofNat_lt.1 h)
  have r1 := n1 (fun h => d2 h.2); subst r1
  have r2 := n2 (fun h => d3 h.1); subst r2
  have r3 := n3 (fun h => d4 h.2); subst r3
  simp only [qg, w1, w2, w3, w4, w5, w6, w7, w8, w9, h1, h2, g4, k1, k3, k6, k7, k8, k10, k11, k12, e1, e2, e3, e5, e4, qah, Ev.qm, Ev.exec, Ev.qb, Ev.qe, Ev.qc, Ev.qaf, Ev.Opnd.ev, Ev.Env.get, Ev.Env.set, Ev.Env.unset, Ev.look, Ev.qn, Ev.qaj, Ev.qce, Ev.qak, Ev.qo, Ev.qau, Ev.ql, Ev.qae, Ev.kill, Ev.qad, Ev.qs, Ev.keep, Ev.qai, Ev.qaa, Ev.qd, Ev.SObj.lo, Ev.qa4, Ev.qbc, Ev.qb8, Ev.qde, Ev.qj, ↓Ev.qq, ↓Ev.qan, ↓reduceIte, List.length_cons, List.length_nil, List.take_succ_cons, List.take_nil, Nat.reduceAdd, Nat.reduceEqDiff, reduceCtorEq, decide_true, decide_false, Bool.and_self, Bool.false_eq_true, and_self, Nat.zero_add, Nat.lt_add_one, eq_self]
theorem qx5 (x1 x2 y1 y2 a m b mid nn lo hi p start fin : Nat) (D D2 D3 D4 : List Evt) (N : Nums n x1 x2 y1 y2 a m b mid nn lo hi p start fin) (g1 : ¬ mid < m)
    (d1 : ¬ start < m) (d2 : m < fin) (d3 : a < start) (d4 : fin < b)
    (hf : qju g cl n a m b mid nn a m p start D) (hS : Steps g cl n a m b mid start fin D D2 D3 D4) : qbb g cl n a m b D D4 := by
  obtain ⟨s1, n1, s2, n2, s3, n3⟩ := hS
  obtain ⟨⟨y, e, σ⟩, k1, k2, k3, k4, k5, k6, k7, k8, k9, k10, k11, k12⟩ := hf
  obtain ⟨w1, h1, w2, h2, w3, w4, w5, w6, w7, w8, w9, c5, c6⟩ := N.wraps
  simp only at k1 k2 k3 k4 k5 k6 k7 k8 k9 k10 k11 k12
  subst k2; subst k4
  unfold qbb at *
  rw [qu qh qf]
  have g4 : ¬ (m : Int) > (mid : Int) := fun h => g1 (Int.ofNat_lt.1 h)
  have e1 : ¬ (start : Int) < (m : Int) := fun h => d1 (Int.ofNat_lt.1 h)
  have e2 : (m : Int) < (fin : Int) := Int.ofNat_lt.2 d2
  have e3 : (a : Int) < (start : Int) := Int.ofNat_lt.2 d3
  have e5 : ¬ (mid : Int) < (fin : Int) := fun h => d1 (c5.1 (Int.ofNat_lt.1 h))
  have e6 : (start : Int) < (mid : Int) := Int.ofNat_lt.2 (c6.2 d2)
  have e4 : (fin : Int) < (b : Int) := Int.ofNat_lt.2 d4
  have r1 := n1 (fun h => d1 h.1); subst r1
  have r2 := s2 d3 (c6.2 d2)
  have r3 := n3 (fun h => d1 (c5.1 h.1)); subst r3
  simp only [qg, w1, w2, w3, w4, w5, w6, w7, w8, w9, h1, h2, g4, k1, k3, k5, k6, k7, k9, k10, k11, k12, e1, e3, e5, e6, r2, qah, Ev.qm, Ev.exec, Ev.qb, Ev.qe, Ev.qc, Ev.qd0, Ev.qaf, Ev.evs, Ev.Opnd.ev, Ev.Env.get, Ev.Env.set, Ev.Env.unset, Ev.look, Ev.qn, Ev.qaj, Ev.qce, Ev.qak, Ev.qo, Ev.qau, Ev.ql, Ev.qae, Ev.kill, Ev.qad, Ev.qs, Ev.keep, Ev.qai, Ev.qaa, Ev.qd, Ev.SObj.lo, Ev.qa4, Ev.qbc, Ev.qb8, Ev.qde, Ev.qj, ↓Ev.qq, ↓Ev.qan, ↓reduceIte, List.length_cons, List.length_nil, List.take_succ_cons, List.take_nil, Nat.reduceAdd, Nat.reduceEqDiff, reduceCtorEq, decide_true, decide_false, Bool.and_self, Bool.false_eq_true, and_self, Nat.zero_add, Nat.lt_add_one, eq_self]
theorem qyk (x1 x2 y1 y2 a m b mid nn lo hi p start fin : Nat) (D D2 D3 D4 : List Evt) (N : Nums n x1 x2 y1 y2 a m b mid nn lo hi p start fin) (g1 : ¬ mid < m)
    (d1 : ¬ start < m) (d2 : m < fin) (d3 : a < start) (d4 : ¬ fin < b)
    (hf : qju g cl n a m b mid nn a m p start D) (hS : Steps g cl n a m b mid start fin D D2 D3 D4) : qbb g cl n a m b D D4 := by
  obtain ⟨s1, n1, s2, n2, s3, n3⟩ := hS
  obtain ⟨⟨y, e, σ⟩, k1, k2, k3, k4, k5, k6, k7, k8, k9, k10, k11, k12⟩ := hf
  obtain ⟨w1, h1, w2, h2, w3, w4, w5, w6, w7, w8, w9, c5, c6⟩ := N.wraps
  simp only at k1 k2 k3 k4 k5 k6 k7 k8 k9 k10 k11 k12
  subst k2; subst k4
  unfold qbb at *
  rw [qu qh qf]
  have g4 : ¬ (m : Int) > (mid : Int) := fun h => g1 (Int.ofNat_lt.1 h)
  have e1 : ¬ (start : Int) < (m : Int) := fun h => d1 (Int.ofNat_lt.1 h)
  have e2 : (m : Int) < (fin : Int) := Int.ofNat_lt.2 d2
  have e3 : (a : Int) < (start : Int) := Int.ofNat_lt.2 d3
  have e5 : ¬ (mid : Int) < (fin : Int) := fun h => d1 (c5.1 (Int.ofNat_lt.1 h))
  have e6 : (start : Int) < (mid : Int) := Int.ofNat_lt.2 (c6.2 d2)
  have e4 : ¬ (fin : Int) < (b : Int) := fun h => d4 (Int.ofNat_lt.1 h)
  have r1 := n1 (fun h => d1 h.1); subst r1
  have r2 := s2 d3 (c6.2 d2)
  have r3 := n3 (fun h => d1 (c5.1 h.1)); subst r3
  simp only [qg, w1, w2, w3, w4, w5, w6, w7, w8, w9, h1, h2, g4, k1, k3, k5, k6, k7, k9, k10, k11, k12, e1, e3, e5, e6, r2, qah, Ev.qm, Ev.exec, Ev.qb, Ev.qe, Ev.qc, Ev.qd0, Ev.qaf, Ev.evs, Ev.Opnd.ev, Ev.Env.get, Ev.Env.set, Ev.Env.unset, Ev.look, Ev.qn, Ev.qaj, Ev.qce, Ev.qak, Ev.qo, Ev.qau, Ev.ql, Ev.qae, Ev.kill, Ev.qad, Ev.qs, Ev.keep, Ev.qai, Ev.qaa, Ev.qd, Ev.SObj.lo, Ev.qa4, Ev.qbc, Ev.qb8, Ev.qde, Ev.qj, ↓Ev.qq, ↓Ev.qan, ↓reduceIte, List.length_cons, List.length_nil, List.take_succ_cons, List.take_nil, Nat.reduceAdd, Nat.reduceEqDiff, reduceCtorEq, decide_true, decide_false, Bool.and_self, Bool.false_eq_true, and_self, Nat.zero_add, Nat.lt_add_one, eq_self]
theorem qx7 (x1 x2 y1 y2 a m b mid nn lo hi p start fin : Nat) (D D2 D3 D4 : List Evt) (N : Nums n x1 x2 y1 y2 a m b mid nn lo hi p start fin) (g1 : ¬ mid < m)
    (d1 : ¬ start < m) (d2 : m < fin) (d3 : ¬ a < start) (d4 : fin < b)
    (hf : qju g cl n a m b mid nn a m p start D) (hS : Steps g cl n a m b mid start fin D D2 D3 D4) : qbb g cl n a m b D D4 := by
  obtain ⟨s1, n1, s2, n2, s3, n3⟩ := hS
  obtain ⟨⟨y, e, σ⟩, k1, k2, k3, k4, k5, k6, k7, k8, k9, k10, k11, k12⟩ := hf
  obtain ⟨w1, h1, w2, h2, w3, w4, w5, w6, w7, w8, w9, c5, c6⟩ := N.wraps
  simp only at k1 k2 k3 k4 k5 k6 k7 k8 k9 k10 k11 k12
  subst k2; subst k4
  unfold qbb at *
  rw [qu qh qf]
  have g4 : ¬ (m : Int) > (mid : Int) := fun h => g1 (Int.ofNat_lt.1 h)
  have e1 : ¬ (start : Int) < (m : Int) := fun h => d1 (Int.ofNat_lt.1 h)
  have e2 : (m : Int) < (fin : Int) := Int.ofNat_lt.2 d2
  have e3 : ¬ (a : Int) < (start : Int) := fun h => d3 (Int.ofNat_lt.1 h)
  have e5 : ¬ (mid : Int) < (fin : Int) := fun h => d1 (c5.1 (Int.ofNat_lt.1 h))
  have e6 : (start : Int) < (mid : Int) := Int.ofNat_lt.2 (c6.2 d2)
  have e4 : (fin : Int) < (b : Int) := Int.ofNat_lt.2 d4
  have r1 := n1 (fun h => d1 h.1); subst r1
  have r2 := n2 (fun h => d3 h.1); subst r2
  have r3 := n3 (fun h => d1 (c5.1 h.1)); subst r3
  simp only [qg, w1, w2, w3, w4, w5, w6, w7, w8, w9, h1, h2, g4, k1, k3, k6, k7, k10, k11, k12, e1, e3, e5, qah, Ev.qm, Ev.exec, Ev.qb, Ev.qe, Ev.qc, Ev.qaf, Ev.Opnd.ev, Ev.Env.get, Ev.Env.set, Ev.Env.unset, Ev.look, Ev.qn, Ev.qaj, Ev.qce, Ev.qak, Ev.qo, Ev.qau, Ev.ql, Ev.qae, Ev.kill, Ev.qad, Ev.qs, Ev.keep, Ev.qai, Ev.qaa, Ev.qd, Ev.SObj.lo, Ev.qa4, Ev.qbc, Ev.qb8, Ev.qde, Ev.qj, ↓Ev.qq, ↓Ev.qan, ↓reduceIte, List.length_cons, List.length_nil, List.take_succ_cons, List.take_nil, Nat.reduceAdd, Nat.reduceEqDiff, reduceCtorEq, decide_true, decide_false, Bool.and_self, Bool.false_eq_true, and_self, Nat.zero_add, Nat.lt_add_one, eq_self]
theorem qza (x1 x2 y1 y2 a m b mid nn lo hi p start fin : Nat) (D D2 D3 D4 : List Evt) (N : Nums n x1 x2 y1 y2 a m b mid nn lo hi p start fin) (g1 : ¬ mid < m)
    (d1 : ¬ start < m) (d2 : m < fin) (d3 : ¬ a < start) (d4 : ¬ fin < b)
    (hf : qju g cl n a m b mid nn a m p start D) (hS : Steps g cl n a m b mid start fin D D2 D3 D4) : qbb g cl n a m b D D4 := by
  obtain ⟨s1, n1, s2, n2, s3, n3⟩ := hS
  obtain ⟨⟨y, e, σ⟩, k1, k2, k3, k4, k5, k6, k7, k8, k9, k10, k11, k12⟩ := hf
  obtain ⟨w1, h1, w2, h2, w3, w4, w5, w6, w7, w8, w9, c5, c6⟩ := N.wraps
  simp only at k1 k2 k3 k4 k5 k6 k7 k8 k9 k10 k11 k12
  subst k2; subst k4
  unfold qbb at *
  rw [qu qh qf]
  have g4 : ¬ (m : Int) > (mid : Int) := fun h => g1 (Int.ofNat_lt.1 h)
  have e1 : ¬ (start : Int) < (m : Int) := fun h => d1 (Int.ofNat_lt.1 h)
  have e2 : (m : Int) < (fin : Int) := Int.ofNat_lt.2 d2
  have e3 : ¬ (a : Int) < (start : Int) := fun h => d3 (Int.ofNat_lt.1 h)
  have e5 : ¬ (mid : Int) < (fin : Int) := fun h => d1 (c5.1 (Int.ofNat_lt.1 h))
  have e6 : (start : Int) < (mid : Int) := Int.ofNat_lt.2 (c6.2 d2)
  have e4 : ¬ (fin : Int) < (b : Int) := fun h => d4 (Int.ofNat_lt.1 h)
  have r1 := n1 (fun h => d1 h.1); subst r1
  have r2 := n2 (fun h => d3 h.1); subst r2
  have r3 := n3 (fun h => d1 (c5.1 h.1)); subst r3
  simp only [qg, w1, w2, w3, w4, w5, w6, w7, w8, w9, h1, h2, g4, k1, k3, k6, k7, k10, k11, k12, e1, e3, e5, qah, Ev.qm, Ev.exec, Ev.qb, Ev.qe, Ev.qc, Ev.qaf, Ev.Opnd.ev, Ev.Env.get, Ev.Env.set, Ev.Env.unset, Ev.look, Ev.qn, Ev.qaj, Ev.qce, Ev.qak, Ev.qo, Ev.qau, Ev.ql, Ev.qae, Ev.kill, Ev.qad, Ev.qs, Ev.keep, Ev.qai, Ev.qaa, Ev.qd, Ev.SObj.lo, Ev.qa4, Ev.qbc, Ev.qb8, Ev.qde, Ev.qj, ↓Ev.qq, ↓Ev.qan, ↓reduceIte, List.length_cons, List.length_nil, List.take_succ_cons, List.take_nil, Nat.reduceAdd, Nat.reduceEqDiff, reduceCtorEq, decide_true, decide_false, Bool.and_self, Bool.false_eq_true, and_self, Nat.zero_add, Nat.lt_add_one, eq_self]
theorem qxi (x1 x2 y1 y2 a m b mid nn lo hi p start fin : Nat) (D D2 D3 D4 : List Evt) (N : Nums n x1 x2 y1 y2 a m b mid nn lo hi p start fin) (g1 : ¬ mid < m)
    (d1 : ¬ start < m) (d2 : ¬ m < fin) (d3 : a < start) (d4 : fin < b)
    (hf : qju g cl n a m b mid nn a m p start D) (hS : Steps g cl n a m b mid start fin D D2 D3 D4) : qbb g cl n a m b D D4 := by
  obtain ⟨s1, n1, s2, n2, s3, n3⟩ := hS
  obtain ⟨⟨y, e, σ⟩, k1, k2, k3, k4, k5, k6, k7, k8, k9, k10, k11, k12⟩ := hf
  obtain ⟨w1, h1, w2, h2, w3, w4, w5, w6, w7, w8, w9, c5, c6⟩ := N.wraps
  simp only at k1 k2 k3 k4 k5 k6 k7 k8 k9 k10 k11 k12
  subst k2; subst k4
  unfold qbb at *
  rw [qu qh qf]
  have g4 : ¬ (m : Int) > (mid : Int) := fun h => g1 (Int.ofNat_lt.1 h)
  have e1 : ¬ (start : Int) < (m : Int) := fun h => d1 (Int.ofNat_lt.1 h)
  have e2 : ¬ (m : Int) < (fin : Int) := fun h => d2 (Int.ofNat_lt.1 h)
  have e3 : (a : Int) < (start : Int) := Int.ofNat_lt.2 d3
  have e5 : ¬ (mid : Int) < (fin : Int) := fun h => d1 (c5.1 (Int.ofNat_lt.1 h))
  have e6 : ¬ (start : Int) < (mid : Int) := fun h => d2 (c6.1 (Int.ofNat_lt.1 h))
  have e4 : (fin : Int) < (b : Int) := Int.ofNat_lt.2 d4
  have r1 := n1 (fun h => d1 h.1); subst r1
  have r2 := n2 (fun h => d2 (c6.1 h.2)); subst r2
  have r3 := n3 (fun h => d1 (c5.1 h.1)); subst r3
  simp only [qg, w1, w2, w3, w4, w5, w6, w7, w8, w9, h1, h2, g4, k1, k3, k6, k7, k10, k11, k12, e1, e3, e5, e6, qah, Ev.qm, Ev.exec, Ev.qb, Ev.qe, Ev.qc, Ev.qaf, Ev.Opnd.ev, Ev.Env.get, Ev.Env.set, Ev.Env.unset, Ev.look, Ev.qn, Ev.qaj, Ev.qce, Ev.qak, Ev.qo, Ev.qau, Ev.ql, Ev.qae, Ev.kill, Ev.qad, Ev.qs, Ev.keep, Ev.qai, Ev.qaa, Ev.qd, Ev.SObj.lo, Ev.qa4, Ev.qbc, Ev.qb8, Ev.qde, Ev.qj, ↓Ev.qq, ↓Ev.qan, ↓reduceIte, List.length_cons, List.length_nil, List.take_succ_cons, List.take_nil, Nat.reduceAdd, Nat.reduceEqDiff, reduceCtorEq, decide_true, decide_false, Bool.and_self, Bool.false_eq_true, and_self, Nat.zero_add, Nat.lt_add_one, eq_self]
theorem qyt (x1 x2 y1 y2 a m b mid nn lo hi p start fin : Nat) (D D2 D3 D4 : List Evt) (N : Nums n x1 x2 y1 y2 a m b mid nn lo hi p start fin) (g1 : ¬ mid < m)
    (d1 : ¬ start < m) (d2 : ¬ m < fin) (d3 : a < start) (d4 : ¬ fin < b)
    (hf : qju g cl n a m b mid nn a m p start D) (hS : Steps g cl n a m b mid start fin D D2 D3 D4) : qbb g cl n a m b D D4 := by
  obtain ⟨s1, n1, s2, n2, s3, n3⟩ := hS
  obtain ⟨⟨y, e, σ⟩, k1, k2, k3, k4, k5, k6, k7, k8, k9, k10, k11, k12⟩ := hf
  obtain ⟨w1, h1, w2, h2, w3, w4, w5, w6, w7, w8, w9, c5, c6⟩ := N.wraps
  simp only at k1 k2 k3 k4 k5 k6 k7 k8 k9 k10 k11 k12
  subst k2; subst k4
  unfold qbb at *
  rw [qu qh qf]
  have g4 : ¬ (m : Int) > (mid : Int) := fun h => g1 (Int.ofNat_lt.1 h)
  have e1 : ¬ (start : Int) < (m : Int) := fun h => d1 (Int.ofNat_lt.1 h)
  have e2 : ¬ (m : Int) < (fin : Int) := fun h => d2 (Int.ofNat_lt.1 h)
  have e3 : (a : Int) < (start : Int) := Int.ofNat_lt.2 d3
  have e5 : ¬ (mid : Int) < (fin : Int) := fun h => d1 (c5.1 (Int.ofNat_lt.1 h))
  have e6 : ¬ (start : Int) < (mid : Int) := fun h => d2 (c6.1 (Int.ofNat_lt.1 h))
  have e4 : ¬ (fin : Int) < (b : Int) := fun h => d4 (Int.ofNat_lt.1 h)
  have r1 := n1 (fun h => d1 h.1); subst r1
  have r2 := n2 (fun h => d2 (c6.1 h.2)); subst r2
  have r3 := n3 (fun h => d1 (c5.1 h.1)); subst r3
  simp only [qg, w1, w2, w3, w4, w5, w6, w7, w8, w9, h1, h2, g4, k1, k3, k6, k7, k10, k11, k12, e1, e3, e5, e6, qah, Ev.qm, Ev.exec, Ev.qb, Ev.qe, Ev.qc, Ev.qaf, Ev.Opnd.ev, Ev.Env.get, Ev.Env.set, Ev.Env.unset, Ev.look, Ev.qn, Ev.qaj, Ev.qce, Ev.qak, Ev.qo, Ev.qau, Ev.ql, Ev.qae, Ev.kill, Ev.qad, Ev.qs, Ev.keep, Ev.qai, Ev.qaa, Ev.qd, Ev.SObj.lo, Ev.qa4, Ev.qbc, Ev.qb8, Ev.qde, Ev.qj, ↓Ev.qq, ↓Ev.qan, ↓reduceIte, List.length_cons, List.length_nil, List.take_succ_cons, List.take_nil, Nat.reduceAdd, Nat.reduceEqDiff, reduceCtorEq, decide_true, decide_false, Bool.and_self, Bool.false_eq_true, and_self, Nat.zero_add, Nat.lt_add_one, eq_self]
theorem qxd (x1 x2 y1 y2 a m b mid nn lo hi p start fin : Nat) (D D2 D3 D4 : List Evt) (N : Nums n x1 x2 y1 y2 a m b mid nn lo hi p start fin) (g1 : ¬ mid < m)
    (d1 : ¬ start < m) (d2 : ¬ m < fin) (d3 : ¬ a < start) (d4 : fin < b)
    (hf : qju g cl n a m b mid nn a m p start D) (hS : Steps g cl n a m b mid start fin D D2 D3 D4) : qbb g cl n a m b D D4 := by
  obtain ⟨s1, n1, s2, n2, s3, n3⟩ := hS
  obtain ⟨⟨y, e, σ⟩, k1, k2, k3, k4, k5, k6, k7, k8, k9, k10, k11, k12⟩ := hf
  obtain ⟨w1, h1, w2, h2, w3, w4, w5, w6, w7, w8, w9, c5, c6⟩ := N.wraps
  simp only at k1 k2 k3 k4 k5 k6 k7 k8 k9 k10 k11 k12
  subst k2; subst k4
  unfold qbb at *
  rw [qu qh qf]
  have g4 : ¬ (m : Int) > (mid : Int) := fun h => g1 (Int.ofNat_lt.1 h)
  have e1 : ¬ (start : Int) < (m : Int) := fun h => d1 (Int.ofNat_lt.1 h)
  have e2 : ¬ (m : Int) < (fin : Int) := fun h => d2 (Int.ofNat_lt.1 h)
  have e3 : ¬ (a : Int) < (start : Int) := fun h => d3 (Int.ofNat_lt.1 h)
  have e5 : ¬ (mid : Int) < (fin : Int) := fun h => d1 (c5.1 (Int.ofNat_lt.1 h))
  have e6 : ¬ (start : Int) < (mid : Int) := fun h => d2 (c6.1 (Int.ofNat_lt.1 h))
  have e4 : (fin : Int) < (b : Int) := Int.ofNat_lt.2 d4
  have r1 := n1 (fun h => d1 h.1); subst r1
  have r2 := n2 (fun h => d3 h.1); subst r2
  have r3 := n3 (fun h => d1 (c5.1 h.1)); subst r3
  simp only [qg, w1, w2, w3, w4, w5, w6, w7, w8, w9, h1, h2, g4, k1, k3, k6, k7, k10, k11, k12, e1, e3, e5, qah, Ev.qm, Ev.exec, Ev.qb, Ev.qe, Ev.qc, Ev.qaf, Ev.Opnd.ev, Ev.Env.get, Ev.Env.set, Ev.Env.unset, Ev.look, Ev.qn, Ev.qaj, Ev.qce, Ev.qak, Ev.qo, Ev.qau, Ev.ql, Ev.qae, Ev.kill, Ev.qad, Ev.qs, Ev.keep, Ev.qai, Ev.qaa, Ev.qd, Ev.SObj.lo, Ev.qa4, Ev.qbc, Ev.qb8, Ev.qde, Ev.qj, ↓Ev.qq, ↓Ev.qan, ↓reduceIte, List.length_cons, List.length_nil, List.take_succ_cons, List.take_nil, Nat.reduceAdd, Nat.reduceEqDiff, reduceCtorEq, decide_true, decide_false, Bool.and_self, Bool.false_eq_true, and_self, Nat.zero_add, Nat.lt_add_one, eq_self]
theorem qyl (x1 x2 y1 y2 a m b mid nn lo hi p start fin : Nat) (D D2 D3 D4 : List Evt) (N : Nums n x1 x2 y1 y2 a m b mid nn lo hi p start fin) (g1 : ¬ mid < m)
    (d1 : ¬ start < m) (d2 : ¬ m < fin) (d3 : ¬ a < start) (d4 : ¬ fin < b)
    (hf : qju g cl n a m b mid nn a m p start D) (hS : Steps g cl n a m b mid start fin D D2 D3 D4) : qbb g cl n a m b D D4 := by
  obtain ⟨s1, n1, s2, n2, s3, n3⟩ := hS
  obtain ⟨⟨y, e, σ⟩, k1, k2, k3, k4, k5, k6, k7, k8, k9, k10, k11, k12⟩ := hf
  obtain ⟨w1, h1, w2, h2, w3, w4, w5, w6, w7, w8, w9, c5, c6⟩ := N.wraps
  simp only at k1 k2 k3 k4 k5 k6 k7 k8 k9 k10 k11 k12
  subst k2; subst k4
  unfold qbb at *
  rw [qu qh qf]
  have g4 : ¬ (m : Int) > (mid : Int) := fun h => g1 (Int.ofNat_lt.1 h)
  have e1 : ¬ (start : Int) < (m : Int) := fun h => d1 (Int.ofNat_lt.1 h)
  have e2 : ¬ (m : Int) < (fin : Int) := fun h => d2 (Int.ofNat_lt.1 h)
  have e3 : ¬ (a : Int) < (start : Int) := fun h => d3 (Int.ofNat_lt.1 h)
  have e5 : ¬ (mid : Int) < (fin : Int) := fun h => d1 (c5.1 (Int.ofNat_lt.1 h))
  have e6 : ¬ (start : Int) < (mid : Int) := fun h => d2 (c6.1 (Int.ofNat_lt.1 h))
  have e4 : ¬ (fin : Int) < (b : Int) := fun h => d4 (Int.ofNat_lt.1 h)
  have r1 := n1 (fun h => d1 h.1); subst r1
  have r2 := n2 (fun h => d3 h.1); subst r2
  have r3 := n3 (fun h => d1 (c5.1 h.1)); subst r3
  simp only [qg, w1, w2, w3, w4, w5, w6, w7, w8, w9, h1, h2, g4, k1, k3, k6, k7, k10, k11, k12, e1, e3, e5, qah, Ev.qm, Ev.exec, Ev.qb, Ev.qe, Ev.qc, Ev.qaf, Ev.Opnd.ev, Ev.Env.get, Ev.Env.set, Ev.Env.unset, Ev.look, Ev.qn, Ev.qaj, Ev.qce, Ev.qak, Ev.qo, Ev.qau, Ev.ql, Ev.qae, Ev.kill, Ev.qad, Ev.qs, Ev.keep, Ev.qai, Ev.qaa, Ev.qd, Ev.SObj.lo, Ev.qa4, Ev.qbc, Ev.qb8, Ev.qde, Ev.qj, ↓Ev.qq, ↓Ev.qan, ↓reduceIte, List.length_cons, List.length_nil, List.take_succ_cons, List.take_nil, Nat.reduceAdd, Nat.reduceEqDiff, reduceCtorEq, decide_true, decide_false, Bool.and_self, Bool.false_eq_true, and_self, Nat.zero_add, Nat.lt_add_one, eq_self]
theorem q8c (x1 x2 y1 y2 a m b mid nn lo hi p start fin : Nat) (D D2 D3 D4 : List Evt) (N : Nums n x1 x2 y1 y2 a m b mid nn lo hi p start fin) (hlo : mid < m ∧ nn = b + lo ∧ hi = mid ∨ ¬ mid < m ∧ lo = a ∧ hi = m)
    (hfind : ∃ y, itB (exec (evL T) itL none qbf) (Ev.qs [0, 1, 2, 3, 4, 18, 19, 20, 21, 22] true 1) ⟨[(0, .sl 0 g 0 n cl), (1, (.v (.int .i64 (a)))), (2, (.v (.int .i64 (m)))), (3, (.v (.int .i64 (b)))), (4, (.fn (.func qr) [] [])), (18, (.v (.int .i64 (mid)))), (19, (.v (.int .i64 (nn)))), (20, (.v (.int .i64 (lo)))), (21, (.v (.int .i64 (hi)))), (22, (.v (.int .i64 (p))))], []⟩ [.row 6 ((D).map Evt.r) g] = some y ∧
      (y.1 = .exit 8 ∧ y.2.1.marks = [] ∧ y.2.2 = [.row 6 ((D).map Evt.r) g] ∧ Ev.look y.2.1.vars 0 = some (.sl 0 g 0 n cl) ∧ Ev.look y.2.1.vars 1 = some (.v (.int .i64 (a))) ∧ Ev.look y.2.1.vars 2 = some (.v (.int .i64 (m))) ∧ Ev.look y.2.1.vars 3 = some (.v (.int .i64 (b))) ∧ Ev.look y.2.1.vars 4 = some (.fn (.func qr) [] []) ∧ Ev.look y.2.1.vars 18 = some (.v (.int .i64 (mid))) ∧
        Ev.look y.2.1.vars 19 = some (.v (.int .i64 (nn))) ∧ Ev.look y.2.1.vars 20 = some (.v (.int .i64 (start)))))
    (s1 : start < m → m < fin → (evL T).call qbi [.sl 0 g 0 n cl, (.v (.int .i64 (start))), (.v (.int .i64 (m))), (.v (.int .i64 (fin))), (.fn (.func qr) [] [])] [.row 6 ((D).map Evt.r) g] = some (.tup [], [.row 6 ((D2).map Evt.r) g])) (n1 : ¬ (start < m ∧ m < fin) → D2 = D)
    (s2 : a < start → start < mid → qbb g cl n a start mid D2 D3) (n2 : ¬ (a < start ∧ start < mid) → D3 = D2)
    (s3 : mid < fin → fin < b → qbb g cl n mid fin b D3 D4) (n3 : ¬ (mid < fin ∧ fin < b) → D4 = D3) : qbb g cl n a m b D D4 := by
  rcases hlo with ⟨g1, g2, rfl⟩ | ⟨g1, rfl, rfl⟩
  · rcases Classical.em (start < m) with d1 | d1 <;> rcases Classical.em (m < fin) with d2 | d2 <;> rcases Classical.em (a < start) with d3 | d3 <;> rcases Classical.em (fin < b) with d4 | d4
    · exact qyf g cl n x1 x2 y1 y2 a m b hi nn lo hi p start fin D D2 D3 D4 N g1 g2 d1 d2 d3 d4 hfind ⟨s1, n1, s2, n2, s3, n3⟩
    · exact qw6 g cl n x1 x2 y1 y2 a m b hi nn lo hi p start fin D D2 D3 D4 N g1 g2 d1 d2 d3 d4 hfind ⟨s1, n1, s2, n2, s3, n3⟩
    · exact qzf g cl n x1 x2 y1 y2 a m b hi nn lo hi p start fin D D2 D3 D4 N g1 g2 d1 d2 d3 d4 hfind ⟨s1, n1, s2, n2, s3, n3⟩
    · exact qyy g cl n x1 x2 y1 y2 a m b hi nn lo hi p start fin D D2 D3 D4 N g1 g2 d1 d2 d3 d4 hfind ⟨s1, n1, s2, n2, s3, n3⟩
    · exact qwx g cl n x1 x2 y1 y2 a m b hi nn lo hi p start fin D D2 D3 D4 N g1 g2 d1 d2 d3 d4 hfind ⟨s1, n1, s2, n2, s3, n3⟩
    · exact qym g cl n x1 x2 y1 y2 a m b hi nn lo hi p start fin D D2 D3 D4 N g1 g2 d1 d2 d3 d4 hfind ⟨s1, n1, s2, n2, s3, n3⟩
    · exact qxe g cl n x1 x2 y1 y2 a m b hi nn lo hi p start fin D D2 D3 D4 N g1 g2 d1 d2 d3 d4 hfind ⟨s1, n1, s2, n2, s3, n3⟩
    · exact qx3 g cl n x1 x2 y1 y2 a m b hi nn lo hi p start fin D D2 D3 D4 N g1 g2 d1 d2 d3 d4 hfind ⟨s1, n1, s2, n2, s3, n3⟩
    · exact qxh g cl n x1 x2 y1 y2 a m b hi nn lo hi p start fin D D2 D3 D4 N g1 g2 d1 d2 d3 d4 hfind ⟨s1, n1, s2, n2, s3, n3⟩
    · exact qzd g cl n x1 x2 y1 y2 a m b hi nn lo hi p start fin D D2 D3 D4 N g1 g2 d1 d2 d3 d4 hfind ⟨s1, n1, s2, n2, s3, n3⟩
    · exact qyz g cl n x1 x2 y1 y2 a m b hi nn lo hi p start fin D D2 D3 D4 N g1 g2 d1 d2 d3 d4 hfind ⟨s1, n1, s2, n2, s3, n3⟩
    · exact qwy g cl n x1 x2 y1 y2 a m b hi nn lo hi p start fin D D2 D3 D4 N g1 g2 d1 d2 d3 d4 hfind ⟨s1, n1, s2, n2, s3, n3⟩
    · exact qye g cl n x1 x2 y1 y2 a m b hi nn lo hi p start fin D D2 D3 D4 N g1 g2 d1 d2 d3 d4 hfind ⟨s1, n1, s2, n2, s3, n3⟩
    · exact qzh g cl n x1 x2 y1 y2 a m b hi nn lo hi p start fin D D2 D3 D4 N g1 g2 d1 d2 d3 d4 hfind ⟨s1, n1, s2, n2, s3, n3⟩
    · exact qzi g cl n x1 x2 y1 y2 a m b hi nn lo hi p start fin D D2 D3 D4 N g1 g2 d1 d2 d3 d4 hfind ⟨s1, n1, s2, n2, s3, n3⟩
    · exact qwz g cl n x1 x2 y1 y2 a m b hi nn lo hi p start fin D D2 D3 D4 N g1 g2 d1 d2 d3 d4 hfind ⟨s1, n1, s2, n2, s3, n3⟩
  · rcases Classical.em (start < hi) with d1 | d1 <;> rcases Classical.em (hi < fin) with d2 | d2 <;> rcases Classical.em (lo < start) with d3 | d3 <;> rcases Classical.em (fin < b) with d4 | d4
    · exact qxz g cl n x1 x2 y1 y2 lo hi b mid nn lo hi p start fin D D2 D3 D4 N g1 d1 d2 d3 d4 hfind ⟨s1, n1, s2, n2, s3, n3⟩
    · exact qyi g cl n x1 x2 y1 y2 lo hi b mid nn lo hi p start fin D D2 D3 D4 N g1 d1 d2 d3 d4 hfind ⟨s1, n1, s2, n2, s3, n3⟩
    · exact qyq g cl n x1 x2 y1 y2 lo hi b mid nn lo hi p start fin D D2 D3 D4 N g1 d1 d2 d3 d4 hfind ⟨s1, n1, s2, n2, s3, n3⟩
    · exact qyd g cl n x1 x2 y1 y2 lo hi b mid nn lo hi p start fin D D2 D3 D4 N g1 d1 d2 d3 d4 hfind ⟨s1, n1, s2, n2, s3, n3⟩
    · exact qya g cl n x1 x2 y1 y2 lo hi b mid nn lo hi p start fin D D2 D3 D4 N g1 d1 d2 d3 d4 hfind ⟨s1, n1, s2, n2, s3, n3⟩
    · exact qxw g cl n x1 x2 y1 y2 lo hi b mid nn lo hi p start fin D D2 D3 D4 N g1 d1 d2 d3 d4 hfind ⟨s1, n1, s2, n2, s3, n3⟩
    · exact qy1 g cl n x1 x2 y1 y2 lo hi b mid nn lo hi p start fin D D2 D3 D4 N g1 d1 d2 d3 d4 hfind ⟨s1, n1, s2, n2, s3, n3⟩
    · exact qzc g cl n x1 x2 y1 y2 lo hi b mid nn lo hi p start fin D D2 D3 D4 N g1 d1 d2 d3 d4 hfind ⟨s1, n1, s2, n2, s3, n3⟩
    · exact qx5 g cl n x1 x2 y1 y2 lo hi b mid nn lo hi p start fin D D2 D3 D4 N g1 d1 d2 d3 d4 hfind ⟨s1, n1, s2, n2, s3, n3⟩
    · exact qyk g cl n x1 x2 y1 y2 lo hi b mid nn lo hi p start fin D D2 D3 D4 N g1 d1 d2 d3 d4 hfind ⟨s1, n1, s2, n2, s3, n3⟩
    · exact qx7 g cl n x1 x2 y1 y2 lo hi b mid nn lo hi p start fin D D2 D3 D4 N g1 d1 d2 d3 d4 hfind ⟨s1, n1, s2, n2, s3, n3⟩
    · exact qza g cl n x1 x2 y1 y2 lo hi b mid nn lo hi p start fin D D2 D3 D4 N g1 d1 d2 d3 d4 hfind ⟨s1, n1, s2, n2, s3, n3⟩
    · exact qxi g cl n x1 x2 y1 y2 lo hi b mid nn lo hi p start fin D D2 D3 D4 N g1 d1 d2 d3 d4 hfind ⟨s1, n1, s2, n2, s3, n3⟩
    · exact qyt g cl n x1 x2 y1 y2 lo hi b mid nn lo hi p start fin D D2 D3 D4 N g1 d1 d2 d3 d4 hfind ⟨s1, n1, s2, n2, s3, n3⟩
    · exact qxd g cl n x1 x2 y1 y2 lo hi b mid nn lo hi p start fin D D2 D3 D4 N g1 d1 d2 d3 d4 hfind ⟨s1, n1, s2, n2, s3, n3⟩
    · exact qyl g cl n x1 x2 y1 y2 lo hi b mid nn lo hi p start fin D D2 D3 D4 N g1 d1 d2 d3 d4 hfind ⟨s1, n1, s2, n2, s3, n3⟩
end
set_option maxRecDepth 10000
section
variable (g : Nat) (cl : Bool) (n : Nat)
theorem qyp (hb : n < 2 ^ 61) : ∀ (k : Nat) (P X Y Q : List Evt), X.length + Y.length ≤ k → 0 < X.length → 0 < Y.length → X.Pairwise leE → Y.Pairwise leE → n = (P ++ (X ++ (Y ++ Q))).length → qhp (P ++ (X ++ (Y ++ Q))) →
    ∀ a m b : Nat, a = P.length → m = a + X.length → b = m + Y.length → ∃ Z : List Evt, Z.Perm (X ++ Y) ∧ Z.Pairwise leE ∧ qbb g cl n a m b (P ++ (X ++ (Y ++ Q))) (P ++ (Z ++ Q)) := by
  intro k
  induction k with
  | zero => intro P X Y Q h1 h2 h3; omega
  | succ k ih =>
    intro P X Y Q hk hX0 hY0 hX hY hn hkeys a m b ha hm hbb
    by_cases hx : X.length = 1
    · obtain ⟨x, rfl⟩ := List.length_eq_one_iff.1 hx
      simp only [List.cons_append, List.nil_append, List.length_cons, List.length_nil] at hn hkeys hm ⊢
      exact q6c g cl n P Y Q x hY hY0 hn hb hkeys a m b ha hm hbb
    by_cases hy : Y.length = 1
    · obtain ⟨y, rfl⟩ := List.length_eq_one_iff.1 hy
      simp only [List.cons_append, List.nil_append, List.length_cons, List.length_nil] at hn hkeys hbb ⊢
      exact q60 g cl n P X Q y hX (by omega) hn hb hkeys a m b ha hm hbb
    have hlen : n = P.length + (X.length + (Y.length + Q.length)) := by rw [hn]; simp
    obtain ⟨mid, hmid⟩ : ∃ mid, mid = (a + b) / 2 := ⟨_, rfl⟩
    obtain ⟨nn, hnn⟩ : ∃ nn, nn = mid + m := ⟨_, rfl⟩
    obtain ⟨p, hp⟩ : ∃ p, nn = p + 1 := ⟨nn - 1, by omega⟩
    obtain ⟨lo, hi, hlo⟩ : ∃ lo hi, mid < m ∧ nn = b + lo ∧ hi = mid ∨ ¬ mid < m ∧ lo = a ∧ hi = m := by
      by_cases c : mid < m
      · exact ⟨nn - b, mid, .inl ⟨c, by omega, rfl⟩⟩
      · exact ⟨a, m, .inr ⟨c, rfl, rfl⟩⟩
    obtain ⟨y, f1, start, f2, f3, f4, f5, f6, f7, f8, f9, f10, f11, f12, f13, f14, f15, f16⟩ := q4s g cl n (P ++ (X ++ (Y ++ Q))) hn hb hkeys a m b mid nn p lo hi hp (by omega) (fun c h1 h2 => by omega) (by omega) (by omega)
    obtain ⟨fin, hfin⟩ : ∃ fin, nn = start + fin := ⟨nn - start, by omega⟩
    obtain ⟨X1, X2, rfl, hX1⟩ : ∃ X1 X2, X = X1 ++ X2 ∧ X1.length = start - a := ⟨X.take (start - a), X.drop (start - a), (List.take_append_drop _ _).symm, by simp; omega⟩
    obtain ⟨Y1, Y2, rfl, hY1⟩ : ∃ Y1 Y2, Y = Y1 ++ Y2 ∧ Y1.length = fin - m := ⟨Y.take (fin - m), Y.drop (fin - m), (List.take_append_drop _ _).symm, by simp; omega⟩
    simp only [List.length_append] at hk hX0 hY0 hx hy hm hbb hlen
    obtain ⟨x1, x2, x3⟩ := List.pairwise_append.1 hX
    obtain ⟨y1, y2, y3⟩ := List.pairwise_append.1 hY
    have hst : start = a + X1.length := by omega
    have hfi : fin = m + Y1.length := by omega
    have N : Nums n X1.length X2.length Y1.length Y2.length a m b mid nn lo hi p start fin := ⟨by omega, by omega, hb, hmid, hnn, hp, hfin, hm, hbb, by omega, hst, hfi⟩
    simp only [List.append_assoc] at f1 f4 f15 f16 hn hkeys ⊢
    have hk2 : qhp (P ++ (X1 ++ (Y1 ++ (X2 ++ (Y2 ++ Q))))) := by
      intro z hz; refine hkeys z ?_
      simp only [List.mem_append] at hz ⊢
      rcases hz with h | h | h | h | h | h
      · exact .inl h
      · exact .inr (.inl h)
      · exact .inr (.inr (.inr (.inl h)))
      · exact .inr (.inr (.inl h))
      · exact .inr (.inr (.inr (.inr (.inl h))))
      · exact .inr (.inr (.inr (.inr (.inr h))))
    obtain ⟨Z1, p1, q1, s2, n2⟩ : ∃ Z1 : List Evt, Z1.Perm (X1 ++ Y1) ∧ Z1.Pairwise leE ∧ (a < start → start < mid → qbb g cl n a start mid (P ++ (X1 ++ (Y1 ++ (X2 ++ (Y2 ++ Q))))) (P ++ (Z1 ++ (X2 ++ (Y2 ++ Q))))) ∧ (¬ (a < start ∧ start < mid) → P ++ (Z1 ++ (X2 ++ (Y2 ++ Q))) = P ++ (X1 ++ (Y1 ++ (X2 ++ (Y2 ++ Q))))) := by
      by_cases c : a < start ∧ start < mid
      · obtain ⟨Z, p1, q1, r1⟩ := ih P X1 Y1 (X2 ++ (Y2 ++ Q)) (by omega) (by omega) (by omega) x1 y1 (by rw [hlen]; simp; omega) hk2 a start mid ha hst (by omega)
        exact ⟨Z, p1, q1, fun _ _ => r1, fun h => absurd c h⟩
      · refine ⟨X1 ++ Y1, .refl _, ?_, fun h1 h2 => absurd ⟨h1, h2⟩ c, fun _ => by simp⟩
        by_cases c1 : a < start
        · rw [show Y1 = [] from List.eq_nil_of_length_eq_zero (by omega), List.append_nil]; exact x1
        · rw [show X1 = [] from List.eq_nil_of_length_eq_zero (by omega), List.nil_append]; exact y1
    have lz := p1.length_eq
    rw [List.length_append] at lz
    have hk3 : qhp (P ++ Z1 ++ (X2 ++ (Y2 ++ Q))) := by
      intro z hz; refine hk2 z ?_
      have := p1.mem_iff (a := z)
      simp only [List.mem_append] at hz this ⊢
      rcases hz with (h | h) | h
      · exact .inl h
      · rcases this.1 h with h | h
        · exact .inr (.inl h)
        · exact .inr (.inr (.inl h))
      · exact .inr (.inr (.inr h))
    obtain ⟨Z2, p2, q2, s3, n3⟩ : ∃ Z2 : List Evt, Z2.Perm (X2 ++ Y2) ∧ Z2.Pairwise leE ∧ (mid < fin → fin < b → qbb g cl n mid fin b (P ++ (Z1 ++ (X2 ++ (Y2 ++ Q)))) (P ++ (Z1 ++ (Z2 ++ Q)))) ∧ (¬ (mid < fin ∧ fin < b) → P ++ (Z1 ++ (Z2 ++ Q)) = P ++ (Z1 ++ (X2 ++ (Y2 ++ Q)))) := by
      by_cases c : mid < fin ∧ fin < b
      · obtain ⟨Z, p2, q2, r2⟩ := ih (P ++ Z1) X2 Y2 Q (by omega) (by omega) (by omega) x2 y2 (by rw [hlen]; simp; omega) hk3 mid fin b (by simp; omega) (by omega) (by omega)
        simp only [List.append_assoc] at r2
        exact ⟨Z, p2, q2, fun _ _ => r2, fun h => absurd c h⟩
      · refine ⟨X2 ++ Y2, .refl _, ?_, fun h1 h2 => absurd ⟨h1, h2⟩ c, fun _ => by simp⟩
        by_cases c1 : mid < fin
        · rw [show Y2 = [] from List.eq_nil_of_length_eq_zero (by omega), List.append_nil]; exact x2
        · rw [show X2 = [] from List.eq_nil_of_length_eq_zero (by omega), List.nil_append]; exact y2
    have ms := q3t qpg hX hY (Z1 := Z1) (Z2 := Z2) ?_ ?_ p1 p2 q1 q2
    · refine ⟨Z1 ++ Z2, by simpa using ms.1, ms.2, ?_⟩
      simp only [List.append_assoc]
      refine q8c g cl n X1.length X2.length Y1.length Y2.length a m b mid nn lo hi p start fin _ _ _ _ N hlo ⟨y, f1, f2, f3, f4, f5, f6, f7, f8, f9, f10, f11, f12⟩ ?_ ?_ s2 n2 s3 n3
      · intro c1 c2
        have r := q7r g cl n (P ++ X1) X2 Y1 (Y2 ++ Q) (by omega) (by omega) (by rw [hlen]; simp; omega) hb start m fin (by simp; omega) (by omega) (by omega)
        simpa only [List.append_assoc] using r
      · intro c
        by_cases c1 : start < m
        · rw [show Y1 = [] from List.eq_nil_of_length_eq_zero (by omega)]; simp
        · rw [show X2 = [] from List.eq_nil_of_length_eq_zero (by omega)]; simp
    · intro u v hu hv
      have hlt : X1.length - 1 < X1.length := (List.getElem?_eq_some_iff.1 hu).1
      have hlt2 : 0 < Y2.length := (List.getElem?_eq_some_iff.1 hv).1
      rcases f15 with h | h
      · omega
      · refine h u v ?_ ?_
        · rw [← hu]; exact qvn (L := P) (X := X1) (M := X2 ++ (Y1 ++ (Y2 ++ Q))) rfl hlt (by omega)
        · rw [← hv]; exact qvn (L := P ++ (X1 ++ (X2 ++ Y1))) (X := Y2) (M := Q) (by simp) hlt2 (by simp; omega)
    · intro u v hu hv
      have hlt : Y1.length - 1 < Y1.length := (List.getElem?_eq_some_iff.1 hu).1
      have hlt2 : 0 < X2.length := (List.getElem?_eq_some_iff.1 hv).1
      rcases f16 with h | h
      · omega
      · refine h u v ?_ ?_
        · rw [← hu]; exact qvn (L := P ++ (X1 ++ X2)) (X := Y1) (M := Y2 ++ Q) (by simp) hlt (by simp; omega)
        · rw [← hv]; exact qvn (L := P ++ X1) (X := X2) (M := Y1 ++ (Y2 ++ Q)) (by simp) hlt2 (by simp; omega)
end
set_option maxRecDepth 10000
theorem q5g {a : Nat} (h : a < 2 ^ 61) : IntKind.i64.wrap (2 * (a : Int)) = ((2 * a : Nat) : Int) := by rw [qat (by omega) (by omega)]; omega
theorem q9e {a : Nat} (h : a < 2 ^ 61) : IntKind.i64.wrap ((a : Int) * 2) = ((2 * a : Nat) : Int) := by rw [qat (by omega) (by omega)]; omega
section
variable (g : Nat) (cl : Bool) (n : Nat)
theorem q7t (l : List Evt) (hn : n = l.length) (hb : n < 2 ^ 58) (hk : qhp l) :
    ∃ y, itB (exec (evL T) itL none qca) (Ev.qs [0, 1, 2, 6, 7, 8] true 1) ⟨[(0, .sl 0 g 0 n cl), (1, (.v (.int .i64 (n)))), (2, (.fn (.func qr) [] [])), (6, (.v (.int .i64 (20)))), (7, (.v (.int .i64 (0)))), (8, (.v (.int .i64 (20))))], []⟩ [.row 6 ((l).map Evt.r) g] = some y ∧
      ∃ a : Nat, y.1 = .exit 0 ∧ y.2.1.marks = [] ∧ Ev.look y.2.1.vars 0 = some (.sl 0 g 0 n cl) ∧ Ev.look y.2.1.vars 1 = some (.v (.int .i64 (n))) ∧ Ev.look y.2.1.vars 2 = some (.fn (.func qr) [] []) ∧ Ev.look y.2.1.vars 6 = some (.v (.int .i64 (20))) ∧ Ev.look y.2.1.vars 7 = some (.v (.int .i64 (a))) ∧
        ∃ Dn Rs : List Evt, y.2.2 = [.row 6 ((Dn ++ Rs).map Evt.r) g] ∧ a = Dn.length ∧ (Dn ++ Rs).Perm l ∧ Rs.length < 20 ∧ ∀ t, Blk leE 20 t → Blk leE 20 (Dn ++ t) := by
  have key := qi2 (f := exec (evL T) itL none qca) (s := Ev.qs [0, 1, 2, 6, 7, 8] true 1) (τ := List Evt × Nat)
    (fun s => ⟨[(0, .sl 0 g 0 n cl), (1, (.v (.int .i64 (n)))), (2, (.fn (.func qr) [] [])), (6, (.v (.int .i64 (20)))), (7, (.v (.int .i64 (s.2)))), (8, (.v (.int .i64 ((s.2 + 20 : Nat)))))], []⟩) (fun s => [.row 6 ((s.1).map Evt.r) g]) (fun s => n + 20 - s.2)
    (fun s => ∃ Dn Rs, s.1 = Dn ++ Rs ∧ s.2 = Dn.length ∧ (Dn ++ Rs).Perm l ∧ ∀ t, Blk leE 20 t → Blk leE 20 (Dn ++ t))
    (fun y => ∃ a : Nat, y.1 = .exit 0 ∧ y.2.1.marks = [] ∧ Ev.look y.2.1.vars 0 = some (.sl 0 g 0 n cl) ∧ Ev.look y.2.1.vars 1 = some (.v (.int .i64 (n))) ∧ Ev.look y.2.1.vars 2 = some (.fn (.func qr) [] []) ∧ Ev.look y.2.1.vars 6 = some (.v (.int .i64 (20))) ∧ Ev.look y.2.1.vars 7 = some (.v (.int .i64 (a))) ∧
        ∃ Dn Rs : List Evt, y.2.2 = [.row 6 ((Dn ++ Rs).map Evt.r) g] ∧ a = Dn.length ∧ (Dn ++ Rs).Perm l ∧ Rs.length < 20 ∧ ∀ t, Blk leE 20 t → Blk leE 20 (Dn ++ t)) ?_ (l, 0) ⟨[], l, rfl, rfl, .refl _, fun t h => h⟩
  · exact key
  rintro ⟨D, a⟩ ⟨Dn, Rs, hD, ha, hp, hB⟩
  simp only at hD ha ⊢
  have hl := hp.length_eq
  rw [List.length_append] at hl
  by_cases c : a + 20 ≤ n
  case neg =>
    have h1 : ¬ ((a + 20 : Nat) : Int) ≤ (n : Int) := by omega
    right
    simp only [qca, h1, Ev.exec, Ev.qb, Ev.qe, Ev.qc, Ev.qaf, Ev.Opnd.ev, Ev.Env.get, Ev.Env.set, Ev.look, Ev.qjl, ↓Ev.qq, Ev.it1, ↓reduceIte, Nat.reduceEqDiff, reduceCtorEq, decide_false, Bool.false_eq_true, eq_self]
    exact ⟨_, rfl, a, rfl, rfl, rfl, rfl, rfl, rfl, rfl, Dn, Rs, by rw [hD], ha, hp, by omega, hB⟩
  have h1 : ((a + 20 : Nat) : Int) ≤ (n : Int) := by omega
  obtain ⟨S, Q, rfl, hS⟩ : ∃ S Q, Rs = S ++ Q ∧ S.length = 20 := ⟨Rs.take 20, Rs.drop 20, (List.take_append_drop _ _).symm, by simp; omega⟩
  rw [List.length_append] at hl
  have hkD : qhp (Dn ++ (S ++ Q)) := hk.perm hp
  obtain ⟨S', p1, q1, r1⟩ := qvi g cl n Dn S Q (by simp; omega) (by omega) hkD a (a + 20) ha (by omega)
  have w1 : IntKind.i64.wrap (((a + 20 : Nat) : Int) + 20) = ((a + 20 + 20 : Nat) : Int) := by rw [qat (by omega) (by omega)]; omega
  rw [← hD] at r1
  left
  refine ⟨(Dn ++ (S' ++ Q), a + 20), ?_, ⟨Dn ++ S', Q, by simp, ?_, ?_, ?_⟩, by simp only; omega⟩
  · simp only [qca, h1, w1, r1, qah, Ev.exec, Ev.qb, Ev.qe, Ev.qc, Ev.qd0, Ev.qaf, Ev.evs, Ev.Opnd.ev, Ev.Env.get, Ev.Env.set, Ev.look, Ev.qaj, Ev.qjl, Ev.qs, Ev.keep, Ev.qai, Ev.qaa, Ev.qd, Ev.SObj.lo, Ev.qa4, Ev.qb8, Ev.qde, Ev.qj, ↓Ev.qq, Ev.it1, ↓reduceIte, List.take_succ_cons, List.take_nil, Nat.reduceEqDiff, reduceCtorEq, decide_true, Bool.and_self, and_self, Nat.lt_add_one, eq_self]
  · have := p1.length_eq; simp; omega
  · rw [List.append_assoc]; exact (List.Perm.append_left Dn (p1.append_right Q)).trans hp
  · intro t ht
    rw [List.append_assoc]
    exact hB _ (.more (by rw [p1.length_eq]; exact hS) q1 ht)
theorem q7v (l D0 : List Evt) (hn : n = l.length) (hb : n < 2 ^ 58) (hk : qhp l) (s : Nat) (hs : 0 < s) (hsn : s < n) (hp0 : D0.Perm l) (hB0 : Blk leE s D0) :
    ∃ y, itB (exec (evL T) itL none qcb) (Ev.qs [0, 1, 2, 6, 7, 8] true 1) ⟨[(0, .sl 0 g 0 n cl), (1, (.v (.int .i64 (n)))), (2, (.fn (.func qr) [] [])), (6, (.v (.int .i64 (s)))), (7, (.v (.int .i64 (0)))), (8, (.v (.int .i64 ((2 * s : Nat)))))], []⟩ [.row 6 ((D0).map Evt.r) g] = some y ∧
      ∃ a : Nat, y.1 = .exit 4 ∧ y.2.1.marks = [] ∧ Ev.look y.2.1.vars 0 = some (.sl 0 g 0 n cl) ∧ Ev.look y.2.1.vars 1 = some (.v (.int .i64 (n))) ∧ Ev.look y.2.1.vars 2 = some (.fn (.func qr) [] []) ∧ Ev.look y.2.1.vars 6 = some (.v (.int .i64 (s))) ∧ Ev.look y.2.1.vars 7 = some (.v (.int .i64 (a))) ∧
        ∃ Dn Rs : List Evt, y.2.2 = [.row 6 ((Dn ++ Rs).map Evt.r) g] ∧ a = Dn.length ∧ (Dn ++ Rs).Perm l ∧ Rs.length < 2 * s ∧ Blk leE s Rs ∧ ∀ t, Blk leE (2 * s) t → Blk leE (2 * s) (Dn ++ t) := by
  have key := qi2 (f := exec (evL T) itL none qcb) (s := Ev.qs [0, 1, 2, 6, 7, 8] true 1) (τ := List Evt × Nat)
    (fun z => ⟨[(0, .sl 0 g 0 n cl), (1, (.v (.int .i64 (n)))), (2, (.fn (.func qr) [] [])), (6, (.v (.int .i64 (s)))), (7, (.v (.int .i64 (z.2)))), (8, (.v (.int .i64 ((z.2 + 2 * s : Nat)))))], []⟩) (fun z => [.row 6 ((z.1).map Evt.r) g]) (fun z => n + 2 * s - z.2)
    (fun z => ∃ Dn Rs, z.1 = Dn ++ Rs ∧ z.2 = Dn.length ∧ (Dn ++ Rs).Perm l ∧ Blk leE s Rs ∧ ∀ t, Blk leE (2 * s) t → Blk leE (2 * s) (Dn ++ t))
    (fun y => ∃ a : Nat, y.1 = .exit 4 ∧ y.2.1.marks = [] ∧ Ev.look y.2.1.vars 0 = some (.sl 0 g 0 n cl) ∧ Ev.look y.2.1.vars 1 = some (.v (.int .i64 (n))) ∧ Ev.look y.2.1.vars 2 = some (.fn (.func qr) [] []) ∧ Ev.look y.2.1.vars 6 = some (.v (.int .i64 (s))) ∧ Ev.look y.2.1.vars 7 = some (.v (.int .i64 (a))) ∧
        ∃ Dn Rs : List Evt, y.2.2 = [.row 6 ((Dn ++ Rs).map Evt.r) g] ∧ a = Dn.length ∧ (Dn ++ Rs).Perm l ∧ Rs.length < 2 * s ∧ Blk leE s Rs ∧ ∀ t, Blk leE (2 * s) t → Blk leE (2 * s) (Dn ++ t)) ?_ (D0, 0) ⟨[], D0, rfl, rfl, hp0, hB0, fun t h => h⟩
  · simp only [Nat.zero_add] at key; exact key
  rintro ⟨D, a⟩ ⟨Dn, Rs, hD, ha, hp, hR, hB⟩
  simp only at hD ha ⊢
  have hl := hp.length_eq
  rw [List.length_append] at hl
  by_cases c : a + 2 * s ≤ n
  case neg =>
    have h1 : ¬ ((a + 2 * s : Nat) : Int) ≤ (n : Int) := by omega
    right
    simp only [qcb, h1, Ev.exec, Ev.qb, Ev.qe, Ev.qc, Ev.qaf, Ev.Opnd.ev, Ev.Env.get, Ev.Env.set, Ev.look, Ev.qjl, ↓Ev.qq, Ev.it1, ↓reduceIte, Nat.reduceEqDiff, reduceCtorEq, decide_false, Bool.false_eq_true, eq_self]
    exact ⟨_, rfl, a, rfl, rfl, rfl, rfl, rfl, rfl, rfl, Dn, Rs, by rw [hD], ha, hp, by omega, hR, hB⟩
  have h1 : ((a + 2 * s : Nat) : Int) ≤ (n : Int) := by omega
  obtain ⟨X, Y, Q, rfl, hX, hY, qX, qY, hQ⟩ : ∃ X Y Q, Rs = X ++ (Y ++ Q) ∧ X.length = s ∧ Y.length = s ∧ X.Pairwise leE ∧ Y.Pairwise leE ∧ Blk leE s Q := by
    obtain ⟨X, R1, rfl, h2, h3, h4⟩ := hR.split (by omega)
    rw [List.length_append] at hl
    by_cases c2 : R1.length ≤ s
    · exact ⟨X, R1, [], by simp, h2, by omega, h3, h4.sorted c2, .nil⟩
    · obtain ⟨Y, Q, rfl, h5, h6, h7⟩ := h4.split (by omega)
      exact ⟨X, Y, Q, rfl, h2, h5, h3, h6, h7⟩
  rw [List.length_append, List.length_append] at hl
  have hkD : qhp (Dn ++ (X ++ (Y ++ Q))) := hk.perm hp
  obtain ⟨Z, p1, q1, r1⟩ := qyp g cl n (by omega) _ Dn X Y Q (Nat.le_refl _) (by omega) (by omega) qX qY (by simp; omega) hkD a (a + s) (a + 2 * s) ha (by omega) (by omega)
  have w1 : IntKind.i64.wrap ((a : Int) + (s : Int)) = ((a + s : Nat) : Int) := qlx (by omega)
  have w2 : IntKind.i64.wrap (2 * (s : Int)) = ((2 * s : Nat) : Int) := q5g (by omega)
  have w3 : IntKind.i64.wrap (((a + 2 * s : Nat) : Int) + ((2 * s : Nat) : Int)) = ((a + 2 * s + 2 * s : Nat) : Int) := qlx (by omega)
  unfold qbb at r1
  rw [← hD] at r1
  have hz := p1.length_eq
  rw [List.length_append] at hz
  left
  refine ⟨(Dn ++ (Z ++ Q), a + 2 * s), ?_, ⟨Dn ++ Z, Q, by simp, ?_, ?_, hQ, ?_⟩, by simp only; omega⟩
  · simp only [qcb, h1, w1, w2, w3, r1, qah, Ev.exec, Ev.qb, Ev.qe, Ev.qc, Ev.qd0, Ev.qaf, Ev.evs, Ev.Opnd.ev, Ev.Env.get, Ev.Env.set, Ev.look, Ev.qaj, Ev.q4g, Ev.qjl, Ev.qs, Ev.keep, Ev.qai, Ev.qaa, Ev.qd, Ev.SObj.lo, Ev.qa4, Ev.qb8, Ev.qde, Ev.qj, ↓Ev.qq, Ev.it1, ↓reduceIte, List.take_succ_cons, List.take_nil, Nat.reduceEqDiff, reduceCtorEq, decide_true, Bool.and_self, and_self, Nat.lt_add_one, eq_self]
  · simp; omega
  · rw [List.append_assoc]
    refine (List.Perm.append_left Dn (p1.append_right Q)).trans ?_
    rw [List.append_assoc]; exact hp
  · intro t ht
    rw [List.append_assoc]
    exact hB _ (.more (by omega) q1 ht)
theorem q8p (l D0 : List Evt) (hn : n = l.length) (hb : n < 2 ^ 58) (hk : qhp l) (hp0 : D0.Perm l) (hB0 : Blk leE 20 D0) :
    ∃ y, itB (exec (evL T) itL none qbx) (Ev.qs [0, 1, 2, 6] true 1) ⟨[(0, .sl 0 g 0 n cl), (1, (.v (.int .i64 (n)))), (2, (.fn (.func qr) [] [])), (6, (.v (.int .i64 (20))))], []⟩ [.row 6 ((D0).map Evt.r) g] = some y ∧
      (y.1 = .exit 2 ∧ y.2.1.marks = [] ∧ ∃ l' : List Evt, y.2.2 = [.row 6 ((l').map Evt.r) g] ∧ l'.Perm l ∧ l'.Pairwise leE) := by
  have key := qi2 (f := exec (evL T) itL none qbx) (s := Ev.qs [0, 1, 2, 6] true 1) (τ := List Evt × Nat)
    (fun z => ⟨[(0, .sl 0 g 0 n cl), (1, (.v (.int .i64 (n)))), (2, (.fn (.func qr) [] [])), (6, (.v (.int .i64 (z.2))))], []⟩) (fun z => [.row 6 ((z.1).map Evt.r) g]) (fun z => n - z.2)
    (fun z => z.1.Perm l ∧ 0 < z.2 ∧ Blk leE z.2 z.1)
    (fun y => y.1 = .exit 2 ∧ y.2.1.marks = [] ∧ ∃ l' : List Evt, y.2.2 = [.row 6 ((l').map Evt.r) g] ∧ l'.Perm l ∧ l'.Pairwise leE) ?_ (D0, 20) ⟨hp0, by simp, hB0⟩
  · exact key
  rintro ⟨D, s⟩ ⟨hp, hs, hB⟩
  simp only at hp hs hB ⊢
  have hl := hp.length_eq
  by_cases c : s < n
  case neg =>
    have h1 : ¬ (s : Int) < (n : Int) := by omega
    right
    simp only [qbx, h1, Ev.exec, Ev.qb, Ev.qe, Ev.qc, Ev.qaf, Ev.Opnd.ev, Ev.Env.get, Ev.Env.set, Ev.look, Ev.qo, ↓Ev.qq, Ev.it1, ↓reduceIte, Nat.reduceEqDiff, reduceCtorEq, decide_false, Bool.false_eq_true, eq_self]
    exact ⟨_, rfl, rfl, rfl, D, rfl, hp, hB.sorted (by omega)⟩
  have h1 : (s : Int) < (n : Int) := by omega
  obtain ⟨⟨y, e, σ⟩, k1, a, k2, k3, k4, k5, k6, k7, k8, Dn, Rs, k9, k10, k11, k12, k13, k14⟩ := q7v g cl n l D hn hb hk s hs c hp hB
  simp only at k1 k2 k3 k4 k5 k6 k7 k8 k9
  subst k2; subst k9
  have hl2 := k11.length_eq
  rw [List.length_append] at hl2
  have w1 : IntKind.i64.wrap ((a : Int) + (s : Int)) = ((a + s : Nat) : Int) := qlx (by omega)
  have w2 : IntKind.i64.wrap (2 * (s : Int)) = ((2 * s : Nat) : Int) := q5g (by omega)
  have w3 : IntKind.i64.wrap ((s : Int) * 2) = ((2 * s : Nat) : Int) := q9e (by omega)
  left
  by_cases c2 : a + s < n
  · have h2 : ((a + s : Nat) : Int) < (n : Int) := by omega
    obtain ⟨X, Y, rfl, hX, qX, hY⟩ := k13.split (by omega)
    rw [List.length_append] at hl2 k12
    have hkD : qhp (Dn ++ (X ++ (Y ++ []))) := by rw [List.append_nil]; exact hk.perm k11
    obtain ⟨Z, p1, q1, r1⟩ := qyp g cl n (by omega) _ Dn X Y [] (Nat.le_refl _) (by omega) (by omega) qX (hY.sorted (by omega)) (by simp; omega) hkD a (a + s) n k10 (by omega) (by omega)
    unfold qbb at r1
    simp only [List.append_nil] at r1
    have hz := p1.length_eq
    rw [List.length_append] at hz
    refine ⟨(Dn ++ Z, 2 * s), ?_, ⟨(List.Perm.append_left Dn p1).trans k11, by simp only; omega, k14 _ (.last (by omega) q1)⟩, by simp only; omega⟩
    simp only [qbx, h1, h2, w1, w2, w3, k1, k3, k4, k5, k6, k7, k8, r1, qah, Ev.exec, Ev.qb, Ev.qe, Ev.qc, Ev.qd0, Ev.qaf, Ev.evs, Ev.Opnd.ev, Ev.Env.get, Ev.Env.set, Ev.look, Ev.qaj, Ev.q4g, Ev.qo, Ev.qs, Ev.keep, Ev.qai, Ev.qaa, Ev.qd, Ev.SObj.lo, Ev.qa4, Ev.qb8, Ev.qde, Ev.qj, ↓Ev.qq, ↓Ev.qan, Ev.it1, ↓reduceIte, List.length_cons, List.length_nil, List.take_succ_cons, List.take_nil, Nat.reduceEqDiff, reduceCtorEq, decide_true, Bool.and_self, and_self, Nat.zero_add, Nat.lt_add_one, eq_self]
  · have h2 : ¬ ((a + s : Nat) : Int) < (n : Int) := by omega
    refine ⟨(Dn ++ Rs, 2 * s), ?_, ⟨k11, by simp only; omega, k14 _ (.last (by omega) (k13.sorted (by omega)))⟩, by simp only; omega⟩
    simp only [qbx, h1, h2, w1, w2, w3, k1, k3, k4, k5, k6, k7, k8, qah, Ev.exec, Ev.qb, Ev.qe, Ev.qc, Ev.qaf, Ev.Opnd.ev, Ev.Env.get, Ev.Env.set, Ev.look, Ev.qaj, Ev.q4g, Ev.qo, Ev.qs, Ev.keep, Ev.qai, Ev.qaa, Ev.qd, Ev.SObj.lo, Ev.qa4, Ev.qb8, Ev.qde, Ev.qj, ↓Ev.qq, ↓Ev.qan, Ev.it1, ↓reduceIte, List.length_cons, List.length_nil, List.take_succ_cons, List.take_nil, Nat.reduceEqDiff, reduceCtorEq, decide_true, decide_false, Bool.and_self, Bool.false_eq_true, and_self, Nat.zero_add, Nat.lt_add_one, eq_self]
theorem q7h (l : List Evt) (hn : n = l.length) (hb : n < 2 ^ 58) (hk : qhp l) :
    ∃ l' : List Evt, l'.Perm l ∧ l'.Pairwise leE ∧ (evL T).call qb4 [.sl 0 g 0 n cl, (.v (.int .i64 (n))), (.fn (.func qr) [] [])] [.row 6 ((l).map Evt.r) g] = some (.tup [], [.row 6 ((l').map Evt.r) g]) := by
  obtain ⟨⟨y, e, σ⟩, k1, a, k2, k3, k4, k5, k6, k7, k8, Dn, Rs, k9, k10, k11, k12, k13⟩ := q7t g cl n l hn hb hk
  simp only at k1 k2 k3 k4 k5 k6 k7 k8 k9
  subst k2; subst k9
  have hl := k11.length_eq
  rw [List.length_append] at hl
  obtain ⟨R', p1, q1, r1⟩ := qvi g cl n Dn Rs [] (by simp; omega) (by omega) (by rw [List.append_nil]; exact hk.perm k11) a n k10 (by omega)
  simp only [List.append_nil] at r1
  obtain ⟨⟨y', e', σ'⟩, l1, l2, l3, l', l4, l5, l6⟩ := q8p g cl n l (Dn ++ R') hn hb hk ((List.Perm.append_left Dn p1).trans k11) (k13 _ (.last (by rw [p1.length_eq]; omega) q1))
  simp only at l1 l2 l3 l4
  subst l2; subst l4
  refine ⟨l', l5, l6, ?_⟩
  rw [qu qjp qjj]
  simp only [qdm, k1, k3, k4, k5, k6, k7, k8, r1, l1, l3, qah, Ev.qm, Ev.exec, Ev.qb, Ev.qe, Ev.qc, Ev.qd0, Ev.qaf, Ev.evs, Ev.Opnd.ev, Ev.Env.get, Ev.Env.set, Ev.look, Ev.qn, Ev.ql, Ev.qae, Ev.kill, Ev.qad, Ev.qs, Ev.keep, Ev.qai, Ev.qaa, Ev.qd, Ev.SObj.lo, Ev.qa4, Ev.qbc, Ev.qb8, Ev.qde, Ev.qj, ↓Ev.qq, ↓Ev.qan, ↓reduceIte, List.length_cons, List.length_nil, List.take_succ_cons, List.take_nil, Nat.reduceAdd, Nat.reduceEqDiff, reduceCtorEq, decide_true, Bool.and_self, and_self, Nat.zero_add, Nat.lt_add_one, eq_self]
theorem q1w (l : List Evt) (hn : n = l.length) (hb : n < 2 ^ 58) (hk : qhp l) :
    ∃ l' : List Evt, l'.Perm l ∧ l'.Pairwise leE ∧ (evL T).call qa1 [.sl 0 g 0 n cl, (.fn (.func qr) [] [])] [.row 6 ((l).map Evt.r) g] = some (.tup [], [.row 6 ((l').map Evt.r) g]) := by
  obtain ⟨l', h1, h2, h3⟩ := q7h g cl n l hn hb hk
  refine ⟨l', h1, h2, ?_⟩
  rw [qu qgh qf8]
  simp only [qb1, h3, qah, Ev.qm, Ev.exec, Ev.qb, Ev.qe, Ev.qc, Ev.qd0, Ev.qaf, Ev.evs, Ev.Opnd.ev, Ev.Env.get, Ev.Env.set, Ev.look, Ev.qn, Ev.ql, Ev.qae, Ev.kill, Ev.qad, Ev.qd, Ev.SObj.lo, Ev.qbc, Ev.qj, ↓Ev.qq, ↓reduceIte, List.length_cons, List.length_nil, List.take_succ_cons, List.take_nil, Nat.reduceAdd, Nat.reduceEqDiff, reduceCtorEq, Bool.and_self, and_self, Nat.zero_add, eq_self]
end
set_option maxRecDepth 10000
def qst (l : List Evt) : List Evt := l.mergeSort (fun a b => decide (qwb a b ≤ 0))
def q67 (l : List Evt) : Prop := l.Pairwise (fun a b => ¬ qwb a b = 0)
theorem qkg (l : List Evt) : (qst l).Perm l := List.mergeSort_perm _ _
theorem qq9 (l : List Evt) : (qst l).Pairwise leE := by
  have := List.pairwise_mergeSort (le := fun a b => decide (qwb a b ≤ 0)) (fun a b c h1 h2 => by simp only [decide_eq_true_eq] at h1 h2 ⊢; exact qpg a b c h1 h2) (fun a b => by
    have := qtm a b
    by_cases h : qwb a b ≤ 0
    · simp [h]
    · have : qwb b a ≤ 0 := by omega
      simp [this]) l
  exact this.imp (fun h => of_decide_eq_true h)
theorem q67.eq {l : List Evt} (h : q67 l) {a b : Evt} (ha : a ∈ l) (hb : b ∈ l) (hc : qwb a b = 0) : a = b := by
  obtain ⟨i, hi⟩ := List.mem_iff_getElem?.1 ha
  obtain ⟨j, hj⟩ := List.mem_iff_getElem?.1 hb
  obtain ⟨hi', rfl⟩ := List.getElem?_eq_some_iff.1 hi
  obtain ⟨hj', rfl⟩ := List.getElem?_eq_some_iff.1 hj
  rw [q67, List.pairwise_iff_getElem] at h
  rcases Nat.lt_trichotomy i j with c | c | c
  · exact absurd hc (h i j hi' hj' c)
  · subst c; rfl
  · exact absurd (by rw [qtm]; omega) (h j i hj' hi' c)
theorem q2k {l l' : List Evt} (hd : q67 l) (hp : l'.Perm l) (hs : l'.Pairwise leE) : l' = qst l := by
  refine List.Perm.eq_of_pairwise (le := leE) (fun a b ha hb h1 h2 => ?_) hs (qq9 l) (hp.trans (qkg l).symm)
  refine hd.eq (hp.mem_iff.1 ha) ((qkg l).mem_iff.1 hb) ?_
  have := qtm a b
  unfold leE at h1 h2; omega
theorem q67.perm {l l' : List Evt} (h : q67 l) (p : l'.Perm l) : q67 l' := (p.pairwise_iff (fun {x y} hxy hyx => hxy (by rw [qtm]; omega))).2 h
theorem q1y (l : List Evt) (c : Bool) (h : l.length ≤ 1000000) : (evL T).call qb3 [(.fsl ((l).map Evt.r) c)] [] = some (.sl 0 0 0 l.length false, [.row 6 (l.map Evt.r) 0]) := by
  have h' : l.length * 64 ≤ 140737488355328 := by omega
  rw [q38 qh2]
  simp only [qtu, qah, qw0, h', Ev.qy, Ev.qj, Ev.qk, List.length_map, ↓reduceIte, Nat.reduceLT, Nat.reducePow, Bool.and_self, and_self, eq_self]
theorem qs6 (l : List Evt) (c : Bool) (h : l.length ≤ 1000000) (hk : qhp l) : ∃ l' : List Evt, l'.Perm l ∧ l'.Pairwise leE ∧ qbk (evL T) qeg [(.fsl ((l).map Evt.r) c)] = some (.fsl ((l').map Evt.r) false) := by
  have hcl := q1y l c h
  obtain ⟨l', h1, h2, h3⟩ := q1w 0 false l.length l rfl (by omega) hk
  refine ⟨l', h1, h2, ?_⟩
  have hlen := h1.length_eq
  rw [qbk, qu qr8 qrn]
  rw [← hlen] at hcl h3
  simp only [qir, hcl, h3, qah, Ev.qm, Ev.exec, Ev.qb, Ev.qe, Ev.qc, Ev.qqm, Ev.qd0, Ev.q07, Ev.AV.shift, Ev.qaf, Ev.evs, Ev.Opnd.ev, Ev.Env.get, Ev.Env.set, Ev.look, Ev.qn, Ev.ql, Ev.qw, Ev.qae, Ev.kill, Ev.qad, Ev.qd, Ev.qy, Ev.qb8, Ev.qj, Ev.qk, Ev.qk1, Ev.qiq, Ev.qhn, Ev.qfi, Ev.qhs, Ev.q2g, List.length_map, ↓Ev.qq, ↓reduceIte, List.length_cons, List.length_nil, List.getElem?_cons_zero, List.take_zero, List.drop_zero, List.nil_append, Nat.reduceEqDiff, Nat.reduceLT, reduceCtorEq, decide_false, Bool.and_self, Bool.false_eq_true, and_self, and_true, Nat.zero_add, Nat.add_zero, Nat.le_refl, eq_self]
theorem ql1 (l : List Evt) (c : Bool) (h : l.length ≤ 1000000) (hk : qhp l) (hd : q67 l) : qbk (evL T) qeg [(.fsl ((l).map Evt.r) c)] = some (.fsl ((qst l).map Evt.r) false) := by
  obtain ⟨l', h1, h2, h3⟩ := qs6 l c h hk
  rw [← q2k hd h1 h2]; exact h3
set_option maxRecDepth 10000
def qip (k i : Nat) (s : Start) : Evt := ⟨s.time, [(k : Int), (i : Int)], k, 1, i, 0⟩
def qjs (k : Nat) (l : List Start) : List Evt := l.mapIdx (fun i s => qip k i s)
def qkj (lps : List (List Start)) : List Evt := (lps.mapIdx (fun k l => qjs k l)).flatten
theorem q4l (k : Nat) (l : List Start) (s : Start) : qjs k (l ++ [s]) = qjs k l ++ [qip k l.length s] := by simp [qjs, List.mapIdx_append]
theorem q6r (lps : List (List Start)) (l : List Start) : qkj (lps ++ [l]) = qkj lps ++ qjs lps.length l := by simp [qkj, List.mapIdx_append]
theorem q0j (k : Nat) (l : List Start) : (qjs k l).length = l.length := by simp [qjs]
theorem qpn {k : Nat} {l : List Start} {x : Evt} (h : x ∈ qjs k l) : ∃ i s, l[i]? = some s ∧ x = qip k i s := by
  simp only [qjs] at h
  obtain ⟨i, hi⟩ := List.mem_iff_getElem?.1 h
  rw [List.getElem?_mapIdx] at hi
  cases hl : l[i]? with
  | none => rw [hl] at hi; cases hi
  | some s => rw [hl] at hi; cases hi; exact ⟨i, s, hl, rfl⟩
theorem qt3 {lps : List (List Start)} {x : Evt} (h : x ∈ qkj lps) : ∃ k l i s, lps[k]? = some l ∧ l[i]? = some s ∧ x = qip k i s := by
  simp only [qkj, List.mem_flatten] at h
  obtain ⟨r, hr, hx⟩ := h
  obtain ⟨k, hk⟩ := List.mem_iff_getElem?.1 hr
  rw [List.getElem?_mapIdx] at hk
  cases hl : lps[k]? with
  | none => rw [hl] at hk; cases hk
  | some l =>
    rw [hl] at hk; cases hk
    obtain ⟨i, s, h1, h2⟩ := qpn hx
    exact ⟨k, l, i, s, hl, h1, h2⟩
theorem q5u (lps : List (List Start)) : qhp (qkj lps) := by
  intro x hx
  obtain ⟨k, l, i, s, _, _, rfl⟩ := qt3 hx
  simp [qip]
theorem q2q {k k' i i' : Nat} {s s' : Start} (h : qwb (qip k i s) (qip k' i' s') = 0) : k = k' ∧ i = i' := by
  have := ((qx4 _ _).1 h).2
  simp only [qip, List.cons.injEq, and_true] at this
  omega
theorem q53 (lps : List (List Start)) : q67 (qkj lps) := by
  unfold q67 qkj
  rw [List.pairwise_flatten]
  constructor
  · intro r hr
    obtain ⟨k, hk⟩ := List.mem_iff_getElem?.1 hr
    rw [List.getElem?_mapIdx] at hk
    cases hl : lps[k]? with
    | none => rw [hl] at hk; cases hk
    | some l =>
      rw [hl] at hk; cases hk
      rw [List.pairwise_iff_getElem]
      intro i j hi hj hij h
      simp only [qjs, List.getElem_mapIdx] at h
      have := (q2q h).2; omega
  · rw [List.pairwise_iff_getElem]
    intro k k' hk hk' hkk x hx y hy h
    simp only [List.getElem_mapIdx] at hx hy
    obtain ⟨i, s, _, rfl⟩ := qpn hx
    obtain ⟨i', s', _, rfl⟩ := qpn hy
    have := (q2q h).1; omega
theorem q4h {k i : Nat} {l : List Start} {s : Start} (h : l[i]? = some s) : qjs k (l.take (i + 1)) = qjs k (l.take i) ++ [qip k i s] := by
  have hi : i < l.length := (List.getElem?_eq_some_iff.1 h).1
  rw [qer h, q4l, List.length_take, Nat.min_eq_left (by omega)]
theorem q0i {k : Nat} {lps : List (List Start)} {l : List Start} (h : lps[k]? = some l) : qkj (lps.take (k + 1)) = qkj (lps.take k) ++ qjs k l := by
  have hi : k < lps.length := (List.getElem?_eq_some_iff.1 h).1
  rw [qer h, q6r, List.length_take, Nat.min_eq_left (by omega)]
theorem q25 : ∀ {lps : List (List Start)} {m : Nat}, (∀ l ∈ lps, l.length ≤ m) → (qkj lps).length ≤ lps.length * m := by
  intro lps m h
  have : ∀ n, n ≤ lps.length → (qkj (lps.take n)).length ≤ n * m := by
    intro n
    induction n with
    | zero => intro _; simp [qkj]
    | succ n ih =>
      intro hn
      obtain ⟨l, hl⟩ : ∃ l, lps[n]? = some l := ⟨_, List.getElem?_eq_getElem (by omega)⟩
      rw [q0i hl, List.length_append, q0j, Nat.succ_mul]
      have := ih (by omega)
      have := h l (List.mem_of_getElem? hl)
      omega
  have := this lps.length (Nat.le_refl _)
  rwa [List.take_length] at this
section
variable (c : Cfg)
theorem qvr (out : List Evt) (e : List AV) : List.take out.length (out.map Evt.r) = out.map Evt.r ∧ List.take (out.length + 1) (out.map Evt.r ++ [e]) = out.map Evt.r ++ [e] := ⟨List.take_of_length_le (by simp), List.take_of_length_le (by simp)⟩
theorem q6l (k : Nat) (l : List Start) (o0 : List Evt) (g0 : Nat) (hl : l.length ≤ 12) (hk : k ≤ 12) (ho : o0.length ≤ 1000) (n : Int) :
    ∃ y, itB (exec (evL T) itL none qgs) (Ev.qs [3, 4, 9, 10, 11, 16, 17, 18] true 1) ⟨[(3, .sl 0 g0 0 o0.length false), (4, (.v (.int .i64 (k)))), (9, (.fsl ((c.lps).map lpC) false)), (10, (.v (.int .i64 (n)))), (11, (.v (.int .i64 (k)))), (16, (.fsl ((l).map Start.r) false)), (17, (.v (.int .i64 (l.length)))), (18, (.v (.int .i64 (0))))], []⟩ [.row 6 (o0.map Evt.r) g0] = some y ∧
      ∃ g : Nat, y.1 = .exit 2 ∧ y.2.1.marks = [] ∧ y.2.2 = [.row 6 ((o0 ++ qjs k l).map Evt.r) g] ∧ Ev.look y.2.1.vars 3 = some (.sl 0 g 0 (o0 ++ qjs k l).length false) ∧ Ev.look y.2.1.vars 9 = some (.fsl ((c.lps).map lpC) false) ∧ Ev.look y.2.1.vars 10 = some (.v (.int .i64 (n))) ∧ Ev.look y.2.1.vars 11 = some (.v (.int .i64 (k))) := by
  have key := qjm (f := exec (evL T) itL none qgs) (s := Ev.qs [3, 4, 9, 10, 11, 16, 17, 18] true 1) (α := List Evt × Nat)
    (fun i a => ⟨[(3, .sl 0 a.2 0 a.1.length false), (4, (.v (.int .i64 (k)))), (9, (.fsl ((c.lps).map lpC) false)), (10, (.v (.int .i64 (n)))), (11, (.v (.int .i64 (k)))), (16, (.fsl ((l).map Start.r) false)), (17, (.v (.int .i64 (l.length)))), (18, (.v (.int .i64 (i))))], []⟩) (fun i a => [.row 6 (a.1.map Evt.r) a.2])
    (fun i a => a.1 = o0 ++ qjs k (l.take i)) l.length
    (fun y => ∃ g : Nat, y.1 = .exit 2 ∧ y.2.1.marks = [] ∧ y.2.2 = [.row 6 ((o0 ++ qjs k l).map Evt.r) g] ∧ Ev.look y.2.1.vars 3 = some (.sl 0 g 0 (o0 ++ qjs k l).length false) ∧ Ev.look y.2.1.vars 9 = some (.fsl ((c.lps).map lpC) false) ∧ Ev.look y.2.1.vars 10 = some (.v (.int .i64 (n))) ∧ Ev.look y.2.1.vars 11 = some (.v (.int .i64 (k)))) ?_ ?_ 0 (o0, g0) (Nat.zero_le _) (by simp [qjs])
  · exact key
  · rintro i ⟨out, g⟩ hi hout
    simp only at hout ⊢
    obtain ⟨x, hx⟩ : ∃ x, l[i]? = some x := ⟨_, List.getElem?_eq_getElem hi⟩
    have hi' : (i : Int) < (l.length : Int) := by omega
    have hw : IntKind.i64.wrap ((i : Int) + 1) = ((i + 1 : Nat) : Int) := by rw [qat (by omega) (by omega)]; simp
    have ho2 : out.length ≤ 1012 := by rw [hout, List.length_append, q0j]; have := List.length_take_le i l; omega
    have hb : (out.length + 1) * 64 ≤ 140737488355328 := by omega
    have hcd := qsh [(k : Int)] true i (by simp)
    simp only [List.map_cons, List.map_nil, qcp] at hcd
    obtain ⟨t1, t2⟩ := qvr out (qip k i x).r
    have hr : (out ++ [qip k i x]).map Evt.r = out.map Evt.r ++ [(qip k i x).r] := by rw [List.map_append]; rfl
    refine .inl ⟨(out ++ [qip k i x], g + 1), ?_, by simp only; rw [q4h hx, hout, List.append_assoc]⟩
    have hlo := qah 1 (out ++ [qip k i x])
    simp only
    rw [hr, List.length_append]
    rw [hr] at hlo
    have hil : ∀ n, qit n ([(k : Int), (i : Int)].map qcp) = true := fun n => qax n _
    simp only [qip, Evt.r] at t2 hlo ⊢
    have hcd2 : ([(k : Int)] ++ [(i : Int)]).map qcp = [(k : Int), (i : Int)].map qcp := rfl
    rw [hcd2] at hcd
    generalize [(k : Int), (i : Int)].map qcp = kl at hcd hlo t2 hil ⊢
    simp only [qgs, Int.natCast_nonneg, Int.toNat_natCast, List.getElem?_map, Option.map_some, hx, hi', hw, hcd, hb, t1, hlo, Start.r, qcg, qnd, Ev.exec, Ev.qb, Ev.qe, Ev.qc, Ev.qa9, Ev.qaf, Ev.qvy, Ev.evs, Ev.Opnd.ev, Ev.Env.get, Ev.Env.set, Ev.look, Ev.qi, Ev.qd5, Ev.qab, Ev.qff, Ev.qjo, Ev.AV.cells, Ev.AV.uc, Ev.qv, Ev.AV.plain, Ev.qaj, Ev.qo, Ev.qs, Ev.keep, Ev.qai, Ev.qaa, Ev.qd, Ev.SObj.lo, Ev.qa4, Ev.qy, Ev.qb8, Ev.qj, Ev.qk, Ev.qac, Ev.qaq, Ev.qd8, Ev.qed, List.replicate_one, List.length_map, ↓Ev.qq, Ev.it1, ↓reduceIte, List.length_cons, List.length_nil, List.getElem?_cons_zero, List.getElem?_cons_succ, List.take_succ_cons, List.take_zero, List.take_nil, List.drop_succ_cons, List.drop_zero, List.drop_nil, List.cons_append, List.nil_append, List.append_nil, List.set_cons_zero, List.set_cons_succ, List.head?_cons, Nat.reduceAdd, Nat.reduceEqDiff, Nat.reduceMul, Nat.reduceLeDiff, Nat.reducePow, decide_true, Bool.and_self, Bool.false_eq_true, and_self, ne_eq, not_false_eq_true, List.cons_ne_nil, Nat.zero_add, Nat.lt_add_one, Nat.le_refl, eq_self]
  · rintro ⟨out, g⟩ hout
    rw [List.take_length] at hout
    simp only at hout ⊢
    simp only [qgs, Int.lt_irrefl, Ev.exec, Ev.qb, Ev.qe, Ev.qc, Ev.qaf, Ev.Opnd.ev, Ev.Env.get, Ev.Env.set, Ev.look, Ev.qo, ↓Ev.qq, Ev.it1, ↓reduceIte, List.length_append, Nat.reduceEqDiff, decide_false, Bool.false_eq_true, eq_self]
    exact ⟨_, rfl, g, rfl, rfl, by rw [hout], by rw [hout, List.length_append]; rfl, rfl, rfl, rfl⟩
end
set_option maxRecDepth 10000
section
variable (c : Cfg)
structure Small12 (c : Cfg) : Prop where
  lps : c.lps.length ≤ 12
  lp : ∀ l ∈ c.lps, l.length ≤ 12
theorem Small12.len {c : Cfg} (h : Small12 c) (k : Nat) : (qkj (c.lps.take k)).length ≤ 144 := by
  have := q25 (lps := c.lps.take k) (m := 12) (fun l hl => h.lp l (List.mem_of_mem_take hl))
  have := List.length_take_le k c.lps
  have := List.length_take_le' k c.lps
  have := h.lps
  omega
theorem q6v (h : Small12 c) :
    ∃ y, itB (exec (evL T) itL none qgn) (Ev.qs [3, 9, 10, 11] true 1) ⟨[(3, .sl 0 0 0 0 false), (9, (.fsl ((c.lps).map lpC) false)), (10, (.v (.int .i64 (c.lps.length)))), (11, (.v (.int .i64 (0))))], []⟩ [.row 6 [] 0] = some y ∧
      ∃ g : Nat, y.1 = .exit 0 ∧ y.2.1.marks = [] ∧ y.2.2 = [.row 6 ((qkj c.lps).map Evt.r) g] ∧ Ev.look y.2.1.vars 3 = some (.sl 0 g 0 (qkj c.lps).length false) := by
  have key := qjm (f := exec (evL T) itL none qgn) (s := Ev.qs [3, 9, 10, 11] true 1) (α := List Evt × Nat)
    (fun i a => ⟨[(3, .sl 0 a.2 0 a.1.length false), (9, (.fsl ((c.lps).map lpC) false)), (10, (.v (.int .i64 (c.lps.length)))), (11, (.v (.int .i64 (i))))], []⟩) (fun i a => [.row 6 (a.1.map Evt.r) a.2])
    (fun i a => a.1 = qkj (c.lps.take i)) c.lps.length
    (fun y => ∃ g : Nat, y.1 = .exit 0 ∧ y.2.1.marks = [] ∧ y.2.2 = [.row 6 ((qkj c.lps).map Evt.r) g] ∧ Ev.look y.2.1.vars 3 = some (.sl 0 g 0 (qkj c.lps).length false)) ?_ ?_ 0 ([], 0) (Nat.zero_le _) (by simp [qkj])
  · exact key
  · rintro i ⟨out, g⟩ hi hout
    simp only at hout ⊢
    obtain ⟨x, hx⟩ : ∃ x, c.lps[i]? = some x := ⟨_, List.getElem?_eq_getElem hi⟩
    have hlps := h.lps
    have hi' : (i : Int) < (c.lps.length : Int) := by omega
    have hw : IntKind.i64.wrap ((i : Int) + 1) = ((i + 1 : Nat) : Int) := by rw [qat (by omega) (by omega)]; simp
    have hl := h.len i
    obtain ⟨⟨y, e, σ⟩, k1, g', k2, k3, k4, k5, k6, k7, k8⟩ := q6l c i x out g (h.lp _ (List.mem_of_getElem? hx)) (by omega) (by rw [hout]; omega) c.lps.length
    simp only at k1 k2 k3 k4 k5 k6 k7 k8
    subst k2; subst k4
    refine .inl ⟨(out ++ qjs i x, g'), ?_, by simp only; rw [q0i hx, hout]⟩
    simp only [List.length_append] at k5 ⊢
    simp only [qgn, Int.natCast_nonneg, Int.toNat_natCast, List.getElem?_map, Option.map_some, hx, hi', hw, k1, k3, k5, k6, k7, k8, lpC, qah, qcg, qnd, Ev.exec, Ev.qb, Ev.qe, Ev.qc, Ev.qaf, Ev.Opnd.ev, Ev.Env.get, Ev.Env.set, Ev.look, Ev.qi, Ev.qab, Ev.qaj, Ev.qo, Ev.qs, Ev.keep, Ev.qai, Ev.qaa, Ev.qd, Ev.SObj.lo, Ev.qa4, Ev.qy, Ev.qb8, List.length_map, ↓Ev.qq, ↓Ev.qan, Ev.it1, ↓reduceIte, List.length_cons, List.length_nil, List.take_succ_cons, List.take_nil, List.head?_cons, Nat.reduceEqDiff, decide_true, Bool.and_self, Bool.false_eq_true, and_self, Nat.zero_add, Nat.lt_add_one, eq_self]
  · rintro ⟨out, g⟩ hout
    rw [List.take_length] at hout
    simp only at hout ⊢
    simp only [qgn, Int.lt_irrefl, Ev.exec, Ev.qb, Ev.qe, Ev.qc, Ev.qaf, Ev.Opnd.ev, Ev.Env.get, Ev.Env.set, Ev.look, Ev.qo, ↓Ev.qq, Ev.it1, ↓reduceIte, Nat.reduceEqDiff, decide_false, Bool.false_eq_true, eq_self]
    exact ⟨_, rfl, g, rfl, rfl, by rw [hout], by rw [hout]; rfl⟩
theorem quf (h : Small12 c) : qbk (evL T) qg1 [(.agg [(.fsl ((c.lps).map lpC) false), (.fsl ((c.progs).map qbu) false), (.v (.int .i64 (c.look))), (.v (.int .i64 (c.fin))), (.v (.int .i64 (c.cap)))])] = some (.fsl ((qst (qkj c.lps)).map Evt.r) false) := by
  obtain ⟨⟨y, e, σ⟩, k1, g, k2, k3, k4, k5⟩ := q6v c h
  simp only at k1 k2 k3 k4 k5
  subst k2; subst k4
  have hl := h.len c.lps.length
  rw [List.take_length] at hl
  have hs := ql1 (qkj c.lps) false (by omega) (q5u _) (q53 _)
  have t1 := (qvr (qkj c.lps) []).1
  have h0 : (0 : Int) = ((0 : Nat) : Int) := rfl
  rw [qbk, qu qtf qs8]
  simp only [qjy, k1, k3, k5, hs, t1, qah, qcg, Ev.qm, Ev.exec, Ev.qb, Ev.qe, Ev.qc, Ev.qa9, Ev.qaf, Ev.evs, Ev.Opnd.ev, Ev.Env.get, Ev.Env.set, Ev.look, Ev.qn, Ev.qi, Ev.qab, Ev.AV.cells, Ev.qv, Ev.AV.plain, Ev.ql, Ev.qw, Ev.qae, Ev.kill, Ev.qad, Ev.qs, Ev.keep, Ev.qai, Ev.qaa, Ev.qd, Ev.SObj.lo, Ev.qa4, Ev.qy, Ev.qb8, Ev.qj, Ev.qk, Ev.qac, Ev.qal, List.length_map, ↓Ev.qq, ↓Ev.qan, ↓reduceIte, List.length_cons, List.length_nil, List.getElem?_cons_zero, List.take_succ_cons, List.take_zero, List.take_nil, List.drop_zero, List.nil_append, List.set_cons_zero, List.head?_cons, Nat.reduceEqDiff, Nat.reduceLT, decide_true, Bool.and_self, Bool.false_eq_true, and_self, ne_eq, not_false_eq_true, List.cons_ne_nil, Nat.zero_add, Nat.lt_add_one, Nat.le_refl, eq_self]
end
set_option maxRecDepth 10000
def stP (s : Start) : Pr := ⟨s.prog, 0, true, []⟩
def q68 (ps : List Pr) : Lp × Bool := (⟨0, 0, ps, 0⟩, decide (ps = []))
def q1i (σ : qx) (lim : Nat) (row : List AV) (ps : List Pr) : Prop :=
  ps = [] ∧ row = [(.v (.int .i64 (0))), (.v (.int .i64 (0))), .fsl [] true, (.v (.int .i64 (0)))] ∨ ps ≠ [] ∧ ∃ o g, 0 < o ∧ o < lim ∧ row = [(.v (.int .i64 (0))), (.v (.int .i64 (0))), .sl o g 0 ps.length false, (.v (.int .i64 (0)))] ∧ σ[o]? = some (.row 4 (ps.map Pr.r) g)
theorem q1i.frz {σ : qx} {lim d : Nat} {row : List AV} {ps : List Pr} (h : q1i σ lim row ps) : qgp (Ev.frz σ (d + 1)) row = some (lpF (q68 ps)) := by
  rcases h with ⟨rfl, rfl⟩ | ⟨h1, o, g, _, _, rfl, h2⟩
  · rfl
  · have t1 : List.take ps.length (ps.map Pr.r) = ps.map Pr.r := List.take_of_length_le (by simp)
    simp only [qfi, qhn, qk1, h2, t1, qiq, qar, lpF, q68, h1, Ev.qa4, Ev.qal, Ev.qk1, Ev.qiq, Ev.qhn, Ev.qfi, List.length_map, ↓Ev.qq, ↓reduceIte, List.drop_zero, decide_false, and_self, Nat.zero_add, Nat.le_refl, eq_self]
def qiw (σ : qx) (lim : Nat) : List (List AV) → List (List Pr) → Prop
  | [], [] => True
  | r :: rs, p :: ps => q1i σ lim r p ∧ qiw σ lim rs ps
  | _, _ => False
theorem q1i.mono {σ σ' : qx} {lim lim' : Nat} {row : List AV} {ps : List Pr} (h : q1i σ lim row ps) (hl : lim ≤ lim') (hσ : ∀ o, 0 < o → o < lim → σ'[o]? = σ[o]?) : q1i σ' lim' row ps := by
  rcases h with h | ⟨h1, o, g, h2, h3, h4, h5⟩
  · exact .inl h
  · exact .inr ⟨h1, o, g, h2, by omega, h4, by rw [hσ o h2 h3]; exact h5⟩
theorem qiw.mono {σ σ' : qx} {lim lim' : Nat} (hl : lim ≤ lim') (hσ : ∀ o, 0 < o → o < lim → σ'[o]? = σ[o]?) : ∀ {rs : List (List AV)} {ps : List (List Pr)}, qiw σ lim rs ps → qiw σ' lim' rs ps
  | [], [], h => trivial
  | r :: rs, p :: ps, h => ⟨h.1.mono hl hσ, qiw.mono hl hσ h.2⟩
  | [], _ :: _, h => h.elim
  | _ :: _, [], h => h.elim
theorem qiw.snoc {σ : qx} {lim : Nat} {r : List AV} {p : List Pr} (hr : q1i σ lim r p) : ∀ {rs : List (List AV)} {ps : List (List Pr)}, qiw σ lim rs ps → qiw σ lim (rs ++ [r]) (ps ++ [p])
  | [], [], h => ⟨hr, trivial⟩
  | r' :: rs, p' :: ps, h => ⟨h.1, qiw.snoc hr h.2⟩
  | [], _ :: _, h => h.elim
  | _ :: _, [], h => h.elim
theorem qiw.frz {σ : qx} {lim d : Nat} : ∀ {rs : List (List AV)} {ps : List (List Pr)}, qiw σ lim rs ps → qgp (qgp (Ev.frz σ (d + 1))) rs = some ((ps.map q68).map lpF)
  | [], [], h => rfl
  | r :: rs, p :: ps, h => by rw [qfi, h.1.frz, qiw.frz h.2]; rfl
  | [], _ :: _, h => h.elim
  | _ :: _, [], h => h.elim
theorem qiw.len {σ : qx} {lim : Nat} : ∀ {rs : List (List AV)} {ps : List (List Pr)}, qiw σ lim rs ps → rs.length = ps.length
  | [], [], h => rfl
  | r :: rs, p :: ps, h => by rw [List.length_cons, List.length_cons, qiw.len h.2]
  | [], _ :: _, h => h.elim
  | _ :: _, [], h => h.elim
section
variable (c : Cfg)
def Part (τ0 τ : qx) (i : Nat) (l : List Start) (rk : List AV) : Prop :=
  τ0.length ≤ τ.length ∧ (∀ j, j < τ0.length → τ[j]? = τ0[j]?) ∧
  (i = 0 ∧ rk = [(.v (.int .i64 (0))), (.v (.int .i64 (0))), .fsl [] true, (.v (.int .i64 (0)))] ∨ 0 < i ∧ ∃ o g, τ0.length ≤ o ∧ o < τ.length ∧ rk = [(.v (.int .i64 (0))), (.v (.int .i64 (0))), .sl (o + 1) g 0 i false, (.v (.int .i64 (0)))] ∧ τ[o]? = some (.row 4 (((l.take i).map stP).map Pr.r) g))
theorem Part.rowOk {τ0 τ : qx} {l : List Start} {rk : List AV} (h : Part τ0 τ l.length l rk) (x : SObj) : q1i (x :: τ) (τ.length + 1) rk (l.map stP) := by
  obtain ⟨_, _, h⟩ := h
  rcases h with ⟨h1, h2⟩ | ⟨h1, o, g, h2, h3, h4, h5⟩
  · exact .inl ⟨by rw [List.eq_nil_of_length_eq_zero h1]; rfl, h2⟩
  · refine .inr ⟨fun e => by rw [List.map_eq_nil_iff] at e; subst e; simp at h1, o + 1, g, by omega, by omega, by rw [h4, List.length_map], ?_⟩
    rw [List.take_length] at h5
    rw [List.getElem?_cons_succ]; exact h5
theorem q22 (k n : Nat) (l : List Start) (R1 R2 : List (List AV)) (hk : k = R1.length) (hn : n = R1.length + 1 + R2.length) (hl : l.length ≤ 12) (τ0 : qx) :
    ∃ y, itB (exec (evL T) itL none qfw) (Ev.qs [3, 4, 13, 14, 15, 20, 21, 22] false (τ0.length + 1)) ⟨[(3, .sl 0 0 0 n true), (4, (.v (.int .i64 (k)))), (13, (.fsl ((c.lps).map lpC) false)), (14, (.v (.int .i64 (n)))), (15, (.v (.int .i64 (k)))), (20, (.fsl ((l).map Start.r) false)), (21, (.v (.int .i64 (l.length)))), (22, (.v (.int .i64 (0))))], []⟩ (.row 4 (R1 ++ [(.v (.int .i64 (0))), (.v (.int .i64 (0))), .fsl [] true, (.v (.int .i64 (0)))] :: R2) 0 :: τ0) = some y ∧
      ∃ (rk : List AV) (τ : qx), y.1 = .exit 2 ∧ y.2.1.marks = [] ∧ y.2.2 = .row 4 (R1 ++ rk :: R2) 0 :: τ ∧ Part τ0 τ l.length l rk ∧ Ev.look y.2.1.vars 3 = some (.sl 0 0 0 n true) ∧ Ev.look y.2.1.vars 13 = some (.fsl ((c.lps).map lpC) false) ∧ Ev.look y.2.1.vars 14 = some (.v (.int .i64 (n))) ∧ Ev.look y.2.1.vars 15 = some (.v (.int .i64 (k))) := by
  have key := qjm (f := exec (evL T) itL none qfw) (s := Ev.qs [3, 4, 13, 14, 15, 20, 21, 22] false (τ0.length + 1)) (α := List AV × qx)
    (fun i a => ⟨[(3, .sl 0 0 0 n true), (4, (.v (.int .i64 (k)))), (13, (.fsl ((c.lps).map lpC) false)), (14, (.v (.int .i64 (n)))), (15, (.v (.int .i64 (k)))), (20, (.fsl ((l).map Start.r) false)), (21, (.v (.int .i64 (l.length)))), (22, (.v (.int .i64 (i))))], []⟩) (fun i a => .row 4 (R1 ++ a.1 :: R2) 0 :: a.2)
    (fun i a => Part τ0 a.2 i l a.1) l.length
    (fun y => ∃ (rk : List AV) (τ : qx), y.1 = .exit 2 ∧ y.2.1.marks = [] ∧ y.2.2 = .row 4 (R1 ++ rk :: R2) 0 :: τ ∧ Part τ0 τ l.length l rk ∧ Ev.look y.2.1.vars 3 = some (.sl 0 0 0 n true) ∧ Ev.look y.2.1.vars 13 = some (.fsl ((c.lps).map lpC) false) ∧ Ev.look y.2.1.vars 14 = some (.v (.int .i64 (n))) ∧ Ev.look y.2.1.vars 15 = some (.v (.int .i64 (k)))) ?_ ?_ 0 ([(.v (.int .i64 (0))), (.v (.int .i64 (0))), .fsl [] true, (.v (.int .i64 (0)))], τ0) (Nat.zero_le _) ⟨Nat.le_refl _, fun _ _ => rfl, .inl ⟨rfl, rfl⟩⟩
  · exact key
  · rintro i ⟨rk, τ⟩ hi ⟨h1, h2, h3⟩
    simp only at h1 h2 h3 ⊢
    obtain ⟨x, hx⟩ : ∃ x, l[i]? = some x := ⟨_, List.getElem?_eq_getElem hi⟩
    have hi' : (i : Int) < (l.length : Int) := by omega
    have hw : IntKind.i64.wrap ((i : Int) + 1) = ((i + 1 : Nat) : Int) := by rw [qat (by omega) (by omega)]; simp
    have rg : ∀ r : List AV, (R1 ++ r :: R2)[k]? = some r := fun r => by rw [hk]; simp
    have rs : ∀ r v : List AV, (R1 ++ r :: R2).set k v = R1 ++ v :: R2 := fun r v => by rw [hk]; simp []
    have rk' : k < n := by omega
    have tg : ∀ v : SObj, (τ ++ [v])[τ.length]? = some v := fun v => by simp
    have ts : ∀ v w : SObj, (τ ++ [v]).set τ.length w = τ ++ [w] := fun v w => by simp []
    obtain ⟨xp, xt⟩ := x
    rcases h3 with ⟨hi0, rfl⟩ | ⟨h3, o, g, h4, h5, rfl, h6⟩
    · refine .inl ⟨([(.v (.int .i64 (0))), (.v (.int .i64 (0))), .sl (τ.length + 1 + 1) 0 0 1 false, (.v (.int .i64 (0)))], τ ++ [.row 2 [[(.v (.int .i64 (xp))), (.v (.int .i64 (xt)))]] 0, .row 4 [(stP ⟨xp, xt⟩).r] 0]), ?_, ?_⟩
      · simp only [qfw, Int.natCast_nonneg, Int.toNat_natCast, List.getElem?_map, Option.map_some, hx, hi', hw, rg, rs, rk', tg, ts, List.append_assoc, List.map_nil, Start.r, stP, Pr.r, Ev.exec, Ev.qb, Ev.qe, Ev.qc, Ev.qaf, Ev.qvy, Ev.Opnd.ev, Ev.Env.get, Ev.Env.set, Ev.look, Ev.qi, Ev.qd5, Ev.qab, Ev.qff, Ev.qjo, Ev.AV.cells, Ev.AV.uc, Ev.qv, Ev.AV.plain, Ev.qaj, Ev.qo, Ev.qs, Ev.keep, Ev.qd8, Ev.qed, List.replicate_one, ↓Ev.qq, Ev.it1, ↓reduceIte, List.length_cons, List.length_nil, List.length_append, List.getElem?_cons_zero, List.getElem?_cons_succ, List.take_succ_cons, List.take_zero, List.take_nil, List.drop_succ_cons, List.drop_zero, List.drop_nil, List.cons_append, List.nil_append, List.append_nil, List.set_cons_zero, List.set_cons_succ, List.head?_cons, Nat.reduceAdd, Nat.reduceEqDiff, Nat.reduceMul, Nat.reduceLT, Nat.reduceLeDiff, Nat.reducePow, decide_true, Bool.and_self, Bool.false_eq_true, and_self, ne_eq, not_false_eq_true, not_true_eq_false, List.cons_ne_nil, Nat.zero_add, Nat.add_zero, Nat.lt_add_one, Nat.le_refl, eq_self]
      · refine ⟨by simp; omega, fun j hj => by rw [List.getElem?_append_left (by omega)]; exact h2 j hj, .inr ⟨by omega, τ.length + 1, 0, by omega, by simp, by rw [hi0], ?_⟩⟩
        rw [qer hx, hi0]
        simp
    · have og : ∀ v : SObj, (τ ++ [v])[o]? = some (.row 4 (((l.take i).map stP).map Pr.r) g) := fun v => by rw [List.getElem?_append_left h5]; exact h6
      have ln : (((l.take i).map stP).map Pr.r).length = i := by simp; omega
      have tk : List.take i (((l.take i).map stP).map Pr.r) = ((l.take i).map stP).map Pr.r := List.take_of_length_le (by simp; omega)
      have bd : (i + 1) * 48 ≤ 140737488355328 := by omega
      have il : i ≤ i := Nat.le_refl _
      have nx : ((l.take (i + 1)).map stP).map Pr.r = ((l.take i).map stP).map Pr.r ++ [(stP ⟨xp, xt⟩).r] := by rw [qer hx]; simp
      refine .inl ⟨([(.v (.int .i64 (0))), (.v (.int .i64 (0))), .sl (o + 1) (g + 1) 0 (i + 1) false, (.v (.int .i64 (0)))], (τ ++ [SObj.row 2 [[(.v (.int .i64 (xp))), (.v (.int .i64 (xt)))]] 0] : List SObj).set o (.row 4 (((l.take (i + 1)).map stP).map Pr.r) (g + 1))), ?_, ?_⟩
      · simp only
        rw [nx]
        generalize ((l.take i).map stP).map Pr.r = PR at og ln tk ⊢
        simp only [qfw, Int.natCast_nonneg, Int.toNat_natCast, List.getElem?_map, Option.map_some, hx, hi', hw, rg, rs, rk', tg, ts, og, ln, tk, bd, il, List.map_nil, Start.r, stP, Pr.r, Ev.exec, Ev.qb, Ev.qe, Ev.qc, Ev.qaf, Ev.qvy, Ev.Opnd.ev, Ev.Env.get, Ev.Env.set, Ev.look, Ev.qi, Ev.qd5, Ev.qab, Ev.qff, Ev.qjo, Ev.AV.cells, Ev.AV.uc, Ev.qv, Ev.AV.plain, Ev.qaj, Ev.qo, Ev.qs, Ev.keep, Ev.qd8, Ev.qed, List.replicate_one, ↓Ev.qq, Ev.it1, ↓reduceIte, List.length_cons, List.length_nil, List.getElem?_cons_zero, List.getElem?_cons_succ, List.take_succ_cons, List.take_zero, List.take_nil, List.drop_succ_cons, List.drop_zero, List.drop_nil, List.cons_append, List.nil_append, List.append_nil, List.set_cons_zero, List.set_cons_succ, List.head?_cons, Nat.reduceAdd, Nat.reduceEqDiff, Nat.reduceMul, Nat.reduceLeDiff, Nat.reducePow, decide_true, Bool.and_self, Bool.false_eq_true, and_self, ne_eq, not_false_eq_true, List.cons_ne_nil, Nat.zero_add, Nat.add_zero, Nat.lt_add_one, Nat.le_refl, eq_self]
      · refine ⟨by simp; omega, fun j hj => ?_, .inr ⟨by omega, o, g + 1, h4, by simp; omega, rfl, ?_⟩⟩
        · rw [List.getElem?_set_ne (by omega), List.getElem?_append_left (by omega)]; exact h2 j hj
        · rw [List.getElem?_set_self (by simp; omega)]
  · rintro ⟨rk, τ⟩ hP
    simp only at hP ⊢
    simp only [qfw, Int.lt_irrefl, Ev.exec, Ev.qb, Ev.qe, Ev.qc, Ev.qaf, Ev.Opnd.ev, Ev.Env.get, Ev.Env.set, Ev.look, Ev.qo, ↓Ev.qq, Ev.it1, ↓reduceIte, Nat.reduceEqDiff, decide_false, Bool.false_eq_true, eq_self]
    exact ⟨_, rfl, rk, τ, rfl, rfl, rfl, hP, rfl, rfl, rfl, rfl⟩
end
set_option maxRecDepth 10000
def qyg (lps : List (List Start)) : List (List Pr) := lps.map fun l => l.map stP
def qgm (lps : List (List Start)) : List (Lp × Bool) := (qyg lps).map q68
section
variable (c : Cfg)
theorem q2j (h : Small12 c) :
    ∃ y, itB (exec (evL T) itL none qg8) (Ev.qs [3, 13, 14, 15] false 1) ⟨[(3, .sl 0 0 0 c.lps.length true), (13, (.fsl ((c.lps).map lpC) false)), (14, (.v (.int .i64 (c.lps.length)))), (15, (.v (.int .i64 (0))))], []⟩ [.row 4 (List.replicate c.lps.length [(.v (.int .i64 (0))), (.v (.int .i64 (0))), .fsl [] true, (.v (.int .i64 (0)))]) 0] = some y ∧
      ∃ (R : List (List AV)) (τ : qx), y.1 = .exit 0 ∧ y.2.1.marks = [] ∧ y.2.2 = .row 4 R 0 :: τ ∧ qiw y.2.2 (τ.length + 1) R (qyg c.lps) ∧ Ev.look y.2.1.vars 3 = some (.sl 0 0 0 c.lps.length true) := by
  have key := qjm (f := exec (evL T) itL none qg8) (s := Ev.qs [3, 13, 14, 15] false 1) (α := List (List AV) × qx)
    (fun i a => ⟨[(3, .sl 0 0 0 c.lps.length true), (13, (.fsl ((c.lps).map lpC) false)), (14, (.v (.int .i64 (c.lps.length)))), (15, (.v (.int .i64 (i))))], []⟩) (fun i a => .row 4 (a.1 ++ List.replicate (c.lps.length - i) [(.v (.int .i64 (0))), (.v (.int .i64 (0))), .fsl [] true, (.v (.int .i64 (0)))]) 0 :: a.2)
    (fun i a => ∀ x : SObj, qiw (x :: a.2) (a.2.length + 1) a.1 (qyg (c.lps.take i))) c.lps.length
    (fun y => ∃ (R : List (List AV)) (τ : qx), y.1 = .exit 0 ∧ y.2.1.marks = [] ∧ y.2.2 = .row 4 R 0 :: τ ∧ qiw y.2.2 (τ.length + 1) R (qyg c.lps) ∧ Ev.look y.2.1.vars 3 = some (.sl 0 0 0 c.lps.length true)) ?_ ?_ 0 ([], []) (Nat.zero_le _) (fun _ => trivial)
  · exact key
  · rintro i ⟨R, τ⟩ hi hR
    simp only at hR ⊢
    obtain ⟨x, hx⟩ : ∃ x, c.lps[i]? = some x := ⟨_, List.getElem?_eq_getElem hi⟩
    have hlps := h.lps
    have hi' : (i : Int) < (c.lps.length : Int) := by omega
    have hw : IntKind.i64.wrap ((i : Int) + 1) = ((i + 1 : Nat) : Int) := by rw [qat (by omega) (by omega)]; simp
    have hRl : i = R.length := by rw [(hR .dead).len]; simp [qyg]; omega
    have hrep : List.replicate (c.lps.length - i) ([(.v (.int .i64 (0))), (.v (.int .i64 (0))), .fsl [] true, (.v (.int .i64 (0)))] : List AV) = ([(.v (.int .i64 (0))), (.v (.int .i64 (0))), .fsl [] true, (.v (.int .i64 (0)))] : List AV) :: List.replicate (c.lps.length - (i + 1)) ([(.v (.int .i64 (0))), (.v (.int .i64 (0))), .fsl [] true, (.v (.int .i64 (0)))] : List AV) := by
      rw [show c.lps.length - i = (c.lps.length - (i + 1)) + 1 by omega]; rfl
    obtain ⟨⟨y, e, σ⟩, k1, rk, τ', k2, k3, k4, k5, k6, k7, k8, k9⟩ := q22 c i c.lps.length x R (List.replicate (c.lps.length - (i + 1)) [(.v (.int .i64 (0))), (.v (.int .i64 (0))), .fsl [] true, (.v (.int .i64 (0)))]) hRl (by simp; omega) (h.lp _ (List.mem_of_getElem? hx)) τ
    simp only at k1 k2 k3 k4 k6 k7 k8 k9
    subst k2; subst k4
    refine .inl ⟨(R ++ [rk], τ'), ?_, fun z => ?_⟩
    · simp only [List.append_assoc, List.cons_append, List.nil_append]
      rw [hrep]
      generalize List.replicate (c.lps.length - (i + 1)) ([(.v (.int .i64 (0))), (.v (.int .i64 (0))), .fsl [] true, (.v (.int .i64 (0)))] : List AV) = RR at k1 ⊢
      simp only [qg8, Int.natCast_nonneg, Int.toNat_natCast, List.getElem?_map, Option.map_some, hx, hi', hw, k1, k3, k6, k7, k8, k9, lpC, Ev.exec, Ev.qb, Ev.qe, Ev.qc, Ev.qaf, Ev.Opnd.ev, Ev.Env.get, Ev.Env.set, Ev.look, Ev.qi, Ev.qab, Ev.qaj, Ev.qo, Ev.qs, Ev.keep, List.length_map, ↓Ev.qq, ↓Ev.qan, Ev.it1, ↓reduceIte, List.length_cons, List.length_nil, List.head?_cons, Nat.reduceEqDiff, decide_true, Bool.false_eq_true, Nat.zero_add, eq_self]
    · have : qyg (c.lps.take (i + 1)) = qyg (c.lps.take i) ++ [x.map stP] := by rw [qer hx]; simp [qyg]
      simp only
      rw [this]
      refine qiw.snoc (k5.rowOk z) ((hR z).mono (by have := k5.1; omega) (fun o h1 h2 => ?_))
      obtain ⟨o, rfl⟩ : ∃ p, o = p + 1 := ⟨o - 1, by omega⟩
      rw [List.getElem?_cons_succ, List.getElem?_cons_succ]
      exact k5.2.1 o (by omega)
  · rintro ⟨R, τ⟩ hR
    rw [List.take_length] at hR
    simp only at hR ⊢
    rw [Nat.sub_self, List.replicate_zero, List.append_nil]
    simp only [qg8, Int.lt_irrefl, Ev.exec, Ev.qb, Ev.qe, Ev.qc, Ev.qaf, Ev.Opnd.ev, Ev.Env.get, Ev.Env.set, Ev.look, Ev.qo, ↓Ev.qq, Ev.it1, ↓reduceIte, Nat.reduceEqDiff, decide_false, Bool.false_eq_true, eq_self]
    exact ⟨_, rfl, R, τ, rfl, rfl, rfl, hR _, rfl⟩
end
end Go.Proofs.Ythkjkdbjgpeigaa.K
