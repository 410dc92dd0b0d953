/- For every input the statement of this claim returns true: texts of its proof, joined (part 8). -/
import Derived.Test.YtbhhifdhlafklaaGreatGZO06
set_option linter.unusedSectionVars false
set_option linter.unusedSimpArgs false
set_option linter.unusedVariables false
namespace Go.Proofs.YtbhhifdhlafklaaGreat.K
open Go.Ev
set_option maxRecDepth 10000
section
variable (g : Nat) (cl : Bool) (n : Nat)
def qbi (a m b : Nat) (D D' : List Evt) : Prop := (evL T).call qat [.sl 0 g 0 n cl, (ii a), (ii m), (ii b), (.fn (.func qq) [] [])] [.row 6 ((D).map Evt.r) g] = some (.tup [], [.row 6 ((D').map Evt.r) g])
structure Nums (x1 x2 y1 y2 a m b mid nn lo hi p start fin : Nat) : Prop where
 hX1 : 1 < x1 + x2
 hY1 : 1 < y1 + y2
 hb : n < 2 ^ 61
 hmid : mid = (a + b) / 2
 hnn : nn = mid + m
 hp : nn = p + 1
 hfin : nn = start + fin
 hm : m = a + (x1 + x2)
 hbb : b = m + (y1 + y2)
 hbn : b ≤ n
 hst : start = a + x1
 hfi : fin = m + y1
structure Wraps (x1 x2 y1 y2 a m b mid nn p start fin : Nat) : Prop where
 w1 : IntKind.i64.wrap ((m : Int) - (a : Int)) = ((x1 + x2 : Nat) : Int)
 h1 : ¬ ((x1 + x2 : Nat) : Int) = 1
 w2 : IntKind.i64.wrap ((b : Int) - (m : Int)) = ((y1 + y2 : Nat) : Int)
 h2 : ¬ ((y1 + y2 : Nat) : Int) = 1
 w3 : IntKind.i64.wrap ((a : Int) + (b : Int)) = ((a + b : Nat) : Int)
 w4 : IntKind.u64.wrap ((a + b : Nat) : Int) = ((a + b : Nat) : Int)
 w5 : qmb .shr (.v (.int .u64 ((a + b : Nat) : Int))) (.v (.int .u64 1)) = some (.v (.int .u64 (mid : Int)))
 w6 : IntKind.i64.wrap (mid : Int) = (mid : Int)
 w7 : IntKind.i64.wrap ((mid : Int) + (m : Int)) = (nn : Int)
 w8 : IntKind.i64.wrap ((nn : Int) - 1) = (p : Int)
 w9 : IntKind.i64.wrap ((nn : Int) - (start : Int)) = (fin : Int)
 c5 : mid < fin ↔ start < m
 c6 : start < mid ↔ m < fin
theorem Nums.wraps {n x1 x2 y1 y2 a m b mid nn lo hi p start fin : Nat} (N : Nums n x1 x2 y1 y2 a m b mid nn lo hi p start fin) : Wraps x1 x2 y1 y2 a m b mid nn p start fin := by
 obtain ⟨hX1, hY1, hb, hmid, hnn, hp, hfin, hm, hbb, hbn, hst, hfi⟩ := N
 refine ⟨qfh hm (by omega), by omega, qfh hbb (by omega), by omega, qke (by omega), qra (by omega), quw (a + b) mid hmid, qrs (by omega), ?_, qqj hp (by omega), qfh hfin (by omega), by omega, by omega⟩
 rw [hnn]; exact qke (by omega)
def qk9 (a m b mid nn lo hi p start : Nat) (D : List Evt) : Prop := ∃ y, itB (exec (evL T) itL none qbk) (qr [0, 1, 2, 3, 4, 18, 19, 20, 21, 22] true 1) ⟨[(0, .sl 0 g 0 n cl), (1, (ii a)), (2, (ii m)), (3, (ii b)), (4, (.fn (.func qq) [] [])), (18, (ii mid)), (19, (ii nn)), (20, (ii lo)), (21, (ii hi)), (22, (ii p))], []⟩ [.row 6 ((D).map Evt.r) g] = some y ∧
   (y.1 = .exit 8 ∧ y.2.1.marks = [] ∧ y.2.2 = [.row 6 ((D).map Evt.r) g] ∧ Ev.look y.2.1.vars 0 = some (.sl 0 g 0 n cl) ∧ Ev.look y.2.1.vars 1 = some (ii a) ∧ Ev.look y.2.1.vars 2 = some (ii m) ∧ Ev.look y.2.1.vars 3 = some (ii b) ∧ Ev.look y.2.1.vars 4 = some (.fn (.func qq) [] []) ∧ Ev.look y.2.1.vars 18 = some (ii mid) ∧
    Ev.look y.2.1.vars 19 = some (ii nn) ∧ Ev.look y.2.1.vars 20 = some (ii start))
structure Steps (a m b mid start fin : Nat) (D D2 D3 D4 : List Evt) : Prop where
 s1 : start < m → m < fin → (evL T).call qbc [.sl 0 g 0 n cl, (ii start), (ii m), (ii fin), (.fn (.func qq) [] [])] [.row 6 ((D).map Evt.r) g] = some (.tup [], [.row 6 ((D2).map Evt.r) g])
 n1 : ¬ (start < m ∧ m < fin) → D2 = D
 s2 : a < start → start < mid → qbi g cl n a start mid D2 D3
 n2 : ¬ (a < start ∧ start < mid) → D3 = D2
 s3 : mid < fin → fin < b → qbi g cl n mid fin b D3 D4
 n3 : ¬ (mid < fin ∧ fin < b) → D4 = D3
theorem qy9 (x1 x2 y1 y2 a m b mid nn lo hi p start fin : Nat) (D D2 D3 D4 : List Evt) (N : Nums n x1 x2 y1 y2 a m b mid nn lo hi p start fin) (g1 : mid < m) (g2 : nn = b + lo)
  (d1 : start < m) (d2 : m < fin) (d3 : a < start) (d4 : fin < b)
  (hf : qk9 g cl n a m b mid nn lo mid p start D) (hS : Steps g cl n a m b mid start fin D D2 D3 D4) : qbi g cl n a m b D D4 := by
 obtain ⟨s1, n1, s2, n2, s3, n3⟩ := hS
 obtain ⟨⟨y, e, σ⟩, k1, k2, k3, k4, k5, k6, k7, k8, k9, k10, k11, k12⟩ := hf
 obtain ⟨w1, h1, w2, h2, w3, w4, w5, w6, w7, w8, w9, c5, c6⟩ := N.wraps
 simp only at k1 k2 k3 k4 k5 k6 k7 k8 k9 k10 k11 k12
 subst k2; subst k4
 unfold qbi at *
 rw [qx qi qf]
 have g4 : (m : Int) > (mid : Int) := Int.ofNat_lt.2 g1
 have g5 : IntKind.i64.wrap ((nn : Int) - (b : Int)) = (lo : Int) := qfh g2 (by have := N.hnn; have := N.hmid; have := N.hb; have := N.hbn; have := N.hm; have := N.hbb; omega)
 have e1 : (start : Int) < (m : Int) := Int.ofNat_lt.2 d1
 have e2 : (m : Int) < (fin : Int) := Int.ofNat_lt.2 d2
 have e3 : (a : Int) < (start : Int) := Int.ofNat_lt.2 d3
 have e5 : (mid : Int) < (fin : Int) := Int.ofNat_lt.2 (c5.2 d1)
 have e6 : (start : Int) < (mid : Int) := Int.ofNat_lt.2 (c6.2 d2)
 have e4 : (fin : Int) < (b : Int) := Int.ofNat_lt.2 d4
 have r1 := s1 d1 d2
 have r2 := s2 d3 (c6.2 d2)
 have r3 := s3 (c5.2 d1) d4
 simp only [qg, w1, w2, w3, w4, w5, w6, w7, w8, w9, h1, h2, g4, k1, k3, k5, k6, k7, k8, k9, k10, k11, k12, e1, e2, e3, e5, e6, g5, r1, r2, r3, e4, qv, qn, Ev.exec, qb, qe, qc, qd3, qai, Ev.evs, Ev.Opnd.ev, Ev.Env.get, Ev.Env.set, Ev.look, qo, qaf, qb8, qam, ql, qas, qm, qaj, Ev.kill, qah, qr, Ev.keep, qad, qw, qd, Ev.SObj.lo, qa1, qba, qbn, qe3, qj, ↓qs, ↓qaq, ↓reduceIte, zga, zgb, zgc, zfe, Nat.reduceAdd, Nat.reduceEqDiff, reduceCtorEq, zgv, zgw, zfc, zfa, zgx, zfd, zgu, zgy]
theorem q0o (x1 x2 y1 y2 a m b mid nn lo hi p start fin : Nat) (D D2 D3 D4 : List Evt) (N : Nums n x1 x2 y1 y2 a m b mid nn lo hi p start fin) (g1 : mid < m) (g2 : nn = b + lo)
  (d1 : start < m) (d2 : m < fin) (d3 : a < start) (d4 : ¬ fin < b)
  (hf : qk9 g cl n a m b mid nn lo mid p start D) (hS : Steps g cl n a m b mid start fin D D2 D3 D4) : qbi g cl n a m b D D4 := by
 obtain ⟨s1, n1, s2, n2, s3, n3⟩ := hS
 obtain ⟨⟨y, e, σ⟩, k1, k2, k3, k4, k5, k6, k7, k8, k9, k10, k11, k12⟩ := hf
 obtain ⟨w1, h1, w2, h2, w3, w4, w5, w6, w7, w8, w9, c5, c6⟩ := N.wraps
 simp only at k1 k2 k3 k4 k5 k6 k7 k8 k9 k10 k11 k12
 subst k2; subst k4
 unfold qbi at *
 rw [qx qi qf]
 have g4 : (m : Int) > (mid : Int) := Int.ofNat_lt.2 g1
 have g5 : IntKind.i64.wrap ((nn : Int) - (b : Int)) = (lo : Int) := qfh g2 (by have := N.hnn; have := N.hmid; have := N.hb; have := N.hbn; have := N.hm; have := N.hbb; omega)
 have e1 : (start : Int) < (m : Int) := Int.ofNat_lt.2 d1
 have e2 : (m : Int) < (fin : Int) := Int.ofNat_lt.2 d2
 have e3 : (a : Int) < (start : Int) := Int.ofNat_lt.2 d3
 have e5 : (mid : Int) < (fin : Int) := Int.ofNat_lt.2 (c5.2 d1)
 have e6 : (start : Int) < (mid : Int) := Int.ofNat_lt.2 (c6.2 d2)
 have e4 : ¬ (fin : Int) < (b : Int) := fun h => d4 (Int.ofNat_lt.1 h)
 have r1 := s1 d1 d2
 have r2 := s2 d3 (c6.2 d2)
 have r3 := n3 (fun h => d4 h.2); subst r3
 simp only [qg, w1, w2, w3, w4, w5, w6, w7, w8, w9, h1, h2, g4, k1, k3, k5, k6, k7, k8, k9, k10, k11, k12, e1, e2, e3, e5, e6, g5, r1, r2, e4, qv, qn, Ev.exec, qb, qe, qc, qd3, qai, Ev.evs, Ev.Opnd.ev, Ev.Env.get, Ev.Env.set, Ev.look, qo, qaf, qb8, qam, ql, qas, qm, qaj, Ev.kill, qah, qr, Ev.keep, qad, qw, qd, Ev.SObj.lo, qa1, qba, qbn, qe3, qj, ↓qs, ↓qaq, ↓reduceIte, zga, zgb, zgc, zfe, Nat.reduceAdd, Nat.reduceEqDiff, reduceCtorEq, zgv, zgw, zfc, zfa, zgx, zfd, zgu, zgy]
theorem qzv (x1 x2 y1 y2 a m b mid nn lo hi p start fin : Nat) (D D2 D3 D4 : List Evt) (N : Nums n x1 x2 y1 y2 a m b mid nn lo hi p start fin) (g1 : mid < m) (g2 : nn = b + lo)
  (d1 : start < m) (d2 : m < fin) (d3 : ¬ a < start) (d4 : fin < b)
  (hf : qk9 g cl n a m b mid nn lo mid p start D) (hS : Steps g cl n a m b mid start fin D D2 D3 D4) : qbi g cl n a m b D D4 := by
 obtain ⟨s1, n1, s2, n2, s3, n3⟩ := hS
 obtain ⟨⟨y, e, σ⟩, k1, k2, k3, k4, k5, k6, k7, k8, k9, k10, k11, k12⟩ := hf
 obtain ⟨w1, h1, w2, h2, w3, w4, w5, w6, w7, w8, w9, c5, c6⟩ := N.wraps
 simp only at k1 k2 k3 k4 k5 k6 k7 k8 k9 k10 k11 k12
 subst k2; subst k4
 unfold qbi at *
 rw [qx qi qf]
 have g4 : (m : Int) > (mid : Int) := Int.ofNat_lt.2 g1
 have g5 : IntKind.i64.wrap ((nn : Int) - (b : Int)) = (lo : Int) := qfh g2 (by have := N.hnn; have := N.hmid; have := N.hb; have := N.hbn; have := N.hm; have := N.hbb; omega)
 have e1 : (start : Int) < (m : Int) := Int.ofNat_lt.2 d1
 have e2 : (m : Int) < (fin : Int) := Int.ofNat_lt.2 d2
 have e3 : ¬ (a : Int) < (start : Int) := fun h => d3 (Int.ofNat_lt.1 h)
 have e5 : (mid : Int) < (fin : Int) := Int.ofNat_lt.2 (c5.2 d1)
 have e6 : (start : Int) < (mid : Int) := Int.ofNat_lt.2 (c6.2 d2)
 have e4 : (fin : Int) < (b : Int) := Int.ofNat_lt.2 d4
 have r1 := s1 d1 d2
 have r2 := n2 (fun h => d3 h.1); subst r2
 have r3 := s3 (c5.2 d1) d4
 simp only [qg, w1, w2, w3, w4, w5, w6, w7, w8, w9, h1, h2, g4, k1, k3, k5, k6, k7, k8, k9, k10, k11, k12, e1, e2, e3, e5, g5, r1, r3, e4, qv, qn, Ev.exec, qb, qe, qc, qd3, qai, Ev.evs, Ev.Opnd.ev, Ev.Env.get, Ev.Env.set, Ev.Env.unset, Ev.look, qo, qaf, qb8, qam, ql, qas, qm, qaj, Ev.kill, qah, qr, Ev.keep, qad, qw, qd, Ev.SObj.lo, qa1, qba, qbn, qe3, qj, ↓qs, ↓qaq, ↓reduceIte, zga, zgb, zgc, zfe, Nat.reduceAdd, Nat.reduceEqDiff, reduceCtorEq, zgv, zgw, zfc, zfa, zgx, zfd, zgu, zgy]
theorem qz7 (x1 x2 y1 y2 a m b mid nn lo hi p start fin : Nat) (D D2 D3 D4 : List Evt) (N : Nums n x1 x2 y1 y2 a m b mid nn lo hi p start fin) (g1 : mid < m) (g2 : nn = b + lo)
  (d1 : start < m) (d2 : m < fin) (d3 : ¬ a < start) (d4 : ¬ fin < b)
  (hf : qk9 g cl n a m b mid nn lo mid p start D) (hS : Steps g cl n a m b mid start fin D D2 D3 D4) : qbi g cl n a m b D D4 := by
 obtain ⟨s1, n1, s2, n2, s3, n3⟩ := hS
 obtain ⟨⟨y, e, σ⟩, k1, k2, k3, k4, k5, k6, k7, k8, k9, k10, k11, k12⟩ := hf
 obtain ⟨w1, h1, w2, h2, w3, w4, w5, w6, w7, w8, w9, c5, c6⟩ := N.wraps
 simp only at k1 k2 k3 k4 k5 k6 k7 k8 k9 k10 k11 k12
 subst k2; subst k4
 unfold qbi at *
 rw [qx qi qf]
 have g4 : (m : Int) > (mid : Int) := Int.ofNat_lt.2 g1
 have g5 : IntKind.i64.wrap ((nn : Int) - (b : Int)) = (lo : Int) := qfh g2 (by have := N.hnn; have := N.hmid; have := N.hb; have := N.hbn; have := N.hm; have := N.hbb; omega)
 have e1 : (start : Int) < (m : Int) := Int.ofNat_lt.2 d1
 have e2 : (m : Int) < (fin : Int) := Int.ofNat_lt.2 d2
 have e3 : ¬ (a : Int) < (start : Int) := fun h => d3 (Int.ofNat_lt.1 h)
 have e5 : (mid : Int) < (fin : Int) := Int.ofNat_lt.2 (c5.2 d1)
 have e6 : (start : Int) < (mid : Int) := Int.ofNat_lt.2 (c6.2 d2)
 have e4 : ¬ (fin : Int) < (b : Int) := fun h => d4 (Int.ofNat_lt.1 h)
 have r1 := s1 d1 d2
 have r2 := n2 (fun h => d3 h.1); subst r2
 have r3 := n3 (fun h => d4 h.2); subst r3
 simp only [qg, w1, w2, w3, w4, w5, w6, w7, w8, w9, h1, h2, g4, k1, k3, k5, k6, k7, k8, k9, k10, k11, k12, e1, e2, e3, e5, g5, r1, e4, qv, qn, Ev.exec, qb, qe, qc, qd3, qai, Ev.evs, Ev.Opnd.ev, Ev.Env.get, Ev.Env.set, Ev.Env.unset, Ev.look, qo, qaf, qb8, qam, ql, qas, qm, qaj, Ev.kill, qah, qr, Ev.keep, qad, qw, qd, Ev.SObj.lo, qa1, qba, qbn, qe3, qj, ↓qs, ↓qaq, ↓reduceIte, zga, zgb, zgc, zfe, Nat.reduceAdd, Nat.reduceEqDiff, reduceCtorEq, zgv, zgw, zfc, zfa, zgx, zfd, zgu, zgy]
theorem qzc (x1 x2 y1 y2 a m b mid nn lo hi p start fin : Nat) (D D2 D3 D4 : List Evt) (N : Nums n x1 x2 y1 y2 a m b mid nn lo hi p start fin) (g1 : mid < m) (g2 : nn = b + lo)
  (d1 : start < m) (d2 : ¬ m < fin) (d3 : a < start) (d4 : fin < b)
  (hf : qk9 g cl n a m b mid nn lo mid p start D) (hS : Steps g cl n a m b mid start fin D D2 D3 D4) : qbi g cl n a m b D D4 := by
 obtain ⟨s1, n1, s2, n2, s3, n3⟩ := hS
 obtain ⟨⟨y, e, σ⟩, k1, k2, k3, k4, k5, k6, k7, k8, k9, k10, k11, k12⟩ := hf
 obtain ⟨w1, h1, w2, h2, w3, w4, w5, w6, w7, w8, w9, c5, c6⟩ := N.wraps
 simp only at k1 k2 k3 k4 k5 k6 k7 k8 k9 k10 k11 k12
 subst k2; subst k4
 unfold qbi at *
 rw [qx qi qf]
 have g4 : (m : Int) > (mid : Int) := Int.ofNat_lt.2 g1
 have g5 : IntKind.i64.wrap ((nn : Int) - (b : Int)) = (lo : Int) := qfh g2 (by have := N.hnn; have := N.hmid; have := N.hb; have := N.hbn; have := N.hm; have := N.hbb; omega)
 have e1 : (start : Int) < (m : Int) := Int.ofNat_lt.2 d1
 have e2 : ¬ (m : Int) < (fin : Int) := fun h => d2 (Int.ofNat_lt.1 h)
 have e3 : (a : Int) < (start : Int) := Int.ofNat_lt.2 d3
 have e5 : (mid : Int) < (fin : Int) := Int.ofNat_lt.2 (c5.2 d1)
 have e6 : ¬ (start : Int) < (mid : Int) := fun h => d2 (c6.1 (Int.ofNat_lt.1 h))
 have e4 : (fin : Int) < (b : Int) := Int.ofNat_lt.2 d4
 have r1 := n1 (fun h => d2 h.2); subst r1
 have r2 := n2 (fun h => d2 (c6.1 h.2)); subst r2
 have r3 := s3 (c5.2 d1) d4
 simp only [qg, w1, w2, w3, w4, w5, w6, w7, w8, w9, h1, h2, g4, k1, k3, k5, k6, k7, k8, k9, k10, k11, k12, e1, e2, e3, e5, e6, g5, r3, e4, qv, qn, Ev.exec, qb, qe, qc, qd3, qai, Ev.evs, Ev.Opnd.ev, Ev.Env.get, Ev.Env.set, Ev.look, qo, qaf, qb8, qam, ql, qas, qm, qaj, Ev.kill, qah, qr, Ev.keep, qad, qw, qd, Ev.SObj.lo, qa1, qba, qbn, qe3, qj, ↓qs, ↓qaq, ↓reduceIte, zga, zgb, zgc, zfe, Nat.reduceAdd, Nat.reduceEqDiff, reduceCtorEq, zgv, zgw, zfc, zfa, zgx, zfd, zgu, zgy]
theorem qyb (x1 x2 y1 y2 a m b mid nn lo hi p start fin : Nat) (D D2 D3 D4 : List Evt) (N : Nums n x1 x2 y1 y2 a m b mid nn lo hi p start fin) (g1 : mid < m) (g2 : nn = b + lo)
  (d1 : start < m) (d2 : ¬ m < fin) (d3 : a < start) (d4 : ¬ fin < b)
  (hf : qk9 g cl n a m b mid nn lo mid p start D) (hS : Steps g cl n a m b mid start fin D D2 D3 D4) : qbi g cl n a m b D D4 := by
 obtain ⟨s1, n1, s2, n2, s3, n3⟩ := hS
 obtain ⟨⟨y, e, σ⟩, k1, k2, k3, k4, k5, k6, k7, k8, k9, k10, k11, k12⟩ := hf
 obtain ⟨w1, h1, w2, h2, w3, w4, w5, w6, w7, w8, w9, c5, c6⟩ := N.wraps
 simp only at k1 k2 k3 k4 k5 k6 k7 k8 k9 k10 k11 k12
 subst k2; subst k4
 unfold qbi at *
 rw [qx qi qf]
 have g4 : (m : Int) > (mid : Int) := Int.ofNat_lt.2 g1
 have g5 : IntKind.i64.wrap ((nn : Int) - (b : Int)) = (lo : Int) := qfh g2 (by have := N.hnn; have := N.hmid; have := N.hb; have := N.hbn; have := N.hm; have := N.hbb; omega)
 have e1 : (start : Int) < (m : Int) := Int.ofNat_lt.2 d1
 have e2 : ¬ (m : Int) < (fin : Int) := fun h => d2 (Int.ofNat_lt.1 h)
 have e3 : (a : Int) < (start : Int) := Int.ofNat_lt.2 d3
 have e5 : (mid : Int) < (fin : Int) := Int.ofNat_lt.2 (c5.2 d1)
 have e6 : ¬ (start : Int) < (mid : Int) := fun h => d2 (c6.1 (Int.ofNat_lt.1 h))
 have e4 : ¬ (fin : Int) < (b : Int) := fun h => d4 (Int.ofNat_lt.1 h)
 have r1 := n1 (fun h => d2 h.2); subst r1
 have r2 := n2 (fun h => d2 (c6.1 h.2)); subst r2
 have r3 := n3 (fun h => d4 h.2); subst r3
 simp only [qg, w1, w2, w3, w4, w5, w6, w7, w8, w9, h1, h2, g4, k1, k3, k6, k7, k8, k10, k11, k12, e1, e2, e3, e5, e6, g5, e4, qv, qn, Ev.exec, qb, qe, qc, qai, Ev.Opnd.ev, Ev.Env.get, Ev.Env.set, Ev.look, qo, qaf, qb8, qam, ql, qas, qm, qaj, Ev.kill, qah, qr, Ev.keep, qad, qw, qd, Ev.SObj.lo, qa1, qba, qbn, qe3, qj, ↓qs, ↓qaq, ↓reduceIte, zga, zgb, zgc, zfe, Nat.reduceAdd, Nat.reduceEqDiff, reduceCtorEq, zgv, zgw, zfc, zfa, zgx, zfd, zgu, zgy]
theorem qzi (x1 x2 y1 y2 a m b mid nn lo hi p start fin : Nat) (D D2 D3 D4 : List Evt) (N : Nums n x1 x2 y1 y2 a m b mid nn lo hi p start fin) (g1 : mid < m) (g2 : nn = b + lo)
  (d1 : start < m) (d2 : ¬ m < fin) (d3 : ¬ a < start) (d4 : fin < b)
  (hf : qk9 g cl n a m b mid nn lo mid p start D) (hS : Steps g cl n a m b mid start fin D D2 D3 D4) : qbi g cl n a m b D D4 := by
 obtain ⟨s1, n1, s2, n2, s3, n3⟩ := hS
 obtain ⟨⟨y, e, σ⟩, k1, k2, k3, k4, k5, k6, k7, k8, k9, k10, k11, k12⟩ := hf
 obtain ⟨w1, h1, w2, h2, w3, w4, w5, w6, w7, w8, w9, c5, c6⟩ := N.wraps
 simp only at k1 k2 k3 k4 k5 k6 k7 k8 k9 k10 k11 k12
 subst k2; subst k4
 unfold qbi at *
 rw [qx qi qf]
 have g4 : (m : Int) > (mid : Int) := Int.ofNat_lt.2 g1
 have g5 : IntKind.i64.wrap ((nn : Int) - (b : Int)) = (lo : Int) := qfh g2 (by have := N.hnn; have := N.hmid; have := N.hb; have := N.hbn; have := N.hm; have := N.hbb; omega)
 have e1 : (start : Int) < (m : Int) := Int.ofNat_lt.2 d1
 have e2 : ¬ (m : Int) < (fin : Int) := fun h => d2 (Int.ofNat_lt.1 h)
 have e3 : ¬ (a : Int) < (start : Int) := fun h => d3 (Int.ofNat_lt.1 h)
 have e5 : (mid : Int) < (fin : Int) := Int.ofNat_lt.2 (c5.2 d1)
 have e6 : ¬ (start : Int) < (mid : Int) := fun h => d2 (c6.1 (Int.ofNat_lt.1 h))
 have e4 : (fin : Int) < (b : Int) := Int.ofNat_lt.2 d4
 have r1 := n1 (fun h => d2 h.2); subst r1
 have r2 := n2 (fun h => d3 h.1); subst r2
 have r3 := s3 (c5.2 d1) d4
 simp only [qg, w1, w2, w3, w4, w5, w6, w7, w8, w9, h1, h2, g4, k1, k3, k5, k6, k7, k8, k9, k10, k11, k12, e1, e2, e3, e5, g5, r3, e4, qv, qn, Ev.exec, qb, qe, qc, qd3, qai, Ev.evs, Ev.Opnd.ev, Ev.Env.get, Ev.Env.set, Ev.Env.unset, Ev.look, qo, qaf, qb8, qam, ql, qas, qm, qaj, Ev.kill, qah, qr, Ev.keep, qad, qw, qd, Ev.SObj.lo, qa1, qba, qbn, qe3, qj, ↓qs, ↓qaq, ↓reduceIte, zga, zgb, zgc, zfe, Nat.reduceAdd, Nat.reduceEqDiff, reduceCtorEq, zgv, zgw, zfc, zfa, zgx, zfd, zgu, zgy]
theorem q0u (x1 x2 y1 y2 a m b mid nn lo hi p start fin : Nat) (D D2 D3 D4 : List Evt) (N : Nums n x1 x2 y1 y2 a m b mid nn lo hi p start fin) (g1 : mid < m) (g2 : nn = b + lo)
  (d1 : start < m) (d2 : ¬ m < fin) (d3 : ¬ a < start) (d4 : ¬ fin < b)
  (hf : qk9 g cl n a m b mid nn lo mid p start D) (hS : Steps g cl n a m b mid start fin D D2 D3 D4) : qbi g cl n a m b D D4 := by
 obtain ⟨s1, n1, s2, n2, s3, n3⟩ := hS
 obtain ⟨⟨y, e, σ⟩, k1, k2, k3, k4, k5, k6, k7, k8, k9, k10, k11, k12⟩ := hf
 obtain ⟨w1, h1, w2, h2, w3, w4, w5, w6, w7, w8, w9, c5, c6⟩ := N.wraps
 simp only at k1 k2 k3 k4 k5 k6 k7 k8 k9 k10 k11 k12
 subst k2; subst k4
 unfold qbi at *
 rw [qx qi qf]
 have g4 : (m : Int) > (mid : Int) := Int.ofNat_lt.2 g1
 have g5 : IntKind.i64.wrap ((nn : Int) - (b : Int)) = (lo : Int) := qfh g2 (by have := N.hnn; have := N.hmid; have := N.hb; have := N.hbn; have := N.hm; have := N.hbb; omega)
 have e1 : (start : Int) < (m : Int) := Int.ofNat_lt.2 d1
 have e2 : ¬ (m : Int) < (fin : Int) := fun h => d2 (Int.ofNat_lt.1 h)
 have e3 : ¬ (a : Int) < (start : Int) := fun h => d3 (Int.ofNat_lt.1 h)
 have e5 : (mid : Int) < (fin : Int) := Int.ofNat_lt.2 (c5.2 d1)
 have e6 : ¬ (start : Int) < (mid : Int) := fun h => d2 (c6.1 (Int.ofNat_lt.1 h))
 have e4 : ¬ (fin : Int) < (b : Int) := fun h => d4 (Int.ofNat_lt.1 h)
 have r1 := n1 (fun h => d2 h.2); subst r1
 have r2 := n2 (fun h => d3 h.1); subst r2
 have r3 := n3 (fun h => d4 h.2); subst r3
 simp only [qg, w1, w2, w3, w4, w5, w6, w7, w8, w9, h1, h2, g4, k1, k3, k6, k7, k8, k10, k11, k12, e1, e2, e3, e5, g5, e4, qv, qn, Ev.exec, qb, qe, qc, qai, Ev.Opnd.ev, Ev.Env.get, Ev.Env.set, Ev.Env.unset, Ev.look, qo, qaf, qb8, qam, ql, qas, qm, qaj, Ev.kill, qah, qr, Ev.keep, qad, qw, qd, Ev.SObj.lo, qa1, qba, qbn, qe3, qj, ↓qs, ↓qaq, ↓reduceIte, zga, zgb, zgc, zfe, Nat.reduceAdd, Nat.reduceEqDiff, reduceCtorEq, zgv, zgw, zfc, zfa, zgx, zfd, zgu, zgy]
theorem qzd (x1 x2 y1 y2 a m b mid nn lo hi p start fin : Nat) (D D2 D3 D4 : List Evt) (N : Nums n x1 x2 y1 y2 a m b mid nn lo hi p start fin) (g1 : mid < m) (g2 : nn = b + lo)
  (d1 : ¬ start < m) (d2 : m < fin) (d3 : a < start) (d4 : fin < b)
  (hf : qk9 g cl n a m b mid nn lo mid p start D) (hS : Steps g cl n a m b mid start fin D D2 D3 D4) : qbi g cl n a m b D D4 := by
 obtain ⟨s1, n1, s2, n2, s3, n3⟩ := hS
 obtain ⟨⟨y, e, σ⟩, k1, k2, k3, k4, k5, k6, k7, k8, k9, k10, k11, k12⟩ := hf
 obtain ⟨w1, h1, w2, h2, w3, w4, w5, w6, w7, w8, w9, c5, c6⟩ := N.wraps
 simp only at k1 k2 k3 k4 k5 k6 k7 k8 k9 k10 k11 k12
 subst k2; subst k4
 unfold qbi at *
 rw [qx qi qf]
 have g4 : (m : Int) > (mid : Int) := Int.ofNat_lt.2 g1
 have g5 : IntKind.i64.wrap ((nn : Int) - (b : Int)) = (lo : Int) := qfh g2 (by have := N.hnn; have := N.hmid; have := N.hb; have := N.hbn; have := N.hm; have := N.hbb; omega)
 have e1 : ¬ (start : Int) < (m : Int) := fun h => d1 (Int.ofNat_lt.1 h)
 have e2 : (m : Int) < (fin : Int) := Int.ofNat_lt.2 d2
 have e3 : (a : Int) < (start : Int) := Int.ofNat_lt.2 d3
 have e5 : ¬ (mid : Int) < (fin : Int) := fun h => d1 (c5.1 (Int.ofNat_lt.1 h))
 have e6 : (start : Int) < (mid : Int) := Int.ofNat_lt.2 (c6.2 d2)
 have e4 : (fin : Int) < (b : Int) := Int.ofNat_lt.2 d4
 have r1 := n1 (fun h => d1 h.1); subst r1
 have r2 := s2 d3 (c6.2 d2)
 have r3 := n3 (fun h => d1 (c5.1 h.1)); subst r3
 simp only [qg, w1, w2, w3, w4, w5, w6, w7, w8, w9, h1, h2, g4, k1, k3, k5, k6, k7, k9, k10, k11, k12, e1, e3, e5, e6, g5, r2, qv, qn, Ev.exec, qb, qe, qc, qd3, qai, Ev.evs, Ev.Opnd.ev, Ev.Env.get, Ev.Env.set, Ev.Env.unset, Ev.look, qo, qaf, qb8, qam, ql, qas, qm, qaj, Ev.kill, qah, qr, Ev.keep, qad, qw, qd, Ev.SObj.lo, qa1, qba, qbn, qe3, qj, ↓qs, ↓qaq, ↓reduceIte, zga, zgb, zgc, zfe, Nat.reduceAdd, Nat.reduceEqDiff, reduceCtorEq, zgv, zgw, zfc, zfa, zgx, zfd, zgu, zgy]
theorem qy5 (x1 x2 y1 y2 a m b mid nn lo hi p start fin : Nat) (D D2 D3 D4 : List Evt) (N : Nums n x1 x2 y1 y2 a m b mid nn lo hi p start fin) (g1 : mid < m) (g2 : nn = b + lo)
  (d1 : ¬ start < m) (d2 : m < fin) (d3 : a < start) (d4 : ¬ fin < b)
  (hf : qk9 g cl n a m b mid nn lo mid p start D) (hS : Steps g cl n a m b mid start fin D D2 D3 D4) : qbi g cl n a m b D D4 := by
 obtain ⟨s1, n1, s2, n2, s3, n3⟩ := hS
 obtain ⟨⟨y, e, σ⟩, k1, k2, k3, k4, k5, k6, k7, k8, k9, k10, k11, k12⟩ := hf
 obtain ⟨w1, h1, w2, h2, w3, w4, w5, w6, w7, w8, w9, c5, c6⟩ := N.wraps
 simp only at k1 k2 k3 k4 k5 k6 k7 k8 k9 k10 k11 k12
 subst k2; subst k4
 unfold qbi at *
 rw [qx qi qf]
 have g4 : (m : Int) > (mid : Int) := Int.ofNat_lt.2 g1
 have g5 : IntKind.i64.wrap ((nn : Int) - (b : Int)) = (lo : Int) := qfh g2 (by have := N.hnn; have := N.hmid; have := N.hb; have := N.hbn; have := N.hm; have := N.hbb; omega)
 have e1 : ¬ (start : Int) < (m : Int) := fun h => d1 (Int.ofNat_lt.1 h)
 have e2 : (m : Int) < (fin : Int) := Int.ofNat_lt.2 d2
 have e3 : (a : Int) < (start : Int) := Int.ofNat_lt.2 d3
 have e5 : ¬ (mid : Int) < (fin : Int) := fun h => d1 (c5.1 (Int.ofNat_lt.1 h))
 have e6 : (start : Int) < (mid : Int) := Int.ofNat_lt.2 (c6.2 d2)
 have e4 : ¬ (fin : Int) < (b : Int) := fun h => d4 (Int.ofNat_lt.1 h)
 have r1 := n1 (fun h => d1 h.1); subst r1
 have r2 := s2 d3 (c6.2 d2)
 have r3 := n3 (fun h => d1 (c5.1 h.1)); subst r3
 simp only [qg, w1, w2, w3, w4, w5, w6, w7, w8, w9, h1, h2, g4, k1, k3, k5, k6, k7, k9, k10, k11, k12, e1, e3, e5, e6, g5, r2, qv, qn, Ev.exec, qb, qe, qc, qd3, qai, Ev.evs, Ev.Opnd.ev, Ev.Env.get, Ev.Env.set, Ev.Env.unset, Ev.look, qo, qaf, qb8, qam, ql, qas, qm, qaj, Ev.kill, qah, qr, Ev.keep, qad, qw, qd, Ev.SObj.lo, qa1, qba, qbn, qe3, qj, ↓qs, ↓qaq, ↓reduceIte, zga, zgb, zgc, zfe, Nat.reduceAdd, Nat.reduceEqDiff, reduceCtorEq, zgv, zgw, zfc, zfa, zgx, zfd, zgu, zgy]
theorem qz8 (x1 x2 y1 y2 a m b mid nn lo hi p start fin : Nat) (D D2 D3 D4 : List Evt) (N : Nums n x1 x2 y1 y2 a m b mid nn lo hi p start fin) (g1 : mid < m) (g2 : nn = b + lo)
  (d1 : ¬ start < m) (d2 : m < fin) (d3 : ¬ a < start) (d4 : fin < b)
  (hf : qk9 g cl n a m b mid nn lo mid p start D) (hS : Steps g cl n a m b mid start fin D D2 D3 D4) : qbi g cl n a m b D D4 := by
 obtain ⟨s1, n1, s2, n2, s3, n3⟩ := hS
 obtain ⟨⟨y, e, σ⟩, k1, k2, k3, k4, k5, k6, k7, k8, k9, k10, k11, k12⟩ := hf
 obtain ⟨w1, h1, w2, h2, w3, w4, w5, w6, w7, w8, w9, c5, c6⟩ := N.wraps
 simp only at k1 k2 k3 k4 k5 k6 k7 k8 k9 k10 k11 k12
 subst k2; subst k4
 unfold qbi at *
 rw [qx qi qf]
 have g4 : (m : Int) > (mid : Int) := Int.ofNat_lt.2 g1
 have g5 : IntKind.i64.wrap ((nn : Int) - (b : Int)) = (lo : Int) := qfh g2 (by have := N.hnn; have := N.hmid; have := N.hb; have := N.hbn; have := N.hm; have := N.hbb; omega)
 have e1 : ¬ (start : Int) < (m : Int) := fun h => d1 (Int.ofNat_lt.1 h)
 have e2 : (m : Int) < (fin : Int) := Int.ofNat_lt.2 d2
 have e3 : ¬ (a : Int) < (start : Int) := fun h => d3 (Int.ofNat_lt.1 h)
 have e5 : ¬ (mid : Int) < (fin : Int) := fun h => d1 (c5.1 (Int.ofNat_lt.1 h))
 have e6 : (start : Int) < (mid : Int) := Int.ofNat_lt.2 (c6.2 d2)
 have e4 : (fin : Int) < (b : Int) := Int.ofNat_lt.2 d4
 have r1 := n1 (fun h => d1 h.1); subst r1
 have r2 := n2 (fun h => d3 h.1); subst r2
 have r3 := n3 (fun h => d1 (c5.1 h.1)); subst r3
 simp only [qg, w1, w2, w3, w4, w5, w6, w7, w8, w9, h1, h2, g4, k1, k3, k6, k7, k10, k11, k12, e1, e3, e5, g5, qv, qn, Ev.exec, qb, qe, qc, qai, Ev.Opnd.ev, Ev.Env.get, Ev.Env.set, Ev.Env.unset, Ev.look, qo, qaf, qb8, qam, ql, qas, qm, qaj, Ev.kill, qah, qr, Ev.keep, qad, qw, qd, Ev.SObj.lo, qa1, qba, qbn, qe3, qj, ↓qs, ↓qaq, ↓reduceIte, zga, zgb, zgc, zfe, Nat.reduceAdd, Nat.reduceEqDiff, reduceCtorEq, zgv, zgw, zfc, zfa, zgx, zfd, zgu, zgy]
theorem qzs (x1 x2 y1 y2 a m b mid nn lo hi p start fin : Nat) (D D2 D3 D4 : List Evt) (N : Nums n x1 x2 y1 y2 a m b mid nn lo hi p start fin) (g1 : mid < m) (g2 : nn = b + lo)
  (d1 : ¬ start < m) (d2 : m < fin) (d3 : ¬ a < start) (d4 : ¬ fin < b)
  (hf : qk9 g cl n a m b mid nn lo mid p start D) (hS : Steps g cl n a m b mid start fin D D2 D3 D4) : qbi g cl n a m b D D4 := by
 obtain ⟨s1, n1, s2, n2, s3, n3⟩ := hS
 obtain ⟨⟨y, e, σ⟩, k1, k2, k3, k4, k5, k6, k7, k8, k9, k10, k11, k12⟩ := hf
 obtain ⟨w1, h1, w2, h2, w3, w4, w5, w6, w7, w8, w9, c5, c6⟩ := N.wraps
 simp only at k1 k2 k3 k4 k5 k6 k7 k8 k9 k10 k11 k12
 subst k2; subst k4
 unfold qbi at *
 rw [qx qi qf]
 have g4 : (m : Int) > (mid : Int) := Int.ofNat_lt.2 g1
 have g5 : IntKind.i64.wrap ((nn : Int) - (b : Int)) = (lo : Int) := qfh g2 (by have := N.hnn; have := N.hmid; have := N.hb; have := N.hbn; have := N.hm; have := N.hbb; omega)
 have e1 : ¬ (start : Int) < (m : Int) := fun h => d1 (Int.ofNat_lt.1 h)
 have e2 : (m : Int) < (fin : Int) := Int.ofNat_lt.2 d2
 have e3 : ¬ (a : Int) < (start : Int) := fun h => d3 (Int.ofNat_lt.1 h)
 have e5 : ¬ (mid : Int) < (fin : Int) := fun h => d1 (c5.1 (Int.ofNat_lt.1 h))
 have e6 : (start : Int) < (mid : Int) := Int.ofNat_lt.2 (c6.2 d2)
 have e4 : ¬ (fin : Int) < (b : Int) := fun h => d4 (Int.ofNat_lt.1 h)
 have r1 := n1 (fun h => d1 h.1); subst r1
 have r2 := n2 (fun h => d3 h.1); subst r2
 have r3 := n3 (fun h => d1 (c5.1 h.1)); subst r3
 simp only [qg, w1, w2, w3, w4, w5, w6, w7, w8, w9, h1, h2, g4, k1, k3, k6, k7, k10, k11, k12, e1, e3, e5, g5, qv, qn, Ev.exec, qb, qe, qc, qai, Ev.Opnd.ev, Ev.Env.get, Ev.Env.set, Ev.Env.unset, Ev.look, qo, qaf, qb8, qam, ql, qas, qm, qaj, Ev.kill, qah, qr, Ev.keep, qad, qw, qd, Ev.SObj.lo, qa1, qba, qbn, qe3, qj, ↓qs, ↓qaq, ↓reduceIte, zga, zgb, zgc, zfe, Nat.reduceAdd, Nat.reduceEqDiff, reduceCtorEq, zgv, zgw, zfc, zfa, zgx, zfd, zgu, zgy]
theorem qz9 (x1 x2 y1 y2 a m b mid nn lo hi p start fin : Nat) (D D2 D3 D4 : List Evt) (N : Nums n x1 x2 y1 y2 a m b mid nn lo hi p start fin) (g1 : mid < m) (g2 : nn = b + lo)
  (d1 : ¬ start < m) (d2 : ¬ m < fin) (d3 : a < start) (d4 : fin < b)
  (hf : qk9 g cl n a m b mid nn lo mid p start D) (hS : Steps g cl n a m b mid start fin D D2 D3 D4) : qbi g cl n a m b D D4 := by
 obtain ⟨s1, n1, s2, n2, s3, n3⟩ := hS
 obtain ⟨⟨y, e, σ⟩, k1, k2, k3, k4, k5, k6, k7, k8, k9, k10, k11, k12⟩ := hf
 obtain ⟨w1, h1, w2, h2, w3, w4, w5, w6, w7, w8, w9, c5, c6⟩ := N.wraps
 simp only at k1 k2 k3 k4 k5 k6 k7 k8 k9 k10 k11 k12
 subst k2; subst k4
 unfold qbi at *
 rw [qx qi qf]
 have g4 : (m : Int) > (mid : Int) := Int.ofNat_lt.2 g1
 have g5 : IntKind.i64.wrap ((nn : Int) - (b : Int)) = (lo : Int) := qfh g2 (by have := N.hnn; have := N.hmid; have := N.hb; have := N.hbn; have := N.hm; have := N.hbb; omega)
 have e1 : ¬ (start : Int) < (m : Int) := fun h => d1 (Int.ofNat_lt.1 h)
 have e2 : ¬ (m : Int) < (fin : Int) := fun h => d2 (Int.ofNat_lt.1 h)
 have e3 : (a : Int) < (start : Int) := Int.ofNat_lt.2 d3
 have e5 : ¬ (mid : Int) < (fin : Int) := fun h => d1 (c5.1 (Int.ofNat_lt.1 h))
 have e6 : ¬ (start : Int) < (mid : Int) := fun h => d2 (c6.1 (Int.ofNat_lt.1 h))
 have e4 : (fin : Int) < (b : Int) := Int.ofNat_lt.2 d4
 have r1 := n1 (fun h => d1 h.1); subst r1
 have r2 := n2 (fun h => d2 (c6.1 h.2)); subst r2
 have r3 := n3 (fun h => d1 (c5.1 h.1)); subst r3
 simp only [qg, w1, w2, w3, w4, w5, w6, w7, w8, w9, h1, h2, g4, k1, k3, k6, k7, k10, k11, k12, e1, e3, e5, e6, g5, qv, qn, Ev.exec, qb, qe, qc, qai, Ev.Opnd.ev, Ev.Env.get, Ev.Env.set, Ev.Env.unset, Ev.look, qo, qaf, qb8, qam, ql, qas, qm, qaj, Ev.kill, qah, qr, Ev.keep, qad, qw, qd, Ev.SObj.lo, qa1, qba, qbn, qe3, qj, ↓qs, ↓qaq, ↓reduceIte, zga, zgb, zgc, zfe, Nat.reduceAdd, Nat.reduceEqDiff, reduceCtorEq, zgv, zgw, zfc, zfa, zgx, zfd, zgu, zgy]
theorem qzf (x1 x2 y1 y2 a m b mid nn lo hi p start fin : Nat) (D D2 D3 D4 : List Evt) (N : Nums n x1 x2 y1 y2 a m b mid nn lo hi p start fin) (g1 : mid < m) (g2 : nn = b + lo)
  (d1 : ¬ start < m) (d2 : ¬ m < fin) (d3 : a < start) (d4 : ¬ fin < b)
  (hf : qk9 g cl n a m b mid nn lo mid p start D) (hS : Steps g cl n a m b mid start fin D D2 D3 D4) : qbi g cl n a m b D D4 := by
 obtain ⟨s1, n1, s2, n2, s3, n3⟩ := hS
 obtain ⟨⟨y, e, σ⟩, k1, k2, k3, k4, k5, k6, k7, k8, k9, k10, k11, k12⟩ := hf
 obtain ⟨w1, h1, w2, h2, w3, w4, w5, w6, w7, w8, w9, c5, c6⟩ := N.wraps
 simp only at k1 k2 k3 k4 k5 k6 k7 k8 k9 k10 k11 k12
 subst k2; subst k4
 unfold qbi at *
 rw [qx qi qf]
 have g4 : (m : Int) > (mid : Int) := Int.ofNat_lt.2 g1
 have g5 : IntKind.i64.wrap ((nn : Int) - (b : Int)) = (lo : Int) := qfh g2 (by have := N.hnn; have := N.hmid; have := N.hb; have := N.hbn; have := N.hm; have := N.hbb; omega)
 have e1 : ¬ (start : Int) < (m : Int) := fun h => d1 (Int.ofNat_lt.1 h)
 have e2 : ¬ (m : Int) < (fin : Int) := fun h => d2 (Int.ofNat_lt.1 h)
 have e3 : (a : Int) < (start : Int) := Int.ofNat_lt.2 d3
 have e5 : ¬ (mid : Int) < (fin : Int) := fun h => d1 (c5.1 (Int.ofNat_lt.1 h))
 have e6 : ¬ (start : Int) < (mid : Int) := fun h => d2 (c6.1 (Int.ofNat_lt.1 h))
 have e4 : ¬ (fin : Int) < (b : Int) := fun h => d4 (Int.ofNat_lt.1 h)
 have r1 := n1 (fun h => d1 h.1); subst r1
 have r2 := n2 (fun h => d2 (c6.1 h.2)); subst r2
 have r3 := n3 (fun h => d1 (c5.1 h.1)); subst r3
 simp only [qg, w1, w2, w3, w4, w5, w6, w7, w8, w9, h1, h2, g4, k1, k3, k6, k7, k10, k11, k12, e1, e3, e5, e6, g5, qv, qn, Ev.exec, qb, qe, qc, qai, Ev.Opnd.ev, Ev.Env.get, Ev.Env.set, Ev.Env.unset, Ev.look, qo, qaf, qb8, qam, ql, qas, qm, qaj, Ev.kill, qah, qr, Ev.keep, qad, qw, qd, Ev.SObj.lo, qa1, qba, qbn, qe3, qj, ↓qs, ↓qaq, ↓reduceIte, zga, zgb, zgc, zfe, Nat.reduceAdd, Nat.reduceEqDiff, reduceCtorEq, zgv, zgw, zfc, zfa, zgx, zfd, zgu, zgy]
theorem qy8 (x1 x2 y1 y2 a m b mid nn lo hi p start fin : Nat) (D D2 D3 D4 : List Evt) (N : Nums n x1 x2 y1 y2 a m b mid nn lo hi p start fin) (g1 : mid < m) (g2 : nn = b + lo)
  (d1 : ¬ start < m) (d2 : ¬ m < fin) (d3 : ¬ a < start) (d4 : fin < b)
  (hf : qk9 g cl n a m b mid nn lo mid p start D) (hS : Steps g cl n a m b mid start fin D D2 D3 D4) : qbi g cl n a m b D D4 := by
 obtain ⟨s1, n1, s2, n2, s3, n3⟩ := hS
 obtain ⟨⟨y, e, σ⟩, k1, k2, k3, k4, k5, k6, k7, k8, k9, k10, k11, k12⟩ := hf
 obtain ⟨w1, h1, w2, h2, w3, w4, w5, w6, w7, w8, w9, c5, c6⟩ := N.wraps
 simp only at k1 k2 k3 k4 k5 k6 k7 k8 k9 k10 k11 k12
 subst k2; subst k4
 unfold qbi at *
 rw [qx qi qf]
 have g4 : (m : Int) > (mid : Int) := Int.ofNat_lt.2 g1
 have g5 : IntKind.i64.wrap ((nn : Int) - (b : Int)) = (lo : Int) := qfh g2 (by have := N.hnn; have := N.hmid; have := N.hb; have := N.hbn; have := N.hm; have := N.hbb; omega)
 have e1 : ¬ (start : Int) < (m : Int) := fun h => d1 (Int.ofNat_lt.1 h)
 have e2 : ¬ (m : Int) < (fin : Int) := fun h => d2 (Int.ofNat_lt.1 h)
 have e3 : ¬ (a : Int) < (start : Int) := fun h => d3 (Int.ofNat_lt.1 h)
 have e5 : ¬ (mid : Int) < (fin : Int) := fun h => d1 (c5.1 (Int.ofNat_lt.1 h))
 have e6 : ¬ (start : Int) < (mid : Int) := fun h => d2 (c6.1 (Int.ofNat_lt.1 h))
 have e4 : (fin : Int) < (b : Int) := Int.ofNat_lt.2 d4
 have r1 := n1 (fun h => d1 h.1); subst r1
 have r2 := n2 (fun h => d3 h.1); subst r2
 have r3 := n3 (fun h => d1 (c5.1 h.1)); subst r3
 simp only [qg, w1, w2, w3, w4, w5, w6, w7, w8, w9, h1, h2, g4, k1, k3, k6, k7, k10, k11, k12, e1, e3, e5, g5, qv, qn, Ev.exec, qb, qe, qc, qai, Ev.Opnd.ev, Ev.Env.get, Ev.Env.set, Ev.Env.unset, Ev.look, qo, qaf, qb8, qam, ql, qas, qm, qaj, Ev.kill, qah, qr, Ev.keep, qad, qw, qd, Ev.SObj.lo, qa1, qba, qbn, qe3, qj, ↓qs, ↓qaq, ↓reduceIte, zga, zgb, zgc, zfe, Nat.reduceAdd, Nat.reduceEqDiff, reduceCtorEq, zgv, zgw, zfc, zfa, zgx, zfd, zgu, zgy]
theorem qyj (x1 x2 y1 y2 a m b mid nn lo hi p start fin : Nat) (D D2 D3 D4 : List Evt) (N : Nums n x1 x2 y1 y2 a m b mid nn lo hi p start fin) (g1 : mid < m) (g2 : nn = b + lo)
  (d1 : ¬ start < m) (d2 : ¬ m < fin) (d3 : ¬ a < start) (d4 : ¬ fin < b)
  (hf : qk9 g cl n a m b mid nn lo mid p start D) (hS : Steps g cl n a m b mid start fin D D2 D3 D4) : qbi g cl n a m b D D4 := by
 obtain ⟨s1, n1, s2, n2, s3, n3⟩ := hS
 obtain ⟨⟨y, e, σ⟩, k1, k2, k3, k4, k5, k6, k7, k8, k9, k10, k11, k12⟩ := hf
 obtain ⟨w1, h1, w2, h2, w3, w4, w5, w6, w7, w8, w9, c5, c6⟩ := N.wraps
 simp only at k1 k2 k3 k4 k5 k6 k7 k8 k9 k10 k11 k12
 subst k2; subst k4
 unfold qbi at *
 rw [qx qi qf]
 have g4 : (m : Int) > (mid : Int) := Int.ofNat_lt.2 g1
 have g5 : IntKind.i64.wrap ((nn : Int) - (b : Int)) = (lo : Int) := qfh g2 (by have := N.hnn; have := N.hmid; have := N.hb; have := N.hbn; have := N.hm; have := N.hbb; omega)
 have e1 : ¬ (start : Int) < (m : Int) := fun h => d1 (Int.ofNat_lt.1 h)
 have e2 : ¬ (m : Int) < (fin : Int) := fun h => d2 (Int.ofNat_lt.1 h)
 have e3 : ¬ (a : Int) < (start : Int) := fun h => d3 (Int.ofNat_lt.1 h)
 have e5 : ¬ (mid : Int) < (fin : Int) := fun h => d1 (c5.1 (Int.ofNat_lt.1 h))
 have e6 : ¬ (start : Int) < (mid : Int) := fun h => d2 (c6.1 (Int.ofNat_lt.1 h))
 have e4 : ¬ (fin : Int) < (b : Int) := fun h => d4 (Int.ofNat_lt.1 h)
 have r1 := n1 (fun h => d1 h.1); subst r1
 have r2 := n2 (fun h => d3 h.1); subst r2
 have r3 := n3 (fun h => d1 (c5.1 h.1)); subst r3
 simp only [qg, w1, w2, w3, w4, w5, w6, w7, w8, w9, h1, h2, g4, k1, k3, k6, k7, k10, k11, k12, e1, e3, e5, g5, qv, qn, Ev.exec, qb, qe, qc, qai, Ev.Opnd.ev, Ev.Env.get, Ev.Env.set, Ev.Env.unset, Ev.look, qo, qaf, qb8, qam, ql, qas, qm, qaj, Ev.kill, qah, qr, Ev.keep, qad, qw, qd, Ev.SObj.lo, qa1, qba, qbn, qe3, qj, ↓qs, ↓qaq, ↓reduceIte, zga, zgb, zgc, zfe, Nat.reduceAdd, Nat.reduceEqDiff, reduceCtorEq, zgv, zgw, zfc, zfa, zgx, zfd, zgu, zgy]
theorem qy3 (x1 x2 y1 y2 a m b mid nn lo hi p start fin : Nat) (D D2 D3 D4 : List Evt) (N : Nums n x1 x2 y1 y2 a m b mid nn lo hi p start fin) (g1 : ¬ mid < m)
  (d1 : start < m) (d2 : m < fin) (d3 : a < start) (d4 : fin < b)
  (hf : qk9 g cl n a m b mid nn a m p start D) (hS : Steps g cl n a m b mid start fin D D2 D3 D4) : qbi g cl n a m b D D4 := by
 obtain ⟨s1, n1, s2, n2, s3, n3⟩ := hS
 obtain ⟨⟨y, e, σ⟩, k1, k2, k3, k4, k5, k6, k7, k8, k9, k10, k11, k12⟩ := hf
 obtain ⟨w1, h1, w2, h2, w3, w4, w5, w6, w7, w8, w9, c5, c6⟩ := N.wraps
 simp only at k1 k2 k3 k4 k5 k6 k7 k8 k9 k10 k11 k12
 subst k2; subst k4
 unfold qbi at *
 rw [qx qi qf]
 have g4 : ¬ (m : Int) > (mid : Int) := fun h => g1 (Int.ofNat_lt.1 h)
 have e1 : (start : Int) < (m : Int) := Int.ofNat_lt.2 d1
 have e2 : (m : Int) < (fin : Int) := Int.ofNat_lt.2 d2
 have e3 : (a : Int) < (start : Int) := Int.ofNat_lt.2 d3
 have e5 : (mid : Int) < (fin : Int) := Int.ofNat_lt.2 (c5.2 d1)
 have e6 : (start : Int) < (mid : Int) := Int.ofNat_lt.2 (c6.2 d2)
 have e4 : (fin : Int) < (b : Int) := Int.ofNat_lt.2 d4
 have r1 := s1 d1 d2
 have r2 := s2 d3 (c6.2 d2)
 have r3 := s3 (c5.2 d1) d4
 simp only [qg, w1, w2, w3, w4, w5, w6, w7, w8, w9, h1, h2, g4, k1, k3, k5, k6, k7, k8, k9, k10, k11, k12, e1, e2, e3, e5, e6, r1, r2, r3, e4, qv, qn, Ev.exec, qb, qe, qc, qd3, qai, Ev.evs, Ev.Opnd.ev, Ev.Env.get, Ev.Env.set, Ev.look, qo, qaf, qb8, qam, ql, qas, qm, qaj, Ev.kill, qah, qr, Ev.keep, qad, qw, qd, Ev.SObj.lo, qa1, qba, qbn, qe3, qj, ↓qs, ↓qaq, ↓reduceIte, zga, zgb, zgc, zfe, Nat.reduceAdd, Nat.reduceEqDiff, reduceCtorEq, zgv, zgw, zfc, zfa, zgx, zfd, zgu, zgy]
theorem qy0 (x1 x2 y1 y2 a m b mid nn lo hi p start fin : Nat) (D D2 D3 D4 : List Evt) (N : Nums n x1 x2 y1 y2 a m b mid nn lo hi p start fin) (g1 : ¬ mid < m)
  (d1 : start < m) (d2 : m < fin) (d3 : a < start) (d4 : ¬ fin < b)
  (hf : qk9 g cl n a m b mid nn a m p start D) (hS : Steps g cl n a m b mid start fin D D2 D3 D4) : qbi g cl n a m b D D4 := by
 obtain ⟨s1, n1, s2, n2, s3, n3⟩ := hS
 obtain ⟨⟨y, e, σ⟩, k1, k2, k3, k4, k5, k6, k7, k8, k9, k10, k11, k12⟩ := hf
 obtain ⟨w1, h1, w2, h2, w3, w4, w5, w6, w7, w8, w9, c5, c6⟩ := N.wraps
 simp only at k1 k2 k3 k4 k5 k6 k7 k8 k9 k10 k11 k12
 subst k2; subst k4
 unfold qbi at *
 rw [qx qi qf]
 have g4 : ¬ (m : Int) > (mid : Int) := fun h => g1 (Int.ofNat_lt.1 h)
 have e1 : (start : Int) < (m : Int) := Int.ofNat_lt.2 d1
 have e2 : (m : Int) < (fin : Int) := Int.ofNat_lt.2 d2
 have e3 : (a : Int) < (start : Int) := Int.ofNat_lt.2 d3
 have e5 : (mid : Int) < (fin : Int) := Int.ofNat_lt.2 (c5.2 d1)
 have e6 : (start : Int) < (mid : Int) := Int.ofNat_lt.2 (c6.2 d2)
 have e4 : ¬ (fin : Int) < (b : Int) := fun h => d4 (Int.ofNat_lt.1 h)
 have r1 := s1 d1 d2
 have r2 := s2 d3 (c6.2 d2)
 have r3 := n3 (fun h => d4 h.2); subst r3
 simp only [qg, w1, w2, w3, w4, w5, w6, w7, w8, w9, h1, h2, g4, k1, k3, k5, k6, k7, k8, k9, k10, k11, k12, e1, e2, e3, e5, e6, r1, r2, e4, qv, qn, Ev.exec, qb, qe, qc, qd3, qai, Ev.evs, Ev.Opnd.ev, Ev.Env.get, Ev.Env.set, Ev.look, qo, qaf, qb8, qam, ql, qas, qm, qaj, Ev.kill, qah, qr, Ev.keep, qad, qw, qd, Ev.SObj.lo, qa1, qba, qbn, qe3, qj, ↓qs, ↓qaq, ↓reduceIte, zga, zgb, zgc, zfe, Nat.reduceAdd, Nat.reduceEqDiff, reduceCtorEq, zgv, zgw, zfc, zfa, zgx, zfd, zgu, zgy]
theorem qy6 (x1 x2 y1 y2 a m b mid nn lo hi p start fin : Nat) (D D2 D3 D4 : List Evt) (N : Nums n x1 x2 y1 y2 a m b mid nn lo hi p start fin) (g1 : ¬ mid < m)
  (d1 : start < m) (d2 : m < fin) (d3 : ¬ a < start) (d4 : fin < b)
  (hf : qk9 g cl n a m b mid nn a m p start D) (hS : Steps g cl n a m b mid start fin D D2 D3 D4) : qbi g cl n a m b D D4 := by
 obtain ⟨s1, n1, s2, n2, s3, n3⟩ := hS
 obtain ⟨⟨y, e, σ⟩, k1, k2, k3, k4, k5, k6, k7, k8, k9, k10, k11, k12⟩ := hf
 obtain ⟨w1, h1, w2, h2, w3, w4, w5, w6, w7, w8, w9, c5, c6⟩ := N.wraps
 simp only at k1 k2 k3 k4 k5 k6 k7 k8 k9 k10 k11 k12
 subst k2; subst k4
 unfold qbi at *
 rw [qx qi qf]
 have g4 : ¬ (m : Int) > (mid : Int) := fun h => g1 (Int.ofNat_lt.1 h)
 have e1 : (start : Int) < (m : Int) := Int.ofNat_lt.2 d1
 have e2 : (m : Int) < (fin : Int) := Int.ofNat_lt.2 d2
 have e3 : ¬ (a : Int) < (start : Int) := fun h => d3 (Int.ofNat_lt.1 h)
 have e5 : (mid : Int) < (fin : Int) := Int.ofNat_lt.2 (c5.2 d1)
 have e6 : (start : Int) < (mid : Int) := Int.ofNat_lt.2 (c6.2 d2)
 have e4 : (fin : Int) < (b : Int) := Int.ofNat_lt.2 d4
 have r1 := s1 d1 d2
 have r2 := n2 (fun h => d3 h.1); subst r2
 have r3 := s3 (c5.2 d1) d4
 simp only [qg, w1, w2, w3, w4, w5, w6, w7, w8, w9, h1, h2, g4, k1, k3, k5, k6, k7, k8, k9, k10, k11, k12, e1, e2, e3, e5, r1, r3, e4, qv, qn, Ev.exec, qb, qe, qc, qd3, qai, Ev.evs, Ev.Opnd.ev, Ev.Env.get, Ev.Env.set, Ev.Env.unset, Ev.look, qo, qaf, qb8, qam, ql, qas, qm, qaj, Ev.kill, qah, qr, Ev.keep, qad, qw, qd, Ev.SObj.lo, qa1, qba, qbn, qe3, qj, ↓qs, ↓qaq, ↓reduceIte, zga, zgb, zgc, zfe, Nat.reduceAdd, Nat.reduceEqDiff, reduceCtorEq, zgv, zgw, zfc, zfa, zgx, zfd, zgu, zgy]
theorem qyh (x1 x2 y1 y2 a m b mid nn lo hi p start fin : Nat) (D D2 D3 D4 : List Evt) (N : Nums n x1 x2 y1 y2 a m b mid nn lo hi p start fin) (g1 : ¬ mid < m)
  (d1 : start < m) (d2 : m < fin) (d3 : ¬ a < start) (d4 : ¬ fin < b)
  (hf : qk9 g cl n a m b mid nn a m p start D) (hS : Steps g cl n a m b mid start fin D D2 D3 D4) : qbi g cl n a m b D D4 := by
 obtain ⟨s1, n1, s2, n2, s3, n3⟩ := hS
 obtain ⟨⟨y, e, σ⟩, k1, k2, k3, k4, k5, k6, k7, k8, k9, k10, k11, k12⟩ := hf
 obtain ⟨w1, h1, w2, h2, w3, w4, w5, w6, w7, w8, w9, c5, c6⟩ := N.wraps
 simp only at k1 k2 k3 k4 k5 k6 k7 k8 k9 k10 k11 k12
 subst k2; subst k4
 unfold qbi at *
 rw [qx qi qf]
 have g4 : ¬ (m : Int) > (mid : Int) := fun h => g1 (Int.ofNat_lt.1 h)
 have e1 : (start : Int) < (m : Int) := Int.ofNat_lt.2 d1
 have e2 : (m : Int) < (fin : Int) := Int.ofNat_lt.2 d2
 have e3 : ¬ (a : Int) < (start : Int) := fun h => d3 (Int.ofNat_lt.1 h)
 have e5 : (mid : Int) < (fin : Int) := Int.ofNat_lt.2 (c5.2 d1)
 have e6 : (start : Int) < (mid : Int) := Int.ofNat_lt.2 (c6.2 d2)
 have e4 : ¬ (fin : Int) < (b : Int) := fun h => d4 (Int.ofNat_lt.1 h)
 have r1 := s1 d1 d2
 have r2 := n2 (fun h => d3 h.1); subst r2
 have r3 := n3 (fun h => d4 h.2); subst r3
 simp only [qg, w1, w2, w3, w4, w5, w6, w7, w8, w9, h1, h2, g4, k1, k3, k5, k6, k7, k8, k9, k10, k11, k12, e1, e2, e3, e5, r1, e4, qv, qn, Ev.exec, qb, qe, qc, qd3, qai, Ev.evs, Ev.Opnd.ev, Ev.Env.get, Ev.Env.set, Ev.Env.unset, Ev.look, qo, qaf, qb8, qam, ql, qas, qm, qaj, Ev.kill, qah, qr, Ev.keep, qad, qw, qd, Ev.SObj.lo, qa1, qba, qbn, qe3, qj, ↓qs, ↓qaq, ↓reduceIte, zga, zgb, zgc, zfe, Nat.reduceAdd, Nat.reduceEqDiff, reduceCtorEq, zgv, zgw, zfc, zfa, zgx, zfd, zgu, zgy]
theorem q0n (x1 x2 y1 y2 a m b mid nn lo hi p start fin : Nat) (D D2 D3 D4 : List Evt) (N : Nums n x1 x2 y1 y2 a m b mid nn lo hi p start fin) (g1 : ¬ mid < m)
  (d1 : start < m) (d2 : ¬ m < fin) (d3 : a < start) (d4 : fin < b)
  (hf : qk9 g cl n a m b mid nn a m p start D) (hS : Steps g cl n a m b mid start fin D D2 D3 D4) : qbi g cl n a m b D D4 := by
 obtain ⟨s1, n1, s2, n2, s3, n3⟩ := hS
 obtain ⟨⟨y, e, σ⟩, k1, k2, k3, k4, k5, k6, k7, k8, k9, k10, k11, k12⟩ := hf
 obtain ⟨w1, h1, w2, h2, w3, w4, w5, w6, w7, w8, w9, c5, c6⟩ := N.wraps
 simp only at k1 k2 k3 k4 k5 k6 k7 k8 k9 k10 k11 k12
 subst k2; subst k4
 unfold qbi at *
 rw [qx qi qf]
 have g4 : ¬ (m : Int) > (mid : Int) := fun h => g1 (Int.ofNat_lt.1 h)
 have e1 : (start : Int) < (m : Int) := Int.ofNat_lt.2 d1
 have e2 : ¬ (m : Int) < (fin : Int) := fun h => d2 (Int.ofNat_lt.1 h)
 have e3 : (a : Int) < (start : Int) := Int.ofNat_lt.2 d3
 have e5 : (mid : Int) < (fin : Int) := Int.ofNat_lt.2 (c5.2 d1)
 have e6 : ¬ (start : Int) < (mid : Int) := fun h => d2 (c6.1 (Int.ofNat_lt.1 h))
 have e4 : (fin : Int) < (b : Int) := Int.ofNat_lt.2 d4
 have r1 := n1 (fun h => d2 h.2); subst r1
 have r2 := n2 (fun h => d2 (c6.1 h.2)); subst r2
 have r3 := s3 (c5.2 d1) d4
 simp only [qg, w1, w2, w3, w4, w5, w6, w7, w8, w9, h1, h2, g4, k1, k3, k5, k6, k7, k8, k9, k10, k11, k12, e1, e2, e3, e5, e6, r3, e4, qv, qn, Ev.exec, qb, qe, qc, qd3, qai, Ev.evs, Ev.Opnd.ev, Ev.Env.get, Ev.Env.set, Ev.look, qo, qaf, qb8, qam, ql, qas, qm, qaj, Ev.kill, qah, qr, Ev.keep, qad, qw, qd, Ev.SObj.lo, qa1, qba, qbn, qe3, qj, ↓qs, ↓qaq, ↓reduceIte, zga, zgb, zgc, zfe, Nat.reduceAdd, Nat.reduceEqDiff, reduceCtorEq, zgv, zgw, zfc, zfa, zgx, zfd, zgu, zgy]
theorem qzj (x1 x2 y1 y2 a m b mid nn lo hi p start fin : Nat) (D D2 D3 D4 : List Evt) (N : Nums n x1 x2 y1 y2 a m b mid nn lo hi p start fin) (g1 : ¬ mid < m)
  (d1 : start < m) (d2 : ¬ m < fin) (d3 : a < start) (d4 : ¬ fin < b)
  (hf : qk9 g cl n a m b mid nn a m p start D) (hS : Steps g cl n a m b mid start fin D D2 D3 D4) : qbi g cl n a m b D D4 := by
 obtain ⟨s1, n1, s2, n2, s3, n3⟩ := hS
 obtain ⟨⟨y, e, σ⟩, k1, k2, k3, k4, k5, k6, k7, k8, k9, k10, k11, k12⟩ := hf
 obtain ⟨w1, h1, w2, h2, w3, w4, w5, w6, w7, w8, w9, c5, c6⟩ := N.wraps
 simp only at k1 k2 k3 k4 k5 k6 k7 k8 k9 k10 k11 k12
 subst k2; subst k4
 unfold qbi at *
 rw [qx qi qf]
 have g4 : ¬ (m : Int) > (mid : Int) := fun h => g1 (Int.ofNat_lt.1 h)
 have e1 : (start : Int) < (m : Int) := Int.ofNat_lt.2 d1
 have e2 : ¬ (m : Int) < (fin : Int) := fun h => d2 (Int.ofNat_lt.1 h)
 have e3 : (a : Int) < (start : Int) := Int.ofNat_lt.2 d3
 have e5 : (mid : Int) < (fin : Int) := Int.ofNat_lt.2 (c5.2 d1)
 have e6 : ¬ (start : Int) < (mid : Int) := fun h => d2 (c6.1 (Int.ofNat_lt.1 h))
 have e4 : ¬ (fin : Int) < (b : Int) := fun h => d4 (Int.ofNat_lt.1 h)
 have r1 := n1 (fun h => d2 h.2); subst r1
 have r2 := n2 (fun h => d2 (c6.1 h.2)); subst r2
 have r3 := n3 (fun h => d4 h.2); subst r3
 simp only [qg, w1, w2, w3, w4, w5, w6, w7, w8, w9, h1, h2, g4, k1, k3, k6, k7, k8, k10, k11, k12, e1, e2, e3, e5, e6, e4, qv, qn, Ev.exec, qb, qe, qc, qai, Ev.Opnd.ev, Ev.Env.get, Ev.Env.set, Ev.look, qo, qaf, qb8, qam, ql, qas, qm, qaj, Ev.kill, qah, qr, Ev.keep, qad, qw, qd, Ev.SObj.lo, qa1, qba, qbn, qe3, qj, ↓qs, ↓qaq, ↓reduceIte, zga, zgb, zgc, zfe, Nat.reduceAdd, Nat.reduceEqDiff, reduceCtorEq, zgv, zgw, zfc, zfa, zgx, zfd, zgu, zgy]
theorem qz6 (x1 x2 y1 y2 a m b mid nn lo hi p start fin : Nat) (D D2 D3 D4 : List Evt) (N : Nums n x1 x2 y1 y2 a m b mid nn lo hi p start fin) (g1 : ¬ mid < m)
  (d1 : start < m) (d2 : ¬ m < fin) (d3 : ¬ a < start) (d4 : fin < b)
  (hf : qk9 g cl n a m b mid nn a m p start D) (hS : Steps g cl n a m b mid start fin D D2 D3 D4) : qbi g cl n a m b D D4 := by
 obtain ⟨s1, n1, s2, n2, s3, n3⟩ := hS
 obtain ⟨⟨y, e, σ⟩, k1, k2, k3, k4, k5, k6, k7, k8, k9, k10, k11, k12⟩ := hf
 obtain ⟨w1, h1, w2, h2, w3, w4, w5, w6, w7, w8, w9, c5, c6⟩ := N.wraps
 simp only at k1 k2 k3 k4 k5 k6 k7 k8 k9 k10 k11 k12
 subst k2; subst k4
 unfold qbi at *
 rw [qx qi qf]
 have g4 : ¬ (m : Int) > (mid : Int) := fun h => g1 (Int.ofNat_lt.1 h)
 have e1 : (start : Int) < (m : Int) := Int.ofNat_lt.2 d1
 have e2 : ¬ (m : Int) < (fin : Int) := fun h => d2 (Int.ofNat_lt.1 h)
 have e3 : ¬ (a : Int) < (start : Int) := fun h => d3 (Int.ofNat_lt.1 h)
 have e5 : (mid : Int) < (fin : Int) := Int.ofNat_lt.2 (c5.2 d1)
 have e6 : ¬ (start : Int) < (mid : Int) := fun h => d2 (c6.1 (Int.ofNat_lt.1 h))
 have e4 : (fin : Int) < (b : Int) := Int.ofNat_lt.2 d4
 have r1 := n1 (fun h => d2 h.2); subst r1
 have r2 := n2 (fun h => d3 h.1); subst r2
 have r3 := s3 (c5.2 d1) d4
 simp only [qg, w1, w2, w3, w4, w5, w6, w7, w8, w9, h1, h2, g4, k1, k3, k5, k6, k7, k8, k9, k10, k11, k12, e1, e2, e3, e5, r3, e4, qv, qn, Ev.exec, qb, qe, qc, qd3, qai, Ev.evs, Ev.Opnd.ev, Ev.Env.get, Ev.Env.set, Ev.Env.unset, Ev.look, qo, qaf, qb8, qam, ql, qas, qm, qaj, Ev.kill, qah, qr, Ev.keep, qad, qw, qd, Ev.SObj.lo, qa1, qba, qbn, qe3, qj, ↓qs, ↓qaq, ↓reduceIte, zga, zgb, zgc, zfe, Nat.reduceAdd, Nat.reduceEqDiff, reduceCtorEq, zgv, zgw, zfc, zfa, zgx, zfd, zgu, zgy]
theorem q0l (x1 x2 y1 y2 a m b mid nn lo hi p start fin : Nat) (D D2 D3 D4 : List Evt) (N : Nums n x1 x2 y1 y2 a m b mid nn lo hi p start fin) (g1 : ¬ mid < m)
  (d1 : start < m) (d2 : ¬ m < fin) (d3 : ¬ a < start) (d4 : ¬ fin < b)
  (hf : qk9 g cl n a m b mid nn a m p start D) (hS : Steps g cl n a m b mid start fin D D2 D3 D4) : qbi g cl n a m b D D4 := by
 obtain ⟨s1, n1, s2, n2, s3, n3⟩ := hS
 obtain ⟨⟨y, e, σ⟩, k1, k2, k3, k4, k5, k6, k7, k8, k9, k10, k11, k12⟩ := hf
 obtain ⟨w1, h1, w2, h2, w3, w4, w5, w6, w7, w8, w9, c5, c6⟩ := N.wraps
 simp only at k1 k2 k3 k4 k5 k6 k7 k8 k9 k10 k11 k12
 subst k2; subst k4
 unfold qbi at *
 rw [qx qi qf]
 have g4 : ¬ (m : Int) > (mid : Int) := fun h => g1 (Int.ofNat_lt.1 h)
 have e1 : (start : Int) < (m : Int) := Int.ofNat_lt.2 d1
 have e2 : ¬ (m : Int) < (fin : Int) := fun h => d2 (Int.ofNat_lt.1 h)
 have e3 : ¬ (a : Int) < (start : Int) := fun h => d3 (Int.ofNat_lt.1 h)
 have e5 : (mid : Int) < (fin : Int) := Int.ofNat_lt.2 (c5.2 d1)
 have e6 : ¬ (start : Int) < (mid : Int) := fun h => d2 (c6.1 (Int.ofNat_lt.1 h))
 have e4 : ¬ (fin : Int) < (b : Int) := fun h => d4 (Int.ofNat_lt.1 h)
 have r1 := n1 (fun h => d2 h.2); subst r1
 have r2 := n2 (fun h => d3 h.1); subst r2
 have r3 := n3 (fun h => d4 h.2); subst r3
 simp only [qg, w1, w2, w3, w4, w5, w6, w7, w8, w9, h1, h2, g4, k1, k3, k6, k7, k8, k10, k11, k12, e1, e2, e3, e5, e4, qv, qn, Ev.exec, qb, qe, qc, qai, Ev.Opnd.ev, Ev.Env.get, Ev.Env.set, Ev.Env.unset, Ev.look, qo, qaf, qb8, qam, ql, qas, qm, qaj, Ev.kill, qah, qr, Ev.keep, qad, qw, qd, Ev.SObj.lo, qa1, qba, qbn, qe3, qj, ↓qs, ↓qaq, ↓reduceIte, zga, zgb, zgc, zfe, Nat.reduceAdd, Nat.reduceEqDiff, reduceCtorEq, zgv, zgw, zfc, zfa, zgx, zfd, zgu, zgy]
theorem qy4 (x1 x2 y1 y2 a m b mid nn lo hi p start fin : Nat) (D D2 D3 D4 : List Evt) (N : Nums n x1 x2 y1 y2 a m b mid nn lo hi p start fin) (g1 : ¬ mid < m)
  (d1 : ¬ start < m) (d2 : m < fin) (d3 : a < start) (d4 : fin < b)
  (hf : qk9 g cl n a m b mid nn a m p start D) (hS : Steps g cl n a m b mid start fin D D2 D3 D4) : qbi g cl n a m b D D4 := by
 obtain ⟨s1, n1, s2, n2, s3, n3⟩ := hS
 obtain ⟨⟨y, e, σ⟩, k1, k2, k3, k4, k5, k6, k7, k8, k9, k10, k11, k12⟩ := hf
 obtain ⟨w1, h1, w2, h2, w3, w4, w5, w6, w7, w8, w9, c5, c6⟩ := N.wraps
 simp only at k1 k2 k3 k4 k5 k6 k7 k8 k9 k10 k11 k12
 subst k2; subst k4
 unfold qbi at *
 rw [qx qi qf]
 have g4 : ¬ (m : Int) > (mid : Int) := fun h => g1 (Int.ofNat_lt.1 h)
 have e1 : ¬ (start : Int) < (m : Int) := fun h => d1 (Int.ofNat_lt.1 h)
 have e2 : (m : Int) < (fin : Int) := Int.ofNat_lt.2 d2
 have e3 : (a : Int) < (start : Int) := Int.ofNat_lt.2 d3
 have e5 : ¬ (mid : Int) < (fin : Int) := fun h => d1 (c5.1 (Int.ofNat_lt.1 h))
 have e6 : (start : Int) < (mid : Int) := Int.ofNat_lt.2 (c6.2 d2)
 have e4 : (fin : Int) < (b : Int) := Int.ofNat_lt.2 d4
 have r1 := n1 (fun h => d1 h.1); subst r1
 have r2 := s2 d3 (c6.2 d2)
 have r3 := n3 (fun h => d1 (c5.1 h.1)); subst r3
 simp only [qg, w1, w2, w3, w4, w5, w6, w7, w8, w9, h1, h2, g4, k1, k3, k5, k6, k7, k9, k10, k11, k12, e1, e3, e5, e6, r2, qv, qn, Ev.exec, qb, qe, qc, qd3, qai, Ev.evs, Ev.Opnd.ev, Ev.Env.get, Ev.Env.set, Ev.Env.unset, Ev.look, qo, qaf, qb8, qam, ql, qas, qm, qaj, Ev.kill, qah, qr, Ev.keep, qad, qw, qd, Ev.SObj.lo, qa1, qba, qbn, qe3, qj, ↓qs, ↓qaq, ↓reduceIte, zga, zgb, zgc, zfe, Nat.reduceAdd, Nat.reduceEqDiff, reduceCtorEq, zgv, zgw, zfc, zfa, zgx, zfd, zgu, zgy]
theorem qy7 (x1 x2 y1 y2 a m b mid nn lo hi p start fin : Nat) (D D2 D3 D4 : List Evt) (N : Nums n x1 x2 y1 y2 a m b mid nn lo hi p start fin) (g1 : ¬ mid < m)
  (d1 : ¬ start < m) (d2 : m < fin) (d3 : a < start) (d4 : ¬ fin < b)
  (hf : qk9 g cl n a m b mid nn a m p start D) (hS : Steps g cl n a m b mid start fin D D2 D3 D4) : qbi g cl n a m b D D4 := by
 obtain ⟨s1, n1, s2, n2, s3, n3⟩ := hS
 obtain ⟨⟨y, e, σ⟩, k1, k2, k3, k4, k5, k6, k7, k8, k9, k10, k11, k12⟩ := hf
 obtain ⟨w1, h1, w2, h2, w3, w4, w5, w6, w7, w8, w9, c5, c6⟩ := N.wraps
 simp only at k1 k2 k3 k4 k5 k6 k7 k8 k9 k10 k11 k12
 subst k2; subst k4
 unfold qbi at *
 rw [qx qi qf]
 have g4 : ¬ (m : Int) > (mid : Int) := fun h => g1 (Int.ofNat_lt.1 h)
 have e1 : ¬ (start : Int) < (m : Int) := fun h => d1 (Int.ofNat_lt.1 h)
 have e2 : (m : Int) < (fin : Int) := Int.ofNat_lt.2 d2
 have e3 : (a : Int) < (start : Int) := Int.ofNat_lt.2 d3
 have e5 : ¬ (mid : Int) < (fin : Int) := fun h => d1 (c5.1 (Int.ofNat_lt.1 h))
 have e6 : (start : Int) < (mid : Int) := Int.ofNat_lt.2 (c6.2 d2)
 have e4 : ¬ (fin : Int) < (b : Int) := fun h => d4 (Int.ofNat_lt.1 h)
 have r1 := n1 (fun h => d1 h.1); subst r1
 have r2 := s2 d3 (c6.2 d2)
 have r3 := n3 (fun h => d1 (c5.1 h.1)); subst r3
 simp only [qg, w1, w2, w3, w4, w5, w6, w7, w8, w9, h1, h2, g4, k1, k3, k5, k6, k7, k9, k10, k11, k12, e1, e3, e5, e6, r2, qv, qn, Ev.exec, qb, qe, qc, qd3, qai, Ev.evs, Ev.Opnd.ev, Ev.Env.get, Ev.Env.set, Ev.Env.unset, Ev.look, qo, qaf, qb8, qam, ql, qas, qm, qaj, Ev.kill, qah, qr, Ev.keep, qad, qw, qd, Ev.SObj.lo, qa1, qba, qbn, qe3, qj, ↓qs, ↓qaq, ↓reduceIte, zga, zgb, zgc, zfe, Nat.reduceAdd, Nat.reduceEqDiff, reduceCtorEq, zgv, zgw, zfc, zfa, zgx, zfd, zgu, zgy]
theorem q04 (x1 x2 y1 y2 a m b mid nn lo hi p start fin : Nat) (D D2 D3 D4 : List Evt) (N : Nums n x1 x2 y1 y2 a m b mid nn lo hi p start fin) (g1 : ¬ mid < m)
  (d1 : ¬ start < m) (d2 : m < fin) (d3 : ¬ a < start) (d4 : fin < b)
  (hf : qk9 g cl n a m b mid nn a m p start D) (hS : Steps g cl n a m b mid start fin D D2 D3 D4) : qbi g cl n a m b D D4 := by
 obtain ⟨s1, n1, s2, n2, s3, n3⟩ := hS
 obtain ⟨⟨y, e, σ⟩, k1, k2, k3, k4, k5, k6, k7, k8, k9, k10, k11, k12⟩ := hf
 obtain ⟨w1, h1, w2, h2, w3, w4, w5, w6, w7, w8, w9, c5, c6⟩ := N.wraps
 simp only at k1 k2 k3 k4 k5 k6 k7 k8 k9 k10 k11 k12
 subst k2; subst k4
 unfold qbi at *
 rw [qx qi qf]
 have g4 : ¬ (m : Int) > (mid : Int) := fun h => g1 (Int.ofNat_lt.1 h)
 have e1 : ¬ (start : Int) < (m : Int) := fun h => d1 (Int.ofNat_lt.1 h)
 have e2 : (m : Int) < (fin : Int) := Int.ofNat_lt.2 d2
 have e3 : ¬ (a : Int) < (start : Int) := fun h => d3 (Int.ofNat_lt.1 h)
 have e5 : ¬ (mid : Int) < (fin : Int) := fun h => d1 (c5.1 (Int.ofNat_lt.1 h))
 have e6 : (start : Int) < (mid : Int) := Int.ofNat_lt.2 (c6.2 d2)
 have e4 : (fin : Int) < (b : Int) := Int.ofNat_lt.2 d4
 have r1 := n1 (fun h => d1 h.1); subst r1
 have r2 := n2 (fun h => d3 h.1); subst r2
 have r3 := n3 (fun h => d1 (c5.1 h.1)); subst r3
 simp only [qg, w1, w2, w3, w4, w5, w6, w7, w8, w9, h1, h2, g4, k1, k3, k6, k7, k10, k11, k12, e1, e3, e5, qv, qn, Ev.exec, qb, qe, qc, qai, Ev.Opnd.ev, Ev.Env.get, Ev.Env.set, Ev.Env.unset, Ev.look, qo, qaf, qb8, qam, ql, qas, qm, qaj, Ev.kill, qah, qr, Ev.keep, qad, qw, qd, Ev.SObj.lo, qa1, qba, qbn, qe3, qj, ↓qs, ↓qaq, ↓reduceIte, zga, zgb, zgc, zfe, Nat.reduceAdd, Nat.reduceEqDiff, reduceCtorEq, zgv, zgw, zfc, zfa, zgx, zfd, zgu, zgy]
theorem qzb (x1 x2 y1 y2 a m b mid nn lo hi p start fin : Nat) (D D2 D3 D4 : List Evt) (N : Nums n x1 x2 y1 y2 a m b mid nn lo hi p start fin) (g1 : ¬ mid < m)
  (d1 : ¬ start < m) (d2 : m < fin) (d3 : ¬ a < start) (d4 : ¬ fin < b)
  (hf : qk9 g cl n a m b mid nn a m p start D) (hS : Steps g cl n a m b mid start fin D D2 D3 D4) : qbi g cl n a m b D D4 := by
 obtain ⟨s1, n1, s2, n2, s3, n3⟩ := hS
 obtain ⟨⟨y, e, σ⟩, k1, k2, k3, k4, k5, k6, k7, k8, k9, k10, k11, k12⟩ := hf
 obtain ⟨w1, h1, w2, h2, w3, w4, w5, w6, w7, w8, w9, c5, c6⟩ := N.wraps
 simp only at k1 k2 k3 k4 k5 k6 k7 k8 k9 k10 k11 k12
 subst k2; subst k4
 unfold qbi at *
 rw [qx qi qf]
 have g4 : ¬ (m : Int) > (mid : Int) := fun h => g1 (Int.ofNat_lt.1 h)
 have e1 : ¬ (start : Int) < (m : Int) := fun h => d1 (Int.ofNat_lt.1 h)
 have e2 : (m : Int) < (fin : Int) := Int.ofNat_lt.2 d2
 have e3 : ¬ (a : Int) < (start : Int) := fun h => d3 (Int.ofNat_lt.1 h)
 have e5 : ¬ (mid : Int) < (fin : Int) := fun h => d1 (c5.1 (Int.ofNat_lt.1 h))
 have e6 : (start : Int) < (mid : Int) := Int.ofNat_lt.2 (c6.2 d2)
 have e4 : ¬ (fin : Int) < (b : Int) := fun h => d4 (Int.ofNat_lt.1 h)
 have r1 := n1 (fun h => d1 h.1); subst r1
 have r2 := n2 (fun h => d3 h.1); subst r2
 have r3 := n3 (fun h => d1 (c5.1 h.1)); subst r3
 simp only [qg, w1, w2, w3, w4, w5, w6, w7, w8, w9, h1, h2, g4, k1, k3, k6, k7, k10, k11, k12, e1, e3, e5, qv, qn, Ev.exec, qb, qe, qc, qai, Ev.Opnd.ev, Ev.Env.get, Ev.Env.set, Ev.Env.unset, Ev.look, qo, qaf, qb8, qam, ql, qas, qm, qaj, Ev.kill, qah, qr, Ev.keep, qad, qw, qd, Ev.SObj.lo, qa1, qba, qbn, qe3, qj, ↓qs, ↓qaq, ↓reduceIte, zga, zgb, zgc, zfe, Nat.reduceAdd, Nat.reduceEqDiff, reduceCtorEq, zgv, zgw, zfc, zfa, zgx, zfd, zgu, zgy]
theorem qyi (x1 x2 y1 y2 a m b mid nn lo hi p start fin : Nat) (D D2 D3 D4 : List Evt) (N : Nums n x1 x2 y1 y2 a m b mid nn lo hi p start fin) (g1 : ¬ mid < m)
  (d1 : ¬ start < m) (d2 : ¬ m < fin) (d3 : a < start) (d4 : fin < b)
  (hf : qk9 g cl n a m b mid nn a m p start D) (hS : Steps g cl n a m b mid start fin D D2 D3 D4) : qbi g cl n a m b D D4 := by
 obtain ⟨s1, n1, s2, n2, s3, n3⟩ := hS
 obtain ⟨⟨y, e, σ⟩, k1, k2, k3, k4, k5, k6, k7, k8, k9, k10, k11, k12⟩ := hf
 obtain ⟨w1, h1, w2, h2, w3, w4, w5, w6, w7, w8, w9, c5, c6⟩ := N.wraps
 simp only at k1 k2 k3 k4 k5 k6 k7 k8 k9 k10 k11 k12
 subst k2; subst k4
 unfold qbi at *
 rw [qx qi qf]
 have g4 : ¬ (m : Int) > (mid : Int) := fun h => g1 (Int.ofNat_lt.1 h)
 have e1 : ¬ (start : Int) < (m : Int) := fun h => d1 (Int.ofNat_lt.1 h)
 have e2 : ¬ (m : Int) < (fin : Int) := fun h => d2 (Int.ofNat_lt.1 h)
 have e3 : (a : Int) < (start : Int) := Int.ofNat_lt.2 d3
 have e5 : ¬ (mid : Int) < (fin : Int) := fun h => d1 (c5.1 (Int.ofNat_lt.1 h))
 have e6 : ¬ (start : Int) < (mid : Int) := fun h => d2 (c6.1 (Int.ofNat_lt.1 h))
 have e4 : (fin : Int) < (b : Int) := Int.ofNat_lt.2 d4
 have r1 := n1 (fun h => d1 h.1); subst r1
 have r2 := n2 (fun h => d2 (c6.1 h.2)); subst r2
 have r3 := n3 (fun h => d1 (c5.1 h.1)); subst r3
 simp only [qg, w1, w2, w3, w4, w5, w6, w7, w8, w9, h1, h2, g4, k1, k3, k6, k7, k10, k11, k12, e1, e3, e5, e6, qv, qn, Ev.exec, qb, qe, qc, qai, Ev.Opnd.ev, Ev.Env.get, Ev.Env.set, Ev.Env.unset, Ev.look, qo, qaf, qb8, qam, ql, qas, qm, qaj, Ev.kill, qah, qr, Ev.keep, qad, qw, qd, Ev.SObj.lo, qa1, qba, qbn, qe3, qj, ↓qs, ↓qaq, ↓reduceIte, zga, zgb, zgc, zfe, Nat.reduceAdd, Nat.reduceEqDiff, reduceCtorEq, zgv, zgw, zfc, zfa, zgx, zfd, zgu, zgy]
theorem qzh (x1 x2 y1 y2 a m b mid nn lo hi p start fin : Nat) (D D2 D3 D4 : List Evt) (N : Nums n x1 x2 y1 y2 a m b mid nn lo hi p start fin) (g1 : ¬ mid < m)
  (d1 : ¬ start < m) (d2 : ¬ m < fin) (d3 : a < start) (d4 : ¬ fin < b)
  (hf : qk9 g cl n a m b mid nn a m p start D) (hS : Steps g cl n a m b mid start fin D D2 D3 D4) : qbi g cl n a m b D D4 := by
 obtain ⟨s1, n1, s2, n2, s3, n3⟩ := hS
 obtain ⟨⟨y, e, σ⟩, k1, k2, k3, k4, k5, k6, k7, k8, k9, k10, k11, k12⟩ := hf
 obtain ⟨w1, h1, w2, h2, w3, w4, w5, w6, w7, w8, w9, c5, c6⟩ := N.wraps
 simp only at k1 k2 k3 k4 k5 k6 k7 k8 k9 k10 k11 k12
 subst k2; subst k4
 unfold qbi at *
 rw [qx qi qf]
 have g4 : ¬ (m : Int) > (mid : Int) := fun h => g1 (Int.ofNat_lt.1 h)
 have e1 : ¬ (start : Int) < (m : Int) := fun h => d1 (Int.ofNat_lt.1 h)
 have e2 : ¬ (m : Int) < (fin : Int) := fun h => d2 (Int.ofNat_lt.1 h)
 have e3 : (a : Int) < (start : Int) := Int.ofNat_lt.2 d3
 have e5 : ¬ (mid : Int) < (fin : Int) := fun h => d1 (c5.1 (Int.ofNat_lt.1 h))
 have e6 : ¬ (start : Int) < (mid : Int) := fun h => d2 (c6.1 (Int.ofNat_lt.1 h))
 have e4 : ¬ (fin : Int) < (b : Int) := fun h => d4 (Int.ofNat_lt.1 h)
 have r1 := n1 (fun h => d1 h.1); subst r1
 have r2 := n2 (fun h => d2 (c6.1 h.2)); subst r2
 have r3 := n3 (fun h => d1 (c5.1 h.1)); subst r3
 simp only [qg, w1, w2, w3, w4, w5, w6, w7, w8, w9, h1, h2, g4, k1, k3, k6, k7, k10, k11, k12, e1, e3, e5, e6, qv, qn, Ev.exec, qb, qe, qc, qai, Ev.Opnd.ev, Ev.Env.get, Ev.Env.set, Ev.Env.unset, Ev.look, qo, qaf, qb8, qam, ql, qas, qm, qaj, Ev.kill, qah, qr, Ev.keep, qad, qw, qd, Ev.SObj.lo, qa1, qba, qbn, qe3, qj, ↓qs, ↓qaq, ↓reduceIte, zga, zgb, zgc, zfe, Nat.reduceAdd, Nat.reduceEqDiff, reduceCtorEq, zgv, zgw, zfc, zfa, zgx, zfd, zgu, zgy]
theorem q0g (x1 x2 y1 y2 a m b mid nn lo hi p start fin : Nat) (D D2 D3 D4 : List Evt) (N : Nums n x1 x2 y1 y2 a m b mid nn lo hi p start fin) (g1 : ¬ mid < m)
  (d1 : ¬ start < m) (d2 : ¬ m < fin) (d3 : ¬ a < start) (d4 : fin < b)
  (hf : qk9 g cl n a m b mid nn a m p start D) (hS : Steps g cl n a m b mid start fin D D2 D3 D4) : qbi g cl n a m b D D4 := by
 obtain ⟨s1, n1, s2, n2, s3, n3⟩ := hS
 obtain ⟨⟨y, e, σ⟩, k1, k2, k3, k4, k5, k6, k7, k8, k9, k10, k11, k12⟩ := hf
 obtain ⟨w1, h1, w2, h2, w3, w4, w5, w6, w7, w8, w9, c5, c6⟩ := N.wraps
 simp only at k1 k2 k3 k4 k5 k6 k7 k8 k9 k10 k11 k12
 subst k2; subst k4
 unfold qbi at *
 rw [qx qi qf]
 have g4 : ¬ (m : Int) > (mid : Int) := fun h => g1 (Int.ofNat_lt.1 h)
 have e1 : ¬ (start : Int) < (m : Int) := fun h => d1 (Int.ofNat_lt.1 h)
 have e2 : ¬ (m : Int) < (fin : Int) := fun h => d2 (Int.ofNat_lt.1 h)
 have e3 : ¬ (a : Int) < (start : Int) := fun h => d3 (Int.ofNat_lt.1 h)
 have e5 : ¬ (mid : Int) < (fin : Int) := fun h => d1 (c5.1 (Int.ofNat_lt.1 h))
 have e6 : ¬ (start : Int) < (mid : Int) := fun h => d2 (c6.1 (Int.ofNat_lt.1 h))
 have e4 : (fin : Int) < (b : Int) := Int.ofNat_lt.2 d4
 have r1 := n1 (fun h => d1 h.1); subst r1
 have r2 := n2 (fun h => d3 h.1); subst r2
 have r3 := n3 (fun h => d1 (c5.1 h.1)); subst r3
 simp only [qg, w1, w2, w3, w4, w5, w6, w7, w8, w9, h1, h2, g4, k1, k3, k6, k7, k10, k11, k12, e1, e3, e5, qv, qn, Ev.exec, qb, qe, qc, qai, Ev.Opnd.ev, Ev.Env.get, Ev.Env.set, Ev.Env.unset, Ev.look, qo, qaf, qb8, qam, ql, qas, qm, qaj, Ev.kill, qah, qr, Ev.keep, qad, qw, qd, Ev.SObj.lo, qa1, qba, qbn, qe3, qj, ↓qs, ↓qaq, ↓reduceIte, zga, zgb, zgc, zfe, Nat.reduceAdd, Nat.reduceEqDiff, reduceCtorEq, zgv, zgw, zfc, zfa, zgx, zfd, zgu, zgy]
theorem qyl (x1 x2 y1 y2 a m b mid nn lo hi p start fin : Nat) (D D2 D3 D4 : List Evt) (N : Nums n x1 x2 y1 y2 a m b mid nn lo hi p start fin) (g1 : ¬ mid < m)
  (d1 : ¬ start < m) (d2 : ¬ m < fin) (d3 : ¬ a < start) (d4 : ¬ fin < b)
  (hf : qk9 g cl n a m b mid nn a m p start D) (hS : Steps g cl n a m b mid start fin D D2 D3 D4) : qbi g cl n a m b D D4 := by
 obtain ⟨s1, n1, s2, n2, s3, n3⟩ := hS
 obtain ⟨⟨y, e, σ⟩, k1, k2, k3, k4, k5, k6, k7, k8, k9, k10, k11, k12⟩ := hf
 obtain ⟨w1, h1, w2, h2, w3, w4, w5, w6, w7, w8, w9, c5, c6⟩ := N.wraps
 simp only at k1 k2 k3 k4 k5 k6 k7 k8 k9 k10 k11 k12
 subst k2; subst k4
 unfold qbi at *
 rw [qx qi qf]
 have g4 : ¬ (m : Int) > (mid : Int) := fun h => g1 (Int.ofNat_lt.1 h)
 have e1 : ¬ (start : Int) < (m : Int) := fun h => d1 (Int.ofNat_lt.1 h)
 have e2 : ¬ (m : Int) < (fin : Int) := fun h => d2 (Int.ofNat_lt.1 h)
 have e3 : ¬ (a : Int) < (start : Int) := fun h => d3 (Int.ofNat_lt.1 h)
 have e5 : ¬ (mid : Int) < (fin : Int) := fun h => d1 (c5.1 (Int.ofNat_lt.1 h))
 have e6 : ¬ (start : Int) < (mid : Int) := fun h => d2 (c6.1 (Int.ofNat_lt.1 h))
 have e4 : ¬ (fin : Int) < (b : Int) := fun h => d4 (Int.ofNat_lt.1 h)
 have r1 := n1 (fun h => d1 h.1); subst r1
 have r2 := n2 (fun h => d3 h.1); subst r2
 have r3 := n3 (fun h => d1 (c5.1 h.1)); subst r3
 simp only [qg, w1, w2, w3, w4, w5, w6, w7, w8, w9, h1, h2, g4, k1, k3, k6, k7, k10, k11, k12, e1, e3, e5, qv, qn, Ev.exec, qb, qe, qc, qai, Ev.Opnd.ev, Ev.Env.get, Ev.Env.set, Ev.Env.unset, Ev.look, qo, qaf, qb8, qam, ql, qas, qm, qaj, Ev.kill, qah, qr, Ev.keep, qad, qw, qd, Ev.SObj.lo, qa1, qba, qbn, qe3, qj, ↓qs, ↓qaq, ↓reduceIte, zga, zgb, zgc, zfe, Nat.reduceAdd, Nat.reduceEqDiff, reduceCtorEq, zgv, zgw, zfc, zfa, zgx, zfd, zgu, zgy]
theorem qab7 (x1 x2 y1 y2 a m b mid nn lo hi p start fin : Nat) (D D2 D3 D4 : List Evt) (N : Nums n x1 x2 y1 y2 a m b mid nn lo hi p start fin) (hlo : mid < m ∧ nn = b + lo ∧ hi = mid ∨ ¬ mid < m ∧ lo = a ∧ hi = m)
  (hfind : ∃ y, itB (exec (evL T) itL none qbk) (qr [0, 1, 2, 3, 4, 18, 19, 20, 21, 22] true 1) ⟨[(0, .sl 0 g 0 n cl), (1, (ii a)), (2, (ii m)), (3, (ii b)), (4, (.fn (.func qq) [] [])), (18, (ii mid)), (19, (ii nn)), (20, (ii lo)), (21, (ii hi)), (22, (ii p))], []⟩ [.row 6 ((D).map Evt.r) g] = some y ∧
   (y.1 = .exit 8 ∧ y.2.1.marks = [] ∧ y.2.2 = [.row 6 ((D).map Evt.r) g] ∧ Ev.look y.2.1.vars 0 = some (.sl 0 g 0 n cl) ∧ Ev.look y.2.1.vars 1 = some (ii a) ∧ Ev.look y.2.1.vars 2 = some (ii m) ∧ Ev.look y.2.1.vars 3 = some (ii b) ∧ Ev.look y.2.1.vars 4 = some (.fn (.func qq) [] []) ∧ Ev.look y.2.1.vars 18 = some (ii mid) ∧
    Ev.look y.2.1.vars 19 = some (ii nn) ∧ Ev.look y.2.1.vars 20 = some (ii start)))
  (s1 : start < m → m < fin → (evL T).call qbc [.sl 0 g 0 n cl, (ii start), (ii m), (ii fin), (.fn (.func qq) [] [])] [.row 6 ((D).map Evt.r) g] = some (.tup [], [.row 6 ((D2).map Evt.r) g])) (n1 : ¬ (start < m ∧ m < fin) → D2 = D)
  (s2 : a < start → start < mid → qbi g cl n a start mid D2 D3) (n2 : ¬ (a < start ∧ start < mid) → D3 = D2)
  (s3 : mid < fin → fin < b → qbi g cl n mid fin b D3 D4) (n3 : ¬ (mid < fin ∧ fin < b) → D4 = D3) : qbi g cl n a m b D D4 := by
 rcases hlo with ⟨g1, g2, rfl⟩ | ⟨g1, rfl, rfl⟩
 ·rcases Classical.em (start < m) with d1 | d1 <;> rcases Classical.em (m < fin) with d2 | d2 <;> rcases Classical.em (a < start) with d3 | d3 <;> rcases Classical.em (fin < b) with d4 | d4
  ·exact qy9 g cl n x1 x2 y1 y2 a m b hi nn lo hi p start fin D D2 D3 D4 N g1 g2 d1 d2 d3 d4 hfind ⟨s1, n1, s2, n2, s3, n3⟩
  ·exact q0o g cl n x1 x2 y1 y2 a m b hi nn lo hi p start fin D D2 D3 D4 N g1 g2 d1 d2 d3 d4 hfind ⟨s1, n1, s2, n2, s3, n3⟩
  ·exact qzv g cl n x1 x2 y1 y2 a m b hi nn lo hi p start fin D D2 D3 D4 N g1 g2 d1 d2 d3 d4 hfind ⟨s1, n1, s2, n2, s3, n3⟩
  ·exact qz7 g cl n x1 x2 y1 y2 a m b hi nn lo hi p start fin D D2 D3 D4 N g1 g2 d1 d2 d3 d4 hfind ⟨s1, n1, s2, n2, s3, n3⟩
  ·exact qzc g cl n x1 x2 y1 y2 a m b hi nn lo hi p start fin D D2 D3 D4 N g1 g2 d1 d2 d3 d4 hfind ⟨s1, n1, s2, n2, s3, n3⟩
  ·exact qyb g cl n x1 x2 y1 y2 a m b hi nn lo hi p start fin D D2 D3 D4 N g1 g2 d1 d2 d3 d4 hfind ⟨s1, n1, s2, n2, s3, n3⟩
  ·exact qzi g cl n x1 x2 y1 y2 a m b hi nn lo hi p start fin D D2 D3 D4 N g1 g2 d1 d2 d3 d4 hfind ⟨s1, n1, s2, n2, s3, n3⟩
  ·exact q0u g cl n x1 x2 y1 y2 a m b hi nn lo hi p start fin D D2 D3 D4 N g1 g2 d1 d2 d3 d4 hfind ⟨s1, n1, s2, n2, s3, n3⟩
  ·exact qzd g cl n x1 x2 y1 y2 a m b hi nn lo hi p start fin D D2 D3 D4 N g1 g2 d1 d2 d3 d4 hfind ⟨s1, n1, s2, n2, s3, n3⟩
  ·exact qy5 g cl n x1 x2 y1 y2 a m b hi nn lo hi p start fin D D2 D3 D4 N g1 g2 d1 d2 d3 d4 hfind ⟨s1, n1, s2, n2, s3, n3⟩
  ·exact qz8 g cl n x1 x2 y1 y2 a m b hi nn lo hi p start fin D D2 D3 D4 N g1 g2 d1 d2 d3 d4 hfind ⟨s1, n1, s2, n2, s3, n3⟩
  ·exact qzs g cl n x1 x2 y1 y2 a m b hi nn lo hi p start fin D D2 D3 D4 N g1 g2 d1 d2 d3 d4 hfind ⟨s1, n1, s2, n2, s3, n3⟩
  ·exact qz9 g cl n x1 x2 y1 y2 a m b hi nn lo hi p start fin D D2 D3 D4 N g1 g2 d1 d2 d3 d4 hfind ⟨s1, n1, s2, n2, s3, n3⟩
  ·exact qzf g cl n x1 x2 y1 y2 a m b hi nn lo hi p start fin D D2 D3 D4 N g1 g2 d1 d2 d3 d4 hfind ⟨s1, n1, s2, n2, s3, n3⟩
  ·exact qy8 g cl n x1 x2 y1 y2 a m b hi nn lo hi p start fin D D2 D3 D4 N g1 g2 d1 d2 d3 d4 hfind ⟨s1, n1, s2, n2, s3, n3⟩
  ·exact qyj g cl n x1 x2 y1 y2 a m b hi nn lo hi p start fin D D2 D3 D4 N g1 g2 d1 d2 d3 d4 hfind ⟨s1, n1, s2, n2, s3, n3⟩
 ·rcases Classical.em (start < hi) with d1 | d1 <;> rcases Classical.em (hi < fin) with d2 | d2 <;> rcases Classical.em (lo < start) with d3 | d3 <;> rcases Classical.em (fin < b) with d4 | d4
  ·exact qy3 g cl n x1 x2 y1 y2 lo hi b mid nn lo hi p start fin D D2 D3 D4 N g1 d1 d2 d3 d4 hfind ⟨s1, n1, s2, n2, s3, n3⟩
  ·exact qy0 g cl n x1 x2 y1 y2 lo hi b mid nn lo hi p start fin D D2 D3 D4 N g1 d1 d2 d3 d4 hfind ⟨s1, n1, s2, n2, s3, n3⟩
  ·exact qy6 g cl n x1 x2 y1 y2 lo hi b mid nn lo hi p start fin D D2 D3 D4 N g1 d1 d2 d3 d4 hfind ⟨s1, n1, s2, n2, s3, n3⟩
  ·exact qyh g cl n x1 x2 y1 y2 lo hi b mid nn lo hi p start fin D D2 D3 D4 N g1 d1 d2 d3 d4 hfind ⟨s1, n1, s2, n2, s3, n3⟩
  ·exact q0n g cl n x1 x2 y1 y2 lo hi b mid nn lo hi p start fin D D2 D3 D4 N g1 d1 d2 d3 d4 hfind ⟨s1, n1, s2, n2, s3, n3⟩
  ·exact qzj g cl n x1 x2 y1 y2 lo hi b mid nn lo hi p start fin D D2 D3 D4 N g1 d1 d2 d3 d4 hfind ⟨s1, n1, s2, n2, s3, n3⟩
  ·exact qz6 g cl n x1 x2 y1 y2 lo hi b mid nn lo hi p start fin D D2 D3 D4 N g1 d1 d2 d3 d4 hfind ⟨s1, n1, s2, n2, s3, n3⟩
  ·exact q0l g cl n x1 x2 y1 y2 lo hi b mid nn lo hi p start fin D D2 D3 D4 N g1 d1 d2 d3 d4 hfind ⟨s1, n1, s2, n2, s3, n3⟩
  ·exact qy4 g cl n x1 x2 y1 y2 lo hi b mid nn lo hi p start fin D D2 D3 D4 N g1 d1 d2 d3 d4 hfind ⟨s1, n1, s2, n2, s3, n3⟩
  ·exact qy7 g cl n x1 x2 y1 y2 lo hi b mid nn lo hi p start fin D D2 D3 D4 N g1 d1 d2 d3 d4 hfind ⟨s1, n1, s2, n2, s3, n3⟩
  ·exact q04 g cl n x1 x2 y1 y2 lo hi b mid nn lo hi p start fin D D2 D3 D4 N g1 d1 d2 d3 d4 hfind ⟨s1, n1, s2, n2, s3, n3⟩
  ·exact qzb g cl n x1 x2 y1 y2 lo hi b mid nn lo hi p start fin D D2 D3 D4 N g1 d1 d2 d3 d4 hfind ⟨s1, n1, s2, n2, s3, n3⟩
  ·exact qyi g cl n x1 x2 y1 y2 lo hi b mid nn lo hi p start fin D D2 D3 D4 N g1 d1 d2 d3 d4 hfind ⟨s1, n1, s2, n2, s3, n3⟩
  ·exact qzh g cl n x1 x2 y1 y2 lo hi b mid nn lo hi p start fin D D2 D3 D4 N g1 d1 d2 d3 d4 hfind ⟨s1, n1, s2, n2, s3, n3⟩
  ·exact q0g g cl n x1 x2 y1 y2 lo hi b mid nn lo hi p start fin D D2 D3 D4 N g1 d1 d2 d3 d4 hfind ⟨s1, n1, s2, n2, s3, n3⟩
  ·exact qyl g cl n x1 x2 y1 y2 lo hi b mid nn lo hi p start fin D D2 D3 D4 N g1 d1 d2 d3 d4 hfind ⟨s1, n1, s2, n2, s3, n3⟩
end
set_option maxRecDepth 10000
section
variable (g : Nat) (cl : Bool) (n : Nat)
theorem q0i (hb : n < 2 ^ 61) : ∀ (k : Nat) (P X Y Q : List Evt), X.length + Y.length ≤ k → 0 < X.length → 0 < Y.length → X.Pairwise leE → Y.Pairwise leE → n = (P ++ (X ++ (Y ++ Q))).length → qcr (P ++ (X ++ (Y ++ Q))) →
  ∀ a m b : Nat, a = P.length → m = a + X.length → b = m + Y.length → ∃ Z : List Evt, Z.Perm (X ++ Y) ∧ Z.Pairwise leE ∧ qbi g cl n a m b (P ++ (X ++ (Y ++ Q))) (P ++ (Z ++ Q)) := by
 intro k
 induction k with
 | zero => intro P X Y Q h1 h2 h3; omega
 | succ k ih =>
  intro P X Y Q hk hX0 hY0 hX hY hn hkeys a m b ha hm hbb
  by_cases hx : X.length = 1
  ·obtain ⟨x, rfl⟩ := List.length_eq_one_iff.1 hx
   simp only [zgm, zgl, zga, zgb] at hn hkeys hm ⊢
   exact q9k g cl n P Y Q x hY hY0 hn hb hkeys a m b ha hm hbb
  by_cases hy : Y.length = 1
  ·obtain ⟨y, rfl⟩ := List.length_eq_one_iff.1 hy
   simp only [zgm, zgl, zga, zgb] at hn hkeys hbb ⊢
   exact q73 g cl n P X Q y hX (by omega) hn hb hkeys a m b ha hm hbb
  have hlen : n = P.length + (X.length + (Y.length + Q.length)) := by rw [hn]; simp
  obtain ⟨mid, hmid⟩ : ∃ mid, mid = (a + b) / 2 := ⟨_, rfl⟩
  obtain ⟨nn, hnn⟩ : ∃ nn, nn = mid + m := ⟨_, rfl⟩
  obtain ⟨p, hp⟩ : ∃ p, nn = p + 1 := ⟨nn - 1, by omega⟩
  obtain ⟨lo, hi, hlo⟩ : ∃ lo hi, mid < m ∧ nn = b + lo ∧ hi = mid ∨ ¬ mid < m ∧ lo = a ∧ hi = m := by
   by_cases c : mid < m
   ·exact ⟨nn - b, mid, .inl ⟨c, by omega, rfl⟩⟩
   ·exact ⟨a, m, .inr ⟨c, rfl, rfl⟩⟩
  obtain ⟨y, f1, start, f2, f3, f4, f5, f6, f7, f8, f9, f10, f11, f12, f13, f14, f15, f16⟩ := q53 g cl n (P ++ (X ++ (Y ++ Q))) hn hb hkeys a m b mid nn p lo hi hp (by omega) (fun c h1 h2 => by omega) (by omega) (by omega)
  obtain ⟨fin, hfin⟩ : ∃ fin, nn = start + fin := ⟨nn - start, by omega⟩
  obtain ⟨X1, X2, rfl, hX1⟩ : ∃ X1 X2, X = X1 ++ X2 ∧ X1.length = start - a := ⟨X.take (start - a), X.drop (start - a), (List.take_append_drop _ _).symm, by simp; omega⟩
  obtain ⟨Y1, Y2, rfl, hY1⟩ : ∃ Y1 Y2, Y = Y1 ++ Y2 ∧ Y1.length = fin - m := ⟨Y.take (fin - m), Y.drop (fin - m), (List.take_append_drop _ _).symm, by simp; omega⟩
  simp only [zgp] at hk hX0 hY0 hx hy hm hbb hlen
  obtain ⟨x1, x2, x3⟩ := List.pairwise_append.1 hX
  obtain ⟨y1, y2, y3⟩ := List.pairwise_append.1 hY
  have hst : start = a + X1.length := by omega
  have hfi : fin = m + Y1.length := by omega
  have N : Nums n X1.length X2.length Y1.length Y2.length a m b mid nn lo hi p start fin := ⟨by omega, by omega, hb, hmid, hnn, hp, hfin, hm, hbb, by omega, hst, hfi⟩
  simp only [List.append_assoc] at f1 f4 f15 f16 hn hkeys ⊢
  have hk2 : qcr (P ++ (X1 ++ (Y1 ++ (X2 ++ (Y2 ++ Q))))) := by
   intro z hz; refine hkeys z ?_
   simp only [List.mem_append] at hz ⊢
   rcases hz with h | h | h | h | h | h
   ·exact .inl h
   ·exact .inr (.inl h)
   ·exact .inr (.inr (.inr (.inl h)))
   ·exact .inr (.inr (.inl h))
   ·exact .inr (.inr (.inr (.inr (.inl h))))
   ·exact .inr (.inr (.inr (.inr (.inr h))))
  obtain ⟨Z1, p1, q1, s2, n2⟩ : ∃ Z1 : List Evt, Z1.Perm (X1 ++ Y1) ∧ Z1.Pairwise leE ∧ (a < start → start < mid → qbi g cl n a start mid (P ++ (X1 ++ (Y1 ++ (X2 ++ (Y2 ++ Q))))) (P ++ (Z1 ++ (X2 ++ (Y2 ++ Q))))) ∧ (¬ (a < start ∧ start < mid) → P ++ (Z1 ++ (X2 ++ (Y2 ++ Q))) = P ++ (X1 ++ (Y1 ++ (X2 ++ (Y2 ++ Q))))) := by
   by_cases c : a < start ∧ start < mid
   ·obtain ⟨Z, p1, q1, r1⟩ := ih P X1 Y1 (X2 ++ (Y2 ++ Q)) (by omega) (by omega) (by omega) x1 y1 (by rw [hlen]; simp; omega) hk2 a start mid ha hst (by omega)
    exact ⟨Z, p1, q1, fun _ _ => r1, fun h => absurd c h⟩
   ·refine ⟨X1 ++ Y1, .refl _, ?_, fun h1 h2 => absurd ⟨h1, h2⟩ c, fun _ => by simp⟩
    by_cases c1 : a < start
    ·rw [show Y1 = [] from List.eq_nil_of_length_eq_zero (by omega), List.append_nil]; exact x1
    ·rw [show X1 = [] from List.eq_nil_of_length_eq_zero (by omega), List.nil_append]; exact y1
  have lz := p1.length_eq
  rw [List.length_append] at lz
  have hk3 : qcr (P ++ Z1 ++ (X2 ++ (Y2 ++ Q))) := by
   intro z hz; refine hk2 z ?_
   have := p1.mem_iff (a := z)
   simp only [List.mem_append] at hz this ⊢
   rcases hz with (h | h) | h
   ·exact .inl h
   ·rcases this.1 h with h | h
    ·exact .inr (.inl h)
    ·exact .inr (.inr (.inl h))
   ·exact .inr (.inr (.inr h))
  obtain ⟨Z2, p2, q2, s3, n3⟩ : ∃ Z2 : List Evt, Z2.Perm (X2 ++ Y2) ∧ Z2.Pairwise leE ∧ (mid < fin → fin < b → qbi g cl n mid fin b (P ++ (Z1 ++ (X2 ++ (Y2 ++ Q)))) (P ++ (Z1 ++ (Z2 ++ Q)))) ∧ (¬ (mid < fin ∧ fin < b) → P ++ (Z1 ++ (Z2 ++ Q)) = P ++ (Z1 ++ (X2 ++ (Y2 ++ Q)))) := by
   by_cases c : mid < fin ∧ fin < b
   ·obtain ⟨Z, p2, q2, r2⟩ := ih (P ++ Z1) X2 Y2 Q (by omega) (by omega) (by omega) x2 y2 (by rw [hlen]; simp; omega) hk3 mid fin b (by simp; omega) (by omega) (by omega)
    simp only [List.append_assoc] at r2
    exact ⟨Z, p2, q2, fun _ _ => r2, fun h => absurd c h⟩
   ·refine ⟨X2 ++ Y2, .refl _, ?_, fun h1 h2 => absurd ⟨h1, h2⟩ c, fun _ => by simp⟩
    by_cases c1 : mid < fin
    ·rw [show Y2 = [] from List.eq_nil_of_length_eq_zero (by omega), List.append_nil]; exact x2
    ·rw [show X2 = [] from List.eq_nil_of_length_eq_zero (by omega), List.nil_append]; exact y2
  have ms := q56 qk0 hX hY (Z1 := Z1) (Z2 := Z2) ?_ ?_ p1 p2 q1 q2
  ·refine ⟨Z1 ++ Z2, by simpa using ms.1, ms.2, ?_⟩
   simp only [List.append_assoc]
   refine qab7 g cl n X1.length X2.length Y1.length Y2.length a m b mid nn lo hi p start fin _ _ _ _ N hlo ⟨y, f1, f2, f3, f4, f5, f6, f7, f8, f9, f10, f11, f12⟩ ?_ ?_ s2 n2 s3 n3
   ·intro c1 c2
    have r := qaaz g cl n (P ++ X1) X2 Y1 (Y2 ++ Q) (by omega) (by omega) (by rw [hlen]; simp; omega) hb start m fin (by simp; omega) (by omega) (by omega)
    simpa only [List.append_assoc] using r
   ·intro c
    by_cases c1 : start < m
    ·rw [show Y1 = [] from List.eq_nil_of_length_eq_zero (by omega)]; simp
    ·rw [show X2 = [] from List.eq_nil_of_length_eq_zero (by omega)]; simp
  ·intro u v hu hv
   have hlt : X1.length - 1 < X1.length := (List.getElem?_eq_some_iff.1 hu).1
   have hlt2 : 0 < Y2.length := (List.getElem?_eq_some_iff.1 hv).1
   rcases f15 with h | h
   ·omega
   ·refine h u v ?_ ?_
    ·rw [← hu]; exact qwz (L := P) (X := X1) (M := X2 ++ (Y1 ++ (Y2 ++ Q))) rfl hlt (by omega)
    ·rw [← hv]; exact qwz (L := P ++ (X1 ++ (X2 ++ Y1))) (X := Y2) (M := Q) (by simp) hlt2 (by simp; omega)
  ·intro u v hu hv
   have hlt : Y1.length - 1 < Y1.length := (List.getElem?_eq_some_iff.1 hu).1
   have hlt2 : 0 < X2.length := (List.getElem?_eq_some_iff.1 hv).1
   rcases f16 with h | h
   ·omega
   ·refine h u v ?_ ?_
    ·rw [← hu]; exact qwz (L := P ++ (X1 ++ X2)) (X := Y1) (M := Y2 ++ Q) (by simp) hlt (by simp; omega)
    ·rw [← hv]; exact qwz (L := P ++ X1) (X := X2) (M := Y1 ++ (Y2 ++ Q)) (by simp) hlt2 (by simp; omega)
end
set_option maxRecDepth 10000
theorem q7n {a : Nat} (h : a < 2 ^ 61) : IntKind.i64.wrap (2 * (a : Int)) = ((2 * a : Nat) : Int) := by rw [qaw (by omega) (by omega)]; omega
theorem qaav {a : Nat} (h : a < 2 ^ 61) : IntKind.i64.wrap ((a : Int) * 2) = ((2 * a : Nat) : Int) := by rw [qaw (by omega) (by omega)]; omega
section
variable (g : Nat) (cl : Bool) (n : Nat)
theorem qaai (l : List Evt) (hn : n = l.length) (hb : n < 2 ^ 58) (hk : qcr l) :
  ∃ y, itB (exec (evL T) itL none qco) (qr [0, 1, 2, 6, 7, 8] true 1) ⟨[(0, .sl 0 g 0 n cl), (1, (ii n)), (2, (.fn (.func qq) [] [])), (6, (ii 20)), (7, (ii 0)), (8, (ii 20))], []⟩ [.row 6 ((l).map Evt.r) g] = some y ∧
   ∃ a : Nat, y.1 = .exit 0 ∧ y.2.1.marks = [] ∧ Ev.look y.2.1.vars 0 = some (.sl 0 g 0 n cl) ∧ Ev.look y.2.1.vars 1 = some (ii n) ∧ Ev.look y.2.1.vars 2 = some (.fn (.func qq) [] []) ∧ Ev.look y.2.1.vars 6 = some (ii 20) ∧ Ev.look y.2.1.vars 7 = some (ii a) ∧
    ∃ Dn Rs : List Evt, y.2.2 = [.row 6 ((Dn ++ Rs).map Evt.r) g] ∧ a = Dn.length ∧ (Dn ++ Rs).Perm l ∧ Rs.length < 20 ∧ ∀ t, Blk leE 20 t → Blk leE 20 (Dn ++ t) := by
 have key := qhb (f := exec (evL T) itL none qco) (s := qr [0, 1, 2, 6, 7, 8] true 1) (τ := List Evt × Nat)
  (fun s => ⟨[(0, .sl 0 g 0 n cl), (1, (ii n)), (2, (.fn (.func qq) [] [])), (6, (ii 20)), (7, (ii s.2)), (8, (ii ((s.2 + 20 : Nat))))], []⟩) (fun s => [.row 6 ((s.1).map Evt.r) g]) (fun s => n + 20 - s.2)
  (fun s => ∃ Dn Rs, s.1 = Dn ++ Rs ∧ s.2 = Dn.length ∧ (Dn ++ Rs).Perm l ∧ ∀ t, Blk leE 20 t → Blk leE 20 (Dn ++ t))
  (fun y => ∃ a : Nat, y.1 = .exit 0 ∧ y.2.1.marks = [] ∧ Ev.look y.2.1.vars 0 = some (.sl 0 g 0 n cl) ∧ Ev.look y.2.1.vars 1 = some (ii n) ∧ Ev.look y.2.1.vars 2 = some (.fn (.func qq) [] []) ∧ Ev.look y.2.1.vars 6 = some (ii 20) ∧ Ev.look y.2.1.vars 7 = some (ii a) ∧
    ∃ Dn Rs : List Evt, y.2.2 = [.row 6 ((Dn ++ Rs).map Evt.r) g] ∧ a = Dn.length ∧ (Dn ++ Rs).Perm l ∧ Rs.length < 20 ∧ ∀ t, Blk leE 20 t → Blk leE 20 (Dn ++ t)) ?_ (l, 0) ⟨[], l, rfl, rfl, .refl _, fun t h => h⟩
 ·exact key
 rintro ⟨D, a⟩ ⟨Dn, Rs, hD, ha, hp, hB⟩
 simp only at hD ha ⊢
 have hl := hp.length_eq
 rw [List.length_append] at hl
 by_cases c : a + 20 ≤ n
 case neg =>
  have h1 : ¬ ((a + 20 : Nat) : Int) ≤ (n : Int) := by omega
  right
  simp only [qco, h1, Ev.exec, qb, qe, qc, qai, Ev.Opnd.ev, Ev.Env.get, Ev.Env.set, Ev.look, qmv, ↓qs, Ev.it1, ↓reduceIte, Nat.reduceEqDiff, reduceCtorEq, zgw, zfa, zgy]
  exact ⟨_, rfl, a, rfl, rfl, rfl, rfl, rfl, rfl, rfl, Dn, Rs, by rw [hD], ha, hp, by omega, hB⟩
 have h1 : ((a + 20 : Nat) : Int) ≤ (n : Int) := by omega
 obtain ⟨S, Q, rfl, hS⟩ : ∃ S Q, Rs = S ++ Q ∧ S.length = 20 := ⟨Rs.take 20, Rs.drop 20, (List.take_append_drop _ _).symm, by simp; omega⟩
 rw [List.length_append] at hl
 have hkD : qcr (Dn ++ (S ++ Q)) := hk.perm hp
 obtain ⟨S', p1, q1, r1⟩ := qwr g cl n Dn S Q (by simp; omega) (by omega) hkD a (a + 20) ha (by omega)
 have w1 : IntKind.i64.wrap (((a + 20 : Nat) : Int) + 20) = ((a + 20 + 20 : Nat) : Int) := by rw [qaw (by omega) (by omega)]; omega
 rw [← hD] at r1
 left
 refine ⟨(Dn ++ (S' ++ Q), a + 20), ?_, ⟨Dn ++ S', Q, by simp, ?_, ?_, ?_⟩, by simp only; omega⟩
 ·simp only [qco, h1, w1, r1, qv, Ev.exec, qb, qe, qc, qd3, qai, Ev.evs, Ev.Opnd.ev, Ev.Env.get, Ev.Env.set, Ev.look, qaf, qmv, qr, Ev.keep, qad, qw, qd, Ev.SObj.lo, qa1, qbn, qe3, qj, ↓qs, Ev.it1, ↓reduceIte, zgc, zfe, Nat.reduceEqDiff, reduceCtorEq, zgv, zfc, zgx, zgu, zgy]
 ·have := p1.length_eq; simp; omega
 ·rw [List.append_assoc]; exact (List.Perm.append_left Dn (p1.append_right Q)).trans hp
 ·intro t ht
  rw [List.append_assoc]
  exact hB _ (.more (by rw [p1.length_eq]; exact hS) q1 ht)
theorem qabk (l D0 : List Evt) (hn : n = l.length) (hb : n < 2 ^ 58) (hk : qcr l) (s : Nat) (hs : 0 < s) (hsn : s < n) (hp0 : D0.Perm l) (hB0 : Blk leE s D0) :
  ∃ y, itB (exec (evL T) itL none qcm) (qr [0, 1, 2, 6, 7, 8] true 1) ⟨[(0, .sl 0 g 0 n cl), (1, (ii n)), (2, (.fn (.func qq) [] [])), (6, (ii s)), (7, (ii 0)), (8, (ii ((2 * s : Nat))))], []⟩ [.row 6 ((D0).map Evt.r) g] = some y ∧
   ∃ a : Nat, y.1 = .exit 4 ∧ y.2.1.marks = [] ∧ Ev.look y.2.1.vars 0 = some (.sl 0 g 0 n cl) ∧ Ev.look y.2.1.vars 1 = some (ii n) ∧ Ev.look y.2.1.vars 2 = some (.fn (.func qq) [] []) ∧ Ev.look y.2.1.vars 6 = some (ii s) ∧ Ev.look y.2.1.vars 7 = some (ii a) ∧
    ∃ Dn Rs : List Evt, y.2.2 = [.row 6 ((Dn ++ Rs).map Evt.r) g] ∧ a = Dn.length ∧ (Dn ++ Rs).Perm l ∧ Rs.length < 2 * s ∧ Blk leE s Rs ∧ ∀ t, Blk leE (2 * s) t → Blk leE (2 * s) (Dn ++ t) := by
 have key := qhb (f := exec (evL T) itL none qcm) (s := qr [0, 1, 2, 6, 7, 8] true 1) (τ := List Evt × Nat)
  (fun z => ⟨[(0, .sl 0 g 0 n cl), (1, (ii n)), (2, (.fn (.func qq) [] [])), (6, (ii s)), (7, (ii z.2)), (8, (ii ((z.2 + 2 * s : Nat))))], []⟩) (fun z => [.row 6 ((z.1).map Evt.r) g]) (fun z => n + 2 * s - z.2)
  (fun z => ∃ Dn Rs, z.1 = Dn ++ Rs ∧ z.2 = Dn.length ∧ (Dn ++ Rs).Perm l ∧ Blk leE s Rs ∧ ∀ t, Blk leE (2 * s) t → Blk leE (2 * s) (Dn ++ t))
  (fun y => ∃ a : Nat, y.1 = .exit 4 ∧ y.2.1.marks = [] ∧ Ev.look y.2.1.vars 0 = some (.sl 0 g 0 n cl) ∧ Ev.look y.2.1.vars 1 = some (ii n) ∧ Ev.look y.2.1.vars 2 = some (.fn (.func qq) [] []) ∧ Ev.look y.2.1.vars 6 = some (ii s) ∧ Ev.look y.2.1.vars 7 = some (ii a) ∧
    ∃ Dn Rs : List Evt, y.2.2 = [.row 6 ((Dn ++ Rs).map Evt.r) g] ∧ a = Dn.length ∧ (Dn ++ Rs).Perm l ∧ Rs.length < 2 * s ∧ Blk leE s Rs ∧ ∀ t, Blk leE (2 * s) t → Blk leE (2 * s) (Dn ++ t)) ?_ (D0, 0) ⟨[], D0, rfl, rfl, hp0, hB0, fun t h => h⟩
 ·simp only [zfd] at key; exact key
 rintro ⟨D, a⟩ ⟨Dn, Rs, hD, ha, hp, hR, hB⟩
 simp only at hD ha ⊢
 have hl := hp.length_eq
 rw [List.length_append] at hl
 by_cases c : a + 2 * s ≤ n
 case neg =>
  have h1 : ¬ ((a + 2 * s : Nat) : Int) ≤ (n : Int) := by omega
  right
  simp only [qcm, h1, Ev.exec, qb, qe, qc, qai, Ev.Opnd.ev, Ev.Env.get, Ev.Env.set, Ev.look, qmv, ↓qs, Ev.it1, ↓reduceIte, Nat.reduceEqDiff, reduceCtorEq, zgw, zfa, zgy]
  exact ⟨_, rfl, a, rfl, rfl, rfl, rfl, rfl, rfl, rfl, Dn, Rs, by rw [hD], ha, hp, by omega, hR, hB⟩
 have h1 : ((a + 2 * s : Nat) : Int) ≤ (n : Int) := by omega
 obtain ⟨X, Y, Q, rfl, hX, hY, qX, qY, hQ⟩ : ∃ X Y Q, Rs = X ++ (Y ++ Q) ∧ X.length = s ∧ Y.length = s ∧ X.Pairwise leE ∧ Y.Pairwise leE ∧ Blk leE s Q := by
  obtain ⟨X, R1, rfl, h2, h3, h4⟩ := hR.split (by omega)
  rw [List.length_append] at hl
  by_cases c2 : R1.length ≤ s
  ·exact ⟨X, R1, [], by simp, h2, by omega, h3, h4.sorted c2, .nil⟩
  ·obtain ⟨Y, Q, rfl, h5, h6, h7⟩ := h4.split (by omega)
   exact ⟨X, Y, Q, rfl, h2, h5, h3, h6, h7⟩
 rw [List.length_append, List.length_append] at hl
 have hkD : qcr (Dn ++ (X ++ (Y ++ Q))) := hk.perm hp
 obtain ⟨Z, p1, q1, r1⟩ := q0i g cl n (by omega) _ Dn X Y Q (Nat.le_refl _) (by omega) (by omega) qX qY (by simp; omega) hkD a (a + s) (a + 2 * s) ha (by omega) (by omega)
 have w1 : IntKind.i64.wrap ((a : Int) + (s : Int)) = ((a + s : Nat) : Int) := qke (by omega)
 have w2 : IntKind.i64.wrap (2 * (s : Int)) = ((2 * s : Nat) : Int) := q7n (by omega)
 have w3 : IntKind.i64.wrap (((a + 2 * s : Nat) : Int) + ((2 * s : Nat) : Int)) = ((a + 2 * s + 2 * s : Nat) : Int) := qke (by omega)
 unfold qbi at r1
 rw [← hD] at r1
 have hz := p1.length_eq
 rw [List.length_append] at hz
 left
 refine ⟨(Dn ++ (Z ++ Q), a + 2 * s), ?_, ⟨Dn ++ Z, Q, by simp, ?_, ?_, hQ, ?_⟩, by simp only; omega⟩
 ·simp only [qcm, h1, w1, w2, w3, r1, qv, Ev.exec, qb, qe, qc, qd3, qai, Ev.evs, Ev.Opnd.ev, Ev.Env.get, Ev.Env.set, Ev.look, qaf, q5z, qmv, qr, Ev.keep, qad, qw, qd, Ev.SObj.lo, qa1, qbn, qe3, qj, ↓qs, Ev.it1, ↓reduceIte, zgc, zfe, Nat.reduceEqDiff, reduceCtorEq, zgv, zfc, zgx, zgu, zgy]
 ·simp; omega
 ·rw [List.append_assoc]
  refine (List.Perm.append_left Dn (p1.append_right Q)).trans ?_
  rw [List.append_assoc]; exact hp
 ·intro t ht
  rw [List.append_assoc]
  exact hB _ (.more (by omega) q1 ht)
theorem q97 (l D0 : List Evt) (hn : n = l.length) (hb : n < 2 ^ 58) (hk : qcr l) (hp0 : D0.Perm l) (hB0 : Blk leE 20 D0) :
  ∃ y, itB (exec (evL T) itL none qb2) (qr [0, 1, 2, 6] true 1) ⟨[(0, .sl 0 g 0 n cl), (1, (ii n)), (2, (.fn (.func qq) [] [])), (6, (ii 20))], []⟩ [.row 6 ((D0).map Evt.r) g] = some y ∧
   (y.1 = .exit 2 ∧ y.2.1.marks = [] ∧ ∃ l' : List Evt, y.2.2 = [.row 6 ((l').map Evt.r) g] ∧ l'.Perm l ∧ l'.Pairwise leE) := by
 have key := qhb (f := exec (evL T) itL none qb2) (s := qr [0, 1, 2, 6] true 1) (τ := List Evt × Nat)
  (fun z => ⟨[(0, .sl 0 g 0 n cl), (1, (ii n)), (2, (.fn (.func qq) [] [])), (6, (ii z.2))], []⟩) (fun z => [.row 6 ((z.1).map Evt.r) g]) (fun z => n - z.2)
  (fun z => z.1.Perm l ∧ 0 < z.2 ∧ Blk leE z.2 z.1)
  (fun y => y.1 = .exit 2 ∧ y.2.1.marks = [] ∧ ∃ l' : List Evt, y.2.2 = [.row 6 ((l').map Evt.r) g] ∧ l'.Perm l ∧ l'.Pairwise leE) ?_ (D0, 20) ⟨hp0, by simp, hB0⟩
 ·exact key
 rintro ⟨D, s⟩ ⟨hp, hs, hB⟩
 simp only at hp hs hB ⊢
 have hl := hp.length_eq
 by_cases c : s < n
 case neg =>
  have h1 : ¬ (s : Int) < (n : Int) := by omega
  right
  simp only [qb2, h1, Ev.exec, qb, qe, qc, qai, Ev.Opnd.ev, Ev.Env.get, Ev.Env.set, Ev.look, ql, ↓qs, Ev.it1, ↓reduceIte, Nat.reduceEqDiff, reduceCtorEq, zgw, zfa, zgy]
  exact ⟨_, rfl, rfl, rfl, D, rfl, hp, hB.sorted (by omega)⟩
 have h1 : (s : Int) < (n : Int) := by omega
 obtain ⟨⟨y, e, σ⟩, k1, a, k2, k3, k4, k5, k6, k7, k8, Dn, Rs, k9, k10, k11, k12, k13, k14⟩ := qabk g cl n l D hn hb hk s hs c hp hB
 simp only at k1 k2 k3 k4 k5 k6 k7 k8 k9
 subst k2; subst k9
 have hl2 := k11.length_eq
 rw [List.length_append] at hl2
 have w1 : IntKind.i64.wrap ((a : Int) + (s : Int)) = ((a + s : Nat) : Int) := qke (by omega)
 have w2 : IntKind.i64.wrap (2 * (s : Int)) = ((2 * s : Nat) : Int) := q7n (by omega)
 have w3 : IntKind.i64.wrap ((s : Int) * 2) = ((2 * s : Nat) : Int) := qaav (by omega)
 left
 by_cases c2 : a + s < n
 ·have h2 : ((a + s : Nat) : Int) < (n : Int) := by omega
  obtain ⟨X, Y, rfl, hX, qX, hY⟩ := k13.split (by omega)
  rw [List.length_append] at hl2 k12
  have hkD : qcr (Dn ++ (X ++ (Y ++ []))) := by rw [List.append_nil]; exact hk.perm k11
  obtain ⟨Z, p1, q1, r1⟩ := q0i g cl n (by omega) _ Dn X Y [] (Nat.le_refl _) (by omega) (by omega) qX (hY.sorted (by omega)) (by simp; omega) hkD a (a + s) n k10 (by omega) (by omega)
  unfold qbi at r1
  simp only [zgn] at r1
  have hz := p1.length_eq
  rw [List.length_append] at hz
  refine ⟨(Dn ++ Z, 2 * s), ?_, ⟨(List.Perm.append_left Dn p1).trans k11, by simp only; omega, k14 _ (.last (by omega) q1)⟩, by simp only; omega⟩
  simp only [qb2, h1, h2, w1, w2, w3, k1, k3, k4, k5, k6, k7, k8, r1, qv, Ev.exec, qb, qe, qc, qd3, qai, Ev.evs, Ev.Opnd.ev, Ev.Env.get, Ev.Env.set, Ev.look, qaf, q5z, ql, qr, Ev.keep, qad, qw, qd, Ev.SObj.lo, qa1, qbn, qe3, qj, ↓qs, ↓qaq, Ev.it1, ↓reduceIte, zga, zgb, zgc, zfe, Nat.reduceEqDiff, reduceCtorEq, zgv, zfc, zgx, zfd, zgu, zgy]
 ·have h2 : ¬ ((a + s : Nat) : Int) < (n : Int) := by omega
  refine ⟨(Dn ++ Rs, 2 * s), ?_, ⟨k11, by simp only; omega, k14 _ (.last (by omega) (k13.sorted (by omega)))⟩, by simp only; omega⟩
  simp only [qb2, h1, h2, w1, w2, w3, k1, k3, k4, k5, k6, k7, k8, qv, Ev.exec, qb, qe, qc, qai, Ev.Opnd.ev, Ev.Env.get, Ev.Env.set, Ev.look, qaf, q5z, ql, qr, Ev.keep, qad, qw, qd, Ev.SObj.lo, qa1, qbn, qe3, qj, ↓qs, ↓qaq, Ev.it1, ↓reduceIte, zga, zgb, zgc, zfe, Nat.reduceEqDiff, reduceCtorEq, zgv, zgw, zfc, zfa, zgx, zfd, zgu, zgy]
theorem q9t (l : List Evt) (hn : n = l.length) (hb : n < 2 ^ 58) (hk : qcr l) :
  ∃ l' : List Evt, l'.Perm l ∧ l'.Pairwise leE ∧ (evL T).call qbq [.sl 0 g 0 n cl, (ii n), (.fn (.func qq) [] [])] [.row 6 ((l).map Evt.r) g] = some (.tup [], [.row 6 ((l').map Evt.r) g]) := by
 obtain ⟨⟨y, e, σ⟩, k1, a, k2, k3, k4, k5, k6, k7, k8, Dn, Rs, k9, k10, k11, k12, k13⟩ := qaai g cl n l hn hb hk
 simp only at k1 k2 k3 k4 k5 k6 k7 k8 k9
 subst k2; subst k9
 have hl := k11.length_eq
 rw [List.length_append] at hl
 obtain ⟨R', p1, q1, r1⟩ := qwr g cl n Dn Rs [] (by simp; omega) (by omega) (by rw [List.append_nil]; exact hk.perm k11) a n k10 (by omega)
 simp only [zgn] at r1
 obtain ⟨⟨y', e', σ'⟩, l1, l2, l3, l', l4, l5, l6⟩ := q97 g cl n l (Dn ++ R') hn hb hk ((List.Perm.append_left Dn p1).trans k11) (k13 _ (.last (by rw [p1.length_eq]; omega) q1))
 simp only at l1 l2 l3 l4
 subst l2; subst l4
 refine ⟨l', l5, l6, ?_⟩
 rw [qx qkz qkr]
 simp only [qds, k1, k3, k4, k5, k6, k7, k8, r1, l1, l3, qv, qn, Ev.exec, qb, qe, qc, qd3, qai, Ev.evs, Ev.Opnd.ev, Ev.Env.get, Ev.Env.set, Ev.look, qo, qm, qaj, Ev.kill, qah, qr, Ev.keep, qad, qw, qd, Ev.SObj.lo, qa1, qba, qbn, qe3, qj, ↓qs, ↓qaq, ↓reduceIte, zga, zgb, zgc, zfe, Nat.reduceAdd, Nat.reduceEqDiff, reduceCtorEq, zgv, zfc, zgx, zfd, zgu, zgy]
theorem q4f (l : List Evt) (hn : n = l.length) (hb : n < 2 ^ 58) (hk : qcr l) :
  ∃ l' : List Evt, l'.Perm l ∧ l'.Pairwise leE ∧ (evL T).call qax [.sl 0 g 0 n cl, (.fn (.func qq) [] [])] [.row 6 ((l).map Evt.r) g] = some (.tup [], [.row 6 ((l').map Evt.r) g]) := by
 obtain ⟨l', h1, h2, h3⟩ := q9t g cl n l hn hb hk
 refine ⟨l', h1, h2, ?_⟩
 rw [qx qg8 qgw]
 simp only [qb5, h3, qv, qn, Ev.exec, qb, qe, qc, qd3, qai, Ev.evs, Ev.Opnd.ev, Ev.Env.get, Ev.Env.set, Ev.look, qo, qm, qaj, Ev.kill, qah, qd, Ev.SObj.lo, qba, qj, ↓qs, ↓reduceIte, zga, zgb, zgc, zfe, Nat.reduceAdd, Nat.reduceEqDiff, reduceCtorEq, zfc, zgx, zfd, zgy]
end
set_option maxRecDepth 10000
def sortL (l : List Evt) : List Evt := l.mergeSort (fun a b => decide (qoa a b ≤ 0))
def qsl (l : List Evt) : Prop := l.Pairwise (fun a b => ¬ qoa a b = 0)
theorem qd2 (l : List Evt) : (sortL l).Perm l := List.mergeSort_perm _ _
theorem qfj (l : List Evt) : (sortL l).Pairwise leE := by
 have := List.pairwise_mergeSort (le := fun a b => decide (qoa a b ≤ 0)) (fun a b c h1 h2 => by simp only [decide_eq_true_eq] at h1 h2 ⊢; exact qk0 a b c h1 h2) (fun a b => by
  have := qoy a b
  by_cases h : qoa a b ≤ 0
  ·simp [h]
  ·have : qoa b a ≤ 0 := by omega
   simp [this]) l
 exact this.imp (fun h => of_decide_eq_true h)
theorem qsl.eq {l : List Evt} (h : qsl l) {a b : Evt} (ha : a ∈ l) (hb : b ∈ l) (hc : qoa a b = 0) : a = b := by
 obtain ⟨i, hi⟩ := List.mem_iff_getElem?.1 ha
 obtain ⟨j, hj⟩ := List.mem_iff_getElem?.1 hb
 obtain ⟨hi', rfl⟩ := List.getElem?_eq_some_iff.1 hi
 obtain ⟨hj', rfl⟩ := List.getElem?_eq_some_iff.1 hj
 rw [qsl, List.pairwise_iff_getElem] at h
 rcases Nat.lt_trichotomy i j with c | c | c
 ·exact absurd hc (h i j hi' hj' c)
 ·subst c; rfl
 ·exact absurd (by rw [qoy]; omega) (h j i hj' hi' c)
theorem qlp {l l' : List Evt} (hd : qsl l) (hp : l'.Perm l) (hs : l'.Pairwise leE) : l' = sortL l := by
 refine List.Perm.eq_of_pairwise (le := leE) (fun a b ha hb h1 h2 => ?_) hs (qfj l) (hp.trans (qd2 l).symm)
 refine hd.eq (hp.mem_iff.1 ha) ((qd2 l).mem_iff.1 hb) ?_
 have := qoy a b
 unfold leE at h1 h2; omega
theorem qsl.perm {l l' : List Evt} (h : qsl l) (p : l'.Perm l) : qsl l' := (p.pairwise_iff (fun {x y} hxy hyx => hxy (by rw [qoy]; omega))).2 h
theorem qqe (l : List Evt) (c : Bool) (h : l.length ≤ 1000000) : (evL T).call qbg [(.fsl ((l).map Evt.r) c)] [] = some (.sl 0 0 0 l.length false, [.row 6 (l.map Evt.r) 0]) := by
 have h' : l.length * 64 ≤ 140737488355328 := by omega
 rw [q3t qi2]
 simp only [qr7, qv, qfy, h', qu, qj, qh, zgi, ↓reduceIte, Nat.reduceLT, Nat.reducePow, zfc, zgx, zgy]
theorem qtk (l : List Evt) (c : Bool) (h : l.length ≤ 1000000) (hk : qcr l) : ∃ l' : List Evt, l'.Perm l ∧ l'.Pairwise leE ∧ qa4 (evL T) qeg [(.fsl ((l).map Evt.r) c)] = some (.fsl ((l').map Evt.r) false) := by
 have hcl := qqe l c h
 obtain ⟨l', h1, h2, h3⟩ := q4f 0 false l.length l rfl (by omega) hk
 refine ⟨l', h1, h2, ?_⟩
 have hlen := h1.length_eq
 rw [qa4, qx qsq qrv]
 rw [← hlen] at hcl h3
 simp only [qj6, hcl, h3, qv, qn, Ev.exec, qb, qe, qc, qps, qd3, q2k, Ev.AV.shift, qai, Ev.evs, Ev.Opnd.ev, Ev.Env.get, Ev.Env.set, Ev.look, qo, qm, qab, qaj, Ev.kill, qah, qd, qu, qbn, qj, qh, qgx, qe8, qgi, qem, qfw, q46, zgi, ↓qs, ↓reduceIte, zga, zgb, zgd, zgo, zgg, zgl, Nat.reduceEqDiff, Nat.reduceLT, reduceCtorEq, zgw, zfc, zfa, zgx, and_true, zfd, Nat.add_zero, Nat.le_refl, zgy]
theorem qss (l : List Evt) (c : Bool) (h : l.length ≤ 1000000) (hk : qcr l) (hd : qsl l) : qa4 (evL T) qeg [(.fsl ((l).map Evt.r) c)] = some (.fsl ((sortL l).map Evt.r) false) := by
 obtain ⟨l', h1, h2, h3⟩ := qtk l c h hk
 rw [← qlp hd h1 h2]; exact h3
theorem qjz (x y : Evt) (hx : x.key.length ≤ 9223372036854775807) (hy : y.key.length ≤ 9223372036854775807) : qa4 (evL T) qc8 [(.agg [(ii x.time), (.fsl ((x.key).map qb9) false), (ii x.lp), (ii x.kind), (ii x.proc), (ii x.arg)]), (.agg [(ii y.time), (.fsl ((y.key).map qb9) false), (ii y.lp), (ii y.kind), (ii y.proc), (ii y.arg)])] = some (ii (qoa x y)) := by
 obtain ⟨xt, xk, xl, xi, xp, xa⟩ := x
 obtain ⟨yt, yk, yl, yi, yp, ya⟩ := y
 have hc := qmz xt yt
 have hk := qs2 xk yk false false hx hy
 have hz := (qjx xt yt).2.1
 rw [qa4, qx qqt qp0]
 by_cases h : xt = yt
 ·subst h
  have h0 : qpq xt xt = 0 := hz.2 rfl
  simp only [qf4, qoa, h0, hk, qag, qn, Ev.exec, qb, qe, qc, qa5, qai, Ev.evs, Ev.Opnd.ev, Ev.Env.get, Ev.Env.set, Ev.look, qo, qk, qae, Ev.AV.cells, qy, Ev.AV.plain, qbx, qm, qab, qaj, Ev.kill, qah, qd, qa1, qu, qj, qh, qal, ↓qs, ↓reduceIte, zga, zgb, zfe, zgf, zgg, zgh, Nat.reduceAdd, Nat.reduceEqDiff, reduceCtorEq, zgw, zfc, zfa, zgx, ne_eq, zfb, not_true_eq_false, zff, zfd, zgy]
 ·have h0 : ¬ qpq xt yt = 0 := fun e => h (hz.1 e)
  simp only [qf4, qoa, h0, h, hc, qn, Ev.exec, qb, qe, qc, qa5, qai, Ev.evs, Ev.Opnd.ev, Ev.Env.get, Ev.Env.set, Ev.look, qo, qk, qae, Ev.AV.cells, qy, Ev.AV.plain, qbx, qm, qab, qaj, Ev.kill, qah, qd, qa1, qj, qh, qal, ↓qs, ↓reduceIte, zga, zgb, zfe, zgg, zgh, Nat.reduceAdd, Nat.reduceEqDiff, reduceCtorEq, zgv, zfc, zfa, zgx, ne_eq, zfb, zff, zfd, zgy]
set_option maxRecDepth 10000
def Adj (l : List Evt) : Prop := ∀ (k : Nat) (x y : Evt), l[k]? = some x → l[k + 1]? = some y → qoa x y < 0
noncomputable def q2x (l : List Evt) : Bool := @decide (Adj l) (Classical.propDecidable _)
theorem qvu (l : List Evt) : q2x l = true ↔ Adj l := by unfold q2x; simp
theorem qabf {l : List Evt} (h : ¬ Adj l) : q2x l = false := by
 cases hv : q2x l with
 | false => rfl
 | true => exact absurd ((qvu l).1 hv) h
section
variable (l : List Evt) (c : Bool)
theorem q8t (hl : l.length ≤ 1000000) (hk : qcr l) : ∃ y, itB (exec (evL T) itL none qhm) (qr [0, 3] true 0) ⟨[(0, (.fsl ((l).map Evt.r) c)), (3, (ii 1))], []⟩ [] = some y ∧
  ((y.1 = .exit 0 ∧ y.2.1.marks = [] ∧ y.2.2 = [] ∧ Adj l) ∨ (y.1 = .ret ∧ y.2.1.marks = [] ∧ y.2.2 = [] ∧ Ev.look y.2.1.vars 2 = some (bb false) ∧ ¬ Adj l)) := by
 have key := qeu (f := exec (evL T) itL none qhm) (s := qr [0, 3] true 0) (α := Unit) (fun i _ => ⟨[(0, (.fsl ((l).map Evt.r) c)), (3, (ii ((i + 1 : Nat))))], []⟩) (fun _ _ => [])
  (fun i _ => ∀ (k : Nat) (x y : Evt), k < i → l[k]? = some x → l[k + 1]? = some y → qoa x y < 0) (l.length - 1)
  (fun y => (y.1 = .exit 0 ∧ y.2.1.marks = [] ∧ y.2.2 = [] ∧ Adj l) ∨ (y.1 = .ret ∧ y.2.1.marks = [] ∧ y.2.2 = [] ∧ Ev.look y.2.1.vars 2 = some (bb false) ∧ ¬ Adj l)) ?_ ?_ 0 () (Nat.zero_le _) (fun k x y h => by omega)
 ·exact key
 ·rintro j _ hj hinv
  obtain ⟨i, hi⟩ : ∃ i, i = j + 1 := ⟨_, rfl⟩
  obtain ⟨x, hx⟩ : ∃ x, l[i]? = some x := ⟨_, List.getElem?_eq_getElem (by omega)⟩
  obtain ⟨p, hp⟩ : ∃ p, l[j]? = some p := ⟨_, List.getElem?_eq_getElem (by omega)⟩
  rw [← hi]
  have hi' : (i : Int) < (l.length : Int) := by omega
  have hw : IntKind.i64.wrap ((i : Int) + 1) = ((i + 1 : Nat) : Int) := ql7 (by omega)
  have w1 : IntKind.i64.wrap ((i : Int) - 1) = (j : Int) := qqj hi (by omega)
  have hc := qjz p x (hk p (List.mem_of_getElem? hp)) (hk x (List.mem_of_getElem? hx))
  by_cases hlt : qoa p x < 0
  ·have hge : ¬ qoa p x ≥ 0 := by omega
   refine .inl ⟨(), ?_, fun k u v h hu hv => ?_⟩
   ·clear hlt hinv
    obtain ⟨xt, xk, xl, xi, xp, xa⟩ := x
    obtain ⟨yt, yk, yl, yi, yp, ya⟩ := p
    simp only at hc
    simp only [qhm, zgs, zgr, zgq, zgt, hi', hw, w1, hx, hp, hc, hge, Evt.r, qv, qag, Ev.exec, qb, qe, qc, qa5, qai, Ev.evs, Ev.Opnd.ev, Ev.Env.get, Ev.Env.set, Ev.look, qk, qae, qaf, qb8, ql, qch, qr, Ev.keep, qad, qw, qd, qa1, qbd, qu, qj, qh, zgi, ↓qs, Ev.it1, ↓reduceIte, zga, zgb, zgc, zfe, Nat.reduceAdd, Nat.reduceEqDiff, reduceCtorEq, zgv, zgw, zfc, zfa, zgx, zfd, Nat.le_refl, zgy]
   ·rcases Nat.lt_or_ge k j with h1 | h1
    ·exact hinv k u v h1 hu hv
    ·have hkj : k = j := by omega
     subst hkj
     rw [← hi, hx] at hv
     rw [hp] at hu
     cases hu; cases hv; exact hlt
  ·have hge : qoa p x ≥ 0 := by omega
   have hno : ¬ Adj l := fun h => hlt (h j p x hp (by rw [← hi]; exact hx))
   refine .inr ?_
   clear hlt hinv
   obtain ⟨xt, xk, xl, xi, xp, xa⟩ := x
   obtain ⟨yt, yk, yl, yi, yp, ya⟩ := p
   simp only at hc
   simp only [qhm, zgs, zgr, zgq, zgt, hi', w1, hx, hp, hc, hge, Evt.r, qag, Ev.exec, qb, qe, qc, qa5, qai, Ev.evs, Ev.Opnd.ev, Ev.Env.get, Ev.Env.set, Ev.look, qk, qae, qb8, ql, qch, qa1, qbd, qu, qj, qh, zgi, ↓qs, Ev.it1, ↓reduceIte, zga, zgb, zgc, zfe, Nat.reduceAdd, Nat.reduceEqDiff, reduceCtorEq, zgv, zfc, zfd, Nat.le_refl, zgy]
   exact ⟨_, rfl, .inr ⟨rfl, rfl, rfl, rfl, hno⟩⟩
 ·rintro _ hinv
  have hn : ¬ ((l.length - 1 + 1 : Nat) : Int) < (l.length : Int) := by omega
  simp only [qhm, hn, Ev.exec, qb, qe, qc, qai, Ev.Opnd.ev, Ev.Env.get, Ev.Env.set, Ev.look, ql, zgi, ↓qs, Ev.it1, ↓reduceIte, Nat.reduceEqDiff, reduceCtorEq, zgw, zfa, zgy]
  exact ⟨_, rfl, .inl ⟨rfl, rfl, rfl, fun k x y hx hy => hinv k x y (by have := (List.getElem?_eq_some_iff.1 hy).1; omega) hx hy⟩⟩
theorem q2c (hl : l.length ≤ 1000000) (hk : qcr l) : qa4 (evL T) qh0 [(.fsl ((l).map Evt.r) c)] = some (bb (q2x l)) := by
 obtain ⟨⟨y, e, σ⟩, h1, h2⟩ := q8t l c hl hk
 rw [qa4, qx qyo qw9]
 rcases h2 with ⟨h2, h3, h4, h5⟩ | ⟨h2, h3, h4, h5, h6⟩ <;> simp only at h2 h3 h4 h5 <;> subst h2 <;> subst h4
 ·rw [(qvu l).2 h5]
  simp only [ql3, h1, h3, qv, qn, Ev.exec, qb, qe, qc, qai, Ev.Opnd.ev, Ev.Env.get, Ev.Env.set, Ev.look, qo, qm, qab, qaj, Ev.kill, qah, qr, Ev.keep, qad, qw, qd, qa1, qu, qal, ↓qs, ↓qaq, ↓reduceIte, zga, zgb, zfe, reduceCtorEq, zfc, zgx, zfd, zgy]
 ·rw [qabf h6]
  simp only [ql3, h1, h3, h5, qv, qn, Ev.exec, qb, qe, qc, qai, Ev.Opnd.ev, Ev.Env.get, Ev.Env.set, Ev.look, qo, qm, qab, qaj, Ev.kill, qah, qr, Ev.keep, qad, qw, qd, qa1, qu, qal, ↓qs, ↓qaq, ↓reduceIte, zga, zgb, zfe, reduceCtorEq, zfc, zgx, zfd, zgy]
end
set_option maxRecDepth 10000
def q72 : Evt := ⟨0, [], 0, 0, 0, 0⟩
def que (l : List Evt) (b : Int) : List Evt × Evt × Bool := match l with
 | [] => ([], q72, false)
 | x :: r => if x.time < b then (r, x, true) else (x :: r, q72, false)
theorem qze (l : List Evt) (c : Bool) (b : Int) (hl : l.length ≤ 1000000) : ∃ c' : Bool, qa4 (evL T) qh5 [(.fsl ((l).map Evt.r) c), (ii b)] = some (.tup [(.fsl (((que l b).1).map Evt.r) c'), (.agg [(ii ((que l b).2.1.time)), (.fsl (((que l b).2.1.key).map qb9) false), (ii ((que l b).2.1.lp)), (ii ((que l b).2.1.kind)), (ii ((que l b).2.1.proc)), (ii ((que l b).2.1.arg))]), (bb ((que l b).2.2))]) := by
 rw [qa4, qx qxa qvw]
 cases l with
 | nil =>
  refine ⟨c, ?_⟩
  simp only [qjv, que, q72, List.map_nil, Int.lt_irrefl, qn, Ev.exec, qb, qe, qc, qai, Ev.Opnd.ev, Ev.Env.get, Ev.Env.set, Ev.Env.unset, Ev.look, qo, qk, qae, qg6, Ev.AV.cells, qy, Ev.AV.plain, qas, qm, qab, qaj, Ev.kill, qah, qd, qa1, qbd, qba, qu, qj, qh, qac, qal, ↓qs, ↓reduceIte, zga, zgb, zgd, zgc, zgo, zfe, zgf, zgg, List.drop_nil, zgl, zgn, zgj, Nat.reduceAdd, Nat.reduceEqDiff, Int.cast_ofNat_Int, reduceCtorEq, zgw, zfc, zfa, zgx, ne_eq, zfb, zff, zfd, Nat.le_refl, zgy]
  try rfl
 | cons x r =>
  have hcl := qqe r c (by simp at hl; omega)
  have h1 : (1 : Int) ≤ ((r.length + 1 : Nat) : Int) := by omega
  have htk : (r.map Evt.r).take r.length = r.map Evt.r := List.take_of_length_le (by simp)
  obtain ⟨xt, xk, xl, xi, xp, xa⟩ := x
  have h0 : ((r.length + 1 : Nat) : Int) > 0 := by omega
  by_cases h : xt < b
  ·refine ⟨false, ?_⟩
   simp only [qjv, que, zgr, List.map_cons, Evt.r, h0, h1, h, hcl, htk, Int.le_refl, Nat.add_sub_cancel, imp_self, qag, qv, qfy, qn, Ev.exec, qb, qe, qc, qps, q2k, Ev.AV.shift, qai, Ev.evs, Ev.Opnd.ev, Ev.Env.get, Ev.Env.set, Ev.look, qo, qge, qk, qae, Ev.AV.cells, qy, Ev.AV.plain, ql, qas, qm, qab, qaj, Ev.kill, qah, qd, qa1, qbd, qba, qu, qbn, qj, qh, qa9, qal, qvm, qgx, qe8, qgi, qem, qfw, zgi, ↓qs, ↓reduceIte, zga, zgb, zgd, zge, zgc, zgo, zfe, zgf, zgg, List.drop_nil, zgm, zgl, zgn, zgj, zgh, Nat.reduceAdd, Nat.reduceEqDiff, Nat.reduceLT, Int.reduceLE, Int.reduceToNat, reduceCtorEq, zgv, zgw, zfc, Bool.and_true, zfa, zgx, and_true, ne_eq, zfb, zff, zfd, Nat.le_refl, Option.isSome_none, zgy]
   try rfl
  ·refine ⟨c, ?_⟩
   simp only [qjv, que, q72, List.map_cons, Evt.r, h0, h, qag, qv, qn, Ev.exec, qb, qe, qc, qai, Ev.Opnd.ev, Ev.Env.get, Ev.Env.set, Ev.look, qo, qk, qae, qg6, Ev.AV.cells, qy, Ev.AV.plain, ql, qas, qm, qab, qaj, Ev.kill, qah, qd, qa1, qbd, qba, qu, qj, qh, qac, qao, qal, zgi, ↓qs, ↓reduceIte, zga, zgb, zgd, zgc, zgo, zfe, zgf, zgg, List.drop_nil, zgl, zgn, zgj, zgh, Nat.reduceAdd, Nat.reduceEqDiff, Int.reduceLE, Int.reduceToNat, reduceCtorEq, zgv, zgw, zfc, zfa, zgx, ne_eq, zfb, zff, zfd, Nat.le_refl, zgy]
   try rfl
set_option maxRecDepth 10000
theorem qpv (x y : Evt) (hx : x.key.length ≤ 9223372036854775807) (hy : y.key.length ≤ 9223372036854775807) :
  (evL T).call qq [(.agg [(ii x.time), (.fsl ((x.key).map qb9) false), (ii x.lp), (ii x.kind), (ii x.proc), (ii x.arg)]), (.agg [(ii y.time), (.fsl ((y.key).map qb9) false), (ii y.lp), (ii y.kind), (ii y.proc), (ii y.arg)])] [] = some ((ii (qoa x y)), []) := by
 obtain ⟨xt, xk, xl, xi, xp, xa⟩ := x
 obtain ⟨yt, yk, yl, yi, yp, ya⟩ := y
 have hc := qk1 xt yt
 have hk := qkw xk yk false false hx hy
 have hf := qpg (qpq xt yt) (qll xk yk) true
 simp only [List.map_cons, List.map_nil, qb9] at hf
 rw [qx qje qik]
 simp only [qe2, show ∀ v : List AV, List.replicate 2 v = [v, v] from fun _ => rfl, hc, hk, hf, qoa, qag, qn, Ev.exec, qb, qe, qc, qa5, qai, Ev.evs, Ev.Opnd.ev, Ev.Env.get, Ev.Env.set, Ev.look, qo, qk, qae, qf6, Ev.AV.cells, Ev.AV.uc, qy, Ev.AV.plain, qm, qab, qaj, Ev.kill, qah, qd, qa1, qu, qj, qh, qac, qao, ↓qs, ↓reduceIte, zga, zgb, zfe, zgf, zgg, zgj, zgk, zgh, Nat.reduceAdd, Nat.reduceEqDiff, Nat.reduceMul, Nat.reduceLT, Nat.reduceLeDiff, Nat.reducePow, reduceCtorEq, zfc, zfa, zgx, ne_eq, zfb, zff, zfd, zgu, zgy]
section
variable (l : List Evt) (c : Bool) (x : Evt)
def At (l : List Evt) (x : Evt) (k : Nat) : Prop := k ≤ l.length ∧ (∀ u, 0 < k → l[k - 1]? = some u → qoa u x < 0) ∧ (∀ v, l[k]? = some v → 0 ≤ qoa v x)
theorem bs_L (hl : l.length ≤ 1000000) (hk : qcr l) (kx : x.key.length ≤ 9223372036854775807) :
  ∃ y, itB (exec (evL T) itL none qar) (qr [0, 2, 4, 8, 9, 10] true 0) ⟨[(0, (.fsl ((l).map Evt.r) c)), (2, (.fn (.func qq) [] [])), (4, (.fptr [(ii x.time), (.fsl ((x.key).map qb9) false), (ii x.lp), (ii x.kind), (ii x.proc), (ii x.arg)])), (8, (ii l.length)), (9, (ii 0)), (10, (ii l.length))], []⟩ [] = some y ∧
   ∃ k : Nat, y.1 = .exit 0 ∧ y.2.1.marks = [] ∧ y.2.2 = [] ∧ Ev.look y.2.1.vars 0 = some (.fsl ((l).map Evt.r) c) ∧ Ev.look y.2.1.vars 2 = some (.fn (.func qq) [] []) ∧ Ev.look y.2.1.vars 4 = some (.fptr [(ii x.time), (.fsl ((x.key).map qb9) false), (ii x.lp), (ii x.kind), (ii x.proc), (ii x.arg)]) ∧ Ev.look y.2.1.vars 8 = some (ii l.length) ∧ Ev.look y.2.1.vars 9 = some (ii k) ∧ At l x k := by
 have key := qhb (f := exec (evL T) itL none qar) (s := qr [0, 2, 4, 8, 9, 10] true 0) (τ := Nat × Nat) (fun a => ⟨[(0, (.fsl ((l).map Evt.r) c)), (2, (.fn (.func qq) [] [])), (4, (.fptr [(ii x.time), (.fsl ((x.key).map qb9) false), (ii x.lp), (ii x.kind), (ii x.proc), (ii x.arg)])), (8, (ii l.length)), (9, (ii a.1)), (10, (ii a.2))], []⟩) (fun _ => []) (fun a => a.2 - a.1)
  (fun a => a.1 ≤ a.2 ∧ a.2 ≤ l.length ∧ (∀ u, 0 < a.1 → l[a.1 - 1]? = some u → qoa u x < 0) ∧ (∀ v, l[a.2]? = some v → 0 ≤ qoa v x))
  (fun y => ∃ k : Nat, y.1 = .exit 0 ∧ y.2.1.marks = [] ∧ y.2.2 = [] ∧ Ev.look y.2.1.vars 0 = some (.fsl ((l).map Evt.r) c) ∧ Ev.look y.2.1.vars 2 = some (.fn (.func qq) [] []) ∧ Ev.look y.2.1.vars 4 = some (.fptr [(ii x.time), (.fsl ((x.key).map qb9) false), (ii x.lp), (ii x.kind), (ii x.proc), (ii x.arg)]) ∧ Ev.look y.2.1.vars 8 = some (ii l.length) ∧ Ev.look y.2.1.vars 9 = some (ii k) ∧ At l x k)
  ?_ (0, l.length) ⟨Nat.zero_le _, Nat.le_refl _, fun u h => by simp only at h; omega, fun v hv => by simp at hv⟩
 ·exact key
 rintro ⟨i, j⟩ ⟨h1, h2, h3, h4⟩
 simp only at h1 h2 h3 h4 ⊢
 by_cases hij : i < j
 case neg =>
  have c1 : ¬ (i : Int) < (j : Int) := by omega
  right
  simp only [qar, c1, Ev.exec, qb, qe, qc, qai, Ev.Opnd.ev, Ev.Env.get, Ev.Env.set, Ev.look, ql, ↓qs, Ev.it1, ↓reduceIte, Nat.reduceEqDiff, reduceCtorEq, zgw, zfa, zgy]
  obtain rfl : i = j := by omega
  exact ⟨_, rfl, i, rfl, rfl, rfl, rfl, rfl, rfl, rfl, rfl, by omega, h3, h4⟩
 obtain ⟨h, hh⟩ : ∃ h, h = (i + j) / 2 := ⟨_, rfl⟩
 have c1 : (i : Int) < (j : Int) := by omega
 obtain ⟨y, hy⟩ : ∃ y, l[h]? = some y := ⟨_, List.getElem?_eq_getElem (by omega)⟩
 have w1 : IntKind.i64.wrap ((i : Int) + (j : Int)) = ((i + j : Nat) : Int) := qke (by omega)
 have w2 : IntKind.u64.wrap ((i + j : Nat) : Int) = ((i + j : Nat) : Int) := qra (by omega)
 have w3 := quw (i + j) h hh
 have w4 : IntKind.i64.wrap (h : Int) = (h : Int) := qrs (by omega)
 have w5 : IntKind.i64.wrap ((h : Int) + 1) = ((h + 1 : Nat) : Int) := ql7 (by omega)
 have ky : y.key.length ≤ 9223372036854775807 := hk y (List.mem_of_getElem? hy)
 have hc := qpv y x ky kx
 left
 by_cases hlt : qoa y x < 0
 ·refine ⟨(h + 1, j), ?_, ⟨by simp only; omega, h2, fun u _ hu => ?_, h4⟩, by simp only; omega⟩
  ·clear h3 h4
   obtain ⟨xt, xk, xl, xi, xp, xa⟩ := x
   obtain ⟨yt, yk, yl, yi, yp, ya⟩ := y
   simp only at hc
   simp only [qar, zgs, zgr, zgq, zgt, hy, c1, w1, w2, w3, w4, w5, hc, hlt, Evt.r, qv, qag, Ev.exec, qb, qe, qc, qk8, qai, Ev.evs, Ev.Opnd.ev, Ev.Env.get, Ev.Env.set, Ev.look, qk, qae, qaf, ql, qr, Ev.keep, qad, qw, qd, qa1, qu, qb1, qe3, qj, qh, ↓qs, Ev.it1, ↓reduceIte, zga, zgb, zgc, zfe, zgl, zgn, Nat.reduceAdd, Nat.reduceEqDiff, reduceCtorEq, zgv, zfc, zgx, zfd, Nat.le_refl, zgy]
  ·simp only [Nat.add_sub_cancel] at hu
   rw [hy] at hu; cases hu; exact hlt
 ·refine ⟨(i, h), ?_, ⟨by simp only; omega, by simp only; omega, h3, fun v hv => by simp only at hv; rw [hy] at hv; cases hv; omega⟩, by simp only; omega⟩
  clear h3 h4
  obtain ⟨xt, xk, xl, xi, xp, xa⟩ := x
  obtain ⟨yt, yk, yl, yi, yp, ya⟩ := y
  simp only at hc
  simp only [qar, zgs, zgr, zgq, zgt, hy, c1, w1, w2, w3, w4, hc, hlt, Evt.r, qv, qag, Ev.exec, qb, qe, qc, qk8, qai, Ev.evs, Ev.Opnd.ev, Ev.Env.get, Ev.Env.set, Ev.look, qk, qae, qaf, ql, qr, Ev.keep, qad, qw, qd, qa1, qu, qb1, qe3, qj, qh, ↓qs, Ev.it1, ↓reduceIte, zga, zgb, zgc, zfe, zgl, zgn, Nat.reduceAdd, Nat.reduceEqDiff, reduceCtorEq, zgv, zgw, zfc, zfa, zgx, zfd, Nat.le_refl, zgy]
theorem bs_ev (hl : l.length ≤ 1000000) (hk : qcr l) (kx : x.key.length ≤ 9223372036854775807) : ∃ (k : Nat) (b : Bool), At l x k ∧
  qa4 (evL T) qap [(.fsl ((l).map Evt.r) c), (.agg [(ii x.time), (.fsl ((x.key).map qb9) false), (ii x.lp), (ii x.kind), (ii x.proc), (ii x.arg)]), (.fn (.func qq) [] [])] = some (.tup [(ii k), (bb b)]) := by
 obtain ⟨⟨y, e, σ⟩, h1, k, h2, h3, h4, h5, h6, h7, h8, h9, hA⟩ := bs_L l c x hl hk kx
 simp only at h2 h3 h4 h5 h6 h7 h8 h9
 subst h2; subst h4
 refine ⟨k, match l[k]? with | some v => decide (qoa v x = 0) | none => false, hA, ?_⟩
 rw [qa4, qx qet qeo]
 by_cases hkn : k < l.length
 ·obtain ⟨v, hv⟩ : ∃ v, l[k]? = some v := ⟨_, List.getElem?_eq_getElem hkn⟩
  have c1 : (k : Int) < (l.length : Int) := by omega
  have hc := qpv v x (hk v (List.mem_of_getElem? hv)) kx
  clear hA
  obtain ⟨xt, xk, xl, xi, xp, xa⟩ := x
  obtain ⟨yt, yk, yl, yi, yp, ya⟩ := v
  simp only at hc h1 h7
  simp only [qay, zgs, zgr, zgq, zgt, h1, h3, h5, h6, h7, h8, h9, hv, c1, hc, Evt.r, qv, qag, qn, Ev.exec, qb, qe, qc, qk8, qai, Ev.evs, Ev.Opnd.ev, Ev.Env.get, Ev.Env.set, Ev.look, qo, qk, qae, Ev.AV.cells, qy, Ev.AV.plain, qam, ql, qm, qab, qaj, Ev.kill, qah, qr, Ev.keep, qad, qw, qd, qa1, qba, qu, qb1, qe3, qj, qh, qal, zgi, ↓qs, ↓qaq, ↓reduceIte, zga, zgb, zgc, zfe, zgl, zgn, Nat.reduceAdd, Nat.reduceEqDiff, reduceCtorEq, zgv, zfc, zgx, ne_eq, zfb, zff, zfd, Nat.le_refl, zgy]
 ·have c1 : ¬ (k : Int) < (l.length : Int) := by omega
  have hv : l[k]? = none := List.getElem?_eq_none (by omega)
  clear hA
  obtain ⟨xt, xk, xl, xi, xp, xa⟩ := x
  simp only at h1 h7
  simp only [qay, h1, h3, h8, h9, hv, c1, qv, qag, qn, Ev.exec, qb, qe, qc, qai, Ev.Opnd.ev, Ev.Env.get, Ev.Env.set, Ev.Env.unset, Ev.look, qo, Ev.AV.cells, qy, Ev.AV.plain, ql, qm, qab, qaj, Ev.kill, qah, qr, Ev.keep, qad, qw, qd, qa1, qba, qu, qb1, qe3, qj, qh, qal, zgi, ↓qs, ↓qaq, ↓reduceIte, zga, zgb, zfe, Nat.reduceAdd, Nat.reduceEqDiff, reduceCtorEq, zgw, zfc, zfa, zgx, ne_eq, zfb, zff, zfd, zgy]
theorem qvo (hl : l.length ≤ 1000000) (hk : qcr l) (kx : x.key.length ≤ 9223372036854775807) : ∃ k : Nat, At l x k ∧
  qa4 (evL T) qfl [(.fsl ((l).map Evt.r) c), (.agg [(ii x.time), (.fsl ((x.key).map qb9) false), (ii x.lp), (ii x.kind), (ii x.proc), (ii x.arg)])] = some (.fsl ((l.take k ++ x :: l.drop k).map Evt.r) false) := by
 obtain ⟨k, b, hA, hb⟩ := bs_ev l c x hl hk kx
 refine ⟨k, hA, ?_⟩
 have hcl := qqe l c hl
 have hkl : k ≤ l.length := hA.1
 have ok1 := qfy [x]
 have ok2 := qfy l
 have hb2 : (l.length + 1) * 64 ≤ 2 ^ 47 := by omega
 have hins : (evL T).call qbo [.sl 0 0 0 l.length false, (ii k), .fsl [x.r] true] [.row 6 (l.map Evt.r) 0] = some (.sl 0 2 0 (l.length + 1) false, [.row 6 ((l.take k ++ x :: l.drop k).map Evt.r) 2]) := by
  rw [evL_ins qih qis]
  simp only [insF, zgd, zgr]
  rw [if_pos ⟨trivial, trivial, trivial, by omega, by omega, by simp, by omega, hkl, ok1, by rw [List.take_of_length_le (by simp)]; exact ok2, hb2⟩]
  rw [List.map_append, List.map_cons, List.map_take, List.map_drop, List.take_of_length_le (l := l.map Evt.r) (i := l.length) (by simp)]
  rfl
 have htk : ((l.take k ++ x :: l.drop k).map Evt.r).take (l.length + 1) = (l.take k ++ x :: l.drop k).map Evt.r := List.take_of_length_le (by simp; omega)
 have hlen : l.length + 1 ≤ (l.take k ++ x :: l.drop k).length := by simp; omega
 rw [qa4, qx qug qt3]
 clear hA
 generalize l.take k ++ x :: l.drop k = R at *
 obtain ⟨xt, xk, xl, xi, xp, xa⟩ := x
 simp only [Evt.r] at hins
 simp only at hb
 simp only [qlf, hb, hcl, hins, htk, hlen, qv, qag, qn, Ev.exec, qb, qe, qc, qa5, qps, qd3, q2k, Ev.AV.shift, qai, Ev.evs, Ev.Opnd.ev, Ev.Env.get, Ev.Env.set, Ev.look, qo, qk, qae, qf6, Ev.AV.cells, qy, Ev.AV.plain, qm, qab, qaj, Ev.kill, qah, qd, qa1, qbd, qu, qbn, qe3, qj, qh, qgx, qe8, qgi, qem, qfw, List.replicate_one, zgi, ↓qs, ↓reduceIte, zga, zgb, zgd, zge, zgc, zgo, zfe, zgg, zgl, zgj, Nat.reduceAdd, Nat.reduceEqDiff, Nat.reduceMul, Nat.reduceLT, Nat.reduceLeDiff, Nat.reducePow, reduceCtorEq, zgw, zfc, zfa, zgx, and_true, ne_eq, zfb, zff, zfd, Nat.add_zero, zgu, Nat.le_refl, zgy]
end
set_option maxRecDepth 10000
theorem qj8 (n : Nat) : ∀ (a b : List (List AV)), qg9 n (a ++ b) = (qg9 n a && qg9 n b)
 | [], b => by simp [qac]
 | x :: a, b => by rw [List.cons_append, qao, qao, qj8 n a b, Bool.and_assoc]
theorem q4b (l : List Int) (c : Bool) (h : l.length ≤ 100000) : (evL T).call qfe [(.fsl ((l).map qb9) c)] [] = some (.sl 0 0 0 l.length false, [.row 1 (l.map qb9) 0]) := by
 have h' : l.length * 8 ≤ 140737488355328 := by omega
 rw [q3t qpa]
 simp only [qr7, qag, qabt, h', zgu, qu, qj, qh, zgi, ↓reduceIte, Nat.reducePow, zfc, zgx, zgu, zgy]
theorem q1z (l : List Int) (c : Bool) (n : Int) (h : l.length ≤ 100000) : qa4 (evL T) qja [(.fsl ((l).map qb9) c), (ii n)] = some (.fsl ((l ++ [n]).map qb9) false) := by
 have h' : (l.length + 1) * 8 ≤ 140737488355328 := by omega
 have htl : List.take l.length (l.map qb9) = l.map qb9 := List.take_of_length_le (by simp)
 have htk : ∀ e : List AV, List.take (l.length + 1) (l.map qb9 ++ [e]) = l.map qb9 ++ [e] := fun e => List.take_of_length_le (by simp)
 have hr : (l ++ [n]).map qb9 = l.map qb9 ++ [[(ii n)]] := by rw [List.map_append]; rfl
 rw [qa4, qx qyu qxz]
 rw [hr]
 simp only [qnm, q4b l c h, h', htl, htk, qj8, qag, qn, Ev.exec, qb, qe, qc, qps, q2k, Ev.AV.shift, qai, qn9, Ev.evs, Ev.Opnd.ev, Ev.Env.get, Ev.Env.set, Ev.look, qo, qb0, qf6, Ev.AV.cells, Ev.AV.uc, qy, Ev.AV.plain, qm, qab, qaj, Ev.kill, qah, qd, qa1, qu, qbn, qj, qh, qac, qao, qbl, qa9, qgx, qe8, qgi, qem, qfw, List.replicate_one, zgi, ↓qs, ↓reduceIte, zga, zgb, zgp, zgd, zgo, zgg, zgl, zgj, Nat.reduceAdd, Nat.reduceEqDiff, Nat.reduceMul, Nat.reduceLT, Nat.reduceLeDiff, Nat.reducePow, reduceCtorEq, zgv, zgw, zfc, zfa, zgx, and_true, ne_eq, zfb, zff, zfd, Nat.add_zero, zgu, Nat.le_refl, zgy]
set_option maxRecDepth 10000
def Fits (l : List Evt) (x : Evt) (k : Nat) : Prop := k ≤ l.length ∧ (∀ u, 0 < k → l[k - 1]? = some u → leE u x) ∧ (∀ v, l[k]? = some v → leE x v)
theorem At.fits {l : List Evt} {x : Evt} {k : Nat} (h : At l x k) : Fits l x k :=
 ⟨h.1, fun u h0 hu => q05 u x (h.2.1 u h0 hu), fun v hv => by have := h.2.2 v hv; have := qoy v x; unfold leE; omega⟩
theorem Fits.perm {l : List Evt} {x : Evt} {k : Nat} : (l.take k ++ x :: l.drop k).Perm (x :: l) := by
 have := List.perm_middle (a := x) (l₁ := l.take k) (l₂ := l.drop k)
 rwa [List.take_append_drop] at this
theorem Fits.sorted {l : List Evt} {x : Evt} {k : Nat} (h : Fits l x k) (hs : l.Pairwise leE) : (l.take k ++ x :: l.drop k).Pairwise leE := by
 obtain ⟨h1, h2, h3⟩ := h
 have hlen : (l.take k).length = k := by rw [List.length_take]; omega
 refine qms qk0 (by rwa [List.take_append_drop]) (fun u hu => ?_) (fun v hv => ?_)
 ·rw [hlen] at hu
  rw [List.getElem?_take] at hu
  split at hu
  ·exact h2 u (by omega) hu
  ·cases hu
 ·rw [List.getElem?_drop] at hv
  exact h3 v hv
theorem Fits.eq {l : List Evt} {x : Evt} {k : Nat} (h : Fits l x k) (hs : l.Pairwise leE) (hd : qsl (x :: l)) : l.take k ++ x :: l.drop k = sortL (x :: l) :=
 qlp hd Fits.perm (h.sorted hs)
section
variable (l : List Evt) (c : Bool) (x : Evt)
theorem qxb (hl : l.length ≤ 1000000) (hk : qcr l) (kx : x.key.length ≤ 9223372036854775807) (hs : l.Pairwise leE) (hd : qsl (x :: l)) : qa4 (evL T) qfl [(.fsl ((l).map Evt.r) c), (.agg [(ii x.time), (.fsl ((x.key).map qb9) false), (ii x.lp), (ii x.kind), (ii x.proc), (ii x.arg)])] = some (.fsl ((sortL (x :: l)).map Evt.r) false) := by
 obtain ⟨k, hA, h⟩ := qvo l c x hl hk kx
 rw [hA.fits.eq hs hd] at h
 exact h
theorem refIns_L (hl : l.length ≤ 1000000) (hk : qcr l) (hkx : x.key.length ≤ 9223372036854775807) :
  ∃ y, itB (exec (evL T) itL none qig) (qr [0, 3, 5] true 0) ⟨[(0, (.fsl ((l).map Evt.r) c)), (3, (.fptr [(ii x.time), (.fsl ((x.key).map qb9) false), (ii x.lp), (ii x.kind), (ii x.proc), (ii x.arg)])), (5, (ii l.length))], []⟩ [] = some y ∧
   ∃ k : Nat, y.1 = .exit 0 ∧ y.2.1.marks = [] ∧ y.2.2 = [] ∧ Ev.look y.2.1.vars 0 = some (.fsl ((l).map Evt.r) c) ∧ Ev.look y.2.1.vars 3 = some (.fptr [(ii x.time), (.fsl ((x.key).map qb9) false), (ii x.lp), (ii x.kind), (ii x.proc), (ii x.arg)]) ∧ Ev.look y.2.1.vars 5 = some (ii k) ∧ Fits l x k := by
 refine qhb (τ := Nat) (fun k => ⟨[(0, (.fsl ((l).map Evt.r) c)), (3, (.fptr [(ii x.time), (.fsl ((x.key).map qb9) false), (ii x.lp), (ii x.kind), (ii x.proc), (ii x.arg)])), (5, (ii k))], []⟩) (fun _ => []) (fun k => k)
  (fun k => k ≤ l.length ∧ (∀ v, l[k]? = some v → leE x v)) _ ?_ l.length ⟨Nat.le_refl _, fun v hv => by simp at hv⟩
 rintro k ⟨h1, h2⟩
 cases k with
 | zero =>
  right
  simp only [qig, Int.lt_irrefl, gt_iff_lt, Ev.exec, qb, qe, qc, qai, Ev.Opnd.ev, Ev.Env.get, Ev.Env.set, Ev.Env.unset, Ev.look, qas, ↓qs, Ev.it1, ↓reduceIte, Nat.reduceEqDiff, Int.cast_ofNat_Int, reduceCtorEq, zgw, zfa, zgy]
  exact ⟨_, rfl, 0, rfl, rfl, rfl, rfl, rfl, rfl, Nat.zero_le _, fun u h => by omega, h2⟩
 | succ j =>
  obtain ⟨y, hy⟩ : ∃ y, l[j]? = some y := ⟨_, List.getElem?_eq_getElem (by omega)⟩
  obtain ⟨k, hk1⟩ : ∃ k, k = j + 1 := ⟨_, rfl⟩
  rw [← hk1] at h1 h2 ⊢
  have c1 : (k : Int) > 0 := by omega
  have w1 : IntKind.i64.wrap ((k : Int) - 1) = (j : Int) := qqj hk1 (by omega)
  have hc := qjz y x (hk y (List.mem_of_getElem? hy)) hkx
  by_cases hlt : qoa y x > 0
  ·left
   refine ⟨j, ?_, ⟨by omega, fun v hv => by rw [hy] at hv; cases hv; exact (by have := qoy y x; unfold leE; omega)⟩, by omega⟩
   clear h2
   obtain ⟨xt, xk, xl, xi, xp, xa⟩ := x
   obtain ⟨yt, yk, yl, yi, yp, ya⟩ := y
   simp only at hc
   simp only [qig, zgs, zgr, zgq, zgt, hy, c1, w1, hc, hlt, Evt.r, qv, qag, Ev.exec, qb, qe, qc, qa5, qai, Ev.evs, Ev.Opnd.ev, Ev.Env.get, Ev.Env.set, Ev.look, qk, qae, qb8, qas, qr, Ev.keep, qad, qw, qd, qa1, qbd, qu, qb1, qj, qh, ↓qs, Ev.it1, ↓reduceIte, zga, zgb, zgc, zfe, Nat.reduceAdd, Nat.reduceEqDiff, reduceCtorEq, zgv, zfc, zgx, zfd, Nat.le_refl, zgy]
  ·right
   have hle : leE y x := by unfold leE; omega
   have h3 : ∀ u, 0 < k → l[k - 1]? = some u → leE u x := fun u _ hu => by
    rw [hk1, Nat.add_sub_cancel, hy] at hu; cases hu; exact hle
   have hF : Fits l x k := ⟨h1, h3, h2⟩
   clear hle h3 h2
   obtain ⟨xt, xk, xl, xi, xp, xa⟩ := x
   obtain ⟨yt, yk, yl, yi, yp, ya⟩ := y
   simp only at hc
   simp only [qig, zgs, zgr, zgq, zgt, hy, c1, w1, hc, hlt, Evt.r, qag, Ev.exec, qb, qe, qc, qa5, qai, Ev.evs, Ev.Opnd.ev, Ev.Env.get, Ev.Env.set, Ev.look, qk, qae, qb8, qas, qa1, qbd, qu, qj, qh, ↓qs, Ev.it1, ↓reduceIte, zga, zgb, zgc, zfe, Nat.reduceAdd, Nat.reduceEqDiff, reduceCtorEq, zgv, zgw, zfc, zfa, zfd, Nat.le_refl, zgy]
   exact ⟨_, rfl, k, rfl, rfl, rfl, rfl, rfl, rfl, hF⟩
theorem qz3 (hl : l.length ≤ 1000000) (hk : qcr l) (hkx : x.key.length ≤ 9223372036854775807) : ∃ k : Nat, Fits l x k ∧ qa4 (evL T) qgz [(.fsl ((l).map Evt.r) c), (.agg [(ii x.time), (.fsl ((x.key).map qb9) false), (ii x.lp), (ii x.kind), (ii x.proc), (ii x.arg)])] = some (.fsl ((l.take k ++ x :: l.drop k).map Evt.r) false) := by
 obtain ⟨⟨y, e, σ⟩, k1, k, k2, k3, k4, k5, k6, k7, hF⟩ := refIns_L l c x hl hk hkx
 simp only at k1 k2 k3 k4 k5 k6 k7
 subst k2; subst k4
 refine ⟨k, hF, ?_⟩
 have hkl := hF.1
 clear hF
 obtain ⟨A, B, rfl, hA⟩ : ∃ A B, l = A ++ B ∧ A.length = k := ⟨l.take k, l.drop k, (List.take_append_drop _ _).symm, by simp; omega⟩
 subst hA
 rw [List.take_left' rfl, List.drop_left' rfl]
 have c1 : (A.length : Int) ≤ ((A ++ B).length : Int) := by rw [List.length_append]; omega
 have c2 : (0 : Int) ≤ (A.length : Int) := by omega
 have tk : List.take A.length ((A ++ B).map Evt.r) = A.map Evt.r := by rw [List.map_append]; exact List.take_left' (by simp)
 have dr : List.drop A.length ((A ++ B).map Evt.r) = B.map Evt.r := by rw [List.map_append]; exact List.drop_left' (by simp)
 have hlen : A.length + B.length ≤ 1000000 := by rw [List.length_append] at hl; exact hl
 have b1 : A.length * 64 ≤ 140737488355328 := by omega
 have b2 : (A.length + 1) * 64 ≤ 140737488355328 := by omega
 have b3 : (A.length + 1 + B.length) * 64 ≤ 140737488355328 := by omega
 have tb : List.take ((A ++ B).length - A.length) (B.map Evt.r) = B.map Evt.r := List.take_of_length_le (by simp)
 have ta : List.take A.length (A.map Evt.r) = A.map Evt.r := List.take_of_length_le (by simp)
 have ta2 : ∀ e : List AV, List.take (A.length + 1) (A.map Evt.r ++ [e]) = A.map Evt.r ++ [e] := fun e => List.take_of_length_le (by simp)
 have ta3 : ∀ e : List AV, List.take (A.length + 1 + B.length) (A.map Evt.r ++ e :: B.map Evt.r) = A.map Evt.r ++ e :: B.map Evt.r := fun e => List.take_of_length_le (by simp; omega)
 have okAB : qc3 6 ((A ++ B).map Evt.r) = true := qfy _
 have goal' : (AV.fsl ((A ++ x :: B).map Evt.r) false) = AV.fsl (A.map Evt.r ++ x.r :: B.map Evt.r) false := by rw [List.map_append, List.map_cons]
 have n1 : ∀ p q : Nat, p + 1 + q ≤ p + (q + 1) := fun p q => by omega
 have n2 : ∀ q : Nat, 1 + q ≤ q + 1 := fun q => by omega
 rw [goal']
 clear hl hk
 rw [qa4, qx qxr qv1]
 rcases A with _ | ⟨a, A⟩ <;> rcases B with _ | ⟨b, B⟩
 ·obtain ⟨xt, xk, xl, xi, xp, xa⟩ := x
  simp only [zgl, zgb, List.map_nil, Int.ofNat_zero] at *
  simp only [qia, k1, k3, k5, k6, k7, c1, tk, dr, b1, b2, ta2, okAB, imp_self, Nat.sub_zero, Int.toNat_zero, Evt.r, qag, qn, Ev.exec, qb, qe, qc, qai, qn9, Ev.Opnd.ev, Ev.Env.get, Ev.Env.set, Ev.look, qo, qge, qk, qb0, qae, qf6, Ev.AV.cells, qy, Ev.AV.plain, qm, qab, qaj, Ev.kill, qah, qr, Ev.keep, qad, qw, qd, qa1, qu, qb1, qbn, qj, qh, qac, qa9, qal, qgx, qgi, qem, List.replicate_one, ↓qs, ↓qaq, ↓reduceIte, zga, zgb, zgd, zgc, zgo, zfe, zgg, zgl, zgj, Nat.reduceAdd, Nat.reduceEqDiff, Nat.reduceMul, Nat.reduceLT, Nat.reduceLeDiff, Nat.reducePow, Int.cast_ofNat_Int, reduceCtorEq, zgv, zgw, zfc, Bool.and_true, zfa, zgx, and_true, ne_eq, zfb, zff, zfd, Nat.add_zero, zgu, Nat.le_refl, Option.isSome_some, Option.isSome_none, zgy, implies_true]
 ·generalize hRB : List.map Evt.r (b :: B) = RB at *
  have nB : ¬ RB = [] := by rw [← hRB]; simp
  have lB : RB.length = (b :: B).length := by rw [← hRB]; simp
  have oB : qc3 6 RB = true := by rw [← hRB]; exact qfy _
  have loB : ∀ n, qg9 n RB = true := fun n => by rw [← hRB]; exact qv n _
  obtain ⟨xt, xk, xl, xi, xp, xa⟩ := x
  simp only [zgl, zgb, List.map_nil, Int.ofNat_zero, hRB, Nat.sub_zero, zgg] at *
  generalize hrb : (b :: B).length = nb at *
  simp only [qia, zgr, k1, k3, k5, k6, k7, c1, c2, tk, b1, b2, b3, ta, ta2, ta3, tb, okAB, imp_self, n2, Int.le_refl, Nat.sub_zero, nB, lB, loB, qbl, Int.toNat_zero, Evt.r, qag, qn, Ev.exec, qb, qe, qc, qai, qn9, Ev.Opnd.ev, Ev.Env.get, Ev.Env.set, Ev.look, qo, qge, qk, qb0, qae, qf6, Ev.AV.cells, qy, Ev.AV.plain, qm, qab, qaj, Ev.kill, qah, qr, Ev.keep, qad, qw, qd, qa1, qu, qb1, qbn, qj, qh, qbl, qa9, qal, qgx, qe8, qgi, qem, List.replicate_one, ↓qs, ↓qaq, ↓reduceIte, zga, zgb, zgd, zgc, zgo, zfe, zgg, zgm, zgl, zgj, Nat.reduceAdd, Nat.reduceEqDiff, Nat.reduceMul, Nat.reduceLT, Nat.reduceLeDiff, Nat.reducePow, reduceCtorEq, zgv, zgw, zfc, Bool.and_true, zfa, zgx, and_true, ne_eq, zfb, zff, zfd, Nat.add_zero, zgu, Nat.le_refl, Option.isSome_some, Option.isSome_none, zgy, implies_true]
 ·generalize hRA : List.map Evt.r (a :: A) = RA at *
  have nA : ¬ RA = [] := by rw [← hRA]; simp
  have lA : RA.length = (a :: A).length := by rw [← hRA]; simp
  have oA : qc3 6 RA = true := by rw [← hRA]; exact qfy _
  have loA : ∀ n, qg9 n RA = true := fun n => by rw [← hRA]; exact qv n _
  obtain ⟨xt, xk, xl, xi, xp, xa⟩ := x
  simp only [zgn, zgb, List.map_nil, hRA, Nat.add_zero, Nat.sub_self] at *
  generalize hra : (a :: A).length = na at *
  simp only [qia, zgr, k1, k3, k5, k6, k7, c1, c2, tk, dr, b1, b2, ta2, tb, okAB, imp_self, Int.le_refl, Nat.sub_zero, nA, lA, loA, qbl, zfe, qj8, Evt.r, qag, qn, Ev.exec, qb, qe, qc, qai, qn9, Ev.Opnd.ev, Ev.Env.get, Ev.Env.set, Ev.look, qo, qge, qk, qb0, qae, qf6, Ev.AV.cells, qy, Ev.AV.plain, qm, qab, qaj, Ev.kill, qah, qr, Ev.keep, qad, qw, qd, qa1, qu, qb1, qbn, qj, qh, qac, qao, qbl, qa9, qgx, qe8, List.replicate_one, ↓qs, ↓qaq, ↓reduceIte, zga, zgb, zgp, zgd, zgc, zgo, zfe, zgg, zgl, zgj, Nat.reduceAdd, Nat.reduceEqDiff, Nat.reduceMul, Nat.reduceLT, Nat.reduceLeDiff, Nat.reducePow, Int.reduceToNat, reduceCtorEq, zgv, zgw, zfc, Bool.and_true, zfa, zgx, and_true, ne_eq, zfb, zff, zfd, Nat.add_zero, zgu, Nat.le_refl, Option.isSome_some, Option.isSome_none, zgy, implies_true]
 ·generalize hRA : List.map Evt.r (a :: A) = RA at *
  generalize hRB : List.map Evt.r (b :: B) = RB at *
  have nA : ¬ RA = [] := by rw [← hRA]; simp
  have nB : ¬ RB = [] := by rw [← hRB]; simp
  have lA : RA.length = (a :: A).length := by rw [← hRA]; simp
  have lB : RB.length = (b :: B).length := by rw [← hRB]; simp
  have oA : qc3 6 RA = true := by rw [← hRA]; exact qfy _
  have oB : qc3 6 RB = true := by rw [← hRB]; exact qfy _
  have loA : ∀ n, qg9 n RA = true := fun n => by rw [← hRA]; exact qv n _
  have loB : ∀ n, qg9 n RB = true := fun n => by rw [← hRB]; exact qv n _
  generalize hra : (a :: A).length = na at *
  generalize hrb : (b :: B).length = nb at *
  generalize (a :: A) ++ (b :: B) = AB at *
  obtain ⟨xt, xk, xl, xi, xp, xa⟩ := x
  simp only [qia, zgr, k1, k3, k5, k6, k7, c1, c2, tk, dr, b1, b2, b3, ta, ta2, ta3, tb, okAB, imp_self, n1, List.append_assoc, Int.le_refl, Nat.sub_zero, nA, nB, lA, lB, oA, oB, loA, loB, qj8, Evt.r, qv, qag, qn, Ev.exec, qb, qe, qc, qai, qn9, Ev.Opnd.ev, Ev.Env.get, Ev.Env.set, Ev.look, qo, qge, qk, qb0, qae, qf6, Ev.AV.cells, qy, Ev.AV.plain, qm, qab, qaj, Ev.kill, qah, qr, Ev.keep, qad, qw, qd, qa1, qu, qb1, qbn, qj, qh, qao, qbl, qa9, qgx, qe8, List.replicate_one, zgi, ↓qs, ↓qaq, ↓reduceIte, zga, zgb, zgp, zgd, zgc, zgo, zfe, zgg, zgm, zgl, zgj, Nat.reduceAdd, Nat.reduceEqDiff, Nat.reduceMul, Nat.reduceLT, Nat.reduceLeDiff, Nat.reducePow, Int.reduceToNat, reduceCtorEq, zgv, zgw, zfc, Bool.and_true, zfa, zgx, and_true, ne_eq, zfb, zff, zfd, zgu, Nat.le_refl, Option.isSome_some, Option.isSome_none, zgy, implies_true]
theorem q1e (hl : l.length ≤ 1000000) (hk : qcr l) (kx : x.key.length ≤ 9223372036854775807) (hs : l.Pairwise leE) (hd : qsl (x :: l)) : qa4 (evL T) qgz [(.fsl ((l).map Evt.r) c), (.agg [(ii x.time), (.fsl ((x.key).map qb9) false), (ii x.lp), (ii x.kind), (ii x.proc), (ii x.arg)])] = some (.fsl ((sortL (x :: l)).map Evt.r) false) := by
 obtain ⟨k, hA, h⟩ := qz3 l c x hl hk kx
 rw [hA.eq hs hd] at h
 exact h
end
set_option maxRecDepth 10000
theorem qsl.sub {l m : List Evt} (h : qsl m) (s : l.Sublist m) : qsl l := List.Pairwise.sublist s h
theorem q9l {l : List Evt} (hd : qsl l) (hs : l.Pairwise leE) : l = sortL l := qlp hd (List.Perm.refl _) hs
theorem qur {l m : List Evt} (hd : qsl m) (hp : l.Perm m) : sortL l = sortL m := qlp hd ((qd2 l).trans hp) (qfj l)
theorem qox (l : List Evt) : (sortL l).length = l.length := (qd2 l).length_eq
theorem qcr.sortL {l : List Evt} (h : qcr l) : qcr (sortL l) := fun x hx => h x ((qd2 l).mem_iff.1 hx)
section
variable (l m : List Evt) (c d : Bool)
end
def qh8 (l : List Evt) (k : List Int) : List Evt × Bool := (l.eraseP (fun e => decide (e.key = k)), l.any (fun e => decide (e.key = k)))
section
variable (l : List Evt) (c : Bool) (k : List Int) (d : Bool)
theorem qaa0 {i : Nat} {x : Evt} (h : l[i]? = some x) (hx : x.key = k) (hb : ∀ (j : Nat) (z : Evt), j < i → l[j]? = some z → ¬ z.key = k) : qh8 l k = (l.take i ++ l.drop (i + 1), true) := by
 unfold qh8
 have hany : l.any (fun e => decide (e.key = k)) = true := List.any_eq_true.2 ⟨x, List.mem_of_getElem? h, by simpa using hx⟩
 rw [hany]
 obtain ⟨hi, hxe⟩ := List.getElem?_eq_some_iff.1 h
 have hsplit : l = l.take i ++ x :: l.drop (i + 1) := by
  rw [← hxe]; simp
 congr 1
 conv => lhs; rw [hsplit]
 rw [List.eraseP_append_right _ (fun z hz => by
  obtain ⟨j, hj⟩ := List.mem_iff_getElem?.1 hz
  rw [List.getElem?_take] at hj
  split at hj
  ·simpa using hb j z (by omega) hj
  ·cases hj)]
 rw [List.eraseP_cons_of_pos (by simpa using hx)]
theorem q54 (h : ∀ x ∈ l, ¬ x.key = k) : qh8 l k = (l, false) := by
 unfold qh8
 rw [List.eraseP_of_forall_not (fun x hx => by simpa using h x hx)]
 congr 1
 rw [List.any_eq_false]
 exact fun x hx => by simpa using h x hx
end
set_option maxRecDepth 10000
theorem qvz {α : Type} [DecidableEq α] : ∀ {a b : List α}, a.length = b.length → ((a.zip b).all (fun z => decide (z.1 = z.2)) = true ↔ a = b)
 | [], [], _ => by simp
 | x :: a, y :: b, h => by
  rw [List.zip_cons_cons, List.all_cons, Bool.and_eq_true, decide_eq_true_eq, qvz (a := a) (b := b) (by simpa using h), List.cons.injEq]
 | [], _ :: _, h => by simp at h
 | _ :: _, [], h => by simp at h
section
variable (a b : List Int) (c d : Bool)
theorem q1t (hab : a.length = b.length) (hl : a.length ≤ 9223372036854775807) :
  ∃ y, itB (exec (evL T) itL none qef) (qr [0, 1, 12, 13] true 0) ⟨[(0, (.fsl ((a).map qb9) c)), (1, (.fsl ((b).map qb9) d)), (12, (ii a.length)), (13, (ii 0))], []⟩ [] = some y ∧ ((a.zip b).all (fun z => decide (z.1 = z.2)) = true ∧ (y.1 = .exit 0 ∧ y.2.1.marks = [] ∧ y.2.2 = []) ∨
   (a.zip b).all (fun z => decide (z.1 = z.2)) = false ∧ ∃ x, (a.zip b).find? (fun z => !decide (z.1 = z.2)) = some x ∧ (y.1 = .ret ∧ y.2.1.marks = [] ∧ y.2.2 = [] ∧ Ev.look y.2.1.vars 4 = some (bb false))) := by
 have hzl : (a.zip b).length = a.length := by rw [List.length_zip, ← hab, Nat.min_self]
 refine qie (a.zip b) (fun i => ⟨[(0, (.fsl ((a).map qb9) c)), (1, (.fsl ((b).map qb9) d)), (12, (ii a.length)), (13, (ii i))], []⟩) [] (fun z => decide (z.1 = z.2)) _ (fun _ y => _) ?_ ?_ ?_
 ·intro i x hi hx hp
  rw [hzl] at hi
  have hi' : (i : Int) < (a.length : Int) := by omega
  have hw : IntKind.i64.wrap ((i : Int) + 1) = ((i + 1 : Nat) : Int) := by rw [qaw (by omega) (by omega)]; simp
  obtain ⟨hxa, hxb⟩ := List.getElem?_zip_eq_some.1 hx
  have hp' := of_decide_eq_true hp
  simp only [qef, zgs, zgr, zgq, zgt, hxa, hxb, hi', hw, hp', qag, qb9, Ev.exec, qb, qe, qc, qai, Ev.Opnd.ev, Ev.Env.get, Ev.Env.set, Ev.look, qk, qae, qaf, qbx, ql, qr, Ev.keep, qad, qw, qd, qa1, qu, ↓qs, Ev.it1, ↓reduceIte, zga, zgb, zfe, zgh, Nat.reduceEqDiff, reduceCtorEq, zgv, zgw, zfc, zfa, zgx, ne_eq, not_true_eq_false, zfd, zgy]
 ·intro i x hi hx hp
  rw [hzl] at hi
  have hi' : (i : Int) < (a.length : Int) := by omega
  obtain ⟨hxa, hxb⟩ := List.getElem?_zip_eq_some.1 hx
  have hp' : ¬ x.1 = x.2 := of_decide_eq_false hp
  simp only [qef, zgs, zgr, zgq, zgt, hxa, hxb, hi', hp', qb9, Ev.exec, qb, qe, qc, qai, Ev.Opnd.ev, Ev.Env.get, Ev.Env.set, Ev.look, qk, qae, qbx, ql, ↓qs, Ev.it1, ↓reduceIte, zga, zgb, zgh, Nat.reduceEqDiff, reduceCtorEq, zgv, zfa, ne_eq, zfb, zfd, zgy]
  exact ⟨_, rfl, rfl, rfl, rfl, rfl⟩
 ·rw [hzl]
  simp only [qef, Int.lt_irrefl, Ev.exec, qb, qe, qc, qai, Ev.Opnd.ev, Ev.Env.get, Ev.Env.set, Ev.look, ql, ↓qs, Ev.it1, ↓reduceIte, Nat.reduceEqDiff, reduceCtorEq, zgw, zfa, zgy]
  exact ⟨_, rfl, rfl, rfl, rfl⟩
theorem qr3 (hl : a.length ≤ 9223372036854775807) (hl2 : b.length ≤ 9223372036854775807) : qa4 (evL T) qdb [(.fsl ((a).map qb9) c), (.fsl ((b).map qb9) d)] = some (bb (decide (a = b))) := by
 rw [qa4, qx qo6 qoi]
 by_cases hab : a.length = b.length
 ·have hab' : (a.length : Int) = (b.length : Int) := by omega
  obtain ⟨⟨y, e, σ⟩, k1, k2⟩ := q1t a b c d hab hl
  simp only at k2
  rcases k2 with ⟨k3, rfl, k4, rfl⟩ | ⟨k3, x, _, rfl, k4, rfl, k5⟩
  ·have : a = b := (qvz hab).1 k3
   rw [hab'] at k1
   simp only [qed, this, qag, qn, Ev.exec, qb, qe, qc, qai, Ev.Opnd.ev, Ev.Env.get, Ev.Env.set, Ev.look, qo, qbx, qm, qab, qaj, qah, qr, Ev.keep, qad, qw, qd, qa1, qu, zgi, ↓qs, ↓qaq, ↓reduceIte, zga, zgb, zgo, zfe, Nat.reduceAdd, Nat.reduceEqDiff, reduceCtorEq, zgv, zgw, zfc, zfa, zgx, and_true, ne_eq, not_true_eq_false, zfd, zgy]
   subst this
   simp only [k1, k4, Ev.look, Ev.kill, qa1, qal, ↓reduceIte, zgy]
  ·have : ¬ a = b := fun h => by rw [(qvz hab).2 h] at k3; cases k3
   simp only [this]
   rw [hab'] at k1
   simp only [qed, hab', k1, k4, k5, qag, qn, Ev.exec, qb, qe, qc, qai, Ev.Opnd.ev, Ev.Env.get, Ev.Env.set, Ev.look, qo, qbx, qm, qab, qaj, Ev.kill, qah, qr, Ev.keep, qad, qw, qd, qa1, qu, qal, zgi, ↓qs, ↓qaq, ↓reduceIte, zga, zgb, zfe, Nat.reduceAdd, Nat.reduceEqDiff, reduceCtorEq, zgw, zfc, zfa, zgx, ne_eq, not_true_eq_false, zfd, zgy]
 ·have hab' : ¬ (a.length : Int) = (b.length : Int) := by omega
  have : ¬ a = b := fun h => hab (by rw [h])
  simp only [qed, hab', this, qn, Ev.exec, qb, qe, qc, qai, Ev.Opnd.ev, Ev.Env.get, Ev.Env.set, Ev.look, qo, qbx, qm, qab, qaj, Ev.kill, qah, qd, qa1, qal, zgi, ↓qs, ↓reduceIte, zga, zgb, zfe, Nat.reduceAdd, Nat.reduceEqDiff, reduceCtorEq, zgv, zgw, zgx, ne_eq, zfb, zfd, zgy]
end
theorem qnx (n : Nat) : ∀ (a b : qaa), qd n (a ++ b) = (qd n a && qd n b)
 | [], b => by simp [qd]
 | x :: a, b => by simp only [zgm, qd, qnx n a b, Bool.and_assoc]
theorem qlk {n : Nat} : ∀ {σ : qaa}, qd n σ = true ↔ ∀ x ∈ σ, SObj.lo n x = true
 | [] => by simp [qd]
 | x :: a => by simp only [qd, Bool.and_eq_true, qlk (σ := a), List.mem_cons, forall_eq_or_imp]
theorem qt7 {n : Nat} {σ : qaa} (h : qd n σ = true) (i : Nat) {x : SObj} (hx : x.lo n = true) : qd n (σ.set i x) = true := by
 rw [qlk] at h ⊢
 intro y hy
 rcases List.mem_or_eq_of_mem_set hy with hy | rfl
 ·exact h y hy
 ·exact hx
mutual
theorem q2p {n m : Nat} (h : n ≤ m) : ∀ (a : AV), a.lo n = true → a.lo m = true
 | .v _, _ => by simp only [AV.lo]
 | .agg cs, k => by simp only [AV.lo] at k ⊢; exact qqs h cs k
 | .tup cs, k => by simp only [AV.lo] at k ⊢; exact qqs h cs k
 | .fsl es _, k => by simp only [AV.lo] at k ⊢; exact qkj h es k
 | .fptr cs, k => by simp only [AV.lo] at k ⊢; exact qqs h cs k
 | .sl o _ _ _ _, k => by simp only [AV.lo, decide_eq_true_eq] at k ⊢; omega
 | .ptr o _ _ _, k => by simp only [AV.lo, decide_eq_true_eq] at k ⊢; omega
 | .fn _ a b, k => by simp only [AV.lo, Bool.and_eq_true] at k ⊢; exact ⟨qqs h a k.1, qqs h b k.2⟩
 | .yld o, k => by simp only [AV.lo, decide_eq_true_eq] at k ⊢; omega
 | .mp o, k => by simp only [AV.lo, decide_eq_true_eq] at k ⊢; omega
theorem qqs {n m : Nat} (h : n ≤ m) : ∀ (l : List AV), los n l = true → los m l = true
 | [], _ => by simp only [los]
 | a :: l, k => by simp only [los, Bool.and_eq_true] at k ⊢; exact ⟨q2p h a k.1, qqs h l k.2⟩
theorem qkj {n m : Nat} (h : n ≤ m) : ∀ (es : List (List AV)), qg9 n es = true → qg9 m es = true
 | [], _ => by simp only [qg9]
 | a :: l, k => by simp only [qg9, Bool.and_eq_true] at k ⊢; exact ⟨qqs h a k.1, qkj h l k.2⟩
end
theorem q0p {n m : Nat} (h : n ≤ m) : ∀ (l : List (Nat × AV)), qad n l = true → qad m l = true
 | [], _ => by simp only [qad]
 | (_, a) :: r, k => by simp only [qad, Bool.and_eq_true] at k ⊢; exact ⟨q2p h a k.1, q0p h r k.2⟩
theorem q0z {n m : Nat} (h : n ≤ m) (o : SObj) (k : o.lo n = true) : o.lo m = true := by
 cases o <;> simp only [SObj.lo] at k ⊢
 ·exact qkj h _ k
 ·exact q0p h _ k
theorem qmu {n m : Nat} (h : n ≤ m) {σ : qaa} (k : qd n σ = true) : qd m σ = true := by
 rw [qlk] at k ⊢
 exact fun x hx => q0z h x (k x hx)
set_option maxRecDepth 10000
def qgj : List (Int × AV) := [(1, .fn (.func qck) [] []), (2, .fn (.func qcj) [] []), (3, .fn (.func qcf) [] []), (4, .fn (.func qb7) [] []), (5, .fn (.func qcg) [] []), (6, .fn (.func qct) [] []), (7, .fn (.func qcn) [] []), (8, .fn (.func qcu) [] [])]
section
variable (a0 a1 a2 : Int) (am : Nat) (x : Ex) (gp gc gg : Nat)
theorem qsc (i : Nat) (hi : x.ev.proc = i) (hp : i < x.procs.length) :
  (evL T).call qa0 [.ptr 5 0 0 0] [.row 4 [[(ii a0), (ii a1), .sl 2 0 0 am false, (ii a2)]] 0, .row 4 [[(ii 0), (ii 0), .fsl [] false, (ii 0)]] 0, .row 4 ((x.procs).map Pr.r) gp, .row 6 ((x.out).map Evt.r) gc, .row 1 ((x.gone).map qfz) gg, .row 14 [[(ii x.r0), (ii x.r1), .sl 2 gp 0 x.procs.length false, (ii x.sum), (ii x.ev.time), (.fsl ((x.ev.key).map qb9) false), (ii x.ev.lp), (ii x.ev.kind), (ii x.ev.proc), (ii x.ev.arg), .sl 3 gc 0 x.out.length false, (ii x.n), .sl 4 gg 0 x.gone.length false, (bb x.over)]] 0, .mp .i64 qgj] = some (.ptr 2 gp i 0, [.row 4 [[(ii a0), (ii a1), .sl 2 0 0 am false, (ii a2)]] 0, .row 4 [[(ii 0), (ii 0), .fsl [] false, (ii 0)]] 0, .row 4 ((x.procs).map Pr.r) gp, .row 6 ((x.out).map Evt.r) gc, .row 1 ((x.gone).map qfz) gg, .row 14 [[(ii x.r0), (ii x.r1), .sl 2 gp 0 x.procs.length false, (ii x.sum), (ii x.ev.time), (.fsl ((x.ev.key).map qb9) false), (ii x.ev.lp), (ii x.ev.kind), (ii x.ev.proc), (ii x.ev.arg), .sl 3 gc 0 x.out.length false, (ii x.n), .sl 4 gg 0 x.gone.length false, (bb x.over)]] 0, .mp .i64 qgj]) := by
 rw [qx qkt qkl]
 simp only [qe6, hi, hp, zgs, zgr, qag, qau, qv, qbs, Nat.reduceLT, qn, Ev.exec, qb, qe, qc, qai, Ev.Opnd.ev, Ev.Env.get, Ev.Env.set, Ev.look, qo, qk, qae, qm, qab, qaj, Ev.kill, qah, qd, Ev.SObj.lo, qa1, qu, qbn, qf0, qj, qh, qac, qao, ↓qs, ↓reduceIte, zga, zgb, zgd, zge, zgc, zfe, zgf, zgg, zgh, Nat.reduceAdd, Nat.reduceEqDiff, Nat.reduceLT, reduceCtorEq, zgv, zfc, zfa, zgx, zfd, Nat.add_zero, zgy]
theorem qabg (k p a : Int) : (evL T).call qcw [.ptr 5 0 0 0, (ii k), (ii p), (ii a)] [.row 4 [[(ii a0), (ii a1), .sl 2 0 0 am false, (ii a2)]] 0, .row 4 [[(ii 0), (ii 0), .fsl [] false, (ii 0)]] 0, .row 4 ((x.procs).map Pr.r) gp, .row 6 ((x.out).map Evt.r) gc, .row 1 ((x.gone).map qfz) gg, .row 14 [[(ii x.r0), (ii x.r1), .sl 2 gp 0 x.procs.length false, (ii x.sum), (ii x.ev.time), (.fsl ((x.ev.key).map qb9) false), (ii x.ev.lp), (ii x.ev.kind), (ii x.ev.proc), (ii x.ev.arg), .sl 3 gc 0 x.out.length false, (ii x.n), .sl 4 gg 0 x.gone.length false, (bb x.over)]] 0, .mp .i64 qgj] = some (.agg [(ii 0), .fsl [] false, (ii x.ev.lp), (ii k), (ii p), (ii a)], [.row 4 [[(ii a0), (ii a1), .sl 2 0 0 am false, (ii a2)]] 0, .row 4 [[(ii 0), (ii 0), .fsl [] false, (ii 0)]] 0, .row 4 ((x.procs).map Pr.r) gp, .row 6 ((x.out).map Evt.r) gc, .row 1 ((x.gone).map qfz) gg, .row 14 [[(ii x.r0), (ii x.r1), .sl 2 gp 0 x.procs.length false, (ii x.sum), (ii x.ev.time), (.fsl ((x.ev.key).map qb9) false), (ii x.ev.lp), (ii x.ev.kind), (ii x.ev.proc), (ii x.ev.arg), .sl 3 gc 0 x.out.length false, (ii x.n), .sl 4 gg 0 x.gone.length false, (bb x.over)]] 0, .mp .i64 qgj]) := by
 rw [qx qpp qok]
 simp only [qgy, qag, qau, qv, qbs, Nat.reduceLT, Nat.reduceLeDiff, qn, Ev.exec, qb, qe, qc, qai, Ev.Opnd.ev, Ev.Env.get, Ev.Env.set, Ev.look, qo, qk, qae, qg6, Ev.AV.cells, Ev.AV.uc, qy, Ev.AV.plain, qm, qab, qaj, Ev.kill, qah, qd, Ev.SObj.lo, qa1, qbd, qu, qbn, qj, qh, qac, qao, ↓qs, ↓reduceIte, zga, zgb, zgd, zge, zgc, zgo, zfe, zgf, zgg, List.drop_nil, zgm, zgl, zgn, zgj, zgk, zgh, Nat.reduceAdd, Nat.reduceEqDiff, Nat.reduceLT, Nat.reduceLeDiff, reduceCtorEq, zgv, zfc, zfa, zgx, ne_eq, zfb, zff, zfd, Nat.le_refl, zgy]
def qmx (x : Ex) (d : Int) (gc : Nat) : Nat := if w64 (x.ev.time + d) > 1152921504606846976 then gc else gc + 1
theorem qu8 (h : x.Small) (d : Int) (t0 lp k p a : Int) (ks : List Int) :
  (evL T).call qbr [.ptr 5 0 0 0, (ii d), .agg [(ii t0), (.fsl ((ks).map qb9) false), (ii lp), (ii k), (ii p), (ii a)]] [.row 4 [[(ii a0), (ii a1), .sl 2 0 0 am false, (ii a2)]] 0, .row 4 [[(ii 0), (ii 0), .fsl [] false, (ii 0)]] 0, .row 4 ((x.procs).map Pr.r) gp, .row 6 ((x.out).map Evt.r) gc, .row 1 ((x.gone).map qfz) gg, .row 14 [[(ii x.r0), (ii x.r1), .sl 2 gp 0 x.procs.length false, (ii x.sum), (ii x.ev.time), (.fsl ((x.ev.key).map qb9) false), (ii x.ev.lp), (ii x.ev.kind), (ii x.ev.proc), (ii x.ev.arg), .sl 3 gc 0 x.out.length false, (ii x.n), .sl 4 gg 0 x.gone.length false, (bb x.over)]] 0, .mp .i64 qgj] = some ((.fsl ((x.kid).map qb9) false), [.row 4 [[(ii a0), (ii a1), .sl 2 0 0 am false, (ii a2)]] 0, .row 4 [[(ii 0), (ii 0), .fsl [] false, (ii 0)]] 0, .row 4 (((x.create d ⟨t0, ks, lp, k, p, a⟩).procs).map Pr.r) gp, .row 6 (((x.create d ⟨t0, ks, lp, k, p, a⟩).out).map Evt.r) (qmx x d gc), .row 1 (((x.create d ⟨t0, ks, lp, k, p, a⟩).gone).map qfz) gg, .row 14 [[(ii ((x.create d ⟨t0, ks, lp, k, p, a⟩).r0)), (ii ((x.create d ⟨t0, ks, lp, k, p, a⟩).r1)), .sl 2 gp 0 (x.create d ⟨t0, ks, lp, k, p, a⟩).procs.length false, (ii ((x.create d ⟨t0, ks, lp, k, p, a⟩).sum)), (ii ((x.create d ⟨t0, ks, lp, k, p, a⟩).ev.time)), (.fsl (((x.create d ⟨t0, ks, lp, k, p, a⟩).ev.key).map qb9) false), (ii ((x.create d ⟨t0, ks, lp, k, p, a⟩).ev.lp)), (ii ((x.create d ⟨t0, ks, lp, k, p, a⟩).ev.kind)), (ii ((x.create d ⟨t0, ks, lp, k, p, a⟩).ev.proc)), (ii ((x.create d ⟨t0, ks, lp, k, p, a⟩).ev.arg)), .sl 3 (qmx x d gc) 0 (x.create d ⟨t0, ks, lp, k, p, a⟩).out.length false, (ii ((x.create d ⟨t0, ks, lp, k, p, a⟩).n)), .sl 4 gg 0 (x.create d ⟨t0, ks, lp, k, p, a⟩).gone.length false, (bb ((x.create d ⟨t0, ks, lp, k, p, a⟩).over))]] 0, .mp .i64 qgj]) := by
 have hk := q1z x.ev.key false x.n h.key
 have hs : (x.out.length + 1) * 64 ≤ 140737488355328 := by have := h.out; omega
 have htl : List.take x.out.length (x.out.map Evt.r) = x.out.map Evt.r := List.take_of_length_le (by simp)
 have hlo : los 7 ([(ii x.r0), (ii x.r1), .sl 2 gp 0 x.procs.length false, (ii x.sum), (ii x.ev.time), (.fsl ((x.ev.key).map qb9) false), (ii x.ev.lp), (ii x.ev.kind), (ii x.ev.proc), (ii x.ev.arg), .sl 3 gc 0 x.out.length false, (ii x.n), .sl 4 gg 0 x.gone.length false, (bb x.over)]) = true := by simp only [qag, Nat.reduceLT, qa1, qu, qbn, qj, qh, Nat.reduceLT, zgv, zfc, zgy]
 rw [qx qnj qmw]
 unfold Ex.create qmx Ex.kid
 by_cases ho : w64 (x.ev.time + d) > 1152921504606846976
 ·have ho' : IntKind.i64.wrap (x.ev.time + d) > 1152921504606846976 := ho
  simp only [ho, if_true]
  simp only [qee, hk, ho', qag, qau, qv, qbs, Nat.reduceLT, Nat.reduceLeDiff, qn, Ev.exec, qb, qe, qc, qa5, qai, Ev.evs, Ev.Opnd.ev, Ev.Env.get, Ev.Env.set, Ev.look, qo, qk, qae, Ev.AV.cells, Ev.AV.uc, qy, Ev.AV.plain, qaf, qas, qm, qab, qaj, Ev.kill, qah, qd, Ev.SObj.lo, qa1, qu, qbn, qj, qh, qac, qao, ↓qs, ↓reduceIte, zga, zgb, zgd, zge, zgc, zgo, zgf, zgg, List.drop_nil, zgm, zgl, zgn, zgj, zgk, zgh, Nat.reduceAdd, Nat.reduceEqDiff, Nat.reduceLT, Nat.reduceLeDiff, reduceCtorEq, zgv, zfc, zfa, zgx, ne_eq, zfb, zff, zfd, Nat.add_zero, Nat.le_refl, zgy]
  done
 ·have ho' : ¬ IntKind.i64.wrap (x.ev.time + d) > 1152921504606846976 := ho
  simp only [ho, if_false]
  have hr : ∀ e : Evt, (x.out ++ [e]).map Evt.r = x.out.map Evt.r ++ [e.r] := fun e => by rw [List.map_append]; rfl
  simp only [qee, hk, ho', hs, htl, hr, qj8, Evt.r, qag, qau, qv, qbs, Nat.reduceLT, Nat.reduceLeDiff, qn, Ev.exec, qb, qe, qc, qa5, qai, qn9, Ev.evs, Ev.Opnd.ev, Ev.Env.get, Ev.Env.set, Ev.look, qo, qk, qb0, qae, qf6, Ev.AV.cells, Ev.AV.uc, qy, Ev.AV.plain, qaf, qas, qm, qab, qaj, Ev.kill, qah, qd, Ev.SObj.lo, qa1, qu, qbn, qj, qh, qac, qao, qbl, qa9, List.replicate_one, zgi, ↓qs, ↓reduceIte, zga, zgb, zgp, zgd, zge, zgc, zgo, zfe, zgf, zgg, zgm, zgl, zgj, zgk, zgh, Nat.reduceAdd, Nat.reduceEqDiff, Nat.reduceMul, Nat.reduceLT, Nat.reduceLeDiff, Nat.reducePow, reduceCtorEq, zgv, zgw, zfc, zfa, zgx, ne_eq, zfb, zff, zfd, Nat.add_zero, zgu, Nat.le_refl, zgy]
  done
end
end Go.Proofs.YtbhhifdhlafklaaGreat.K
