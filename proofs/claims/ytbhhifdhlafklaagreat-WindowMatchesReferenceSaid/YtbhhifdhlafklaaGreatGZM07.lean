/- For every input the statement of this claim returns true: texts of its proof, joined (part 8). -/
import Derived.Test.YtbhhifdhlafklaaGreatGZM06
set_option linter.unusedSectionVars false
set_option linter.unusedSimpArgs false
set_option linter.unusedVariables false
namespace Go.Proofs.YtbhhifdhlafklaaGreat.K
open Go.Ev
set_option maxRecDepth 10000
section
variable (g : Nat) (cl : Bool) (n : Nat)
def qbl (a m b : Nat) (D D' : List Evt) : Prop:=(evL T).call qav [.sl 0 g 0 n cl,(ii a),(ii m),(ii b),(.fn (.func qr) [] [])] [.row 6 ((D).map Evt.r) g] = some (.tup [],[.row 6 ((D').map Evt.r) g])
structure Nums (x1 x2 y1 y2 a m b mid nn lo hi p start fin : Nat) : Prop where
 hX1 : 1 < x1 + x2
 hY1 : 1 < y1 + y2
 hb : n < 2 ^ 61
 hmid : mid = (a + b) / 2
 hnn : nn = mid + m
 hp : nn = p + 1
 hfin : nn = start + fin
 hm : m = a + (x1 + x2)
 hbb : b = m + (y1 + y2)
 hbn : b ≤ n
 hst : start = a + x1
 hfi : fin = m + y1
structure Wraps (x1 x2 y1 y2 a m b mid nn p start fin : Nat) : Prop where
 w1 : IntKind.i64.wrap ((m : Int) - (a : Int)) = ((x1 + x2 : Nat) : Int)
 h1 : ¬ ((x1 + x2 : Nat) : Int) = 1
 w2 : IntKind.i64.wrap ((b : Int) - (m : Int)) = ((y1 + y2 : Nat) : Int)
 h2 : ¬ ((y1 + y2 : Nat) : Int) = 1
 w3 : IntKind.i64.wrap ((a : Int) + (b : Int)) = ((a + b : Nat) : Int)
 w4 : IntKind.u64.wrap ((a + b : Nat) : Int) = ((a + b : Nat) : Int)
 w5 : qmw .shr (.v (.int .u64 ((a + b : Nat) : Int))) (.v (.int .u64 1)) = some (.v (.int .u64 (mid : Int)))
 w6 : IntKind.i64.wrap (mid : Int) = (mid : Int)
 w7 : IntKind.i64.wrap ((mid : Int) + (m : Int)) = (nn : Int)
 w8 : IntKind.i64.wrap ((nn : Int) - 1) = (p : Int)
 w9 : IntKind.i64.wrap ((nn : Int) - (start : Int)) = (fin : Int)
 c5 : mid < fin ↔ start < m
 c6 : start < mid ↔ m < fin
theorem Nums.wraps {n x1 x2 y1 y2 a m b mid nn lo hi p start fin : Nat} (N : Nums n x1 x2 y1 y2 a m b mid nn lo hi p start fin) : Wraps x1 x2 y1 y2 a m b mid nn p start fin:=by
 obtain ⟨hX1,hY1,hb,hmid,hnn,hp,hfin,hm,hbb,hbn,hst,hfi⟩:=N
 refine ⟨qfr hm (by omega),by omega,qfr hbb (by omega),by omega,qmh (by omega),qs0 (by omega),qvq (a + b) mid hmid,qsq (by omega),?_,qs9 hp (by omega),qfr hfin (by omega),by omega,by omega⟩
 rw [hnn];exact qmh (by omega)
def qlh (a m b mid nn lo hi p start : Nat) (D : List Evt) : Prop:=∃ y,itB (exec (evL T) itL none qbo) (qq [0,1,2,3,4,18,19,20,21,22] true 1) ⟨[(0,.sl 0 g 0 n cl),(1,(ii a)),(2,(ii m)),(3,(ii b)),(4,(.fn (.func qr) [] [])),(18,(ii mid)),(19,(ii nn)),(20,(ii lo)),(21,(ii hi)),(22,(ii p))],[]⟩ [.row 6 ((D).map Evt.r) g] = some y ∧
   (y.1 = .exit 8 ∧ y.2.1.marks = [] ∧ y.2.2 = [.row 6 ((D).map Evt.r) g] ∧ Ev.look y.2.1.vars 0 = some (.sl 0 g 0 n cl) ∧ Ev.look y.2.1.vars 1 = some (ii a) ∧ Ev.look y.2.1.vars 2 = some (ii m) ∧ Ev.look y.2.1.vars 3 = some (ii b) ∧ Ev.look y.2.1.vars 4 = some (.fn (.func qr) [] []) ∧ Ev.look y.2.1.vars 18 = some (ii mid) ∧
    Ev.look y.2.1.vars 19 = some (ii nn) ∧ Ev.look y.2.1.vars 20 = some (ii start))
structure Steps (a m b mid start fin : Nat) (D D2 D3 D4 : List Evt) : Prop where
 s1 : start < m → m < fin → (evL T).call qbf [.sl 0 g 0 n cl,(ii start),(ii m),(ii fin),(.fn (.func qr) [] [])] [.row 6 ((D).map Evt.r) g] = some (.tup [],[.row 6 ((D2).map Evt.r) g])
 n1 : ¬ (start < m ∧ m < fin) → D2 = D
 s2 : a < start → start < mid → qbl g cl n a start mid D2 D3
 n2 : ¬ (a < start ∧ start < mid) → D3 = D2
 s3 : mid < fin → fin < b → qbl g cl n mid fin b D3 D4
 n3 : ¬ (mid < fin ∧ fin < b) → D4 = D3
theorem q0i (x1 x2 y1 y2 a m b mid nn lo hi p start fin : Nat) (D D2 D3 D4 : List Evt) (N : Nums n x1 x2 y1 y2 a m b mid nn lo hi p start fin) (g1 : mid < m) (g2 : nn = b + lo)
  (d1 : start < m) (d2 : m < fin) (d3 : a < start) (d4 : fin < b)
  (hf : qlh g cl n a m b mid nn lo mid p start D) (hS : Steps g cl n a m b mid start fin D D2 D3 D4) : qbl g cl n a m b D D4:=by
 obtain ⟨s1,n1,s2,n2,s3,n3⟩:=hS
 obtain ⟨⟨y,e,σ⟩,k1,k2,k3,k4,k5,k6,k7,k8,k9,k10,k11,k12⟩:=hf
 obtain ⟨w1,h1,w2,h2,w3,w4,w5,w6,w7,w8,w9,c5,c6⟩:=N.wraps
 simp only at k1 k2 k3 k4 k5 k6 k7 k8 k9 k10 k11 k12
 subst k2;subst k4
 unfold qbl at *
 rw [qy qk qi]
 have g4 : (m : Int) > (mid : Int):=Int.ofNat_lt.2 g1
 have g5 : IntKind.i64.wrap ((nn : Int) - (b : Int)) = (lo : Int):=qfr g2 (by have:=N.hnn;have:=N.hmid;have:=N.hb;have:=N.hbn;have:=N.hm;have:=N.hbb;omega)
 have e1 : (start : Int) < (m : Int):=Int.ofNat_lt.2 d1
 have e2 : (m : Int) < (fin : Int):=Int.ofNat_lt.2 d2
 have e3 : (a : Int) < (start : Int):=Int.ofNat_lt.2 d3
 have e5 : (mid : Int) < (fin : Int):=Int.ofNat_lt.2 (c5.2 d1)
 have e6 : (start : Int) < (mid : Int):=Int.ofNat_lt.2 (c6.2 d2)
 have e4 : (fin : Int) < (b : Int):=Int.ofNat_lt.2 d4
 have r1:=s1 d1 d2
 have r2:=s2 d3 (c6.2 d2)
 have r3:=s3 (c5.2 d1) d4
 simp only [qj,w1,w2,w3,w4,w5,w6,w7,w8,w9,h1,h2,g4,k1,k3,k5,k6,k7,k8,k9,k10,k11,k12,e1,e2,e3,e5,e6,g5,r1,r2,r3,e4,qv,qn,Ev.exec,qb,qe,qc,qd6,qaj,Ev.evs,Ev.Opnd.ev,Ev.Env.get,Ev.Env.set,Ev.look,qo,qaf,qcl,qam,ql,qau,qm,qak,Ev.kill,qai,qq,Ev.keep,qae,qw,qd,Ev.SObj.lo,qax,qa3,qbj,qfc,qg,↓qs,↓qan,↓reduceIte,zga,zgb,zgc,zfe,Nat.reduceAdd,Nat.reduceEqDiff,reduceCtorEq,zgv,zgw,zfc,zfa,zgx,zfd,zgu,zgy]
theorem qzn (x1 x2 y1 y2 a m b mid nn lo hi p start fin : Nat) (D D2 D3 D4 : List Evt) (N : Nums n x1 x2 y1 y2 a m b mid nn lo hi p start fin) (g1 : mid < m) (g2 : nn = b + lo)
  (d1 : start < m) (d2 : m < fin) (d3 : a < start) (d4 : ¬ fin < b)
  (hf : qlh g cl n a m b mid nn lo mid p start D) (hS : Steps g cl n a m b mid start fin D D2 D3 D4) : qbl g cl n a m b D D4:=by
 obtain ⟨s1,n1,s2,n2,s3,n3⟩:=hS
 obtain ⟨⟨y,e,σ⟩,k1,k2,k3,k4,k5,k6,k7,k8,k9,k10,k11,k12⟩:=hf
 obtain ⟨w1,h1,w2,h2,w3,w4,w5,w6,w7,w8,w9,c5,c6⟩:=N.wraps
 simp only at k1 k2 k3 k4 k5 k6 k7 k8 k9 k10 k11 k12
 subst k2;subst k4
 unfold qbl at *
 rw [qy qk qi]
 have g4 : (m : Int) > (mid : Int):=Int.ofNat_lt.2 g1
 have g5 : IntKind.i64.wrap ((nn : Int) - (b : Int)) = (lo : Int):=qfr g2 (by have:=N.hnn;have:=N.hmid;have:=N.hb;have:=N.hbn;have:=N.hm;have:=N.hbb;omega)
 have e1 : (start : Int) < (m : Int):=Int.ofNat_lt.2 d1
 have e2 : (m : Int) < (fin : Int):=Int.ofNat_lt.2 d2
 have e3 : (a : Int) < (start : Int):=Int.ofNat_lt.2 d3
 have e5 : (mid : Int) < (fin : Int):=Int.ofNat_lt.2 (c5.2 d1)
 have e6 : (start : Int) < (mid : Int):=Int.ofNat_lt.2 (c6.2 d2)
 have e4 : ¬ (fin : Int) < (b : Int):=fun h => d4 (Int.ofNat_lt.1 h)
 have r1:=s1 d1 d2
 have r2:=s2 d3 (c6.2 d2)
 have r3:=n3 (fun h => d4 h.2);subst r3
 simp only [qj,w1,w2,w3,w4,w5,w6,w7,w8,w9,h1,h2,g4,k1,k3,k5,k6,k7,k8,k9,k10,k11,k12,e1,e2,e3,e5,e6,g5,r1,r2,e4,qv,qn,Ev.exec,qb,qe,qc,qd6,qaj,Ev.evs,Ev.Opnd.ev,Ev.Env.get,Ev.Env.set,Ev.look,qo,qaf,qcl,qam,ql,qau,qm,qak,Ev.kill,qai,qq,Ev.keep,qae,qw,qd,Ev.SObj.lo,qax,qa3,qbj,qfc,qg,↓qs,↓qan,↓reduceIte,zga,zgb,zgc,zfe,Nat.reduceAdd,Nat.reduceEqDiff,reduceCtorEq,zgv,zgw,zfc,zfa,zgx,zfd,zgu,zgy]
theorem q2d (x1 x2 y1 y2 a m b mid nn lo hi p start fin : Nat) (D D2 D3 D4 : List Evt) (N : Nums n x1 x2 y1 y2 a m b mid nn lo hi p start fin) (g1 : mid < m) (g2 : nn = b + lo)
  (d1 : start < m) (d2 : m < fin) (d3 : ¬ a < start) (d4 : fin < b)
  (hf : qlh g cl n a m b mid nn lo mid p start D) (hS : Steps g cl n a m b mid start fin D D2 D3 D4) : qbl g cl n a m b D D4:=by
 obtain ⟨s1,n1,s2,n2,s3,n3⟩:=hS
 obtain ⟨⟨y,e,σ⟩,k1,k2,k3,k4,k5,k6,k7,k8,k9,k10,k11,k12⟩:=hf
 obtain ⟨w1,h1,w2,h2,w3,w4,w5,w6,w7,w8,w9,c5,c6⟩:=N.wraps
 simp only at k1 k2 k3 k4 k5 k6 k7 k8 k9 k10 k11 k12
 subst k2;subst k4
 unfold qbl at *
 rw [qy qk qi]
 have g4 : (m : Int) > (mid : Int):=Int.ofNat_lt.2 g1
 have g5 : IntKind.i64.wrap ((nn : Int) - (b : Int)) = (lo : Int):=qfr g2 (by have:=N.hnn;have:=N.hmid;have:=N.hb;have:=N.hbn;have:=N.hm;have:=N.hbb;omega)
 have e1 : (start : Int) < (m : Int):=Int.ofNat_lt.2 d1
 have e2 : (m : Int) < (fin : Int):=Int.ofNat_lt.2 d2
 have e3 : ¬ (a : Int) < (start : Int):=fun h => d3 (Int.ofNat_lt.1 h)
 have e5 : (mid : Int) < (fin : Int):=Int.ofNat_lt.2 (c5.2 d1)
 have e6 : (start : Int) < (mid : Int):=Int.ofNat_lt.2 (c6.2 d2)
 have e4 : (fin : Int) < (b : Int):=Int.ofNat_lt.2 d4
 have r1:=s1 d1 d2
 have r2:=n2 (fun h => d3 h.1);subst r2
 have r3:=s3 (c5.2 d1) d4
 simp only [qj,w1,w2,w3,w4,w5,w6,w7,w8,w9,h1,h2,g4,k1,k3,k5,k6,k7,k8,k9,k10,k11,k12,e1,e2,e3,e5,g5,r1,r3,e4,qv,qn,Ev.exec,qb,qe,qc,qd6,qaj,Ev.evs,Ev.Opnd.ev,Ev.Env.get,Ev.Env.set,Ev.Env.unset,Ev.look,qo,qaf,qcl,qam,ql,qau,qm,qak,Ev.kill,qai,qq,Ev.keep,qae,qw,qd,Ev.SObj.lo,qax,qa3,qbj,qfc,qg,↓qs,↓qan,↓reduceIte,zga,zgb,zgc,zfe,Nat.reduceAdd,Nat.reduceEqDiff,reduceCtorEq,zgv,zgw,zfc,zfa,zgx,zfd,zgu,zgy]
theorem q1n (x1 x2 y1 y2 a m b mid nn lo hi p start fin : Nat) (D D2 D3 D4 : List Evt) (N : Nums n x1 x2 y1 y2 a m b mid nn lo hi p start fin) (g1 : mid < m) (g2 : nn = b + lo)
  (d1 : start < m) (d2 : m < fin) (d3 : ¬ a < start) (d4 : ¬ fin < b)
  (hf : qlh g cl n a m b mid nn lo mid p start D) (hS : Steps g cl n a m b mid start fin D D2 D3 D4) : qbl g cl n a m b D D4:=by
 obtain ⟨s1,n1,s2,n2,s3,n3⟩:=hS
 obtain ⟨⟨y,e,σ⟩,k1,k2,k3,k4,k5,k6,k7,k8,k9,k10,k11,k12⟩:=hf
 obtain ⟨w1,h1,w2,h2,w3,w4,w5,w6,w7,w8,w9,c5,c6⟩:=N.wraps
 simp only at k1 k2 k3 k4 k5 k6 k7 k8 k9 k10 k11 k12
 subst k2;subst k4
 unfold qbl at *
 rw [qy qk qi]
 have g4 : (m : Int) > (mid : Int):=Int.ofNat_lt.2 g1
 have g5 : IntKind.i64.wrap ((nn : Int) - (b : Int)) = (lo : Int):=qfr g2 (by have:=N.hnn;have:=N.hmid;have:=N.hb;have:=N.hbn;have:=N.hm;have:=N.hbb;omega)
 have e1 : (start : Int) < (m : Int):=Int.ofNat_lt.2 d1
 have e2 : (m : Int) < (fin : Int):=Int.ofNat_lt.2 d2
 have e3 : ¬ (a : Int) < (start : Int):=fun h => d3 (Int.ofNat_lt.1 h)
 have e5 : (mid : Int) < (fin : Int):=Int.ofNat_lt.2 (c5.2 d1)
 have e6 : (start : Int) < (mid : Int):=Int.ofNat_lt.2 (c6.2 d2)
 have e4 : ¬ (fin : Int) < (b : Int):=fun h => d4 (Int.ofNat_lt.1 h)
 have r1:=s1 d1 d2
 have r2:=n2 (fun h => d3 h.1);subst r2
 have r3:=n3 (fun h => d4 h.2);subst r3
 simp only [qj,w1,w2,w3,w4,w5,w6,w7,w8,w9,h1,h2,g4,k1,k3,k5,k6,k7,k8,k9,k10,k11,k12,e1,e2,e3,e5,g5,r1,e4,qv,qn,Ev.exec,qb,qe,qc,qd6,qaj,Ev.evs,Ev.Opnd.ev,Ev.Env.get,Ev.Env.set,Ev.Env.unset,Ev.look,qo,qaf,qcl,qam,ql,qau,qm,qak,Ev.kill,qai,qq,Ev.keep,qae,qw,qd,Ev.SObj.lo,qax,qa3,qbj,qfc,qg,↓qs,↓qan,↓reduceIte,zga,zgb,zgc,zfe,Nat.reduceAdd,Nat.reduceEqDiff,reduceCtorEq,zgv,zgw,zfc,zfa,zgx,zfd,zgu,zgy]
theorem q0l (x1 x2 y1 y2 a m b mid nn lo hi p start fin : Nat) (D D2 D3 D4 : List Evt) (N : Nums n x1 x2 y1 y2 a m b mid nn lo hi p start fin) (g1 : mid < m) (g2 : nn = b + lo)
  (d1 : start < m) (d2 : ¬ m < fin) (d3 : a < start) (d4 : fin < b)
  (hf : qlh g cl n a m b mid nn lo mid p start D) (hS : Steps g cl n a m b mid start fin D D2 D3 D4) : qbl g cl n a m b D D4:=by
 obtain ⟨s1,n1,s2,n2,s3,n3⟩:=hS
 obtain ⟨⟨y,e,σ⟩,k1,k2,k3,k4,k5,k6,k7,k8,k9,k10,k11,k12⟩:=hf
 obtain ⟨w1,h1,w2,h2,w3,w4,w5,w6,w7,w8,w9,c5,c6⟩:=N.wraps
 simp only at k1 k2 k3 k4 k5 k6 k7 k8 k9 k10 k11 k12
 subst k2;subst k4
 unfold qbl at *
 rw [qy qk qi]
 have g4 : (m : Int) > (mid : Int):=Int.ofNat_lt.2 g1
 have g5 : IntKind.i64.wrap ((nn : Int) - (b : Int)) = (lo : Int):=qfr g2 (by have:=N.hnn;have:=N.hmid;have:=N.hb;have:=N.hbn;have:=N.hm;have:=N.hbb;omega)
 have e1 : (start : Int) < (m : Int):=Int.ofNat_lt.2 d1
 have e2 : ¬ (m : Int) < (fin : Int):=fun h => d2 (Int.ofNat_lt.1 h)
 have e3 : (a : Int) < (start : Int):=Int.ofNat_lt.2 d3
 have e5 : (mid : Int) < (fin : Int):=Int.ofNat_lt.2 (c5.2 d1)
 have e6 : ¬ (start : Int) < (mid : Int):=fun h => d2 (c6.1 (Int.ofNat_lt.1 h))
 have e4 : (fin : Int) < (b : Int):=Int.ofNat_lt.2 d4
 have r1:=n1 (fun h => d2 h.2);subst r1
 have r2:=n2 (fun h => d2 (c6.1 h.2));subst r2
 have r3:=s3 (c5.2 d1) d4
 simp only [qj,w1,w2,w3,w4,w5,w6,w7,w8,w9,h1,h2,g4,k1,k3,k5,k6,k7,k8,k9,k10,k11,k12,e1,e2,e3,e5,e6,g5,r3,e4,qv,qn,Ev.exec,qb,qe,qc,qd6,qaj,Ev.evs,Ev.Opnd.ev,Ev.Env.get,Ev.Env.set,Ev.look,qo,qaf,qcl,qam,ql,qau,qm,qak,Ev.kill,qai,qq,Ev.keep,qae,qw,qd,Ev.SObj.lo,qax,qa3,qbj,qfc,qg,↓qs,↓qan,↓reduceIte,zga,zgb,zgc,zfe,Nat.reduceAdd,Nat.reduceEqDiff,reduceCtorEq,zgv,zgw,zfc,zfa,zgx,zfd,zgu,zgy]
theorem q1y (x1 x2 y1 y2 a m b mid nn lo hi p start fin : Nat) (D D2 D3 D4 : List Evt) (N : Nums n x1 x2 y1 y2 a m b mid nn lo hi p start fin) (g1 : mid < m) (g2 : nn = b + lo)
  (d1 : start < m) (d2 : ¬ m < fin) (d3 : a < start) (d4 : ¬ fin < b)
  (hf : qlh g cl n a m b mid nn lo mid p start D) (hS : Steps g cl n a m b mid start fin D D2 D3 D4) : qbl g cl n a m b D D4:=by
 obtain ⟨s1,n1,s2,n2,s3,n3⟩:=hS
 obtain ⟨⟨y,e,σ⟩,k1,k2,k3,k4,k5,k6,k7,k8,k9,k10,k11,k12⟩:=hf
 obtain ⟨w1,h1,w2,h2,w3,w4,w5,w6,w7,w8,w9,c5,c6⟩:=N.wraps
 simp only at k1 k2 k3 k4 k5 k6 k7 k8 k9 k10 k11 k12
 subst k2;subst k4
 unfold qbl at *
 rw [qy qk qi]
 have g4 : (m : Int) > (mid : Int):=Int.ofNat_lt.2 g1
 have g5 : IntKind.i64.wrap ((nn : Int) - (b : Int)) = (lo : Int):=qfr g2 (by have:=N.hnn;have:=N.hmid;have:=N.hb;have:=N.hbn;have:=N.hm;have:=N.hbb;omega)
 have e1 : (start : Int) < (m : Int):=Int.ofNat_lt.2 d1
 have e2 : ¬ (m : Int) < (fin : Int):=fun h => d2 (Int.ofNat_lt.1 h)
 have e3 : (a : Int) < (start : Int):=Int.ofNat_lt.2 d3
 have e5 : (mid : Int) < (fin : Int):=Int.ofNat_lt.2 (c5.2 d1)
 have e6 : ¬ (start : Int) < (mid : Int):=fun h => d2 (c6.1 (Int.ofNat_lt.1 h))
 have e4 : ¬ (fin : Int) < (b : Int):=fun h => d4 (Int.ofNat_lt.1 h)
 have r1:=n1 (fun h => d2 h.2);subst r1
 have r2:=n2 (fun h => d2 (c6.1 h.2));subst r2
 have r3:=n3 (fun h => d4 h.2);subst r3
 simp only [qj,w1,w2,w3,w4,w5,w6,w7,w8,w9,h1,h2,g4,k1,k3,k6,k7,k8,k10,k11,k12,e1,e2,e3,e5,e6,g5,e4,qv,qn,Ev.exec,qb,qe,qc,qaj,Ev.Opnd.ev,Ev.Env.get,Ev.Env.set,Ev.look,qo,qaf,qcl,qam,ql,qau,qm,qak,Ev.kill,qai,qq,Ev.keep,qae,qw,qd,Ev.SObj.lo,qax,qa3,qbj,qfc,qg,↓qs,↓qan,↓reduceIte,zga,zgb,zgc,zfe,Nat.reduceAdd,Nat.reduceEqDiff,reduceCtorEq,zgv,zgw,zfc,zfa,zgx,zfd,zgu,zgy]
theorem qzb (x1 x2 y1 y2 a m b mid nn lo hi p start fin : Nat) (D D2 D3 D4 : List Evt) (N : Nums n x1 x2 y1 y2 a m b mid nn lo hi p start fin) (g1 : mid < m) (g2 : nn = b + lo)
  (d1 : start < m) (d2 : ¬ m < fin) (d3 : ¬ a < start) (d4 : fin < b)
  (hf : qlh g cl n a m b mid nn lo mid p start D) (hS : Steps g cl n a m b mid start fin D D2 D3 D4) : qbl g cl n a m b D D4:=by
 obtain ⟨s1,n1,s2,n2,s3,n3⟩:=hS
 obtain ⟨⟨y,e,σ⟩,k1,k2,k3,k4,k5,k6,k7,k8,k9,k10,k11,k12⟩:=hf
 obtain ⟨w1,h1,w2,h2,w3,w4,w5,w6,w7,w8,w9,c5,c6⟩:=N.wraps
 simp only at k1 k2 k3 k4 k5 k6 k7 k8 k9 k10 k11 k12
 subst k2;subst k4
 unfold qbl at *
 rw [qy qk qi]
 have g4 : (m : Int) > (mid : Int):=Int.ofNat_lt.2 g1
 have g5 : IntKind.i64.wrap ((nn : Int) - (b : Int)) = (lo : Int):=qfr g2 (by have:=N.hnn;have:=N.hmid;have:=N.hb;have:=N.hbn;have:=N.hm;have:=N.hbb;omega)
 have e1 : (start : Int) < (m : Int):=Int.ofNat_lt.2 d1
 have e2 : ¬ (m : Int) < (fin : Int):=fun h => d2 (Int.ofNat_lt.1 h)
 have e3 : ¬ (a : Int) < (start : Int):=fun h => d3 (Int.ofNat_lt.1 h)
 have e5 : (mid : Int) < (fin : Int):=Int.ofNat_lt.2 (c5.2 d1)
 have e6 : ¬ (start : Int) < (mid : Int):=fun h => d2 (c6.1 (Int.ofNat_lt.1 h))
 have e4 : (fin : Int) < (b : Int):=Int.ofNat_lt.2 d4
 have r1:=n1 (fun h => d2 h.2);subst r1
 have r2:=n2 (fun h => d3 h.1);subst r2
 have r3:=s3 (c5.2 d1) d4
 simp only [qj,w1,w2,w3,w4,w5,w6,w7,w8,w9,h1,h2,g4,k1,k3,k5,k6,k7,k8,k9,k10,k11,k12,e1,e2,e3,e5,g5,r3,e4,qv,qn,Ev.exec,qb,qe,qc,qd6,qaj,Ev.evs,Ev.Opnd.ev,Ev.Env.get,Ev.Env.set,Ev.Env.unset,Ev.look,qo,qaf,qcl,qam,ql,qau,qm,qak,Ev.kill,qai,qq,Ev.keep,qae,qw,qd,Ev.SObj.lo,qax,qa3,qbj,qfc,qg,↓qs,↓qan,↓reduceIte,zga,zgb,zgc,zfe,Nat.reduceAdd,Nat.reduceEqDiff,reduceCtorEq,zgv,zgw,zfc,zfa,zgx,zfd,zgu,zgy]
theorem q2i (x1 x2 y1 y2 a m b mid nn lo hi p start fin : Nat) (D D2 D3 D4 : List Evt) (N : Nums n x1 x2 y1 y2 a m b mid nn lo hi p start fin) (g1 : mid < m) (g2 : nn = b + lo)
  (d1 : start < m) (d2 : ¬ m < fin) (d3 : ¬ a < start) (d4 : ¬ fin < b)
  (hf : qlh g cl n a m b mid nn lo mid p start D) (hS : Steps g cl n a m b mid start fin D D2 D3 D4) : qbl g cl n a m b D D4:=by
 obtain ⟨s1,n1,s2,n2,s3,n3⟩:=hS
 obtain ⟨⟨y,e,σ⟩,k1,k2,k3,k4,k5,k6,k7,k8,k9,k10,k11,k12⟩:=hf
 obtain ⟨w1,h1,w2,h2,w3,w4,w5,w6,w7,w8,w9,c5,c6⟩:=N.wraps
 simp only at k1 k2 k3 k4 k5 k6 k7 k8 k9 k10 k11 k12
 subst k2;subst k4
 unfold qbl at *
 rw [qy qk qi]
 have g4 : (m : Int) > (mid : Int):=Int.ofNat_lt.2 g1
 have g5 : IntKind.i64.wrap ((nn : Int) - (b : Int)) = (lo : Int):=qfr g2 (by have:=N.hnn;have:=N.hmid;have:=N.hb;have:=N.hbn;have:=N.hm;have:=N.hbb;omega)
 have e1 : (start : Int) < (m : Int):=Int.ofNat_lt.2 d1
 have e2 : ¬ (m : Int) < (fin : Int):=fun h => d2 (Int.ofNat_lt.1 h)
 have e3 : ¬ (a : Int) < (start : Int):=fun h => d3 (Int.ofNat_lt.1 h)
 have e5 : (mid : Int) < (fin : Int):=Int.ofNat_lt.2 (c5.2 d1)
 have e6 : ¬ (start : Int) < (mid : Int):=fun h => d2 (c6.1 (Int.ofNat_lt.1 h))
 have e4 : ¬ (fin : Int) < (b : Int):=fun h => d4 (Int.ofNat_lt.1 h)
 have r1:=n1 (fun h => d2 h.2);subst r1
 have r2:=n2 (fun h => d3 h.1);subst r2
 have r3:=n3 (fun h => d4 h.2);subst r3
 simp only [qj,w1,w2,w3,w4,w5,w6,w7,w8,w9,h1,h2,g4,k1,k3,k6,k7,k8,k10,k11,k12,e1,e2,e3,e5,g5,e4,qv,qn,Ev.exec,qb,qe,qc,qaj,Ev.Opnd.ev,Ev.Env.get,Ev.Env.set,Ev.Env.unset,Ev.look,qo,qaf,qcl,qam,ql,qau,qm,qak,Ev.kill,qai,qq,Ev.keep,qae,qw,qd,Ev.SObj.lo,qax,qa3,qbj,qfc,qg,↓qs,↓qan,↓reduceIte,zga,zgb,zgc,zfe,Nat.reduceAdd,Nat.reduceEqDiff,reduceCtorEq,zgv,zgw,zfc,zfa,zgx,zfd,zgu,zgy]
theorem q0o (x1 x2 y1 y2 a m b mid nn lo hi p start fin : Nat) (D D2 D3 D4 : List Evt) (N : Nums n x1 x2 y1 y2 a m b mid nn lo hi p start fin) (g1 : mid < m) (g2 : nn = b + lo)
  (d1 : ¬ start < m) (d2 : m < fin) (d3 : a < start) (d4 : fin < b)
  (hf : qlh g cl n a m b mid nn lo mid p start D) (hS : Steps g cl n a m b mid start fin D D2 D3 D4) : qbl g cl n a m b D D4:=by
 obtain ⟨s1,n1,s2,n2,s3,n3⟩:=hS
 obtain ⟨⟨y,e,σ⟩,k1,k2,k3,k4,k5,k6,k7,k8,k9,k10,k11,k12⟩:=hf
 obtain ⟨w1,h1,w2,h2,w3,w4,w5,w6,w7,w8,w9,c5,c6⟩:=N.wraps
 simp only at k1 k2 k3 k4 k5 k6 k7 k8 k9 k10 k11 k12
 subst k2;subst k4
 unfold qbl at *
 rw [qy qk qi]
 have g4 : (m : Int) > (mid : Int):=Int.ofNat_lt.2 g1
 have g5 : IntKind.i64.wrap ((nn : Int) - (b : Int)) = (lo : Int):=qfr g2 (by have:=N.hnn;have:=N.hmid;have:=N.hb;have:=N.hbn;have:=N.hm;have:=N.hbb;omega)
 have e1 : ¬ (start : Int) < (m : Int):=fun h => d1 (Int.ofNat_lt.1 h)
 have e2 : (m : Int) < (fin : Int):=Int.ofNat_lt.2 d2
 have e3 : (a : Int) < (start : Int):=Int.ofNat_lt.2 d3
 have e5 : ¬ (mid : Int) < (fin : Int):=fun h => d1 (c5.1 (Int.ofNat_lt.1 h))
 have e6 : (start : Int) < (mid : Int):=Int.ofNat_lt.2 (c6.2 d2)
 have e4 : (fin : Int) < (b : Int):=Int.ofNat_lt.2 d4
 have r1:=n1 (fun h => d1 h.1);subst r1
 have r2:=s2 d3 (c6.2 d2)
 have r3:=n3 (fun h => d1 (c5.1 h.1));subst r3
 simp only [qj,w1,w2,w3,w4,w5,w6,w7,w8,w9,h1,h2,g4,k1,k3,k5,k6,k7,k9,k10,k11,k12,e1,e3,e5,e6,g5,r2,qv,qn,Ev.exec,qb,qe,qc,qd6,qaj,Ev.evs,Ev.Opnd.ev,Ev.Env.get,Ev.Env.set,Ev.Env.unset,Ev.look,qo,qaf,qcl,qam,ql,qau,qm,qak,Ev.kill,qai,qq,Ev.keep,qae,qw,qd,Ev.SObj.lo,qax,qa3,qbj,qfc,qg,↓qs,↓qan,↓reduceIte,zga,zgb,zgc,zfe,Nat.reduceAdd,Nat.reduceEqDiff,reduceCtorEq,zgv,zgw,zfc,zfa,zgx,zfd,zgu,zgy]
theorem q0g (x1 x2 y1 y2 a m b mid nn lo hi p start fin : Nat) (D D2 D3 D4 : List Evt) (N : Nums n x1 x2 y1 y2 a m b mid nn lo hi p start fin) (g1 : mid < m) (g2 : nn = b + lo)
  (d1 : ¬ start < m) (d2 : m < fin) (d3 : a < start) (d4 : ¬ fin < b)
  (hf : qlh g cl n a m b mid nn lo mid p start D) (hS : Steps g cl n a m b mid start fin D D2 D3 D4) : qbl g cl n a m b D D4:=by
 obtain ⟨s1,n1,s2,n2,s3,n3⟩:=hS
 obtain ⟨⟨y,e,σ⟩,k1,k2,k3,k4,k5,k6,k7,k8,k9,k10,k11,k12⟩:=hf
 obtain ⟨w1,h1,w2,h2,w3,w4,w5,w6,w7,w8,w9,c5,c6⟩:=N.wraps
 simp only at k1 k2 k3 k4 k5 k6 k7 k8 k9 k10 k11 k12
 subst k2;subst k4
 unfold qbl at *
 rw [qy qk qi]
 have g4 : (m : Int) > (mid : Int):=Int.ofNat_lt.2 g1
 have g5 : IntKind.i64.wrap ((nn : Int) - (b : Int)) = (lo : Int):=qfr g2 (by have:=N.hnn;have:=N.hmid;have:=N.hb;have:=N.hbn;have:=N.hm;have:=N.hbb;omega)
 have e1 : ¬ (start : Int) < (m : Int):=fun h => d1 (Int.ofNat_lt.1 h)
 have e2 : (m : Int) < (fin : Int):=Int.ofNat_lt.2 d2
 have e3 : (a : Int) < (start : Int):=Int.ofNat_lt.2 d3
 have e5 : ¬ (mid : Int) < (fin : Int):=fun h => d1 (c5.1 (Int.ofNat_lt.1 h))
 have e6 : (start : Int) < (mid : Int):=Int.ofNat_lt.2 (c6.2 d2)
 have e4 : ¬ (fin : Int) < (b : Int):=fun h => d4 (Int.ofNat_lt.1 h)
 have r1:=n1 (fun h => d1 h.1);subst r1
 have r2:=s2 d3 (c6.2 d2)
 have r3:=n3 (fun h => d1 (c5.1 h.1));subst r3
 simp only [qj,w1,w2,w3,w4,w5,w6,w7,w8,w9,h1,h2,g4,k1,k3,k5,k6,k7,k9,k10,k11,k12,e1,e3,e5,e6,g5,r2,qv,qn,Ev.exec,qb,qe,qc,qd6,qaj,Ev.evs,Ev.Opnd.ev,Ev.Env.get,Ev.Env.set,Ev.Env.unset,Ev.look,qo,qaf,qcl,qam,ql,qau,qm,qak,Ev.kill,qai,qq,Ev.keep,qae,qw,qd,Ev.SObj.lo,qax,qa3,qbj,qfc,qg,↓qs,↓qan,↓reduceIte,zga,zgb,zgc,zfe,Nat.reduceAdd,Nat.reduceEqDiff,reduceCtorEq,zgv,zgw,zfc,zfa,zgx,zfd,zgu,zgy]
theorem qz7 (x1 x2 y1 y2 a m b mid nn lo hi p start fin : Nat) (D D2 D3 D4 : List Evt) (N : Nums n x1 x2 y1 y2 a m b mid nn lo hi p start fin) (g1 : mid < m) (g2 : nn = b + lo)
  (d1 : ¬ start < m) (d2 : m < fin) (d3 : ¬ a < start) (d4 : fin < b)
  (hf : qlh g cl n a m b mid nn lo mid p start D) (hS : Steps g cl n a m b mid start fin D D2 D3 D4) : qbl g cl n a m b D D4:=by
 obtain ⟨s1,n1,s2,n2,s3,n3⟩:=hS
 obtain ⟨⟨y,e,σ⟩,k1,k2,k3,k4,k5,k6,k7,k8,k9,k10,k11,k12⟩:=hf
 obtain ⟨w1,h1,w2,h2,w3,w4,w5,w6,w7,w8,w9,c5,c6⟩:=N.wraps
 simp only at k1 k2 k3 k4 k5 k6 k7 k8 k9 k10 k11 k12
 subst k2;subst k4
 unfold qbl at *
 rw [qy qk qi]
 have g4 : (m : Int) > (mid : Int):=Int.ofNat_lt.2 g1
 have g5 : IntKind.i64.wrap ((nn : Int) - (b : Int)) = (lo : Int):=qfr g2 (by have:=N.hnn;have:=N.hmid;have:=N.hb;have:=N.hbn;have:=N.hm;have:=N.hbb;omega)
 have e1 : ¬ (start : Int) < (m : Int):=fun h => d1 (Int.ofNat_lt.1 h)
 have e2 : (m : Int) < (fin : Int):=Int.ofNat_lt.2 d2
 have e3 : ¬ (a : Int) < (start : Int):=fun h => d3 (Int.ofNat_lt.1 h)
 have e5 : ¬ (mid : Int) < (fin : Int):=fun h => d1 (c5.1 (Int.ofNat_lt.1 h))
 have e6 : (start : Int) < (mid : Int):=Int.ofNat_lt.2 (c6.2 d2)
 have e4 : (fin : Int) < (b : Int):=Int.ofNat_lt.2 d4
 have r1:=n1 (fun h => d1 h.1);subst r1
 have r2:=n2 (fun h => d3 h.1);subst r2
 have r3:=n3 (fun h => d1 (c5.1 h.1));subst r3
 simp only [qj,w1,w2,w3,w4,w5,w6,w7,w8,w9,h1,h2,g4,k1,k3,k6,k7,k10,k11,k12,e1,e3,e5,g5,qv,qn,Ev.exec,qb,qe,qc,qaj,Ev.Opnd.ev,Ev.Env.get,Ev.Env.set,Ev.Env.unset,Ev.look,qo,qaf,qcl,qam,ql,qau,qm,qak,Ev.kill,qai,qq,Ev.keep,qae,qw,qd,Ev.SObj.lo,qax,qa3,qbj,qfc,qg,↓qs,↓qan,↓reduceIte,zga,zgb,zgc,zfe,Nat.reduceAdd,Nat.reduceEqDiff,reduceCtorEq,zgv,zgw,zfc,zfa,zgx,zfd,zgu,zgy]
theorem qz8 (x1 x2 y1 y2 a m b mid nn lo hi p start fin : Nat) (D D2 D3 D4 : List Evt) (N : Nums n x1 x2 y1 y2 a m b mid nn lo hi p start fin) (g1 : mid < m) (g2 : nn = b + lo)
  (d1 : ¬ start < m) (d2 : m < fin) (d3 : ¬ a < start) (d4 : ¬ fin < b)
  (hf : qlh g cl n a m b mid nn lo mid p start D) (hS : Steps g cl n a m b mid start fin D D2 D3 D4) : qbl g cl n a m b D D4:=by
 obtain ⟨s1,n1,s2,n2,s3,n3⟩:=hS
 obtain ⟨⟨y,e,σ⟩,k1,k2,k3,k4,k5,k6,k7,k8,k9,k10,k11,k12⟩:=hf
 obtain ⟨w1,h1,w2,h2,w3,w4,w5,w6,w7,w8,w9,c5,c6⟩:=N.wraps
 simp only at k1 k2 k3 k4 k5 k6 k7 k8 k9 k10 k11 k12
 subst k2;subst k4
 unfold qbl at *
 rw [qy qk qi]
 have g4 : (m : Int) > (mid : Int):=Int.ofNat_lt.2 g1
 have g5 : IntKind.i64.wrap ((nn : Int) - (b : Int)) = (lo : Int):=qfr g2 (by have:=N.hnn;have:=N.hmid;have:=N.hb;have:=N.hbn;have:=N.hm;have:=N.hbb;omega)
 have e1 : ¬ (start : Int) < (m : Int):=fun h => d1 (Int.ofNat_lt.1 h)
 have e2 : (m : Int) < (fin : Int):=Int.ofNat_lt.2 d2
 have e3 : ¬ (a : Int) < (start : Int):=fun h => d3 (Int.ofNat_lt.1 h)
 have e5 : ¬ (mid : Int) < (fin : Int):=fun h => d1 (c5.1 (Int.ofNat_lt.1 h))
 have e6 : (start : Int) < (mid : Int):=Int.ofNat_lt.2 (c6.2 d2)
 have e4 : ¬ (fin : Int) < (b : Int):=fun h => d4 (Int.ofNat_lt.1 h)
 have r1:=n1 (fun h => d1 h.1);subst r1
 have r2:=n2 (fun h => d3 h.1);subst r2
 have r3:=n3 (fun h => d1 (c5.1 h.1));subst r3
 simp only [qj,w1,w2,w3,w4,w5,w6,w7,w8,w9,h1,h2,g4,k1,k3,k6,k7,k10,k11,k12,e1,e3,e5,g5,qv,qn,Ev.exec,qb,qe,qc,qaj,Ev.Opnd.ev,Ev.Env.get,Ev.Env.set,Ev.Env.unset,Ev.look,qo,qaf,qcl,qam,ql,qau,qm,qak,Ev.kill,qai,qq,Ev.keep,qae,qw,qd,Ev.SObj.lo,qax,qa3,qbj,qfc,qg,↓qs,↓qan,↓reduceIte,zga,zgb,zgc,zfe,Nat.reduceAdd,Nat.reduceEqDiff,reduceCtorEq,zgv,zgw,zfc,zfa,zgx,zfd,zgu,zgy]
theorem q2l (x1 x2 y1 y2 a m b mid nn lo hi p start fin : Nat) (D D2 D3 D4 : List Evt) (N : Nums n x1 x2 y1 y2 a m b mid nn lo hi p start fin) (g1 : mid < m) (g2 : nn = b + lo)
  (d1 : ¬ start < m) (d2 : ¬ m < fin) (d3 : a < start) (d4 : fin < b)
  (hf : qlh g cl n a m b mid nn lo mid p start D) (hS : Steps g cl n a m b mid start fin D D2 D3 D4) : qbl g cl n a m b D D4:=by
 obtain ⟨s1,n1,s2,n2,s3,n3⟩:=hS
 obtain ⟨⟨y,e,σ⟩,k1,k2,k3,k4,k5,k6,k7,k8,k9,k10,k11,k12⟩:=hf
 obtain ⟨w1,h1,w2,h2,w3,w4,w5,w6,w7,w8,w9,c5,c6⟩:=N.wraps
 simp only at k1 k2 k3 k4 k5 k6 k7 k8 k9 k10 k11 k12
 subst k2;subst k4
 unfold qbl at *
 rw [qy qk qi]
 have g4 : (m : Int) > (mid : Int):=Int.ofNat_lt.2 g1
 have g5 : IntKind.i64.wrap ((nn : Int) - (b : Int)) = (lo : Int):=qfr g2 (by have:=N.hnn;have:=N.hmid;have:=N.hb;have:=N.hbn;have:=N.hm;have:=N.hbb;omega)
 have e1 : ¬ (start : Int) < (m : Int):=fun h => d1 (Int.ofNat_lt.1 h)
 have e2 : ¬ (m : Int) < (fin : Int):=fun h => d2 (Int.ofNat_lt.1 h)
 have e3 : (a : Int) < (start : Int):=Int.ofNat_lt.2 d3
 have e5 : ¬ (mid : Int) < (fin : Int):=fun h => d1 (c5.1 (Int.ofNat_lt.1 h))
 have e6 : ¬ (start : Int) < (mid : Int):=fun h => d2 (c6.1 (Int.ofNat_lt.1 h))
 have e4 : (fin : Int) < (b : Int):=Int.ofNat_lt.2 d4
 have r1:=n1 (fun h => d1 h.1);subst r1
 have r2:=n2 (fun h => d2 (c6.1 h.2));subst r2
 have r3:=n3 (fun h => d1 (c5.1 h.1));subst r3
 simp only [qj,w1,w2,w3,w4,w5,w6,w7,w8,w9,h1,h2,g4,k1,k3,k6,k7,k10,k11,k12,e1,e3,e5,e6,g5,qv,qn,Ev.exec,qb,qe,qc,qaj,Ev.Opnd.ev,Ev.Env.get,Ev.Env.set,Ev.Env.unset,Ev.look,qo,qaf,qcl,qam,ql,qau,qm,qak,Ev.kill,qai,qq,Ev.keep,qae,qw,qd,Ev.SObj.lo,qax,qa3,qbj,qfc,qg,↓qs,↓qan,↓reduceIte,zga,zgb,zgc,zfe,Nat.reduceAdd,Nat.reduceEqDiff,reduceCtorEq,zgv,zgw,zfc,zfa,zgx,zfd,zgu,zgy]
theorem qzr (x1 x2 y1 y2 a m b mid nn lo hi p start fin : Nat) (D D2 D3 D4 : List Evt) (N : Nums n x1 x2 y1 y2 a m b mid nn lo hi p start fin) (g1 : mid < m) (g2 : nn = b + lo)
  (d1 : ¬ start < m) (d2 : ¬ m < fin) (d3 : a < start) (d4 : ¬ fin < b)
  (hf : qlh g cl n a m b mid nn lo mid p start D) (hS : Steps g cl n a m b mid start fin D D2 D3 D4) : qbl g cl n a m b D D4:=by
 obtain ⟨s1,n1,s2,n2,s3,n3⟩:=hS
 obtain ⟨⟨y,e,σ⟩,k1,k2,k3,k4,k5,k6,k7,k8,k9,k10,k11,k12⟩:=hf
 obtain ⟨w1,h1,w2,h2,w3,w4,w5,w6,w7,w8,w9,c5,c6⟩:=N.wraps
 simp only at k1 k2 k3 k4 k5 k6 k7 k8 k9 k10 k11 k12
 subst k2;subst k4
 unfold qbl at *
 rw [qy qk qi]
 have g4 : (m : Int) > (mid : Int):=Int.ofNat_lt.2 g1
 have g5 : IntKind.i64.wrap ((nn : Int) - (b : Int)) = (lo : Int):=qfr g2 (by have:=N.hnn;have:=N.hmid;have:=N.hb;have:=N.hbn;have:=N.hm;have:=N.hbb;omega)
 have e1 : ¬ (start : Int) < (m : Int):=fun h => d1 (Int.ofNat_lt.1 h)
 have e2 : ¬ (m : Int) < (fin : Int):=fun h => d2 (Int.ofNat_lt.1 h)
 have e3 : (a : Int) < (start : Int):=Int.ofNat_lt.2 d3
 have e5 : ¬ (mid : Int) < (fin : Int):=fun h => d1 (c5.1 (Int.ofNat_lt.1 h))
 have e6 : ¬ (start : Int) < (mid : Int):=fun h => d2 (c6.1 (Int.ofNat_lt.1 h))
 have e4 : ¬ (fin : Int) < (b : Int):=fun h => d4 (Int.ofNat_lt.1 h)
 have r1:=n1 (fun h => d1 h.1);subst r1
 have r2:=n2 (fun h => d2 (c6.1 h.2));subst r2
 have r3:=n3 (fun h => d1 (c5.1 h.1));subst r3
 simp only [qj,w1,w2,w3,w4,w5,w6,w7,w8,w9,h1,h2,g4,k1,k3,k6,k7,k10,k11,k12,e1,e3,e5,e6,g5,qv,qn,Ev.exec,qb,qe,qc,qaj,Ev.Opnd.ev,Ev.Env.get,Ev.Env.set,Ev.Env.unset,Ev.look,qo,qaf,qcl,qam,ql,qau,qm,qak,Ev.kill,qai,qq,Ev.keep,qae,qw,qd,Ev.SObj.lo,qax,qa3,qbj,qfc,qg,↓qs,↓qan,↓reduceIte,zga,zgb,zgc,zfe,Nat.reduceAdd,Nat.reduceEqDiff,reduceCtorEq,zgv,zgw,zfc,zfa,zgx,zfd,zgu,zgy]
theorem qz1 (x1 x2 y1 y2 a m b mid nn lo hi p start fin : Nat) (D D2 D3 D4 : List Evt) (N : Nums n x1 x2 y1 y2 a m b mid nn lo hi p start fin) (g1 : mid < m) (g2 : nn = b + lo)
  (d1 : ¬ start < m) (d2 : ¬ m < fin) (d3 : ¬ a < start) (d4 : fin < b)
  (hf : qlh g cl n a m b mid nn lo mid p start D) (hS : Steps g cl n a m b mid start fin D D2 D3 D4) : qbl g cl n a m b D D4:=by
 obtain ⟨s1,n1,s2,n2,s3,n3⟩:=hS
 obtain ⟨⟨y,e,σ⟩,k1,k2,k3,k4,k5,k6,k7,k8,k9,k10,k11,k12⟩:=hf
 obtain ⟨w1,h1,w2,h2,w3,w4,w5,w6,w7,w8,w9,c5,c6⟩:=N.wraps
 simp only at k1 k2 k3 k4 k5 k6 k7 k8 k9 k10 k11 k12
 subst k2;subst k4
 unfold qbl at *
 rw [qy qk qi]
 have g4 : (m : Int) > (mid : Int):=Int.ofNat_lt.2 g1
 have g5 : IntKind.i64.wrap ((nn : Int) - (b : Int)) = (lo : Int):=qfr g2 (by have:=N.hnn;have:=N.hmid;have:=N.hb;have:=N.hbn;have:=N.hm;have:=N.hbb;omega)
 have e1 : ¬ (start : Int) < (m : Int):=fun h => d1 (Int.ofNat_lt.1 h)
 have e2 : ¬ (m : Int) < (fin : Int):=fun h => d2 (Int.ofNat_lt.1 h)
 have e3 : ¬ (a : Int) < (start : Int):=fun h => d3 (Int.ofNat_lt.1 h)
 have e5 : ¬ (mid : Int) < (fin : Int):=fun h => d1 (c5.1 (Int.ofNat_lt.1 h))
 have e6 : ¬ (start : Int) < (mid : Int):=fun h => d2 (c6.1 (Int.ofNat_lt.1 h))
 have e4 : (fin : Int) < (b : Int):=Int.ofNat_lt.2 d4
 have r1:=n1 (fun h => d1 h.1);subst r1
 have r2:=n2 (fun h => d3 h.1);subst r2
 have r3:=n3 (fun h => d1 (c5.1 h.1));subst r3
 simp only [qj,w1,w2,w3,w4,w5,w6,w7,w8,w9,h1,h2,g4,k1,k3,k6,k7,k10,k11,k12,e1,e3,e5,g5,qv,qn,Ev.exec,qb,qe,qc,qaj,Ev.Opnd.ev,Ev.Env.get,Ev.Env.set,Ev.Env.unset,Ev.look,qo,qaf,qcl,qam,ql,qau,qm,qak,Ev.kill,qai,qq,Ev.keep,qae,qw,qd,Ev.SObj.lo,qax,qa3,qbj,qfc,qg,↓qs,↓qan,↓reduceIte,zga,zgb,zgc,zfe,Nat.reduceAdd,Nat.reduceEqDiff,reduceCtorEq,zgv,zgw,zfc,zfa,zgx,zfd,zgu,zgy]
theorem qzc (x1 x2 y1 y2 a m b mid nn lo hi p start fin : Nat) (D D2 D3 D4 : List Evt) (N : Nums n x1 x2 y1 y2 a m b mid nn lo hi p start fin) (g1 : mid < m) (g2 : nn = b + lo)
  (d1 : ¬ start < m) (d2 : ¬ m < fin) (d3 : ¬ a < start) (d4 : ¬ fin < b)
  (hf : qlh g cl n a m b mid nn lo mid p start D) (hS : Steps g cl n a m b mid start fin D D2 D3 D4) : qbl g cl n a m b D D4:=by
 obtain ⟨s1,n1,s2,n2,s3,n3⟩:=hS
 obtain ⟨⟨y,e,σ⟩,k1,k2,k3,k4,k5,k6,k7,k8,k9,k10,k11,k12⟩:=hf
 obtain ⟨w1,h1,w2,h2,w3,w4,w5,w6,w7,w8,w9,c5,c6⟩:=N.wraps
 simp only at k1 k2 k3 k4 k5 k6 k7 k8 k9 k10 k11 k12
 subst k2;subst k4
 unfold qbl at *
 rw [qy qk qi]
 have g4 : (m : Int) > (mid : Int):=Int.ofNat_lt.2 g1
 have g5 : IntKind.i64.wrap ((nn : Int) - (b : Int)) = (lo : Int):=qfr g2 (by have:=N.hnn;have:=N.hmid;have:=N.hb;have:=N.hbn;have:=N.hm;have:=N.hbb;omega)
 have e1 : ¬ (start : Int) < (m : Int):=fun h => d1 (Int.ofNat_lt.1 h)
 have e2 : ¬ (m : Int) < (fin : Int):=fun h => d2 (Int.ofNat_lt.1 h)
 have e3 : ¬ (a : Int) < (start : Int):=fun h => d3 (Int.ofNat_lt.1 h)
 have e5 : ¬ (mid : Int) < (fin : Int):=fun h => d1 (c5.1 (Int.ofNat_lt.1 h))
 have e6 : ¬ (start : Int) < (mid : Int):=fun h => d2 (c6.1 (Int.ofNat_lt.1 h))
 have e4 : ¬ (fin : Int) < (b : Int):=fun h => d4 (Int.ofNat_lt.1 h)
 have r1:=n1 (fun h => d1 h.1);subst r1
 have r2:=n2 (fun h => d3 h.1);subst r2
 have r3:=n3 (fun h => d1 (c5.1 h.1));subst r3
 simp only [qj,w1,w2,w3,w4,w5,w6,w7,w8,w9,h1,h2,g4,k1,k3,k6,k7,k10,k11,k12,e1,e3,e5,g5,qv,qn,Ev.exec,qb,qe,qc,qaj,Ev.Opnd.ev,Ev.Env.get,Ev.Env.set,Ev.Env.unset,Ev.look,qo,qaf,qcl,qam,ql,qau,qm,qak,Ev.kill,qai,qq,Ev.keep,qae,qw,qd,Ev.SObj.lo,qax,qa3,qbj,qfc,qg,↓qs,↓qan,↓reduceIte,zga,zgb,zgc,zfe,Nat.reduceAdd,Nat.reduceEqDiff,reduceCtorEq,zgv,zgw,zfc,zfa,zgx,zfd,zgu,zgy]
theorem q1c (x1 x2 y1 y2 a m b mid nn lo hi p start fin : Nat) (D D2 D3 D4 : List Evt) (N : Nums n x1 x2 y1 y2 a m b mid nn lo hi p start fin) (g1 : ¬ mid < m)
  (d1 : start < m) (d2 : m < fin) (d3 : a < start) (d4 : fin < b)
  (hf : qlh g cl n a m b mid nn a m p start D) (hS : Steps g cl n a m b mid start fin D D2 D3 D4) : qbl g cl n a m b D D4:=by
 obtain ⟨s1,n1,s2,n2,s3,n3⟩:=hS
 obtain ⟨⟨y,e,σ⟩,k1,k2,k3,k4,k5,k6,k7,k8,k9,k10,k11,k12⟩:=hf
 obtain ⟨w1,h1,w2,h2,w3,w4,w5,w6,w7,w8,w9,c5,c6⟩:=N.wraps
 simp only at k1 k2 k3 k4 k5 k6 k7 k8 k9 k10 k11 k12
 subst k2;subst k4
 unfold qbl at *
 rw [qy qk qi]
 have g4 : ¬ (m : Int) > (mid : Int):=fun h => g1 (Int.ofNat_lt.1 h)
 have e1 : (start : Int) < (m : Int):=Int.ofNat_lt.2 d1
 have e2 : (m : Int) < (fin : Int):=Int.ofNat_lt.2 d2
 have e3 : (a : Int) < (start : Int):=Int.ofNat_lt.2 d3
 have e5 : (mid : Int) < (fin : Int):=Int.ofNat_lt.2 (c5.2 d1)
 have e6 : (start : Int) < (mid : Int):=Int.ofNat_lt.2 (c6.2 d2)
 have e4 : (fin : Int) < (b : Int):=Int.ofNat_lt.2 d4
 have r1:=s1 d1 d2
 have r2:=s2 d3 (c6.2 d2)
 have r3:=s3 (c5.2 d1) d4
 simp only [qj,w1,w2,w3,w4,w5,w6,w7,w8,w9,h1,h2,g4,k1,k3,k5,k6,k7,k8,k9,k10,k11,k12,e1,e2,e3,e5,e6,r1,r2,r3,e4,qv,qn,Ev.exec,qb,qe,qc,qd6,qaj,Ev.evs,Ev.Opnd.ev,Ev.Env.get,Ev.Env.set,Ev.look,qo,qaf,qcl,qam,ql,qau,qm,qak,Ev.kill,qai,qq,Ev.keep,qae,qw,qd,Ev.SObj.lo,qax,qa3,qbj,qfc,qg,↓qs,↓qan,↓reduceIte,zga,zgb,zgc,zfe,Nat.reduceAdd,Nat.reduceEqDiff,reduceCtorEq,zgv,zgw,zfc,zfa,zgx,zfd,zgu,zgy]
theorem q1t (x1 x2 y1 y2 a m b mid nn lo hi p start fin : Nat) (D D2 D3 D4 : List Evt) (N : Nums n x1 x2 y1 y2 a m b mid nn lo hi p start fin) (g1 : ¬ mid < m)
  (d1 : start < m) (d2 : m < fin) (d3 : a < start) (d4 : ¬ fin < b)
  (hf : qlh g cl n a m b mid nn a m p start D) (hS : Steps g cl n a m b mid start fin D D2 D3 D4) : qbl g cl n a m b D D4:=by
 obtain ⟨s1,n1,s2,n2,s3,n3⟩:=hS
 obtain ⟨⟨y,e,σ⟩,k1,k2,k3,k4,k5,k6,k7,k8,k9,k10,k11,k12⟩:=hf
 obtain ⟨w1,h1,w2,h2,w3,w4,w5,w6,w7,w8,w9,c5,c6⟩:=N.wraps
 simp only at k1 k2 k3 k4 k5 k6 k7 k8 k9 k10 k11 k12
 subst k2;subst k4
 unfold qbl at *
 rw [qy qk qi]
 have g4 : ¬ (m : Int) > (mid : Int):=fun h => g1 (Int.ofNat_lt.1 h)
 have e1 : (start : Int) < (m : Int):=Int.ofNat_lt.2 d1
 have e2 : (m : Int) < (fin : Int):=Int.ofNat_lt.2 d2
 have e3 : (a : Int) < (start : Int):=Int.ofNat_lt.2 d3
 have e5 : (mid : Int) < (fin : Int):=Int.ofNat_lt.2 (c5.2 d1)
 have e6 : (start : Int) < (mid : Int):=Int.ofNat_lt.2 (c6.2 d2)
 have e4 : ¬ (fin : Int) < (b : Int):=fun h => d4 (Int.ofNat_lt.1 h)
 have r1:=s1 d1 d2
 have r2:=s2 d3 (c6.2 d2)
 have r3:=n3 (fun h => d4 h.2);subst r3
 simp only [qj,w1,w2,w3,w4,w5,w6,w7,w8,w9,h1,h2,g4,k1,k3,k5,k6,k7,k8,k9,k10,k11,k12,e1,e2,e3,e5,e6,r1,r2,e4,qv,qn,Ev.exec,qb,qe,qc,qd6,qaj,Ev.evs,Ev.Opnd.ev,Ev.Env.get,Ev.Env.set,Ev.look,qo,qaf,qcl,qam,ql,qau,qm,qak,Ev.kill,qai,qq,Ev.keep,qae,qw,qd,Ev.SObj.lo,qax,qa3,qbj,qfc,qg,↓qs,↓qan,↓reduceIte,zga,zgb,zgc,zfe,Nat.reduceAdd,Nat.reduceEqDiff,reduceCtorEq,zgv,zgw,zfc,zfa,zgx,zfd,zgu,zgy]
theorem qz2 (x1 x2 y1 y2 a m b mid nn lo hi p start fin : Nat) (D D2 D3 D4 : List Evt) (N : Nums n x1 x2 y1 y2 a m b mid nn lo hi p start fin) (g1 : ¬ mid < m)
  (d1 : start < m) (d2 : m < fin) (d3 : ¬ a < start) (d4 : fin < b)
  (hf : qlh g cl n a m b mid nn a m p start D) (hS : Steps g cl n a m b mid start fin D D2 D3 D4) : qbl g cl n a m b D D4:=by
 obtain ⟨s1,n1,s2,n2,s3,n3⟩:=hS
 obtain ⟨⟨y,e,σ⟩,k1,k2,k3,k4,k5,k6,k7,k8,k9,k10,k11,k12⟩:=hf
 obtain ⟨w1,h1,w2,h2,w3,w4,w5,w6,w7,w8,w9,c5,c6⟩:=N.wraps
 simp only at k1 k2 k3 k4 k5 k6 k7 k8 k9 k10 k11 k12
 subst k2;subst k4
 unfold qbl at *
 rw [qy qk qi]
 have g4 : ¬ (m : Int) > (mid : Int):=fun h => g1 (Int.ofNat_lt.1 h)
 have e1 : (start : Int) < (m : Int):=Int.ofNat_lt.2 d1
 have e2 : (m : Int) < (fin : Int):=Int.ofNat_lt.2 d2
 have e3 : ¬ (a : Int) < (start : Int):=fun h => d3 (Int.ofNat_lt.1 h)
 have e5 : (mid : Int) < (fin : Int):=Int.ofNat_lt.2 (c5.2 d1)
 have e6 : (start : Int) < (mid : Int):=Int.ofNat_lt.2 (c6.2 d2)
 have e4 : (fin : Int) < (b : Int):=Int.ofNat_lt.2 d4
 have r1:=s1 d1 d2
 have r2:=n2 (fun h => d3 h.1);subst r2
 have r3:=s3 (c5.2 d1) d4
 simp only [qj,w1,w2,w3,w4,w5,w6,w7,w8,w9,h1,h2,g4,k1,k3,k5,k6,k7,k8,k9,k10,k11,k12,e1,e2,e3,e5,r1,r3,e4,qv,qn,Ev.exec,qb,qe,qc,qd6,qaj,Ev.evs,Ev.Opnd.ev,Ev.Env.get,Ev.Env.set,Ev.Env.unset,Ev.look,qo,qaf,qcl,qam,ql,qau,qm,qak,Ev.kill,qai,qq,Ev.keep,qae,qw,qd,Ev.SObj.lo,qax,qa3,qbj,qfc,qg,↓qs,↓qan,↓reduceIte,zga,zgb,zgc,zfe,Nat.reduceAdd,Nat.reduceEqDiff,reduceCtorEq,zgv,zgw,zfc,zfa,zgx,zfd,zgu,zgy]
theorem q05 (x1 x2 y1 y2 a m b mid nn lo hi p start fin : Nat) (D D2 D3 D4 : List Evt) (N : Nums n x1 x2 y1 y2 a m b mid nn lo hi p start fin) (g1 : ¬ mid < m)
  (d1 : start < m) (d2 : m < fin) (d3 : ¬ a < start) (d4 : ¬ fin < b)
  (hf : qlh g cl n a m b mid nn a m p start D) (hS : Steps g cl n a m b mid start fin D D2 D3 D4) : qbl g cl n a m b D D4:=by
 obtain ⟨s1,n1,s2,n2,s3,n3⟩:=hS
 obtain ⟨⟨y,e,σ⟩,k1,k2,k3,k4,k5,k6,k7,k8,k9,k10,k11,k12⟩:=hf
 obtain ⟨w1,h1,w2,h2,w3,w4,w5,w6,w7,w8,w9,c5,c6⟩:=N.wraps
 simp only at k1 k2 k3 k4 k5 k6 k7 k8 k9 k10 k11 k12
 subst k2;subst k4
 unfold qbl at *
 rw [qy qk qi]
 have g4 : ¬ (m : Int) > (mid : Int):=fun h => g1 (Int.ofNat_lt.1 h)
 have e1 : (start : Int) < (m : Int):=Int.ofNat_lt.2 d1
 have e2 : (m : Int) < (fin : Int):=Int.ofNat_lt.2 d2
 have e3 : ¬ (a : Int) < (start : Int):=fun h => d3 (Int.ofNat_lt.1 h)
 have e5 : (mid : Int) < (fin : Int):=Int.ofNat_lt.2 (c5.2 d1)
 have e6 : (start : Int) < (mid : Int):=Int.ofNat_lt.2 (c6.2 d2)
 have e4 : ¬ (fin : Int) < (b : Int):=fun h => d4 (Int.ofNat_lt.1 h)
 have r1:=s1 d1 d2
 have r2:=n2 (fun h => d3 h.1);subst r2
 have r3:=n3 (fun h => d4 h.2);subst r3
 simp only [qj,w1,w2,w3,w4,w5,w6,w7,w8,w9,h1,h2,g4,k1,k3,k5,k6,k7,k8,k9,k10,k11,k12,e1,e2,e3,e5,r1,e4,qv,qn,Ev.exec,qb,qe,qc,qd6,qaj,Ev.evs,Ev.Opnd.ev,Ev.Env.get,Ev.Env.set,Ev.Env.unset,Ev.look,qo,qaf,qcl,qam,ql,qau,qm,qak,Ev.kill,qai,qq,Ev.keep,qae,qw,qd,Ev.SObj.lo,qax,qa3,qbj,qfc,qg,↓qs,↓qan,↓reduceIte,zga,zgb,zgc,zfe,Nat.reduceAdd,Nat.reduceEqDiff,reduceCtorEq,zgv,zgw,zfc,zfa,zgx,zfd,zgu,zgy]
theorem q1v (x1 x2 y1 y2 a m b mid nn lo hi p start fin : Nat) (D D2 D3 D4 : List Evt) (N : Nums n x1 x2 y1 y2 a m b mid nn lo hi p start fin) (g1 : ¬ mid < m)
  (d1 : start < m) (d2 : ¬ m < fin) (d3 : a < start) (d4 : fin < b)
  (hf : qlh g cl n a m b mid nn a m p start D) (hS : Steps g cl n a m b mid start fin D D2 D3 D4) : qbl g cl n a m b D D4:=by
 obtain ⟨s1,n1,s2,n2,s3,n3⟩:=hS
 obtain ⟨⟨y,e,σ⟩,k1,k2,k3,k4,k5,k6,k7,k8,k9,k10,k11,k12⟩:=hf
 obtain ⟨w1,h1,w2,h2,w3,w4,w5,w6,w7,w8,w9,c5,c6⟩:=N.wraps
 simp only at k1 k2 k3 k4 k5 k6 k7 k8 k9 k10 k11 k12
 subst k2;subst k4
 unfold qbl at *
 rw [qy qk qi]
 have g4 : ¬ (m : Int) > (mid : Int):=fun h => g1 (Int.ofNat_lt.1 h)
 have e1 : (start : Int) < (m : Int):=Int.ofNat_lt.2 d1
 have e2 : ¬ (m : Int) < (fin : Int):=fun h => d2 (Int.ofNat_lt.1 h)
 have e3 : (a : Int) < (start : Int):=Int.ofNat_lt.2 d3
 have e5 : (mid : Int) < (fin : Int):=Int.ofNat_lt.2 (c5.2 d1)
 have e6 : ¬ (start : Int) < (mid : Int):=fun h => d2 (c6.1 (Int.ofNat_lt.1 h))
 have e4 : (fin : Int) < (b : Int):=Int.ofNat_lt.2 d4
 have r1:=n1 (fun h => d2 h.2);subst r1
 have r2:=n2 (fun h => d2 (c6.1 h.2));subst r2
 have r3:=s3 (c5.2 d1) d4
 simp only [qj,w1,w2,w3,w4,w5,w6,w7,w8,w9,h1,h2,g4,k1,k3,k5,k6,k7,k8,k9,k10,k11,k12,e1,e2,e3,e5,e6,r3,e4,qv,qn,Ev.exec,qb,qe,qc,qd6,qaj,Ev.evs,Ev.Opnd.ev,Ev.Env.get,Ev.Env.set,Ev.look,qo,qaf,qcl,qam,ql,qau,qm,qak,Ev.kill,qai,qq,Ev.keep,qae,qw,qd,Ev.SObj.lo,qax,qa3,qbj,qfc,qg,↓qs,↓qan,↓reduceIte,zga,zgb,zgc,zfe,Nat.reduceAdd,Nat.reduceEqDiff,reduceCtorEq,zgv,zgw,zfc,zfa,zgx,zfd,zgu,zgy]
theorem q2c (x1 x2 y1 y2 a m b mid nn lo hi p start fin : Nat) (D D2 D3 D4 : List Evt) (N : Nums n x1 x2 y1 y2 a m b mid nn lo hi p start fin) (g1 : ¬ mid < m)
  (d1 : start < m) (d2 : ¬ m < fin) (d3 : a < start) (d4 : ¬ fin < b)
  (hf : qlh g cl n a m b mid nn a m p start D) (hS : Steps g cl n a m b mid start fin D D2 D3 D4) : qbl g cl n a m b D D4:=by
 obtain ⟨s1,n1,s2,n2,s3,n3⟩:=hS
 obtain ⟨⟨y,e,σ⟩,k1,k2,k3,k4,k5,k6,k7,k8,k9,k10,k11,k12⟩:=hf
 obtain ⟨w1,h1,w2,h2,w3,w4,w5,w6,w7,w8,w9,c5,c6⟩:=N.wraps
 simp only at k1 k2 k3 k4 k5 k6 k7 k8 k9 k10 k11 k12
 subst k2;subst k4
 unfold qbl at *
 rw [qy qk qi]
 have g4 : ¬ (m : Int) > (mid : Int):=fun h => g1 (Int.ofNat_lt.1 h)
 have e1 : (start : Int) < (m : Int):=Int.ofNat_lt.2 d1
 have e2 : ¬ (m : Int) < (fin : Int):=fun h => d2 (Int.ofNat_lt.1 h)
 have e3 : (a : Int) < (start : Int):=Int.ofNat_lt.2 d3
 have e5 : (mid : Int) < (fin : Int):=Int.ofNat_lt.2 (c5.2 d1)
 have e6 : ¬ (start : Int) < (mid : Int):=fun h => d2 (c6.1 (Int.ofNat_lt.1 h))
 have e4 : ¬ (fin : Int) < (b : Int):=fun h => d4 (Int.ofNat_lt.1 h)
 have r1:=n1 (fun h => d2 h.2);subst r1
 have r2:=n2 (fun h => d2 (c6.1 h.2));subst r2
 have r3:=n3 (fun h => d4 h.2);subst r3
 simp only [qj,w1,w2,w3,w4,w5,w6,w7,w8,w9,h1,h2,g4,k1,k3,k6,k7,k8,k10,k11,k12,e1,e2,e3,e5,e6,e4,qv,qn,Ev.exec,qb,qe,qc,qaj,Ev.Opnd.ev,Ev.Env.get,Ev.Env.set,Ev.look,qo,qaf,qcl,qam,ql,qau,qm,qak,Ev.kill,qai,qq,Ev.keep,qae,qw,qd,Ev.SObj.lo,qax,qa3,qbj,qfc,qg,↓qs,↓qan,↓reduceIte,zga,zgb,zgc,zfe,Nat.reduceAdd,Nat.reduceEqDiff,reduceCtorEq,zgv,zgw,zfc,zfa,zgx,zfd,zgu,zgy]
theorem q09 (x1 x2 y1 y2 a m b mid nn lo hi p start fin : Nat) (D D2 D3 D4 : List Evt) (N : Nums n x1 x2 y1 y2 a m b mid nn lo hi p start fin) (g1 : ¬ mid < m)
  (d1 : start < m) (d2 : ¬ m < fin) (d3 : ¬ a < start) (d4 : fin < b)
  (hf : qlh g cl n a m b mid nn a m p start D) (hS : Steps g cl n a m b mid start fin D D2 D3 D4) : qbl g cl n a m b D D4:=by
 obtain ⟨s1,n1,s2,n2,s3,n3⟩:=hS
 obtain ⟨⟨y,e,σ⟩,k1,k2,k3,k4,k5,k6,k7,k8,k9,k10,k11,k12⟩:=hf
 obtain ⟨w1,h1,w2,h2,w3,w4,w5,w6,w7,w8,w9,c5,c6⟩:=N.wraps
 simp only at k1 k2 k3 k4 k5 k6 k7 k8 k9 k10 k11 k12
 subst k2;subst k4
 unfold qbl at *
 rw [qy qk qi]
 have g4 : ¬ (m : Int) > (mid : Int):=fun h => g1 (Int.ofNat_lt.1 h)
 have e1 : (start : Int) < (m : Int):=Int.ofNat_lt.2 d1
 have e2 : ¬ (m : Int) < (fin : Int):=fun h => d2 (Int.ofNat_lt.1 h)
 have e3 : ¬ (a : Int) < (start : Int):=fun h => d3 (Int.ofNat_lt.1 h)
 have e5 : (mid : Int) < (fin : Int):=Int.ofNat_lt.2 (c5.2 d1)
 have e6 : ¬ (start : Int) < (mid : Int):=fun h => d2 (c6.1 (Int.ofNat_lt.1 h))
 have e4 : (fin : Int) < (b : Int):=Int.ofNat_lt.2 d4
 have r1:=n1 (fun h => d2 h.2);subst r1
 have r2:=n2 (fun h => d3 h.1);subst r2
 have r3:=s3 (c5.2 d1) d4
 simp only [qj,w1,w2,w3,w4,w5,w6,w7,w8,w9,h1,h2,g4,k1,k3,k5,k6,k7,k8,k9,k10,k11,k12,e1,e2,e3,e5,r3,e4,qv,qn,Ev.exec,qb,qe,qc,qd6,qaj,Ev.evs,Ev.Opnd.ev,Ev.Env.get,Ev.Env.set,Ev.Env.unset,Ev.look,qo,qaf,qcl,qam,ql,qau,qm,qak,Ev.kill,qai,qq,Ev.keep,qae,qw,qd,Ev.SObj.lo,qax,qa3,qbj,qfc,qg,↓qs,↓qan,↓reduceIte,zga,zgb,zgc,zfe,Nat.reduceAdd,Nat.reduceEqDiff,reduceCtorEq,zgv,zgw,zfc,zfa,zgx,zfd,zgu,zgy]
theorem q2a (x1 x2 y1 y2 a m b mid nn lo hi p start fin : Nat) (D D2 D3 D4 : List Evt) (N : Nums n x1 x2 y1 y2 a m b mid nn lo hi p start fin) (g1 : ¬ mid < m)
  (d1 : start < m) (d2 : ¬ m < fin) (d3 : ¬ a < start) (d4 : ¬ fin < b)
  (hf : qlh g cl n a m b mid nn a m p start D) (hS : Steps g cl n a m b mid start fin D D2 D3 D4) : qbl g cl n a m b D D4:=by
 obtain ⟨s1,n1,s2,n2,s3,n3⟩:=hS
 obtain ⟨⟨y,e,σ⟩,k1,k2,k3,k4,k5,k6,k7,k8,k9,k10,k11,k12⟩:=hf
 obtain ⟨w1,h1,w2,h2,w3,w4,w5,w6,w7,w8,w9,c5,c6⟩:=N.wraps
 simp only at k1 k2 k3 k4 k5 k6 k7 k8 k9 k10 k11 k12
 subst k2;subst k4
 unfold qbl at *
 rw [qy qk qi]
 have g4 : ¬ (m : Int) > (mid : Int):=fun h => g1 (Int.ofNat_lt.1 h)
 have e1 : (start : Int) < (m : Int):=Int.ofNat_lt.2 d1
 have e2 : ¬ (m : Int) < (fin : Int):=fun h => d2 (Int.ofNat_lt.1 h)
 have e3 : ¬ (a : Int) < (start : Int):=fun h => d3 (Int.ofNat_lt.1 h)
 have e5 : (mid : Int) < (fin : Int):=Int.ofNat_lt.2 (c5.2 d1)
 have e6 : ¬ (start : Int) < (mid : Int):=fun h => d2 (c6.1 (Int.ofNat_lt.1 h))
 have e4 : ¬ (fin : Int) < (b : Int):=fun h => d4 (Int.ofNat_lt.1 h)
 have r1:=n1 (fun h => d2 h.2);subst r1
 have r2:=n2 (fun h => d3 h.1);subst r2
 have r3:=n3 (fun h => d4 h.2);subst r3
 simp only [qj,w1,w2,w3,w4,w5,w6,w7,w8,w9,h1,h2,g4,k1,k3,k6,k7,k8,k10,k11,k12,e1,e2,e3,e5,e4,qv,qn,Ev.exec,qb,qe,qc,qaj,Ev.Opnd.ev,Ev.Env.get,Ev.Env.set,Ev.Env.unset,Ev.look,qo,qaf,qcl,qam,ql,qau,qm,qak,Ev.kill,qai,qq,Ev.keep,qae,qw,qd,Ev.SObj.lo,qax,qa3,qbj,qfc,qg,↓qs,↓qan,↓reduceIte,zga,zgb,zgc,zfe,Nat.reduceAdd,Nat.reduceEqDiff,reduceCtorEq,zgv,zgw,zfc,zfa,zgx,zfd,zgu,zgy]
theorem qz4 (x1 x2 y1 y2 a m b mid nn lo hi p start fin : Nat) (D D2 D3 D4 : List Evt) (N : Nums n x1 x2 y1 y2 a m b mid nn lo hi p start fin) (g1 : ¬ mid < m)
  (d1 : ¬ start < m) (d2 : m < fin) (d3 : a < start) (d4 : fin < b)
  (hf : qlh g cl n a m b mid nn a m p start D) (hS : Steps g cl n a m b mid start fin D D2 D3 D4) : qbl g cl n a m b D D4:=by
 obtain ⟨s1,n1,s2,n2,s3,n3⟩:=hS
 obtain ⟨⟨y,e,σ⟩,k1,k2,k3,k4,k5,k6,k7,k8,k9,k10,k11,k12⟩:=hf
 obtain ⟨w1,h1,w2,h2,w3,w4,w5,w6,w7,w8,w9,c5,c6⟩:=N.wraps
 simp only at k1 k2 k3 k4 k5 k6 k7 k8 k9 k10 k11 k12
 subst k2;subst k4
 unfold qbl at *
 rw [qy qk qi]
 have g4 : ¬ (m : Int) > (mid : Int):=fun h => g1 (Int.ofNat_lt.1 h)
 have e1 : ¬ (start : Int) < (m : Int):=fun h => d1 (Int.ofNat_lt.1 h)
 have e2 : (m : Int) < (fin : Int):=Int.ofNat_lt.2 d2
 have e3 : (a : Int) < (start : Int):=Int.ofNat_lt.2 d3
 have e5 : ¬ (mid : Int) < (fin : Int):=fun h => d1 (c5.1 (Int.ofNat_lt.1 h))
 have e6 : (start : Int) < (mid : Int):=Int.ofNat_lt.2 (c6.2 d2)
 have e4 : (fin : Int) < (b : Int):=Int.ofNat_lt.2 d4
 have r1:=n1 (fun h => d1 h.1);subst r1
 have r2:=s2 d3 (c6.2 d2)
 have r3:=n3 (fun h => d1 (c5.1 h.1));subst r3
 simp only [qj,w1,w2,w3,w4,w5,w6,w7,w8,w9,h1,h2,g4,k1,k3,k5,k6,k7,k9,k10,k11,k12,e1,e3,e5,e6,r2,qv,qn,Ev.exec,qb,qe,qc,qd6,qaj,Ev.evs,Ev.Opnd.ev,Ev.Env.get,Ev.Env.set,Ev.Env.unset,Ev.look,qo,qaf,qcl,qam,ql,qau,qm,qak,Ev.kill,qai,qq,Ev.keep,qae,qw,qd,Ev.SObj.lo,qax,qa3,qbj,qfc,qg,↓qs,↓qan,↓reduceIte,zga,zgb,zgc,zfe,Nat.reduceAdd,Nat.reduceEqDiff,reduceCtorEq,zgv,zgw,zfc,zfa,zgx,zfd,zgu,zgy]
theorem q2m (x1 x2 y1 y2 a m b mid nn lo hi p start fin : Nat) (D D2 D3 D4 : List Evt) (N : Nums n x1 x2 y1 y2 a m b mid nn lo hi p start fin) (g1 : ¬ mid < m)
  (d1 : ¬ start < m) (d2 : m < fin) (d3 : a < start) (d4 : ¬ fin < b)
  (hf : qlh g cl n a m b mid nn a m p start D) (hS : Steps g cl n a m b mid start fin D D2 D3 D4) : qbl g cl n a m b D D4:=by
 obtain ⟨s1,n1,s2,n2,s3,n3⟩:=hS
 obtain ⟨⟨y,e,σ⟩,k1,k2,k3,k4,k5,k6,k7,k8,k9,k10,k11,k12⟩:=hf
 obtain ⟨w1,h1,w2,h2,w3,w4,w5,w6,w7,w8,w9,c5,c6⟩:=N.wraps
 simp only at k1 k2 k3 k4 k5 k6 k7 k8 k9 k10 k11 k12
 subst k2;subst k4
 unfold qbl at *
 rw [qy qk qi]
 have g4 : ¬ (m : Int) > (mid : Int):=fun h => g1 (Int.ofNat_lt.1 h)
 have e1 : ¬ (start : Int) < (m : Int):=fun h => d1 (Int.ofNat_lt.1 h)
 have e2 : (m : Int) < (fin : Int):=Int.ofNat_lt.2 d2
 have e3 : (a : Int) < (start : Int):=Int.ofNat_lt.2 d3
 have e5 : ¬ (mid : Int) < (fin : Int):=fun h => d1 (c5.1 (Int.ofNat_lt.1 h))
 have e6 : (start : Int) < (mid : Int):=Int.ofNat_lt.2 (c6.2 d2)
 have e4 : ¬ (fin : Int) < (b : Int):=fun h => d4 (Int.ofNat_lt.1 h)
 have r1:=n1 (fun h => d1 h.1);subst r1
 have r2:=s2 d3 (c6.2 d2)
 have r3:=n3 (fun h => d1 (c5.1 h.1));subst r3
 simp only [qj,w1,w2,w3,w4,w5,w6,w7,w8,w9,h1,h2,g4,k1,k3,k5,k6,k7,k9,k10,k11,k12,e1,e3,e5,e6,r2,qv,qn,Ev.exec,qb,qe,qc,qd6,qaj,Ev.evs,Ev.Opnd.ev,Ev.Env.get,Ev.Env.set,Ev.Env.unset,Ev.look,qo,qaf,qcl,qam,ql,qau,qm,qak,Ev.kill,qai,qq,Ev.keep,qae,qw,qd,Ev.SObj.lo,qax,qa3,qbj,qfc,qg,↓qs,↓qan,↓reduceIte,zga,zgb,zgc,zfe,Nat.reduceAdd,Nat.reduceEqDiff,reduceCtorEq,zgv,zgw,zfc,zfa,zgx,zfd,zgu,zgy]
theorem q2j (x1 x2 y1 y2 a m b mid nn lo hi p start fin : Nat) (D D2 D3 D4 : List Evt) (N : Nums n x1 x2 y1 y2 a m b mid nn lo hi p start fin) (g1 : ¬ mid < m)
  (d1 : ¬ start < m) (d2 : m < fin) (d3 : ¬ a < start) (d4 : fin < b)
  (hf : qlh g cl n a m b mid nn a m p start D) (hS : Steps g cl n a m b mid start fin D D2 D3 D4) : qbl g cl n a m b D D4:=by
 obtain ⟨s1,n1,s2,n2,s3,n3⟩:=hS
 obtain ⟨⟨y,e,σ⟩,k1,k2,k3,k4,k5,k6,k7,k8,k9,k10,k11,k12⟩:=hf
 obtain ⟨w1,h1,w2,h2,w3,w4,w5,w6,w7,w8,w9,c5,c6⟩:=N.wraps
 simp only at k1 k2 k3 k4 k5 k6 k7 k8 k9 k10 k11 k12
 subst k2;subst k4
 unfold qbl at *
 rw [qy qk qi]
 have g4 : ¬ (m : Int) > (mid : Int):=fun h => g1 (Int.ofNat_lt.1 h)
 have e1 : ¬ (start : Int) < (m : Int):=fun h => d1 (Int.ofNat_lt.1 h)
 have e2 : (m : Int) < (fin : Int):=Int.ofNat_lt.2 d2
 have e3 : ¬ (a : Int) < (start : Int):=fun h => d3 (Int.ofNat_lt.1 h)
 have e5 : ¬ (mid : Int) < (fin : Int):=fun h => d1 (c5.1 (Int.ofNat_lt.1 h))
 have e6 : (start : Int) < (mid : Int):=Int.ofNat_lt.2 (c6.2 d2)
 have e4 : (fin : Int) < (b : Int):=Int.ofNat_lt.2 d4
 have r1:=n1 (fun h => d1 h.1);subst r1
 have r2:=n2 (fun h => d3 h.1);subst r2
 have r3:=n3 (fun h => d1 (c5.1 h.1));subst r3
 simp only [qj,w1,w2,w3,w4,w5,w6,w7,w8,w9,h1,h2,g4,k1,k3,k6,k7,k10,k11,k12,e1,e3,e5,qv,qn,Ev.exec,qb,qe,qc,qaj,Ev.Opnd.ev,Ev.Env.get,Ev.Env.set,Ev.Env.unset,Ev.look,qo,qaf,qcl,qam,ql,qau,qm,qak,Ev.kill,qai,qq,Ev.keep,qae,qw,qd,Ev.SObj.lo,qax,qa3,qbj,qfc,qg,↓qs,↓qan,↓reduceIte,zga,zgb,zgc,zfe,Nat.reduceAdd,Nat.reduceEqDiff,reduceCtorEq,zgv,zgw,zfc,zfa,zgx,zfd,zgu,zgy]
theorem q06 (x1 x2 y1 y2 a m b mid nn lo hi p start fin : Nat) (D D2 D3 D4 : List Evt) (N : Nums n x1 x2 y1 y2 a m b mid nn lo hi p start fin) (g1 : ¬ mid < m)
  (d1 : ¬ start < m) (d2 : m < fin) (d3 : ¬ a < start) (d4 : ¬ fin < b)
  (hf : qlh g cl n a m b mid nn a m p start D) (hS : Steps g cl n a m b mid start fin D D2 D3 D4) : qbl g cl n a m b D D4:=by
 obtain ⟨s1,n1,s2,n2,s3,n3⟩:=hS
 obtain ⟨⟨y,e,σ⟩,k1,k2,k3,k4,k5,k6,k7,k8,k9,k10,k11,k12⟩:=hf
 obtain ⟨w1,h1,w2,h2,w3,w4,w5,w6,w7,w8,w9,c5,c6⟩:=N.wraps
 simp only at k1 k2 k3 k4 k5 k6 k7 k8 k9 k10 k11 k12
 subst k2;subst k4
 unfold qbl at *
 rw [qy qk qi]
 have g4 : ¬ (m : Int) > (mid : Int):=fun h => g1 (Int.ofNat_lt.1 h)
 have e1 : ¬ (start : Int) < (m : Int):=fun h => d1 (Int.ofNat_lt.1 h)
 have e2 : (m : Int) < (fin : Int):=Int.ofNat_lt.2 d2
 have e3 : ¬ (a : Int) < (start : Int):=fun h => d3 (Int.ofNat_lt.1 h)
 have e5 : ¬ (mid : Int) < (fin : Int):=fun h => d1 (c5.1 (Int.ofNat_lt.1 h))
 have e6 : (start : Int) < (mid : Int):=Int.ofNat_lt.2 (c6.2 d2)
 have e4 : ¬ (fin : Int) < (b : Int):=fun h => d4 (Int.ofNat_lt.1 h)
 have r1:=n1 (fun h => d1 h.1);subst r1
 have r2:=n2 (fun h => d3 h.1);subst r2
 have r3:=n3 (fun h => d1 (c5.1 h.1));subst r3
 simp only [qj,w1,w2,w3,w4,w5,w6,w7,w8,w9,h1,h2,g4,k1,k3,k6,k7,k10,k11,k12,e1,e3,e5,qv,qn,Ev.exec,qb,qe,qc,qaj,Ev.Opnd.ev,Ev.Env.get,Ev.Env.set,Ev.Env.unset,Ev.look,qo,qaf,qcl,qam,ql,qau,qm,qak,Ev.kill,qai,qq,Ev.keep,qae,qw,qd,Ev.SObj.lo,qax,qa3,qbj,qfc,qg,↓qs,↓qan,↓reduceIte,zga,zgb,zgc,zfe,Nat.reduceAdd,Nat.reduceEqDiff,reduceCtorEq,zgv,zgw,zfc,zfa,zgx,zfd,zgu,zgy]
theorem qzo (x1 x2 y1 y2 a m b mid nn lo hi p start fin : Nat) (D D2 D3 D4 : List Evt) (N : Nums n x1 x2 y1 y2 a m b mid nn lo hi p start fin) (g1 : ¬ mid < m)
  (d1 : ¬ start < m) (d2 : ¬ m < fin) (d3 : a < start) (d4 : fin < b)
  (hf : qlh g cl n a m b mid nn a m p start D) (hS : Steps g cl n a m b mid start fin D D2 D3 D4) : qbl g cl n a m b D D4:=by
 obtain ⟨s1,n1,s2,n2,s3,n3⟩:=hS
 obtain ⟨⟨y,e,σ⟩,k1,k2,k3,k4,k5,k6,k7,k8,k9,k10,k11,k12⟩:=hf
 obtain ⟨w1,h1,w2,h2,w3,w4,w5,w6,w7,w8,w9,c5,c6⟩:=N.wraps
 simp only at k1 k2 k3 k4 k5 k6 k7 k8 k9 k10 k11 k12
 subst k2;subst k4
 unfold qbl at *
 rw [qy qk qi]
 have g4 : ¬ (m : Int) > (mid : Int):=fun h => g1 (Int.ofNat_lt.1 h)
 have e1 : ¬ (start : Int) < (m : Int):=fun h => d1 (Int.ofNat_lt.1 h)
 have e2 : ¬ (m : Int) < (fin : Int):=fun h => d2 (Int.ofNat_lt.1 h)
 have e3 : (a : Int) < (start : Int):=Int.ofNat_lt.2 d3
 have e5 : ¬ (mid : Int) < (fin : Int):=fun h => d1 (c5.1 (Int.ofNat_lt.1 h))
 have e6 : ¬ (start : Int) < (mid : Int):=fun h => d2 (c6.1 (Int.ofNat_lt.1 h))
 have e4 : (fin : Int) < (b : Int):=Int.ofNat_lt.2 d4
 have r1:=n1 (fun h => d1 h.1);subst r1
 have r2:=n2 (fun h => d2 (c6.1 h.2));subst r2
 have r3:=n3 (fun h => d1 (c5.1 h.1));subst r3
 simp only [qj,w1,w2,w3,w4,w5,w6,w7,w8,w9,h1,h2,g4,k1,k3,k6,k7,k10,k11,k12,e1,e3,e5,e6,qv,qn,Ev.exec,qb,qe,qc,qaj,Ev.Opnd.ev,Ev.Env.get,Ev.Env.set,Ev.Env.unset,Ev.look,qo,qaf,qcl,qam,ql,qau,qm,qak,Ev.kill,qai,qq,Ev.keep,qae,qw,qd,Ev.SObj.lo,qax,qa3,qbj,qfc,qg,↓qs,↓qan,↓reduceIte,zga,zgb,zgc,zfe,Nat.reduceAdd,Nat.reduceEqDiff,reduceCtorEq,zgv,zgw,zfc,zfa,zgx,zfd,zgu,zgy]
theorem q08 (x1 x2 y1 y2 a m b mid nn lo hi p start fin : Nat) (D D2 D3 D4 : List Evt) (N : Nums n x1 x2 y1 y2 a m b mid nn lo hi p start fin) (g1 : ¬ mid < m)
  (d1 : ¬ start < m) (d2 : ¬ m < fin) (d3 : a < start) (d4 : ¬ fin < b)
  (hf : qlh g cl n a m b mid nn a m p start D) (hS : Steps g cl n a m b mid start fin D D2 D3 D4) : qbl g cl n a m b D D4:=by
 obtain ⟨s1,n1,s2,n2,s3,n3⟩:=hS
 obtain ⟨⟨y,e,σ⟩,k1,k2,k3,k4,k5,k6,k7,k8,k9,k10,k11,k12⟩:=hf
 obtain ⟨w1,h1,w2,h2,w3,w4,w5,w6,w7,w8,w9,c5,c6⟩:=N.wraps
 simp only at k1 k2 k3 k4 k5 k6 k7 k8 k9 k10 k11 k12
 subst k2;subst k4
 unfold qbl at *
 rw [qy qk qi]
 have g4 : ¬ (m : Int) > (mid : Int):=fun h => g1 (Int.ofNat_lt.1 h)
 have e1 : ¬ (start : Int) < (m : Int):=fun h => d1 (Int.ofNat_lt.1 h)
 have e2 : ¬ (m : Int) < (fin : Int):=fun h => d2 (Int.ofNat_lt.1 h)
 have e3 : (a : Int) < (start : Int):=Int.ofNat_lt.2 d3
 have e5 : ¬ (mid : Int) < (fin : Int):=fun h => d1 (c5.1 (Int.ofNat_lt.1 h))
 have e6 : ¬ (start : Int) < (mid : Int):=fun h => d2 (c6.1 (Int.ofNat_lt.1 h))
 have e4 : ¬ (fin : Int) < (b : Int):=fun h => d4 (Int.ofNat_lt.1 h)
 have r1:=n1 (fun h => d1 h.1);subst r1
 have r2:=n2 (fun h => d2 (c6.1 h.2));subst r2
 have r3:=n3 (fun h => d1 (c5.1 h.1));subst r3
 simp only [qj,w1,w2,w3,w4,w5,w6,w7,w8,w9,h1,h2,g4,k1,k3,k6,k7,k10,k11,k12,e1,e3,e5,e6,qv,qn,Ev.exec,qb,qe,qc,qaj,Ev.Opnd.ev,Ev.Env.get,Ev.Env.set,Ev.Env.unset,Ev.look,qo,qaf,qcl,qam,ql,qau,qm,qak,Ev.kill,qai,qq,Ev.keep,qae,qw,qd,Ev.SObj.lo,qax,qa3,qbj,qfc,qg,↓qs,↓qan,↓reduceIte,zga,zgb,zgc,zfe,Nat.reduceAdd,Nat.reduceEqDiff,reduceCtorEq,zgv,zgw,zfc,zfa,zgx,zfd,zgu,zgy]
theorem q1l (x1 x2 y1 y2 a m b mid nn lo hi p start fin : Nat) (D D2 D3 D4 : List Evt) (N : Nums n x1 x2 y1 y2 a m b mid nn lo hi p start fin) (g1 : ¬ mid < m)
  (d1 : ¬ start < m) (d2 : ¬ m < fin) (d3 : ¬ a < start) (d4 : fin < b)
  (hf : qlh g cl n a m b mid nn a m p start D) (hS : Steps g cl n a m b mid start fin D D2 D3 D4) : qbl g cl n a m b D D4:=by
 obtain ⟨s1,n1,s2,n2,s3,n3⟩:=hS
 obtain ⟨⟨y,e,σ⟩,k1,k2,k3,k4,k5,k6,k7,k8,k9,k10,k11,k12⟩:=hf
 obtain ⟨w1,h1,w2,h2,w3,w4,w5,w6,w7,w8,w9,c5,c6⟩:=N.wraps
 simp only at k1 k2 k3 k4 k5 k6 k7 k8 k9 k10 k11 k12
 subst k2;subst k4
 unfold qbl at *
 rw [qy qk qi]
 have g4 : ¬ (m : Int) > (mid : Int):=fun h => g1 (Int.ofNat_lt.1 h)
 have e1 : ¬ (start : Int) < (m : Int):=fun h => d1 (Int.ofNat_lt.1 h)
 have e2 : ¬ (m : Int) < (fin : Int):=fun h => d2 (Int.ofNat_lt.1 h)
 have e3 : ¬ (a : Int) < (start : Int):=fun h => d3 (Int.ofNat_lt.1 h)
 have e5 : ¬ (mid : Int) < (fin : Int):=fun h => d1 (c5.1 (Int.ofNat_lt.1 h))
 have e6 : ¬ (start : Int) < (mid : Int):=fun h => d2 (c6.1 (Int.ofNat_lt.1 h))
 have e4 : (fin : Int) < (b : Int):=Int.ofNat_lt.2 d4
 have r1:=n1 (fun h => d1 h.1);subst r1
 have r2:=n2 (fun h => d3 h.1);subst r2
 have r3:=n3 (fun h => d1 (c5.1 h.1));subst r3
 simp only [qj,w1,w2,w3,w4,w5,w6,w7,w8,w9,h1,h2,g4,k1,k3,k6,k7,k10,k11,k12,e1,e3,e5,qv,qn,Ev.exec,qb,qe,qc,qaj,Ev.Opnd.ev,Ev.Env.get,Ev.Env.set,Ev.Env.unset,Ev.look,qo,qaf,qcl,qam,ql,qau,qm,qak,Ev.kill,qai,qq,Ev.keep,qae,qw,qd,Ev.SObj.lo,qax,qa3,qbj,qfc,qg,↓qs,↓qan,↓reduceIte,zga,zgb,zgc,zfe,Nat.reduceAdd,Nat.reduceEqDiff,reduceCtorEq,zgv,zgw,zfc,zfa,zgx,zfd,zgu,zgy]
theorem qzj (x1 x2 y1 y2 a m b mid nn lo hi p start fin : Nat) (D D2 D3 D4 : List Evt) (N : Nums n x1 x2 y1 y2 a m b mid nn lo hi p start fin) (g1 : ¬ mid < m)
  (d1 : ¬ start < m) (d2 : ¬ m < fin) (d3 : ¬ a < start) (d4 : ¬ fin < b)
  (hf : qlh g cl n a m b mid nn a m p start D) (hS : Steps g cl n a m b mid start fin D D2 D3 D4) : qbl g cl n a m b D D4:=by
 obtain ⟨s1,n1,s2,n2,s3,n3⟩:=hS
 obtain ⟨⟨y,e,σ⟩,k1,k2,k3,k4,k5,k6,k7,k8,k9,k10,k11,k12⟩:=hf
 obtain ⟨w1,h1,w2,h2,w3,w4,w5,w6,w7,w8,w9,c5,c6⟩:=N.wraps
 simp only at k1 k2 k3 k4 k5 k6 k7 k8 k9 k10 k11 k12
 subst k2;subst k4
 unfold qbl at *
 rw [qy qk qi]
 have g4 : ¬ (m : Int) > (mid : Int):=fun h => g1 (Int.ofNat_lt.1 h)
 have e1 : ¬ (start : Int) < (m : Int):=fun h => d1 (Int.ofNat_lt.1 h)
 have e2 : ¬ (m : Int) < (fin : Int):=fun h => d2 (Int.ofNat_lt.1 h)
 have e3 : ¬ (a : Int) < (start : Int):=fun h => d3 (Int.ofNat_lt.1 h)
 have e5 : ¬ (mid : Int) < (fin : Int):=fun h => d1 (c5.1 (Int.ofNat_lt.1 h))
 have e6 : ¬ (start : Int) < (mid : Int):=fun h => d2 (c6.1 (Int.ofNat_lt.1 h))
 have e4 : ¬ (fin : Int) < (b : Int):=fun h => d4 (Int.ofNat_lt.1 h)
 have r1:=n1 (fun h => d1 h.1);subst r1
 have r2:=n2 (fun h => d3 h.1);subst r2
 have r3:=n3 (fun h => d1 (c5.1 h.1));subst r3
 simp only [qj,w1,w2,w3,w4,w5,w6,w7,w8,w9,h1,h2,g4,k1,k3,k6,k7,k10,k11,k12,e1,e3,e5,qv,qn,Ev.exec,qb,qe,qc,qaj,Ev.Opnd.ev,Ev.Env.get,Ev.Env.set,Ev.Env.unset,Ev.look,qo,qaf,qcl,qam,ql,qau,qm,qak,Ev.kill,qai,qq,Ev.keep,qae,qw,qd,Ev.SObj.lo,qax,qa3,qbj,qfc,qg,↓qs,↓qan,↓reduceIte,zga,zgb,zgc,zfe,Nat.reduceAdd,Nat.reduceEqDiff,reduceCtorEq,zgv,zgw,zfc,zfa,zgx,zfd,zgu,zgy]
theorem qacl (x1 x2 y1 y2 a m b mid nn lo hi p start fin : Nat) (D D2 D3 D4 : List Evt) (N : Nums n x1 x2 y1 y2 a m b mid nn lo hi p start fin) (hlo : mid < m ∧ nn = b + lo ∧ hi = mid ∨ ¬ mid < m ∧ lo = a ∧ hi = m)
  (hfind : ∃ y,itB (exec (evL T) itL none qbo) (qq [0,1,2,3,4,18,19,20,21,22] true 1) ⟨[(0,.sl 0 g 0 n cl),(1,(ii a)),(2,(ii m)),(3,(ii b)),(4,(.fn (.func qr) [] [])),(18,(ii mid)),(19,(ii nn)),(20,(ii lo)),(21,(ii hi)),(22,(ii p))],[]⟩ [.row 6 ((D).map Evt.r) g] = some y ∧
   (y.1 = .exit 8 ∧ y.2.1.marks = [] ∧ y.2.2 = [.row 6 ((D).map Evt.r) g] ∧ Ev.look y.2.1.vars 0 = some (.sl 0 g 0 n cl) ∧ Ev.look y.2.1.vars 1 = some (ii a) ∧ Ev.look y.2.1.vars 2 = some (ii m) ∧ Ev.look y.2.1.vars 3 = some (ii b) ∧ Ev.look y.2.1.vars 4 = some (.fn (.func qr) [] []) ∧ Ev.look y.2.1.vars 18 = some (ii mid) ∧
    Ev.look y.2.1.vars 19 = some (ii nn) ∧ Ev.look y.2.1.vars 20 = some (ii start)))
  (s1 : start < m → m < fin → (evL T).call qbf [.sl 0 g 0 n cl,(ii start),(ii m),(ii fin),(.fn (.func qr) [] [])] [.row 6 ((D).map Evt.r) g] = some (.tup [],[.row 6 ((D2).map Evt.r) g])) (n1 : ¬ (start < m ∧ m < fin) → D2 = D)
  (s2 : a < start → start < mid → qbl g cl n a start mid D2 D3) (n2 : ¬ (a < start ∧ start < mid) → D3 = D2)
  (s3 : mid < fin → fin < b → qbl g cl n mid fin b D3 D4) (n3 : ¬ (mid < fin ∧ fin < b) → D4 = D3) : qbl g cl n a m b D D4:=by
 rcases hlo with ⟨g1,g2,rfl⟩ | ⟨g1,rfl,rfl⟩
 ·rcases Classical.em (start < m) with d1 | d1 <;> rcases Classical.em (m < fin) with d2 | d2 <;> rcases Classical.em (a < start) with d3 | d3 <;> rcases Classical.em (fin < b) with d4 | d4
  ·exact q0i g cl n x1 x2 y1 y2 a m b hi nn lo hi p start fin D D2 D3 D4 N g1 g2 d1 d2 d3 d4 hfind ⟨s1,n1,s2,n2,s3,n3⟩
  ·exact qzn g cl n x1 x2 y1 y2 a m b hi nn lo hi p start fin D D2 D3 D4 N g1 g2 d1 d2 d3 d4 hfind ⟨s1,n1,s2,n2,s3,n3⟩
  ·exact q2d g cl n x1 x2 y1 y2 a m b hi nn lo hi p start fin D D2 D3 D4 N g1 g2 d1 d2 d3 d4 hfind ⟨s1,n1,s2,n2,s3,n3⟩
  ·exact q1n g cl n x1 x2 y1 y2 a m b hi nn lo hi p start fin D D2 D3 D4 N g1 g2 d1 d2 d3 d4 hfind ⟨s1,n1,s2,n2,s3,n3⟩
  ·exact q0l g cl n x1 x2 y1 y2 a m b hi nn lo hi p start fin D D2 D3 D4 N g1 g2 d1 d2 d3 d4 hfind ⟨s1,n1,s2,n2,s3,n3⟩
  ·exact q1y g cl n x1 x2 y1 y2 a m b hi nn lo hi p start fin D D2 D3 D4 N g1 g2 d1 d2 d3 d4 hfind ⟨s1,n1,s2,n2,s3,n3⟩
  ·exact qzb g cl n x1 x2 y1 y2 a m b hi nn lo hi p start fin D D2 D3 D4 N g1 g2 d1 d2 d3 d4 hfind ⟨s1,n1,s2,n2,s3,n3⟩
  ·exact q2i g cl n x1 x2 y1 y2 a m b hi nn lo hi p start fin D D2 D3 D4 N g1 g2 d1 d2 d3 d4 hfind ⟨s1,n1,s2,n2,s3,n3⟩
  ·exact q0o g cl n x1 x2 y1 y2 a m b hi nn lo hi p start fin D D2 D3 D4 N g1 g2 d1 d2 d3 d4 hfind ⟨s1,n1,s2,n2,s3,n3⟩
  ·exact q0g g cl n x1 x2 y1 y2 a m b hi nn lo hi p start fin D D2 D3 D4 N g1 g2 d1 d2 d3 d4 hfind ⟨s1,n1,s2,n2,s3,n3⟩
  ·exact qz7 g cl n x1 x2 y1 y2 a m b hi nn lo hi p start fin D D2 D3 D4 N g1 g2 d1 d2 d3 d4 hfind ⟨s1,n1,s2,n2,s3,n3⟩
  ·exact qz8 g cl n x1 x2 y1 y2 a m b hi nn lo hi p start fin D D2 D3 D4 N g1 g2 d1 d2 d3 d4 hfind ⟨s1,n1,s2,n2,s3,n3⟩
  ·exact q2l g cl n x1 x2 y1 y2 a m b hi nn lo hi p start fin D D2 D3 D4 N g1 g2 d1 d2 d3 d4 hfind ⟨s1,n1,s2,n2,s3,n3⟩
  ·exact qzr g cl n x1 x2 y1 y2 a m b hi nn lo hi p start fin D D2 D3 D4 N g1 g2 d1 d2 d3 d4 hfind ⟨s1,n1,s2,n2,s3,n3⟩
  ·exact qz1 g cl n x1 x2 y1 y2 a m b hi nn lo hi p start fin D D2 D3 D4 N g1 g2 d1 d2 d3 d4 hfind ⟨s1,n1,s2,n2,s3,n3⟩
  ·exact qzc g cl n x1 x2 y1 y2 a m b hi nn lo hi p start fin D D2 D3 D4 N g1 g2 d1 d2 d3 d4 hfind ⟨s1,n1,s2,n2,s3,n3⟩
 ·rcases Classical.em (start < hi) with d1 | d1 <;> rcases Classical.em (hi < fin) with d2 | d2 <;> rcases Classical.em (lo < start) with d3 | d3 <;> rcases Classical.em (fin < b) with d4 | d4
  ·exact q1c g cl n x1 x2 y1 y2 lo hi b mid nn lo hi p start fin D D2 D3 D4 N g1 d1 d2 d3 d4 hfind ⟨s1,n1,s2,n2,s3,n3⟩
  ·exact q1t g cl n x1 x2 y1 y2 lo hi b mid nn lo hi p start fin D D2 D3 D4 N g1 d1 d2 d3 d4 hfind ⟨s1,n1,s2,n2,s3,n3⟩
  ·exact qz2 g cl n x1 x2 y1 y2 lo hi b mid nn lo hi p start fin D D2 D3 D4 N g1 d1 d2 d3 d4 hfind ⟨s1,n1,s2,n2,s3,n3⟩
  ·exact q05 g cl n x1 x2 y1 y2 lo hi b mid nn lo hi p start fin D D2 D3 D4 N g1 d1 d2 d3 d4 hfind ⟨s1,n1,s2,n2,s3,n3⟩
  ·exact q1v g cl n x1 x2 y1 y2 lo hi b mid nn lo hi p start fin D D2 D3 D4 N g1 d1 d2 d3 d4 hfind ⟨s1,n1,s2,n2,s3,n3⟩
  ·exact q2c g cl n x1 x2 y1 y2 lo hi b mid nn lo hi p start fin D D2 D3 D4 N g1 d1 d2 d3 d4 hfind ⟨s1,n1,s2,n2,s3,n3⟩
  ·exact q09 g cl n x1 x2 y1 y2 lo hi b mid nn lo hi p start fin D D2 D3 D4 N g1 d1 d2 d3 d4 hfind ⟨s1,n1,s2,n2,s3,n3⟩
  ·exact q2a g cl n x1 x2 y1 y2 lo hi b mid nn lo hi p start fin D D2 D3 D4 N g1 d1 d2 d3 d4 hfind ⟨s1,n1,s2,n2,s3,n3⟩
  ·exact qz4 g cl n x1 x2 y1 y2 lo hi b mid nn lo hi p start fin D D2 D3 D4 N g1 d1 d2 d3 d4 hfind ⟨s1,n1,s2,n2,s3,n3⟩
  ·exact q2m g cl n x1 x2 y1 y2 lo hi b mid nn lo hi p start fin D D2 D3 D4 N g1 d1 d2 d3 d4 hfind ⟨s1,n1,s2,n2,s3,n3⟩
  ·exact q2j g cl n x1 x2 y1 y2 lo hi b mid nn lo hi p start fin D D2 D3 D4 N g1 d1 d2 d3 d4 hfind ⟨s1,n1,s2,n2,s3,n3⟩
  ·exact q06 g cl n x1 x2 y1 y2 lo hi b mid nn lo hi p start fin D D2 D3 D4 N g1 d1 d2 d3 d4 hfind ⟨s1,n1,s2,n2,s3,n3⟩
  ·exact qzo g cl n x1 x2 y1 y2 lo hi b mid nn lo hi p start fin D D2 D3 D4 N g1 d1 d2 d3 d4 hfind ⟨s1,n1,s2,n2,s3,n3⟩
  ·exact q08 g cl n x1 x2 y1 y2 lo hi b mid nn lo hi p start fin D D2 D3 D4 N g1 d1 d2 d3 d4 hfind ⟨s1,n1,s2,n2,s3,n3⟩
  ·exact q1l g cl n x1 x2 y1 y2 lo hi b mid nn lo hi p start fin D D2 D3 D4 N g1 d1 d2 d3 d4 hfind ⟨s1,n1,s2,n2,s3,n3⟩
  ·exact qzj g cl n x1 x2 y1 y2 lo hi b mid nn lo hi p start fin D D2 D3 D4 N g1 d1 d2 d3 d4 hfind ⟨s1,n1,s2,n2,s3,n3⟩
end
set_option maxRecDepth 10000
section
variable (g : Nat) (cl : Bool) (n : Nat)
theorem qzk (hb : n < 2 ^ 61) : ∀ (k : Nat) (P X Y Q : List Evt),X.length + Y.length ≤ k → 0 < X.length → 0 < Y.length → X.Pairwise leE → Y.Pairwise leE → n = (P ++ (X ++ (Y ++ Q))).length → qcj (P ++ (X ++ (Y ++ Q))) →
  ∀ a m b : Nat,a = P.length → m = a + X.length → b = m + Y.length → ∃ Z : List Evt,Z.Perm (X ++ Y) ∧ Z.Pairwise leE ∧ qbl g cl n a m b (P ++ (X ++ (Y ++ Q))) (P ++ (Z ++ Q)):=by
 intro k
 induction k with
 | zero => intro P X Y Q h1 h2 h3;omega
 | succ k ih =>
  intro P X Y Q hk hX0 hY0 hX hY hn hkeys a m b ha hm hbb
  by_cases hx : X.length = 1
  ·obtain ⟨x,rfl⟩:=List.length_eq_one_iff.1 hx
   simp only [zgm,zgl,zga,zgb] at hn hkeys hm ⊢
   exact q9g g cl n P Y Q x hY hY0 hn hb hkeys a m b ha hm hbb
  by_cases hy : Y.length = 1
  ·obtain ⟨y,rfl⟩:=List.length_eq_one_iff.1 hy
   simp only [zgm,zgl,zga,zgb] at hn hkeys hbb ⊢
   exact qaai g cl n P X Q y hX (by omega) hn hb hkeys a m b ha hm hbb
  have hlen : n = P.length + (X.length + (Y.length + Q.length)):=by rw [hn];simp
  obtain ⟨mid,hmid⟩ : ∃ mid,mid = (a + b) / 2:=⟨_,rfl⟩
  obtain ⟨nn,hnn⟩ : ∃ nn,nn = mid + m:=⟨_,rfl⟩
  obtain ⟨p,hp⟩ : ∃ p,nn = p + 1:=⟨nn - 1,by omega⟩
  obtain ⟨lo,hi,hlo⟩ : ∃ lo hi,mid < m ∧ nn = b + lo ∧ hi = mid ∨ ¬ mid < m ∧ lo = a ∧ hi = m:=by
   by_cases c : mid < m
   ·exact ⟨nn - b,mid,.inl ⟨c,by omega,rfl⟩⟩
   ·exact ⟨a,m,.inr ⟨c,rfl,rfl⟩⟩
  obtain ⟨y,f1,start,f2,f3,f4,f5,f6,f7,f8,f9,f10,f11,f12,f13,f14,f15,f16⟩:=q7o g cl n (P ++ (X ++ (Y ++ Q))) hn hb hkeys a m b mid nn p lo hi hp (by omega) (fun c h1 h2 => by omega) (by omega) (by omega)
  obtain ⟨fin,hfin⟩ : ∃ fin,nn = start + fin:=⟨nn - start,by omega⟩
  obtain ⟨X1,X2,rfl,hX1⟩ : ∃ X1 X2,X = X1 ++ X2 ∧ X1.length = start - a:=⟨X.take (start - a),X.drop (start - a),(List.take_append_drop _ _).symm,by simp;omega⟩
  obtain ⟨Y1,Y2,rfl,hY1⟩ : ∃ Y1 Y2,Y = Y1 ++ Y2 ∧ Y1.length = fin - m:=⟨Y.take (fin - m),Y.drop (fin - m),(List.take_append_drop _ _).symm,by simp;omega⟩
  simp only [zgp] at hk hX0 hY0 hx hy hm hbb hlen
  obtain ⟨x1,x2,x3⟩:=List.pairwise_append.1 hX
  obtain ⟨y1,y2,y3⟩:=List.pairwise_append.1 hY
  have hst : start = a + X1.length:=by omega
  have hfi : fin = m + Y1.length:=by omega
  have N : Nums n X1.length X2.length Y1.length Y2.length a m b mid nn lo hi p start fin:=⟨by omega,by omega,hb,hmid,hnn,hp,hfin,hm,hbb,by omega,hst,hfi⟩
  simp only [List.append_assoc] at f1 f4 f15 f16 hn hkeys ⊢
  have hk2 : qcj (P ++ (X1 ++ (Y1 ++ (X2 ++ (Y2 ++ Q))))):=by
   intro z hz;refine hkeys z ?_
   simp only [List.mem_append] at hz ⊢
   rcases hz with h | h | h | h | h | h
   ·exact .inl h
   ·exact .inr (.inl h)
   ·exact .inr (.inr (.inr (.inl h)))
   ·exact .inr (.inr (.inl h))
   ·exact .inr (.inr (.inr (.inr (.inl h))))
   ·exact .inr (.inr (.inr (.inr (.inr h))))
  obtain ⟨Z1,p1,q1,s2,n2⟩ : ∃ Z1 : List Evt,Z1.Perm (X1 ++ Y1) ∧ Z1.Pairwise leE ∧ (a < start → start < mid → qbl g cl n a start mid (P ++ (X1 ++ (Y1 ++ (X2 ++ (Y2 ++ Q))))) (P ++ (Z1 ++ (X2 ++ (Y2 ++ Q))))) ∧ (¬ (a < start ∧ start < mid) → P ++ (Z1 ++ (X2 ++ (Y2 ++ Q))) = P ++ (X1 ++ (Y1 ++ (X2 ++ (Y2 ++ Q))))):=by
   by_cases c : a < start ∧ start < mid
   ·obtain ⟨Z,p1,q1,r1⟩:=ih P X1 Y1 (X2 ++ (Y2 ++ Q)) (by omega) (by omega) (by omega) x1 y1 (by rw [hlen];simp;omega) hk2 a start mid ha hst (by omega)
    exact ⟨Z,p1,q1,fun _ _ => r1,fun h => absurd c h⟩
   ·refine ⟨X1 ++ Y1,.refl _,?_,fun h1 h2 => absurd ⟨h1,h2⟩ c,fun _ => by simp⟩
    by_cases c1 : a < start
    ·rw [show Y1 = [] from List.eq_nil_of_length_eq_zero (by omega),List.append_nil];exact x1
    ·rw [show X1 = [] from List.eq_nil_of_length_eq_zero (by omega),List.nil_append];exact y1
  have lz:=p1.length_eq
  rw [List.length_append] at lz
  have hk3 : qcj (P ++ Z1 ++ (X2 ++ (Y2 ++ Q))):=by
   intro z hz;refine hk2 z ?_
   have:=p1.mem_iff (a:=z)
   simp only [List.mem_append] at hz this ⊢
   rcases hz with (h | h) | h
   ·exact .inl h
   ·rcases this.1 h with h | h
    ·exact .inr (.inl h)
    ·exact .inr (.inr (.inl h))
   ·exact .inr (.inr (.inr h))
  obtain ⟨Z2,p2,q2,s3,n3⟩ : ∃ Z2 : List Evt,Z2.Perm (X2 ++ Y2) ∧ Z2.Pairwise leE ∧ (mid < fin → fin < b → qbl g cl n mid fin b (P ++ (Z1 ++ (X2 ++ (Y2 ++ Q)))) (P ++ (Z1 ++ (Z2 ++ Q)))) ∧ (¬ (mid < fin ∧ fin < b) → P ++ (Z1 ++ (Z2 ++ Q)) = P ++ (Z1 ++ (X2 ++ (Y2 ++ Q)))):=by
   by_cases c : mid < fin ∧ fin < b
   ·obtain ⟨Z,p2,q2,r2⟩:=ih (P ++ Z1) X2 Y2 Q (by omega) (by omega) (by omega) x2 y2 (by rw [hlen];simp;omega) hk3 mid fin b (by simp;omega) (by omega) (by omega)
    simp only [List.append_assoc] at r2
    exact ⟨Z,p2,q2,fun _ _ => r2,fun h => absurd c h⟩
   ·refine ⟨X2 ++ Y2,.refl _,?_,fun h1 h2 => absurd ⟨h1,h2⟩ c,fun _ => by simp⟩
    by_cases c1 : mid < fin
    ·rw [show Y2 = [] from List.eq_nil_of_length_eq_zero (by omega),List.append_nil];exact x2
    ·rw [show X2 = [] from List.eq_nil_of_length_eq_zero (by omega),List.nil_append];exact y2
  have ms:=q7d qlk hX hY (Z1:=Z1) (Z2:=Z2) ?_ ?_ p1 p2 q1 q2
  ·refine ⟨Z1 ++ Z2,by simpa using ms.1,ms.2,?_⟩
   simp only [List.append_assoc]
   refine qacl g cl n X1.length X2.length Y1.length Y2.length a m b mid nn lo hi p start fin _ _ _ _ N hlo ⟨y,f1,f2,f3,f4,f5,f6,f7,f8,f9,f10,f11,f12⟩ ?_ ?_ s2 n2 s3 n3
   ·intro c1 c2
    have r:=qabi g cl n (P ++ X1) X2 Y1 (Y2 ++ Q) (by omega) (by omega) (by rw [hlen];simp;omega) hb start m fin (by simp;omega) (by omega) (by omega)
    simpa only [List.append_assoc] using r
   ·intro c
    by_cases c1 : start < m
    ·rw [show Y1 = [] from List.eq_nil_of_length_eq_zero (by omega)];simp
    ·rw [show X2 = [] from List.eq_nil_of_length_eq_zero (by omega)];simp
  ·intro u v hu hv
   have hlt : X1.length - 1 < X1.length:=(List.getElem?_eq_some_iff.1 hu).1
   have hlt2 : 0 < Y2.length:=(List.getElem?_eq_some_iff.1 hv).1
   rcases f15 with h | h
   ·omega
   ·refine h u v ?_ ?_
    ·rw [← hu];exact qxu (L:=P) (X:=X1) (M:=X2 ++ (Y1 ++ (Y2 ++ Q))) rfl hlt (by omega)
    ·rw [← hv];exact qxu (L:=P ++ (X1 ++ (X2 ++ Y1))) (X:=Y2) (M:=Q) (by simp) hlt2 (by simp;omega)
  ·intro u v hu hv
   have hlt : Y1.length - 1 < Y1.length:=(List.getElem?_eq_some_iff.1 hu).1
   have hlt2 : 0 < X2.length:=(List.getElem?_eq_some_iff.1 hv).1
   rcases f16 with h | h
   ·omega
   ·refine h u v ?_ ?_
    ·rw [← hu];exact qxu (L:=P ++ (X1 ++ X2)) (X:=Y1) (M:=Y2 ++ Q) (by simp) hlt (by simp;omega)
    ·rw [← hv];exact qxu (L:=P ++ X1) (X:=X2) (M:=Y1 ++ (Y2 ++ Q)) (by simp) hlt2 (by simp;omega)
end
set_option maxRecDepth 10000
theorem q8q {a : Nat} (h : a < 2 ^ 61) : IntKind.i64.wrap (2 * (a : Int)) = ((2 * a : Nat) : Int):=by rw [qas (by omega) (by omega)];omega
theorem qaby {a : Nat} (h : a < 2 ^ 61) : IntKind.i64.wrap ((a : Int) * 2) = ((2 * a : Nat) : Int):=by rw [qas (by omega) (by omega)];omega
section
variable (g : Nat) (cl : Bool) (n : Nat)
theorem qacr (l : List Evt) (hn : n = l.length) (hb : n < 2 ^ 58) (hk : qcj l) :
  ∃ y,itB (exec (evL T) itL none qcm) (qq [0,1,2,6,7,8] true 1) ⟨[(0,.sl 0 g 0 n cl),(1,(ii n)),(2,(.fn (.func qr) [] [])),(6,(ii 20)),(7,(ii 0)),(8,(ii 20))],[]⟩ [.row 6 ((l).map Evt.r) g] = some y ∧
   ∃ a : Nat,y.1 = .exit 0 ∧ y.2.1.marks = [] ∧ Ev.look y.2.1.vars 0 = some (.sl 0 g 0 n cl) ∧ Ev.look y.2.1.vars 1 = some (ii n) ∧ Ev.look y.2.1.vars 2 = some (.fn (.func qr) [] []) ∧ Ev.look y.2.1.vars 6 = some (ii 20) ∧ Ev.look y.2.1.vars 7 = some (ii a) ∧
    ∃ Dn Rs : List Evt,y.2.2 = [.row 6 ((Dn ++ Rs).map Evt.r) g] ∧ a = Dn.length ∧ (Dn ++ Rs).Perm l ∧ Rs.length < 20 ∧ ∀ t,Blk leE 20 t → Blk leE 20 (Dn ++ t):=by
 have key:=qhe (f:=exec (evL T) itL none qcm) (s:=qq [0,1,2,6,7,8] true 1) (τ:=List Evt × Nat)
  (fun s => ⟨[(0,.sl 0 g 0 n cl),(1,(ii n)),(2,(.fn (.func qr) [] [])),(6,(ii 20)),(7,(ii s.2)),(8,(ii ((s.2 + 20 : Nat))))],[]⟩) (fun s => [.row 6 ((s.1).map Evt.r) g]) (fun s => n + 20 - s.2)
  (fun s => ∃ Dn Rs,s.1 = Dn ++ Rs ∧ s.2 = Dn.length ∧ (Dn ++ Rs).Perm l ∧ ∀ t,Blk leE 20 t → Blk leE 20 (Dn ++ t))
  (fun y => ∃ a : Nat,y.1 = .exit 0 ∧ y.2.1.marks = [] ∧ Ev.look y.2.1.vars 0 = some (.sl 0 g 0 n cl) ∧ Ev.look y.2.1.vars 1 = some (ii n) ∧ Ev.look y.2.1.vars 2 = some (.fn (.func qr) [] []) ∧ Ev.look y.2.1.vars 6 = some (ii 20) ∧ Ev.look y.2.1.vars 7 = some (ii a) ∧
    ∃ Dn Rs : List Evt,y.2.2 = [.row 6 ((Dn ++ Rs).map Evt.r) g] ∧ a = Dn.length ∧ (Dn ++ Rs).Perm l ∧ Rs.length < 20 ∧ ∀ t,Blk leE 20 t → Blk leE 20 (Dn ++ t)) ?_ (l,0) ⟨[],l,rfl,rfl,.refl _,fun t h => h⟩
 ·exact key
 rintro ⟨D,a⟩ ⟨Dn,Rs,hD,ha,hp,hB⟩
 simp only at hD ha ⊢
 have hl:=hp.length_eq
 rw [List.length_append] at hl
 by_cases c : a + 20 ≤ n
 case neg =>
  have h1 : ¬ ((a + 20 : Nat) : Int) ≤ (n : Int):=by omega
  right
  simp only [qcm,h1,Ev.exec,qb,qe,qc,qaj,Ev.Opnd.ev,Ev.Env.get,Ev.Env.set,Ev.look,qnk,↓qs,Ev.it1,↓reduceIte,Nat.reduceEqDiff,reduceCtorEq,zgw,zfa,zgy]
  exact ⟨_,rfl,a,rfl,rfl,rfl,rfl,rfl,rfl,rfl,Dn,Rs,by rw [hD],ha,hp,by omega,hB⟩
 have h1 : ((a + 20 : Nat) : Int) ≤ (n : Int):=by omega
 obtain ⟨S,Q,rfl,hS⟩ : ∃ S Q,Rs = S ++ Q ∧ S.length = 20:=⟨Rs.take 20,Rs.drop 20,(List.take_append_drop _ _).symm,by simp;omega⟩
 rw [List.length_append] at hl
 have hkD : qcj (Dn ++ (S ++ Q)):=hk.perm hp
 obtain ⟨S',p1,q1,r1⟩:=qxq g cl n Dn S Q (by simp;omega) (by omega) hkD a (a + 20) ha (by omega)
 have w1 : IntKind.i64.wrap (((a + 20 : Nat) : Int) + 20) = ((a + 20 + 20 : Nat) : Int):=by rw [qas (by omega) (by omega)];omega
 rw [← hD] at r1
 left
 refine ⟨(Dn ++ (S' ++ Q),a + 20),?_,⟨Dn ++ S',Q,by simp,?_,?_,?_⟩,by simp only;omega⟩
 ·simp only [qcm,h1,w1,r1,qv,Ev.exec,qb,qe,qc,qd6,qaj,Ev.evs,Ev.Opnd.ev,Ev.Env.get,Ev.Env.set,Ev.look,qaf,qnk,qq,Ev.keep,qae,qw,qd,Ev.SObj.lo,qax,qbj,qfc,qg,↓qs,Ev.it1,↓reduceIte,zgc,zfe,Nat.reduceEqDiff,reduceCtorEq,zgv,zfc,zgx,zgu,zgy]
 ·have:=p1.length_eq;simp;omega
 ·rw [List.append_assoc];exact (List.Perm.append_left Dn (p1.append_right Q)).trans hp
 ·intro t ht
  rw [List.append_assoc]
  exact hB _ (.more (by rw [p1.length_eq];exact hS) q1 ht)
theorem qaa3 (l D0 : List Evt) (hn : n = l.length) (hb : n < 2 ^ 58) (hk : qcj l) (s : Nat) (hs : 0 < s) (hsn : s < n) (hp0 : D0.Perm l) (hB0 : Blk leE s D0) :
  ∃ y,itB (exec (evL T) itL none qcp) (qq [0,1,2,6,7,8] true 1) ⟨[(0,.sl 0 g 0 n cl),(1,(ii n)),(2,(.fn (.func qr) [] [])),(6,(ii s)),(7,(ii 0)),(8,(ii ((2 * s : Nat))))],[]⟩ [.row 6 ((D0).map Evt.r) g] = some y ∧
   ∃ a : Nat,y.1 = .exit 4 ∧ y.2.1.marks = [] ∧ Ev.look y.2.1.vars 0 = some (.sl 0 g 0 n cl) ∧ Ev.look y.2.1.vars 1 = some (ii n) ∧ Ev.look y.2.1.vars 2 = some (.fn (.func qr) [] []) ∧ Ev.look y.2.1.vars 6 = some (ii s) ∧ Ev.look y.2.1.vars 7 = some (ii a) ∧
    ∃ Dn Rs : List Evt,y.2.2 = [.row 6 ((Dn ++ Rs).map Evt.r) g] ∧ a = Dn.length ∧ (Dn ++ Rs).Perm l ∧ Rs.length < 2 * s ∧ Blk leE s Rs ∧ ∀ t,Blk leE (2 * s) t → Blk leE (2 * s) (Dn ++ t):=by
 have key:=qhe (f:=exec (evL T) itL none qcp) (s:=qq [0,1,2,6,7,8] true 1) (τ:=List Evt × Nat)
  (fun z => ⟨[(0,.sl 0 g 0 n cl),(1,(ii n)),(2,(.fn (.func qr) [] [])),(6,(ii s)),(7,(ii z.2)),(8,(ii ((z.2 + 2 * s : Nat))))],[]⟩) (fun z => [.row 6 ((z.1).map Evt.r) g]) (fun z => n + 2 * s - z.2)
  (fun z => ∃ Dn Rs,z.1 = Dn ++ Rs ∧ z.2 = Dn.length ∧ (Dn ++ Rs).Perm l ∧ Blk leE s Rs ∧ ∀ t,Blk leE (2 * s) t → Blk leE (2 * s) (Dn ++ t))
  (fun y => ∃ a : Nat,y.1 = .exit 4 ∧ y.2.1.marks = [] ∧ Ev.look y.2.1.vars 0 = some (.sl 0 g 0 n cl) ∧ Ev.look y.2.1.vars 1 = some (ii n) ∧ Ev.look y.2.1.vars 2 = some (.fn (.func qr) [] []) ∧ Ev.look y.2.1.vars 6 = some (ii s) ∧ Ev.look y.2.1.vars 7 = some (ii a) ∧
    ∃ Dn Rs : List Evt,y.2.2 = [.row 6 ((Dn ++ Rs).map Evt.r) g] ∧ a = Dn.length ∧ (Dn ++ Rs).Perm l ∧ Rs.length < 2 * s ∧ Blk leE s Rs ∧ ∀ t,Blk leE (2 * s) t → Blk leE (2 * s) (Dn ++ t)) ?_ (D0,0) ⟨[],D0,rfl,rfl,hp0,hB0,fun t h => h⟩
 ·simp only [zfd] at key;exact key
 rintro ⟨D,a⟩ ⟨Dn,Rs,hD,ha,hp,hR,hB⟩
 simp only at hD ha ⊢
 have hl:=hp.length_eq
 rw [List.length_append] at hl
 by_cases c : a + 2 * s ≤ n
 case neg =>
  have h1 : ¬ ((a + 2 * s : Nat) : Int) ≤ (n : Int):=by omega
  right
  simp only [qcp,h1,Ev.exec,qb,qe,qc,qaj,Ev.Opnd.ev,Ev.Env.get,Ev.Env.set,Ev.look,qnk,↓qs,Ev.it1,↓reduceIte,Nat.reduceEqDiff,reduceCtorEq,zgw,zfa,zgy]
  exact ⟨_,rfl,a,rfl,rfl,rfl,rfl,rfl,rfl,rfl,Dn,Rs,by rw [hD],ha,hp,by omega,hR,hB⟩
 have h1 : ((a + 2 * s : Nat) : Int) ≤ (n : Int):=by omega
 obtain ⟨X,Y,Q,rfl,hX,hY,qX,qY,hQ⟩ : ∃ X Y Q,Rs = X ++ (Y ++ Q) ∧ X.length = s ∧ Y.length = s ∧ X.Pairwise leE ∧ Y.Pairwise leE ∧ Blk leE s Q:=by
  obtain ⟨X,R1,rfl,h2,h3,h4⟩:=hR.split (by omega)
  rw [List.length_append] at hl
  by_cases c2 : R1.length ≤ s
  ·exact ⟨X,R1,[],by simp,h2,by omega,h3,h4.sorted c2,.nil⟩
  ·obtain ⟨Y,Q,rfl,h5,h6,h7⟩:=h4.split (by omega)
   exact ⟨X,Y,Q,rfl,h2,h5,h3,h6,h7⟩
 rw [List.length_append,List.length_append] at hl
 have hkD : qcj (Dn ++ (X ++ (Y ++ Q))):=hk.perm hp
 obtain ⟨Z,p1,q1,r1⟩:=qzk g cl n (by omega) _ Dn X Y Q (Nat.le_refl _) (by omega) (by omega) qX qY (by simp;omega) hkD a (a + s) (a + 2 * s) ha (by omega) (by omega)
 have w1 : IntKind.i64.wrap ((a : Int) + (s : Int)) = ((a + s : Nat) : Int):=qmh (by omega)
 have w2 : IntKind.i64.wrap (2 * (s : Int)) = ((2 * s : Nat) : Int):=q8q (by omega)
 have w3 : IntKind.i64.wrap (((a + 2 * s : Nat) : Int) + ((2 * s : Nat) : Int)) = ((a + 2 * s + 2 * s : Nat) : Int):=qmh (by omega)
 unfold qbl at r1
 rw [← hD] at r1
 have hz:=p1.length_eq
 rw [List.length_append] at hz
 left
 refine ⟨(Dn ++ (Z ++ Q),a + 2 * s),?_,⟨Dn ++ Z,Q,by simp,?_,?_,hQ,?_⟩,by simp only;omega⟩
 ·simp only [qcp,h1,w1,w2,w3,r1,qv,Ev.exec,qb,qe,qc,qd6,qaj,Ev.evs,Ev.Opnd.ev,Ev.Env.get,Ev.Env.set,Ev.look,qaf,q66,qnk,qq,Ev.keep,qae,qw,qd,Ev.SObj.lo,qax,qbj,qfc,qg,↓qs,Ev.it1,↓reduceIte,zgc,zfe,Nat.reduceEqDiff,reduceCtorEq,zgv,zfc,zgx,zgu,zgy]
 ·simp;omega
 ·rw [List.append_assoc]
  refine (List.Perm.append_left Dn (p1.append_right Q)).trans ?_
  rw [List.append_assoc];exact hp
 ·intro t ht
  rw [List.append_assoc]
  exact hB _ (.more (by omega) q1 ht)
theorem qab8 (l D0 : List Evt) (hn : n = l.length) (hb : n < 2 ^ 58) (hk : qcj l) (hp0 : D0.Perm l) (hB0 : Blk leE 20 D0) :
  ∃ y,itB (exec (evL T) itL none qb4) (qq [0,1,2,6] true 1) ⟨[(0,.sl 0 g 0 n cl),(1,(ii n)),(2,(.fn (.func qr) [] [])),(6,(ii 20))],[]⟩ [.row 6 ((D0).map Evt.r) g] = some y ∧
   (y.1 = .exit 2 ∧ y.2.1.marks = [] ∧ ∃ l' : List Evt,y.2.2 = [.row 6 ((l').map Evt.r) g] ∧ l'.Perm l ∧ l'.Pairwise leE):=by
 have key:=qhe (f:=exec (evL T) itL none qb4) (s:=qq [0,1,2,6] true 1) (τ:=List Evt × Nat)
  (fun z => ⟨[(0,.sl 0 g 0 n cl),(1,(ii n)),(2,(.fn (.func qr) [] [])),(6,(ii z.2))],[]⟩) (fun z => [.row 6 ((z.1).map Evt.r) g]) (fun z => n - z.2)
  (fun z => z.1.Perm l ∧ 0 < z.2 ∧ Blk leE z.2 z.1)
  (fun y => y.1 = .exit 2 ∧ y.2.1.marks = [] ∧ ∃ l' : List Evt,y.2.2 = [.row 6 ((l').map Evt.r) g] ∧ l'.Perm l ∧ l'.Pairwise leE) ?_ (D0,20) ⟨hp0,by simp,hB0⟩
 ·exact key
 rintro ⟨D,s⟩ ⟨hp,hs,hB⟩
 simp only at hp hs hB ⊢
 have hl:=hp.length_eq
 by_cases c : s < n
 case neg =>
  have h1 : ¬ (s : Int) < (n : Int):=by omega
  right
  simp only [qb4,h1,Ev.exec,qb,qe,qc,qaj,Ev.Opnd.ev,Ev.Env.get,Ev.Env.set,Ev.look,ql,↓qs,Ev.it1,↓reduceIte,Nat.reduceEqDiff,reduceCtorEq,zgw,zfa,zgy]
  exact ⟨_,rfl,rfl,rfl,D,rfl,hp,hB.sorted (by omega)⟩
 have h1 : (s : Int) < (n : Int):=by omega
 obtain ⟨⟨y,e,σ⟩,k1,a,k2,k3,k4,k5,k6,k7,k8,Dn,Rs,k9,k10,k11,k12,k13,k14⟩:=qaa3 g cl n l D hn hb hk s hs c hp hB
 simp only at k1 k2 k3 k4 k5 k6 k7 k8 k9
 subst k2;subst k9
 have hl2:=k11.length_eq
 rw [List.length_append] at hl2
 have w1 : IntKind.i64.wrap ((a : Int) + (s : Int)) = ((a + s : Nat) : Int):=qmh (by omega)
 have w2 : IntKind.i64.wrap (2 * (s : Int)) = ((2 * s : Nat) : Int):=q8q (by omega)
 have w3 : IntKind.i64.wrap ((s : Int) * 2) = ((2 * s : Nat) : Int):=qaby (by omega)
 left
 by_cases c2 : a + s < n
 ·have h2 : ((a + s : Nat) : Int) < (n : Int):=by omega
  obtain ⟨X,Y,rfl,hX,qX,hY⟩:=k13.split (by omega)
  rw [List.length_append] at hl2 k12
  have hkD : qcj (Dn ++ (X ++ (Y ++ []))):=by rw [List.append_nil];exact hk.perm k11
  obtain ⟨Z,p1,q1,r1⟩:=qzk g cl n (by omega) _ Dn X Y [] (Nat.le_refl _) (by omega) (by omega) qX (hY.sorted (by omega)) (by simp;omega) hkD a (a + s) n k10 (by omega) (by omega)
  unfold qbl at r1
  simp only [zgn] at r1
  have hz:=p1.length_eq
  rw [List.length_append] at hz
  refine ⟨(Dn ++ Z,2 * s),?_,⟨(List.Perm.append_left Dn p1).trans k11,by simp only;omega,k14 _ (.last (by omega) q1)⟩,by simp only;omega⟩
  simp only [qb4,h1,h2,w1,w2,w3,k1,k3,k4,k5,k6,k7,k8,r1,qv,Ev.exec,qb,qe,qc,qd6,qaj,Ev.evs,Ev.Opnd.ev,Ev.Env.get,Ev.Env.set,Ev.look,qaf,q66,ql,qq,Ev.keep,qae,qw,qd,Ev.SObj.lo,qax,qbj,qfc,qg,↓qs,↓qan,Ev.it1,↓reduceIte,zga,zgb,zgc,zfe,Nat.reduceEqDiff,reduceCtorEq,zgv,zfc,zgx,zfd,zgu,zgy]
 ·have h2 : ¬ ((a + s : Nat) : Int) < (n : Int):=by omega
  refine ⟨(Dn ++ Rs,2 * s),?_,⟨k11,by simp only;omega,k14 _ (.last (by omega) (k13.sorted (by omega)))⟩,by simp only;omega⟩
  simp only [qb4,h1,h2,w1,w2,w3,k1,k3,k4,k5,k6,k7,k8,qv,Ev.exec,qb,qe,qc,qaj,Ev.Opnd.ev,Ev.Env.get,Ev.Env.set,Ev.look,qaf,q66,ql,qq,Ev.keep,qae,qw,qd,Ev.SObj.lo,qax,qbj,qfc,qg,↓qs,↓qan,Ev.it1,↓reduceIte,zga,zgb,zgc,zfe,Nat.reduceEqDiff,reduceCtorEq,zgv,zgw,zfc,zfa,zgx,zfd,zgu,zgy]
theorem qacw (l : List Evt) (hn : n = l.length) (hb : n < 2 ^ 58) (hk : qcj l) :
  ∃ l' : List Evt,l'.Perm l ∧ l'.Pairwise leE ∧ (evL T).call qbw [.sl 0 g 0 n cl,(ii n),(.fn (.func qr) [] [])] [.row 6 ((l).map Evt.r) g] = some (.tup [],[.row 6 ((l').map Evt.r) g]):=by
 obtain ⟨⟨y,e,σ⟩,k1,a,k2,k3,k4,k5,k6,k7,k8,Dn,Rs,k9,k10,k11,k12,k13⟩:=qacr g cl n l hn hb hk
 simp only at k1 k2 k3 k4 k5 k6 k7 k8 k9
 subst k2;subst k9
 have hl:=k11.length_eq
 rw [List.length_append] at hl
 obtain ⟨R',p1,q1,r1⟩:=qxq g cl n Dn Rs [] (by simp;omega) (by omega) (by rw [List.append_nil];exact hk.perm k11) a n k10 (by omega)
 simp only [zgn] at r1
 obtain ⟨⟨y',e',σ'⟩,l1,l2,l3,l',l4,l5,l6⟩:=qab8 g cl n l (Dn ++ R') hn hb hk ((List.Perm.append_left Dn p1).trans k11) (k13 _ (.last (by rw [p1.length_eq];omega) q1))
 simp only at l1 l2 l3 l4
 subst l2;subst l4
 refine ⟨l',l5,l6,?_⟩
 rw [qy qk3 qkw]
 simp only [qdy,k1,k3,k4,k5,k6,k7,k8,r1,l1,l3,qv,qn,Ev.exec,qb,qe,qc,qd6,qaj,Ev.evs,Ev.Opnd.ev,Ev.Env.get,Ev.Env.set,Ev.look,qo,qm,qak,Ev.kill,qai,qq,Ev.keep,qae,qw,qd,Ev.SObj.lo,qax,qa3,qbj,qfc,qg,↓qs,↓qan,↓reduceIte,zga,zgb,zgc,zfe,Nat.reduceAdd,Nat.reduceEqDiff,reduceCtorEq,zgv,zfc,zgx,zfd,zgu,zgy]
theorem q4z (l : List Evt) (hn : n = l.length) (hb : n < 2 ^ 58) (hk : qcj l) :
  ∃ l' : List Evt,l'.Perm l ∧ l'.Pairwise leE ∧ (evL T).call qay [.sl 0 g 0 n cl,(.fn (.func qr) [] [])] [.row 6 ((l).map Evt.r) g] = some (.tup [],[.row 6 ((l').map Evt.r) g]):=by
 obtain ⟨l',h1,h2,h3⟩:=qacw g cl n l hn hb hk
 refine ⟨l',h1,h2,?_⟩
 rw [qy qhb qg2]
 simp only [qb7,h3,qv,qn,Ev.exec,qb,qe,qc,qd6,qaj,Ev.evs,Ev.Opnd.ev,Ev.Env.get,Ev.Env.set,Ev.look,qo,qm,qak,Ev.kill,qai,qd,Ev.SObj.lo,qa3,qg,↓qs,↓reduceIte,zga,zgb,zgc,zfe,Nat.reduceAdd,Nat.reduceEqDiff,reduceCtorEq,zfc,zgx,zfd,zgy]
end
set_option maxRecDepth 10000
def sortL (l : List Evt) : List Evt:=l.mergeSort (fun a b => decide (qqr a b ≤ 0))
def qr1 (l : List Evt) : Prop:=l.Pairwise (fun a b => ¬ qqr a b = 0)
theorem qd0 (l : List Evt) : (sortL l).Perm l:=List.mergeSort_perm _ _
theorem qgc (l : List Evt) : (sortL l).Pairwise leE:=by
 have:=List.pairwise_mergeSort (le:=fun a b => decide (qqr a b ≤ 0)) (fun a b c h1 h2 => by simp only [decide_eq_true_eq] at h1 h2 ⊢;exact qlk a b c h1 h2) (fun a b => by
  have:=qpk a b
  by_cases h : qqr a b ≤ 0
  ·simp [h]
  ·have : qqr b a ≤ 0:=by omega
   simp [this]) l
 exact this.imp (fun h => of_decide_eq_true h)
theorem qr1.eq {l : List Evt} (h : qr1 l) {a b : Evt} (ha : a ∈ l) (hb : b ∈ l) (hc : qqr a b = 0) : a = b:=by
 obtain ⟨i,hi⟩:=List.mem_iff_getElem?.1 ha
 obtain ⟨j,hj⟩:=List.mem_iff_getElem?.1 hb
 obtain ⟨hi',rfl⟩:=List.getElem?_eq_some_iff.1 hi
 obtain ⟨hj',rfl⟩:=List.getElem?_eq_some_iff.1 hj
 rw [qr1,List.pairwise_iff_getElem] at h
 rcases Nat.lt_trichotomy i j with c | c | c
 ·exact absurd hc (h i j hi' hj' c)
 ·subst c;rfl
 ·exact absurd (by rw [qpk];omega) (h j i hj' hi' c)
theorem ql8 {l l' : List Evt} (hd : qr1 l) (hp : l'.Perm l) (hs : l'.Pairwise leE) : l' = sortL l:=by
 refine List.Perm.eq_of_pairwise (le:=leE) (fun a b ha hb h1 h2 => ?_) hs (qgc l) (hp.trans (qd0 l).symm)
 refine hd.eq (hp.mem_iff.1 ha) ((qd0 l).mem_iff.1 hb) ?_
 have:=qpk a b
 unfold leE at h1 h2;omega
theorem qr1.perm {l l' : List Evt} (h : qr1 l) (p : l'.Perm l) : qr1 l':=(p.pairwise_iff (fun {x y} hxy hyx => hxy (by rw [qpk];omega))).2 h
theorem qrh (l : List Evt) (c : Bool) (h : l.length ≤ 1000000) : (evL T).call qbi [(.fsl ((l).map Evt.r) c)] [] = some (.sl 0 0 0 l.length false,[.row 6 (l.map Evt.r) 0]):=by
 have h' : l.length * 64 ≤ 140737488355328:=by omega
 rw [q4j qi6]
 simp only [qss,qv,qem,h',qu,qg,qf,zgi,↓reduceIte,Nat.reduceLT,Nat.reducePow,zfc,zgx,zgy]
theorem quc (l : List Evt) (c : Bool) (h : l.length ≤ 1000000) (hk : qcj l) : ∃ l' : List Evt,l'.Perm l ∧ l'.Pairwise leE ∧ qaz (evL T) qeo [(.fsl ((l).map Evt.r) c)] = some (.fsl ((l').map Evt.r) false):=by
 have hcl:=qrh l c h
 obtain ⟨l',h1,h2,h3⟩:=q4z 0 false l.length l rfl (by omega) hk
 refine ⟨l',h1,h2,?_⟩
 have hlen:=h1.length_eq
 rw [qaz,qy qtp qr6]
 rw [← hlen] at hcl h3
 simp only [qkb,hcl,h3,qv,qn,Ev.exec,qb,qe,qc,qqj,qd6,q4e,Ev.AV.shift,qaj,Ev.evs,Ev.Opnd.ev,Ev.Env.get,Ev.Env.set,Ev.look,qo,qm,qab,qak,Ev.kill,qai,qd,qu,qbj,qg,qf,qfw,qea,qfm,qd8,qf1,q58,zgi,↓qs,↓reduceIte,zga,zgb,zgd,zgo,zgg,zgl,Nat.reduceEqDiff,Nat.reduceLT,reduceCtorEq,zgw,zfc,zfa,zgx,and_true,zfd,Nat.add_zero,Nat.le_refl,zgy]
theorem qtg (l : List Evt) (c : Bool) (h : l.length ≤ 1000000) (hk : qcj l) (hd : qr1 l) : qaz (evL T) qeo [(.fsl ((l).map Evt.r) c)] = some (.fsl ((sortL l).map Evt.r) false):=by
 obtain ⟨l',h1,h2,h3⟩:=quc l c h hk
 rw [← ql8 hd h1 h2];exact h3
theorem qms (x y : Evt) (hx : x.key.length ≤ 9223372036854775807) (hy : y.key.length ≤ 9223372036854775807) : qaz (evL T) qdr [(.agg [(ii x.time),(.fsl ((x.key).map qb8) false),(ii x.lp),(ii x.kind),(ii x.proc),(ii x.arg)]),(.agg [(ii y.time),(.fsl ((y.key).map qb8) false),(ii y.lp),(ii y.kind),(ii y.proc),(ii y.arg)])] = some (ii (qqr x y)):=by
 obtain ⟨xt,xk,xl,xi,xp,xa⟩:=x
 obtain ⟨yt,yk,yl,yi,yp,ya⟩:=y
 have hc:=qnm xt yt
 have hk:=qt0 xk yk false false hx hy
 have hz:=(qj5 xt yt).2.1
 rw [qaz,qy qre qqt]
 by_cases h : xt = yt
 ·subst h
  have h0 : qqh xt xt = 0:=hz.2 rfl
  simp only [qge,qqr,h0,hk,qah,qn,Ev.exec,qb,qe,qc,qa0,qaj,Ev.evs,Ev.Opnd.ev,Ev.Env.get,Ev.Env.set,Ev.look,qo,qh,qad,Ev.AV.cells,qx,Ev.AV.plain,qbn,qm,qab,qak,Ev.kill,qai,qd,qax,qu,qg,qf,qal,↓qs,↓reduceIte,zga,zgb,zfe,zgf,zgg,zgh,Nat.reduceAdd,Nat.reduceEqDiff,reduceCtorEq,zgw,zfc,zfa,zgx,ne_eq,zfb,not_true_eq_false,zff,zfd,zgy]
 ·have h0 : ¬ qqh xt yt = 0:=fun e => h (hz.1 e)
  simp only [qge,qqr,h0,h,hc,qn,Ev.exec,qb,qe,qc,qa0,qaj,Ev.evs,Ev.Opnd.ev,Ev.Env.get,Ev.Env.set,Ev.look,qo,qh,qad,Ev.AV.cells,qx,Ev.AV.plain,qbn,qm,qab,qak,Ev.kill,qai,qd,qax,qg,qf,qal,↓qs,↓reduceIte,zga,zgb,zfe,zgg,zgh,Nat.reduceAdd,Nat.reduceEqDiff,reduceCtorEq,zgv,zfc,zfa,zgx,ne_eq,zfb,zff,zfd,zgy]
set_option maxRecDepth 10000
section
variable (l : List Evt) (c : Bool)
end
set_option maxRecDepth 10000
def q3j : Evt:=⟨0,[],0,0,0,0⟩
def qmq (l : List Evt) (b : Int) : List Evt × Evt × Bool:=match l with
 | [] => ([],q3j,false)
 | x :: r => if x.time < b then (r,x,true) else (x :: r,q3j,false)
theorem q0n (l : List Evt) (c : Bool) (b : Int) (hl : l.length ≤ 1000000) : ∃ c' : Bool,qaz (evL T) qic [(.fsl ((l).map Evt.r) c),(ii b)] = some (.tup [(.fsl (((qmq l b).1).map Evt.r) c'),(.agg [(ii ((qmq l b).2.1.time)),(.fsl (((qmq l b).2.1.key).map qb8) false),(ii ((qmq l b).2.1.lp)),(ii ((qmq l b).2.1.kind)),(ii ((qmq l b).2.1.proc)),(ii ((qmq l b).2.1.arg))]),(bb ((qmq l b).2.2))]):=by
 rw [qaz,qy qyl qw1]
 cases l with
 | nil =>
  refine ⟨c,?_⟩
  simp only [qj6,qmq,q3j,List.map_nil,Int.lt_irrefl,qn,Ev.exec,qb,qe,qc,qaj,Ev.Opnd.ev,Ev.Env.get,Ev.Env.set,Ev.Env.unset,Ev.look,qo,qh,qad,qgp,Ev.AV.cells,qx,Ev.AV.plain,qau,qm,qab,qak,Ev.kill,qai,qd,qax,qbe,qa3,qu,qg,qf,qaa,qal,↓qs,↓reduceIte,zga,zgb,zgd,zgc,zgo,zfe,zgf,zgg,List.drop_nil,zgl,zgn,zgj,Nat.reduceAdd,Nat.reduceEqDiff,Int.cast_ofNat_Int,reduceCtorEq,zgw,zfc,zfa,zgx,ne_eq,zfb,zff,zfd,Nat.le_refl,zgy]
  try rfl
 | cons x r =>
  have hcl:=qrh r c (by simp at hl;omega)
  have h1 : (1 : Int) ≤ ((r.length + 1 : Nat) : Int):=by omega
  have htk : (r.map Evt.r).take r.length = r.map Evt.r:=List.take_of_length_le (by simp)
  obtain ⟨xt,xk,xl,xi,xp,xa⟩:=x
  have h0 : ((r.length + 1 : Nat) : Int) > 0:=by omega
  by_cases h : xt < b
  ·refine ⟨false,?_⟩
   simp only [qj6,qmq,zgr,List.map_cons,Evt.r,h0,h1,h,hcl,htk,Int.le_refl,Nat.add_sub_cancel,imp_self,qah,qv,qem,qn,Ev.exec,qb,qe,qc,qqj,q4e,Ev.AV.shift,qaj,Ev.evs,Ev.Opnd.ev,Ev.Env.get,Ev.Env.set,Ev.look,qo,qfx,qh,qad,Ev.AV.cells,qx,Ev.AV.plain,ql,qau,qm,qab,qak,Ev.kill,qai,qd,qax,qbe,qa3,qu,qbj,qg,qf,qa8,qal,qsu,qfw,qea,qfm,qd8,qf1,zgi,↓qs,↓reduceIte,zga,zgb,zgd,zge,zgc,zgo,zfe,zgf,zgg,List.drop_nil,zgm,zgl,zgn,zgj,zgh,Nat.reduceAdd,Nat.reduceEqDiff,Nat.reduceLT,Int.reduceLE,Int.reduceToNat,reduceCtorEq,zgv,zgw,zfc,Bool.and_true,zfa,zgx,and_true,ne_eq,zfb,zff,zfd,Nat.le_refl,Option.isSome_none,zgy]
   try rfl
  ·refine ⟨c,?_⟩
   simp only [qj6,qmq,q3j,List.map_cons,Evt.r,h0,h,qah,qv,qn,Ev.exec,qb,qe,qc,qaj,Ev.Opnd.ev,Ev.Env.get,Ev.Env.set,Ev.look,qo,qh,qad,qgp,Ev.AV.cells,qx,Ev.AV.plain,ql,qau,qm,qab,qak,Ev.kill,qai,qd,qax,qbe,qa3,qu,qg,qf,qaa,qag,qal,zgi,↓qs,↓reduceIte,zga,zgb,zgd,zgc,zgo,zfe,zgf,zgg,List.drop_nil,zgl,zgn,zgj,zgh,Nat.reduceAdd,Nat.reduceEqDiff,Int.reduceLE,Int.reduceToNat,reduceCtorEq,zgv,zgw,zfc,zfa,zgx,ne_eq,zfb,zff,zfd,Nat.le_refl,zgy]
   try rfl
theorem q4v (l : List Evt) (c : Bool) (b : Int) (hl : l.length ≤ 1000000) : ∃ c' : Bool,qaz (evL T) qkj [(.fsl ((l).map Evt.r) c),(ii b)] = some (.tup [(.fsl (((qmq l b).1).map Evt.r) c'),(.agg [(ii ((qmq l b).2.1.time)),(.fsl (((qmq l b).2.1.key).map qb8) false),(ii ((qmq l b).2.1.lp)),(ii ((qmq l b).2.1.kind)),(ii ((qmq l b).2.1.proc)),(ii ((qmq l b).2.1.arg))]),(bb ((qmq l b).2.2))]):=by
 rw [qaz,qy q3e q1z]
 cases l with
 | nil =>
  refine ⟨c,?_⟩
  simp only [ql9,qmq,q3j,List.map_nil,qn,Ev.exec,qb,qe,qc,qaj,Ev.Opnd.ev,Ev.Env.get,Ev.Env.set,Ev.Env.unset,Ev.look,qo,qh,qad,qgp,Ev.AV.cells,qx,Ev.AV.plain,qam,qm,qab,qak,Ev.kill,qai,qd,qax,qbe,qa3,qu,qg,qf,qaa,qal,↓qs,↓reduceIte,zga,zgb,zgd,zgc,zgo,zfe,zgf,zgg,List.drop_nil,zgl,zgn,zgj,Nat.reduceAdd,Nat.reduceEqDiff,Int.cast_ofNat_Int,reduceCtorEq,zgv,zfc,Bool.true_eq_false,zgx,ne_eq,zfb,zff,zfd,Nat.le_refl,zgy]
  try rfl
 | cons x r =>
  have h1 : (1 : Int) ≤ ((r.length + 1 : Nat) : Int):=by omega
  have hb : (0 + r.length) * 64 ≤ 140737488355328:=by simp at hl;omega
  have hb' : r.length * 64 ≤ 140737488355328:=by simp at hl;omega
  have htk : (r.map Evt.r).take r.length = r.map Evt.r:=List.take_of_length_le (by simp)
  obtain ⟨xt,xk,xl,xi,xp,xa⟩:=x
  have h0 : ¬ ((r.length + 1 : Nat) : Int) = 0:=by omega
  by_cases h : xt < b
  ·refine ⟨false,?_⟩
   have h' : ¬ xt ≥ b:=by omega
   simp only [ql9,qmq,zgr,List.map_cons,Evt.r,h0,h1,h,h',hb',htk,Int.le_refl,Nat.add_sub_cancel,imp_self,qah,qv,qem,qn,Ev.exec,qb,qe,qc,qaj,Ev.Opnd.ev,Ev.Env.get,Ev.Env.set,Ev.look,qo,qfx,qh,qbs,qad,qfl,Ev.AV.cells,qx,Ev.AV.plain,qam,qcd,qm,qab,qak,Ev.kill,qai,qd,qax,qbe,qa3,qu,qbj,qg,qf,qa8,qal,qsu,qfw,qea,qfm,qd8,List.replicate_zero,zgi,↓qs,↓reduceIte,zga,zgb,zgd,zge,zgc,zgo,zfe,zgf,zgg,List.drop_nil,zgm,zgl,zgn,zgj,zgh,Nat.reduceAdd,Nat.reduceEqDiff,Nat.reduceMul,Nat.reduceLT,Nat.reduceLeDiff,Nat.reducePow,Int.reduceLE,Int.reduceToNat,reduceCtorEq,zgv,zgw,zfc,Bool.and_true,zfa,zgx,and_true,ne_eq,zfb,not_true_eq_false,zff,zfd,Nat.le_refl,Option.isSome_none,zgy,and_false]
   try rfl
  ·refine ⟨c,?_⟩
   have h' : xt ≥ b:=by omega
   simp only [ql9,qmq,q3j,List.map_cons,Evt.r,h0,h,h',qah,qv,qn,Ev.exec,qb,qe,qc,qaj,Ev.Opnd.ev,Ev.Env.get,Ev.Env.set,Ev.look,qo,qh,qad,qgp,Ev.AV.cells,qx,Ev.AV.plain,qam,qcd,qm,qab,qak,Ev.kill,qai,qd,qax,qbe,qa3,qu,qg,qf,qaa,qag,qal,zgi,↓qs,↓reduceIte,zga,zgb,zgd,zgc,zgo,zfe,zgf,zgg,List.drop_nil,zgl,zgn,zgj,zgh,Nat.reduceAdd,Nat.reduceEqDiff,Int.reduceLE,Int.reduceToNat,reduceCtorEq,zgv,zgw,zfc,zfa,zgx,ne_eq,zfb,zff,zfd,Nat.le_refl,zgy]
   try rfl
set_option maxRecDepth 10000
theorem qq0 (x y : Evt) (hx : x.key.length ≤ 9223372036854775807) (hy : y.key.length ≤ 9223372036854775807) :
  (evL T).call qr [(.agg [(ii x.time),(.fsl ((x.key).map qb8) false),(ii x.lp),(ii x.kind),(ii x.proc),(ii x.arg)]),(.agg [(ii y.time),(.fsl ((y.key).map qb8) false),(ii y.lp),(ii y.kind),(ii y.proc),(ii y.arg)])] [] = some ((ii (qqr x y)),[]):=by
 obtain ⟨xt,xk,xl,xi,xp,xa⟩:=x
 obtain ⟨yt,yk,yl,yi,yp,ya⟩:=y
 have hc:=qla xt yt
 have hk:=qk6 xk yk false false hx hy
 have hf:=qqa (qqh xt yt) (qly xk yk) true
 simp only [List.map_cons,List.map_nil,qb8] at hf
 rw [qy qi3 qio]
 simp only [qe6,show ∀ v : List AV,List.replicate 2 v = [v,v] from fun _ => rfl,hc,hk,hf,qqr,qah,qn,Ev.exec,qb,qe,qc,qa0,qaj,Ev.evs,Ev.Opnd.ev,Ev.Env.get,Ev.Env.set,Ev.look,qo,qh,qad,qfl,Ev.AV.cells,Ev.AV.uc,qx,Ev.AV.plain,qm,qab,qak,Ev.kill,qai,qd,qax,qu,qg,qf,qaa,qag,↓qs,↓reduceIte,zga,zgb,zfe,zgf,zgg,zgj,zgk,zgh,Nat.reduceAdd,Nat.reduceEqDiff,Nat.reduceMul,Nat.reduceLT,Nat.reduceLeDiff,Nat.reducePow,reduceCtorEq,zfc,zfa,zgx,ne_eq,zfb,zff,zfd,zgu,zgy]
section
variable (l : List Evt) (c : Bool) (x : Evt)
def At (l : List Evt) (x : Evt) (k : Nat) : Prop:=k ≤ l.length ∧ (∀ u,0 < k → l[k - 1]? = some u → qqr u x < 0) ∧ (∀ v,l[k]? = some v → 0 ≤ qqr v x)
theorem bs_L (hl : l.length ≤ 1000000) (hk : qcj l) (kx : x.key.length ≤ 9223372036854775807) :
  ∃ y,itB (exec (evL T) itL none qat) (qq [0,2,4,8,9,10] true 0) ⟨[(0,(.fsl ((l).map Evt.r) c)),(2,(.fn (.func qr) [] [])),(4,(.fptr [(ii x.time),(.fsl ((x.key).map qb8) false),(ii x.lp),(ii x.kind),(ii x.proc),(ii x.arg)])),(8,(ii l.length)),(9,(ii 0)),(10,(ii l.length))],[]⟩ [] = some y ∧
   ∃ k : Nat,y.1 = .exit 0 ∧ y.2.1.marks = [] ∧ y.2.2 = [] ∧ Ev.look y.2.1.vars 0 = some (.fsl ((l).map Evt.r) c) ∧ Ev.look y.2.1.vars 2 = some (.fn (.func qr) [] []) ∧ Ev.look y.2.1.vars 4 = some (.fptr [(ii x.time),(.fsl ((x.key).map qb8) false),(ii x.lp),(ii x.kind),(ii x.proc),(ii x.arg)]) ∧ Ev.look y.2.1.vars 8 = some (ii l.length) ∧ Ev.look y.2.1.vars 9 = some (ii k) ∧ At l x k:=by
 have key:=qhe (f:=exec (evL T) itL none qat) (s:=qq [0,2,4,8,9,10] true 0) (τ:=Nat × Nat) (fun a => ⟨[(0,(.fsl ((l).map Evt.r) c)),(2,(.fn (.func qr) [] [])),(4,(.fptr [(ii x.time),(.fsl ((x.key).map qb8) false),(ii x.lp),(ii x.kind),(ii x.proc),(ii x.arg)])),(8,(ii l.length)),(9,(ii a.1)),(10,(ii a.2))],[]⟩) (fun _ => []) (fun a => a.2 - a.1)
  (fun a => a.1 ≤ a.2 ∧ a.2 ≤ l.length ∧ (∀ u,0 < a.1 → l[a.1 - 1]? = some u → qqr u x < 0) ∧ (∀ v,l[a.2]? = some v → 0 ≤ qqr v x))
  (fun y => ∃ k : Nat,y.1 = .exit 0 ∧ y.2.1.marks = [] ∧ y.2.2 = [] ∧ Ev.look y.2.1.vars 0 = some (.fsl ((l).map Evt.r) c) ∧ Ev.look y.2.1.vars 2 = some (.fn (.func qr) [] []) ∧ Ev.look y.2.1.vars 4 = some (.fptr [(ii x.time),(.fsl ((x.key).map qb8) false),(ii x.lp),(ii x.kind),(ii x.proc),(ii x.arg)]) ∧ Ev.look y.2.1.vars 8 = some (ii l.length) ∧ Ev.look y.2.1.vars 9 = some (ii k) ∧ At l x k)
  ?_ (0,l.length) ⟨Nat.zero_le _,Nat.le_refl _,fun u h => by simp only at h;omega,fun v hv => by simp at hv⟩
 ·exact key
 rintro ⟨i,j⟩ ⟨h1,h2,h3,h4⟩
 simp only at h1 h2 h3 h4 ⊢
 by_cases hij : i < j
 case neg =>
  have c1 : ¬ (i : Int) < (j : Int):=by omega
  right
  simp only [qat,c1,Ev.exec,qb,qe,qc,qaj,Ev.Opnd.ev,Ev.Env.get,Ev.Env.set,Ev.look,ql,↓qs,Ev.it1,↓reduceIte,Nat.reduceEqDiff,reduceCtorEq,zgw,zfa,zgy]
  obtain rfl : i = j:=by omega
  exact ⟨_,rfl,i,rfl,rfl,rfl,rfl,rfl,rfl,rfl,rfl,by omega,h3,h4⟩
 obtain ⟨h,hh⟩ : ∃ h,h = (i + j) / 2:=⟨_,rfl⟩
 have c1 : (i : Int) < (j : Int):=by omega
 obtain ⟨y,hy⟩ : ∃ y,l[h]? = some y:=⟨_,List.getElem?_eq_getElem (by omega)⟩
 have w1 : IntKind.i64.wrap ((i : Int) + (j : Int)) = ((i + j : Nat) : Int):=qmh (by omega)
 have w2 : IntKind.u64.wrap ((i + j : Nat) : Int) = ((i + j : Nat) : Int):=qs0 (by omega)
 have w3:=qvq (i + j) h hh
 have w4 : IntKind.i64.wrap (h : Int) = (h : Int):=qsq (by omega)
 have w5 : IntKind.i64.wrap ((h : Int) + 1) = ((h + 1 : Nat) : Int):=qme (by omega)
 have ky : y.key.length ≤ 9223372036854775807:=hk y (List.mem_of_getElem? hy)
 have hc:=qq0 y x ky kx
 left
 by_cases hlt : qqr y x < 0
 ·refine ⟨(h + 1,j),?_,⟨by simp only;omega,h2,fun u _ hu => ?_,h4⟩,by simp only;omega⟩
  ·clear h3 h4
   obtain ⟨xt,xk,xl,xi,xp,xa⟩:=x
   obtain ⟨yt,yk,yl,yi,yp,ya⟩:=y
   simp only at hc
   simp only [qat,zgs,zgr,zgq,zgt,hy,c1,w1,w2,w3,w4,w5,hc,hlt,Evt.r,qv,qah,Ev.exec,qb,qe,qc,qk9,qaj,Ev.evs,Ev.Opnd.ev,Ev.Env.get,Ev.Env.set,Ev.look,qh,qad,qaf,ql,qq,Ev.keep,qae,qw,qd,qax,qu,qbt,qfc,qg,qf,↓qs,Ev.it1,↓reduceIte,zga,zgb,zgc,zfe,zgl,zgn,Nat.reduceAdd,Nat.reduceEqDiff,reduceCtorEq,zgv,zfc,zgx,zfd,Nat.le_refl,zgy]
  ·simp only [Nat.add_sub_cancel] at hu
   rw [hy] at hu;cases hu;exact hlt
 ·refine ⟨(i,h),?_,⟨by simp only;omega,by simp only;omega,h3,fun v hv => by simp only at hv;rw [hy] at hv;cases hv;omega⟩,by simp only;omega⟩
  clear h3 h4
  obtain ⟨xt,xk,xl,xi,xp,xa⟩:=x
  obtain ⟨yt,yk,yl,yi,yp,ya⟩:=y
  simp only at hc
  simp only [qat,zgs,zgr,zgq,zgt,hy,c1,w1,w2,w3,w4,hc,hlt,Evt.r,qv,qah,Ev.exec,qb,qe,qc,qk9,qaj,Ev.evs,Ev.Opnd.ev,Ev.Env.get,Ev.Env.set,Ev.look,qh,qad,qaf,ql,qq,Ev.keep,qae,qw,qd,qax,qu,qbt,qfc,qg,qf,↓qs,Ev.it1,↓reduceIte,zga,zgb,zgc,zfe,zgl,zgn,Nat.reduceAdd,Nat.reduceEqDiff,reduceCtorEq,zgv,zgw,zfc,zfa,zgx,zfd,Nat.le_refl,zgy]
theorem bs_ev (hl : l.length ≤ 1000000) (hk : qcj l) (kx : x.key.length ≤ 9223372036854775807) : ∃ (k : Nat) (b : Bool),At l x k ∧
  qaz (evL T) qar [(.fsl ((l).map Evt.r) c),(.agg [(ii x.time),(.fsl ((x.key).map qb8) false),(ii x.lp),(ii x.kind),(ii x.proc),(ii x.arg)]),(.fn (.func qr) [] [])] = some (.tup [(ii k),(bb b)]):=by
 obtain ⟨⟨y,e,σ⟩,h1,k,h2,h3,h4,h5,h6,h7,h8,h9,hA⟩:=bs_L l c x hl hk kx
 simp only at h2 h3 h4 h5 h6 h7 h8 h9
 subst h2;subst h4
 refine ⟨k,match l[k]? with | some v => decide (qqr v x = 0) | none => false,hA,?_⟩
 rw [qaz,qy qe5 qev]
 by_cases hkn : k < l.length
 ·obtain ⟨v,hv⟩ : ∃ v,l[k]? = some v:=⟨_,List.getElem?_eq_getElem hkn⟩
  have c1 : (k : Int) < (l.length : Int):=by omega
  have hc:=qq0 v x (hk v (List.mem_of_getElem? hv)) kx
  clear hA
  obtain ⟨xt,xk,xl,xi,xp,xa⟩:=x
  obtain ⟨yt,yk,yl,yi,yp,ya⟩:=v
  simp only at hc h1 h7
  simp only [qa1,zgs,zgr,zgq,zgt,h1,h3,h5,h6,h7,h8,h9,hv,c1,hc,Evt.r,qv,qah,qn,Ev.exec,qb,qe,qc,qk9,qaj,Ev.evs,Ev.Opnd.ev,Ev.Env.get,Ev.Env.set,Ev.look,qo,qh,qad,Ev.AV.cells,qx,Ev.AV.plain,qam,ql,qm,qab,qak,Ev.kill,qai,qq,Ev.keep,qae,qw,qd,qax,qa3,qu,qbt,qfc,qg,qf,qal,zgi,↓qs,↓qan,↓reduceIte,zga,zgb,zgc,zfe,zgl,zgn,Nat.reduceAdd,Nat.reduceEqDiff,reduceCtorEq,zgv,zfc,zgx,ne_eq,zfb,zff,zfd,Nat.le_refl,zgy]
 ·have c1 : ¬ (k : Int) < (l.length : Int):=by omega
  have hv : l[k]? = none:=List.getElem?_eq_none (by omega)
  clear hA
  obtain ⟨xt,xk,xl,xi,xp,xa⟩:=x
  simp only at h1 h7
  simp only [qa1,h1,h3,h8,h9,hv,c1,qv,qah,qn,Ev.exec,qb,qe,qc,qaj,Ev.Opnd.ev,Ev.Env.get,Ev.Env.set,Ev.Env.unset,Ev.look,qo,Ev.AV.cells,qx,Ev.AV.plain,ql,qm,qab,qak,Ev.kill,qai,qq,Ev.keep,qae,qw,qd,qax,qa3,qu,qbt,qfc,qg,qf,qal,zgi,↓qs,↓qan,↓reduceIte,zga,zgb,zfe,Nat.reduceAdd,Nat.reduceEqDiff,reduceCtorEq,zgw,zfc,zfa,zgx,ne_eq,zfb,zff,zfd,zgy]
theorem qwt (hl : l.length ≤ 1000000) (hk : qcj l) (kx : x.key.length ≤ 9223372036854775807) : ∃ k : Nat,At l x k ∧
  qaz (evL T) qft [(.fsl ((l).map Evt.r) c),(.agg [(ii x.time),(.fsl ((x.key).map qb8) false),(ii x.lp),(ii x.kind),(ii x.proc),(ii x.arg)])] = some (.fsl ((l.take k ++ x :: l.drop k).map Evt.r) false):=by
 obtain ⟨k,b,hA,hb⟩:=bs_ev l c x hl hk kx
 refine ⟨k,hA,?_⟩
 have hcl:=qrh l c hl
 have hkl : k ≤ l.length:=hA.1
 have ok1:=qem [x]
 have ok2:=qem l
 have hb2 : (l.length + 1) * 64 ≤ 2 ^ 47:=by omega
 have hins : (evL T).call qbr [.sl 0 0 0 l.length false,(ii k),.fsl [x.r] true] [.row 6 (l.map Evt.r) 0] = some (.sl 0 2 0 (l.length + 1) false,[.row 6 ((l.take k ++ x :: l.drop k).map Evt.r) 2]):=by
  rw [evL_ins qiq qix]
  simp only [insF,zgd,zgr]
  rw [if_pos ⟨trivial,trivial,trivial,by omega,by omega,by simp,by omega,hkl,ok1,by rw [List.take_of_length_le (by simp)];exact ok2,hb2⟩]
  rw [List.map_append,List.map_cons,List.map_take,List.map_drop,List.take_of_length_le (l:=l.map Evt.r) (i:=l.length) (by simp)]
  rfl
 have htk : ((l.take k ++ x :: l.drop k).map Evt.r).take (l.length + 1) = (l.take k ++ x :: l.drop k).map Evt.r:=List.take_of_length_le (by simp;omega)
 have hlen : l.length + 1 ≤ (l.take k ++ x :: l.drop k).length:=by simp;omega
 rw [qaz,qy qvz qux]
 clear hA
 generalize l.take k ++ x :: l.drop k = R at *
 obtain ⟨xt,xk,xl,xi,xp,xa⟩:=x
 simp only [Evt.r] at hins
 simp only at hb
 simp only [qlt,hb,hcl,hins,htk,hlen,qv,qah,qn,Ev.exec,qb,qe,qc,qa0,qqj,qd6,q4e,Ev.AV.shift,qaj,Ev.evs,Ev.Opnd.ev,Ev.Env.get,Ev.Env.set,Ev.look,qo,qh,qad,qfl,Ev.AV.cells,qx,Ev.AV.plain,qm,qab,qak,Ev.kill,qai,qd,qax,qbe,qu,qbj,qfc,qg,qf,qfw,qea,qfm,qd8,qf1,List.replicate_one,zgi,↓qs,↓reduceIte,zga,zgb,zgd,zge,zgc,zgo,zfe,zgg,zgl,zgj,Nat.reduceAdd,Nat.reduceEqDiff,Nat.reduceMul,Nat.reduceLT,Nat.reduceLeDiff,Nat.reducePow,reduceCtorEq,zgw,zfc,zfa,zgx,and_true,ne_eq,zfb,zff,zfd,Nat.add_zero,zgu,Nat.le_refl,zgy]
end
set_option maxRecDepth 10000
theorem qkc (n : Nat) : ∀ (a b : List (List AV)),qhl n (a ++ b) = (qhl n a && qhl n b)
 | [],b => by simp [qaa]
 | x :: a,b => by rw [List.cons_append,qag,qag,qkc n a b,Bool.and_assoc]
theorem q5h (l : List Int) (c : Bool) (h : l.length ≤ 100000) : (evL T).call qfq [(.fsl ((l).map qb8) c)] [] = some (.sl 0 0 0 l.length false,[.row 1 (l.map qb8) 0]):=by
 have h' : l.length * 8 ≤ 140737488355328:=by omega
 rw [q4j qpx]
 simp only [qss,qah,qacv,h',zgu,qu,qg,qf,zgi,↓reduceIte,Nat.reducePow,zfc,zgx,zgu,zgy]
theorem q23 (l : List Int) (c : Bool) (n : Int) (h : l.length ≤ 100000) : qaz (evL T) qi5 [(.fsl ((l).map qb8) c),(ii n)] = some (.fsl ((l ++ [n]).map qb8) false):=by
 have h' : (l.length + 1) * 8 ≤ 140737488355328:=by omega
 have htl : List.take l.length (l.map qb8) = l.map qb8:=List.take_of_length_le (by simp)
 have htk : ∀ e : List AV,List.take (l.length + 1) (l.map qb8 ++ [e]) = l.map qb8 ++ [e]:=fun e => List.take_of_length_le (by simp)
 have hr : (l ++ [n]).map qb8 = l.map qb8 ++ [[(ii n)]]:=by rw [List.map_append];rfl
 rw [qaz,qy q1r qx2]
 rw [hr]
 simp only [qn3,q5h l c h,h',htl,htk,qkc,qah,qn,Ev.exec,qb,qe,qc,qqj,q4e,Ev.AV.shift,qaj,qnz,Ev.evs,Ev.Opnd.ev,Ev.Env.get,Ev.Env.set,Ev.look,qo,qbs,qfl,Ev.AV.cells,Ev.AV.uc,qx,Ev.AV.plain,qm,qab,qak,Ev.kill,qai,qd,qax,qu,qbj,qg,qf,qaa,qag,qbh,qa8,qfw,qea,qfm,qd8,qf1,List.replicate_one,zgi,↓qs,↓reduceIte,zga,zgb,zgp,zgd,zgo,zgg,zgl,zgj,Nat.reduceAdd,Nat.reduceEqDiff,Nat.reduceMul,Nat.reduceLT,Nat.reduceLeDiff,Nat.reducePow,reduceCtorEq,zgv,zgw,zfc,zfa,zgx,and_true,ne_eq,zfb,zff,zfd,Nat.add_zero,zgu,Nat.le_refl,zgy]
set_option maxRecDepth 10000
def Fits (l : List Evt) (x : Evt) (k : Nat) : Prop:=k ≤ l.length ∧ (∀ u,0 < k → l[k - 1]? = some u → leE u x) ∧ (∀ v,l[k]? = some v → leE x v)
theorem At.fits {l : List Evt} {x : Evt} {k : Nat} (h : At l x k) : Fits l x k :=
 ⟨h.1,fun u h0 hu => q2h u x (h.2.1 u h0 hu),fun v hv => by have:=h.2.2 v hv;have:=qpk v x;unfold leE;omega⟩
theorem Fits.perm {l : List Evt} {x : Evt} {k : Nat} : (l.take k ++ x :: l.drop k).Perm (x :: l):=by
 have:=List.perm_middle (a:=x) (l₁:=l.take k) (l₂:=l.drop k)
 rwa [List.take_append_drop] at this
theorem Fits.sorted {l : List Evt} {x : Evt} {k : Nat} (h : Fits l x k) (hs : l.Pairwise leE) : (l.take k ++ x :: l.drop k).Pairwise leE:=by
 obtain ⟨h1,h2,h3⟩:=h
 have hlen : (l.take k).length = k:=by rw [List.length_take];omega
 refine qnd qlk (by rwa [List.take_append_drop]) (fun u hu => ?_) (fun v hv => ?_)
 ·rw [hlen] at hu
  rw [List.getElem?_take] at hu
  split at hu
  ·exact h2 u (by omega) hu
  ·cases hu
 ·rw [List.getElem?_drop] at hv
  exact h3 v hv
theorem Fits.eq {l : List Evt} {x : Evt} {k : Nat} (h : Fits l x k) (hs : l.Pairwise leE) (hd : qr1 (x :: l)) : l.take k ++ x :: l.drop k = sortL (x :: l) :=
 ql8 hd Fits.perm (h.sorted hs)
section
variable (l : List Evt) (c : Bool) (x : Evt)
theorem qx8 (hl : l.length ≤ 1000000) (hk : qcj l) (kx : x.key.length ≤ 9223372036854775807) (hs : l.Pairwise leE) (hd : qr1 (x :: l)) : qaz (evL T) qft [(.fsl ((l).map Evt.r) c),(.agg [(ii x.time),(.fsl ((x.key).map qb8) false),(ii x.lp),(ii x.kind),(ii x.proc),(ii x.arg)])] = some (.fsl ((sortL (x :: l)).map Evt.r) false):=by
 obtain ⟨k,hA,h⟩:=qwt l c x hl hk kx
 rw [hA.fits.eq hs hd] at h
 exact h
theorem refIns_L (hl : l.length ≤ 1000000) (hk : qcj l) (hkx : x.key.length ≤ 9223372036854775807) :
  ∃ y,itB (exec (evL T) itL none qin) (qq [0,3,5] true 0) ⟨[(0,(.fsl ((l).map Evt.r) c)),(3,(.fptr [(ii x.time),(.fsl ((x.key).map qb8) false),(ii x.lp),(ii x.kind),(ii x.proc),(ii x.arg)])),(5,(ii l.length))],[]⟩ [] = some y ∧
   ∃ k : Nat,y.1 = .exit 0 ∧ y.2.1.marks = [] ∧ y.2.2 = [] ∧ Ev.look y.2.1.vars 0 = some (.fsl ((l).map Evt.r) c) ∧ Ev.look y.2.1.vars 3 = some (.fptr [(ii x.time),(.fsl ((x.key).map qb8) false),(ii x.lp),(ii x.kind),(ii x.proc),(ii x.arg)]) ∧ Ev.look y.2.1.vars 5 = some (ii k) ∧ Fits l x k:=by
 refine qhe (τ:=Nat) (fun k => ⟨[(0,(.fsl ((l).map Evt.r) c)),(3,(.fptr [(ii x.time),(.fsl ((x.key).map qb8) false),(ii x.lp),(ii x.kind),(ii x.proc),(ii x.arg)])),(5,(ii k))],[]⟩) (fun _ => []) (fun k => k)
  (fun k => k ≤ l.length ∧ (∀ v,l[k]? = some v → leE x v)) _ ?_ l.length ⟨Nat.le_refl _,fun v hv => by simp at hv⟩
 rintro k ⟨h1,h2⟩
 cases k with
 | zero =>
  right
  simp only [qin,Int.lt_irrefl,gt_iff_lt,Ev.exec,qb,qe,qc,qaj,Ev.Opnd.ev,Ev.Env.get,Ev.Env.set,Ev.Env.unset,Ev.look,qau,↓qs,Ev.it1,↓reduceIte,Nat.reduceEqDiff,Int.cast_ofNat_Int,reduceCtorEq,zgw,zfa,zgy]
  exact ⟨_,rfl,0,rfl,rfl,rfl,rfl,rfl,rfl,Nat.zero_le _,fun u h => by omega,h2⟩
 | succ j =>
  obtain ⟨y,hy⟩ : ∃ y,l[j]? = some y:=⟨_,List.getElem?_eq_getElem (by omega)⟩
  obtain ⟨k,hk1⟩ : ∃ k,k = j + 1:=⟨_,rfl⟩
  rw [← hk1] at h1 h2 ⊢
  have c1 : (k : Int) > 0:=by omega
  have w1 : IntKind.i64.wrap ((k : Int) - 1) = (j : Int):=qs9 hk1 (by omega)
  have hc:=qms y x (hk y (List.mem_of_getElem? hy)) hkx
  by_cases hlt : qqr y x > 0
  ·left
   refine ⟨j,?_,⟨by omega,fun v hv => by rw [hy] at hv;cases hv;exact (by have:=qpk y x;unfold leE;omega)⟩,by omega⟩
   clear h2
   obtain ⟨xt,xk,xl,xi,xp,xa⟩:=x
   obtain ⟨yt,yk,yl,yi,yp,ya⟩:=y
   simp only at hc
   simp only [qin,zgs,zgr,zgq,zgt,hy,c1,w1,hc,hlt,Evt.r,qv,qah,Ev.exec,qb,qe,qc,qa0,qaj,Ev.evs,Ev.Opnd.ev,Ev.Env.get,Ev.Env.set,Ev.look,qh,qad,qcl,qau,qq,Ev.keep,qae,qw,qd,qax,qbe,qu,qbt,qg,qf,↓qs,Ev.it1,↓reduceIte,zga,zgb,zgc,zfe,Nat.reduceAdd,Nat.reduceEqDiff,reduceCtorEq,zgv,zfc,zgx,zfd,Nat.le_refl,zgy]
  ·right
   have hle : leE y x:=by unfold leE;omega
   have h3 : ∀ u,0 < k → l[k - 1]? = some u → leE u x:=fun u _ hu => by
    rw [hk1,Nat.add_sub_cancel,hy] at hu;cases hu;exact hle
   have hF : Fits l x k:=⟨h1,h3,h2⟩
   clear hle h3 h2
   obtain ⟨xt,xk,xl,xi,xp,xa⟩:=x
   obtain ⟨yt,yk,yl,yi,yp,ya⟩:=y
   simp only at hc
   simp only [qin,zgs,zgr,zgq,zgt,hy,c1,w1,hc,hlt,Evt.r,qah,Ev.exec,qb,qe,qc,qa0,qaj,Ev.evs,Ev.Opnd.ev,Ev.Env.get,Ev.Env.set,Ev.look,qh,qad,qcl,qau,qax,qbe,qu,qg,qf,↓qs,Ev.it1,↓reduceIte,zga,zgb,zgc,zfe,Nat.reduceAdd,Nat.reduceEqDiff,reduceCtorEq,zgv,zgw,zfc,zfa,zfd,Nat.le_refl,zgy]
   exact ⟨_,rfl,k,rfl,rfl,rfl,rfl,rfl,rfl,hF⟩
theorem q0k (hl : l.length ≤ 1000000) (hk : qcj l) (hkx : x.key.length ≤ 9223372036854775807) : ∃ k : Nat,Fits l x k ∧ qaz (evL T) qfh [(.fsl ((l).map Evt.r) c),(.agg [(ii x.time),(.fsl ((x.key).map qb8) false),(ii x.lp),(ii x.kind),(ii x.proc),(ii x.arg)])] = some (.fsl ((l.take k ++ x :: l.drop k).map Evt.r) false):=by
 obtain ⟨⟨y,e,σ⟩,k1,k,k2,k3,k4,k5,k6,k7,hF⟩:=refIns_L l c x hl hk hkx
 simp only at k1 k2 k3 k4 k5 k6 k7
 subst k2;subst k4
 refine ⟨k,hF,?_⟩
 have hkl:=hF.1
 clear hF
 obtain ⟨A,B,rfl,hA⟩ : ∃ A B,l = A ++ B ∧ A.length = k:=⟨l.take k,l.drop k,(List.take_append_drop _ _).symm,by simp;omega⟩
 subst hA
 rw [List.take_left' rfl,List.drop_left' rfl]
 have c1 : (A.length : Int) ≤ ((A ++ B).length : Int):=by rw [List.length_append];omega
 have c2 : (0 : Int) ≤ (A.length : Int):=by omega
 have tk : List.take A.length ((A ++ B).map Evt.r) = A.map Evt.r:=by rw [List.map_append];exact List.take_left' (by simp)
 have dr : List.drop A.length ((A ++ B).map Evt.r) = B.map Evt.r:=by rw [List.map_append];exact List.drop_left' (by simp)
 have hlen : A.length + B.length ≤ 1000000:=by rw [List.length_append] at hl;exact hl
 have b1 : A.length * 64 ≤ 140737488355328:=by omega
 have b2 : (A.length + 1) * 64 ≤ 140737488355328:=by omega
 have b3 : (A.length + 1 + B.length) * 64 ≤ 140737488355328:=by omega
 have tb : List.take ((A ++ B).length - A.length) (B.map Evt.r) = B.map Evt.r:=List.take_of_length_le (by simp)
 have ta : List.take A.length (A.map Evt.r) = A.map Evt.r:=List.take_of_length_le (by simp)
 have ta2 : ∀ e : List AV,List.take (A.length + 1) (A.map Evt.r ++ [e]) = A.map Evt.r ++ [e]:=fun e => List.take_of_length_le (by simp)
 have ta3 : ∀ e : List AV,List.take (A.length + 1 + B.length) (A.map Evt.r ++ e :: B.map Evt.r) = A.map Evt.r ++ e :: B.map Evt.r:=fun e => List.take_of_length_le (by simp;omega)
 have okAB : qc5 6 ((A ++ B).map Evt.r) = true:=qem _
 have goal' : (AV.fsl ((A ++ x :: B).map Evt.r) false) = AV.fsl (A.map Evt.r ++ x.r :: B.map Evt.r) false:=by rw [List.map_append,List.map_cons]
 have n1 : ∀ p q : Nat,p + 1 + q ≤ p + (q + 1):=fun p q => by omega
 have n2 : ∀ q : Nat,1 + q ≤ q + 1:=fun q => by omega
 rw [goal']
 clear hl hk
 rw [qaz,qy qxz qwl]
 rcases A with _ | ⟨a,A⟩ <;> rcases B with _ | ⟨b,B⟩
 ·obtain ⟨xt,xk,xl,xi,xp,xa⟩:=x
  simp only [zgl,zgb,List.map_nil,Int.ofNat_zero] at *
  simp only [qih,k1,k3,k5,k6,k7,c1,tk,dr,b1,b2,ta2,okAB,imp_self,Nat.sub_zero,Int.toNat_zero,Evt.r,qah,qn,Ev.exec,qb,qe,qc,qaj,qnz,Ev.Opnd.ev,Ev.Env.get,Ev.Env.set,Ev.look,qo,qfx,qh,qbs,qad,qfl,Ev.AV.cells,qx,Ev.AV.plain,qm,qab,qak,Ev.kill,qai,qq,Ev.keep,qae,qw,qd,qax,qu,qbt,qbj,qg,qf,qaa,qa8,qal,qfw,qfm,qd8,List.replicate_one,↓qs,↓qan,↓reduceIte,zga,zgb,zgd,zgc,zgo,zfe,zgg,zgl,zgj,Nat.reduceAdd,Nat.reduceEqDiff,Nat.reduceMul,Nat.reduceLT,Nat.reduceLeDiff,Nat.reducePow,Int.cast_ofNat_Int,reduceCtorEq,zgv,zgw,zfc,Bool.and_true,zfa,zgx,and_true,ne_eq,zfb,zff,zfd,Nat.add_zero,zgu,Nat.le_refl,Option.isSome_some,Option.isSome_none,zgy,implies_true]
 ·generalize hRB : List.map Evt.r (b :: B) = RB at *
  have nB : ¬ RB = []:=by rw [← hRB];simp
  have lB : RB.length = (b :: B).length:=by rw [← hRB];simp
  have oB : qc5 6 RB = true:=by rw [← hRB];exact qem _
  have loB : ∀ n,qhl n RB = true:=fun n => by rw [← hRB];exact qv n _
  obtain ⟨xt,xk,xl,xi,xp,xa⟩:=x
  simp only [zgl,zgb,List.map_nil,Int.ofNat_zero,hRB,Nat.sub_zero,zgg] at *
  generalize hrb : (b :: B).length = nb at *
  simp only [qih,zgr,k1,k3,k5,k6,k7,c1,c2,tk,b1,b2,b3,ta,ta2,ta3,tb,okAB,imp_self,n2,Int.le_refl,Nat.sub_zero,nB,lB,loB,qbh,Int.toNat_zero,Evt.r,qah,qn,Ev.exec,qb,qe,qc,qaj,qnz,Ev.Opnd.ev,Ev.Env.get,Ev.Env.set,Ev.look,qo,qfx,qh,qbs,qad,qfl,Ev.AV.cells,qx,Ev.AV.plain,qm,qab,qak,Ev.kill,qai,qq,Ev.keep,qae,qw,qd,qax,qu,qbt,qbj,qg,qf,qbh,qa8,qal,qfw,qea,qfm,qd8,List.replicate_one,↓qs,↓qan,↓reduceIte,zga,zgb,zgd,zgc,zgo,zfe,zgg,zgm,zgl,zgj,Nat.reduceAdd,Nat.reduceEqDiff,Nat.reduceMul,Nat.reduceLT,Nat.reduceLeDiff,Nat.reducePow,reduceCtorEq,zgv,zgw,zfc,Bool.and_true,zfa,zgx,and_true,ne_eq,zfb,zff,zfd,Nat.add_zero,zgu,Nat.le_refl,Option.isSome_some,Option.isSome_none,zgy,implies_true]
 ·generalize hRA : List.map Evt.r (a :: A) = RA at *
  have nA : ¬ RA = []:=by rw [← hRA];simp
  have lA : RA.length = (a :: A).length:=by rw [← hRA];simp
  have oA : qc5 6 RA = true:=by rw [← hRA];exact qem _
  have loA : ∀ n,qhl n RA = true:=fun n => by rw [← hRA];exact qv n _
  obtain ⟨xt,xk,xl,xi,xp,xa⟩:=x
  simp only [zgn,zgb,List.map_nil,hRA,Nat.add_zero,Nat.sub_self] at *
  generalize hra : (a :: A).length = na at *
  simp only [qih,zgr,k1,k3,k5,k6,k7,c1,c2,tk,dr,b1,b2,ta2,tb,okAB,imp_self,Int.le_refl,Nat.sub_zero,nA,lA,loA,qbh,zfe,qkc,Evt.r,qah,qn,Ev.exec,qb,qe,qc,qaj,qnz,Ev.Opnd.ev,Ev.Env.get,Ev.Env.set,Ev.look,qo,qfx,qh,qbs,qad,qfl,Ev.AV.cells,qx,Ev.AV.plain,qm,qab,qak,Ev.kill,qai,qq,Ev.keep,qae,qw,qd,qax,qu,qbt,qbj,qg,qf,qaa,qag,qbh,qa8,qfw,qea,List.replicate_one,↓qs,↓qan,↓reduceIte,zga,zgb,zgp,zgd,zgc,zgo,zfe,zgg,zgl,zgj,Nat.reduceAdd,Nat.reduceEqDiff,Nat.reduceMul,Nat.reduceLT,Nat.reduceLeDiff,Nat.reducePow,Int.reduceToNat,reduceCtorEq,zgv,zgw,zfc,Bool.and_true,zfa,zgx,and_true,ne_eq,zfb,zff,zfd,Nat.add_zero,zgu,Nat.le_refl,Option.isSome_some,Option.isSome_none,zgy,implies_true]
 ·generalize hRA : List.map Evt.r (a :: A) = RA at *
  generalize hRB : List.map Evt.r (b :: B) = RB at *
  have nA : ¬ RA = []:=by rw [← hRA];simp
  have nB : ¬ RB = []:=by rw [← hRB];simp
  have lA : RA.length = (a :: A).length:=by rw [← hRA];simp
  have lB : RB.length = (b :: B).length:=by rw [← hRB];simp
  have oA : qc5 6 RA = true:=by rw [← hRA];exact qem _
  have oB : qc5 6 RB = true:=by rw [← hRB];exact qem _
  have loA : ∀ n,qhl n RA = true:=fun n => by rw [← hRA];exact qv n _
  have loB : ∀ n,qhl n RB = true:=fun n => by rw [← hRB];exact qv n _
  generalize hra : (a :: A).length = na at *
  generalize hrb : (b :: B).length = nb at *
  generalize (a :: A) ++ (b :: B) = AB at *
  obtain ⟨xt,xk,xl,xi,xp,xa⟩:=x
  simp only [qih,zgr,k1,k3,k5,k6,k7,c1,c2,tk,dr,b1,b2,b3,ta,ta2,ta3,tb,okAB,imp_self,n1,List.append_assoc,Int.le_refl,Nat.sub_zero,nA,nB,lA,lB,oA,oB,loA,loB,qkc,Evt.r,qv,qah,qn,Ev.exec,qb,qe,qc,qaj,qnz,Ev.Opnd.ev,Ev.Env.get,Ev.Env.set,Ev.look,qo,qfx,qh,qbs,qad,qfl,Ev.AV.cells,qx,Ev.AV.plain,qm,qab,qak,Ev.kill,qai,qq,Ev.keep,qae,qw,qd,qax,qu,qbt,qbj,qg,qf,qag,qbh,qa8,qfw,qea,List.replicate_one,zgi,↓qs,↓qan,↓reduceIte,zga,zgb,zgp,zgd,zgc,zgo,zfe,zgg,zgm,zgl,zgj,Nat.reduceAdd,Nat.reduceEqDiff,Nat.reduceMul,Nat.reduceLT,Nat.reduceLeDiff,Nat.reducePow,Int.reduceToNat,reduceCtorEq,zgv,zgw,zfc,Bool.and_true,zfa,zgx,and_true,ne_eq,zfb,zff,zfd,zgu,Nat.le_refl,Option.isSome_some,Option.isSome_none,zgy,implies_true]
theorem qqf (hl : l.length ≤ 1000000) (hk : qcj l) (kx : x.key.length ≤ 9223372036854775807) (hs : l.Pairwise leE) (hd : qr1 (x :: l)) : qaz (evL T) qfh [(.fsl ((l).map Evt.r) c),(.agg [(ii x.time),(.fsl ((x.key).map qb8) false),(ii x.lp),(ii x.kind),(ii x.proc),(ii x.arg)])] = some (.fsl ((sortL (x :: l)).map Evt.r) false):=by
 obtain ⟨k,hA,h⟩:=q0k l c x hl hk kx
 rw [hA.eq hs hd] at h
 exact h
end
set_option maxRecDepth 10000
theorem qr1.sub {l m : List Evt} (h : qr1 m) (s : l.Sublist m) : qr1 l:=List.Pairwise.sublist s h
theorem q39 {l : List Evt} (hd : qr1 l) (hs : l.Pairwise leE) : l = sortL l:=ql8 hd (List.Perm.refl _) hs
theorem qvp {l m : List Evt} (hd : qr1 m) (hp : l.Perm m) : sortL l = sortL m:=ql8 hd ((qd0 l).trans hp) (qgc l)
theorem ql3 (l : List Evt) : (sortL l).length = l.length:=(qd0 l).length_eq
theorem qcj.sortL {l : List Evt} (h : qcj l) : qcj (sortL l):=fun x hx => h x ((qd0 l).mem_iff.1 hx)
section
variable (l m : List Evt) (c d : Bool)
end
def qd9 (l : List Evt) (k : List Int) : List Evt × Bool:=(l.eraseP (fun e => decide (e.key = k)),l.any (fun e => decide (e.key = k)))
section
variable (l : List Evt) (c : Bool) (k : List Int) (d : Bool)
theorem q6c {i : Nat} {x : Evt} (h : l[i]? = some x) (hx : x.key = k) (hb : ∀ (j : Nat) (z : Evt),j < i → l[j]? = some z → ¬ z.key = k) : qd9 l k = (l.take i ++ l.drop (i + 1),true):=by
 unfold qd9
 have hany : l.any (fun e => decide (e.key = k)) = true:=List.any_eq_true.2 ⟨x,List.mem_of_getElem? h,by simpa using hx⟩
 rw [hany]
 obtain ⟨hi,hxe⟩:=List.getElem?_eq_some_iff.1 h
 have hsplit : l = l.take i ++ x :: l.drop (i + 1):=by
  rw [← hxe];simp
 congr 1
 conv => lhs;rw [hsplit]
 rw [List.eraseP_append_right _ (fun z hz => by
  obtain ⟨j,hj⟩:=List.mem_iff_getElem?.1 hz
  rw [List.getElem?_take] at hj
  split at hj
  ·simpa using hb j z (by omega) hj
  ·cases hj)]
 rw [List.eraseP_cons_of_pos (by simpa using hx)]
theorem q0x (h : ∀ x ∈ l,¬ x.key = k) : qd9 l k = (l,false):=by
 unfold qd9
 rw [List.eraseP_of_forall_not (fun x hx => by simpa using h x hx)]
 congr 1
 rw [List.any_eq_false]
 exact fun x hx => by simpa using h x hx
theorem q77 (hl : l.length ≤ 1000000) (hk : qcj l) (kk : k.length ≤ 9223372036854775807) :
  ∃ y,itB (exec (evL T) itL none qfz) (qq [0,1,6] true 0) ⟨[(0,(.fsl ((l).map Evt.r) c)),(1,(.fsl ((k).map qb8) d)),(6,(ii 0))],[]⟩ [] = some y ∧
   ((y.1 = .exit 0 ∧ y.2.1.marks = [] ∧ y.2.2 = [] ∧ Ev.look y.2.1.vars 0 = some (.fsl ((l).map Evt.r) c) ∧ qd9 l k = (l,false)) ∨
    ∃ (g : Nat),y.1 = .ret ∧ y.2.1.marks = [] ∧ y.2.2 = [.row 6 ((qd9 l k).1.map Evt.r) g] ∧ Ev.look y.2.1.vars 4 = some (.sl 0 g 0 (qd9 l k).1.length false) ∧ Ev.look y.2.1.vars 5 = some (bb true) ∧ (qd9 l k).2 = true):=by
 have key:=qen (f:=exec (evL T) itL none qfz) (s:=qq [0,1,6] true 0) (α:=Unit)
  (fun i a => ⟨[(0,(.fsl ((l).map Evt.r) c)),(1,(.fsl ((k).map qb8) d)),(6,(ii i))],[]⟩) (fun i a => [])
  (fun i a => ∀ (j : Nat) (z : Evt),j < i → l[j]? = some z → ¬ z.key = k) l.length
  (fun y => ((y.1 = .exit 0 ∧ y.2.1.marks = [] ∧ y.2.2 = [] ∧ Ev.look y.2.1.vars 0 = some (.fsl ((l).map Evt.r) c) ∧ qd9 l k = (l,false)) ∨
    ∃ (g : Nat),y.1 = .ret ∧ y.2.1.marks = [] ∧ y.2.2 = [.row 6 ((qd9 l k).1.map Evt.r) g] ∧ Ev.look y.2.1.vars 4 = some (.sl 0 g 0 (qd9 l k).1.length false) ∧ Ev.look y.2.1.vars 5 = some (bb true) ∧ (qd9 l k).2 = true)) ?_ ?_ 0 () (Nat.zero_le _) (fun j z h => by omega)
 ·exact key
 ·rintro i _ hi hinv
  obtain ⟨x,hx⟩ : ∃ x,l[i]? = some x:=⟨_,List.getElem?_eq_getElem hi⟩
  have hi' : (i : Int) < (l.length : Int):=by omega
  have hw : IntKind.i64.wrap ((i : Int) + 1) = ((i + 1 : Nat) : Int):=qme (by omega)
  have hc:=qoe x.key k false d (hk x (List.mem_of_getElem? hx)) kk
  by_cases hxk : x.key = k
  ·have hE:=q6c l k hx hxk hinv
   rw [hE]
   refine .inr ?_
   obtain ⟨A,B,hAB,hA⟩ : ∃ A B,l = A ++ x :: B ∧ A.length = i:=⟨l.take i,l.drop (i + 1),by rw [← (List.getElem?_eq_some_iff.1 hx).2];simp,by simp;omega⟩
   have e1 : l.take i = A:=by rw [hAB];exact List.take_left' hA
   have e2 : l.drop (i + 1) = B:=by rw [hAB,← List.singleton_append,← List.append_assoc];exact List.drop_left' (by simp [hA])
   rw [e1,e2]
   have c1 : (i : Int) ≤ (l.length : Int):=by omega
   have c2 : (0 : Int) ≤ (i : Int):=by omega
   have c3 : ((i + 1 : Nat) : Int) ≤ (l.length : Int):=by omega
   have c4 : (0 : Int) ≤ ((i + 1 : Nat) : Int):=by omega
   have tk : List.take i (l.map Evt.r) = A.map Evt.r:=by rw [← List.map_take,e1]
   have dr : List.drop (i + 1) (l.map Evt.r) = B.map Evt.r:=by rw [← List.map_drop,e2]
   have hBl : l.length - (i + 1) = B.length:=by rw [← e2];simp
   have hlen : i + B.length ≤ 1000000:=by omega
   have tb : List.take (l.length - (i + 1)) (B.map Evt.r) = B.map Evt.r:=List.take_of_length_le (by simp;omega)
   have okl:=qem l
   have okA:=qem A
   have okB:=qem B
   have b1 : (0 + A.length) * 64 ≤ 140737488355328:=by omega
   have b2 : (A.length + B.length) * 64 ≤ 140737488355328:=by omega
   have b1' : A.length * 64 ≤ 140737488355328:=by omega
   have hd' : x.key = k:=hxk
   subst hA
   have ta : List.take A.length (A.map Evt.r) = A.map Evt.r:=List.take_of_length_le (by simp)
   have ta0 : List.take A.length (l.map Evt.r) = A.map Evt.r:=tk
   rw [decide_eq_true hxk] at hc
   clear hE hinv hAB e1 e2
   obtain ⟨xt,xk,xl,xi,xp,xa⟩:=x
   simp only at hc
   by_cases hB0 : B = []
   ·subst hB0
    simp only [zgn,List.map_nil,zgb,Nat.add_zero] at *
    simp only [qfz,zgr,zgq,zgt,hx,hi',hw,hc,c1,c2,c3,c4,tk,dr,tb,okl,okA,b2,Int.le_refl,Nat.sub_zero,imp_self,qbh,Int.toNat_zero,Evt.r,qah,Ev.exec,qb,qe,qc,qa0,qaj,qnz,Ev.evs,Ev.Opnd.ev,Ev.Env.get,Ev.Env.set,Ev.look,qfx,qh,qbs,qad,qfl,qaf,ql,qu,qg,qf,qbh,List.replicate_zero,zgi,↓qs,Ev.it1,↓reduceIte,zga,zgb,zgd,zgf,zgg,zgl,zgh,Nat.reduceAdd,Nat.reduceEqDiff,Nat.reduceMul,Nat.reduceLT,Nat.reduceLeDiff,Nat.reducePow,reduceCtorEq,zgv,zfc,Bool.and_true,zfa,zgx,and_true,ne_eq,zfb,not_true_eq_false,zff,zfd,Nat.add_zero,Nat.le_refl,Option.isSome_some,Option.isSome_none,zgy,implies_true,and_false]
    exact ⟨_,rfl,.inr ⟨0,rfl,rfl,rfl,rfl,rfl⟩⟩
   ·have hm : ¬ B.map Evt.r = []:=by simpa using hB0
    simp only [qfz,zgr,zgq,zgt,hx,hi',hw,hc,c1,c2,c3,c4,tk,ta,dr,tb,hm,okl,okA,okB,b2,b1',Int.le_refl,Nat.sub_zero,imp_self,Int.toNat_zero,Evt.r,qah,Ev.exec,qb,qe,qc,qa0,qaj,qnz,Ev.evs,Ev.Opnd.ev,Ev.Env.get,Ev.Env.set,Ev.look,qfx,qh,qbs,qad,qfl,qaf,ql,qu,qg,qf,List.replicate_zero,zgi,↓qs,Ev.it1,↓reduceIte,zga,zgb,zgp,zgd,zgf,zgg,zgl,zgj,zgh,Nat.reduceAdd,Nat.reduceEqDiff,Nat.reduceMul,Nat.reduceLT,Nat.reduceLeDiff,Nat.reducePow,reduceCtorEq,zgv,zfc,Bool.and_true,zfa,zgx,and_true,ne_eq,zfb,not_true_eq_false,zff,zfd,Nat.le_refl,Option.isSome_some,Option.isSome_none,zgy,implies_true,and_false]
    exact ⟨_,rfl,.inr ⟨1,rfl,rfl,by simp only [List.map_append],by simp only [Ev.look,reduceIte];try rfl,rfl⟩⟩
  ·refine .inl ⟨(),?_,fun j z hj hz => ?_⟩
   ·rw [decide_eq_false hxk] at hc
    clear hinv
    obtain ⟨xt,xk,xl,xi,xp,xa⟩:=x
    simp only at hc
    simp only [qfz,zgs,zgr,zgq,zgt,hx,hi',hw,hc,Evt.r,qv,qah,Ev.exec,qb,qe,qc,qa0,qaj,Ev.evs,Ev.Opnd.ev,Ev.Env.get,Ev.Env.set,Ev.look,qh,qad,qaf,ql,qq,Ev.keep,qae,qw,qd,qax,qu,qg,qf,zgi,↓qs,Ev.it1,↓reduceIte,zga,zgb,zfe,zgf,zgg,zgh,Nat.reduceAdd,Nat.reduceEqDiff,reduceCtorEq,zgv,zfc,zfa,zgx,zfd,zgy]
   ·rcases Nat.lt_or_ge j i with h1 | h1
    ·exact hinv j z h1 hz
    ·have : j = i:=by omega
     subst this
     rw [hx] at hz;cases hz;exact hxk
 ·rintro _ hinv
  simp only [qfz,Int.lt_irrefl,Ev.exec,qb,qe,qc,qaj,Ev.Opnd.ev,Ev.Env.get,Ev.Env.set,Ev.look,ql,zgi,↓qs,Ev.it1,↓reduceIte,Nat.reduceEqDiff,reduceCtorEq,zgw,zfa,zgy]
  exact ⟨_,rfl,.inl ⟨rfl,rfl,rfl,rfl,q0x l k fun x hx => by
   obtain ⟨j,hj⟩:=List.mem_iff_getElem?.1 hx
   exact hinv j x (List.getElem?_eq_some_iff.1 hj).1 hj⟩⟩
theorem q0j (hl : l.length ≤ 1000000) (hk : qcj l) (kk : k.length ≤ 9223372036854775807) : ∃ cf : Bool,qaz (evL T) qij [(.fsl ((l).map Evt.r) c),(.fsl ((k).map qb8) d)] = some (.tup [(.fsl (((qd9 l k).1).map Evt.r) cf),(bb ((qd9 l k).2))]):=by
 obtain ⟨⟨y,e,σ⟩,h1,h⟩:=q77 l c k d hl hk kk
 rcases h with ⟨h2,h3,h4,h5,h6⟩ | ⟨g,h2,h3,h4,h5,h6,h7⟩ <;> simp only at h2 h3 h4 h5 <;> subst h2 <;> subst h4
 ·rw [h6]
  refine ⟨c,?_⟩
  rw [qaz,qy qrs qqm]
  simp only [qlc,h1,h3,h5,qv,qah,qn,Ev.exec,qb,qe,qc,qaj,Ev.Opnd.ev,Ev.Env.get,Ev.Env.set,Ev.look,qo,qm,qab,qak,Ev.kill,qai,qq,Ev.keep,qae,qw,qd,qax,qa3,qu,qg,qf,qal,↓qs,↓qan,↓reduceIte,zga,zgb,zfe,Nat.reduceAdd,Nat.reduceEqDiff,reduceCtorEq,zfc,zgx,zfd,zgy]
 ·rw [h7]
  refine ⟨false,?_⟩
  rw [qaz,qy qrs qqm]
  simp only at h6
  have htk : ((qd9 l k).1.map Evt.r).take (qd9 l k).1.length = (qd9 l k).1.map Evt.r:=List.take_of_length_le (by simp)
  simp only [qlc,h1,h3,h5,h6,htk,qv,qah,qn,Ev.exec,qb,qe,qc,qaj,Ev.Opnd.ev,Ev.Env.get,Ev.Env.set,Ev.look,qo,qm,qab,qak,Ev.kill,qai,qq,Ev.keep,qae,qw,qd,qax,qa3,qu,qbj,qg,qf,qal,qsu,qfw,qea,qfm,qd8,zgi,↓qs,↓qan,↓reduceIte,zga,zgb,zgd,zgo,zfe,zgg,Nat.reduceAdd,Nat.reduceEqDiff,Nat.reduceLT,reduceCtorEq,zgw,zfc,Bool.and_true,zfa,zgx,and_true,zfd,Nat.le_refl,zgy]
end
set_option maxRecDepth 10000
theorem qxh {α : Type} [DecidableEq α] : ∀ {a b : List α},a.length = b.length → ((a.zip b).all (fun z => decide (z.1 = z.2)) = true ↔ a = b)
 | [],[],_ => by simp
 | x :: a,y :: b,h => by
  rw [List.zip_cons_cons,List.all_cons,Bool.and_eq_true,decide_eq_true_eq,qxh (a:=a) (b:=b) (by simpa using h),List.cons.injEq]
 | [],_ :: _,h => by simp at h
 | _ :: _,[],h => by simp at h
section
variable (a b : List Int) (c d : Bool)
theorem q2p (hab : a.length = b.length) (hl : a.length ≤ 9223372036854775807) :
  ∃ y,itB (exec (evL T) itL none qel) (qq [0,1,12,13] true 0) ⟨[(0,(.fsl ((a).map qb8) c)),(1,(.fsl ((b).map qb8) d)),(12,(ii a.length)),(13,(ii 0))],[]⟩ [] = some y ∧ ((a.zip b).all (fun z => decide (z.1 = z.2)) = true ∧ (y.1 = .exit 0 ∧ y.2.1.marks = [] ∧ y.2.2 = []) ∨
   (a.zip b).all (fun z => decide (z.1 = z.2)) = false ∧ ∃ x,(a.zip b).find? (fun z => !decide (z.1 = z.2)) = some x ∧ (y.1 = .ret ∧ y.2.1.marks = [] ∧ y.2.2 = [] ∧ Ev.look y.2.1.vars 4 = some (bb false))):=by
 have hzl : (a.zip b).length = a.length:=by rw [List.length_zip,← hab,Nat.min_self]
 refine qh8 (a.zip b) (fun i => ⟨[(0,(.fsl ((a).map qb8) c)),(1,(.fsl ((b).map qb8) d)),(12,(ii a.length)),(13,(ii i))],[]⟩) [] (fun z => decide (z.1 = z.2)) _ (fun _ y => _) ?_ ?_ ?_
 ·intro i x hi hx hp
  rw [hzl] at hi
  have hi' : (i : Int) < (a.length : Int):=by omega
  have hw : IntKind.i64.wrap ((i : Int) + 1) = ((i + 1 : Nat) : Int):=by rw [qas (by omega) (by omega)];simp
  obtain ⟨hxa,hxb⟩:=List.getElem?_zip_eq_some.1 hx
  have hp':=of_decide_eq_true hp
  simp only [qel,zgs,zgr,zgq,zgt,hxa,hxb,hi',hw,hp',qah,qb8,Ev.exec,qb,qe,qc,qaj,Ev.Opnd.ev,Ev.Env.get,Ev.Env.set,Ev.look,qh,qad,qaf,qbn,ql,qq,Ev.keep,qae,qw,qd,qax,qu,↓qs,Ev.it1,↓reduceIte,zga,zgb,zfe,zgh,Nat.reduceEqDiff,reduceCtorEq,zgv,zgw,zfc,zfa,zgx,ne_eq,not_true_eq_false,zfd,zgy]
 ·intro i x hi hx hp
  rw [hzl] at hi
  have hi' : (i : Int) < (a.length : Int):=by omega
  obtain ⟨hxa,hxb⟩:=List.getElem?_zip_eq_some.1 hx
  have hp' : ¬ x.1 = x.2:=of_decide_eq_false hp
  simp only [qel,zgs,zgr,zgq,zgt,hxa,hxb,hi',hp',qb8,Ev.exec,qb,qe,qc,qaj,Ev.Opnd.ev,Ev.Env.get,Ev.Env.set,Ev.look,qh,qad,qbn,ql,↓qs,Ev.it1,↓reduceIte,zga,zgb,zgh,Nat.reduceEqDiff,reduceCtorEq,zgv,zfa,ne_eq,zfb,zfd,zgy]
  exact ⟨_,rfl,rfl,rfl,rfl,rfl⟩
 ·rw [hzl]
  simp only [qel,Int.lt_irrefl,Ev.exec,qb,qe,qc,qaj,Ev.Opnd.ev,Ev.Env.get,Ev.Env.set,Ev.look,ql,↓qs,Ev.it1,↓reduceIte,Nat.reduceEqDiff,reduceCtorEq,zgw,zfa,zgy]
  exact ⟨_,rfl,rfl,rfl,rfl⟩
theorem qsj (hl : a.length ≤ 9223372036854775807) (hl2 : b.length ≤ 9223372036854775807) : qaz (evL T) qdc [(.fsl ((a).map qb8) c),(.fsl ((b).map qb8) d)] = some (bb (decide (a = b))):=by
 rw [qaz,qy qp8 qpg]
 by_cases hab : a.length = b.length
 ·have hab' : (a.length : Int) = (b.length : Int):=by omega
  obtain ⟨⟨y,e,σ⟩,k1,k2⟩:=q2p a b c d hab hl
  simp only at k2
  rcases k2 with ⟨k3,rfl,k4,rfl⟩ | ⟨k3,x,_,rfl,k4,rfl,k5⟩
  ·have : a = b:=(qxh hab).1 k3
   rw [hab'] at k1
   simp only [qej,this,qah,qn,Ev.exec,qb,qe,qc,qaj,Ev.Opnd.ev,Ev.Env.get,Ev.Env.set,Ev.look,qo,qbn,qm,qab,qak,qai,qq,Ev.keep,qae,qw,qd,qax,qu,zgi,↓qs,↓qan,↓reduceIte,zga,zgb,zgo,zfe,Nat.reduceAdd,Nat.reduceEqDiff,reduceCtorEq,zgv,zgw,zfc,zfa,zgx,and_true,ne_eq,not_true_eq_false,zfd,zgy]
   subst this
   simp only [k1,k4,Ev.look,Ev.kill,qax,qal,↓reduceIte,zgy]
  ·have : ¬ a = b:=fun h => by rw [(qxh hab).2 h] at k3;cases k3
   simp only [this]
   rw [hab'] at k1
   simp only [qej,hab',k1,k4,k5,qah,qn,Ev.exec,qb,qe,qc,qaj,Ev.Opnd.ev,Ev.Env.get,Ev.Env.set,Ev.look,qo,qbn,qm,qab,qak,Ev.kill,qai,qq,Ev.keep,qae,qw,qd,qax,qu,qal,zgi,↓qs,↓qan,↓reduceIte,zga,zgb,zfe,Nat.reduceAdd,Nat.reduceEqDiff,reduceCtorEq,zgw,zfc,zfa,zgx,ne_eq,not_true_eq_false,zfd,zgy]
 ·have hab' : ¬ (a.length : Int) = (b.length : Int):=by omega
  have : ¬ a = b:=fun h => hab (by rw [h])
  simp only [qej,hab',this,qn,Ev.exec,qb,qe,qc,qaj,Ev.Opnd.ev,Ev.Env.get,Ev.Env.set,Ev.look,qo,qbn,qm,qab,qak,Ev.kill,qai,qd,qax,qal,zgi,↓qs,↓reduceIte,zga,zgb,zfe,Nat.reduceAdd,Nat.reduceEqDiff,reduceCtorEq,zgv,zgw,zgx,ne_eq,zfb,zfd,zgy]
end
theorem qm0 (n : Nat) : ∀ (a b : qac),qd n (a ++ b) = (qd n a && qd n b)
 | [],b => by simp [qd]
 | x :: a,b => by simp only [zgm,qd,qm0 n a b,Bool.and_assoc]
theorem ql2 {n : Nat} : ∀ {σ : qac},qd n σ = true ↔ ∀ x ∈ σ,SObj.lo n x = true
 | [] => by simp [qd]
 | x :: a => by simp only [qd,Bool.and_eq_true,ql2 (σ:=a),List.mem_cons,forall_eq_or_imp]
theorem qmx {n : Nat} {σ : qac} (h : qd n σ = true) (i : Nat) {x : SObj} (hx : x.lo n = true) : qd n (σ.set i x) = true:=by
 rw [ql2] at h ⊢
 intro y hy
 rcases List.mem_or_eq_of_mem_set hy with hy | rfl
 ·exact h y hy
 ·exact hx
mutual
theorem q4d {n m : Nat} (h : n ≤ m) : ∀ (a : AV),a.lo n = true → a.lo m = true
 | .v _,_ => by simp only [AV.lo]
 | .agg cs,k => by simp only [AV.lo] at k ⊢;exact qq9 h cs k
 | .tup cs,k => by simp only [AV.lo] at k ⊢;exact qq9 h cs k
 | .fsl es _,k => by simp only [AV.lo] at k ⊢;exact qlg h es k
 | .fptr cs,k => by simp only [AV.lo] at k ⊢;exact qq9 h cs k
 | .sl o _ _ _ _,k => by simp only [AV.lo,decide_eq_true_eq] at k ⊢;omega
 | .ptr o _ _ _,k => by simp only [AV.lo,decide_eq_true_eq] at k ⊢;omega
 | .fn _ a b,k => by simp only [AV.lo,Bool.and_eq_true] at k ⊢;exact ⟨qq9 h a k.1,qq9 h b k.2⟩
 | .yld o,k => by simp only [AV.lo,decide_eq_true_eq] at k ⊢;omega
 | .mp o,k => by simp only [AV.lo,decide_eq_true_eq] at k ⊢;omega
theorem qq9 {n m : Nat} (h : n ≤ m) : ∀ (l : List AV),los n l = true → los m l = true
 | [],_ => by simp only [los]
 | a :: l,k => by simp only [los,Bool.and_eq_true] at k ⊢;exact ⟨q4d h a k.1,qq9 h l k.2⟩
theorem qlg {n m : Nat} (h : n ≤ m) : ∀ (es : List (List AV)),qhl n es = true → qhl m es = true
 | [],_ => by simp only [qhl]
 | a :: l,k => by simp only [qhl,Bool.and_eq_true] at k ⊢;exact ⟨qq9 h a k.1,qlg h l k.2⟩
end
theorem q1w {n m : Nat} (h : n ≤ m) : ∀ (l : List (Nat × AV)),qae n l = true → qae m l = true
 | [],_ => by simp only [qae]
 | (_,a) :: r,k => by simp only [qae,Bool.and_eq_true] at k ⊢;exact ⟨q4d h a k.1,q1w h r k.2⟩
theorem qt6 {n m : Nat} (h : n ≤ m) (o : SObj) (k : o.lo n = true) : o.lo m = true:=by
 cases o <;> simp only [SObj.lo] at k ⊢
 ·exact qlg h _ k
 ·exact q1w h _ k
theorem qma {n m : Nat} (h : n ≤ m) {σ : qac} (k : qd n σ = true) : qd m σ = true:=by
 rw [ql2] at k ⊢
 exact fun x hx => qt6 h x (k x hx)
set_option maxRecDepth 10000
def qgi : List (Int × AV):=[(1,.fn (.func qcr) [] []),(2,.fn (.func qcn) [] []),(3,.fn (.func qci) [] []),(4,.fn (.func qca) [] []),(5,.fn (.func qch) [] []),(6,.fn (.func qcy) [] []),(7,.fn (.func qcq) [] []),(8,.fn (.func qcx) [] [])]
section
variable (a0 a1 a2 : Int) (am : Nat) (x : Ex) (gp gc gg : Nat)
theorem qtc (i : Nat) (hi : x.ev.proc = i) (hp : i < x.procs.length) :
  (evL T).call qa2 [.ptr 5 0 0 0] [.row 4 [[(ii a0),(ii a1),.sl 2 0 0 am false,(ii a2)]] 0,.row 4 [[(ii 0),(ii 0),.fsl [] false,(ii 0)]] 0,.row 4 ((x.procs).map Pr.r) gp,.row 6 ((x.out).map Evt.r) gc,.row 1 ((x.gone).map qfy) gg,.row 14 [[(ii x.r0),(ii x.r1),.sl 2 gp 0 x.procs.length false,(ii x.sum),(ii x.ev.time),(.fsl ((x.ev.key).map qb8) false),(ii x.ev.lp),(ii x.ev.kind),(ii x.ev.proc),(ii x.ev.arg),.sl 3 gc 0 x.out.length false,(ii x.n),.sl 4 gg 0 x.gone.length false,(bb x.over)]] 0,.mp .i64 qgi] = some (.ptr 2 gp i 0,[.row 4 [[(ii a0),(ii a1),.sl 2 0 0 am false,(ii a2)]] 0,.row 4 [[(ii 0),(ii 0),.fsl [] false,(ii 0)]] 0,.row 4 ((x.procs).map Pr.r) gp,.row 6 ((x.out).map Evt.r) gc,.row 1 ((x.gone).map qfy) gg,.row 14 [[(ii x.r0),(ii x.r1),.sl 2 gp 0 x.procs.length false,(ii x.sum),(ii x.ev.time),(.fsl ((x.ev.key).map qb8) false),(ii x.ev.lp),(ii x.ev.kind),(ii x.ev.proc),(ii x.ev.arg),.sl 3 gc 0 x.out.length false,(ii x.n),.sl 4 gg 0 x.gone.length false,(bb x.over)]] 0,.mp .i64 qgi]):=by
 rw [qy qk1 qkk]
 simp only [qfa,hi,hp,zgs,zgr,qah,qap,qv,qbv,Nat.reduceLT,qn,Ev.exec,qb,qe,qc,qaj,Ev.Opnd.ev,Ev.Env.get,Ev.Env.set,Ev.look,qo,qh,qad,qm,qab,qak,Ev.kill,qai,qd,Ev.SObj.lo,qax,qu,qbj,qez,qg,qf,qaa,qag,↓qs,↓reduceIte,zga,zgb,zgd,zge,zgc,zfe,zgf,zgg,zgh,Nat.reduceAdd,Nat.reduceEqDiff,Nat.reduceLT,reduceCtorEq,zgv,zfc,zfa,zgx,zfd,Nat.add_zero,zgy]
theorem qacj (k p a : Int) : (evL T).call qcv [.ptr 5 0 0 0,(ii k),(ii p),(ii a)] [.row 4 [[(ii a0),(ii a1),.sl 2 0 0 am false,(ii a2)]] 0,.row 4 [[(ii 0),(ii 0),.fsl [] false,(ii 0)]] 0,.row 4 ((x.procs).map Pr.r) gp,.row 6 ((x.out).map Evt.r) gc,.row 1 ((x.gone).map qfy) gg,.row 14 [[(ii x.r0),(ii x.r1),.sl 2 gp 0 x.procs.length false,(ii x.sum),(ii x.ev.time),(.fsl ((x.ev.key).map qb8) false),(ii x.ev.lp),(ii x.ev.kind),(ii x.ev.proc),(ii x.ev.arg),.sl 3 gc 0 x.out.length false,(ii x.n),.sl 4 gg 0 x.gone.length false,(bb x.over)]] 0,.mp .i64 qgi] = some (.agg [(ii 0),.fsl [] false,(ii x.ev.lp),(ii k),(ii p),(ii a)],[.row 4 [[(ii a0),(ii a1),.sl 2 0 0 am false,(ii a2)]] 0,.row 4 [[(ii 0),(ii 0),.fsl [] false,(ii 0)]] 0,.row 4 ((x.procs).map Pr.r) gp,.row 6 ((x.out).map Evt.r) gc,.row 1 ((x.gone).map qfy) gg,.row 14 [[(ii x.r0),(ii x.r1),.sl 2 gp 0 x.procs.length false,(ii x.sum),(ii x.ev.time),(.fsl ((x.ev.key).map qb8) false),(ii x.ev.lp),(ii x.ev.kind),(ii x.ev.proc),(ii x.ev.arg),.sl 3 gc 0 x.out.length false,(ii x.n),.sl 4 gg 0 x.gone.length false,(bb x.over)]] 0,.mp .i64 qgi]):=by
 rw [qy qp9 qpi]
 simp only [qg3,qah,qap,qv,qbv,Nat.reduceLT,Nat.reduceLeDiff,qn,Ev.exec,qb,qe,qc,qaj,Ev.Opnd.ev,Ev.Env.get,Ev.Env.set,Ev.look,qo,qh,qad,qgp,Ev.AV.cells,Ev.AV.uc,qx,Ev.AV.plain,qm,qab,qak,Ev.kill,qai,qd,Ev.SObj.lo,qax,qbe,qu,qbj,qg,qf,qaa,qag,↓qs,↓reduceIte,zga,zgb,zgd,zge,zgc,zgo,zfe,zgf,zgg,List.drop_nil,zgm,zgl,zgn,zgj,zgk,zgh,Nat.reduceAdd,Nat.reduceEqDiff,Nat.reduceLT,Nat.reduceLeDiff,reduceCtorEq,zgv,zfc,zfa,zgx,ne_eq,zfb,zff,zfd,Nat.le_refl,zgy]
def qno (x : Ex) (d : Int) (gc : Nat) : Nat:=if w64 (x.ev.time + d) > 1152921504606846976 then gc else gc + 1
theorem qu2 (h : x.Small) (d : Int) (t0 lp k p a : Int) (ks : List Int) :
  (evL T).call qbx [.ptr 5 0 0 0,(ii d),.agg [(ii t0),(.fsl ((ks).map qb8) false),(ii lp),(ii k),(ii p),(ii a)]] [.row 4 [[(ii a0),(ii a1),.sl 2 0 0 am false,(ii a2)]] 0,.row 4 [[(ii 0),(ii 0),.fsl [] false,(ii 0)]] 0,.row 4 ((x.procs).map Pr.r) gp,.row 6 ((x.out).map Evt.r) gc,.row 1 ((x.gone).map qfy) gg,.row 14 [[(ii x.r0),(ii x.r1),.sl 2 gp 0 x.procs.length false,(ii x.sum),(ii x.ev.time),(.fsl ((x.ev.key).map qb8) false),(ii x.ev.lp),(ii x.ev.kind),(ii x.ev.proc),(ii x.ev.arg),.sl 3 gc 0 x.out.length false,(ii x.n),.sl 4 gg 0 x.gone.length false,(bb x.over)]] 0,.mp .i64 qgi] = some ((.fsl ((x.kid).map qb8) false),[.row 4 [[(ii a0),(ii a1),.sl 2 0 0 am false,(ii a2)]] 0,.row 4 [[(ii 0),(ii 0),.fsl [] false,(ii 0)]] 0,.row 4 (((x.create d ⟨t0,ks,lp,k,p,a⟩).procs).map Pr.r) gp,.row 6 (((x.create d ⟨t0,ks,lp,k,p,a⟩).out).map Evt.r) (qno x d gc),.row 1 (((x.create d ⟨t0,ks,lp,k,p,a⟩).gone).map qfy) gg,.row 14 [[(ii ((x.create d ⟨t0,ks,lp,k,p,a⟩).r0)),(ii ((x.create d ⟨t0,ks,lp,k,p,a⟩).r1)),.sl 2 gp 0 (x.create d ⟨t0,ks,lp,k,p,a⟩).procs.length false,(ii ((x.create d ⟨t0,ks,lp,k,p,a⟩).sum)),(ii ((x.create d ⟨t0,ks,lp,k,p,a⟩).ev.time)),(.fsl (((x.create d ⟨t0,ks,lp,k,p,a⟩).ev.key).map qb8) false),(ii ((x.create d ⟨t0,ks,lp,k,p,a⟩).ev.lp)),(ii ((x.create d ⟨t0,ks,lp,k,p,a⟩).ev.kind)),(ii ((x.create d ⟨t0,ks,lp,k,p,a⟩).ev.proc)),(ii ((x.create d ⟨t0,ks,lp,k,p,a⟩).ev.arg)),.sl 3 (qno x d gc) 0 (x.create d ⟨t0,ks,lp,k,p,a⟩).out.length false,(ii ((x.create d ⟨t0,ks,lp,k,p,a⟩).n)),.sl 4 gg 0 (x.create d ⟨t0,ks,lp,k,p,a⟩).gone.length false,(bb ((x.create d ⟨t0,ks,lp,k,p,a⟩).over))]] 0,.mp .i64 qgi]):=by
 have hk:=q23 x.ev.key false x.n h.key
 have hs : (x.out.length + 1) * 64 ≤ 140737488355328:=by have:=h.out;omega
 have htl : List.take x.out.length (x.out.map Evt.r) = x.out.map Evt.r:=List.take_of_length_le (by simp)
 have hlo : los 7 ([(ii x.r0),(ii x.r1),.sl 2 gp 0 x.procs.length false,(ii x.sum),(ii x.ev.time),(.fsl ((x.ev.key).map qb8) false),(ii x.ev.lp),(ii x.ev.kind),(ii x.ev.proc),(ii x.ev.arg),.sl 3 gc 0 x.out.length false,(ii x.n),.sl 4 gg 0 x.gone.length false,(bb x.over)]) = true:=by simp only [qah,Nat.reduceLT,qax,qu,qbj,qg,qf,Nat.reduceLT,zgv,zfc,zgy]
 rw [qy qoc qnj]
 unfold Ex.create qno Ex.kid
 by_cases ho : w64 (x.ev.time + d) > 1152921504606846976
 ·have ho' : IntKind.i64.wrap (x.ev.time + d) > 1152921504606846976:=ho
  simp only [ho,if_true]
  simp only [qek,hk,ho',qah,qap,qv,qbv,Nat.reduceLT,Nat.reduceLeDiff,qn,Ev.exec,qb,qe,qc,qa0,qaj,Ev.evs,Ev.Opnd.ev,Ev.Env.get,Ev.Env.set,Ev.look,qo,qh,qad,Ev.AV.cells,Ev.AV.uc,qx,Ev.AV.plain,qaf,qau,qm,qab,qak,Ev.kill,qai,qd,Ev.SObj.lo,qax,qu,qbj,qg,qf,qaa,qag,↓qs,↓reduceIte,zga,zgb,zgd,zge,zgc,zgo,zgf,zgg,List.drop_nil,zgm,zgl,zgn,zgj,zgk,zgh,Nat.reduceAdd,Nat.reduceEqDiff,Nat.reduceLT,Nat.reduceLeDiff,reduceCtorEq,zgv,zfc,zfa,zgx,ne_eq,zfb,zff,zfd,Nat.add_zero,Nat.le_refl,zgy]
  done
 ·have ho' : ¬ IntKind.i64.wrap (x.ev.time + d) > 1152921504606846976:=ho
  simp only [ho,if_false]
  have hr : ∀ e : Evt,(x.out ++ [e]).map Evt.r = x.out.map Evt.r ++ [e.r]:=fun e => by rw [List.map_append];rfl
  simp only [qek,hk,ho',hs,htl,hr,qkc,Evt.r,qah,qap,qv,qbv,Nat.reduceLT,Nat.reduceLeDiff,qn,Ev.exec,qb,qe,qc,qa0,qaj,qnz,Ev.evs,Ev.Opnd.ev,Ev.Env.get,Ev.Env.set,Ev.look,qo,qh,qbs,qad,qfl,Ev.AV.cells,Ev.AV.uc,qx,Ev.AV.plain,qaf,qau,qm,qab,qak,Ev.kill,qai,qd,Ev.SObj.lo,qax,qu,qbj,qg,qf,qaa,qag,qbh,qa8,List.replicate_one,zgi,↓qs,↓reduceIte,zga,zgb,zgp,zgd,zge,zgc,zgo,zfe,zgf,zgg,zgm,zgl,zgj,zgk,zgh,Nat.reduceAdd,Nat.reduceEqDiff,Nat.reduceMul,Nat.reduceLT,Nat.reduceLeDiff,Nat.reducePow,reduceCtorEq,zgv,zgw,zfc,zfa,zgx,ne_eq,zfb,zff,zfd,Nat.add_zero,zgu,Nat.le_refl,zgy]
  done
end
end Go.Proofs.YtbhhifdhlafklaaGreat.K
