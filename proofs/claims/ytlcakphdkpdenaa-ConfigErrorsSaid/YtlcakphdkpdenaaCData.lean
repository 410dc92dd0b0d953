/- Part of the proofs about this seat's program (module CData). -/
import Derived.Test.YtlcakphdkpdenaaSTab
import Derived.Test.YtlcakphdkpdenaaEvX
set_option linter.unusedSectionVars false
set_option linter.unusedSimpArgs false
set_option linter.unusedVariables false
namespace Go.Proofs.Ytlcakphdkpdenaa.K
open Go.Ev
set_option linter.unusedSimpArgs false
set_option linter.unusedVariables false
/-! ### What the program's values are -/
def intC (n : Int) : List AV := [(.v (.int .i64 (n)))]
theorem int_lo (n : Nat) (x : Int) : los n (intC x) = true := rfl
theorem int_pl (x : Int) : (intC x).length = 1 ∧ plains (intC x) = true := ⟨rfl, rfl⟩
theorem ints_lo (n : Nat) (l : List Int) : loss n (l.map intC) = true := loss_map (int_lo n) l
theorem ints_ok (l : List Int) : okRows 1 (l.map intC) = true := okRows_map int_pl l
def keyC (l : List Int) : List AV := [(.fsl ((l).map intC) false)]
theorem key_lo (n : Nat) (l : List Int) : los n (keyC l) = true := by simp only [keyC, los, AV.lo, ints_lo, Bool.and_self]
theorem key_pl (l : List Int) : (keyC l).length = 1 ∧ plains (keyC l) = true := ⟨rfl, rfl⟩
theorem keys_lo (n : Nat) (l : List (List Int)) : loss n (l.map keyC) = true := loss_map (key_lo n) l
theorem keys_ok (l : List (List Int)) : okRows 1 (l.map keyC) = true := okRows_map key_pl l
structure OpI where
  code : Int
  a : Int
  b : Int
  c : Int
  deriving DecidableEq
def OpI.r (x : OpI) : List AV := [(.v (.int .i64 (x.code))), (.v (.int .i64 (x.a))), (.v (.int .i64 (x.b))), (.v (.int .i64 (x.c)))]
theorem op_lo (n : Nat) (x : OpI) : los n x.r = true := rfl
theorem op_pl (x : OpI) : x.r.length = 4 ∧ plains x.r = true := ⟨rfl, rfl⟩
theorem prog_lo (n : Nat) (l : List OpI) : loss n (l.map OpI.r) = true := loss_map (op_lo n) l
theorem prog_ok (l : List OpI) : okRows 4 (l.map OpI.r) = true := okRows_map op_pl l
def progC (p : List OpI) : List AV := [(.fsl ((p).map OpI.r) false)]
theorem progC_lo (n : Nat) (l : List OpI) : los n (progC l) = true := by simp only [progC, los, AV.lo, prog_lo, Bool.and_self]
theorem progC_pl (l : List OpI) : (progC l).length = 1 ∧ plains (progC l) = true := ⟨rfl, rfl⟩
theorem progs_lo (n : Nat) (l : List (List OpI)) : loss n (l.map progC) = true := loss_map (progC_lo n) l
structure Start where
  prog : Int
  time : Int
  deriving DecidableEq
def Start.r (x : Start) : List AV := [(.v (.int .i64 (x.prog))), (.v (.int .i64 (x.time)))]
theorem start_lo (n : Nat) (x : Start) : los n x.r = true := rfl
theorem starts_lo (n : Nat) (l : List Start) : loss n (l.map Start.r) = true := loss_map (start_lo n) l
def lpC (p : List Start) : List AV := [(.fsl ((p).map Start.r) false)]
theorem lpC_lo (n : Nat) (l : List Start) : los n (lpC l) = true := by simp only [lpC, los, AV.lo, starts_lo, Bool.and_self]
theorem lps_lo (n : Nat) (l : List (List Start)) : loss n (l.map lpC) = true := loss_map (lpC_lo n) l
structure Cfg where
  lps : List (List Start)
  progs : List (List OpI)
  look : Int
  fin : Int
  cap : Int
end Go.Proofs.Ytlcakphdkpdenaa.K
