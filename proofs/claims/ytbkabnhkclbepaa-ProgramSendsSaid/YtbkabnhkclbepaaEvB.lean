/- Part of the proofs about this seat's program (module EvB). -/
import Derived.Test.YtbkabnhkclbepaaEvA
set_option linter.unusedSectionVars false
set_option linter.unusedSimpArgs false
set_option linter.unusedVariables false
namespace Go.Ev
/-! Operations -/
inductive Opnd where
  | t (i : Nat)
  | c (a : AV)
  deriving Inhabited

inductive EqT where
  | one
  | parts (l : List (Nat × EqT))
  deriving Inhabited

inductive COp where
  | mv (x : Opnd)
  | pick (c a b : Opnd)
  | nilO (sz : Nat)
  | alloc (z : List AV)
  | box (x : Opnd)
  | boxF (x : Opnd)
  | build (z : List AV) (parts : List (Nat × Nat × Opnd))
  | bsl (z : List AV) (n : Nat) (parts : List (Nat × Opnd))
  | bslF (z : List AV) (n : Nat) (parts : List (Nat × Opnd))
  | ld (sz : Nat) (ag : Bool) (a : Opnd)
  | ldD (sz : Nat) (ag : Bool) (a : Opnd) (av : List Nat)
  | ldF (sz : Nat) (ag : Bool) (a : Opnd)
  | appZ (sz bytes : Nat) (s x : Opnd)
  | mkmap (k : IntKind)
  | buildO (z : List AV) (parts : List (Nat × Nat × Opnd)) (os : List (Nat × Nat))
  | mput (k : IntKind) (m key x : Opnd)
  | mget (ok : Bool) (k : IntKind) (z : AV) (m key : Opnd)
  | st (sz : Nat) (a x : Opnd)
  | nilck (x : Opnd)
  | bin (op : BinOp) (x y : Opnd)
  | eqs (neg : Bool) (ks : List Bool) (x y : Opnd)
  | eqb (neg : Bool) (x y : Opnd)
  | un (op : UnOp) (x : Opnd)
  | conv (k : IntKind) (x : Opnd)
  | mkfn (f : Fn) (first cap : List Opnd)
  | mksl (z : List AV) (bytes : Nat) (l c : Opnd)
  | slc (sz : Nat) (x : Opnd) (lo hi mx : Option Opnd)
  | slcS (x : Opnd) (lo hi : Option Opnd)
  | faddr (off : Nat) (x : Opnd)
  | fld (off sz : Nat) (ag : Bool) (x : Opnd)
  | iaddr (sz : Nat) (x i : Opnd)
  | iaddrA (n sz : Nat) (x i : Opnd)
  | idxS (x i : Opnd)
  | idxA (n sz : Nat) (ag : Bool) (x i : Opnd)
  | ext (k : Nat) (x : Opnd)
  | len (x : Opnd)
  | lenS (x : Opnd)
  | app (sz bytes : Nat) (s x : Opnd)
  | appN (sz bytes : Nat) (s x : Opnd)
  | appF (sz bytes : Nat) (s x : Opnd)
  | frzv (x : Opnd)
  | copy (sz : Nat) (d s : Opnd)
  | mm (mx : Bool) (x y : Opnd)
  deriving Inhabited

inductive Item' where
  | op (o : COp)
  | callP (k : Nat) (args : List Opnd)
  | callA (k : Nat) (args : List Opnd)
  | callI (k : Nat) (args : List Opnd)
  | callR (k : Nat) (args : List Opnd)
  | callF (k : Nat) (args : List Opnd)
  | callv (f : Opnd) (args : List Opnd)
  deriving Inhabited

structure COper where
  dst : Option Nat
  guard : Option (Nat × Bool)
  it : Item'
  deriving Inhabited

inductive CCode where
  | skip
  | region (ops : List COper)
  | seq (a b : CCode)
  | cond (c : Opnd) (thn els : CCode)
  | block (id : Nat) (body : CCode)
  | loop (live : List Nat) (trim : Bool) (body : CCode)
  | rangeFunc (f : Opnd) (live params : List Nat) (assign body : CCode)
  | exit (id : Nat)
  | ret
  deriving Inhabited

inductive CRes where
  | tmp (t : Nat)
  | cell (t sz : Nat) (ag : Bool)
  deriving Inhabited

structure CFunc where
  nargs : Nat
  ntmps : Nat
  results : List CRes
  body : CCode
  deriving Inhabited

structure Env where
  vars : List (Nat × AV)
  marks : List Nat
  deriving Inhabited

def look : List (Nat × AV) → Nat → Option AV
  | [], _ => none
  | (k, v) :: r, i => if k = i then some v else look r i

def Env.get (e : Env) (i : Nat) : Option AV := look e.vars i
def Env.set (e : Env) (d : Option Nat) (v : AV) : Env :=
  match d with
  | some k => ⟨(k, v) :: e.vars, e.marks⟩
  | none => e

def erase : List (Nat × AV) → Nat → List (Nat × AV)
  | [], _ => []
  | (k, v) :: r, i => if k = i then erase r i else (k, v) :: erase r i
/-- Nothing is known of a temporary any more. -/
def Env.forget (e : Env) (d : Option Nat) : Env :=
  match d with
  | some k => ⟨erase e.vars k, e.marks⟩
  | none => e
/-- An operation that is passed over: its temporary holds the empty tuple. -/
def Env.unset (e : Env) (d : Option Nat) : Env := e.set d (.tup [])

def Opnd.ev (e : Env) : Opnd → Option AV
  | .t i => e.get i
  | .c a => some a
def evs (e : Env) : List Opnd → Option (List AV)
  | [] => some []
  | x :: xs => (x.ev e).bind fun a => (evs e xs).bind fun as => some (a :: as)

inductive SObj where
  | row (sz : Nat) (es : List (List AV)) (g : Nat)
  | loop (env : Env) (params : List Nat) (assign body : CCode) (st : LoopState) (pend : Option (Option Nat))
  | defr
  | dead
  | mp (k : IntKind) (es : List (Int × AV))
  deriving Inhabited
abbrev Store := List SObj

/-- What lies in a cell: of a slice's capacity nothing is known. -/
def AV.uc : AV → AV
  | .fsl es _ => .fsl es false
  | .sl o g off len _ => .sl o g off len false
  | x => x
def AV.cells : AV → List AV
  | .agg cs => cs
  | x => [x.uc]
def AV.plain : AV → Bool
  | .v (.agg _) => false
  | .v (.tuple _) => false
  | .agg _ => false
  | .tup _ => false
  | _ => true
def plains : List AV → Bool
  | [] => true
  | a :: as => a.plain && plains as

mutual
/-- Every object that it names has a number below n. -/
def AV.lo (n : Nat) : AV → Bool
  | .v _ => true
  | .agg cs => los n cs
  | .tup cs => los n cs
  | .fsl es _ => loss n es
  | .fptr cs => los n cs
  | .sl o _ _ _ _ => decide (o < n)
  | .ptr o _ _ _ => decide (o < n)
  | .fn _ first cap => los n first && los n cap
  | .yld o => decide (o < n)
  | .mp o => decide (o < n)
def los (n : Nat) : List AV → Bool
  | [] => true
  | a :: as => a.lo n && los n as
def loss (n : Nat) : List (List AV) → Bool
  | [] => true
  | e :: es => los n e && loss n es
end
def varsLo (n : Nat) : List (Nat × AV) → Bool
  | [] => true
  | (_, a) :: r => a.lo n && varsLo n r
def marksLo (n : Nat) : List Nat → Bool
  | [] => true
  | k :: r => decide (k < n) && marksLo n r
def SObj.lo (n : Nat) : SObj → Bool
  | .row _ es _ => loss n es
  | .loop env .. => varsLo n env.vars
  | .defr => true
  | .dead => true
  | .mp _ _ => true
def storeLo (n : Nat) : Store → Bool
  | [] => true
  | o :: r => o.lo n && storeLo n r

mutual
def AV.shift (d : Nat) : AV → AV
  | .v x => .v x
  | .agg cs => .agg (shifts d cs)
  | .tup cs => .tup (shifts d cs)
  | .fsl es c => .fsl (shiftss d es) c
  | .fptr cs => .fptr (shifts d cs)
  | .sl o g off len c => .sl (o + d) g off len c
  | .ptr o g i off => .ptr (o + d) g i off
  | .fn f first cap => .fn f (shifts d first) (shifts d cap)
  | .yld o => .yld (o + d)
  | .mp o => .mp (o + d)
def shifts (d : Nat) : List AV → List AV
  | [] => []
  | a :: as => a.shift d :: shifts d as
def shiftss (d : Nat) : List (List AV) → List (List AV)
  | [] => []
  | e :: es => shifts d e :: shiftss d es
end

/-! What is handed back frozen -/
def omap {α β : Type} (f : α → Option β) : List α → Option (List β)
  | [] => some []
  | a :: as => (f a).bind fun b => (omap f as).bind fun bs => some (b :: bs)
def frz (σ : Store) : Nat → AV → Option AV
  | 0, a => if a.lo 0 = true then some a else none
  | d + 1, a => if a.lo 0 = true then some a else
    match a with
    | .v x => some (.v x)
    | .agg cs => (omap (frz σ d) cs).bind fun cs => some (.agg cs)
    | .tup cs => (omap (frz σ d) cs).bind fun cs => some (.tup cs)
    | .fsl es c => (omap (omap (frz σ d)) es).bind fun es => some (.fsl es c)
    | .fptr cs => (omap (frz σ d) cs).bind fun cs => some (.fptr cs)
    | .sl o g off len _ =>
      match σ[o]? with
      | some (.row _ es g') => if g = g' ∧ off + len ≤ es.length then (omap (omap (frz σ d)) ((es.drop off).take len)).bind fun es => some (.fsl es false) else none
      | _ => none
    | .ptr o g i off =>
      match σ[o]? with
      | some (.row _ es g') => if g = g' then (es[i]?).bind fun e => (omap (frz σ d) (e.drop off)).bind fun cs => some (.fptr cs) else none
      | _ => none
    | .fn f first cap => (omap (frz σ d) first).bind fun a => (omap (frz σ d) cap).bind fun b => some (.fn f a b)
    | .yld _ => none
    | .mp _ => none
end Go.Ev
