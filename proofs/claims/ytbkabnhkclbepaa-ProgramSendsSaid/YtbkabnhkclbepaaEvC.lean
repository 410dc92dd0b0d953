/- Part of the proofs about this seat's program (module EvC). -/
import Derived.Test.YtbkabnhkclbepaaEvB
set_option linter.unusedSectionVars false
set_option linter.unusedSimpArgs false
set_option linter.unusedVariables false
namespace Go.Ev
def loadC (sz : Nat) (ag : Bool) (cs : List AV) : Option AV :=
  if ag = true then (if sz ≤ cs.length then some (.agg (cs.take sz)) else none) else cs.head?
/-- What a pointer's cells hold. -/
def cellsAt (σ : Store) : AV → Option (List AV)
  | .fptr cs => some cs
  | .ptr o g i off =>
    match σ[o]? with
    | some (.row _ es g') => if g = g' then (es[i]?).bind fun c => some (c.drop off) else none
    | _ => none
  | _ => none
/-- A slice's elements. -/
def content (σ : Store) : AV → Option (List (List AV))
  | .fsl es _ => some es
  | .sl o g off len _ =>
    match σ[o]? with
    | some (.row _ es g') => if g = g' ∧ off + len ≤ es.length then some ((es.drop off).take len) else none
    | _ => none
  | .v (.string s) => some (s.data.toList.map fun b => [.v (.int .u8 b.toNat)])
  | _ => none
def fillP (e : Env) : List AV → List (Nat × Nat × Opnd) → Option (List AV)
  | cs, [] => some cs
  | cs, (off, size, x) :: r => (x.ev e).bind fun a =>
    if a.cells.length = size ∧ off + size ≤ cs.length ∧ plains a.cells = true then fillP e (cs.take off ++ (a.cells ++ cs.drop (off + size))) r else none
def fillR (e : Env) (sz : Nat) : List (List AV) → List (Nat × Opnd) → Option (List (List AV))
  | es, [] => some es
  | es, (i, x) :: r => (x.ev e).bind fun a =>
    if a.cells.length = sz ∧ i < es.length ∧ plains a.cells = true then fillR e sz (es.set i a.cells) r else none
def okRows (sz : Nat) : List (List AV) → Bool
  | [] => true
  | e :: es => decide (e.length = sz) && (plains e && okRows sz es)
/-- 'true': a number; 'false': a bool. -/
def eqCells : List Bool → List AV → List AV → Option Bool
  | [], [], [] => some true
  | true :: ks, .v (.int k a) :: xs, .v (.int k' b) :: ys => if k = k' then (eqCells ks xs ys).bind fun t => some (a == b && t) else none
  | false :: ks, .v (.bool a) :: xs, .v (.bool b) :: ys => (eqCells ks xs ys).bind fun t => some (a == b && t)
  | _, _, _ => none
def evBin (op : BinOp) : AV → AV → Option AV
  | .v (.int k a), .v (.int k' b) =>
    match op with
    | .shl => if b < 0 then none else some (.v (.int k (k.wrap (a * 2 ^ (min b.toNat k.bits)))))
    | .shr => if b < 0 then none else some (.v (.int k (a.fdiv (2 ^ (min b.toNat k.bits)))))
    | op => if k = k' then
      match op with
      | .add => some (.v (.int k (k.wrap (a + b))))
      | .sub => some (.v (.int k (k.wrap (a - b))))
      | .mul => some (.v (.int k (k.wrap (a * b))))
      | .quo => if b = 0 then none else some (.v (.int k (k.wrap (a.tdiv b))))
      | .rem => if b = 0 then none else some (.v (.int k (a.tmod b)))
      | .and => some (.v (.int k (k.wrap (BitVec.ofInt k.bits a &&& BitVec.ofInt k.bits b).toNat)))
      | .or => some (.v (.int k (k.wrap (BitVec.ofInt k.bits a ||| BitVec.ofInt k.bits b).toNat)))
      | .xor => some (.v (.int k (k.wrap (BitVec.ofInt k.bits a ^^^ BitVec.ofInt k.bits b).toNat)))
      | .eql => some (.v (.bool (a == b)))
      | .neq => some (.v (.bool (a != b)))
      | .lss => some (.v (.bool (decide (a < b))))
      | .leq => some (.v (.bool (decide (a ≤ b))))
      | .gtr => some (.v (.bool (decide (a > b))))
      | .geq => some (.v (.bool (decide (a ≥ b))))
      | _ => none
      else none
  | .v (.string a), .v (.string b) =>
    match op with
    | .add => if a.size + b.size ≤ 2 ^ 62 then some (.v (.string (a ++ b))) else none
    | .eql => some (.v (.bool (a == b)))
    | .neq => some (.v (.bool (!(a == b))))
    | _ => none
  | _, _ => none
def optInt (e : Env) (d : Int) : Option Opnd → Option Int
  | none => some d
  | some x => (x.ev e).bind fun a => match a with | .v (.int _ n) => some n | _ => none

/-- What is appended to a slice of the function's own (or to one that has no room). -/
def appE (sz bytes : Nat) (a : AV) (xs : List (List AV)) (σ : Store) : Option (AV × Store) :=
  match a with
  | .sl o g off len c => if okRows sz xs = true then
    (match σ[o]? with
    | some (.row rs es g') =>
      if g = g' ∧ off = 0 ∧ rs = sz ∧ len ≤ es.length ∧ (len + xs.length) * bytes ≤ 2 ^ 47 then
        (if xs = [] then some (.sl o g off len c, σ)
        else some (.sl o (g + 1) 0 (len + xs.length) false, σ.set o (.row rs (es.take len ++ xs) (g + 1)))) else none
    | _ => none) else none
  | .fsl es true => if 0 < sz ∧ okRows sz (es ++ xs) = true ∧ (es.length + xs.length) * bytes ≤ 2 ^ 47 then
      (if xs = [] ∧ es ≠ [] then some (.fsl es true, σ) else some (.sl σ.length 0 0 (es.length + xs.length) false, σ ++ [.row sz (es ++ xs) 0])) else none
  | _ => none
/-- A slice of the function's own is given up. -/
def giveE (a : AV) (σ : Store) : Option (AV × Store) :=
  match a with
  | .sl o g off len _ =>
    match σ[o]? with
    | some (.row _ es g') => if g = g' ∧ off + len ≤ es.length then some (.fsl ((es.drop off).take len) false, σ.set o .dead) else none
    | _ => none
  | a => some (a, σ)
/-- Nil slices among the cells become slices of the function's own. -/
def ownL (σ : Store) (cs : List AV) : List (Nat × Nat) → Option (List AV × Store)
  | [] => some (cs, σ)
  | (off, sz) :: r => match cs[off]? with
    | some (.fsl [] true) => if 0 < sz then ownL (σ ++ [.row sz [] 0]) (cs.set off (.sl σ.length 0 0 0 false)) r else none
    | _ => none
/-! Maps with integer keys -/
def putL (n : Int) (v : AV) : List (Int × AV) → List (Int × AV)
  | [] => [(n, v)]
  | p :: r => if p.1 = n then (n, v) :: r else p :: putL n v r
def getL (n : Int) : List (Int × AV) → Option AV
  | [] => none
  | p :: r => if p.1 = n then some p.2 else getL n r
def gotL (ok : Bool) (z : AV) : Option AV → AV
  | some v => if ok = true then .tup [v, .v (.bool true)] else v
  | none => if ok = true then .tup [z, .v (.bool false)] else z
def AV.obj? : AV → Option Nat
  | .sl o .. => some o
  | .ptr o .. => some o
  | .mp o => some o
  | _ => none
/-- None of these pointers leads to where p does. -/
def awayL (e : Env) (p : AV) : List Nat → Bool
  | [] => true
  | t :: r => match e.get t with
    | some (.ptr o _ _ _) => (match p.obj? with | some o' => !(o == o') | none => true) && awayL e p r
    | _ => false
/-- One operation that is no call. -/
def evOp (e : Env) (σ : Store) : COp → Option (AV × Store)
  | .mv x => (x.ev e).bind fun a => some (a, σ)
  | .pick c a b => (c.ev e).bind fun t => match t with
    | .v (.bool t) => (if t = true then a.ev e else b.ev e).bind fun r => some (r, σ)
    | _ => none
  | .nilO sz => if 0 < sz then some (.sl σ.length 0 0 0 false, σ ++ [.row sz [] 0]) else none
  | .alloc z => if z ≠ [] ∧ plains z = true then some (.ptr σ.length 0 0 0, σ ++ [.row z.length [z] 0]) else none
  | .box x => (x.ev e).bind fun a => if a.cells ≠ [] ∧ plains a.cells = true then some (.ptr σ.length 0 0 0, σ ++ [.row a.cells.length [a.cells] 0]) else none
  | .boxF x => (x.ev e).bind fun a => if a.cells ≠ [] ∧ plains a.cells = true then some (.fptr a.cells, σ) else none
  | .build z parts => (fillP e z parts).bind fun cs => some (.agg cs, σ)
  | .bsl z n parts => (fillR e z.length (List.replicate n z) parts).bind fun es =>
    if z ≠ [] ∧ n ≠ 0 ∧ n * z.length ≤ 2 ^ 24 then some (.sl σ.length 0 0 n true, σ ++ [.row z.length es 0]) else none
  | .bslF z n parts => (fillR e z.length (List.replicate n z) parts).bind fun es =>
    if z ≠ [] ∧ n * z.length ≤ 2 ^ 24 then some (.fsl es true, σ) else none
  | .ld sz ag a => (a.ev e).bind fun p => (cellsAt σ p).bind fun cs => (loadC sz ag cs).bind fun r => some (r, σ)
  | .ldF sz ag a => (a.ev e).bind fun p => match p with
    | .fptr cs => (loadC sz ag cs).bind fun r => some (r, σ)
    | _ => none
  | .ldD sz ag a av => (a.ev e).bind fun p => if awayL e p av = true then (cellsAt σ p).bind fun cs => (loadC sz ag cs).bind fun r => some (r, σ) else none
  | .buildO z parts os => (fillP e z parts).bind fun cs => (ownL σ cs os).bind fun (cs, σ) => some (.agg cs, σ)
  | .mkmap k => some (.mp σ.length, σ ++ [.mp k []])
  | .mput k m key x => (m.ev e).bind fun p => (key.ev e).bind fun i => (x.ev e).bind fun y => match p, i with
    | .mp o, .v (.int k' n) => match σ[o]? with
      | some (.mp k2 es) => if k = k' ∧ k = k2 ∧ y.lo 0 = true then some (.v (.tuple #[]), σ.set o (.mp k (putL n y es))) else none
      | _ => none
    | _, _ => none
  | .mget ok k z m key => (m.ev e).bind fun p => (key.ev e).bind fun i => match p, i with
    | .mp o, .v (.int k' n) => match σ[o]? with
      | some (.mp k2 es) => if k = k' ∧ k = k2 then some (gotL ok z (getL n es), σ) else none
      | _ => none
    | _, _ => none
  | .st sz a x => (a.ev e).bind fun p => (x.ev e).bind fun y => match p with
    | .ptr o g i off =>
      match σ[o]? with
      | some (.row rs es g') =>
        (es[i]?).bind fun c =>
        if g = g' ∧ off + sz ≤ c.length ∧ y.cells.length = sz ∧ plains y.cells = true then
          some (.v (.tuple #[]), σ.set o (.row rs (es.set i (c.take off ++ (y.cells ++ c.drop (off + sz)))) g'))
        else none
      | _ => none
    | _ => none
  | .nilck x => (x.ev e).bind fun a => match a with
    | .fptr cs => some (.fptr cs, σ)
    | .ptr o g i off => some (.ptr o g i off, σ)
    | _ => none
  | .bin op x y => (x.ev e).bind fun a => (y.ev e).bind fun b => (evBin op a b).bind fun r => some (r, σ)
  | .eqs neg ks x y => (x.ev e).bind fun a => (y.ev e).bind fun b =>
    match a, b with
    | .agg a, .agg b => (eqCells ks a b).bind fun t => some (.v (.bool (if neg = true then !t else t)), σ)
    | _, _ => none
  | .eqb neg x y => (x.ev e).bind fun a => (y.ev e).bind fun b =>
    match a, b with
    | .v (.bool a), .v (.bool b) => some (.v (.bool (if neg = true then !(a == b) else a == b)), σ)
    | _, _ => none
  | .un op x => (x.ev e).bind fun a => match op, a with
    | .not, .v (.bool b) => some (.v (.bool !b), σ)
    | .neg, .v (.int k n) => some (.v (.int k (k.wrap (0 - n))), σ)
    | _, _ => none
  | .conv k x => (x.ev e).bind fun a => match a with
    | .v (.int _ n) => some (.v (.int k (k.wrap n)), σ)
    | _ => none
  | .mkfn f first cap => (evs e first).bind fun a => (evs e cap).bind fun b => some (.fn f a b, σ)
  | .mksl z bytes l c => (l.ev e).bind fun l => (c.ev e).bind fun c => match l, c with
    | .v (.int .i64 l), .v (.int .i64 c) =>
      if 0 ≤ l ∧ l ≤ c ∧ bytes * c ≤ 2 ^ 47 ∧ c ≤ 2 ^ 62 ∧ z ≠ [] ∧ plains z = true then
        some (.sl σ.length 0 0 l.toNat (decide (l = c)), σ ++ [.row z.length (List.replicate c.toNat z) 0]) else none
    | _, _ => none
  | .slc sz x lo hi mx => (x.ev e).bind fun a => match a with
    | .fsl es clip =>
      (optInt e 0 lo).bind fun l => (optInt e es.length hi).bind fun h => (optInt e h mx).bind fun m =>
      if 0 ≤ l ∧ l ≤ h ∧ h ≤ es.length ∧ h ≤ m ∧ m ≤ es.length ∧ okRows sz es = true ∧ (mx.isSome = true → hi.isSome = true) then
        some (.fsl ((es.drop l.toNat).take (h.toNat - l.toNat)) (if mx.isSome = true then decide (m = h) else clip && decide (h = es.length)), σ) else none
    | .sl o g off len clip =>
      match σ[o]? with
      | some (.row rs _ g') =>
        (optInt e 0 lo).bind fun l => (optInt e len hi).bind fun h => (optInt e h mx).bind fun m =>
        if 0 ≤ l ∧ l ≤ h ∧ h ≤ len ∧ h ≤ m ∧ m ≤ len ∧ rs = sz ∧ g = g' ∧ (mx.isSome = true → hi.isSome = true) then
          some (.sl o g (off + l.toNat) (h.toNat - l.toNat) (if mx.isSome = true then decide (m = h) else clip && decide (h = len)), σ) else none
      | _ => none
    | _ => none
  | .slcS x lo hi => (x.ev e).bind fun a => match a with
    | .v (.string s) =>
      (optInt e 0 lo).bind fun l => (optInt e s.size hi).bind fun h =>
      if 0 ≤ l ∧ l ≤ h ∧ h ≤ s.size then some (.v (.string (s.extract l.toNat h.toNat)), σ) else none
    | _ => none
  | .faddr off x => (x.ev e).bind fun a => match a with
    | .fptr cs => some (.fptr (cs.drop off), σ)
    | .ptr o g i f => some (.ptr o g i (f + off), σ)
    | _ => none
  | .fld off sz ag x => (x.ev e).bind fun a => match a with
    | .agg cs => (loadC sz ag (cs.drop off)).bind fun r => some (r, σ)
    | _ => none
  | .iaddr sz x i => (x.ev e).bind fun a => (i.ev e).bind fun n => match n with
    | .v (.int _ n) => if 0 ≤ n then (match a with
      | .fsl es _ => (es[n.toNat]?).bind fun c => if c.length = sz then some (.fptr c, σ) else none
      | .sl o g off len _ =>
        match σ[o]? with
        | some (.row rs es g') => if g = g' ∧ rs = sz ∧ n.toNat < len then some (.ptr o g (off + n.toNat) 0, σ) else none
        | _ => none
      | _ => none) else none
    | _ => none
  | .iaddrA k sz x i => (x.ev e).bind fun a => (i.ev e).bind fun n => match n with
    | .v (.int _ n) => if 0 ≤ n ∧ n.toNat < k then (match a with
      | .fptr cs => some (.fptr (cs.drop (n.toNat * sz)), σ)
      | .ptr o g j off => some (.ptr o g j (off + n.toNat * sz), σ)
      | _ => none) else none
    | _ => none
  | .idxS x i => (x.ev e).bind fun a => (i.ev e).bind fun n => match a, n with
    | .v (.string s), .v (.int _ n) => if 0 ≤ n then (s.data.toList[n.toNat]?).bind fun b => some (.v (.int .u8 b.toNat), σ) else none
    | _, _ => none
  | .idxA k sz ag x i => (x.ev e).bind fun a => (i.ev e).bind fun n => match a, n with
    | .agg cs, .v (.int _ n) => if 0 ≤ n ∧ n.toNat < k then (loadC sz ag (cs.drop (n.toNat * sz))).bind fun r => some (r, σ) else none
    | _, _ => none
  | .ext k x => (x.ev e).bind fun a => match a with
    | .tup cs => (cs[k]?).bind fun r => some (r, σ)
    | _ => none
  | .len x => (x.ev e).bind fun a => match a with
    | .fsl es _ => some (.v (.int .i64 es.length), σ)
    | .sl _ _ _ len _ => some (.v (.int .i64 len), σ)
    | _ => none
  | .lenS x => (x.ev e).bind fun a => match a with
    | .v (.string s) => some (.v (.int .i64 s.size), σ)
    | _ => none
  | .app sz bytes s x => (s.ev e).bind fun a => (x.ev e).bind fun y => (content σ y).bind fun xs => appE sz bytes a xs σ
  | .appZ sz bytes s x => (s.ev e).bind fun a => (x.ev e).bind fun y => (content σ y).bind fun xs => (appE sz bytes a xs σ).bind fun (r, σ') => giveE r σ'
  | .appN sz bytes s x => (s.ev e).bind fun a => (x.ev e).bind fun y => (content σ y).bind fun xs =>
    match a with
      | .fsl es true => if 0 < sz ∧ okRows sz (es ++ xs) = true ∧ (es.length + xs.length) * bytes ≤ 2 ^ 47 then
          (if xs = [] ∧ es ≠ [] then some (.fsl es true, σ) else some (.sl σ.length 0 0 (es.length + xs.length) false, σ ++ [.row sz (es ++ xs) 0])) else none
      | _ => none
  | .appF sz bytes s x => (s.ev e).bind fun a => (x.ev e).bind fun y => (content σ y).bind fun xs =>
    match a with
      | .fsl es true => if 0 < sz ∧ okRows sz (es ++ xs) = true ∧ (es.length + xs.length) * bytes ≤ 2 ^ 47 then
          (if xs = [] then some (.fsl es true, σ) else some (.fsl (es ++ xs) false, σ ++ [.dead])) else none
      | _ => none
  | .frzv x => (x.ev e).bind fun a => match a with
    | .sl o g off len _ =>
      match σ[o]? with
      | some (.row _ es g') => if g = g' ∧ off + len ≤ es.length then some (.fsl ((es.drop off).take len) false, σ.set o .dead) else none
      | _ => none
    | a => some (a, σ)
  | .copy sz d s => (d.ev e).bind fun a => (s.ev e).bind fun y => (content σ y).bind fun xs =>
    match a with
      | .sl o g off len _ =>
        match σ[o]? with
        | some (.row rs es g') => if g = g' ∧ rs = sz ∧ off + len ≤ es.length ∧ okRows sz xs = true then
            some (.v (.int .i64 (min xs.length len : Nat)), σ.set o (.row rs (es.take off ++ ((xs.take len) ++ es.drop (off + min xs.length len))) g')) else none
        | _ => none
      | _ => none
  | .mm mx x y => (x.ev e).bind fun a => (y.ev e).bind fun b => match a, b with
    | .v (.int k a), .v (.int _ b) => some (.v (.int k (if mx = true then (if b > a then b else a) else (if b < a then b else a))), σ)
    | _, _ => none

inductive CExit where
  | normal
  | exit (id : Nat)
  | ret
  deriving Inhabited, DecidableEq

structure Orc where
  call : Nat → List AV → Store → Option (AV × Store)
  round : Nat → List AV → Store → Option (AV × Store)
  ent : Nat → Bool

abbrev R3 := Option (CExit × Env × Store)
abbrev Iter := (Env → Store → R3) → (Env → Store → Option (Env × Store)) → Env → Store → R3

def impO (d : Nat) : SObj → Option SObj
  | .row sz es g => some (.row sz (shiftss d es) g)
  | .mp k es => some (.mp k es)
  | _ => none
/-! Stores that are seen to be the same -/
def valEq : Value → Value → Bool
  | .bool a, .bool b => a == b
  | .int k n, .int k' n' => decide (k = k') && decide (n = n')
  | .pointer none, .pointer none => true
  | .slice none a b, .slice none c d => a == c && b == d
  | .nilFunc, .nilFunc => true
  | .tuple ⟨[]⟩, .tuple ⟨[]⟩ => true
  | _, _ => false
mutual
def AV.eqB : AV → AV → Bool
  | .v x, .v y => valEq x y
  | .agg a, .agg b => eqBs a b
  | .tup a, .tup b => eqBs a b
  | .fsl a c, .fsl b d => eqBss a b && c == d
  | .fptr a, .fptr b => eqBs a b
  | .sl o g off len c, .sl o' g' off' len' c' => o == o' && (g == g' && (off == off' && (len == len' && c == c')))
  | .ptr o g i off, .ptr o' g' i' off' => o == o' && (g == g' && (i == i' && off == off'))
  | .fn f a b, .fn f' a' b' => decide (f = f') && (eqBs a a' && eqBs b b')
  | .mp o, .mp o' => o == o'
  | _, _ => false
def eqBs : List AV → List AV → Bool
  | [], [] => true
  | a :: as, b :: bs => a.eqB b && eqBs as bs
  | _, _ => false
def eqBss : List (List AV) → List (List AV) → Bool
  | [], [] => true
  | a :: as, b :: bs => eqBs a b && eqBss as bs
  | _, _ => false
end
def eqBm : List (Int × AV) → List (Int × AV) → Bool
  | [], [] => true
  | a :: as, b :: bs => a.1 == b.1 && (a.2.eqB b.2 && eqBm as bs)
  | _, _ => false
def SObj.eqB : SObj → SObj → Bool
  | .row sz es g, .row sz' es' g' => sz == sz' && (g == g' && eqBss es es')
  | .defr, .defr => true
  | .dead, .dead => true
  | .mp k es, .mp k' es' => decide (k = k') && eqBm es es'
  | _, _ => false
def storeEq : Store → Store → Bool
  | [], [] => true
  | a :: as, b :: bs => a.eqB b && storeEq as bs
  | _, _ => false
/-- Owned slices among values are given up. -/
def giveA : List AV → Store → Option (List AV × Store)
  | [], σ => some ([], σ)
  | a :: as, σ => (giveE a σ).bind fun x => (giveA as x.2).bind fun y => some (x.1 :: y.1, y.2)
def giveG (a : AV) (σ : Store) : Option (AV × Store) := match a with
  | .agg cs => (giveA cs σ).bind fun x => some (.agg x.1, x.2)
  | a => giveE a σ
def giveAs : List AV → Store → Option (List AV × Store)
  | [], σ => some ([], σ)
  | a :: as, σ => (giveG a σ).bind fun x => (giveAs as x.2).bind fun y => some (x.1 :: y.1, y.2)
def evItem (O : Orc) (e : Env) (σ : Store) : Item' → Option (AV × Store)
  | .op o => evOp e σ o
  | .callP k args => (evs e args).bind fun as => if los 0 as = true then (O.call k as []).bind fun (r, σ') => (frz σ' 6 r).bind fun r' => some (r', σ) else none
  | .callA k args => (evs e args).bind fun as => if los 0 as = true then (O.call k as []).bind fun (r, σ') =>
      (omap (impO σ.length) σ').bind fun τ => some (r.shift σ.length, σ ++ τ) else none
  | .callI k args => (evs e args).bind fun as => O.call k as σ
  | .callR k args => (evs e args).bind fun as => (O.call k as σ).bind fun (r, σ') => if storeEq σ σ' = true then some (r, σ) else none
  | .callF k args => (evs e args).bind fun as => (giveAs as σ).bind fun x => if los 0 x.1 = true then (O.call k x.1 []).bind fun (r, σ') => (frz σ' 6 r).bind fun r' => some (r', x.2) else none
  | .callv f args => (f.ev e).bind fun g => (evs e args).bind fun as => match g with
    | .fn (.func k) first cap => O.call k (first ++ (as ++ cap)) σ
    | .yld o => O.round o as σ
    | _ => none

def evOper (O : Orc) (e : Env) (σ : Store) (o : COper) : Option (Env × Store) :=
  match o.guard with
  | none => (evItem O e σ o.it).bind fun (r, σ') => some (e.set o.dst r, σ')
  | some (t, want) => (e.get t).bind fun b => match b with
    | .v (.bool b) => if b = want then (evItem O e σ o.it).bind fun (r, σ') => some (e.set o.dst r, σ') else some (e.unset o.dst, σ)
    | .tup [] => some (e.unset o.dst, σ)
    | _ => none

def evOpers (O : Orc) : List COper → Env → Store → Option (Env × Store)
  | [], e, σ => some (e, σ)
  | o :: r, e, σ => (evOper O e σ o).bind fun (e', σ') => evOpers O r e' σ'

def keep (e : Env) : List Nat → List (Nat × AV)
  | [] => []
  | t :: r => match e.get t with
    | some a => (t, a) :: keep e r
    | none => keep e r

def settle (live : List Nat) (trim : Bool) (n : Nat) (e : Env) (σ : Store) : Option (Env × Store) :=
  if trim = true then
    (if varsLo n (keep e live) = true ∧ marksLo n e.marks = true ∧ storeLo n (σ.take n) = true then some (⟨keep e live, e.marks⟩, σ.take n) else none)
  else some (⟨keep e live, e.marks⟩, σ)

def setParams : Env → List Nat → List AV → Option Env
  | e, [], [] => some e
  | e, p :: ps, a :: as => setParams (e.set (some p) a) ps as
  | _, _, _ => none

/-- The call of the function that is ranged over, and what is pending behind it. -/
def rangeIn (O : Orc) (k : Nat) (first cap : List AV) (e1 : Env) (σ : Store) (lp : SObj) : R3 :=
  if O.ent k = true then
  (O.call k (first ++ (.yld σ.length :: cap)) (σ ++ [lp])).bind fun (_, σ2) =>
  match σ2[σ.length]? with
  | some (.loop e2 ps as' body' st pend) =>
    if st ≠ .busy then
      match pend with
      | none => some (.normal, e1, σ2.set σ.length (.loop e2 ps as' body' .exhausted pend))
      | some none => some (.ret, e1, σ2.set σ.length (.loop e2 ps as' body' .exhausted pend))
      | some (some id) => some (.exit id, e1, σ2.set σ.length (.loop e2 ps as' body' .exhausted pend))
    else none
  | _ => none
  else none

def exec (O : Orc) (I : Iter) (ro : Option Nat) : CCode → Env → Store → R3
  | .skip, e, σ => some (.normal, e, σ)
  | .region ops, e, σ => (evOpers O ops e σ).bind fun (e', σ') => some (.normal, e', σ')
  | .seq a b, e, σ => (exec O I ro a e σ).bind fun (x, e', σ') => match x with
    | .normal => exec O I ro b e' σ'
    | x => some (x, e', σ')
  | .cond c a b, e, σ => (c.ev e).bind fun t => match t with
    | .v (.bool t) => if t = true then exec O I ro a e σ else exec O I ro b e σ
    | _ => none
  | .block id c, e, σ => (exec O I ro c e σ).bind fun (x, e', σ') => match x with
    | .exit id' => if id' = id then some (.normal, e', σ') else some (.exit id', e', σ')
    | x => some (x, e', σ')
  | .loop live trim c, e, σ => I (exec O I ro c) (settle live trim σ.length) e σ
  | .rangeFunc f live params as body, e, σ => (f.ev e).bind fun g => match g with
    | .fn (.func k) first cap =>
      match ro with
      | none => rangeIn O k first cap ⟨e.vars, σ.length :: e.marks⟩ (σ ++ [.defr]) (.loop ⟨keep e live, []⟩ params as body .ready none)
      | some l0 => match σ[l0]? with
        | some (.loop ..) => rangeIn O k first cap e σ (.loop ⟨keep e live, []⟩ params as body .ready none)
        | _ => none
    | _ => none
  | .exit id, e, σ => some (.exit id, e, σ)
  | .ret, e, σ => some (.ret, e, σ)

def resVal (e : Env) (σ : Store) : CRes → Option AV
  | .tmp t => e.get t
  | .cell t sz ag => (e.get t).bind fun p => (cellsAt σ p).bind fun cs => loadC sz ag cs
def resVals (e : Env) (σ : Store) : List CRes → Option (List AV)
  | [] => some []
  | r :: rs => (resVal e σ r).bind fun a => (resVals e σ rs).bind fun as => some (a :: as)
def resOf : List AV → AV
  | [a] => a
  | as => .tup as
def kill (σ : Store) : List Nat → Option Store
  | [] => some σ
  | m :: ms => match σ[m]? with
    | some .defr => kill (σ.set m .dead) ms
    | _ => none
/-- At a return: what the call has made and nobody names any more is forgotten. -/
def leave (n : Nat) (r : AV) (σ : Store) : AV × Store :=
  if r.lo n = true ∧ storeLo n (σ.take n) = true then (r, σ.take n) else (r, σ)
def argVars : Nat → List AV → List (Nat × AV)
  | _, [] => []
  | i, a :: as => (i, a) :: argVars (i + 1) as

def runFunc (O : Orc) (I : Iter) (f : CFunc) (args : List AV) (σ : Store) : Option (AV × Store) :=
  if args.length = f.nargs then
    (exec O I none f.body ⟨argVars 0 args, []⟩ σ).bind fun (x, e, σ') => match x with
      | .exit _ => none
      | _ => (kill σ' e.marks).bind fun σ'' => (resVals e σ'' f.results).bind fun rs => some (leave σ.length (resOf rs) σ'')
  else none

def runRound (O : Orc) (I : Iter) (l : Nat) (args : List AV) (σ : Store) : Option (AV × Store) :=
  match σ[l]? with
  | some (.loop e ps as body .ready none) =>
    (setParams ⟨e.vars, []⟩ ps args).bind fun e1 => (exec O I (some l) as e1 σ).bind fun (x, e2, σ2) =>
    if x = .normal then
      match σ2[l]? with
      | some (.loop e' ps' as' body' .ready none) =>
        (exec O I (some l) body e2 (σ2.set l (.loop e' ps' as' body' .busy none))).bind fun (x, _, σ3) =>
        match σ3[l]? with
        | some (.loop e' ps' as' body' .busy none) =>
          match x with
          | .normal => some (leave σ.length (.v (.bool true)) (σ3.set l (.loop e' ps' as' body' .ready none)))
          | .ret => some (leave σ.length (.v (.bool false)) (σ3.set l (.loop e' ps' as' body' .done (some none))))
          | .exit id => some (leave σ.length (.v (.bool false)) (σ3.set l (.loop e' ps' as' body' .done (some (some id)))))
        | _ => none
      | _ => none
    else none
  | _ => none

def iterN : Nat → Iter
  | 0, _, _, _, _ => none
  | m + 1, f, s, e, σ => (s e σ).bind fun (e1, σ1) => (f e1 σ1).bind fun (x, e2, σ2) => match x with
    | .normal => iterN m f s e2 σ2
    | x => some (x, e2, σ2)

/-- The program, compiled: a function's number to its code, or what it is known to answer. -/
structure Tab where
  code : Nat → Option CFunc
  ext : Nat → Option (List AV → Option (AV × Store))

def evF (T : Tab) : Nat → Orc
  | 0 => ⟨fun _ _ _ => none, fun _ _ _ => none, fun k => (T.ext k).isNone⟩
  | n + 1 => ⟨fun k args σ => match T.ext k with
      | some F => if los 0 args = true ∧ σ = [] then F args else none
      | none => (T.code k).bind fun f => runFunc (evF T n) (iterN n) f args σ,
    fun l args σ => runRound (evF T n) (iterN n) l args σ, fun k => (T.ext k).isNone⟩
end Go.Ev
