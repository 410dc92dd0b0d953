/- Part of the proofs about this seat's program (module EvD). -/
import Derived.Test.YtbkabnhkclbepaaEvC
set_option linter.unusedSectionVars false
set_option linter.unusedSimpArgs false
set_option linter.unusedVariables false
namespace Go.Ev
/-! From the model's code to the compiled one -/
def ofLeaf : Value → AV
  | .slice none 0 0 => .fsl [] false
  | x => .v x
def ofTop : Value → AV
  | .slice none 0 0 => .fsl [] true
  | x => .v x
def ofV : Value → AV
  | .agg cs => .agg (cs.toList.map ofLeaf)
  | x => ofTop x

structure Hints where
  frz : List Nat := []
  appN : List Nat := []
  appF : List Nat := []
  frzv : List Nat := []
  mA : List Nat := []
  mI : List Nat := []
  mR : List Nat := []
  mF : List Nat := []
  own : List Nat := []
  ldx : List (Nat × Nat) := []
  ownB : List (Nat × Nat × Nat) := []
  ldF : List Nat := []
  appZ : List Nat := []
  topZ : List Nat := []
  loops : List (List Nat × Bool) := []

def cOpnd : Operand → Option Opnd
  | .tmp t => some (.t t)
  | .const (.func ..) => none
  | .const v => some (.c (ofV v))
  | .func f => some (.c (.fn (.func f) [] []))
  | .global _ => none
def cOpnds (l : List Operand) : Option (List Opnd) := omap cOpnd l
def cOpt : Option Operand → Option (Option Opnd)
  | none => some none
  | some x => (cOpnd x).bind fun y => some (some y)

section
variable (P : Program)
def aggT (t : TypeId) : Bool := match P.underlying t with | some (.struct _) | some (.array _ _) => true | _ => false
def szT (t : TypeId) : Option Nat := (P.info? t).map (·.size)
def byT (t : TypeId) : Option Nat := (P.info? t).map (·.bytes)
/-- The cells of a type's zero value. -/
def zT (t : TypeId) : Option (List AV) :=
  (P.info? t).bind fun i => i.zero.bind fun z => if z.cells.size = i.size then some (z.cells.toList.map ofLeaf) else none
def elemT (t : TypeId) : Option TypeId := match P.underlying t with | some (.slice e) => some e | _ => none
def hasIn (l : List Nat) (d : Option Nat) : Bool := match d with | some k => l.contains k | none => false

/-- A type all of whose cells are numbers or bools, one behind the other, compared cell by cell. -/
def scalT (t : TypeId) : Option Bool :=
  match P.underlying t with
  | some .bool => if szT P t = some 1 then some false else none
  | some (.int _) => if szT P t = some 1 then some true else none
  | _ => none
def flatFs : Nat → List Field → Option (List Bool)
  | _, [] => some []
  | off, f :: fs => if f.name ≠ "_" ∧ f.offset = off then (scalT P f.type).bind fun k => (flatFs (off + 1) fs).bind fun ks => some (k :: ks) else none
/-- The kinds of the cells, and whether the value is a row of cells. -/
def flatT (t : TypeId) : Option (List Bool) :=
  match P.underlying t with
  | some (.array n e) => (scalT P e).bind fun k => some (List.replicate n k)
  | some (.struct fs) => if P.stoodInHeld t = false then flatFs P 0 fs.toList else none
  | _ => none

/-- A map's key kind, and its elements' zero value. -/
def mapT (t : TypeId) : Option (IntKind × AV) := match P.underlying t with
  | some (.map kt et) => match P.underlying kt with
    | some (.int k) => (P.info? et).bind fun i => i.zero.bind fun z => some (k, ofLeaf z)
    | _ => none
  | _ => none
def zTopT (t : TypeId) : Option (List AV) := (zT P t).bind fun _ => (P.info? t).bind fun i => i.zero.bind fun z => some (z.cells.toList.map ofTop)
/-- Zero cells; of nil slices it may be known that they have no room. -/
def zH (top : Bool) (t : TypeId) : Option (List AV) := if top = true then zTopT P t else zT P t
def ownOf (l : List (Nat × Nat × Nat)) : Option Nat → List (Nat × Nat)
  | some d => (l.filter (·.1 == d)).map (·.2)
  | none => []
def avoidOf (l : List (Nat × Nat)) : Option Nat → List Nat
  | some d => (l.filter (·.1 == d)).map (·.2)
  | none => []
def cOp (h : Hints) (o : Oper) : Option COp :=
  match o.op with
  | .move x => (cOpnd x).bind fun x => if hasIn h.frzv o.dst = true then some (.frzv x) else some (.mv x)
  | .assign x =>
    if hasIn h.own o.dst = true then
      match x with
      | .const (.slice none 0 0) => (elemT P o.type).bind fun e => (szT P e).bind fun s => some (.nilO s)
      | .const _ => none
      | x => (cOpnd x).bind fun x => some (.mv x)
    else (cOpnd x).bind fun x => some (.mv x)
  | .pick c a b => (cOpnd c).bind fun c => (cOpnd a).bind fun a => (cOpnd b).bind fun b => some (.pick c a b)
  | .alloc t => (zH P (hasIn h.topZ o.dst) t).bind fun z => some (.alloc z)
  | .box _ x => (cOpnd x).bind fun x => if hasIn h.frz o.dst = true then some (.boxF x) else some (.box x)
  | .build t parts =>
    (zT P t).bind fun z => match P.underlying t with
    | some (.struct fs) => (fs.toList.mapM (fun f => (P.info? f.type).map fun i => (f.offset, i.size))).bind fun places =>
      (omap (fun (i, x) => (places[i]?).bind fun p => (cOpnd x).bind fun x => some (p.1, p.2, x)) parts.toList).bind fun ps =>
        match ownOf h.ownB o.dst with | [] => some (.build z ps) | os => (zTopT P t).bind fun z => some (.buildO z ps os)
    | some (.array _ e) => (szT P e).bind fun s => (omap (fun (i, x) => (cOpnd x).bind fun x => some (i * s, s, x)) parts.toList).bind fun ps => some (.build z ps)
    | _ => none
  | .buildSlice t n parts =>
    (elemT P t).bind fun e => (zT P e).bind fun z =>
    (omap (fun (i, x) => (cOpnd x).bind fun x => some (i, x)) parts.toList).bind fun ps =>
    if hasIn h.own o.dst = true then some (.bsl z n ps) else some (.bslF z n ps)
  | .load t a => (szT P t).bind fun s => (cOpnd a).bind fun a => if (P.underlying t).isSome = true ∧ (aggT P t = true ∨ s = 1) then if hasIn h.ldF o.dst = true then some (.ldF s (aggT P t) a) else (match avoidOf h.ldx o.dst with | [] => some (.ld s (aggT P t) a) | av => some (.ldD s (aggT P t) a av)) else none
  | .store t a x => (szT P t).bind fun s => (cOpnd a).bind fun a => (cOpnd x).bind fun x => some (.st s a x)
  | .makeMap t none => (mapT P t).bind fun (k, _) => some (.mkmap k)
  | .insert t m key x | .mapUpdate t m key x => (mapT P t).bind fun (k, _) => (cOpnd m).bind fun m => (cOpnd key).bind fun key => (cOpnd x).bind fun x => some (.mput k m key x)
  | .lookup t m key ok => (mapT P t).bind fun (k, z) => (cOpnd m).bind fun m => (cOpnd key).bind fun key => some (.mget ok k z m key)
  | .nilCheck x => (cOpnd x).bind fun x => some (.nilck x)
  | .binOp op t x y _ =>
    (cOpnd x).bind fun x' => (cOpnd y).bind fun y' =>
    match op, P.underlying t with
    | .eql, some (.struct _) | .eql, some (.array ..) => (flatT P t).bind fun s => some (.eqs false s x' y')
    | .neq, some (.struct _) | .neq, some (.array ..) => (flatT P t).bind fun s => some (.eqs true s x' y')
    | .eql, some .bool => some (.eqb false x' y')
    | .neq, some .bool => some (.eqb true x' y')
    | _, some (.int _) => some (.bin op x' y')
    | _, some .string => some (.bin op x' y')
    | _, _ => none
  | .unOp op _ x => (cOpnd x).bind fun x => some (.un op x)
  | .convert s d x => (cOpnd x).bind fun x => match P.underlying s, P.underlying d with
    | some (.int _), some (.int k) => some (.conv k x)
    | _, _ => none
  | .makeFunc f first cap => (cOpnds first.toList).bind fun a => (cOpnds cap.toList).bind fun b => some (.mkfn f a b)
  | .makeSlice t l c => (elemT P t).bind fun e => (zH P (hasIn h.topZ o.dst) e).bind fun z => (byT P e).bind fun b => (cOpnd l).bind fun l => (cOpnd c).bind fun c => some (.mksl z b l c)
  | .slice t x lo hi mx =>
    (cOpnd x).bind fun x => (cOpt lo).bind fun lo => (cOpt hi).bind fun hi => (cOpt mx).bind fun mx =>
    match P.underlying t with
    | some (.slice el) => (szT P el).bind fun sz => some (.slc sz x lo hi mx)
    | some .string => if mx.isNone = true then some (.slcS x lo hi) else none
    | _ => none
  | .fieldAddr t x f =>
    match P.underlying t with
    | some (.struct fs) => (fs[f]?).bind fun fd => (szT P fd.type).bind fun s => if s = 0 then none else (cOpnd x).bind fun x => some (.faddr fd.offset x)
    | _ => none
  | .field t x f =>
    match P.underlying t with
    | some (.struct fs) => (fs[f]?).bind fun fd => (szT P fd.type).bind fun s => if s = 0 then none else if (P.underlying fd.type).isSome = true ∧ (aggT P fd.type = true ∨ s = 1) then (cOpnd x).bind fun x => some (.fld fd.offset s (aggT P fd.type) x) else none
    | _ => none
  | .indexAddr t x i =>
    (cOpnd x).bind fun x => (cOpnd i).bind fun i =>
    match P.underlying t with
    | some (.slice e) => (szT P e).bind fun s => if s = 0 then none else some (.iaddr s x i)
    | some (.array n e) => (szT P e).bind fun s => if s = 0 then none else some (.iaddrA n s x i)
    | _ => none
  | .index t x i =>
    (cOpnd x).bind fun x => (cOpnd i).bind fun i =>
    match P.underlying t with
    | some .string => some (.idxS x i)
    | some (.array n e) => (szT P e).bind fun s => if s = 0 then none else if (P.underlying e).isSome = true ∧ (aggT P e = true ∨ s = 1) then some (.idxA n s (aggT P e) x i) else none
    | _ => none
  | .extract x k => (cOpnd x).bind fun x => some (.ext k x)
  | .call c =>
    match c.callee, c.args.toList with
    | .builtin .len, [x] => match (c.argTypes[0]?).bind P.underlying with
      | some (.slice _) => (cOpnd x).bind fun x => some (.len x)
      | some .string => (cOpnd x).bind fun x => some (.lenS x)
      | _ => none
    | .builtin .append, [s, x] => match c.argTypes[0]?, (c.argTypes[1]?).bind P.underlying with
      | some t, some (.slice _) | some t, some .string => (elemT P t).bind fun e => (szT P e).bind fun sz => (byT P e).bind fun b => (cOpnd s).bind fun s => (cOpnd x).bind fun x =>
        if sz = 0 ∨ b = 0 ∨ (zT P e).isNone = true then none else if hasIn h.appN o.dst = true then some (.appN sz b s x) else if hasIn h.appF o.dst = true then some (.appF sz b s x) else if hasIn h.appZ o.dst = true then some (.appZ sz b s x) else some (.app sz b s x)
      | _, _ => none
    | .builtin .max, [x, y] => (cOpnd x).bind fun x => (cOpnd y).bind fun y => some (.mm true x y)
    | .builtin .min, [x, y] => (cOpnd x).bind fun x => (cOpnd y).bind fun y => some (.mm false x y)
    | _, _ => none
  | _ => none

def cItem (h : Hints) (o : Oper) : Option Item' :=
  match o.op with
  | .call { callee := .value f, args, .. } =>
    (cOpnds args.toList).bind fun as =>
    match f with
    | .func k => if hasIn h.mA o.dst = true then some (.callA k as) else if hasIn h.mI o.dst = true then some (.callI k as) else if hasIn h.mR o.dst = true then some (.callR k as) else if hasIn h.mF o.dst = true then some (.callF k as) else some (.callP k as)
    | f => (cOpnd f).bind fun f => some (.callv f as)
  | _ => (cOp P h o).bind fun c => some (.op c)

def okDst (n : Nat) : Option Nat → Bool
  | some d => decide (d < n)
  | none => true
def cOper (h : Hints) (n : Nat) (ops : Array Oper) (o : Oper) : Option COper :=
  if okDst n o.dst = true then
    (cItem P h o).bind fun it =>
    match o.guard with
    | none => some ⟨o.dst, none, it⟩
    | some (j, want) => ((ops[j]?).bind (·.dst)).bind fun t => some ⟨o.dst, some (t, want), it⟩
  else none

/-! Which orders a region may be carried out in -/
inductive Kind where
  | pure | load | alloc | write | read
  deriving DecidableEq
def COp.kind : COp → Kind
  | .ld .. | .ldD .. | .iaddr .. | .slc .. | .mget .. => .load
  | .buildO .. | .mkmap _ | .nilO _ | .alloc _ | .box _ | .bsl .. | .mksl .. | .appN .. | .appF .. => .alloc
  | .st .. | .mput .. | .appZ .. | .app .. | .frzv _ | .copy .. => .write
  | _ => .pure
def Item'.kind : Item' → Kind
  | .op o => o.kind
  | .callP .. => .pure
  | .callA .. => .alloc
  | .callI .. | .callF .. | .callv .. => .write
  | .callR .. => .read
def Kind.free : Kind → Kind → Bool
  | .pure, _ | _, .pure | .load, .load | .load, .alloc | .alloc, .load | .load, .read | .read, .load | .read, .read => true
  | _, _ => false
def optT : Option Opnd → List Nat
  | some (.t i) => [i]
  | _ => []
def opT : Opnd → List Nat
  | .t i => [i]
  | _ => []
def opsT : List Opnd → List Nat
  | [] => []
  | x :: xs => opT x ++ opsT xs
def COp.reads : COp → List Nat
  | .mv x | .frzv x | .box x | .boxF x | .ldF _ _ x | .ld _ _ x | .nilck x | .un _ x | .conv _ x | .faddr _ x | .fld _ _ _ x | .ext _ x | .len x | .lenS x => opT x
  | .pick a b c | .mput _ a b c => opT a ++ (opT b ++ opT c)
  | .ldD _ _ a av => opT a ++ av
  | .mkmap _ | .nilO _ | .alloc _ => []
  | .build _ ps | .buildO _ ps _ => opsT (ps.map (·.2.2))
  | .bsl _ _ ps | .bslF _ _ ps => opsT (ps.map (·.2))
  | .mget _ _ _ a b | .st _ a b | .bin _ a b | .eqs _ _ a b | .eqb _ a b | .mksl _ _ a b | .iaddr _ a b | .iaddrA _ _ a b | .idxS a b | .idxA _ _ _ a b | .app _ _ a b | .appZ _ _ a b | .appN _ _ a b | .appF _ _ a b | .copy _ a b | .mm _ a b => opT a ++ opT b
  | .mkfn _ a b => opsT a ++ opsT b
  | .slc _ x l h m => opT x ++ (optT l ++ (optT h ++ optT m))
  | .slcS x l h => opT x ++ (optT l ++ optT h)
def COper.reads (o : COper) : List Nat :=
  (match o.guard with | some (t, _) => [t] | none => []) ++
  match o.it with
  | .op c => c.reads
  | .callP _ as | .callA _ as | .callI _ as | .callR _ as | .callF _ as => opsT as
  | .callv f as => opT f ++ opsT as
def disj (d : Option Nat) (l : List Nat) : Bool := match d with | some k => !l.contains k | none => true
/-- A load that looks elsewhere than a store writes. -/
def aside (a b : Item') : Bool := match a, b with
  | .op (.ldD _ _ _ av), .op (.st _ (.t t) _) => av.contains t
  | _, _ => false
def apartC (a b : COper) : Bool :=
  (a.it.kind.free b.it.kind || aside a.it b.it) && (disj a.dst b.reads && (disj b.dst a.reads && (match a.dst, b.dst with | some x, some y => x != y | _, _ => true)))
/-- Who waits for whom, by whatever chain: bit j of number i: i waits for j. -/
def bits (acc : List Nat) : List Edge → Nat
  | [] => 0
  | e :: r => if Region.binds .any e = true then (2 ^ e.on ||| (acc.getD e.on 0 ||| bits acc r)) else bits acc r
def befs : List Oper → List Nat → List Nat
  | [], acc => acc
  | o :: r, acc => befs r (acc ++ [bits acc o.after.toList])
def edgesLt : List Oper → Nat → Bool
  | [], _ => true
  | o :: r, i => o.after.toList.all (fun e => !Region.binds .any e || decide (e.on < i)) && edgesLt r (i + 1)
def rowOk (b : COper) (bj : Nat) : List COper → Nat → Bool
  | [], _ => true
  | a :: r, i => (bj.testBit i || apartC a b) && rowOk b bj r (i + 1)
def rowsOk (done : List COper) : List COper → List Nat → Bool
  | b :: r, bj :: bs => rowOk b bj done 0 && rowsOk (done ++ [b]) r bs
  | [], _ => true
  | _, [] => false
/-- Of two operations of which neither waits for the other, the order is of no matter. -/
def drawOk (ops : Array Oper) (cs : List COper) : Bool :=
  edgesLt ops.toList 0 && rowsOk [] cs (befs ops.toList [])

def cCode (h : Hints) (n : Nat) : Code → Nat → Option (CCode × Nat)
  | .skip, i => some (.skip, i)
  | .region _ ops draw, i => (omap (cOper P h n ops) ops.toList).bind fun cs => if draw = true then (if drawOk ops cs = true then some (.region cs, i) else none) else some (.region cs, i)
  | .seq a b, i => (cCode h n a i).bind fun (a', i) => (cCode h n b i).bind fun (b', i) => some (.seq a' b', i)
  | .cond c a b, i => (cOpnd c).bind fun c' => (cCode h n a i).bind fun (a', i) => (cCode h n b i).bind fun (b', i) => some (.cond c' a' b', i)
  | .block id c, i => (cCode h n c i).bind fun (c', i) => some (.block id c', i)
  | .loop c, i => (h.loops[i]?).bind fun (l, t) => (cCode h n c (i + 1)).bind fun (c', i) => some (.loop l t c', i)
  | .rangeFunc f ps as c, i =>
    if ps.toList.all (fun p => decide (p < n)) = true then
    (h.loops[i]?).bind fun (l, _) => (cOpnd f).bind fun f' => (cCode h n as (i + 1)).bind fun (as', i) => (cCode h n c i).bind fun (c', i) => some (.rangeFunc f' l ps.toList as' c', i) else none
  | .exit id, i => some (.exit id, i)
  | .scope c, i => cCode h n c i
  | .label _, i => some (.skip, i)
  | .ret, i => some (.ret, i)
  | _, _ => none

def cRes (n : Nat) : ResultVar → Option CRes
  | .tmp t => some (.tmp t)
  | .cell t ty => (szT P ty).bind fun s => if (P.underlying ty).isSome = true ∧ (aggT P ty = true ∨ s = 1) then some (.cell t s (aggT P ty)) else none
def comp (h : Hints) (k : Nat) : Option CFunc :=
  (P.funcs[k]?).bind fun fn => fn.body.bind fun c =>
  if (fn.name == "runtime.NumGoroutine") = false ∧ fn.params.size + fn.nfree ≤ fn.ntmps then
    (cCode P h fn.ntmps c 0).bind fun (c', _) => (omap (cRes P fn.ntmps) fn.results.toList).bind fun rs => some ⟨fn.params.size + fn.nfree, fn.ntmps, rs, c'⟩
  else none
end
end Go.Ev
