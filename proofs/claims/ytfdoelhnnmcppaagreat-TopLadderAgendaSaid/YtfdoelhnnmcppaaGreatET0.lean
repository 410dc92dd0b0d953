/- For every input the statement of this claim returns true: texts of its proof, joined (part 1). -/
import Derived.RangeFuncLeaves
import Derived.OrdersIn
import Derived.Below
import Derived.Laws.CopyRow
import Derived.Laws.AppendOwn
import Derived.Deep.AppendSrc
import Derived.Lib.AppendZerosOnto
import Derived.Laws.MakeOwn
import Derived.Laws.Slices
import Derived.Laws.Rows
import Derived.Laws.Tables
import Derived.Great.BuildSlice
import Derived.MapKept
set_option linter.unusedSectionVars false
set_option linter.unusedSimpArgs false
set_option linter.unusedVariables false
open Nat renaming le_refl → wa, lt_of_lt_of_le → wb, mul_le_mul_right → wc, min_eq_left → wi, add_mul → wj
open Bool renaming and_eq_true → wd
open List renaming replicate → we, flatten_cons → wf, length_eq_zero_iff → wg, length_take → wh, cons_append → wk, drop_eq_nil_of_le → wl, getElem?_append → wm, flatten_append → wn
namespace Go.Ev
theorem zob {α β:Type _} {o:Option α} {f:α→Option β} {b:β}:o.bind f=some b ↔ ∃a, o=some a∧f a=some b := Option.bind_eq_some_iff
theorem zei {α:Type _} {l:List α} {i:Nat} {a:α}:l[i]? = some a ↔ ∃h:i<l.length, l[i]=a := List.getElem?_eq_some_iff
theorem ztl {α:Type _} {i:Nat} {l:List α} (h:l.length≤i):l.take i=l := List.take_of_length_le h
theorem zmg {α:Type _} {l:List α} {i:Nat} {a:α} (h:l[i]? = some a):a∈l := List.mem_of_getElem? h
theorem zgE {α:Type _} {l:List α} {i:Nat} (h:i<l.length):l[i]? = some l[i] := List.getElem?_eq_getElem h
inductive AV where
 |v (x:Value)
 |agg (cs:List AV)
 |tup (cs:List AV)
 |fsl (es:List (List AV)) (clip:Bool)
 |fptr (cs:List AV)
 |sl (o g off len:Nat) (clip:Bool)
 |ptr (o g i off:Nat)
 |fn (f:Fn) (first cap:List AV)
 |yld (o:Nat)
 |mp (o:Nat)
 deriving Inhabited
structure Loc where
 g:Nat
 b:Nat
 sz:Nat
 ct:Nat
structure Ctx where
 n:Nat
 loc:Nat→Loc
 own:Nat→Prop
 far:Nat→Prop
def Ctx.okB (Γ:Ctx) (w:World) (b:Nat):Prop:=b<w.heap.size∧¬ Γ.own b∧¬ Γ.far b
mutual
def VR (Γ:Ctx) (w:World):AV→Value→Prop
 | .v x,y=>y=x
 | .agg cs,y => ∃vs:List Value,y = .agg vs.toArray∧VRs Γ w cs vs
 | .tup cs,y => ∃vs:List Value,y = .tuple vs.toArray∧VRs Γ w cs vs
 | .fsl es clip,y => ∃A c,y = .slice A es.length c∧es.length≤c∧(clip=true→c=es.length) ∧
   (es=[] ∨ ∃b off sz,A=some ⟨b,off,none⟩∧Γ.okB w b∧0<sz∧(∀e∈es,e.length=sz)∧qhp Γ w sz es (fun j=>w.cell? ⟨b,off+j,none⟩))
 | .fptr cs,y => ∃b off,y = .pointer (some ⟨b,off,none⟩)∧Γ.okB w b∧qi Γ w cs (fun j=>w.cell? ⟨b,off+j,none⟩)
 | .sl o g off len clip,y => ∃A c,y = .slice A len c∧len≤c∧(clip=true→c=len)∧o<Γ.n∧g≤(Γ.loc o).g ∧
   ((Γ.loc o).g=g→off+c≤(Γ.loc o).ct∧(c=0∨A=some ⟨(Γ.loc o).b,off*(Γ.loc o).sz,none⟩))
 | .ptr o g i off,y => ∃p,y = .pointer (some p)∧o<Γ.n∧g≤(Γ.loc o).g∧((Γ.loc o).g=g→p=⟨(Γ.loc o).b,i*(Γ.loc o).sz+off,none⟩)
 | .fn f first cap,y => ∃fs cs:List Value,y = .func f fs.toArray cs.toArray∧VRs Γ w first fs∧VRs Γ w cap cs
 | .yld o,y => ∃l,y = .func (.yield l) #[] #[]∧o<Γ.n∧((Γ.loc o).g=0→l=(Γ.loc o).b)
 | .mp o,y => ∃l,y = .map (some l)∧o<Γ.n∧((Γ.loc o).g=0→l=(Γ.loc o).b)
def VRs (Γ:Ctx) (w:World):List AV→List Value→Prop
 | [],vs=>vs=[]
 |a::as,vs => ∃u us,vs=u::us∧VR Γ w a u∧VRs Γ w as us
def qi (Γ:Ctx) (w:World):List AV→(Nat→Option Value)→Prop
 | [],_=>True
 |a::as,get=>(∃u,get 0=some u∧VR Γ w a u)∧qi Γ w as (fun j=>get (j+1))
def qhp (Γ:Ctx) (w:World) (sz:Nat):List (List AV)→(Nat→Option Value)→Prop
 | [],_=>True
 |e::es,get=>qi Γ w e get∧qhp Γ w sz es (fun j=>get (j+sz))
end
structure Ext (Γ Γ':Ctx) (w w':World):Prop where
 n:Γ.n≤Γ'.n
 size:w.heap.size≤w'.heap.size
 same : ∀b,b<w.heap.size→¬ Γ.own b→w'.heap[b]? = w.heap[b]?
 own : ∀b,Γ'.own b→Γ.own b∨w.heap.size≤b
 far:Γ'.far=Γ.far
 loc : ∀o,o<Γ.n→Γ'.loc o=Γ.loc o∨(Γ.loc o).g<(Γ'.loc o).g
 os:w'.os=w.os
 tape:w'.tape=w.tape
 output:w'.output=w.output
theorem Ext.refl (Γ:Ctx) (w:World):Ext Γ Γ w w:=⟨wa _,wa _,fun _ _ _=>rfl,fun _ h => .inl h,rfl,fun _ _ => .inl rfl,rfl,rfl,rfl⟩
theorem Ext.trans {Γ Γ' Γ'':Ctx} {w w' w'':World} (h:Ext Γ Γ' w w') (k:Ext Γ' Γ'' w' w''):Ext Γ Γ'' w w'' where
 n:=Nat.le_trans h.n k.n
 size:=Nat.le_trans h.size k.size
 same b hb ho:=by
  rw[k.same b (wb hb h.size) (fun hc=>by rcases h.own b hc with h1|h1;exact ho h1;omega),h.same b hb ho]
 own b hb:=by
  rcases k.own b hb with h1|h1
  ·exact h.own b h1
  ·exact .inr (Nat.le_trans h.size h1)
 far:=k.far.trans h.far
 loc o ho:=by
  rcases h.loc o ho with h1|h1<;>rcases k.loc o (wb ho h.n)with h2|h2
  ·exact .inl (h2.trans h1)
  ·right;rw[←h1];exact h2
  ·right;rw[h2];exact h1
  ·right;omega
 os:=k.os.trans h.os
 tape:=k.tape.trans h.tape
 output:=k.output.trans h.output
theorem Ext.okB {Γ Γ':Ctx} {w w':World} (h:Ext Γ Γ' w w') {b:Nat} (hb:Γ.okB w b):Γ'.okB w' b:=by
 obtain⟨h1,h2,h3⟩:=hb
 refine⟨wb h1 h.size,fun hc => ?_,by rw[h.far];exact h3⟩
 rcases h.own b hc with h4|h4
 ·exact h2 h4
 ·omega
theorem Ext.cell {Γ Γ':Ctx} {w w':World} (h:Ext Γ Γ' w w') {b:Nat} (hb:Γ.okB w b) (off:Nat) (s:Option Nat):w'.cell? ⟨b,off,s⟩=w.cell? ⟨b,off,s⟩:=by
 unfold World.cell?
 rw[h.same b hb.1 hb.2.1]
section mono
variable {Γ Γ':Ctx} {w w':World} (h:Ext Γ Γ' w w')
include h
mutual
theorem VR.mono : ∀(a:AV) (y:Value),VR Γ w a y→VR Γ' w' a y
 | .v x,y,hy=>by simpa only[VR]using hy
 | .agg cs,y,hy=>by
  simp only[VR]at hy⊢
  obtain⟨vs,rfl,h2⟩:=hy
  exact⟨vs,rfl,VRs.mono cs vs h2⟩
 | .tup cs,y,hy=>by
  simp only[VR]at hy⊢
  obtain⟨vs,rfl,h2⟩:=hy
  exact⟨vs,rfl,VRs.mono cs vs h2⟩
 | .fsl es clip,y,hy=>by
  simp only[VR]at hy⊢
  obtain⟨A,c,rfl,h1,h2,h3⟩:=hy
  refine⟨A,c,rfl,h1,h2,?_⟩
  rcases h3 with h3|⟨b,off,sz,h4,h5,h6,h7,h8⟩
  ·exact .inl h3
  ·exact .inr ⟨b,off,sz,h4,h.okB h5,h6,h7,qhp.mono sz es _ _ (fun j=>h.cell h5 _ _) h8⟩
 | .fptr cs,y,hy=>by
  simp only[VR]at hy⊢
  obtain⟨b,off,rfl,h5,h6⟩:=hy
  exact⟨b,off,rfl,h.okB h5,qi.mono cs _ _ (fun j=>h.cell h5 _ _) h6⟩
 | .sl o g off len clip,y,hy=>by
  simp only[VR]at hy⊢
  obtain⟨A,c,rfl,h5,h6,h1,h2,h3⟩:=hy
  refine⟨A,c,rfl,h5,h6,wb h1 h.n,?_,?_⟩
  ·rcases h.loc o h1 with h4|h4
   ·rw[h4];exact h2
   ·omega
  ·rcases h.loc o h1 with h4|h4
   ·rw[h4];exact h3
   ·intro hg;omega
 | .ptr o g i off,y,hy=>by
  simp only[VR]at hy⊢
  obtain⟨p,rfl,h1,h2,h3⟩:=hy
  refine⟨p,rfl,wb h1 h.n,?_,?_⟩
  ·rcases h.loc o h1 with h4|h4
   ·rw[h4];exact h2
   ·omega
  ·rcases h.loc o h1 with h4|h4
   ·rw[h4];exact h3
   ·intro hg;omega
 | .fn f first cap,y,hy=>by
  simp only[VR]at hy⊢
  obtain⟨fs,cs,rfl,h1,h2⟩:=hy
  exact⟨fs,cs,rfl,VRs.mono first fs h1,VRs.mono cap cs h2⟩
 | .yld o,y,hy=>by
  simp only[VR]at hy⊢
  obtain⟨l,rfl,h1,h3⟩:=hy
  refine⟨l,rfl,wb h1 h.n,?_⟩
  rcases h.loc o h1 with h4|h4
  ·rw[h4];exact h3
  ·intro hg;omega
 | .mp o,y,hy=>by
  simp only[VR]at hy⊢
  obtain⟨l,rfl,h1,h3⟩:=hy
  refine⟨l,rfl,wb h1 h.n,?_⟩
  rcases h.loc o h1 with h4|h4
  ·rw[h4];exact h3
  ·intro hg;omega
theorem VRs.mono : ∀(as:List AV) (ys:List Value),VRs Γ w as ys→VRs Γ' w' as ys
 | [],ys,hy=>by simpa only[VRs]using hy
 |a::as,ys,hy=>by
  simp only[VRs]at hy⊢
  obtain⟨u,us,rfl,h1,h2⟩:=hy
  exact⟨u,us,rfl,VR.mono a u h1,VRs.mono as us h2⟩
theorem qi.mono : ∀(as:List AV) (get get':Nat→Option Value),(∀j,get' j=get j)→qi Γ w as get→qi Γ' w' as get'
 | [],_,_,_,_=>by simp only[qi]
 |a::as,get,get',hg,hy=>by
  simp only[qi]at hy⊢
  obtain⟨⟨u,h1,h2⟩,h3⟩:=hy
  exact⟨⟨u,(hg 0).trans h1,VR.mono a u h2⟩,qi.mono as _ _ (fun j=>hg (j+1)) h3⟩
theorem qhp.mono (sz:Nat) : ∀(es:List (List AV)) (get get':Nat→Option Value),(∀j,get' j=get j)→qhp Γ w sz es get→qhp Γ' w' sz es get'
 | [],_,_,_,_=>by simp only[qhp]
 |e::es,get,get',hg,hy=>by
  simp only[qhp]at hy⊢
  exact⟨qi.mono e _ _ hg hy.1,qhp.mono sz es _ _ (fun j=>hg (j+sz)) hy.2⟩
end
end mono
end Go.Ev
namespace Go.Ev
inductive Opnd where
 |t (i:Nat)
 |c (a:AV)
 deriving Inhabited
inductive COp where
 |mv (x:Opnd)
 |pick (c a b:Opnd)
 |nilO (sz:Nat)
 |alloc (z:List AV)
 |box (x:Opnd)
 |boxO (sz:Nat) (x:Opnd)
 |boxF (x:Opnd)
 |build (z:List AV) (parts:List (Nat×Nat×Opnd))
 |bsl (z:List AV) (n:Nat) (parts:List (Nat×Opnd))
 |bslF (z:List AV) (n:Nat) (parts:List (Nat×Opnd))
 |ld (sz:Nat) (ag:Bool) (a:Opnd)
 |ldD (sz:Nat) (ag:Bool) (a:Opnd) (av:List Nat)
 |ldF (sz:Nat) (ag:Bool) (a:Opnd)
 |ldK (sz:Nat) (ag:Bool) (a:Opnd) (b off:Nat)
 |isn (fn neg:Bool) (x y:Opnd)
 |mkslF (z:List AV) (bytes:Nat) (l c:Opnd)
 |stA (sz:Nat) (a x:Opnd) (av:List Nat)
 |mkslH (pos:Nat) (z:List AV) (bytes:Nat) (l c:Opnd)
 |appZ (sz bytes:Nat) (s x:Opnd)
 |mkmap (k:IntKind)
 |buildO (z:List AV) (parts:List (Nat×Nat×Opnd)) (os:List (Nat×Nat))
 |mput (k:IntKind) (m key x:Opnd)
 |mget (ok:Bool) (k:IntKind) (z:AV) (m key:Opnd)
 |st (sz:Nat) (a x:Opnd)
 |nilck (x:Opnd)
 |bin (op:BinOp) (x y:Opnd)
 |eqs (neg:Bool) (ks:List Bool) (x y:Opnd)
 |eqb (neg:Bool) (x y:Opnd)
 |un (op:UnOp) (x:Opnd)
 |conv (k:IntKind) (x:Opnd)
 |mkfn (f:Fn) (first cap:List Opnd)
 |mksl (z:List AV) (bytes:Nat) (l c:Opnd)
 |slc (sz:Nat) (x:Opnd) (lo hi mx:Option Opnd)
 |slcS (x:Opnd) (lo hi:Option Opnd)
 |faddr (off:Nat) (x:Opnd)
 |fld (off sz:Nat) (ag:Bool) (x:Opnd)
 |iaddr (sz:Nat) (x i:Opnd)
 |iaddrA (n sz:Nat) (x i:Opnd)
 |iaddrF (sz:Nat) (x i:Opnd)
 |idxS (x i:Opnd)
 |idxA (n sz:Nat) (ag:Bool) (x i:Opnd)
 |ext (k:Nat) (x:Opnd)
 |len (x:Opnd)
 |lenS (x:Opnd)
 |app (sz bytes:Nat) (s x:Opnd)
 |appN (sz bytes:Nat) (s x:Opnd)
 |appF (sz bytes:Nat) (s x:Opnd)
 |frzv (x:Opnd)
 |copy (sz:Nat) (d s:Opnd)
 |mm (mx:Bool) (x y:Opnd)
 |bad
 |cap (x:Opnd)
 |clr (sz:Nat) (z:List AV) (x:Opnd)
 |boxFW (x:Opnd)
 |allocW (z:List AV)
 |allocH (base:Nat) (z:List AV)
 |mkslO (sz bytes:Nat) (l c:Opnd)
 |appB (sz bytes:Nat) (s x:Opnd) (av:List Nat)
 |ldB (sz:Nat) (ag:Bool) (a:Opnd) (base:Nat)
 |appM (sz bytes:Nat) (z:List AV) (s n:Opnd)
 deriving Inhabited
inductive Item' where
 |op (o:COp)
 |callP (k:Nat) (args:List Opnd)
 |callA (k:Nat) (args:List Opnd)
 |callI (k:Nat) (args:List Opnd)
 |callR (k:Nat) (args:List Opnd)
 |callF (k:Nat) (args:List Opnd)
 |callH (k:Nat) (args:List Opnd) (pos:Nat)
 |callv (f:Opnd) (args:List Opnd)
 |callK (f:Opnd) (args:List Opnd) (b off sz:Nat)
 deriving Inhabited
structure COper where
 dst:Option Nat
 guard:Option (Nat×Bool)
 it:Item'
 deriving Inhabited
inductive CCode where
 |skip
 |region (ops:List COper)
 |seq (a b:CCode)
 |cond (c:Opnd) (thn els:CCode)
 |block (id:Nat) (body:CCode)
 |loop (live:List Nat) (trim:Bool) (body:CCode)
 |rangeFunc (f:Opnd) (live params:List Nat) (assign body:CCode)
 |exit (id:Nat)
 |ret
 |ice (t:Nat) (c:CCode)
 deriving Inhabited
inductive CRes where
 |tmp (t:Nat)
 |cell (t sz:Nat) (ag:Bool)
 deriving Inhabited
structure CFunc where
 nargs:Nat
 ntmps:Nat
 results:List CRes
 body:CCode
 deriving Inhabited
structure Env where
 vars:List (Nat×AV)
 marks:List Nat
 deriving Inhabited
def look:List (Nat×AV)→Nat→Option AV
 | [],_=>none
 |(k,v)::r,i=>if k=i then some v else look r i
def Env.get (e:Env) (i:Nat):Option AV:=look e.vars i
def Env.set (e:Env) (d:Option Nat) (v:AV):Env:=
 match d with
 |some k=>⟨(k,v)::e.vars,e.marks⟩
 |none=>e
def qaja:List (Nat×AV)→Nat→List (Nat×AV)
 | [],_=>[]
 |(k,v)::r,i=>if k=i then qaja r i else (k,v)::qaja r i
def Env.forget (e:Env) (d:Option Nat):Env:=
 match d with
 |some k=>⟨qaja e.vars k,e.marks⟩
 |none=>e
def Env.unset (e:Env) (d:Option Nat):Env:=e.set d (.tup [])
def Opnd.ev (e:Env):Opnd→Option AV
 | .t i=>e.get i
 | .c a=>some a
def evs (e:Env):List Opnd→Option (List AV)
 | []=>some []
 |x::xs=>(x.ev e).bind fun a=>(evs e xs).bind fun as=>some (a::as)
inductive SObj where
 |row (sz:Nat) (es:List (List AV)) (g:Nat)
 |loop (env:Env) (params:List Nat) (assign body:CCode) (st:LoopState) (pend:Option (Option Nat))
 |defr
 |dead
 |mp (k:IntKind) (es:List (Int×AV))
 |hole
 deriving Inhabited
abbrev qf:=List SObj
def AV.uc:AV→AV
 | .fsl es _ => .fsl es false
 | .sl o g off len _ => .sl o g off len false
 |x=>x
def AV.cells:AV→List AV
 | .agg cs=>cs
 |x=>[x.uc]
def AV.plain:AV→Bool
 | .v (.agg _)=>false
 | .v (.tuple _)=>false
 | .agg _=>false
 | .tup _=>false
 | _=>true
def qfk:List AV→Bool
 | []=>true
 |a::as=>a.plain&&qfk as
mutual
/-- Every object that it names has a number below n. -/
def AV.lo (n:Nat):AV→Bool
 | .v _=>true
 | .agg cs=>los n cs
 | .tup cs=>los n cs
 | .fsl es _=>qk9 n es
 | .fptr cs=>los n cs
 | .sl o _ _ _ _=>decide (o<n)
 | .ptr o _ _ _=>decide (o<n)
 | .fn _ first cap=>los n first&&los n cap
 | .yld o=>decide (o<n)
 | .mp o=>decide (o<n)
def los (n:Nat):List AV→Bool
 | []=>true
 |a::as=>a.lo n&&los n as
def qk9 (n:Nat):List (List AV)→Bool
 | []=>true
 |e::es=>los n e&&qk9 n es
end
def qy7 (n:Nat):List (Nat×AV)→Bool
 | []=>true
 |(_,a)::r=>a.lo n&&qy7 n r
def q4r (n:Nat):List Nat→Bool
 | []=>true
 |k::r=>decide (k<n)&&q4r n r
def SObj.lo (n:Nat):SObj→Bool
 | .row _ es _=>qk9 n es
 | .loop env .. => qy7 n env.vars
 | .defr=>true
 | .dead=>true
 | .mp _ _=>true
 | .hole=>true
def qer (n:Nat):qf→Bool
 | []=>true
 |o::r=>o.lo n&&qer n r
mutual
def AV.shift (d:Nat):AV→AV
 | .v x => .v x
 | .agg cs => .agg (qlh d cs)
 | .tup cs => .tup (qlh d cs)
 | .fsl es c => .fsl (qlv d es) c
 | .fptr cs => .fptr (qlh d cs)
 | .sl o g off len c => .sl (o+d) g off len c
 | .ptr o g i off => .ptr (o+d) g i off
 | .fn f first cap => .fn f (qlh d first) (qlh d cap)
 | .yld o => .yld (o+d)
 | .mp o => .mp (o+d)
def qlh (d:Nat):List AV→List AV
 | []=>[]
 |a::as=>a.shift d::qlh d as
def qlv (d:Nat):List (List AV)→List (List AV)
 | []=>[]
 |e::es=>qlh d e::qlv d es
end
def qil {α β:Type} (f:α→Option β):List α→Option (List β)
 | []=>some []
 |a::as=>(f a).bind fun b=>(qil f as).bind fun bs=>some (b::bs)
def frz (σ:qf):Nat→AV→Option AV
 | 0,a=>if a.lo 0=true then some a else none
 |d+1,a=>if a.lo 0=true then some a else
  match a with
  | .v x=>some (.v x)
  | .agg cs=>(qil (frz σ d) cs).bind fun cs=>some (.agg cs)
  | .tup cs=>(qil (frz σ d) cs).bind fun cs=>some (.tup cs)
  | .fsl es c=>(qil (qil (frz σ d)) es).bind fun es=>some (.fsl es c)
  | .fptr cs=>(qil (frz σ d) cs).bind fun cs=>some (.fptr cs)
  | .sl o g off len _=>
   match σ[o]? with
   |some (.row _ es g')=>if g=g'∧off+len≤es.length then (qil (qil (frz σ d)) ((es.drop off).take len)).bind fun es=>some (.fsl es false)else none
   | _=>none
  | .ptr o g i off=>
   match σ[o]? with
   |some (.row _ es g')=>if g=g' then (es[i]?).bind fun e=>(qil (frz σ d) (e.drop off)).bind fun cs=>some (.fptr cs)else none
   | _=>none
  | .fn f first cap=>(qil (frz σ d) first).bind fun a=>(qil (frz σ d) cap).bind fun b=>some (.fn f a b)
  | .yld _=>none
  | .mp _=>none
end Go.Ev
namespace Go.Ev
def qyb (sz:Nat) (ag:Bool) (cs:List AV):Option AV:=
 if ag=true then (if sz≤cs.length then some (.agg (cs.take sz))else none)else cs.head?
def qb (σ:qf):AV→Option (List AV)
 | .fptr cs=>some cs
 | .ptr o g i off=>
  match σ[o]? with
  |some (.row _ es g')=>if g=g' then (es[i]?).bind fun c=>some (c.drop off)else none
  | _=>none
 | _=>none
def qdr (σ:qf):AV→Option (List (List AV))
 | .fsl es _=>some es
 | .sl o g off len _=>
  match σ[o]? with
  |some (.row _ es g')=>if g=g'∧off+len≤es.length then some ((es.drop off).take len)else none
  | _=>none
 | .v (.string s)=>some (s.data.toList.map fun b=>[.v (.int .u8 b.toNat)])
 | _=>none
def q6u (e:Env):List AV→List (Nat×Nat×Opnd)→Option (List AV)
 |cs,[]=>some cs
 |cs,(off,size,x)::r=>(x.ev e).bind fun a=>
  if a.cells.length=size∧off+size≤cs.length∧qfk a.cells=true then q6u e (cs.take off++(a.cells++cs.drop (off+size))) r else none
def q37 (e:Env) (sz:Nat):List (List AV)→List (Nat×Opnd)→Option (List (List AV))
 |es,[]=>some es
 |es,(i,x)::r=>(x.ev e).bind fun a=>
  if a.cells.length=sz∧i<es.length∧qfk a.cells=true then q37 e sz (es.set i a.cells) r else none
def qdk (sz:Nat):List (List AV)→Bool
 | []=>true
 |e::es=>decide (e.length=sz)&&(qfk e&&qdk sz es)
def qj1:List Bool→List AV→List AV→Option Bool
 | [],[],[]=>some true
 |true::ks,.v (.int k a)::xs,.v (.int k' b)::ys=>if k=k' then (qj1 ks xs ys).bind fun t=>some (a==b&&t)else none
 |false::ks,.v (.bool a)::xs,.v (.bool b)::ys=>(qj1 ks xs ys).bind fun t=>some (a==b&&t)
 | _,_,_=>none
def qn2 (op:BinOp):AV→AV→Option AV
 | .v (.int k a),.v (.int k' b)=>
  match op with
  | .shl=>if b<0 then none else some (.v (.int k (k.wrap (a*2^(min b.toNat k.bits)))))
  | .shr=>if b<0 then none else some (.v (.int k (a.fdiv (2^(min b.toNat k.bits)))))
  |op=>if k=k' then
   match op with
   | .add=>some (.v (.int k (k.wrap (a+b))))
   | .sub=>some (.v (.int k (k.wrap (a-b))))
   | .mul=>some (.v (.int k (k.wrap (a*b))))
   | .quo=>if b=0 then none else some (.v (.int k (k.wrap (a.tdiv b))))
   | .rem=>if b=0 then none else some (.v (.int k (a.tmod b)))
   | .and=>some (.v (.int k (k.wrap (BitVec.ofInt k.bits a &&& BitVec.ofInt k.bits b).toNat)))
   | .or=>some (.v (.int k (k.wrap (BitVec.ofInt k.bits a ||| BitVec.ofInt k.bits b).toNat)))
   | .xor=>some (.v (.int k (k.wrap (BitVec.ofInt k.bits a ^^^ BitVec.ofInt k.bits b).toNat)))
   | .eql=>some (.v (.bool (a==b)))
   | .neq=>some (.v (.bool (a != b)))
   | .lss=>some (.v (.bool (decide (a<b))))
   | .leq=>some (.v (.bool (decide (a≤b))))
   | .gtr=>some (.v (.bool (decide (a>b))))
   | .geq=>some (.v (.bool (decide (a≥b))))
   | _=>none
   else none
 | .v (.string a),.v (.string b)=>
  match op with
  | .add=>if a.size+b.size≤2^62 then some (.v (.string (a++b)))else none
  | .eql=>some (.v (.bool (a==b)))
  | .neq=>some (.v (.bool (!(a==b))))
  | _=>none
 | _,_=>none
def qpi (e:Env) (d:Int):Option Opnd→Option Int
 |none=>some d
 |some x=>(x.ev e).bind fun a=>match a with | .v (.int _ n)=>some n | _=>none
def q6o (sz bytes : Nat) (a : AV) (xs : List (List AV)) (σ : qf) : Option (AV × qf) :=
  match a with
  | .sl o g off len c => if qdk sz xs = true then
    (match σ[o]? with
    | some (.row rs es g') =>
      if g = g' ∧ off = 0 ∧ rs = sz ∧ len ≤ es.length ∧ (len + xs.length) * bytes ≤ 2 ^ 47 then
        (if xs = [] then some (.sl o g off len c, σ)
        else some (.sl o (g + 1) 0 (len + xs.length) false, σ.set o (.row rs (es.take len ++ xs) (g + 1)))) else none
    | _ => none) else none
  | .fsl es true => if 0 < sz ∧ qdk sz (es ++ xs) = true ∧ (es.length + xs.length) * bytes ≤ 2 ^ 47 then
      (if xs = [] ∧ es ≠ [] then some (.fsl es true, σ) else some (.sl σ.length 0 0 (es.length + xs.length) false, σ ++ [.row sz (es ++ xs) 0])) else none
  | _ => none
def q53 (a:AV) (σ:qf):Option (AV×qf):=
 match a with
 | .sl o g off len _=>
  match σ[o]? with
  |some (.row _ es g')=>if g=g'∧off+len≤es.length then some (.fsl ((es.drop off).take len) false,σ.set o .dead)else none
  | _=>none
 |a=>some (a,σ)
def qai8 (σ:qf) (cs:List AV):List (Nat×Nat)→Option (List AV×qf)
 | []=>some (cs,σ)
 |(off,sz)::r=>match cs[off]? with
  |some (.fsl [] true)=>if 0<sz then qai8 (σ++[.row sz [] 0]) (cs.set off (.sl σ.length 0 0 0 false)) r else none
  | _=>none
def qajc (n:Int) (v:AV):List (Int×AV)→List (Int×AV)
 | []=>[(n,v)]
 |p::r=>if p.1=n then (n,v)::r else p::qajc n v r
def qaln (n:Int):List (Int×AV)→Option AV
 | []=>none
 |p::r=>if p.1=n then some p.2 else qaln n r
def gotL (ok:Bool) (z:AV):Option AV→AV
 |some v=>if ok=true then .tup [v,.v (.bool true)]else v
 |none=>if ok=true then .tup [z,.v (.bool false)]else z
def AV.obj? : AV→Option Nat
 | .sl o .. => some o
 | .ptr o .. => some o
 | .mp o=>some o
 | _=>none
def q0c (e:Env) (p:AV):List Nat→Bool
 | []=>true
 |t::r=>match e.get t with
  |some (.ptr o _ _ _)=>(match p.obj? with|some o' => !(o==o')|none=>true)&&q0c e p r
  | _=>false
def qajw (e:Env) (p:AV) (t:Nat):Bool:=match p.obj? with
 |none=>true
 |some o=>match e.get t with
  |some (.ptr o' _ _ _)=>o==o'
  | _=>false
def qakb (e:Env) (p:AV) (b off:Nat):Bool:=match p,e.get b with
 | .ptr o g i f,some (.ptr o' g' i' f')=>o==o'&&(g==g'&&(i==i'&&f==f'+off))
 | _,_=>false
def isNil (fn:Bool) (x y:AV):Option Bool:=match fn,x,y with
 |true,.v .nilFunc,.v .nilFunc=>some true
 |true,.fn _ _ _,.v .nilFunc=>some false
 |false,.v (.pointer none),.v (.pointer none)=>some true
 |false,.ptr _ _ _ _,.v (.pointer none)=>some false
 |false,.fptr _,.v (.pointer none)=>some false
 | _,_,_=>none
def nilB (neg t:Bool):Bool:=if neg=true then !t else t
def stP (sz:Nat) (p y:AV) (σ:qf):Option (AV×qf):=match p with
 | .ptr o g i off=>
  match σ[o]? with
  |some (.row rs es g')=>
   (es[i]?).bind fun c=>
   if g=g'∧off+sz≤c.length∧y.cells.length=sz∧qfk y.cells=true then
    some (.v (.tuple #[]),σ.set o (.row rs (es.set i (c.take off++(y.cells++c.drop (off+sz)))) g'))
   else none
  | _=>none
 | _=>none
def AV.isV:AV→Bool
 | .v _=>true
 | _=>false
def qdy (e : Env) (σ : qf) : COp → Option (AV × qf)
  | .mv x => (x.ev e).bind fun a => some (a, σ)
  | .pick c a b => (c.ev e).bind fun t => match t with
    | .v (.bool t) => (if t = true then a.ev e else b.ev e).bind fun r => some (r, σ)
    | _ => none
  | .nilO sz => if 0 < sz then some (.sl σ.length 0 0 0 false, σ ++ [.row sz [] 0]) else none
  | .alloc z => if z ≠ [] ∧ qfk z = true then some (.ptr σ.length 0 0 0, σ ++ [.row z.length [z] 0]) else none
  | .box x => (x.ev e).bind fun a => if a.cells ≠ [] ∧ qfk a.cells = true then some (.ptr σ.length 0 0 0, σ ++ [.row a.cells.length [a.cells] 0]) else none
  | .boxO sz x => (x.ev e).bind fun a => match a with
    | .fsl [] true => if 0 < sz then some (.ptr (σ.length + 1) 0 0 0, σ ++ [.row sz [] 0, .row 1 [[.sl σ.length 0 0 0 false]] 0]) else none
    | _ => none
  | .boxF x => (x.ev e).bind fun a => if a.cells ≠ [] ∧ qfk a.cells = true then some (.fptr a.cells, σ) else none
  | .build z parts => (q6u e z parts).bind fun cs => some (.agg cs, σ)
  | .bsl z n parts => (q37 e z.length (we n z) parts).bind fun es =>
    if z ≠ [] ∧ n ≠ 0 ∧ n * z.length ≤ 2 ^ 24 then some (.sl σ.length 0 0 n true, σ ++ [.row z.length es 0]) else none
  | .bslF z n parts => (q37 e z.length (we n z) parts).bind fun es =>
    if z ≠ [] ∧ n * z.length ≤ 2 ^ 24 then some (.fsl es true, σ) else none
  | .ld sz ag a => (a.ev e).bind fun p => (qb σ p).bind fun cs => (qyb sz ag cs).bind fun r => some (r, σ)
  | .ldF sz ag a => (a.ev e).bind fun p => match p with
    | .fptr cs => (qyb sz ag cs).bind fun r => some (r, σ)
    | _ => none
  | .ldK sz ag a b off => (a.ev e).bind fun p => if qakb e p b off = true then (qb σ p).bind fun cs => (qyb sz ag cs).bind fun r => some (r, σ) else none
  | .isn fn neg x y => (x.ev e).bind fun a => (y.ev e).bind fun b => match isNil fn a b with
    | some t => some (.v (.bool (nilB neg t)), σ)
    | none => none
  | .mkslH pos z bytes l c => (l.ev e).bind fun l => (c.ev e).bind fun c => match l, c with
    | .v (.int .i64 l), .v (.int .i64 c) => match σ[pos]? with
      | some .hole => if 0 ≤ l ∧ l ≤ c ∧ bytes * c ≤ 2 ^ 47 ∧ c ≤ 2 ^ 62 ∧ z ≠ [] ∧ qfk z = true then
          some (.sl pos 1 0 l.toNat (decide (l = c)), σ.set pos (.row z.length (we c.toNat z) 1)) else none
      | _ => none
    | _, _ => none
  | .mkslF z bytes l c => (l.ev e).bind fun l => (c.ev e).bind fun c => match l, c with
    | .v (.int .i64 l), .v (.int .i64 c) => if l = c ∧ 0 ≤ c ∧ bytes * c ≤ 2 ^ 47 ∧ c ≤ 2 ^ 62 ∧ z ≠ [] ∧ qfk z = true then some (.fsl (we c.toNat z) true, σ) else none
    | _, _ => none
  | .stA sz a x av => (a.ev e).bind fun p => if q0c e p av = true then (x.ev e).bind fun y => stP sz p y σ else none
  | .ldD sz ag a av => (a.ev e).bind fun p => if q0c e p av = true then (qb σ p).bind fun cs => (qyb sz ag cs).bind fun r => some (r, σ) else none
  | .buildO z parts os => (q6u e z parts).bind fun cs => (qai8 σ cs os).bind fun (cs, σ) => some (.agg cs, σ)
  | .mkmap k => some (.mp σ.length, σ ++ [.mp k []])
  | .mput k m key x => (m.ev e).bind fun p => (key.ev e).bind fun i => (x.ev e).bind fun y => match p, i with
    | .mp o, .v (.int k' n) => match σ[o]? with
      | some (.mp k2 es) => if k = k' ∧ k = k2 ∧ y.lo 0 = true then some (.v (.tuple #[]), σ.set o (.mp k (qajc n y es))) else none
      | _ => none
    | _, _ => none
  | .mget ok k z m key => (m.ev e).bind fun p => (key.ev e).bind fun i => match p, i with
    | .mp o, .v (.int k' n) => match σ[o]? with
      | some (.mp k2 es) => if k = k' ∧ k = k2 then some (gotL ok z (qaln n es), σ) else none
      | _ => none
    | _, _ => none
  | .st sz a x => (a.ev e).bind fun p => (x.ev e).bind fun y => stP sz p y σ
  | .nilck x => (x.ev e).bind fun a => match a with
    | .fptr cs => some (.fptr cs, σ)
    | .ptr o g i off => some (.ptr o g i off, σ)
    | _ => none
  | .bin op x y => (x.ev e).bind fun a => (y.ev e).bind fun b => (qn2 op a b).bind fun r => some (r, σ)
  | .eqs neg ks x y => (x.ev e).bind fun a => (y.ev e).bind fun b =>
    match a, b with
    | .agg a, .agg b => (qj1 ks a b).bind fun t => some (.v (.bool (if neg = true then !t else t)), σ)
    | _, _ => none
  | .eqb neg x y => (x.ev e).bind fun a => (y.ev e).bind fun b =>
    match a, b with
    | .v (.bool a), .v (.bool b) => some (.v (.bool (if neg = true then !(a == b) else a == b)), σ)
    | _, _ => none
  | .un op x => (x.ev e).bind fun a => match op, a with
    | .not, .v (.bool b) => some (.v (.bool !b), σ)
    | .neg, .v (.int k n) => some (.v (.int k (k.wrap (0 - n))), σ)
    | _, _ => none
  | .conv k x => (x.ev e).bind fun a => match a with
    | .v (.int _ n) => some (.v (.int k (k.wrap n)), σ)
    | _ => none
  | .mkfn f first cap => (evs e first).bind fun a => (evs e cap).bind fun b => some (.fn f a b, σ)
  | .mksl z bytes l c => (l.ev e).bind fun l => (c.ev e).bind fun c => match l, c with
    | .v (.int .i64 l), .v (.int .i64 c) =>
      if 0 ≤ l ∧ l ≤ c ∧ bytes * c ≤ 2 ^ 47 ∧ c ≤ 2 ^ 62 ∧ z ≠ [] ∧ qfk z = true then
        some (.sl σ.length 0 0 l.toNat (decide (l = c)), σ ++ [.row z.length (we c.toNat z) 0]) else none
    | _, _ => none
  | .slc sz x lo hi mx => (x.ev e).bind fun a => match a with
    | .fsl es clip =>
      (qpi e 0 lo).bind fun l => (qpi e es.length hi).bind fun h => (qpi e h mx).bind fun m =>
      if 0 ≤ l ∧ l ≤ h ∧ h ≤ es.length ∧ h ≤ m ∧ m ≤ es.length ∧ qdk sz es = true ∧ (mx.isSome = true → hi.isSome = true) then
        some (.fsl ((es.drop l.toNat).take (h.toNat - l.toNat)) (if mx.isSome = true then decide (m = h) else clip && decide (h = es.length)), σ) else none
    | .sl o g off len clip =>
      match σ[o]? with
      | some (.row rs _ g') =>
        (qpi e 0 lo).bind fun l => (qpi e len hi).bind fun h => (qpi e h mx).bind fun m =>
        if 0 ≤ l ∧ l ≤ h ∧ h ≤ len ∧ h ≤ m ∧ m ≤ len ∧ rs = sz ∧ g = g' ∧ (mx.isSome = true → hi.isSome = true) then
          some (.sl o g (off + l.toNat) (h.toNat - l.toNat) (if mx.isSome = true then decide (m = h) else clip && decide (h = len)), σ) else none
      | _ => none
    | _ => none
  | .slcS x lo hi => (x.ev e).bind fun a => match a with
    | .v (.string s) =>
      (qpi e 0 lo).bind fun l => (qpi e s.size hi).bind fun h =>
      if 0 ≤ l ∧ l ≤ h ∧ h ≤ s.size then some (.v (.string (s.extract l.toNat h.toNat)), σ) else none
    | _ => none
  | .faddr off x => (x.ev e).bind fun a => match a with
    | .fptr cs => some (.fptr (cs.drop off), σ)
    | .ptr o g i f => some (.ptr o g i (f + off), σ)
    | _ => none
  | .fld off sz ag x => (x.ev e).bind fun a => match a with
    | .agg cs => (qyb sz ag (cs.drop off)).bind fun r => some (r, σ)
    | _ => none
  | .iaddr sz x i => (x.ev e).bind fun a => (i.ev e).bind fun n => match n with
    | .v (.int _ n) => if 0 ≤ n then (match a with
      | .fsl es _ => (es[n.toNat]?).bind fun c => if c.length = sz then some (.fptr c, σ) else none
      | .sl o g off len _ =>
        match σ[o]? with
        | some (.row rs es g') => if g = g' ∧ rs = sz ∧ n.toNat < len then some (.ptr o g (off + n.toNat) 0, σ) else none
        | _ => none
      | _ => none) else none
    | _ => none
  | .iaddrF sz x i => (x.ev e).bind fun a => (i.ev e).bind fun n => match n with
    | .v (.int _ n) => if 0 ≤ n then (match a with
      | .fsl es _ => (es[n.toNat]?).bind fun c => if c.length = sz then some (.fptr c, σ) else none
      | _ => none) else none
    | _ => none
  | .iaddrA k sz x i => (x.ev e).bind fun a => (i.ev e).bind fun n => match n with
    | .v (.int _ n) => if 0 ≤ n ∧ n.toNat < k then (match a with
      | .fptr cs => some (.fptr (cs.drop (n.toNat * sz)), σ)
      | .ptr o g j off => some (.ptr o g j (off + n.toNat * sz), σ)
      | _ => none) else none
    | _ => none
  | .idxS x i => (x.ev e).bind fun a => (i.ev e).bind fun n => match a, n with
    | .v (.string s), .v (.int _ n) => if 0 ≤ n then (s.data.toList[n.toNat]?).bind fun b => some (.v (.int .u8 b.toNat), σ) else none
    | _, _ => none
  | .idxA k sz ag x i => (x.ev e).bind fun a => (i.ev e).bind fun n => match a, n with
    | .agg cs, .v (.int _ n) => if 0 ≤ n ∧ n.toNat < k then (qyb sz ag (cs.drop (n.toNat * sz))).bind fun r => some (r, σ) else none
    | _, _ => none
  | .ext k x => (x.ev e).bind fun a => match a with
    | .tup cs => (cs[k]?).bind fun r => some (r, σ)
    | _ => none
  | .len x => (x.ev e).bind fun a => match a with
    | .fsl es _ => some (.v (.int .i64 es.length), σ)
    | .sl _ _ _ len _ => some (.v (.int .i64 len), σ)
    | _ => none
  | .lenS x => (x.ev e).bind fun a => match a with
    | .v (.string s) => some (.v (.int .i64 s.size), σ)
    | _ => none
  | .app sz bytes s x => (s.ev e).bind fun a => (x.ev e).bind fun y => (qdr σ y).bind fun xs => q6o sz bytes a xs σ
  | .appZ sz bytes s x => (s.ev e).bind fun a => (x.ev e).bind fun y => (qdr σ y).bind fun xs => (q6o sz bytes a xs σ).bind fun (r, σ') => q53 r σ'
  | .appN sz bytes s x => (s.ev e).bind fun a => (x.ev e).bind fun y => (qdr σ y).bind fun xs =>
    match a with
      | .fsl es true => if 0 < sz ∧ qdk sz (es ++ xs) = true ∧ (es.length + xs.length) * bytes ≤ 2 ^ 47 then
          (if xs = [] ∧ es ≠ [] then some (.fsl es true, σ) else some (.sl σ.length 0 0 (es.length + xs.length) false, σ ++ [.row sz (es ++ xs) 0])) else none
      | _ => none
  | .appF sz bytes s x => (s.ev e).bind fun a => (x.ev e).bind fun y => (qdr σ y).bind fun xs =>
    match a with
      | .fsl es true => if 0 < sz ∧ qdk sz (es ++ xs) = true ∧ (es.length + xs.length) * bytes ≤ 2 ^ 47 then
          (if xs = [] then some (.fsl es true, σ) else some (.fsl (es ++ xs) false, σ ++ [.dead])) else none
      | _ => none
  | .frzv x => (x.ev e).bind fun a => match a with
    | .sl o g off len _ =>
      match σ[o]? with
      | some (.row _ es g') => if g = g' ∧ off + len ≤ es.length then some (.fsl ((es.drop off).take len) false, σ.set o .dead) else none
      | _ => none
    | a => some (a, σ)
  | .copy sz d s => (d.ev e).bind fun a => (s.ev e).bind fun y => if y.isV = true then none else (qdr σ y).bind fun xs =>
    match a with
      | .sl o g off len _ =>
        match σ[o]? with
        | some (.row rs es g') => if g = g' ∧ rs = sz ∧ off + len ≤ es.length ∧ qdk sz (xs.take len) = true then
            some (.v (.int .i64 (min xs.length len : Nat)), σ.set o (.row rs (es.take off ++ ((xs.take len) ++ es.drop (off + min xs.length len))) g')) else none
        | _ => none
      | _ => none
  | .mm mx x y => (x.ev e).bind fun a => (y.ev e).bind fun b => match a, b with
    | .v (.int k a), .v (.int _ b) => some (.v (.int k (if mx = true then (if b > a then b else a) else (if b < a then b else a))), σ)
    | _, _ => none
  | .bad => none
  | .cap x => (x.ev e).bind fun a => match a with
    | .fsl es true => some (.v (.int .i64 es.length), σ)
    | .sl _ _ _ len true => some (.v (.int .i64 len), σ)
    | _ => none
  | .clr sz z x => (x.ev e).bind fun a => match a with
    | .fsl [] _ => some (.v (.tuple #[]), σ)
    | .sl o g off len _ =>
      match σ[o]? with
      | some (.row rs es g') => if g = g' ∧ rs = sz ∧ off + len ≤ es.length ∧ qfk z = true then
          some (.v (.tuple #[]), σ.set o (.row rs (es.take off ++ (we len z ++ es.drop (off + len))) g')) else none
      | _ => none
    | _ => none
  | .boxFW x => (x.ev e).bind fun a => if a.cells ≠ [] ∧ qfk a.cells = true then some (.fptr a.cells, σ ++ [.hole]) else none
  | .allocW z => if z ≠ [] ∧ qfk z = true then some (.ptr σ.length 0 0 0, σ ++ [.row z.length [z] 0, .hole]) else none
  | .allocH base z => (e.get base).bind fun p => match p with
    | .ptr o _ _ _ => match σ[o + 1]? with
      | some .hole => if z ≠ [] ∧ qfk z = true then some (.ptr (o + 1) 1 0 0, σ.set (o + 1) (.row z.length [z] 1)) else none
      | _ => none
    | _ => none
  | .mkslO sz bytes l c => (l.ev e).bind fun l => (c.ev e).bind fun c => match l, c with
    | .v (.int .i64 l), .v (.int .i64 c) =>
      if l = c ∧ 0 ≤ c ∧ bytes * c ≤ 2 ^ 47 ∧ c ≤ 2 ^ 62 ∧ 0 < sz then
        some (.sl (σ.length + c.toNat) 0 0 c.toNat true, σ ++ (we c.toNat (.row sz [] 0) ++ [.row 1 ((List.range c.toNat).map fun i => [.sl (σ.length + i) 0 0 0 false]) 0])) else none
    | _, _ => none
  | .appB sz bytes s x av => (s.ev e).bind fun a => if q0c e a av = true then (x.ev e).bind fun y => (qdr σ y).bind fun xs => q6o sz bytes a xs σ else none
  | .appM sz bytes z s n => (s.ev e).bind fun a => (n.ev e).bind fun k => match a, k with
    | .fsl es true, .v (.int _ k) => if 0 < k ∧ 0 < sz ∧ qdk sz (es ++ we k.toNat z) = true ∧ (es.length + k.toNat) * bytes ≤ 2 ^ 47 then
        some (.sl σ.length 0 0 (es.length + k.toNat) false, σ ++ [.row sz (es ++ we k.toNat z) 0]) else none
    | _, _ => none
  | .ldB sz ag a base => (a.ev e).bind fun p => if qajw e p base = true then (qb σ p).bind fun cs => (qyb sz ag cs).bind fun r => some (r, σ) else none
inductive CExit where
 |normal
 |exit (id:Nat)
 |ret
 deriving Inhabited,DecidableEq
structure Orc where
 call:Nat→List AV→qf→Option (AV×qf)
 round:Nat→List AV→qf→Option (AV×qf)
 ent:Nat→Bool
abbrev R3:=Option (CExit×Env×qf)
abbrev qads:=(Env→qf→R3)→(Env→qf→Option (Env×qf))→Env→qf→R3
def q2m (d:Nat):SObj→Option SObj
 | .row sz es g=>some (.row sz (qlv d es) g)
 | .mp k es=>some (.mp k es)
 | _=>none
def qanu:Value→Value→Bool
 | .bool a,.bool b=>a==b
 | .int k n,.int k' n'=>decide (k=k')&&decide (n=n')
 | .pointer none,.pointer none=>true
 | .slice none a b,.slice none c d=>a==c&&b==d
 | .nilFunc,.nilFunc=>true
 | .tuple ⟨[]⟩,.tuple ⟨[]⟩=>true
 | _,_=>false
mutual
def AV.eqB:AV→AV→Bool
 | .v x,.v y=>qanu x y
 | .agg a,.agg b=>qabj a b
 | .tup a,.tup b=>qabj a b
 | .fsl a c,.fsl b d=>qx1 a b&&c==d
 | .fptr a,.fptr b=>qabj a b
 | .sl o g off len c,.sl o' g' off' len' c'=>o==o'&&(g==g'&&(off==off'&&(len==len'&&c==c')))
 | .ptr o g i off,.ptr o' g' i' off'=>o==o'&&(g==g'&&(i==i'&&off==off'))
 | .fn f a b,.fn f' a' b'=>decide (f=f')&&(qabj a a'&&qabj b b')
 | .mp o,.mp o'=>o==o'
 | _,_=>false
def qabj:List AV→List AV→Bool
 | [],[]=>true
 |a::as,b::bs=>a.eqB b&&qabj as bs
 | _,_=>false
def qx1:List (List AV)→List (List AV)→Bool
 | [],[]=>true
 |a::as,b::bs=>qabj a b&&qx1 as bs
 | _,_=>false
end
def eqBm:List (Int×AV)→List (Int×AV)→Bool
 | [],[]=>true
 |a::as,b::bs=>a.1==b.1&&(a.2.eqB b.2&&eqBm as bs)
 | _,_=>false
def SObj.eqB:SObj→SObj→Bool
 | .row sz es g,.row sz' es' g'=>sz==sz'&&(g==g'&&qx1 es es')
 | .defr,.defr=>true
 | .dead,.dead=>true
 | .mp k es,.mp k' es'=>decide (k=k')&&eqBm es es'
 | _,_=>false
def qyo:qf→qf→Bool
 | [],[]=>true
 |a::as,b::bs=>a.eqB b&&qyo as bs
 | _,_=>false
def qada:List AV→qf→Option (List AV×qf)
 | [],σ=>some ([],σ)
 |a::as,σ=>(q53 a σ).bind fun x=>(qada as x.2).bind fun y=>some (x.1::y.1,y.2)
def giveG (a:AV) (σ:qf):Option (AV×qf):=match a with
 | .agg cs=>(qada cs σ).bind fun x=>some (.agg x.1,x.2)
 |a=>q53 a σ
def q5f:List AV→qf→Option (List AV×qf)
 | [],σ=>some ([],σ)
 |a::as,σ=>(giveG a σ).bind fun x=>(q5f as x.2).bind fun y=>some (x.1::y.1,y.2)
def qe2 (e:Env) (σ τ:qf) (b off sz:Nat):Bool:=match e.get b with
 |some (.ptr o _ i f)=>match σ[o]?,τ[o]? with
  |some (.row _ es g1),some (.row _ es' g2)=>match es[i]?,es'[i]? with
   |some c,some c'=>g1==g2&&qabj ((c.drop (f+off)).take sz) ((c'.drop (f+off)).take sz)
   | _,_=>false
  | _,_=>false
 | _=>false
def qae (O:Orc) (e:Env) (σ:qf):Item'→Option (AV×qf)
 | .op o=>qdy e σ o
 | .callP k args=>(evs e args).bind fun as=>if los 0 as=true then (O.call k as []).bind fun(r,σ')=>(frz σ' 6 r).bind fun r'=>some (r',σ)else none
 | .callA k args=>(evs e args).bind fun as=>if los 0 as=true then (O.call k as []).bind fun(r,σ')=>
   (qil (q2m σ.length) σ').bind fun τ=>some (r.shift σ.length,σ++τ)else none
 | .callI k args=>(evs e args).bind fun as=>O.call k as σ
 | .callR k args=>(evs e args).bind fun as=>(O.call k as σ).bind fun(r,σ')=>if qyo σ σ'=true then some (r,σ)else none
 | .callF k args=>(evs e args).bind fun as=>(q5f as σ).bind fun x=>if los 0 x.1=true then (O.call k x.1 []).bind fun(r,σ')=>(frz σ' 6 r).bind fun r'=>some (r',x.2)else none
 | .callH k args pos=>(evs e args).bind fun as=>if los 0 as=true then (O.call k as []).bind fun(r,τ)=>match r with
  | .sl o g 0 len cl=>match τ[o]? with
   |some (.row sz es g')=>if g=g' then (qil (qil (frz (τ.set o .dead) 5)) es).bind fun es'=>match σ[pos]? with
    |some .hole=>some (.sl pos 1 0 len cl,σ.set pos (.row sz es' 1))
    | _=>none else none
   | _=>none
  | _=>none else none
 | .callv f args=>(f.ev e).bind fun g=>(evs e args).bind fun as=>match g with
  | .fn (.func k) first cap=>O.call k (first++(as++cap)) σ
  | .yld o=>O.round o as σ
  | _=>none
 | .callK f args b off sz=>(f.ev e).bind fun g=>(evs e args).bind fun as=>match g with
  | .fn (.func k) first cap=>(O.call k (first++(as++cap)) σ).bind fun x=>if qe2 e σ x.2 b off sz=true then some x else none
  | _=>none
def qgy (O:Orc) (e:Env) (σ:qf) (o:COper):Option (Env×qf):=
 match o.guard with
 |none=>(qae O e σ o.it).bind fun(r,σ')=>some (e.set o.dst r,σ')
 |some (t,want)=>(e.get t).bind fun b=>match b with
  | .v (.bool b)=>if b=want then (qae O e σ o.it).bind fun(r,σ')=>some (e.set o.dst r,σ')else some (e.unset o.dst,σ)
  | .tup []=>some (e.unset o.dst,σ)
  | _=>none
def qah (O:Orc):List COper→Env→qf→Option (Env×qf)
 | [],e,σ=>some (e,σ)
 |o::r,e,σ=>(qgy O e σ o).bind fun(e',σ')=>qah O r e' σ'
def keep (e:Env):List Nat→List (Nat×AV)
 | []=>[]
 |t::r=>match e.get t with
  |some a=>(t,a)::keep e r
  |none=>keep e r
def qao (live:List Nat) (trim:Bool) (n:Nat) (e:Env) (σ:qf):Option (Env×qf):=
 if trim=true then
  (if qy7 n (keep e live)=true∧q4r n e.marks=true∧qer n (σ.take n)=true then some (⟨keep e live,e.marks⟩,σ.take n)else none)
 else some (⟨keep e live,e.marks⟩,σ)
def qsj:Env→List Nat→List AV→Option Env
 |e,[],[]=>some e
 |e,p::ps,a::as=>qsj (e.set (some p) a) ps as
 | _,_,_=>none
def qw4 (O:Orc) (k:Nat) (first cap:List AV) (e1:Env) (σ:qf) (lp:SObj):R3:=
 if O.ent k=true then
 (O.call k (first++(.yld σ.length::cap)) (σ++[lp])).bind fun(_,σ2)=>
 match σ2[σ.length]? with
 |some (.loop e2 ps as' body' st pend)=>
  if st ≠ .busy then
   match pend with
   |none=>some (.normal,e1,σ2.set σ.length (.loop e2 ps as' body' .exhausted pend))
   |some none=>some (.ret,e1,σ2.set σ.length (.loop e2 ps as' body' .exhausted pend))
   |some (some id)=>some (.exit id,e1,σ2.set σ.length (.loop e2 ps as' body' .exhausted pend))
  else none
 | _=>none
 else none
def iceE (t:Nat) (e:Env) (σ:qf):Option (Env×qf):=(e.get t).bind fun a=>match a with
 | .sl o g off len _=>match σ[o]? with
  |some (.row _ es g')=>if g=g'∧off+len≤es.length then some (e.set (some t) (.fsl ((es.drop off).take len) false),σ.set o .dead)else none
  | _=>none
 | .ptr o g i _=>match σ[o]? with
  |some (.row sz es g')=>if g=g' then (es[i]?).bind fun c=>(qada c σ).bind fun x=>match x.2[o]? with
    |some (.row _ _ g2)=>if g2=g' then some (e,x.2.set o (.row sz (es.set i x.1) g'))else none
    | _=>none
   else none
  | _=>none
 | .v _=>some (e,σ++[.hole])
 | _=>none
def exec (O:Orc) (I:qads) (ro:Option Nat):CCode→Env→qf→R3
 | .skip,e,σ=>some (.normal,e,σ)
 | .region ops,e,σ=>(qah O ops e σ).bind fun(e',σ')=>some (.normal,e',σ')
 | .seq a b,e,σ=>(exec O I ro a e σ).bind fun(x,e',σ')=>match x with
  | .normal=>exec O I ro b e' σ'
  |x=>some (x,e',σ')
 | .cond c a b,e,σ=>(c.ev e).bind fun t=>match t with
  | .v (.bool t)=>if t=true then exec O I ro a e σ else exec O I ro b e σ
  | _=>none
 | .block id c,e,σ=>(exec O I ro c e σ).bind fun(x,e',σ')=>match x with
  | .exit id'=>if id'=id then some (.normal,e',σ')else some (.exit id',e',σ')
  |x=>some (x,e',σ')
 | .loop live trim c,e,σ=>I (exec O I ro c) (qao live trim σ.length) e σ
 | .rangeFunc f live params as body,e,σ=>(f.ev e).bind fun g=>match g with
  | .fn (.func k) first cap=>
   match ro with
   |none=>qw4 O k first cap ⟨e.vars,σ.length::e.marks⟩ (σ++[.defr]) (.loop ⟨keep e live,[]⟩ params as body .ready none)
   |some l0=>match σ[l0]? with
    |some (.loop ..)=>qw4 O k first cap e σ (.loop ⟨keep e live,[]⟩ params as body .ready none)
    | _=>none
  | _=>none
 | .exit id,e,σ=>some (.exit id,e,σ)
 | .ret,e,σ=>some (.ret,e,σ)
 | .ice t c,e,σ=>(iceE t e σ).bind fun(e,σ)=>exec O I ro c e σ
def q5j (e:Env) (σ:qf):CRes→Option AV
 | .tmp t=>e.get t
 | .cell t sz ag=>(e.get t).bind fun p=>(qb σ p).bind fun cs=>qyb sz ag cs
def qrb (e:Env) (σ:qf):List CRes→Option (List AV)
 | []=>some []
 |r::rs=>(q5j e σ r).bind fun a=>(qrb e σ rs).bind fun as=>some (a::as)
def ql:List AV→AV
 | [a]=>a
 |as => .tup as
def kill (σ:qf):List Nat→Option qf
 | []=>some σ
 |m::ms=>match σ[m]? with
  |some .defr=>kill (σ.set m .dead) ms
  | _=>none
def qx6 (n:Nat) (r:AV) (σ:qf):AV×qf:=
 if r.lo n=true∧qer n (σ.take n)=true then (r,σ.take n)else (r,σ)
def qxi:Nat→List AV→List (Nat×AV)
 | _,[]=>[]
 |i,a::as=>(i,a)::qxi (i+1) as
def qxf (O:Orc) (I:qads) (f:CFunc) (args:List AV) (σ:qf):Option (AV×qf):=
 if args.length=f.nargs then
  (exec O I none f.body ⟨qxi 0 args,[]⟩ σ).bind fun(x,e,σ')=>match x with
   | .exit _=>none
   | _=>(kill σ' e.marks).bind fun σ''=>(qrb e σ'' f.results).bind fun rs=>some (qx6 σ.length (ql rs) σ'')
 else none
def qxb (O:Orc) (I:qads) (l:Nat) (args:List AV) (σ:qf):Option (AV×qf):=
 match σ[l]? with
 |some (.loop e ps as body .ready none)=>
  (qsj ⟨e.vars,[]⟩ ps args).bind fun e1=>(exec O I (some l) as e1 σ).bind fun(x,e2,σ2)=>
  if x = .normal then
   match σ2[l]? with
   |some (.loop e' ps' as' body' .ready none)=>
    (exec O I (some l) body e2 (σ2.set l (.loop e' ps' as' body' .busy none))).bind fun(x,_,σ3)=>
    match σ3[l]? with
    |some (.loop e' ps' as' body' .busy none)=>
     match x with
     | .normal=>some (qx6 σ.length (.v (.bool true)) (σ3.set l (.loop e' ps' as' body' .ready none)))
     | .ret=>some (qx6 σ.length (.v (.bool false)) (σ3.set l (.loop e' ps' as' body' .done (some none))))
     | .exit id=>some (qx6 σ.length (.v (.bool false)) (σ3.set l (.loop e' ps' as' body' .done (some (some id)))))
    | _=>none
   | _=>none
  else none
 | _=>none
def qs7:Nat→qads
 | 0,_,_,_,_=>none
 |m+1,f,s,e,σ=>(s e σ).bind fun(e1,σ1)=>(f e1 σ1).bind fun(x,e2,σ2)=>match x with
  | .normal=>qs7 m f s e2 σ2
  |x=>some (x,e2,σ2)
structure Tab where
 code:Nat→Option CFunc
 ext:Nat→Option (List AV→Option (AV×qf))
 ins:Nat→Option (Nat×Nat):=fun _=>none
def insF (sz bytes:Nat):List AV→qf→Option (AV×qf)
 | [.sl o g off len _,.v (.int .i64 i),.fsl [x] _],σ=>match σ[o]? with
  |some (.row rs es g')=>if g=g'∧off=0∧rs=sz∧0<sz∧0<bytes∧len≤es.length∧0≤i∧i.toNat≤len∧qdk sz [x]=true∧qdk sz (es.take len)=true∧(len+1)*bytes≤2^47 then
    some (.sl o (g+2) 0 (len+1) false,σ.set o (.row sz (es.take i.toNat++(x::(es.take len).drop i.toNat)) (g+2)))else none
  | _=>none
 | _,_=>none
def evF (T : Tab) : Nat → Orc
  | 0 => ⟨fun _ _ _ => none, fun _ _ _ => none, fun k => (T.ext k).isNone && (T.ins k).isNone⟩
  | n + 1 => ⟨fun k args σ => match T.ext k with
      | some F => if los 0 args = true ∧ σ = [] then F args else none
      | none => match T.ins k with
        | some p => insF p.1 p.2 args σ
        | none => (T.code k).bind fun f => qxf (evF T n) (qs7 n) f args σ,
    fun l args σ => qxb (evF T n) (qs7 n) l args σ, fun k => (T.ext k).isNone && (T.ins k).isNone⟩
end Go.Ev
namespace Go.Ev
def ofLeaf:Value→AV
 | .slice none 0 0 => .fsl [] false
 |x => .v x
def ofTop:Value→AV
 | .slice none 0 0 => .fsl [] true
 |x => .v x
def ofV:Value→AV
 | .agg cs => .agg (cs.toList.map ofLeaf)
 |x=>ofTop x
structure Hints where
 frz:List Nat:=[]
 appN:List Nat:=[]
 appF:List Nat:=[]
 frzv:List Nat:=[]
 mA:List Nat:=[]
 mI:List Nat:=[]
 mR:List Nat:=[]
 mF:List Nat:=[]
 own:List Nat:=[]
 ldx:List (Nat×Nat):=[]
 ownB:List (Nat×Nat×Nat):=[]
 ldF:List Nat:=[]
 appZ:List Nat:=[]
 topZ:List Nat:=[]
 bad:Bool:=false
 holes:List Nat:=[]
 fillB:List (Nat×Nat):=[]
 fillC:List (Nat×Nat):=[]
 ownS:List (Nat×Nat):=[]
 appB:List (Nat×Nat):=[]
 ldB:List (Nat×Nat):=[]
 ice:List (Nat×Nat):=[]
 ldK:List (Nat×Nat×Nat):=[]
 keep:List (Nat×Nat×Nat×Nat):=[]
 stA:List (Nat×Nat):=[]
 icA:List (Nat×Nat):=[]
 loops:List (List Nat×Bool):=[]
def qe0:Operand→Option Opnd
 | .tmp t=>some (.t t)
 | .const (.func ..)=>none
 | .const v=>some (.c (ofV v))
 | .func f=>some (.c (.fn (.func f) [] []))
 | .global _=>none
def q8h (l:List Operand):Option (List Opnd):=qil qe0 l
def cOpt:Option Operand→Option (Option Opnd)
 |none=>some none
 |some x=>(qe0 x).bind fun y=>some (some y)
section
variable (P:Program)
def q5s (t:TypeId):Bool:=match P.underlying t with|some (.struct _)|some (.array _ _)=>true | _=>false
def szT (t:TypeId):Option Nat:=(P.info? t).map (·.size)
def byT (t:TypeId):Option Nat:=(P.info? t).map (·.bytes)
def zT (t:TypeId):Option (List AV):=
 (P.info? t).bind fun i=>i.zero.bind fun z=>if z.cells.size=i.size then some (z.cells.toList.map ofLeaf)else none
def qz7 (t:TypeId):Option TypeId:=match P.underlying t with|some (.slice e)=>some e | _=>none
def qst (l:List Nat) (d:Option Nat):Bool:=match d with|some k=>l.contains k|none=>false
def qadd (t:TypeId):Option Bool:=
 match P.underlying t with
 |some .bool=>if szT P t=some 1 then some false else none
 |some (.int _)=>if szT P t=some 1 then some true else none
 | _=>none
def q9h:Nat→List Field→Option (List Bool)
 | _,[]=>some []
 | off, f :: fs => if f.name ≠ "_" ∧ f.offset = off then (qadd P f.type).bind fun k => (q9h (off + 1) fs).bind fun ks => some (k :: ks) else none
def qahh (t:TypeId):Option (List Bool):=
 match P.underlying t with
 |some (.array n e)=>(qadd P e).bind fun k=>some (we n k)
 |some (.struct fs)=>if P.stoodInHeld t=false then q9h P 0 fs.toList else none
 | _=>none
def mapT (t:TypeId):Option (IntKind×AV):=match P.underlying t with
 |some (.map kt et)=>match P.underlying kt with
  |some (.int k)=>(P.info? et).bind fun i=>i.zero.bind fun z=>some (k,ofLeaf z)
  | _=>none
 | _=>none
def tmpOf:Operand→Option Nat
 | .tmp t=>some t
 | _=>none
def qalx (t:TypeId):Option (List AV):=(zT P t).bind fun _=>(P.info? t).bind fun i=>i.zero.bind fun z=>some (z.cells.toList.map ofTop)
def zH (top:Bool) (t:TypeId):Option (List AV):=if top=true then qalx P t else zT P t
def qu3 (l:List (Nat×Nat×Nat)):Option Nat→List (Nat×Nat)
 |some d=>(l.filter (·.1==d)).map (·.2)
 |none=>[]
def keepOf (l:List (Nat×Nat×Nat×Nat)):Option Nat→List (Nat×Nat×Nat)
 |some d=>(l.filter (·.1==d)).map (·.2)
 |none=>[]
def qxn (l:List (Nat×Nat)):Option Nat→List Nat
 |some d=>(l.filter (·.1==d)).map (·.2)
 |none=>[]
def cOp (h:Hints) (o:Oper):Option COp:=
 match o.op with
 | .move x=>(qe0 x).bind fun x=>if qst h.frzv o.dst=true then some (.frzv x)else some (.mv x)
 | .assign x=>
  if qst h.own o.dst=true then
   match x with
   | .const (.slice none 0 0)=>(qz7 P o.type).bind fun e=>(szT P e).bind fun s=>some (.nilO s)
   | .const _=>none
   |x=>(qe0 x).bind fun x=>some (.mv x)
  else (qe0 x).bind fun x=>some (.mv x)
 | .pick c a b=>(qe0 c).bind fun c=>(qe0 a).bind fun a=>(qe0 b).bind fun b=>some (.pick c a b)
 | .alloc t=>(zH P (qst h.topZ o.dst) t).bind fun z=>if qst h.holes o.dst=true then some (.allocW z)else match qxn h.fillB o.dst with
  | []=>some (.alloc z)
  |b :: _=>some (.allocH b z)
 | .box t x=>(qe0 x).bind fun x=>if qst h.frz o.dst=true then (if qst h.holes o.dst=true then some (.boxFW x)else some (.boxF x))else if qst h.own o.dst=true then (qz7 P t).bind fun e=>(szT P e).bind fun s=>some (.boxO s x)else some (.box x)
 | .build t parts=>
  (zT P t).bind fun z=>match P.underlying t with
  |some (.struct fs)=>(fs.toList.mapM (fun f=>(P.info? f.type).map fun i=>(f.offset,i.size))).bind fun places=>
   (qil (fun(i,x)=>(places[i]?).bind fun p=>(qe0 x).bind fun x=>some (p.1,p.2,x)) parts.toList).bind fun ps=>
    match qu3 h.ownB o.dst with | []=>(if qst h.topZ o.dst=true then (qalx P t).bind fun z=>some (.build z ps)else some (.build z ps))|os=>(qalx P t).bind fun z=>some (.buildO z ps os)
  |some (.array _ e)=>(szT P e).bind fun s=>(qil (fun(i,x)=>(qe0 x).bind fun x=>some (i*s,s,x)) parts.toList).bind fun ps=>some (.build z ps)
  | _=>none
 | .buildSlice t n parts=>
  (qz7 P t).bind fun e=>(zT P e).bind fun z=>
  (qil (fun(i,x)=>(qe0 x).bind fun x=>some (i,x)) parts.toList).bind fun ps=>
  if qst h.own o.dst=true then some (.bsl z n ps)else some (.bslF z n ps)
 | .load t a=>(szT P t).bind fun s=>(qe0 a).bind fun a=>if (P.underlying t).isSome=true∧(q5s P t=true∨s=1)then if qst h.ldF o.dst=true then some (.ldF s (q5s P t) a)else (match qxn h.ldx o.dst with | []=>(match qxn h.ldB o.dst with | []=>(match qu3 h.ldK o.dst with | []=>some (.ld s (q5s P t) a)|(b,off) :: _=>if 0<s then some (.ldK s (q5s P t) a b off)else none)|b :: _=>some (.ldB s (q5s P t) a b))|av=>some (.ldD s (q5s P t) a av))else none
 | .store t a x=>(szT P t).bind fun s=>(qe0 a).bind fun a'=>(qe0 x).bind fun x=>match qxn h.stA (tmpOf a)with | []=>some (.st s a' x)|av=>some (.stA s a' x av)
 | .makeMap t none=>(mapT P t).bind fun(k,_)=>some (.mkmap k)
 | .insert t m key x | .mapUpdate t m key x=>(mapT P t).bind fun(k,_)=>(qe0 m).bind fun m=>(qe0 key).bind fun key=>(qe0 x).bind fun x=>some (.mput k m key x)
 | .lookup t m key ok=>(mapT P t).bind fun(k,z)=>(qe0 m).bind fun m=>(qe0 key).bind fun key=>some (.mget ok k z m key)
 | .nilCheck x=>(qe0 x).bind fun x=>some (.nilck x)
 | .binOp op t x y _=>
  (qe0 x).bind fun x'=>(qe0 y).bind fun y'=>
  match op,P.underlying t with
  | .eql,some (.struct _) | .eql,some (.array ..)=>(qahh P t).bind fun s=>some (.eqs false s x' y')
  | .neq,some (.struct _) | .neq,some (.array ..)=>(qahh P t).bind fun s=>some (.eqs true s x' y')
  | .eql,some .bool=>some (.eqb false x' y')
  | .neq,some .bool=>some (.eqb true x' y')
  | .eql,some (.func ..)=>some (.isn true false x' y')
  | .neq,some (.func ..)=>some (.isn true true x' y')
  | .eql,some (.pointer _)=>some (.isn false false x' y')
  | .neq,some (.pointer _)=>some (.isn false true x' y')
  | _,some (.int _)=>some (.bin op x' y')
  | _,some .string=>some (.bin op x' y')
  | _,_=>none
 | .unOp op _ x=>(qe0 x).bind fun x=>some (.un op x)
 | .convert s d x=>(qe0 x).bind fun x=>match P.underlying s,P.underlying d with
  |some (.int _),some (.int k)=>some (.conv k x)
  | _,_=>none
 | .makeFunc f first cap=>(q8h first.toList).bind fun a=>(q8h cap.toList).bind fun b=>some (.mkfn f a b)
 | .makeSlice t l c=>(qz7 P t).bind fun e=>(zH P (qst h.topZ o.dst) e).bind fun z=>(byT P e).bind fun b=>(qe0 l).bind fun l=>(qe0 c).bind fun c=>if qst h.frz o.dst=true then some (.mkslF z b l c)else match qxn h.fillC o.dst with|pos :: _=>some (.mkslH pos z b l c) | []=>match qxn h.ownS o.dst,z with|sz :: _,[.fsl [] true]=>some (.mkslO sz b l c) | _,_=>some (.mksl z b l c)
 | .slice t x lo hi mx=>
  (qe0 x).bind fun x=>(cOpt lo).bind fun lo=>(cOpt hi).bind fun hi=>(cOpt mx).bind fun mx=>
  match P.underlying t with
  |some (.slice el)=>(szT P el).bind fun sz=>some (.slc sz x lo hi mx)
  |some .string=>if mx.isNone=true then some (.slcS x lo hi)else none
  | _=>none
 | .fieldAddr t x f=>
  match P.underlying t with
  |some (.struct fs)=>(fs[f]?).bind fun fd=>(szT P fd.type).bind fun s=>if s=0 then none else (qe0 x).bind fun x=>some (.faddr fd.offset x)
  | _=>none
 | .field t x f=>
  match P.underlying t with
  |some (.struct fs)=>(fs[f]?).bind fun fd=>(szT P fd.type).bind fun s=>if s=0 then none else if (P.underlying fd.type).isSome=true∧(q5s P fd.type=true∨s=1)then (qe0 x).bind fun x=>some (.fld fd.offset s (q5s P fd.type) x)else none
  | _=>none
 | .indexAddr t x i=>
  (qe0 x).bind fun x=>(qe0 i).bind fun i=>
  match P.underlying t with
  |some (.slice e)=>(szT P e).bind fun s=>if s=0 then none else if qst h.ldF o.dst=true then some (.iaddrF s x i)else some (.iaddr s x i)
  |some (.array n e)=>(szT P e).bind fun s=>if s=0 then none else some (.iaddrA n s x i)
  | _=>none
 | .index t x i=>
  (qe0 x).bind fun x=>(qe0 i).bind fun i=>
  match P.underlying t with
  |some .string=>some (.idxS x i)
  |some (.array n e)=>(szT P e).bind fun s=>if s=0 then none else if (P.underlying e).isSome=true∧(q5s P e=true∨s=1)then some (.idxA n s (q5s P e) x i)else none
  | _=>none
 | .extract x k=>(qe0 x).bind fun x=>some (.ext k x)
 | .call c=>
  match c.callee,c.args.toList with
  | .builtin .len,[x]=>match (c.argTypes[0]?).bind P.underlying with
   |some (.slice _)=>(qe0 x).bind fun x=>some (.len x)
   |some .string=>(qe0 x).bind fun x=>some (.lenS x)
   | _=>none
  | .builtin .cap,[x]=>match (c.argTypes[0]?).bind P.underlying with
   |some (.slice _)=>(qe0 x).bind fun x=>some (.cap x)
   | _=>none
  | .builtin .clear,[x]=>match (c.argTypes[0]?).bind P.underlying with
   |some (.slice e)=>(zT P e).bind fun z=>(szT P e).bind fun sz=>(qe0 x).bind fun x=>if sz=0 then none else some (.clr sz z x)
   | _=>none
  | .builtin .append,[s,x]=>match c.argTypes[0]?,(c.argTypes[1]?).bind P.underlying with
   |some t,some (.slice _)|some t,some .string=>(qz7 P t).bind fun e=>(szT P e).bind fun sz=>(byT P e).bind fun b=>(qe0 s).bind fun s=>(qe0 x).bind fun x=>
    if sz=0∨b=0∨(zT P e).isNone=true then none else if qst h.appN o.dst=true then some (.appN sz b s x)else if qst h.appF o.dst=true then some (.appF sz b s x)else if qst h.appZ o.dst=true then some (.appZ sz b s x)else match qxn h.appB o.dst with | []=>some (.app sz b s x)|av=>some (.appB sz b s x av)
   |some t,some (.int _)=>(qz7 P t).bind fun e=>(szT P e).bind fun sz=>(byT P e).bind fun b=>(zT P e).bind fun z=>(qe0 s).bind fun s=>(qe0 x).bind fun x=>if b=0 then none else some (.appM sz b z s x)
   | _,_=>none
  | .builtin .copy,[d,s]=>match c.argTypes[0]?,(c.argTypes[1]?).bind P.underlying with
   |some t,some (.slice _)=>(qz7 P t).bind fun e=>(szT P e).bind fun sz=>(qe0 d).bind fun d=>(qe0 s).bind fun s=>if sz=0 then none else some (.copy sz d s)
   | _,_=>none
  | .builtin .max,[x,y]=>(qe0 x).bind fun x=>(qe0 y).bind fun y=>some (.mm true x y)
  | .builtin .min,[x,y]=>(qe0 x).bind fun x=>(qe0 y).bind fun y=>some (.mm false x y)
  | _,_=>none
 | _=>none
def qabb (h:Hints) (o:Oper):Option Item':=
 match o.op with
 | .call { callee:=.value f,args,.. }=>
  (q8h args.toList).bind fun as=>
  match keepOf h.keep o.dst with
  |(b,off,sz) :: _=>(qe0 f).bind fun f=>some (.callK f as b off sz)
  | []=>
  match f with
  | .func k=>match qxn h.fillC o.dst with
   |pos :: _=>some (.callH k as pos)
   | []=>if qst h.mA o.dst=true then some (.callA k as)else if qst h.mI o.dst=true then some (.callI k as)else if qst h.mR o.dst=true then some (.callR k as)else if qst h.mF o.dst=true then some (.callF k as)else some (.callP k as)
  |f=>(qe0 f).bind fun f=>some (.callv f as)
 | _=>(cOp P h o).bind fun c=>some (.op c)
def qair:Op→Bool
 | .defer _=>false
 | _=>true
def qagx (h:Hints) (o:Oper):Option Item':=
 match qabb P h o with
 |some it=>some it
 |none=>if h.bad=true∧qair o.op=true then some (.op .bad)else none
def qakc (n:Nat):Option Nat→Bool
 |some d=>decide (d<n)
 |none=>true
def q8m (h:Hints) (n:Nat) (ops:Array Oper) (o:Oper):Option COper:=
 if qakc n o.dst=true then
  (qagx P h o).bind fun it=>
  match o.guard with
  |none=>some ⟨o.dst,none,it⟩
  |some (j,want)=>((ops[j]?).bind (·.dst)).bind fun t=>some ⟨o.dst,some (t,want),it⟩
 else none
inductive Kind where
 |pure|load|alloc|write|read|room|fill
 deriving DecidableEq
def COp.kind:COp→Kind
 | .ld .. | .ldK .. | .ldD .. | .ldB .. | .iaddr .. | .slc .. | .mget .. => .load
 | .buildO .. | .mkmap _ | .nilO _ | .alloc _ | .box _ | .boxO .. | .bsl .. | .mksl .. | .mkslO .. | .appM .. | .appN .. | .appF .. => .alloc
 | .boxFW _ | .allocW _ => .room
 | .allocH .. | .mkslH .. => .fill
 | .st .. | .stA .. | .mput .. | .appZ .. | .app .. | .frzv _ | .copy .. | .bad | .clr .. | .appB .. => .write
 | _ => .pure
def Item'.kind:Item'→Kind
 | .op o=>o.kind
 | .callP .. => .pure
 | .callA .. => .alloc
 | .callI .. | .callF .. | .callv .. | .callK .. => .write
 | .callR .. => .read
 | .callH .. => .fill
def Kind.free:Kind→Kind→Bool
 | .pure,_ | _,.pure | .load,.load | .load,.alloc | .alloc,.load | .load,.read | .read,.load | .read,.read | .load,.room | .room,.load | .load,.fill | .alloc,.fill=>true
 | _,_=>false
def optT:Option Opnd→List Nat
 |some (.t i)=>[i]
 | _=>[]
def opT:Opnd→List Nat
 | .t i=>[i]
 | _=>[]
def qaf1:List Opnd→List Nat
 | []=>[]
 |x::xs=>opT x++qaf1 xs
def COp.reads:COp→List Nat
 | .mv x | .frzv x | .box x | .boxO _ x | .boxF x | .boxFW x | .cap x | .clr _ _ x | .ldF _ _ x | .ld _ _ x | .nilck x | .un _ x | .conv _ x | .faddr _ x | .fld _ _ _ x | .ext _ x | .len x | .lenS x=>opT x
 | .pick a b c | .mput _ a b c=>opT a++(opT b++opT c)
 | .ldD _ _ a av=>opT a++av
 | .ldB _ _ a b=>opT a++[b]
 | .ldK _ _ a b _=>opT a++[b]
 | .appB _ _ a b av=>opT a++(opT b++av)
 | .stA _ a b av=>opT a++(opT b++av)
 | .allocH b _=>[b]
 | .mkmap _ | .nilO _ | .alloc _ | .allocW _ | .bad=>[]
 | .build _ ps | .buildO _ ps _=>qaf1 (ps.map (·.2.2))
 | .bsl _ _ ps | .bslF _ _ ps=>qaf1 (ps.map (·.2))
 | .mget _ _ _ a b | .isn _ _ a b | .mkslF _ _ a b | .mkslH _ _ _ a b | .st _ a b | .bin _ a b | .eqs _ _ a b | .eqb _ a b | .mksl _ _ a b | .mkslO _ _ a b | .appM _ _ _ a b | .iaddr _ a b | .iaddrA _ _ a b | .iaddrF _ a b | .idxS a b | .idxA _ _ _ a b | .app _ _ a b | .appZ _ _ a b | .appN _ _ a b | .appF _ _ a b | .copy _ a b | .mm _ a b=>opT a++opT b
 | .mkfn _ a b=>qaf1 a++qaf1 b
 | .slc _ x l h m=>opT x++(optT l++(optT h++optT m))
 | .slcS x l h=>opT x++(optT l++optT h)
def COper.reads (o:COper):List Nat:=
 (match o.guard with|some (t,_)=>[t]|none=>[]) ++
 match o.it with
 | .op c=>c.reads
 | .callP _ as | .callA _ as | .callI _ as | .callR _ as | .callF _ as | .callH _ as _=>qaf1 as
 | .callv f as=>opT f++qaf1 as
 | .callK f as b _ _=>opT f++(qaf1 as++[b])
def disj (d:Option Nat) (l:List Nat):Bool:=match d with|some k => !l.contains k|none=>true
def qagz (a b:Item'):Bool:=match a,b with
 | .op (.ldD _ _ _ av),.op (.st _ (.t t) _)=>av.contains t
 | .op (.ldB _ _ _ b),.op (.appB _ _ _ _ av)=>av.contains b
 | .op (.ldB _ _ _ b),.op (.stA _ _ _ av)=>av.contains b
 | .op (.ldK s _ _ b off),.callK _ _ b' off' s'=>b==b'&&(off==off'&&(s==s'&&decide (0<s)))
 | .callK _ _ b' off' s',.op (.ldK s _ _ b off)=>b==b'&&(off==off'&&(s==s'&&decide (0<s)))
 | _,_=>false
def qaiw (a b:COper):Bool:=
 (a.it.kind.free b.it.kind||qagz a.it b.it)&&(disj a.dst b.reads&&(disj b.dst a.reads&&(match a.dst,b.dst with|some x,some y=>x != y | _,_=>true)))
def bits (acc:List Nat):List Edge→Nat
 | []=>0
 |e::r=>if Region.binds .any e=true then (2^e.on ||| (acc.getD e.on 0 ||| bits acc r))else bits acc r
def qalo:List Oper→List Nat→List Nat
 | [],acc=>acc
 |o::r,acc=>qalo r (acc++[bits acc o.after.toList])
def q8c:List Oper→Nat→Bool
 | [],_=>true
 |o::r,i=>o.after.toList.all (fun e => !Region.binds .any e||decide (e.on<i))&&q8c r (i+1)
def rowOk (b:COper) (bj:Nat):List COper→Nat→Bool
 | [],_=>true
 |a::r,i=>(bj.testBit i||qaiw a b)&&rowOk b bj r (i+1)
def qaea (done:List COper):List COper→List Nat→Bool
 |b::r,bj::bs=>rowOk b bj done 0&&qaea (done++[b]) r bs
 | [],_=>true
 | _,[]=>false
def qak8 (ops:Array Oper) (cs:List COper):Bool:=
 q8c ops.toList 0&&qaea [] cs (qalo ops.toList [])
def iceOf (h:Hints):Code→Option Nat
 | .region id _ _=>(h.ice.find? fun p=>p.1==id).map (·.2)
 | _=>none
def iceW:Option Nat→CCode→CCode
 |none,c=>c
 |some t,c => .ice t c
def icAOf (h:Hints) (id:Nat):Option Nat:=(h.icA.find? fun p=>p.1==id).map (·.2)
def iceB:Option Nat→CCode→CCode
 |none,c=>c
 |some t,c => .seq c (.ice t .skip)
def cReg (h:Hints) (n:Nat) (ops:Array Oper) (draw:Bool) (i:Nat):Option (CCode×Nat):=
 (qil (q8m P h n ops) ops.toList).bind fun cs=>if draw=true then (if qak8 ops cs=true then some (.region cs,i)else none)else some (.region cs,i)
def qla (h:Hints) (n:Nat):Code→Nat→Option (CCode×Nat)
 | .skip,i=>some (.skip,i)
 | .region id ops draw,i=>(cReg P h n ops draw i).bind fun(c',i)=>some (iceB (icAOf h id) c',i)
 | .seq a b,i=>(qla h n a i).bind fun(a',i)=>(qla h n b i).bind fun(b',i)=>some (iceW (iceOf h a) (.seq a' b'),i)
 | .cond c a b,i=>(qe0 c).bind fun c'=>(qla h n a i).bind fun(a',i)=>(qla h n b i).bind fun(b',i)=>some (.cond c' a' b',i)
 | .block id c,i=>(qla h n c i).bind fun(c',i)=>some (.block id c',i)
 | .loop c,i=>(h.loops[i]?).bind fun(l,t)=>(qla h n c (i+1)).bind fun(c',i)=>some (.loop l t c',i)
 | .rangeFunc f ps as c,i=>
  if ps.toList.all (fun p=>decide (p<n))=true then
  (h.loops[i]?).bind fun(l,_)=>(qe0 f).bind fun f'=>(qla h n as (i+1)).bind fun(as',i)=>(qla h n c i).bind fun(c',i)=>some (.rangeFunc f' l ps.toList as' c',i)else none
 | .exit id,i=>some (.exit id,i)
 | .scope c,i=>qla h n c i
 | .label _,i=>some (.skip,i)
 | .ret,i=>some (.ret,i)
 | _,_=>none
def cRes (n:Nat):ResultVar→Option CRes
 | .tmp t=>some (.tmp t)
 | .cell t ty=>(szT P ty).bind fun s=>if (P.underlying ty).isSome=true∧(q5s P ty=true∨s=1)then some (.cell t s (q5s P ty))else none
def qdq (h:Hints) (k:Nat):Option CFunc:=
 (P.funcs[k]?).bind fun fn=>fn.body.bind fun c=>
 if (fn.name == "runtime.NumGoroutine") = false ∧ fn.params.size + fn.nfree ≤ fn.ntmps then
  (qla P h fn.ntmps c 0).bind fun(c',_)=>(qil (cRes P fn.ntmps) fn.results.toList).bind fun rs=>some ⟨fn.params.size+fn.nfree,fn.ntmps,rs,c'⟩
 else none
end
end Go.Ev
namespace Go.Ev
variable {Γ Γ':Ctx} {w w':World}
theorem VRs.length : ∀ {as:List AV} {vs:List Value},VRs Γ w as vs→vs.length=as.length
 | [],vs,h=>by simp only[VRs]at h;simp[h]
 |a::as,vs,h=>by
  simp only[VRs]at h
  obtain⟨u,us,rfl,_,h2⟩:=h
  simp[VRs.length h2]
theorem VRs.append : ∀ {as bs:List AV} {vs us:List Value},VRs Γ w as vs→VRs Γ w bs us→VRs Γ w (as++bs) (vs++us)
 | [],bs,vs,us,h,k=>by simp only[VRs]at h;simpa[h]using k
 |a::as,bs,vs,us,h,k=>by
  simp only[VRs]at h
  obtain⟨u,us',rfl,h1,h2⟩:=h
  simp only[wk,VRs]
  exact⟨u,_,rfl,h1,VRs.append h2 k⟩
theorem VRs.get : ∀ {as:List AV} {vs:List Value},VRs Γ w as vs → ∀ {i:Nat} {a:AV},as[i]? = some a → ∃v,vs[i]? = some v∧VR Γ w a v
 | [],vs,_,i,a,h=>by simp at h
 |b::as,vs,h,i,a,hi=>by
  simp only[VRs]at h
  obtain⟨u,us,rfl,h1,h2⟩:=h
  cases i with
  |zero=>simp at hi;subst hi;exact⟨u,by simp,h1⟩
  |succ i=>simpa using VRs.get h2 (by simpa using hi)
theorem VRs.take : ∀(n:Nat) {as:List AV} {vs:List Value},VRs Γ w as vs→VRs Γ w (as.take n) (vs.take n)
 | 0,as,vs,h=>by simp[VRs]
 |n+1,[],vs,h=>by simp only[VRs]at h;simp[h,VRs]
 |n+1,a::as,vs,h=>by
  simp only[VRs]at h
  obtain⟨u,us,rfl,h1,h2⟩:=h
  simp only[List.take_succ_cons,VRs]
  exact⟨u,_,rfl,h1,VRs.take n h2⟩
theorem VRs.drop : ∀(n:Nat) {as:List AV} {vs:List Value},VRs Γ w as vs→VRs Γ w (as.drop n) (vs.drop n)
 | 0,as,vs,h=>by simpa using h
 |n+1,[],vs,h=>by simp only[VRs]at h;simp[h,VRs]
 |n+1,a::as,vs,h=>by
  simp only[VRs]at h
  obtain⟨u,us,rfl,h1,h2⟩:=h
  simpa using VRs.drop n h2
theorem VRs.of_get : ∀ {as:List AV} {vs:List Value},vs.length=as.length→(∀(i:Nat) (a:AV) (v:Value),as[i]? = some a→vs[i]? = some v→VR Γ w a v)→VRs Γ w as vs
 | [],vs,h,_=>by simp only[VRs];exact wg.1 (by simpa using h)
 |a::as,[],h,_=>by simp at h
 |a::as,v::vs,h,k=>by
  simp only[VRs]
  exact⟨v,vs,rfl,k 0 a v (by simp) (by simp),VRs.of_get (by simpa using h) fun i b u hb hu=>k (i+1) b u (by simpa using hb) (by simpa using hu)⟩
theorem qi.list : ∀ {as:List AV} {get:Nat→Option Value},qi Γ w as get → ∃vs,VRs Γ w as vs ∧ ∀j v,vs[j]? = some v→get j=some v
 | [],get,_=>⟨[],by simp[VRs],by simp⟩
 |a::as,get,h=>by
  simp only[qi]at h
  obtain⟨⟨u,h1,h2⟩,h3⟩:=h
  obtain⟨vs,h4,h5⟩:=qi.list h3
  refine⟨u::vs,by simp only[VRs];exact⟨u,vs,rfl,h2,h4⟩,fun j v hj => ?_⟩
  cases j with
  |zero=>simp at hj;subst hj;exact h1
  |succ j=>exact h5 j v (by simpa using hj)
theorem qi.of_list : ∀ {as:List AV} {vs:List Value} {get:Nat→Option Value},VRs Γ w as vs→(∀j v,vs[j]? = some v→get j=some v)→qi Γ w as get
 | [],vs,get,_,_=>by simp only[qi]
 |a::as,vs,get,h,k=>by
  simp only[VRs]at h
  obtain⟨u,us,rfl,h1,h2⟩:=h
  simp only[qi]
  exact⟨⟨u,k 0 u (by simp),h1⟩,qi.of_list h2 fun j v hj=>k (j+1) v (by simpa using hj)⟩
theorem qi.append_iff : ∀ {as bs:List AV} {get:Nat→Option Value},qi Γ w (as++bs) get↔qi Γ w as get∧qi Γ w bs (fun j=>get (j+as.length))
 | [],bs,get=>by simp[qi]
 |a::as,bs,get=>by
  simp only[wk,qi,qi.append_iff (as:=as),List.length_cons,and_assoc]
  constructor
  ·rintro⟨h1,h2,h3⟩;exact⟨h1,h2,by simpa[Nat.add_assoc]using h3⟩
  ·rintro⟨h1,h2,h3⟩;exact⟨h1,h2,by simpa[Nat.add_assoc]using h3⟩
theorem qi.drop {as:List AV} {get:Nat→Option Value} (n:Nat) (h:qi Γ w as get) (hn:n≤as.length):qi Γ w (as.drop n) (fun j=>get (j+n)):=by
 rw[←List.take_append_drop n as,qi.append_iff]at h
 have:=h.2
 simpa[wh,wi hn]using this
theorem qi.take {as:List AV} {get:Nat→Option Value} (n:Nat) (h:qi Γ w as get):qi Γ w (as.take n) get:=by
 rw[←List.take_append_drop n as,qi.append_iff]at h
 exact h.1
theorem qi.congr {as:List AV} {get get':Nat→Option Value} (h:qi Γ w as get) (hg : ∀j,get' j=get j):qi Γ w as get':=by
 rwa[show get'=get from funext hg]
theorem qmw {sz:Nat} : ∀ {es:List (List AV)} {get:Nat→Option Value},(∀e∈es,e.length=sz)→(qhp Γ w sz es get↔qi Γ w es.flatten get)
 | [],get,_=>by simp[qhp,qi]
 |e::es,get,h=>by
  have he:=h e (by simp)
  simp only[qhp,wf,qi.append_iff,he]
  rw[qmw (fun x hx=>h x (by simp[hx]))]
theorem tl {sz:Nat} {e:List AV} {es:List (List AV)} (h : ∀x∈e::es,x.length=sz) : ∀x∈es,x.length=sz:=fun x hx=>h x (List.mem_cons_of_mem _ hx)
theorem qbo {sz:Nat} : ∀ {es:List (List AV)},(∀e∈es,e.length=sz)→es.flatten.length=es.length*sz
 | [],_=>by simp
 |e::es,h=>by
  rw[wf,List.length_append,qbo (tl h),h e (by simp),List.length_cons,wj];omega
theorem qii {sz:Nat} : ∀(n:Nat) {es:List (List AV)},(∀e∈es,e.length=sz)→(es.take n).flatten=es.flatten.take (n*sz)
 | 0,es,_=>by simp
 |n+1,[],_=>by simp
 |n+1,e::es,h=>by
  have he:=h e (by simp)
  rw[List.take_succ_cons,wf,qii n (tl h),wf,List.take_append,he]
  have:(n+1)*sz-sz=n*sz:=by rw[wj];omega
  rw[this,ztl (l:=e) (by rw[he,wj];omega)]
theorem qot {sz:Nat} : ∀(n:Nat) {es:List (List AV)},(∀e∈es,e.length=sz)→(es.drop n).flatten=es.flatten.drop (n*sz)
 | 0,es,_=>by simp
 |n+1,[],_=>by simp
 |n+1,e::es,h=>by
  have he:=h e (by simp)
  rw[List.drop_succ_cons,qot n (tl h),wf,List.drop_append,he]
  have:(n+1)*sz-sz=n*sz:=by rw[wj];omega
  rw[this,wl (as:=e) (by rw[he,wj];omega),List.nil_append]
theorem qqa {sz:Nat} {es:List (List AV)} (h : ∀e∈es,e.length=sz) {i:Nat} (hi:i<es.length) (c:List AV) :
  (es.set i c).flatten=es.flatten.take (i*sz)++(c++es.flatten.drop ((i+1)*sz)):=by
 rw[List.set_eq_take_append_cons_drop,if_pos hi,wn,wf,qii i h,qot (i+1) h]
theorem qqg {sz:Nat} {es:List (List AV)} (h : ∀e∈es,e.length=sz) {i:Nat} {c:List AV} (hi:es[i]? = some c) :
  es.flatten=es.flatten.take (i*sz)++(c++es.flatten.drop ((i+1)*sz)):=by
 obtain⟨hl,rfl⟩:=zei.1 hi
 rw[←qqa h hl,List.set_getElem_self]
theorem qtd {es:List (List AV)} {i:Nat} {c:List AV} (hi:es[i]? = some c):c∈es:=zmg hi
theorem qi.elem {sz:Nat} {es:List (List AV)} (h : ∀e∈es,e.length=sz) {get:Nat→Option Value} (hv:qi Γ w es.flatten get) {i:Nat} {c:List AV} (hi:es[i]? = some c) :
  qi Γ w c (fun j=>get (j+i*sz)):=by
 have hc:=h c (qtd hi)
 have hl:i<es.length:=(zei.1 hi).1
 rw[qqg h hi,qi.append_iff,qi.append_iff]at hv
 have h2:=hv.2.1
 have hlen:(es.flatten.take (i*sz)).length=i*sz:=by
  rw[wh,qbo h]
  exact wi (wc _ (Nat.le_of_lt hl))
 simpa[hlen]using h2
section weaken
variable (hhot : ∀b,Γ'.own b∨Γ'.far b→Γ.own b∨Γ.far b) (k:Nat) (hk:k≤Γ'.n) (hloc : ∀o,o<k→Γ'.loc o=Γ.loc o)
include hhot hk hloc
mutual
theorem VR.weaken : ∀(a:AV) (y:Value),a.lo k=true→VR Γ w a y→VR Γ' w a y
 | .v x,y,_,hy=>by simpa only[VR]using hy
 | .agg cs,y,hl,hy=>by
  simp only[VR]at hy⊢
  obtain⟨vs,rfl,h2⟩:=hy
  exact⟨vs,rfl,VRs.weaken cs vs (by simpa only[AV.lo]using hl) h2⟩
 | .tup cs,y,hl,hy=>by
  simp only[VR]at hy⊢
  obtain⟨vs,rfl,h2⟩:=hy
  exact⟨vs,rfl,VRs.weaken cs vs (by simpa only[AV.lo]using hl) h2⟩
 | .fsl es clip,y,hl,hy=>by
  simp only[VR]at hy⊢
  obtain⟨A,c,rfl,h1,h2,h3⟩:=hy
  refine⟨A,c,rfl,h1,h2,?_⟩
  rcases h3 with h3|⟨b,off,sz,h4,⟨h5,h5',h5''⟩,h6,h7,h8⟩
  ·exact .inl h3
  ·exact .inr ⟨b,off,sz,h4,⟨h5,fun hc=>(hhot b (.inl hc)).elim h5' h5'',fun hc=>(hhot b (.inr hc)).elim h5' h5''⟩,h6,h7,qhp.weaken sz es _ (by simpa only[AV.lo]using hl) h8⟩
 | .fptr cs,y,hl,hy=>by
  simp only[VR]at hy⊢
  obtain⟨b,off,rfl,⟨h5,h5',h5''⟩,h6⟩:=hy
  exact⟨b,off,rfl,⟨h5,fun hc=>(hhot b (.inl hc)).elim h5' h5'',fun hc=>(hhot b (.inr hc)).elim h5' h5''⟩,qi.weaken cs _ (by simpa only[AV.lo]using hl) h6⟩
 | .sl o g off len clip,y,hl,hy=>by
  simp only[VR]at hy⊢
  simp only[AV.lo,decide_eq_true_eq]at hl
  rw[hloc o hl]
  obtain⟨A,c,rfl,h5,h6,h1,h2,h3⟩:=hy
  exact⟨A,c,rfl,h5,h6,by omega,h2,h3⟩
 | .ptr o g i off,y,hl,hy=>by
  simp only[VR]at hy⊢
  simp only[AV.lo,decide_eq_true_eq]at hl
  rw[hloc o hl]
  obtain⟨p,rfl,h1,h2,h3⟩:=hy
  exact⟨p,rfl,by omega,h2,h3⟩
 | .fn f first cap,y,hl,hy=>by
  simp only[VR]at hy⊢
  simp only[AV.lo,wd]at hl
  obtain⟨fs,cs,rfl,h1,h2⟩:=hy
  exact⟨fs,cs,rfl,VRs.weaken first fs hl.1 h1,VRs.weaken cap cs hl.2 h2⟩
 | .yld o,y,hl,hy=>by
  simp only[VR]at hy⊢
  simp only[AV.lo,decide_eq_true_eq]at hl
  rw[hloc o hl]
  obtain⟨l,rfl,h1,h3⟩:=hy
  exact⟨l,rfl,by omega,h3⟩
 | .mp o,y,hl,hy=>by
  simp only[VR]at hy⊢
  simp only[AV.lo,decide_eq_true_eq]at hl
  rw[hloc o hl]
  obtain⟨l,rfl,h1,h3⟩:=hy
  exact⟨l,rfl,by omega,h3⟩
theorem VRs.weaken : ∀(as:List AV) (ys:List Value),los k as=true→VRs Γ w as ys→VRs Γ' w as ys
 | [],ys,_,hy=>by simpa only[VRs]using hy
 |a::as,ys,hl,hy=>by
  simp only[VRs]at hy⊢
  simp only[los,wd]at hl
  obtain⟨u,us,rfl,h1,h2⟩:=hy
  exact⟨u,us,rfl,VR.weaken a u hl.1 h1,VRs.weaken as us hl.2 h2⟩
theorem qi.weaken : ∀(as:List AV) (get:Nat→Option Value),los k as=true→qi Γ w as get→qi Γ' w as get
 | [],_,_,_=>by simp only[qi]
 |a::as,get,hl,hy=>by
  simp only[qi]at hy⊢
  simp only[los,wd]at hl
  obtain⟨⟨u,h1,h2⟩,h3⟩:=hy
  exact⟨⟨u,h1,VR.weaken a u hl.1 h2⟩,qi.weaken as _ hl.2 h3⟩
theorem qhp.weaken (sz:Nat) : ∀(es:List (List AV)) (get:Nat→Option Value),qk9 k es=true→qhp Γ w sz es get→qhp Γ' w sz es get
 | [],_,_,_=>by simp only[qhp]
 |e::es,get,hl,hy=>by
  simp only[qhp]at hy⊢
  simp only[qk9,wd]at hl
  exact⟨qi.weaken e _ hl.1 hy.1,qhp.weaken sz es _ hl.2 hy.2⟩
end
end weaken
end Go.Ev
namespace Go.Ev
open Go.RowKit (Below)
variable {P:Program} {Γ Γ':Ctx} {w w':World} {σ:qf}
def q2n:Option (Option Nat)→Option Code
 |none=>none
 |some none=>some .ret
 |some (some id)=>some (.exit id)
def CR (P:Program) (n:Nat) (c:Code) (cc:CCode):Prop:=∃h i j,qla P h n c i=some (cc,j)
def qamh (Γ:Ctx) (w:World) (l:List (Nat×AV)) (tmps:Array Value):Prop:=∀t a,look l t=some a→VR Γ w a (tmps.getD t undef)
def qacm (Γ:Ctx) (w:World) (k:IntKind):List (Int×AV)→List MapEntry→Prop
 | [],[]=>True
 |p::ps,en::ens=>(p.2.lo 0=true∧en.key = .int k p.1∧VR Γ w p.2 en.val)∧qacm Γ w k ps ens
 | _,_=>False
theorem qacm.imp {Γ Γ':Ctx} {w w':World} {k:IntKind} (h : ∀(a:AV) (y:Value),a.lo 0=true→VR Γ w a y→VR Γ' w' a y) : ∀ {ps:List (Int×AV)} {ens:List MapEntry},qacm Γ w k ps ens→qacm Γ' w' k ps ens
 | [],[],_=>trivial
 |p::ps,en::ens,⟨⟨h1,h2,h3⟩,h4⟩=>⟨⟨h1,h2,h _ _ h1 h3⟩,qacm.imp h h4⟩
 | [],_ :: _,h=>h
 | _ :: _,[],h=>h
def OR (P:Program) (Γ:Ctx) (w:World) (o:Nat):SObj→Prop
 | .row sz es g=>(Γ.loc o).g=g∧(Γ.loc o).sz=sz∧0<sz∧es.length≤(Γ.loc o).ct∧(∀e∈es,e.length=sz) ∧
   ((Γ.loc o).ct=0 ∨ ∃arr et,w.heap[(Γ.loc o).b]? = some (.cells arr et (0,0))∧arr.size=(Γ.loc o).ct*sz∧qi Γ w es.flatten (fun j=>arr[j]?))
 | .loop env ps as body st pend=>(Γ.loc o).g=0∧(Γ.loc o).ct≠0 ∧ ∃r:Loop,w.heap[(Γ.loc o).b]? = some (.loop r)∧r.state=st∧r.pending=q2n pend∧r.params=ps.toArray ∧
   CR P r.tmps.size r.assign as∧CR P r.tmps.size r.body body∧qamh Γ w env.vars r.tmps∧(∀p∈ps,p<r.tmps.size)
 | .defr=>(Γ.loc o).g=0∧(Γ.loc o).ct≠0∧w.heap[(Γ.loc o).b]? = some (.deferred (some []))
 | .dead=>True
 | .mp k es=>(Γ.loc o).g=0∧(Γ.loc o).ct≠0 ∧ ∃arr clock,w.heap[(Γ.loc o).b]? = some (.map arr clock)∧qacm Γ w k es arr.toList
 | .hole=>(Γ.loc o).g=0∧(Γ.loc o).ct=0
structure SR (P:Program) (Γ:Ctx) (σ:qf) (w:World):Prop where
 len:σ.length=Γ.n
 obj : ∀o ob,σ[o]? = some ob→OR P Γ w o ob
 blk : ∀o,o<Γ.n→(Γ.loc o).ct≠0→Γ.own (Γ.loc o).b
 inj : ∀o o',o<Γ.n→o'<Γ.n→(Γ.loc o).ct≠0→(Γ.loc o').ct≠0→(Γ.loc o).b=(Γ.loc o').b→o=o'
 ownlt : ∀b,Γ.own b→b<w.heap.size
 farlt : ∀b,Γ.far b→b<w.heap.size
 sep : ∀b,Γ.own b→¬ Γ.far b
theorem OR.mono {o:Nat} {ob:SObj} (h:OR P Γ w o ob) (e:Ext Γ Γ' w w') (hl:Γ'.loc o=Γ.loc o) (hb:(Γ.loc o).ct≠0→w'.heap[(Γ.loc o).b]? = w.heap[(Γ.loc o).b]?):OR P Γ' w' o ob:=by
 cases ob with
 |row sz es g=>
  simp only[OR]at h⊢
  rw[hl]
  obtain⟨h1,h2,h3,h4,h5,h6⟩:=h
  refine⟨h1,h2,h3,h4,h5,?_⟩
  rcases h6 with h6|⟨arr,et,h7,h8,h9⟩
  ·exact .inl h6
  ·by_cases hc:(Γ.loc o).ct=0
   ·exact .inl hc
   ·exact .inr ⟨arr,et,(hb hc).trans h7,h8,qi.mono e _ _ _ (fun _=>rfl) h9⟩
 |loop env ps as body st pend=>
  simp only[OR]at h⊢
  rw[hl]
  obtain⟨h1,h2,r,h3,h4,h5,h6,h7,h8,h9,h10⟩:=h
  exact⟨h1,h2,r,(hb h2).trans h3,h4,h5,h6,h7,h8,fun t a ht=>VR.mono e _ _ (h9 t a ht),h10⟩
 |defr=>
  simp only[OR]at h⊢
  rw[hl]
  exact⟨h.1,h.2.1,(hb h.2.1).trans h.2.2⟩
 |dead=>trivial
 |mp k es=>
  simp only[OR]at h⊢
  rw[hl]
  obtain⟨h1,h2,arr,clock,h3,h4⟩:=h
  exact⟨h1,h2,arr,clock,(hb h2).trans h3,h4.imp fun a y _ hy=>VR.mono e _ _ hy⟩
 |hole=>
  simp only[OR]at h⊢
  rw[hl];exact h
theorem Ext.of_below (Γ:Ctx) (h:Below w.heap.size w w'):Ext Γ Γ w w':=⟨wa _,h.size,fun b hb _=>h.block b hb,fun _ h => .inl h,rfl,fun _ _ => .inl rfl,h.os,h.tape,h.output⟩
theorem SR.of_below (s:SR P Γ σ w) (h:Below w.heap.size w w'):SR P Γ σ w' where
 len:=s.len
 obj o ob ho:=(s.obj o ob ho).mono (.of_below Γ h) rfl fun hc=>h.block _ (s.ownlt _ (s.blk o (by rw[←s.len];exact(zei.1 ho).1) hc))
 blk:=s.blk
 inj:=s.inj
 ownlt b hb:=wb (s.ownlt b hb) h.size
 farlt b hb:=wb (s.farlt b hb) h.size
 sep:=s.sep
theorem qzw (w:World):Below w.heap.size w w.drew:=(Below.refl _ _).drew
theorem qd9 (w:World) (o:Obj):Below w.heap.size w (w.alloc o):=(Below.refl _ _).alloc (wa _) o
def Ctx.push (Γ:Ctx) (l:Loc):Ctx:={ n:=Γ.n+1,loc:=fun o=>if o=Γ.n then l else Γ.loc o,own:=fun b=>Γ.own b∨(l.ct≠0∧b=l.b),far:=Γ.far }
theorem Ctx.push_new (Γ:Ctx) (l:Loc):(Γ.push l).loc Γ.n=l:=by simp[Ctx.push]
theorem Ctx.push_old (Γ:Ctx) (l:Loc) {o:Nat} (h:o<Γ.n):(Γ.push l).loc o=Γ.loc o:=by simp[Ctx.push,Nat.ne_of_lt h]
theorem Ext.push (h:Below w.heap.size w w') (l:Loc) (hl:l.ct≠0→w.heap.size≤l.b):Ext Γ (Γ.push l) w w' where
 n:=Nat.le_succ _
 size:=h.size
 same b hb _:=h.block b hb
 own b hb:=Or.imp id (fun(hb:l.ct≠0∧b=l.b)=>by rw[hb.2];exact hl hb.1) hb
 far:=rfl
 loc o ho:=.inl (Γ.push_old l ho)
 os:=h.os
 tape:=h.tape
 output:=h.output
theorem SR.push (s:SR P Γ σ w) (h:Below w.heap.size w w') (l:Loc) (hl:l.ct≠0→w.heap.size≤l.b∧l.b<w'.heap.size) {ob:SObj} (hob:OR P (Γ.push l) w' Γ.n ob):SR P (Γ.push l) (σ++[ob]) w' where
 len:=by simp[Ctx.push,s.len]
 obj o ob' ho:=by
  have e:Ext Γ (Γ.push l) w w':=.push h l fun hc=>(hl hc).1
  rcases Nat.lt_or_ge o σ.length with hlt|hge
  ·rw[List.getElem?_append_left hlt]at ho
   have hn:o<Γ.n:=by rw[←s.len];exact hlt
   exact(s.obj o ob' ho).mono e (Γ.push_old l hn) fun hc=>h.block _ (s.ownlt _ (s.blk o hn hc))
  ·rw[List.getElem?_append_right hge]at ho
   have ho2:o-σ.length=0:=by
    rcases Nat.eq_zero_or_pos (o-σ.length)with h0|h0
    ·exact h0
    ·rw[List.getElem?_eq_none (by simp;omega)]at ho;cases ho
   rw[ho2]at ho
   simp at ho
   subst ho
   have:o=Γ.n:=by rw[←s.len];omega
   rw[this];exact hob
 blk o ho hc:=by
  by_cases he:o=Γ.n
  ·subst he;rw[Γ.push_new]at hc ⊢;exact .inr ⟨hc,rfl⟩
  ·have ho':o<Γ.n:=by simp[Ctx.push]at ho;omega
   rw[Γ.push_old l ho']at hc⊢
   exact .inl (s.blk o ho' hc)
 inj o o' ho ho' hc hc' hb:=by
  by_cases he:o=Γ.n<;>by_cases he':o'=Γ.n
  ·omega
  ·have h2:o'<Γ.n:=by simp[Ctx.push]at ho';omega
   subst he
   rw[Γ.push_new]at hc hb
   rw[Γ.push_old l h2]at hc' hb
   have:=s.ownlt _ (s.blk o' h2 hc')
   have:=(hl hc).1
   omega
  ·have h2:o<Γ.n:=by simp[Ctx.push]at ho;omega
   subst he'
   rw[Γ.push_new]at hc' hb
   rw[Γ.push_old l h2]at hc hb
   have:=s.ownlt _ (s.blk o h2 hc)
   have:=(hl hc').1
   omega
  ·have h2:o<Γ.n:=by simp[Ctx.push]at ho;omega
   have h3:o'<Γ.n:=by simp[Ctx.push]at ho';omega
   rw[Γ.push_old l h2]at hc hb
   rw[Γ.push_old l h3]at hc' hb
   exact s.inj o o' h2 h3 hc hc' hb
 ownlt b hb:=by
  rcases hb with hb|⟨hc,rfl⟩
  ·exact wb (s.ownlt b hb) h.size
  ·exact(hl hc).2
 farlt b hb:=wb (s.farlt b hb) h.size
 sep b hb hf:=by
  rcases hb with hb|⟨hc,rfl⟩
  ·exact s.sep b hb hf
  ·have:=s.farlt _ hf;have:=(hl hc).1;omega
def Ctx.upd (Γ:Ctx) (o:Nat) (l:Loc):Ctx:={ n:=Γ.n,loc:=fun o'=>if o'=o then l else Γ.loc o',own:=fun b=>Γ.own b∨(l.ct≠0∧b=l.b),far:=Γ.far }
theorem Ctx.upd_same (Γ:Ctx) (o:Nat) (l:Loc):(Γ.upd o l).loc o=l:=by simp[Ctx.upd]
theorem Ctx.upd_other (Γ:Ctx) (l:Loc) {o o':Nat} (h:o'≠o):(Γ.upd o l).loc o'=Γ.loc o':=by simp[Ctx.upd,h]
section upd
variable {o:Nat} {l:Loc} (s:SR P Γ σ w) (ho:o<Γ.n) (hg:l=Γ.loc o∨(Γ.loc o).g<l.g) (hsize:w.heap.size≤w'.heap.size)
 (hsame : ∀b,b<w.heap.size→(b=(Γ.loc o).b∧(Γ.loc o).ct≠0)∨w'.heap[b]? = w.heap[b]?)
 (hl:l.ct≠0→(l.b=(Γ.loc o).b∧(Γ.loc o).ct≠0∨w.heap.size≤l.b)∧l.b<w'.heap.size)
 (hos:w'.os=w.os) (htape:w'.tape=w.tape) (hout:w'.output=w.output)
include s ho hg hsize hsame hl hos htape hout
theorem Ext.upd:Ext Γ (Γ.upd o l) w w' where
 n:=wa _
 size:=hsize
 same b hb hn:=by
  rcases hsame b hb with ⟨rfl,hc⟩|h
  ·exact absurd (s.blk o ho hc) hn
  ·exact h
 own b hb:=by
  rcases hb with hb|⟨hc,rfl⟩
  ·exact .inl hb
  ·rcases(hl hc).1 with ⟨h1,h2⟩|h1
   ·rw[h1];exact .inl (s.blk o ho h2)
   ·exact .inr h1
 far:=rfl
 loc o' _:=by
  by_cases he:o'=o
  ·subst he;rw[Γ.upd_same];exact hg
  ·exact .inl (Γ.upd_other l he)
 os:=hos
 tape:=htape
 output:=hout
theorem SR.upd {ob:SObj} (hob:OR P (Γ.upd o l) w' o ob):SR P (Γ.upd o l) (σ.set o ob) w' where
 len:=by simp[Ctx.upd,s.len]
 obj o' ob' ho':=by
  have e:=Ext.upd s ho hg hsize hsame hl hos htape hout
  rw[List.getElem?_set]at ho'
  by_cases he:o=o'
  ·subst he
   rw[if_pos rfl,if_pos (by rw[s.len];exact ho)]at ho'
   cases ho'
   exact hob
  ·rw[if_neg he]at ho'
   have hn:o'<Γ.n:=by rw[←s.len];exact(zei.1 ho').1
   refine(s.obj o' ob' ho').mono e (Γ.upd_other l (Ne.symm he)) fun hc => ?_
   rcases hsame _ (s.ownlt _ (s.blk o' hn hc))with ⟨h1,h2⟩|h1
   ·exact absurd (s.inj o' o hn ho hc h2 h1) (Ne.symm he)
   ·exact h1
 blk o' ho' hc:=by
  by_cases he:o'=o
  ·subst he;rw[Γ.upd_same]at hc ⊢;exact .inr ⟨hc,rfl⟩
  ·rw[Γ.upd_other l he]at hc ⊢;exact .inl (s.blk o' ho' hc)
 inj o1 o2 h1 h2 c1 c2 hb:=by
  by_cases e1:o1=o<;>by_cases e2:o2=o
  ·omega
  ·subst e1
   rw[Γ.upd_same]at c1 hb
   rw[Γ.upd_other l e2]at c2 hb
   rcases(hl c1).1 with ⟨h3,h4⟩|h3
   ·exact s.inj o1 o2 h1 h2 h4 c2 (h3.symm.trans hb)
   ·have:=s.ownlt _ (s.blk o2 h2 c2);omega
  ·subst e2
   rw[Γ.upd_same]at c2 hb
   rw[Γ.upd_other l e1]at c1 hb
   rcases(hl c2).1 with ⟨h3,h4⟩|h3
   ·exact s.inj o1 o2 h1 h2 c1 h4 (hb.trans h3)
   ·have:=s.ownlt _ (s.blk o1 h1 c1);omega
  ·rw[Γ.upd_other l e1]at c1 hb
   rw[Γ.upd_other l e2]at c2 hb
   exact s.inj o1 o2 h1 h2 c1 c2 hb
 ownlt b hb:=by
  rcases hb with hb|⟨hc,rfl⟩
  ·exact wb (s.ownlt b hb) hsize
  ·exact(hl hc).2
 farlt b hb:=wb (s.farlt b hb) hsize
 sep b hb hf:=by
  rcases hb with hb|⟨hc,rfl⟩
  ·exact s.sep b hb hf
  ·rcases(hl hc).1 with ⟨h1,h2⟩|h1
   ·rw[h1]at hf;exact s.sep _ (s.blk o ho h2) hf
   ·have:=s.farlt _ hf;omega
end upd
def Ctx.drop (Γ:Ctx) (o:Nat):Ctx:={ n:=Γ.n,loc:=fun o'=>if o'=o then ⟨(Γ.loc o).g+1,0,(Γ.loc o).sz,0⟩else Γ.loc o',own:=fun b=>Γ.own b∧((Γ.loc o).ct≠0→b≠(Γ.loc o).b),far:=Γ.far }
theorem Ext.drop (Γ:Ctx) (w:World) (o:Nat):Ext Γ (Γ.drop o) w w where
 n:=wa _
 size:=wa _
 same _ _ _:=rfl
 own b hb:=.inl hb.1
 far:=rfl
 loc o' _:=by
  by_cases h:o'=o
  ·subst h;right;simp[Ctx.drop]
  ·left;simp[Ctx.drop,h]
 os:=rfl
 tape:=rfl
 output:=rfl
theorem SR.drop (s:SR P Γ σ w) {o:Nat} (ho:o<Γ.n):SR P (Γ.drop o) (σ.set o .dead) w where
 len:=by simp[Ctx.drop,s.len]
 obj o' ob hob:=by
  rw[List.getElem?_set]at hob
  by_cases he:o=o'
  ·subst he
   rw[if_pos rfl,if_pos (by rw[s.len];exact ho)]at hob
   cases hob
   trivial
  ·rw[if_neg he]at hob
   exact(s.obj o' ob hob).mono (Ext.drop Γ w o) (by simp[Ctx.drop,Ne.symm he]) fun _=>rfl
 blk o' ho' hc:=by
  by_cases he:o'=o
  ·subst he;simp[Ctx.drop]at hc
  ·have hl:(Γ.drop o).loc o'=Γ.loc o':=by simp[Ctx.drop,he]
   rw[hl]at hc⊢
   exact⟨s.blk o' ho' hc,fun h2 hb=>he (s.inj o' o ho' ho hc h2 hb)⟩
 inj o1 o2 h1 h2 c1 c2 hb:=by
  by_cases e1:o1=o
  ·subst e1;simp[Ctx.drop]at c1
  ·by_cases e2:o2=o
   ·subst e2;simp[Ctx.drop]at c2
   ·have l1:(Γ.drop o).loc o1=Γ.loc o1:=by simp[Ctx.drop,e1]
    have l2:(Γ.drop o).loc o2=Γ.loc o2:=by simp[Ctx.drop,e2]
    rw[l1]at c1 hb;rw[l2]at c2 hb
    exact s.inj o1 o2 h1 h2 c1 c2 hb
 ownlt b hb:=s.ownlt b hb.1
 farlt:=s.farlt
 sep b hb:=s.sep b hb.1
def VE (Γ:Ctx) (w:World) (e:Env) (a:Act):Prop:=qamh Γ w e.vars a.tmps
theorem VE.mono {e:Env} {a:Act} (h:VE Γ w e a) (x:Ext Γ Γ' w w'):VE Γ' w' e a:=fun t v ht=>VR.mono x _ _ (h t v ht)
theorem VR.ofLeaf (x:Value):VR Γ w (ofLeaf x) x:=by
 unfold Ev.ofLeaf
 split
 ·simp only[VR];exact⟨none,0,rfl,wa _,fun _=>rfl,.inl trivial⟩
 ·simp only[VR]
theorem VR.ofTop (x:Value):VR Γ w (ofTop x) x:=by
 unfold Ev.ofTop
 split
 ·simp only[VR];exact⟨none,0,rfl,wa _,fun _=>rfl,.inl trivial⟩
 ·simp only[VR]
theorem VRs.ofTop : ∀(l:List Value),VRs Γ w (l.map Ev.ofTop) l
 | []=>by simp[VRs]
 |x::xs=>by simp only[List.map_cons,VRs];exact⟨x,xs,rfl,VR.ofTop x,VRs.ofTop xs⟩
theorem VRs.ofLeaf : ∀(l:List Value),VRs Γ w (l.map Ev.ofLeaf) l
 | []=>by simp[VRs]
 |x::xs=>by simp only[List.map_cons,VRs];exact⟨x,xs,rfl,VR.ofLeaf x,VRs.ofLeaf xs⟩
theorem VR.ofV (x:Value):VR Γ w (ofV x) x:=by
 unfold Ev.ofV
 split
 ·rename_i cs
  simp only[VR]
  exact⟨cs.toList,by simp,VRs.ofLeaf _⟩
 ·exact VR.ofTop _
theorem qak {x:Operand} {x':Opnd} {e:Env} {a:Act} {v:AV} (hc:qe0 x=some x') (he:x'.ev e=some v) (hv:VE Γ w e a):VR Γ w v (a.eval x):=by
 unfold qe0 at hc
 split at hc
 ·cases hc;exact hv _ _ he
 ·cases hc
 ·cases hc;cases he;exact VR.ofV _
 ·cases hc;cases he
  simp only[VR,Act.eval]
  exact⟨[],[],by simp,by simp[VRs],by simp[VRs]⟩
 ·cases hc
theorem qny : ∀ {l:List Operand} {l':List Opnd} {e:Env} {a:Act} {vs:List AV},q8h l=some l'→evs e l'=some vs→VE Γ w e a→VRs Γ w vs (l.map a.eval)
 | [],l',e,a,vs,hc,he,hv=>by
  simp only[q8h,qil]at hc;cases hc
  simp only[evs]at he;cases he
  simp[VRs]
 |x::xs,l',e,a,vs,hc,he,hv=>by
  simp only[q8h,qil]at hc
  obtain⟨y,hy,hc⟩:=zob.1 hc
  obtain⟨ys,hys,hc⟩:=zob.1 hc
  cases hc
  simp only[evs]at he
  obtain⟨u,hu,he⟩:=zob.1 he
  obtain⟨us,hus,he⟩:=zob.1 he
  cases he
  simp only[List.map_cons,VRs]
  exact⟨_,_,rfl,qak hy hu hv,qny hys hus hv⟩
end Go.Ev
namespace Go.Ev
open Go.RowKit (Below)
variable {P:Program} {Γ Γ':Ctx} {w w':World} {σ σ':qf} {e:Env} {a:Act} {av:AV}
def qus (P:Program) (Γ:Ctx) (w:World) (res:Result Next) (av:AV) (σ':qf):Prop:=
 ∃nx v w' Γ',res = .ok nx w'∧(nx = .value v∨(nx = .skip∧v=undef))∧VR Γ' w' av v∧SR P Γ' σ' w'∧Ext Γ Γ' w w'
theorem qus.here {res:Result Next} {v:Value} (s:SR P Γ σ w) (h:res = .ok (.value v) w) (hv:VR Γ w av v):qus P Γ w res av σ:=
 ⟨_,v,w,Γ,h,.inl rfl,hv,s,Ext.refl _ _⟩
theorem qki (w:World) (o:Obj):(w.alloc o).heap[w.heap.size]? = some o:=by
 show (w.heap.push o)[w.heap.size]? = _
 simp
theorem qz4 (s:SR P Γ σ w) (hB:Below w.heap.size w w') {b:Nat} {et:TypeId} {arr:Array Value} (hb1:w.heap.size≤b) (hb2:w'.heap[b]? = some (.cells arr et (0,0)))
  (sz ct:Nat) (es:List (List AV)) (hsz:0<sz) (hlen:es.length≤ct) (hes : ∀e∈es,e.length=sz) (harr:arr.size=ct*sz) {vs:List Value} (hvs:VRs Γ w es.flatten vs)
  (hget : ∀(j:Nat) (v:Value),vs[j]? = some v→arr[j]? = some v) :
  SR P (Γ.push ⟨0,b,sz,ct⟩) (σ++[.row sz es 0]) w'∧Ext Γ (Γ.push ⟨0,b,sz,ct⟩) w w':=by
 have hbl:b<w'.heap.size:=(Array.getElem?_eq_some_iff.1 hb2).1
 have e:=Ext.push (Γ:=Γ) hB ⟨0,b,sz,ct⟩ fun _=>hb1
 refine⟨s.push hB _ (fun _=>⟨hb1,hbl⟩) ?_,e⟩
 simp only[OR,Ctx.push_new]
 exact⟨trivial,trivial,hsz,hlen,hes,.inr ⟨arr,et,hb2,harr,qi.of_list (VRs.mono e _ _ hvs) hget⟩⟩
theorem qaez (s:SR P Γ σ w):SR P (Γ.push ⟨0,0,1,0⟩) (σ++[.hole]) w∧Ext Γ (Γ.push ⟨0,0,1,0⟩) w w:=by
 have hx:=Ext.push (Γ:=Γ) (Below.refl w.heap.size w) ⟨0,0,1,0⟩ fun h=>absurd rfl h
 refine⟨s.push (Below.refl w.heap.size w) ⟨0,0,1,0⟩ (fun h=>absurd rfl h) ?_,hx⟩
 simp only[OR,Ctx.push_new]
 exact⟨trivial,trivial⟩
theorem qus.hole {res:Result Next} {r:AV} {σ1:qf} (h:qus P Γ w res r σ1):qus P Γ w res r (σ1++[.hole]):=by
 obtain⟨nx,v,w',Γ',h1,h2,h3,h4,h5⟩:=h
 obtain⟨q1,q2⟩:=qaez h4
 exact⟨nx,v,w',_,h1,h2,VR.mono q2 _ _ h3,q1,h5.trans q2⟩
theorem qac8 (s:SR P Γ σ w) {p:Nat} (hp:σ[p]? = some .hole) (hsize:w.heap.size≤w'.heap.size) (hsame : ∀b,b<w.heap.size→w'.heap[b]? = w.heap[b]?) (hos:w'.os=w.os) (htape:w'.tape=w.tape) (hout:w'.output=w.output)
  (b sz ct:Nat) (hb:ct≠0→w.heap.size≤b∧b<w'.heap.size) (es:List (List AV)) (hob:OR P (Γ.upd p ⟨1,b,sz,ct⟩) w' p (.row sz es 1)) :
  SR P (Γ.upd p ⟨1,b,sz,ct⟩) (σ.set p (.row sz es 1)) w'∧Ext Γ (Γ.upd p ⟨1,b,sz,ct⟩) w w':=by
 have hn:p<Γ.n:=by rw[←s.len];exact(zei.1 hp).1
 have hO:=s.obj p _ hp
 simp only[OR]at hO
 have hg:(⟨1,b,sz,ct⟩:Loc)=Γ.loc p∨(Γ.loc p).g<(⟨1,b,sz,ct⟩:Loc).g:=.inr (by rw[hO.1];exact Nat.one_pos)
 have hl:(⟨1,b,sz,ct⟩:Loc).ct≠0→((⟨1,b,sz,ct⟩:Loc).b=(Γ.loc p).b∧(Γ.loc p).ct≠0∨w.heap.size≤(⟨1,b,sz,ct⟩:Loc).b)∧(⟨1,b,sz,ct⟩:Loc).b<w'.heap.size:=fun h=>⟨.inr (hb h).1,(hb h).2⟩
 exact⟨SR.upd s hn hg hsize (fun b hb => .inr (hsame b hb)) hl hos htape hout hob,Ext.upd s hn hg hsize (fun b hb => .inr (hsame b hb)) hl hos htape hout⟩
theorem qagn (s:SR P Γ σ w) (hB:Below w.heap.size w w') {b:Nat} (h1:w.heap.size≤b) (h2:b<w'.heap.size):Γ.okB w' b:=
 ⟨h2,fun h=>by have:=s.ownlt b h;omega,fun h=>by have:=s.farlt b h;omega⟩
theorem VR.uc {x:AV} {y:Value} (h:VR Γ w x y):VR Γ w x.uc y:=by
 cases x with
 |fsl es c=>
  simp only[VR,AV.uc]at h⊢
  obtain⟨A,c,rfl,h1,_,h3⟩:=h
  exact⟨A,c,rfl,h1,fun h=>(by cases h),h3⟩
 |sl o g off len c=>
  simp only[VR,AV.uc]at h⊢
  obtain⟨A,c,rfl,h1,_,h3⟩:=h
  exact⟨A,c,rfl,h1,fun h=>(by cases h),h3⟩
 | _=>exact h
theorem q2c {x:AV} {y:Value} (h:VR Γ w x y) (hp:qfk x.cells=true):VRs Γ w x.cells y.cells.toList:=by
 cases x with
 |agg cs=>
  simp only[VR]at h
  obtain⟨vs,rfl,h2⟩:=h
  simpa[AV.cells,Value.cells]using h2
 |tup cs=>simp[AV.cells,AV.uc,qfk,AV.plain]at hp
 |v x=>
  have h':=h
  simp only[VR]at h
  subst h
  simp only[AV.cells,AV.uc,qfk,AV.plain]at hp
  have:y.cells = #[y]:=by cases y<;>simp_all [Value.cells]
  rw[this]
  simp only[AV.cells,AV.uc,VRs]
  exact⟨y,[],by simp,h',rfl⟩
 | _=>
  have hc:y.cells = #[y]:=by
   have h:=h
   simp only[VR]at h
   cases y<;>first|rfl|(exfalso;simp at h)
  rw[hc]
  simp only[AV.cells,VRs]
  exact⟨y,[],by simp,h.uc,rfl⟩
theorem qam1 {x:AV} {y:Value} (h:VR Γ w x y) (hp:x.plain=true):y.oneCell'=true:=by
 cases x with
 |v x=>
  simp only[VR]at h
  subst h
  cases y<;>first|rfl|(simp[AV.plain]at hp)
 |agg cs=>simp[AV.plain]at hp
 |tup cs=>simp[AV.plain]at hp
 | _=>
  simp only[VR]at h
  cases y<;>first|rfl|(exfalso;simp at h)
theorem qwe : ∀ {xs:List AV} {ys:List Value},VRs Γ w xs ys→qfk xs=true → ∀y∈ys,y.oneCell'=true
 | [],ys,h,_,y,hy=>by simp only[VRs]at h;subst h;cases hy
 |x::xs,ys,h,hp,y,hy=>by
  simp only[VRs]at h
  obtain⟨u,us,rfl,h1,h2⟩:=h
  simp only[qfk,wd]at hp
  rcases List.mem_cons.1 hy with rfl|hy
  ·exact qam1 h1 hp.1
  ·exact qwe h2 hp.2 y hy
theorem qae1 {t:TypeId} {z:List AV} (h:zT P t=some z) : ∃i zv,P.info? t=some i∧i.zero=some zv∧zv.cells.size=i.size∧z=zv.cells.toList.map ofLeaf:=by
 unfold zT at h
 obtain⟨i,hi,h⟩:=zob.1 h
 obtain⟨zv,hz,h⟩:=zob.1 h
 split at h
 ·cases h;exact⟨i,zv,hi,hz,‹_›,rfl⟩
 ·cases h
theorem qoq {t:TypeId} {s:Nat} (h:szT P t=some s) : ∃i,P.info? t=some i∧i.size=s:=by
 unfold szT at h
 obtain⟨i,hi,h⟩:=Option.map_eq_some_iff.1 h
 exact⟨i,hi,h⟩
theorem q8q {t:TypeId} {s:Nat} (h:byT P t=some s) : ∃i,P.info? t=some i∧i.bytes=s:=by
 unfold byT at h
 obtain⟨i,hi,h⟩:=Option.map_eq_some_iff.1 h
 exact⟨i,hi,h⟩
theorem qj5 {t e:TypeId} (h:qz7 P t=some e):P.underlying t=some (.slice e):=by
 unfold qz7 at h
 split at h
 ·cases h;assumption
 ·cases h
theorem qj2 {t:TypeId} {i:TypeInfo} (h:P.info? t=some i):(sizeOf t).run P w = .ok i.size w:=by simp[sizeOf,typeInfo,h]
theorem q3b {t:TypeId} {i:TypeInfo} {z:Value} (h:P.info? t=some i) (hz:i.zero=some z):(zeroValue t).run P w = .ok z w:=by simp[zeroValue,typeInfo,h,hz]
def ZV (P:Program) (t:TypeId) (z:List AV):Prop:=∃i zv,P.info? t=some i∧i.zero=some zv∧zv.cells.size=i.size∧z.length=zv.cells.size ∧ ∀(Γ:Ctx) (w:World),VRs Γ w z zv.cells.toList
theorem zT_zv {t:TypeId} {z:List AV} (h:zT P t=some z):ZV P t z:=by
 obtain⟨i,zv,h1,h2,h3,rfl⟩:=qae1 h
 exact⟨i,zv,h1,h2,h3,by simp,fun Γ w=>VRs.ofLeaf _⟩
theorem qacf {t:TypeId} {z:List AV} (h:qalx P t=some z) : ∃i zv,P.info? t=some i∧i.zero=some zv∧zv.cells.size=i.size∧z=zv.cells.toList.map ofTop:=by
 unfold qalx at h
 simp only[zob]at h
 obtain⟨z',h1,i,h2,zv,h3,h⟩:=h
 cases h
 obtain⟨i',zv',q1,q2,q3,_⟩:=qae1 h1
 rw[h2]at q1;cases q1
 rw[h3]at q2;cases q2
 exact⟨i,zv,h2,h3,q3,rfl⟩
theorem qahe {b:Bool} {t:TypeId} {z:List AV} (h:zH P b t=some z):ZV P t z:=by
 unfold zH at h
 split at h
 ·obtain⟨i,zv,h1,h2,h3,rfl⟩:=qacf h
  exact⟨i,zv,h1,h2,h3,by simp,fun Γ w=>VRs.ofTop _⟩
 ·exact zT_zv h
theorem qaiu {t:TypeId} {z:List AV} (s:SR P Γ σ w) (hz:ZV P t z) (hne:z ≠ []) :
  qus P Γ w (((Instr.alloc t true (.tuple #[])).run P w).andThen fun v w => .ok (.value v) w) (.ptr σ.length 0 0 0) (σ++[.row z.length [z] 0]):=by
 obtain⟨i,zv,hi,hzv,hsz,hzl,hvr⟩:=hz
 have hlen:0<zv.cells.size:=by
  rcases Nat.eq_zero_or_pos zv.cells.size with h|h
  ·exact absurd (List.eq_nil_of_length_eq_zero (hzl.trans h)) hne
  ·exact h
 have hrun:(Instr.alloc t true (.tuple #[])).run P w = .ok (.pointer (some ⟨w.heap.size,0,none⟩)) (w.alloc (.cells zv.cells t)):=by
  simp[Instr.alloc,q3b hi hzv,newVar,newRow]
 obtain⟨h1,h2⟩:=qz4 (P:=P) s (qd9 w (.cells zv.cells t)) (wa _) (b:=w.heap.size) (et:=t) (arr:=zv.cells) (qki _ _) zv.cells.size 1 [z] hlen (by simp) (by simpa using hzl) (by simp)
  (vs:=zv.cells.toList) (by simpa using hvr _ _) (by simp)
 refine⟨_,_,_,_,by rw[hrun];rfl,.inl rfl,?_,by rw[hzl];exact h1,h2⟩
 simp only[VR,s.len,Ctx.push_new]
 exact⟨_,rfl,by simp[Ctx.push],wa _,fun _=>by simp⟩
theorem ok_box {t:TypeId} {x:AV} {y:Value} (s:SR P Γ σ w) (hx:VR Γ w x y) (hne:x.cells ≠ []) (hp:qfk x.cells=true) :
  qus P Γ w (((Instr.box t y).run P w).andThen fun v w => .ok (.value v) w) (.ptr σ.length 0 0 0) (σ++[.row x.cells.length [x.cells] 0]):=by
 have hc:=q2c hx hp
 have hrun:(Instr.box t y).run P w = .ok (.pointer (some ⟨w.heap.size,0,none⟩)) (w.alloc (.cells y.cells t)):=by
  simp[Instr.box,newVar,newRow]
 have hl:=hc.length
 obtain⟨h1,h2⟩:=qz4 (P:=P) s (qd9 w (.cells y.cells t)) (wa _) (b:=w.heap.size) (et:=t) (arr:=y.cells) (qki _ _) x.cells.length 1 [x.cells] (List.length_pos_iff.2 hne) (by simp) (by simp) (by simpa using hl)
  (vs:=y.cells.toList) (by simpa using hc) (by simp)
 refine⟨_,_,_,_,by rw[hrun];rfl,.inl rfl,?_,h1,h2⟩
 simp only[VR,s.len,Ctx.push_new]
 exact⟨_,rfl,by simp[Ctx.push],wa _,fun _=>by simp⟩
theorem qal6 {t:TypeId} {z:List AV} {p:Nat} (s:SR P Γ σ w) (hz:ZV P t z) (hne:z ≠ []) (hp:σ[p]? = some .hole) :
  qus P Γ w (((Instr.alloc t true (.tuple #[])).run P w).andThen fun v w => .ok (.value v) w) (.ptr p 1 0 0) (σ.set p (.row z.length [z] 1)):=by
 obtain⟨i,zv,hi,hzv,hsz,hzl,hvr⟩:=hz
 have hlen:0<zv.cells.size:=by
  rcases Nat.eq_zero_or_pos zv.cells.size with h|h
  ·exact absurd (List.eq_nil_of_length_eq_zero (hzl.trans h)) hne
  ·exact h
 have hrun:(Instr.alloc t true (.tuple #[])).run P w = .ok (.pointer (some ⟨w.heap.size,0,none⟩)) (w.alloc (.cells zv.cells t)):=by
  simp[Instr.alloc,q3b hi hzv,newVar,newRow]
 have hB:=qd9 w (.cells zv.cells t)
 have hn:p<Γ.n:=by rw[←s.len];exact(zei.1 hp).1
 obtain⟨h1,h2⟩:=qac8 (P:=P) (w':=w.alloc (.cells zv.cells t)) s hp hB.size (fun b hb=>hB.block b hb) hB.os hB.tape hB.output w.heap.size zv.cells.size 1 (fun _=>⟨wa _,by simp⟩) [z] (by
  simp only[OR,Ctx.upd_same]
  exact⟨trivial,trivial,hlen,by simp,by simpa using hzl,.inr ⟨zv.cells,t,qki _ _,by simp,qi.of_list (vs:=zv.cells.toList) (by simpa using hvr _ _) (by simp)⟩⟩)
 refine⟨_,_,_,_,by rw[hrun];rfl,.inl rfl,?_,by rw[hzl];exact h1,h2⟩
 simp only[VR,Ctx.upd_same]
 exact⟨_,rfl,by simpa[Ctx.upd]using hn,wa _,fun _=>by simp⟩
theorem qalg {t:TypeId} {x:AV} {y:Value} (s:SR P Γ σ w) (hx:VR Γ w x y) (hp:qfk x.cells=true) :
  qus P Γ w (((Instr.box t y).run P w).andThen fun v w => .ok (.value v) w) (.fptr x.cells) σ:=by
 have hc:=q2c hx hp
 have hB:=qd9 w (.cells y.cells t)
 have hrun:(Instr.box t y).run P w = .ok (.pointer (some ⟨w.heap.size,0,none⟩)) (w.alloc (.cells y.cells t)):=by
  simp[Instr.box,newVar,newRow]
 refine⟨_,_,_,Γ,by rw[hrun];rfl,.inl rfl,?_,s.of_below hB,.of_below Γ hB⟩
 simp only[VR]
 refine⟨w.heap.size,0,rfl,qagn s hB (wa _) (by simp),qi.of_list (VRs.mono (.of_below Γ hB) _ _ hc) fun j v hj => ?_⟩
 simpa using hj
def splice {α:Type} (cs:List α) (off:Nat) (vs:List α):List α:=cs.take off++(vs++cs.drop (off+vs.length))
theorem qagy {α:Type} (cs:List α) (off:Nat) (v:α) (vs:List α) (h:off<cs.length):splice (cs.set off v) (off+1) vs=splice cs off (v::vs):=by
 unfold splice
 have hl:(cs.take off).length=off:=by simp;omega
 have e:cs.set off v=cs.take off++v::cs.drop (off+1):=by rw[List.set_eq_take_append_cons_drop,if_pos h]
 have h1:(cs.set off v).take (off+1)=cs.take off++[v]:=by
  rw[e,List.take_append,hl,ztl (by omega),show off+1-off=1 by omega];simp
 have h2:(cs.set off v).drop (off+1+vs.length)=cs.drop (off+(vs.length+1)):=by
  rw[e,List.drop_append,hl,wl (by omega),show off+1+vs.length-off=vs.length+1 by omega]
  simp only[List.drop_succ_cons,List.drop_drop,List.nil_append]
  congr 1;omega
 rw[h1,h2]
 simp
theorem q1n (off:Nat) : ∀(vs:List Value) (k:Nat) (cs:Array Value),off+k+vs.length≤cs.size →
  ((vs.zipIdx k).foldl (fun cs (c,j)=>cs.setIfInBounds (off+j) c) cs).toList=splice cs.toList (off+k) vs
 | [],k,cs,_=>by simp[splice]
 |v::vs,k,cs,h=>by
  simp only[List.length_cons]at h
  simp only[List.zipIdx_cons,List.foldl_cons]
  rw[q1n off vs (k+1) (cs.setIfInBounds (off+k) v) (by simp;omega)]
  rw[Array.toList_setIfInBounds,←Nat.add_assoc,qagy _ _ _ _ (by simp;omega)]
theorem VRs.splice {cs xs:List AV} {vs us:List Value} (h:VRs Γ w cs vs) (k:VRs Γ w xs us) (off:Nat):VRs Γ w (cs.take off++(xs++cs.drop (off+xs.length))) (Ev.splice vs off us):=by
 unfold Ev.splice
 rw[k.length]
 exact(h.take off).append (k.append (h.drop _))
theorem qrx {α:Type} {cs:List α} {off:Nat} {vs:List α} (h:off+vs.length≤cs.length):(splice cs off vs).length=cs.length:=by
 simp[splice];omega
theorem qalr (place:Nat→Option (Nat×Nat)) (f:Nat×Operand→Option (Nat×Nat×Opnd))
  (hf : ∀i x p,f (i,x)=some p → ∃q y,place i=some q∧qe0 x=some y∧p=(q.1,q.2,y)) (hv:VE Γ w e a) :
  ∀(parts:List (Nat×Operand)) (ps:List (Nat×Nat×Opnd)) (cs cs':List AV) (vs:Array Value),qil f parts=some ps→q6u e cs ps=some cs'→VRs Γ w cs vs.toList →
   ∃arr,Instr.fill place vs (parts.map fun(i,x)=>(i,a.eval x))=some arr∧VRs Γ w cs' arr.toList
 | [],ps,cs,cs',vs,h1,h2,h3=>by
  simp only[qil]at h1;cases h1
  simp only[q6u]at h2;cases h2
  exact⟨vs,by simp[Instr.fill],h3⟩
 |(i,x)::parts,ps,cs,cs',vs,h1,h2,h3=>by
  simp only[qil]at h1
  obtain⟨p,hp,h1⟩:=zob.1 h1
  obtain⟨ps',hps,h1⟩:=zob.1 h1
  cases h1
  obtain⟨⟨off,size⟩,y,hpl,hy,rfl⟩:=hf i x p hp
  simp only[q6u]at h2
  obtain⟨b,hb,h2⟩:=zob.1 h2
  split at h2
  ·rename_i hc
   have hcells:VRs Γ w b.cells (a.eval x).cells.toList:=q2c (qak hy hb hv) hc.2.2
   have hl:=hcells.length
   have hl2:=h3.length
   simp only[Array.length_toList]at hl hl2
   simp only[List.map_cons,Instr.fill,hpl]
   have hnot:¬((a.eval x).cells.size≠size||decide (off+(a.eval x).cells.size>vs.size))=true:=by
    rw[hl,hl2];simp;omega
   rw[if_neg hnot]
   have hz:=q1n off (a.eval x).cells.toList 0 vs (by simp;omega)
   refine qalr place f hf hv parts ps' _ cs' _ hps h2 ?_
   rw[show (a.eval x).cells.zipIdx.foldl (fun cs (c,j)=>cs.setIfInBounds (off+j) c) vs=((a.eval x).cells.toList.zipIdx 0).foldl (fun cs (c,j)=>cs.setIfInBounds (off+j) c) vs by
    rw[←Array.foldl_toList,Array.toList_zipIdx],hz]
   have:=h3.splice hcells off
   rw[hc.1]at this
   simpa using this
  ·cases h2
end Go.Ev
namespace Go.Ev
open Go.RowKit (Below)
variable {P:Program} {Γ Γ':Ctx} {w w':World} {σ σ':qf} {e:Env} {a:Act} {av:AV}
theorem qvr {t:TypeId} (h:(P.underlying t).isSome=true):(isAgg t).run P w = .ok (q5s P t) w:=by
 obtain⟨d,hd⟩:=Option.isSome_iff_exists.1 h
 unfold isAgg q5s
 simp only[Sem.run_bind,run_underlying hd,Result.andThen_ok,hd]
 cases d<;>rfl
theorem q4i {x:AV} {y:Value} {cs:List AV} (s:SR P Γ σ w) (hx:VR Γ w x y) (hc:qb σ x=some cs) :
  ∃b off,y = .pointer (some ⟨b,off,none⟩)∧qi Γ w cs (fun j=>w.cell? ⟨b,off+j,none⟩):=by
 unfold qb at hc
 split at hc
 ·cases hc
  simp only[VR]at hx
  obtain⟨b,off,h1,_,h2⟩:=hx
  exact⟨b,off,h1,h2⟩
 ·rename_i o g i off
  split at hc
  ·rename_i sz es g' ho
   split at hc
   ·rename_i hg
    subst hg
    obtain⟨c,hi,hc⟩:=zob.1 hc
    cases hc
    simp only[VR]at hx
    obtain⟨p,rfl,h1,h2,h3⟩:=hx
    have hO:=s.obj o _ ho
    simp only[OR]at hO
    obtain⟨k1,k2,k3,k4,k5,k6⟩:=hO
    rcases k6 with k6|⟨arr,et,k7,k8,k9⟩
    ·exfalso
     have:=(zei.1 hi).1
     omega
    ·refine⟨_,_,by rw[h3 k1],?_⟩
     have hel:=qi.elem k5 k9 hi
     by_cases hoff:off≤c.length
     ·refine(hel.drop off hoff).congr fun j => ?_
      simp only[World.cell?,k7,k2]
      simp
      congr 1;omega
     ·rw[wl (by omega)];simp[qi]
   ·cases hc
  ·cases hc
 ·cases hc
theorem qahw {t:TypeId} {b off:Nat} {cs:List AV} {r:AV} {sz:Nat} (hsz:szT P t=some sz) (hu:(P.underlying t).isSome=true) (h1:q5s P t=true∨sz=1)
  (hcs:qi Γ w cs (fun j=>w.cell? ⟨b,off+j,none⟩)) (hl:qyb sz (q5s P t) cs=some r) : ∃v,(loadVar t ⟨b,off,none⟩).run P w = .ok v w∧VR Γ w r v:=by
 obtain⟨i,hi,rfl⟩:=qoq hsz
 unfold qyb at hl
 split at hl
 ·rename_i hag
  split at hl
  ·rename_i hle
   cases hl
   obtain⟨vs,hvs,hget⟩:=(hcs.take i.size).list
   have hlen:=hvs.length
   rw[wh,wi hle]at hlen
   have hld:=run_loadCells_list (P:=P) w ⟨b,off,none⟩ vs (fun j v hj=>by rw[Addr.add_lit];exact hget j v hj)
   rw[hlen]at hld
   refine⟨.agg vs.toArray,?_,by simp only[VR];exact⟨vs,rfl,hvs⟩⟩
   simp[loadVar,qvr hu,hag,qj2 hi,hld]
  ·cases hl
 ·rename_i hag
  cases cs with
  |nil=>simp at hl
  |cons c cs=>
   simp at hl;subst hl
   simp only[qi]at hcs
   obtain⟨⟨u,h2,h3⟩,_⟩:=hcs
   refine⟨u,?_,h3⟩
   have hag':q5s P t=false:=by simpa using hag
   simp only[Nat.add_zero]at h2
   simp[loadVar,qvr hu,hag',h2]
theorem ok_ld {t:TypeId} {x:AV} {y:Value} {cs:List AV} {r:AV} {sz:Nat} (s:SR P Γ σ w) (hx:VR Γ w x y) (hc:qb σ x=some cs) (hsz:szT P t=some sz)
  (hu:(P.underlying t).isSome=true) (h1:q5s P t=true∨sz=1) (hl:qyb sz (q5s P t) cs=some r) :
  qus P Γ w (((Instr.loadAt t y).run P w).andThen fun v w => .ok (.value v) w) r σ:=by
 obtain⟨b,off,rfl,hcs⟩:=q4i s hx hc
 obtain⟨v,h2,h3⟩:=qahw hsz hu h1 hcs hl
 exact .here s (by simp[Instr.loadAt,Instr.sureAddr,h2]) h3
theorem qakm {α:Type} {l:List α} {k:Nat} {vs:List α} (h:k+vs.length≤l.length) (j:Nat):(splice l k vs)[j]? = if j<k then l[j]? else if j<k+vs.length then vs[j-k]? else l[j]?:=by
 unfold splice
 have hl:(l.take k).length=k:=by simp;omega
 rw[wm,hl]
 split
 ·rw[List.getElem?_take,if_pos (by assumption)]
 ·rw[wm]
  split
  ·rw[if_pos (by omega)]
  ·rw[if_neg (by omega),List.getElem?_drop]
   congr 1;omega
theorem qi.splice {flat ys:List AV} {vs arr:List Value} {k:Nat} (h:qi Γ w flat (fun j=>arr[j]?)) (hy:VRs Γ w ys vs) (hk:k+ys.length≤flat.length) (ha:k+ys.length≤arr.length) :
  qi Γ w (Ev.splice flat k ys) (fun j=>(Ev.splice arr k vs)[j]?):=by
 obtain⟨us,h1,h2⟩:=h.list
 have hl:=hy.length
 have hl2:=h1.length
 have h3:=h1.splice hy k
 refine qi.of_list (vs:=Ev.splice us k vs) (by simpa[Ev.splice]using h3) fun j v hj => ?_
 rw[qakm (by omega)]at hj⊢
 split
 ·rw[if_pos (by assumption)]at hj;exact h2 j v hj
 ·rw[if_neg (by assumption)]at hj
  split
  ·rw[if_pos (by assumption)]at hj;exact hj
  ·rw[if_neg (by assumption)]at hj;exact h2 j v hj
theorem qajl {α:Type} (A c B ys:List α) (off:Nat) (h:off+ys.length≤c.length):splice (A++(c++B)) (A.length+off) ys=A++(splice c off ys++B):=by
 unfold splice
 have h1:(A++(c++B)).take (A.length+off)=A++c.take off:=by
  rw[List.take_append,ztl (by omega),List.take_append]
  have:A.length+off-A.length-c.length=0:=by omega
  rw[this];simp
 have h2:(A++(c++B)).drop (A.length+off+ys.length)=c.drop (off+ys.length)++B:=by
  rw[List.drop_append,wl (by omega),List.drop_append]
  have:A.length+off+ys.length-A.length-c.length=0:=by omega
  rw[this,show A.length+off+ys.length-A.length=off+ys.length by omega];simp
 rw[h1,h2]
 simp
theorem q0n {sz:Nat} {es:List (List AV)} (h : ∀e∈es,e.length=sz) {i off:Nat} {c ys:List AV} (hi:es[i]? = some c) (ho:off+ys.length≤c.length) :
  (es.set i (splice c off ys)).flatten=splice es.flatten (i*sz+off) ys:=by
 have hl:i<es.length:=(zei.1 hi).1
 have hlen:(es.flatten.take (i*sz)).length=i*sz:=by
  rw[wh,qbo h]
  exact wi (wc _ (Nat.le_of_lt hl))
 rw[qqa h hl]
 have:=qajl (es.flatten.take (i*sz)) c (es.flatten.drop ((i+1)*sz)) ys off ho
 rw[←qqg h hi,hlen]at this
 exact this.symm
theorem qae8 {b:Nat} {arr:Array Value} (x:Nat):x=b∨(w.setRow b arr).heap[x]? = w.heap[x]?:=by
 by_cases h:x=b
 ·exact .inl h
 ·exact .inr (setRow_other w b x arr h)
theorem Ctx.loc_eta (Γ:Ctx) (o:Nat):Γ.loc o=⟨(Γ.loc o).g,(Γ.loc o).b,(Γ.loc o).sz,(Γ.loc o).ct⟩:=rfl
theorem q3l (s:SR P Γ σ w) {o sz g:Nat} {es:List (List AV)} (ho:σ[o]? = some (.row sz es g)) {arr arr':Array Value} {et:TypeId} (harr:w.heap[(Γ.loc o).b]? = some (.cells arr et (0,0)))
  (hct:(Γ.loc o).ct≠0) (g':Nat) (hg':g'=g∨g<g') (es':List (List AV)) (hlen:es'.length≤(Γ.loc o).ct) (hes : ∀e∈es',e.length=sz) (hsize:arr'.size=(Γ.loc o).ct*sz)
  (hv:qi Γ w es'.flatten (fun j=>arr'[j]?)) :
  SR P (Γ.upd o ⟨g',(Γ.loc o).b,sz,(Γ.loc o).ct⟩) (σ.set o (.row sz es' g')) (w.setRow (Γ.loc o).b arr')∧Ext Γ (Γ.upd o ⟨g',(Γ.loc o).b,sz,(Γ.loc o).ct⟩) w (w.setRow (Γ.loc o).b arr'):=by
 have hn:o<Γ.n:=by rw[←s.len];exact(zei.1 ho).1
 have hO:=s.obj o _ ho
 simp only[OR]at hO
 obtain⟨k1,k2,k3,k4,k5,k6⟩:=hO
 have hbl:=(Array.getElem?_eq_some_iff.1 harr).1
 have hgg:(⟨g',(Γ.loc o).b,sz,(Γ.loc o).ct⟩:Loc)=Γ.loc o∨(Γ.loc o).g<g':=by
  rcases hg' with rfl|hg'
  ·left;rw[Γ.loc_eta o,k1,k2]
  ·right;rw[k1];exact hg'
 have hs1 : ∀b,b<w.heap.size→(b=(Γ.loc o).b∧(Γ.loc o).ct≠0)∨(w.setRow (Γ.loc o).b arr').heap[b]? = w.heap[b]?:=fun b _=>(qae8 b).imp (fun h=>⟨h,hct⟩) id
 have hl:(Γ.loc o).ct≠0→((Γ.loc o).b=(Γ.loc o).b∧(Γ.loc o).ct≠0∨w.heap.size≤(Γ.loc o).b)∧(Γ.loc o).b<(w.setRow (Γ.loc o).b arr').heap.size:=fun h=>⟨.inl ⟨rfl,h⟩,by simpa using hbl⟩
 have e:=Ext.upd (l:=⟨g',(Γ.loc o).b,sz,(Γ.loc o).ct⟩) s hn hgg (by simp) hs1 hl rfl rfl rfl
 refine⟨SR.upd s hn hgg (by simp) hs1 hl rfl rfl rfl ?_,e⟩
 simp only[OR,Ctx.upd_same]
 exact⟨trivial,trivial,k3,hlen,hes,.inr ⟨arr',et,setRow_heap w _ _ _ _ _ harr,hsize,qi.mono e _ _ _ (fun _=>rfl) hv⟩⟩
theorem ok_st {t:TypeId} {x:AV} {y:Value} {sz o g i off rs:Nat} {p:Value} {es:List (List AV)} {c:List AV} (s:SR P Γ σ w) (hp:VR Γ w (.ptr o g i off) p) (hx:VR Γ w x y)
  (hsz:szT P t=some sz) (ho:σ[o]? = some (.row rs es g)) (hi:es[i]? = some c) (h1:off+sz≤c.length) (h2:x.cells.length=sz) (h3:qfk x.cells=true) :
  qus P Γ w (((Instr.storeAt t p y).run P w).andThen fun _ w => .ok .skip w) (.v (.tuple #[])) (σ.set o (.row rs (es.set i (c.take off++(x.cells++c.drop (off+sz)))) g)):=by
 obtain⟨inf,hinf,rfl⟩:=qoq hsz
 have hO:=s.obj o _ ho
 simp only[OR]at hO
 obtain⟨k1,k2,k3,k4,k5,k6⟩:=hO
 have hil:=(zei.1 hi).1
 have hct:(Γ.loc o).ct≠0:=by omega
 obtain⟨arr,et,k7,k8,k9⟩:=k6.resolve_left hct
 have hcl:=k5 c (qtd hi)
 simp only[VR]at hp
 obtain⟨p',rfl,_,_,hp3⟩:=hp
 obtain rfl:=hp3 k1
 rw[k2]
 have hcells:=q2c hx h3
 have hl:=hcells.length
 simp only[Array.length_toList]at hl
 have hfl:=qbo k5
 have hbound:i*rs+off+x.cells.length≤es.flatten.length:=by
  rw[hfl,h2]
  have:(i+1)*rs≤es.length*rs:=wc _ hil
  rw[wj]at this;omega
 have hbound2:es.flatten.length≤arr.size:=by rw[hfl,k8];exact wc _ k4
 have hst:=run_storeCells_at P (Γ.loc o).b (i*rs+off) et y.cells.toList 0 arr w k7 (by simp;omega) (qwe hcells h3)
 simp only[Nat.add_zero]at hst
 have hs:splice c off x.cells=c.take off++(x.cells++c.drop (off+inf.size)):=by unfold splice;rw[h2]
 have hw:=q3l s ho k7 hct g (.inl rfl) (es.set i (splice c off x.cells)) (by simpa using k4)
  (arr':=(splice arr.toList (i*rs+off) y.cells.toList).toArray)
  (fun e he=>by
   rcases List.mem_or_eq_of_mem_set he with he|rfl
   ·exact k5 e he
   ·rw[qrx (by omega)];exact hcl)
  (by simp only[List.size_toArray];rw[qrx (by simp;omega)];simpa using k8)
  (by
   rw[q0n k5 hi (by omega)]
   have:=qi.splice (k:=i*rs+off) (arr:=arr.toList) (by simpa using k9) hcells (by omega) (by simp;omega)
   simpa using this)
 rw[hs]at hw
 refine⟨.skip,undef,_,_,?_,.inr ⟨rfl,rfl⟩,by simp only[VR];rfl,hw.1,hw.2⟩
 simp[Instr.storeAt,Instr.sureAddr,storeVar,qj2 hinf,hl,h2,hst,splice]
theorem qang {t:TypeId} {k:IntKind} {z:AV} (h:mapT P t=some (k,z)) : ∃kt et i zv,P.underlying t=some (.map kt et)∧P.underlying kt=some (.int k)∧P.info? et=some i∧i.zero=some zv∧z=ofLeaf zv:=by
 unfold mapT at h
 split at h
 ·rename_i kt et ht
  split at h
  ·rename_i k' hk
   simp only[zob]at h
   obtain⟨i,h1,zv,h2,h⟩:=h
   cases h
   exact⟨kt,et,i,zv,ht,hk,h1,h2,rfl⟩
  ·cases h
 ·cases h
theorem qacm.find {k:IntKind} (n:Int) : ∀ {ps:List (Int×AV)} {ens:List MapEntry} (i:Nat),qacm Γ w k ps ens →
  (qaln n ps=none∧Instr.findNow (.int k) (.int k n) ens i=some none ∧ ∀(y:AV) (en:MapEntry),y.lo 0=true→en.key = .int k n→VR Γ w y en.val→qacm Γ w k (qajc n y ps) (ens++[en])) ∨
  (∃j en v,qaln n ps=some v∧Instr.findNow (.int k) (.int k n) ens i=some (some (i+j,en.val))∧ens[j]? = some en∧en.key = .int k n∧VR Γ w v en.val ∧
   ∀(y:AV) (en':MapEntry),y.lo 0=true→en'.key = .int k n→VR Γ w y en'.val→qacm Γ w k (qajc n y ps) (ens.set j en'))
 | [],[],i,_ => .inl ⟨rfl,rfl,fun y en h1 h2 h3=>by simp only[qajc,List.nil_append,qacm];exact⟨⟨h1,h2,h3⟩,trivial⟩⟩
 | [],_ :: _,_,h=>h.elim
 | _ :: _,[],_,h=>h.elim
 |p::ps,en::ens,i,⟨⟨h1,h2,h3⟩,h4⟩=>by
  obtain⟨r,hr,hiff⟩:=MapKept.sameNow_of_keys (d:=.int k) (a:=.int k n) (b:=en.key) rfl (by rw[h2];exact rfl)
  by_cases hp:p.1=n
  ·have hrt:r=true:=hiff.2 (by rw[h2,hp])
   subst hrt
   refine .inr ⟨0,en,p.2,by simp[qaln,hp],by simp[Instr.findNow,hr],rfl,by rw[h2,hp],h3,fun y en' q1 q2 q3 => ?_⟩
   simp only[qajc,hp,if_true,List.set_cons_zero,qacm]
   exact⟨⟨q1,q2,q3⟩,h4⟩
  ·have hrf:r=false:=by
    cases r with
    |false=>rfl
    |true=>
     have:=hiff.1 rfl
     rw[h2]at this
     injection this with _ e
     exact absurd e.symm hp
   subst hrf
   rcases qacm.find n (i+1) h4 with ⟨q1,q2,q3⟩|⟨j,en2,v,q1,q2,q3,q4,q5,q6⟩
   ·refine .inl ⟨by simp[qaln,hp,q1],by simp[Instr.findNow,hr,q2],fun y en' a1 a2 a3 => ?_⟩
    simp only[qajc,hp,if_false,wk,qacm]
    exact⟨⟨h1,h2,h3⟩,q3 y en' a1 a2 a3⟩
   ·refine .inr ⟨j+1,en2,v,by simp[qaln,hp,q1],by simp[Instr.findNow,hr,q2];omega,by simpa using q3,q4,q5,fun y en' a1 a2 a3 => ?_⟩
    simp only[qajc,hp,if_false,List.set_cons_succ,qacm]
    exact⟨⟨h1,h2,h3⟩,q6 y en' a1 a2 a3⟩
theorem ok_mkmap {t:TypeId} {k:IntKind} (s:SR P Γ σ w):qus P Γ w (((Instr.makeMap t none).run P w).andThen fun v w => .ok (.value v) w) (.mp σ.length) (σ++[.mp k []]):=by
 have x:=Ext.push (Γ:=Γ) (qd9 w (.map #[] 0)) ⟨0,w.heap.size,1,1⟩ fun _=>wa _
 refine⟨_,.map (some w.heap.size),w.alloc (.map #[] 0),Γ.push ⟨0,w.heap.size,1,1⟩,rfl,.inl rfl,?_,s.push (qd9 w (.map #[] 0)) _ (fun _=>⟨wa _,by simp⟩) ?_,x⟩
 ·simp only[VR,s.len,Ctx.push_new]
  exact⟨_,rfl,by simp[Ctx.push],fun _=>by simp⟩
 ·simp only[OR,Ctx.push_new]
  exact⟨trivial,by simp,#[],0,qki w _,by simp[qacm]⟩
theorem qad9 (s:SR P Γ σ w) {o:Nat} {k:IntKind} {es es':List (Int×AV)} (ho:σ[o]? = some (.mp k es)) {arr arr':Array MapEntry} {clock clock':Nat} (harr:w.heap[(Γ.loc o).b]? = some (.map arr clock))
  (hv:qacm Γ w k es' arr'.toList) :
  SR P (Γ.upd o (Γ.loc o)) (σ.set o (.mp k es')) { w with heap:=w.heap.setIfInBounds (Γ.loc o).b (.map arr' clock') }∧Ext Γ (Γ.upd o (Γ.loc o)) w { w with heap:=w.heap.setIfInBounds (Γ.loc o).b (.map arr' clock') }:=by
 have hn:o<Γ.n:=by rw[←s.len];exact(zei.1 ho).1
 have hO:=s.obj o _ ho
 simp only[OR]at hO
 obtain⟨k1,k2,_⟩:=hO
 have hbl:=(Array.getElem?_eq_some_iff.1 harr).1
 have hset:=MapKept.heap_set (o':=.map arr' clock') harr
 have hs1 : ∀b,b<w.heap.size→(b=(Γ.loc o).b∧(Γ.loc o).ct≠0)∨(w.heap.setIfInBounds (Γ.loc o).b (.map arr' clock'))[b]? = w.heap[b]?:=fun b _=>by
  by_cases h:b=(Γ.loc o).b
  ·exact .inl ⟨h,k2⟩
  ·exact .inr (hset.2 b h)
 have hl:(Γ.loc o).ct≠0→((Γ.loc o).b=(Γ.loc o).b∧(Γ.loc o).ct≠0∨w.heap.size≤(Γ.loc o).b)∧(Γ.loc o).b<(w.heap.setIfInBounds (Γ.loc o).b (.map arr' clock')).size:=fun h=>⟨.inl ⟨rfl,h⟩,by simpa using hbl⟩
 have e:=Ext.upd (w':={ w with heap:=w.heap.setIfInBounds (Γ.loc o).b (.map arr' clock') }) (l:=Γ.loc o) s hn (.inl rfl) (by simp) hs1 hl rfl rfl rfl
 refine⟨SR.upd (w':={ w with heap:=w.heap.setIfInBounds (Γ.loc o).b (.map arr' clock') }) s hn (.inl rfl) (by simp) hs1 hl rfl rfl rfl ?_,e⟩
 simp only[OR,Ctx.upd_same]
 exact⟨k1,k2,arr',clock',hset.1,hv.imp fun a y _ hy=>VR.mono e _ _ hy⟩
theorem ok_mput {t kt et:TypeId} {k:IntKind} {n:Int} {o:Nat} {es:List (Int×AV)} {y:AV} {p u:Value} (s:SR P Γ σ w) (hp:VR Γ w (.mp o) p) (hx:VR Γ w y u) (hy:y.lo 0=true)
  (hm:P.underlying t=some (.map kt et)) (hk:P.underlying kt=some (.int k)) (ho:σ[o]? = some (.mp k es)) :
  qus P Γ w (((Instr.mapUpdate t p (.int k n) u).run P w).andThen fun _ w => .ok .skip w) (.v (.tuple #[])) (σ.set o (.mp k (qajc n y es))):=by
 have hO:=s.obj o _ ho
 simp only[OR]at hO
 obtain⟨k1,k2,arr,clock,k3,k4⟩:=hO
 simp only[VR]at hp
 obtain⟨b,rfl,_,hb⟩:=hp
 obtain rfl:=hb k1
 have hkey:MapKept.IsKey (.int k) (.int k n):=rfl
 rcases qacm.find n 0 k4 with ⟨q1,q2,q3⟩|⟨j,en,v,q1,q2,q3,q4,q5,q6⟩
 ·obtain⟨h1,h2⟩:=qad9 s ho k3 (es':=qajc n y es) (arr':=arr.push { key:=.int k n,val:=u,born:=clock }) (clock':=clock+1) (by simpa using q3 y ⟨.int k n,u,clock⟩ hy rfl hx)
  refine⟨.skip,undef,_,_,?_,.inr ⟨rfl,rfl⟩,by simp only[VR];rfl,h1,h2⟩
  simp[Instr.mapUpdate,run_underlying hm,MapKept.run_getObj_map k3,MapKept.run_checkKey hk hkey,MapKept.run_findKey hk q2,MapKept.run_setObj_map _ k3,Result.andThen]
 ·rw[Nat.zero_add]at q2
  have hj:arr[j]? = some en:=by simpa using q3
  have hl:(arr.modify j fun e => { e with key:=.int k n,val:=u }).toList=arr.toList.set j { en with key:=.int k n,val:=u }:=by
   apply List.ext_getElem?
   intro i
   simp only[Array.toList_modify,List.getElem?_modify,List.getElem?_set]
   by_cases hij:j=i
   ·subst hij
    have hlt:=(zei.1 q3).1
    rw[q3]
    simp only[if_true,Option.map_some,Option.map_eq_map,if_pos hlt]
   ·simp[hij]
  obtain⟨h1,h2⟩:=qad9 s ho k3 (es':=qajc n y es) (arr':=arr.modify j fun e => { e with key:=.int k n,val:=u }) (clock':=clock) (by rw[hl];exact q6 y _ hy rfl hx)
  refine⟨.skip,undef,_,_,?_,.inr ⟨rfl,rfl⟩,by simp only[VR];rfl,h1,h2⟩
  simp[Instr.mapUpdate,run_underlying hm,MapKept.run_getObj_map k3,MapKept.run_checkKey hk hkey,MapKept.run_findKey hk q2,hj,q4,MapKept.run_keyThatStays hkey,MapKept.run_setObj_map _ k3,Result.andThen]
theorem ok_mget {t kt et:TypeId} {k:IntKind} {n:Int} {o:Nat} {es:List (Int×AV)} {p zv:Value} {ok:Bool} {i:TypeInfo} (s:SR P Γ σ w) (hp:VR Γ w (.mp o) p)
  (hm:P.underlying t=some (.map kt et)) (hk:P.underlying kt=some (.int k)) (hi:P.info? et=some i) (hz:i.zero=some zv) (ho:σ[o]? = some (.mp k es)) :
  qus P Γ w (((Instr.lookup t p (.int k n) ok).run P w).andThen fun v w => .ok (.value v) w) (gotL ok (ofLeaf zv) (qaln n es)) σ:=by
 have hO:=s.obj o _ ho
 simp only[OR]at hO
 obtain⟨k1,k2,arr,clock,k3,k4⟩:=hO
 simp only[VR]at hp
 obtain⟨b,rfl,_,hb⟩:=hp
 obtain rfl:=hb k1
 have hkey:MapKept.IsKey (.int k) (.int k n):=rfl
 have hpair : ∀(v:AV) (u:Value) (q:Bool),VR Γ w v u→VR Γ w (if ok=true then .tup [v,.v (.bool q)]else v) (if ok=true then .tuple #[u,.bool q]else u):=fun v u q hv=>by
  cases ok with
  |false=>simpa using hv
  |true=>
   simp only[if_true,VR,VRs]
   exact⟨[u,.bool q],rfl,u,_,rfl,hv,_,_,rfl,rfl,rfl⟩
 rcases qacm.find n 0 k4 with ⟨q1,q2,q3⟩|⟨j,en,v,q1,q2,q3,q4,q5,q6⟩
 ·rw[q1]
  refine .here s (v:=if ok=true then .tuple #[zv,.bool false]else zv) ?_ (hpair _ _ false (VR.ofLeaf zv))
  simp[Instr.lookup,run_underlying hm,MapKept.run_getObj_map k3,MapKept.run_checkKey hk hkey,MapKept.run_findKey hk q2,q3b hi hz,Result.andThen]
 ·rw[q1]
  refine .here s (v:=if ok=true then .tuple #[en.val,.bool true]else en.val) ?_ (hpair _ _ true q5)
  rw[Nat.zero_add]at q2
  simp[Instr.lookup,run_underlying hm,MapKept.run_getObj_map k3,MapKept.run_checkKey hk hkey,MapKept.run_findKey hk q2,Result.andThen]
end Go.Ev
namespace Go.Ev
open Go.RowKit (Below)
variable {P:Program} {Γ Γ':Ctx} {w w':World} {σ σ':qf} {e:Env} {a:Act} {av:AV}
theorem qg8 {sz:Nat} : ∀ {xs:List (List AV)},qdk sz xs=true → ∀x∈xs,x.length=sz
 | [],_,x,h=>by cases h
 |y::ys,h,x,hx=>by
  simp only[qdk,wd,decide_eq_true_eq]at h
  rcases List.mem_cons.1 hx with rfl|hx
  ·exact h.1
  ·exact qg8 h.2.2 x hx
theorem qug {sz:Nat} : ∀ {xs:List (List AV)},qdk sz xs=true→qfk xs.flatten=true
 | [],_=>rfl
 |y::ys,h=>by
  simp only[qdk,wd,decide_eq_true_eq]at h
  have h2:=qug h.2.2
  rw[wf]
  have : ∀(l m:List AV),qfk l=true→qfk m=true→qfk (l++m)=true:=by
   intro l m
   induction l with
   |nil=>intro _ h;exact h
   |cons b l ih=>intro h1 h2;simp only[wk,qfk,wd]at h1 ⊢;exact⟨h1.1,ih h1.2 h2⟩
  exact this _ _ h.2.1 h2
theorem qw0 {sz:Nat} : ∀ {xs ys:List (List AV)},qdk sz (xs++ys)=true→qdk sz xs=true∧qdk sz ys=true
 | [],ys,h=>⟨rfl,h⟩
 |x::xs,ys,h=>by
  simp only[wk,qdk,wd]at h⊢
  have:=qw0 h.2.2
  exact⟨⟨h.1,h.2.1,this.1⟩,this.2⟩
theorem qqv {es:List (List AV)} {c:Bool} {y:Value} (h:VR Γ w (.fsl es c) y) (hne:es ≠ []) :
  ∃b off sz cap,y = .slice (some ⟨b,off,none⟩) es.length cap∧es.length≤cap∧(c=true→cap=es.length)∧Γ.okB w b∧0<sz∧(∀e∈es,e.length=sz)∧qi Γ w es.flatten (fun j=>w.cell? ⟨b,off+j,none⟩):=by
 simp only[VR]at h
 obtain⟨A,cap,rfl,h1,h2,h3⟩:=h
 rcases h3 with h3|⟨b,off,sz,rfl,h4,h5,h6,h7⟩
 ·exact absurd h3 hne
 ·exact⟨b,off,sz,cap,rfl,h1,h2,h4,h5,h6,(qmw h6).1 h7⟩
theorem qzq {o g off len sz:Nat} {c:Bool} {y:Value} {es:List (List AV)} (s:SR P Γ σ w) (h:VR Γ w (.sl o g off len c) y) (ho:σ[o]? = some (.row sz es g)) (hlen:off+len≤es.length) (hpos:0<len) :
  ∃cap,y = .slice (some ⟨(Γ.loc o).b,off*sz,none⟩) len cap∧len≤cap∧(c=true→cap=len)∧off+cap≤(Γ.loc o).ct∧qi Γ w ((es.drop off).take len).flatten (fun j=>w.cell? ⟨(Γ.loc o).b,off*sz+j,none⟩):=by
 have hO:=s.obj o _ ho
 simp only[OR]at hO
 obtain⟨k1,k2,k3,k4,k5,k6⟩:=hO
 simp only[VR]at h
 obtain⟨A,cap,rfl,h1,h2,h3,h4,h5⟩:=h
 obtain⟨h6,h7⟩:=h5 k1
 rcases h7 with h7|h7
 ·omega
 ·obtain⟨arr,et,k7,k8,k9⟩:=k6.resolve_left (by omega)
  refine⟨cap,by rw[h7,k2],h1,h2,h6,?_⟩
  have hd:qi Γ w (es.drop off).flatten (fun j=>arr[j+off*sz]?):=by
   rw[qot off k5]
   exact k9.drop _ (by rw[qbo k5];exact wc _ (by omega))
  rw[qii (sz:=sz) len fun x hx=>k5 x (List.mem_of_mem_drop hx)]
  refine(hd.take _).congr fun j => ?_
  simp only[World.cell?,k7]
  simp
  congr 1;omega
theorem src_ok {x:AV} {y:Value} {xs:List (List AV)} {sz:Nat} {tx:TypeId} (s:SR P Γ σ w) (hx:VR Γ w x y) (hc:qdr σ x=some xs) (hr:qdk sz xs=true) (hsz:0<sz)
  (ht:(∃e',P.underlying tx=some (.slice e'))∨P.underlying tx=some .string) : ∃news,Src P sz tx y xs.length news w∧VRs Γ w xs.flatten news:=by
 have hlen:=qg8 hr
 have fromCells : ∀(A:Option Addr) (n cap:Nat),y = .slice A n cap→n=xs.length→(xs ≠ [] → ∃b off,A=some ⟨b,off,none⟩∧qi Γ w xs.flatten (fun j=>w.cell? ⟨b,off+j,none⟩)) →
   ∃news,Src P sz tx y xs.length news w∧VRs Γ w xs.flatten news:=by
  rintro A n cap rfl rfl hcells
  by_cases hne:xs=[]
  ·subst hne
   have hone : ∀u∈([]:List Value),u.oneCell'=true:=fun _ h=>by cases h
   refine⟨[],⟨ht,fun _=>rfl,?_,?_,by simp,hone⟩,by simp[VRs]⟩ <;>
   ·cases A with
    |none=>exact run_firstCells_none _ _ _ _ _
    |some A=>exact run_firstCells_some _ sz 0 A _ _ [] (by simp) (by simp)
  ·obtain⟨b,off,rfl,hv⟩:=hcells hne
   obtain⟨news,h1,h2⟩:=hv.list
   have hl:=h1.length
   rw[qbo hlen]at hl
   have hone:=qwe h1 (qug hr)
   have hget : ∀j u,news[j]? = some u→w.cell? ((⟨b,off,none⟩:Addr).add j)=some u:=fun j u hj=>by rw[Addr.add_lit];exact h2 j u hj
   exact⟨news,⟨ht,fun _=>rfl,run_firstCells_some w sz _ _ _ _ news hl hget,run_firstCells_some w.drew sz _ _ _ _ news hl (by simpa using hget),hl,hone⟩,h1⟩
 unfold qdr at hc
 split at hc
 ·cases hc
  by_cases hne:xs=[]
  ·subst hne
   simp only[VR]at hx
   obtain⟨A,cap,rfl,_⟩:=hx
   exact fromCells A _ cap rfl rfl (fun h=>absurd rfl h)
  ·obtain⟨b,off,_,cap,h1,_,_,_,_,_,h2⟩:=qqv hx hne
   exact fromCells _ _ cap h1 rfl fun _=>⟨b,off,rfl,h2⟩
 ·rename_i o g off len c
  split at hc
  ·rename_i sz' es g' ho
   split at hc
   ·rename_i hg
    obtain⟨rfl,hle⟩:=hg
    cases hc
    have hn:((es.drop off).take len).length=len:=by simp;omega
    by_cases hpos:0<len
    ·obtain⟨cap,h1,_,_,_,h2⟩:=qzq s hx ho hle hpos
     exact fromCells _ _ cap h1 hn.symm fun _=>⟨_,_,rfl,h2⟩
    ·obtain rfl:len=0:=by omega
     simp only[VR]at hx
     obtain⟨A,cap,rfl,_⟩:=hx
     exact fromCells A _ cap rfl hn.symm fun h=>absurd (by simp) h
   ·cases hc
  ·cases hc
 ·rename_i str
  cases hc
  simp only[VR]at hx
  subst hx
  have hs1:str.data.toList ≠ []→sz=1:=fun hne=>by
   obtain⟨b,l,hb⟩:=List.exists_cons_of_ne_nil hne
   have:=hlen [.v (.int .u8 b.toNat)] (by rw[hb];simp)
   simpa using this.symm
  have hsz':(str.data.toList.map fun b=>[AV.v (.int .u8 b.toNat)]).length=str.size:=by rw[List.length_map,Array.length_toList];rfl
  have hcells : ∀W:World,(Builtin.firstCells sz str.size (.string str)).run P W = .ok (byteCells str).toArray W:=fun W=>firstCells_string (P:=P) str W
  have hbl:=byteCells_length str
  have hz1:str.size*1=str.size*sz:=by
   by_cases hne:str.data.toList=[]
   ·have h0:str.size=0:=by rw[←hsz',hne];rfl
    rw[h0];simp
   ·rw[hs1 hne]
  rw[hsz']
  refine⟨byteCells str,⟨ht,fun _=>rfl,hcells w,hcells w.drew,by rw[hbl];omega,?_⟩,?_⟩
  ·intro u hu
   obtain⟨_,_,rfl⟩:=List.mem_map.1 hu
   rfl
  ·unfold byteCells
   generalize str.data.toList=l
   induction l with
   |nil=>simp[VRs]
   |cons b l ih=>simp only[List.map_cons,wf,wk,List.nil_append,VRs,VR];exact⟨_,_,rfl,rfl,ih⟩
 ·cases hc
theorem qmi (z:Array Value) (n:Nat):(Builtin.zeroCells z n).size=n*z.size:=by simp[Builtin.zeroCells]
theorem qwy (w:World) (need old:Nat) (e:TypeId):need≤grownCap w need old e:=by simp[grownCap,Question.cut]
theorem quk {α:Type} {l:List α} {r:List α} {j:Nat} {v:α} (h:l[j]? = some v):(l++r)[j]? = some v:=by
 rw[List.getElem?_append_left (zei.1 h).1];exact h
def ZOk (P:Program) (e:TypeId):Prop:=∃i z,P.info? e=some i∧i.zero=some z∧z.cells.size=i.size
theorem qaek {t tx ty el:TypeId} {sz bytes:Nat} {base:Option Addr} {len cap:Nat} {y:Value} {n:Nat} {olds news:List Value}
  (ht:P.underlying t=some (.slice el)) (hz:ZOk P el) (hsz:szT P el=some sz) (hby:byT P el=some bytes)
  (hb0:0<bytes) (hsrc:Src P sz tx y n news w) (hold : ∀W:World,(∀x,W.cell? x=w.cell? x)→(Builtin.firstCells sz len (.slice base len cap)).run P W = .ok olds.toArray W)
  (hlo:olds.length=len*sz) (hg:cap<len+n) (hfit:(len+n)*bytes≤2^47) :
  ∃c' rest,(Builtin.append_ #[t,tx] ty #[.slice base len cap,y]).run P w = .ok (.slice (some ⟨w.heap.size,0,none⟩) (len+n) c') (w.drew.alloc (.cells ((olds++news)++rest).toArray el)) ∧
   len+n≤c'∧((olds++news)++rest).length=c'*sz:=by
 obtain⟨i,z,hi,hzv,hzs⟩:=hz
 obtain⟨i',hi',rfl⟩:=qoq hsz
 obtain⟨i'',hi'',rfl⟩:=q8q hby
 rw[hi]at hi' hi''
 cases hi';cases hi''
 have hle:(len+n)*1≤(len+n)*i.bytes:=Nat.mul_le_mul_left _ hb0
 have hcap:Builtin.nextslicecap (len+n) cap*i.bytes≤281474976710656:=by
  have h1:=nextslicecap_le hg
  have h2:=wc i.bytes h1
  rw[Nat.mul_assoc]at h2
  omega
 have hr:=run_append_grow_src (P:=P) w t tx ty el i z ht hi hzv base len cap olds (hold w.drew fun _=>rfl) y n news hsrc hg (by omega) hcap
 refine⟨grownCap w (len+n) cap el,(Builtin.zeroCells z.cells (grownCap w (len+n) cap el-(len+n))).toList,?_,qwy _ _ _ _,?_⟩
 ·rw[hr];congr 3
  apply Array.ext'
  simp
 ·have h1:=qwy w (len+n) cap el
  rw[List.length_append,List.length_append,hlo,hsrc.newsLen]
  simp only[Array.length_toList,qmi,hzs]
  rw[←wj,←wj]
  congr 1;omega
theorem qaa2 (s:SR P Γ σ w) {sz:Nat} {el:TypeId} {es:List (List AV)} {vs rest:List Value} {n c':Nat} (hsz:0<sz) (hes : ∀e∈es,e.length=sz) (hv:VRs Γ w es.flatten vs) (hn:es.length=n) (hc:n≤c')
  (hl:(vs++rest).length=c'*sz) :
  SR P (Γ.push ⟨0,w.heap.size,sz,c'⟩) (σ++[.row sz es 0]) (w.drew.alloc (.cells (vs++rest).toArray el))∧Ext Γ (Γ.push ⟨0,w.heap.size,sz,c'⟩) w (w.drew.alloc (.cells (vs++rest).toArray el)):=by
 have hB:Below w.heap.size w (w.drew.alloc (.cells (vs++rest).toArray el)):=(qzw w).trans (qd9 w.drew _)
 exact qz4 (P:=P) s hB (wa _) (b:=w.heap.size) (et:=el) (arr:=(vs++rest).toArray) (qki w.drew _) sz c' es hsz (by omega) hes (by simpa using hl) hv (fun j v hj=>by simpa using quk hj)
theorem ok_app {t tx ty el:TypeId} {sz bytes o g len:Nat} {c:Bool} {p y:Value} {x:AV} {xs es:List (List AV)} (s:SR P Γ σ w) (hp:VR Γ w (.sl o g 0 len c) p) (hx:VR Γ w x y)
  (ht:P.underlying t=some (.slice el)) (htx:(∃e',P.underlying tx=some (.slice e'))∨P.underlying tx=some .string) (hz:ZOk P el) (hsz:szT P el=some sz) (hby:byT P el=some bytes) (hs0:0<sz) (hb0:0<bytes)
  (hc:qdr σ x=some xs) (hr:qdk sz xs=true) (ho:σ[o]? = some (.row sz es g)) (hlen:len≤es.length) (hfit:(len+xs.length)*bytes≤2^47) :
  qus P Γ w (((Builtin.append_ #[t,tx] ty #[p,y]).run P w).andThen fun v w => .ok (.value v) w) (if xs=[]then .sl o g 0 len c else .sl o (g+1) 0 (len+xs.length) false)
   (if xs=[]then σ else σ.set o (.row sz (es.take len++xs) (g+1))):=by
 obtain⟨news,hsrc,hnews⟩:=src_ok (tx:=tx) s hx hc hr hs0 htx
 have hn:o<Γ.n:=by rw[←s.len];exact(zei.1 ho).1
 have hO:=s.obj o _ ho
 have hO':=hO
 simp only[OR]at hO
 obtain⟨k1,k2,k3,k4,k5,k6⟩:=hO
 have hp':=hp
 simp only[VR]at hp
 obtain⟨A,cap,rfl,h1,h2,h3,h4,h5⟩:=hp
 obtain⟨h6,h7⟩:=h5 k1
 have hnl:=hsrc.newsLen
 obtain⟨inf,zv0,hinf,hzz⟩:=hz
 obtain⟨inf',hinf',hszz⟩:=qoq hsz
 rw[hinf]at hinf';cases hinf'
 have hes' : ∀e∈es.take len++xs,e.length=sz:=fun e he=>by
  rcases List.mem_append.1 he with he|he
  ·exact k5 e (List.mem_of_mem_take he)
  ·exact qg8 hr e he
 by_cases hroom:len+xs.length≤cap
 ·-- there is room
  by_cases hct:(Γ.loc o).ct=0
  ·have hc0:cap=0:=by omega
   have hx0:xs=[]:=wg.1 (by omega)
   have hl0:len=0:=by omega
   subst hx0 hl0 hc0
   simp only[List.length_nil,Nat.zero_mul]at hnl
   have hn0:news=[]:=wg.1 hnl
   subst hn0
   simp only[if_pos]
   have hq1 : ∀w':World,(Builtin.lenOf y).run P w' = .ok 0 w':=hsrc.len
   have hq2:(Builtin.firstCells sz 0 y).run P w = .ok #[] w:=hsrc.cells
   refine .here s (v:=.slice A 0 0) ?_ hp'
   rcases htx with ⟨e',hk⟩|hk<;>cases A<;>simp[Builtin.append_,run_underlying ht,run_underlying hk,sizeOf,typeInfo,hinf,hq1,hq2,hszz,storeCells]
  ·obtain⟨arr,et,k7,k8,k9⟩:=k6.resolve_left hct
   have hrun : ∀a',A=some a'→a'=⟨(Γ.loc o).b,0,none⟩→(Builtin.append_ #[t,tx] ty #[.slice A len cap,y]).run P w =
     .ok (.slice A (len+xs.length) cap) (w.setRow (Γ.loc o).b (arr.toList.take (len*sz)++news++arr.toList.drop (len*sz+news.length)).toArray):=by
    rintro a' rfl rfl
    have hst:=run_storeCells_at P (Γ.loc o).b (len*sz) et news 0 arr w k7 (by
     rw[k8,hnl,Nat.add_zero,←wj];exact wc _ (by omega)) hsrc.one
    simp only[Nat.add_zero]at hst
    rcases htx with ⟨e',hk⟩|hk<;>simp[Builtin.append_,run_underlying ht,run_underlying hk,sizeOf,typeInfo,hinf,hszz,hsrc.len,hroom,hsrc.cells,Addr.add_lit,hst]
   by_cases hx0:xs=[]
   ·subst hx0
    simp only[List.length_nil,Nat.zero_mul]at hnl
    have hn0:news=[]:=wg.1 hnl
    subst hn0
    simp only[if_pos]
    have hq1 : ∀w':World,(Builtin.lenOf y).run P w' = .ok 0 w':=hsrc.len
    have hq2:(Builtin.firstCells sz 0 y).run P w = .ok #[] w:=hsrc.cells
    refine .here s (v:=.slice A len cap) ?_ hp'
    cases A with
    |none=>rcases htx with ⟨e',hk⟩|hk<;>simp[Builtin.append_,run_underlying ht,run_underlying hk,sizeOf,typeInfo,hinf,hszz,hq1,hq2,h1]
    |some A'=>
     rcases htx with ⟨e',hk⟩|hk<;>simp[Builtin.append_,run_underlying ht,run_underlying hk,sizeOf,typeInfo,hinf,hszz,hq1,hq2,h1,storeCells]
   ·rw[if_neg hx0,if_neg hx0]
    have hxp:0<xs.length:=List.length_pos_iff.2 hx0
    have hA:A=some ⟨(Γ.loc o).b,0,none⟩:=by
     rcases h7 with h7|h7
     ·omega
     ·rw[h7];simp
    have hflat:qi Γ w (es.take len++xs).flatten (fun j=>(arr.toList.take (len*sz)++news++arr.toList.drop (len*sz+news.length)).toArray[j]?):=by
     rw[wn,qii len k5]
     obtain⟨us,u1,u2⟩:=(k9.take (len*sz)).list
     have hul:us.length=len*sz:=by
      rw[u1.length,wh,qbo k5]
      exact wi (wc _ hlen)
     have harrl:(arr.toList.take (len*sz)).length=len*sz:=by
      rw[wh,Array.length_toList,k8]
      exact wi (wc _ (by omega))
     refine qi.of_list (u1.append hnews) fun j v hj => ?_
     simp only[List.getElem?_toArray]
     rw[List.append_assoc,wm,harrl]
     rw[wm,hul]at hj
     split
     ·rw[if_pos (by assumption)]at hj
      rw[List.getElem?_take,if_pos (by assumption)]
      simpa using u2 j v hj
     ·rw[if_neg (by assumption)]at hj
      exact quk hj
    have hw:=q3l s ho k7 hct (g+1) (.inr (Nat.lt_succ_self _)) (es.take len++xs) (by simp;omega)
     (arr':=(arr.toList.take (len*sz)++news++arr.toList.drop (len*sz+news.length)).toArray) hes'
     (by
      have:len*sz+news.length≤arr.size:=by rw[hnl,k8,←wj];exact wc _ (by omega)
      rw[←k8];simp;omega) hflat
    refine⟨_,_,_,_,by rw[hrun _ hA rfl];rfl,.inl rfl,?_,hw.1,hw.2⟩
    simp only[VR,Ctx.upd_same]
    exact⟨A,cap,rfl,hroom,by simp,hn,wa _,fun _=>⟨by omega,.inr (by rw[hA];simp)⟩⟩
 ·-- there is none
  have hx0:xs ≠ []:=fun h=>by subst h;simp at hroom;omega
  rw[if_neg hx0,if_neg hx0]
  have hold : ∃olds,VRs Γ w (es.take len).flatten olds∧olds.length=len*sz ∧ ∀W:World,(∀x,W.cell? x=w.cell? x)→(Builtin.firstCells sz len (.slice A len cap)).run P W = .ok olds.toArray W:=by
   by_cases hpos:0<len
   ·obtain⟨cap',e1,_,_,_,e2⟩:=qzq s hp' ho (by omega) hpos
    simp only[Value.slice.injEq]at e1
    obtain⟨rfl,_,rfl⟩:=e1
    simp only[List.drop_zero]at e2
    obtain⟨olds,e3,e4⟩:=e2.list
    have hol:olds.length=len*sz:=by
     rw[e3.length,qbo fun x hx=>k5 x (List.mem_of_mem_take hx),wh,wi hlen]
    exact⟨olds,e3,hol,fun W hW=>run_firstCells_some W sz len _ _ _ olds hol fun j v hj=>by rw[hW,Addr.add_lit];exact e4 j v hj⟩
   ·obtain rfl:len=0:=by omega
    refine⟨[],by simp[VRs],by simp,fun W _ => ?_⟩
    cases A with
    |none=>exact run_firstCells_none _ _ _ _ _
    |some A=>exact run_firstCells_some _ sz 0 A _ _ [] (by simp) (by simp)
  obtain⟨olds,o1,o2,o3⟩:=hold
  obtain⟨c',rest,r1,r2,r3⟩:=qaek (ty:=ty) ht ⟨inf,zv0,hinf,hzz⟩ hsz hby hb0 hsrc o3 o2 (by omega) hfit
  -- the object moves to the new row
  have hB:Below w.heap.size w (w.drew.alloc (.cells ((olds++news)++rest).toArray el)):=(qzw w).trans (qd9 w.drew _)
  have hsize:w.heap.size<(w.drew.alloc (.cells ((olds++news)++rest).toArray el)).heap.size:=by simp
  have hs1 : ∀b,b<w.heap.size→(b=(Γ.loc o).b∧(Γ.loc o).ct≠0)∨(w.drew.alloc (.cells ((olds++news)++rest).toArray el)).heap[b]? = w.heap[b]?:=fun b hb => .inr (hB.block b hb)
  have hl:c'≠0→(w.heap.size=(Γ.loc o).b∧(Γ.loc o).ct≠0∨w.heap.size≤w.heap.size)∧w.heap.size<(w.drew.alloc (.cells ((olds++news)++rest).toArray el)).heap.size:=fun _=>⟨.inr (wa _),hsize⟩
  have hgg:(⟨g+1,w.heap.size,sz,c'⟩:Loc)=Γ.loc o∨(Γ.loc o).g<g+1:=.inr (by omega)
  have ee:=Ext.upd (l:=⟨g+1,w.heap.size,sz,c'⟩) s hn hgg hB.size hs1 hl rfl rfl rfl
  refine⟨_,_,_,Γ.upd o ⟨g+1,w.heap.size,sz,c'⟩,by rw[r1];rfl,.inl rfl,?_,SR.upd s hn hgg hB.size hs1 hl rfl rfl rfl ?_,ee⟩
  ·simp only[VR,Ctx.upd_same]
   exact⟨_,c',rfl,r2,by simp,hn,wa _,fun _=>⟨by omega,.inr (by simp)⟩⟩
  ·simp only[OR,Ctx.upd_same]
   refine⟨trivial,trivial,hs0,by simp;omega,hes',.inr ⟨_,el,qki w.drew _,by simpa using r3,?_⟩⟩
   rw[wn]
   exact qi.of_list (VRs.mono ee _ _ (o1.append hnews)) fun j v hj=>by simpa using quk (r:=rest) hj
theorem qaga {t tx ty el:TypeId} {sz bytes:Nat} {p y:Value} {x:AV} {xs es:List (List AV)} (s:SR P Γ σ w) (hp:VR Γ w (.fsl es true) p) (hx:VR Γ w x y)
  (ht:P.underlying t=some (.slice el)) (htx:(∃e',P.underlying tx=some (.slice e'))∨P.underlying tx=some .string) (hz:ZOk P el) (hsz:szT P el=some sz) (hby:byT P el=some bytes) (hs0:0<sz) (hb0:0<bytes)
  (hc:qdr σ x=some xs) (hr:qdk sz (es++xs)=true) (hfit:(es.length+xs.length)*bytes≤2^47) :
  qus P Γ w (((Builtin.append_ #[t,tx] ty #[p,y]).run P w).andThen fun v w => .ok (.value v) w) (if xs=[]then .fsl es true else .sl σ.length 0 0 (es.length+xs.length) false)
   (if xs=[]then σ else σ++[.row sz (es++xs) 0]):=by
 obtain⟨hr1,hr2⟩:=qw0 hr
 obtain⟨news,hsrc,hnews⟩:=src_ok (tx:=tx) s hx hc hr2 hs0 htx
 have hnl:=hsrc.newsLen
 have hp':=hp
 simp only[VR]at hp
 obtain⟨A,cap,rfl,h1,h2,h3⟩:=hp
 obtain rfl:=h2 trivial
 obtain⟨inf,zv0,hinf,hzz⟩:=hz
 obtain⟨inf',hinf',hszz⟩:=qoq hsz
 rw[hinf]at hinf';cases hinf'
 by_cases hx0:xs=[]
 ·subst hx0
  simp only[List.length_nil,Nat.zero_mul]at hnl
  have hn0:news=[]:=wg.1 hnl
  subst hn0
  simp only[if_pos]
  have hq1 : ∀w':World,(Builtin.lenOf y).run P w' = .ok 0 w':=hsrc.len
  have hq2:(Builtin.firstCells sz 0 y).run P w = .ok #[] w:=hsrc.cells
  refine .here s (v:=.slice A es.length es.length) ?_ hp'
  cases A with
  |none=>rcases htx with ⟨e',hk⟩|hk<;>simp[Builtin.append_,run_underlying ht,run_underlying hk,sizeOf,typeInfo,hinf,hszz,hq1,hq2]
  |some A'=>rcases htx with ⟨e',hk⟩|hk<;>simp[Builtin.append_,run_underlying ht,run_underlying hk,sizeOf,typeInfo,hinf,hszz,hq1,hq2,storeCells]
 ·rw[if_neg hx0,if_neg hx0]
  have hxp:0<xs.length:=List.length_pos_iff.2 hx0
  have hel:=qg8 hr1
  have hold : ∃olds,VRs Γ w es.flatten olds∧olds.length=es.length*sz ∧ ∀W:World,(∀x,W.cell? x=w.cell? x)→(Builtin.firstCells sz es.length (.slice A es.length es.length)).run P W = .ok olds.toArray W:=by
   by_cases hne:es=[]
   ·subst hne
    refine⟨[],by simp[VRs],by simp,fun W _ => ?_⟩
    cases A with
    |none=>exact run_firstCells_none _ _ _ _ _
    |some A=>exact run_firstCells_some _ sz 0 A _ _ [] (by simp) (by simp)
   ·obtain⟨b,off,_,cap,e1,_,_,_,_,_,e2⟩:=qqv hp' hne
    simp only[Value.slice.injEq]at e1
    obtain⟨rfl,_,rfl⟩:=e1
    obtain⟨olds,e3,e4⟩:=e2.list
    have hol:olds.length=es.length*sz:=by rw[e3.length,qbo hel]
    exact⟨olds,e3,hol,fun W hW=>run_firstCells_some W sz _ _ _ _ olds hol fun j v hj=>by rw[hW,Addr.add_lit];exact e4 j v hj⟩
  obtain⟨olds,o1,o2,o3⟩:=hold
  obtain⟨c',rest,r1,r2,r3⟩:=qaek (ty:=ty) ht ⟨inf,zv0,hinf,hzz⟩ hsz hby hb0 hsrc o3 o2 (by omega) hfit
  have hv:VRs Γ w (es++xs).flatten (olds++news):=by rw[wn];exact o1.append hnews
  obtain⟨q1,q2⟩:=qaa2 (P:=P) (el:=el) (n:=es.length+xs.length) s hs0 (qg8 hr) hv (by simp) r2 r3
  refine⟨_,_,_,_,by rw[r1];rfl,.inl rfl,?_,q1,q2⟩
  simp only[VR,s.len,Ctx.push_new]
  exact⟨_,c',rfl,r2,by simp,by simp[Ctx.push],wa _,fun _=>⟨by omega,.inr (by simp)⟩⟩
theorem qv7 {o g off len sz:Nat} {c:Bool} {v:Value} {es:List (List AV)} (s:SR P Γ σ w) (h:VR Γ w (.sl o g off len c) v) (ho:σ[o]? = some (.row sz es g)) (hle:off+len≤es.length) :
  SR P (Γ.drop o) (σ.set o .dead) w∧VR (Γ.drop o) w (.fsl ((es.drop off).take len) false) v:=by
 have hn:o<Γ.n:=by rw[←s.len];exact(zei.1 ho).1
 refine⟨s.drop hn,?_⟩
 have hlen:((es.drop off).take len).length=len:=by simp;omega
 by_cases hpos:0<len
 ·obtain⟨cap,h1,h2,_,h3,h4⟩:=qzq s h ho hle hpos
  have hO:=s.obj o _ ho
  simp only[OR]at hO
  have hct:(Γ.loc o).ct≠0:=by omega
  have hlens : ∀x∈(es.drop off).take len,x.length=sz:=fun x hx=>hO.2.2.2.2.1 x (List.mem_of_mem_drop (List.mem_of_mem_take hx))
  have hown:=s.blk o hn hct
  simp only[VR]
  refine⟨_,cap,by rw[hlen];exact h1,by omega,fun h=>(by cases h),.inr ⟨_,_,sz,rfl,⟨s.ownlt _ hown,fun h=>h.2 hct rfl,s.sep _ hown⟩,hO.2.2.1,hlens,?_⟩⟩
  exact(qmw hlens).2 (qi.mono (Ext.drop Γ w o) _ _ _ (fun _=>rfl) h4)
 ·obtain rfl:len=0:=by omega
  simp only[VR]at h⊢
  obtain⟨A,cap,rfl,h1,_⟩:=h
  exact⟨A,cap,by simp,by simp,fun h=>(by cases h),.inl (by simp)⟩
theorem qus.freeze {res:Result Next} {len sz:Nat} {c:Bool} {es:List (List AV)} (hl:len=es.length) (h:qus P Γ w res (.sl σ.length 0 0 len c) (σ++[.row sz es 0])):qus P Γ w res (.fsl es false) (σ++[.dead]):=by
 obtain⟨nx,v,w',Γ',h1,h2,h3,h4,h5⟩:=h
 obtain⟨q1,q2⟩:=qv7 (es:=es) (sz:=sz) h4 h3 (by simp) (by omega)
 refine⟨nx,v,w',_,h1,h2,?_,?_,h5.trans (Ext.drop Γ' w' σ.length)⟩
 ·rw[hl]at q2;simpa using q2
 ·simpa using q1
theorem qwc {v:Value} {sz:Nat} (s:SR P Γ σ w) (h0:0<sz) (hv:VR Γ w (.fsl [] true) v) :
  SR P (Γ.push ⟨0,0,sz,0⟩) (σ++[.row sz [] 0]) w∧Ext Γ (Γ.push ⟨0,0,sz,0⟩) w w∧VR (Γ.push ⟨0,0,sz,0⟩) w (.sl σ.length 0 0 0 false) v:=by
 have hx:=Ext.push (Γ:=Γ) (Below.refl w.heap.size w) ⟨0,0,sz,0⟩ fun h=>absurd rfl h
 refine⟨s.push (Below.refl w.heap.size w) ⟨0,0,sz,0⟩ (fun h=>absurd rfl h) (by
  simp only[OR,Ctx.push_new]
  exact⟨trivial,trivial,h0,wa _,by simp,.inl trivial⟩),hx,?_⟩
 simp only[VR]at hv⊢
 rw[s.len,Ctx.push_new]
 obtain⟨A,cap,rfl,h1,h2,_⟩:=hv
 have:=h2 trivial
 simp at this
 subst this
 exact⟨A,0,rfl,wa _,fun _=>rfl,by simp[Ctx.push],wa _,fun _=>⟨wa _,.inl rfl⟩⟩
theorem qus.own_empty {res:Result Next} {sz:Nat} (h0:0<sz) (h:qus P Γ w res (.fsl [] true) σ):qus P Γ w res (.sl σ.length 0 0 0 false) (σ++[.row sz [] 0]):=by
 obtain⟨nx,v,w',Γ',h1,h2,h3,h4,h5⟩:=h
 obtain⟨q1,q2,q3⟩:=qwc h4 h0 h3
 exact⟨nx,v,w',_,h1,h2,q3,q1,h5.trans q2⟩
theorem qus.give {res:Result Next} {r r':AV} {σ1 σ2:qf} (h:qus P Γ w res r σ1) (hg:q53 r σ1=some (r',σ2)):qus P Γ w res r' σ2:=by
 obtain⟨nx,v,w',Γ',h1,h2,h3,h4,h5⟩:=h
 unfold q53 at hg
 split at hg
 ·split at hg
  ·rename_i ho
   split at hg
   ·rename_i hc
    obtain⟨rfl,hle⟩:=hc
    cases hg
    obtain⟨q1,q2⟩:=qv7 h4 h3 ho hle
    exact⟨nx,v,w',_,h1,h2,q2,q1,h5.trans (Ext.drop Γ' w' _)⟩
   ·cases hg
  ·cases hg
 ·cases hg
  exact⟨nx,v,w',_,h1,h2,h3,h4,h5⟩
end Go.Ev
