/- For every input the statement of this claim returns true: texts of its proof, joined (part 11). -/
import Derived.ChangeShapes
import Derived.ChangeOld
import Derived.ChangeArms
import Derived.DataReads
import Derived.Carry
import Derived.ChangeSame
import Derived.OpenShut
import Derived.Handed
import Derived.RowKit3
import Derived.ChangeAt
import Derived.Test.YtfdoelhnnmcppaaGreatRows
import Derived.WalkKit
import Derived.ProofKit
import Derived.Test.YtfdoelhnnmcppaaGreatET3
import Derived.Test.YtfdoelhnnmcppaaGreatGT09
set_option linter.unusedSectionVars false
set_option linter.unusedSimpArgs false
set_option linter.unusedVariables false
namespace Go.Ev
def Ctx.nil:Ctx:={ n:=0,loc:=fun _=>⟨0,0,0,0⟩,own:=fun _=>False,far:=fun _=>False }
theorem SR.nil (P:Program) (w:World):SR P Ctx.nil [] w where
 len:=rfl
 obj o ob h:=by simp at h
 blk o h:=absurd h (Nat.not_lt_zero _)
 inj o o' h:=absurd h (Nat.not_lt_zero _)
 ownlt b h:=h.elim
 farlt b h:=h.elim
 sep b h:=h.elim
section
variable (P:Program) {H:Type} (enc:TypeId×Value→H)
def qow (t:TypeId) {τ:Type} (c:τ→List AV) (ok:τ→Prop):Prop:=
 ∀(w:World) (fuel:Nat) (cs:List Value) (d:DataW H) (ps:List MemPlace),DataW.trod enc P w 0 (fun _=>true) true fuel t cs=some (d,ps) → ∃x:τ,ok x∧VRs Ctx.nil w (c x) cs
variable {P enc}
theorem VRs.one {Γ:Ctx} {w:World} {a:AV} {v:Value} (h:VR Γ w a v):VRs Γ w [a] [v]:=by
 simp only[VRs];exact⟨v,[],rfl,h,rfl⟩
theorem qaa4 {t:TypeId} {k:IntKind} (hu:P.underlying t=some (.int k)):qow P enc t (fun n:Int=>[.v (.int k n)]) (fun n=>(Lit.int k n).wf=true):=by
 intro w fuel cs d ps h
 cases fuel with
 |zero=>simp[DataW.trod]at h
 |succ fuel=>
  unfold DataW.trod at h
  rw[hu]at h
  split at h<;>rename_i heq<;>first|(cases heq;done)|(cases h;done)|skip
  cases heq
  split at h
  ·rename_i hk
   obtain⟨rfl,hwf⟩:=hk
   exact⟨_,hwf,VRs.one (by simp only[VR])⟩
  ·cases h
variable (P enc) in
def q2q (off:Nat) (fs:List Field) {τ:Type} (c:τ→List AV) (ok:τ→Prop) (tot:Nat):Prop:=
 ∀(w:World) (fuel:Nat) (cs:List Value),(∀(i:Nat) (f:Field),fs[i]? = some f → ∃x,DataW.trod enc P w 0 (fun _=>true) true fuel f.type ((cs.drop f.offset).take (P.cellsOf f.type))=some x) →
  ∃x:τ,ok x∧VRs Ctx.nil w (c x) ((cs.drop off).take tot)
theorem qza (off:Nat):q2q P enc off [] (fun _:Unit=>[]) (fun _=>True) 0:=fun w fuel cs _=>⟨(),trivial,by simp[VRs]⟩
theorem qgn {off:Nat} {f:Field} {fs:List Field} {α β:Type} {c1:α→List AV} {ok1:α→Prop} {c2:β→List AV} {ok2:β→Prop} {tot:Nat} {sz:Nat} (ho:f.offset=off) (hs:P.cellsOf f.type=sz)
  (h1:qow P enc f.type c1 ok1) (h2:q2q P enc (off+sz) fs c2 ok2 tot):q2q P enc off (f::fs) (fun x:α×β=>c1 x.1++c2 x.2) (fun x=>ok1 x.1∧ok2 x.2) (sz+tot):=by
 intro w fuel cs h
 obtain⟨⟨d,ps⟩,h3⟩:=h 0 f rfl
 obtain⟨x,k1,k2⟩:=h1 w fuel _ d ps h3
 obtain⟨y,k3,k4⟩:=h2 w fuel cs fun i g hg=>h (i+1) g (by simpa using hg)
 refine⟨(x,y),⟨k1,k3⟩,?_⟩
 rw[List.take_add,List.drop_drop]
 rw[ho,hs]at k2
 exact k2.append k4
theorem qadm {t:TypeId} {fs:Array Field} {τ:Type} {c:τ→List AV} {ok:τ→Prop} (hu:P.underlying t=some (.struct fs)) (h:q2q P enc 0 fs.toList c ok (P.cellsOf t)):qow P enc t c ok:=by
 intro w fuel cs d ps ht
 obtain⟨xs,n,rfl,_,hl,hx,hall⟩:=DataW.trod_struct hu ht
 obtain⟨x,k1,k2⟩:=h w n cs fun i f hf=>by
  have hf':fs[i]? = some f:=by simpa using hf
  have:=hall i f hf'
  have hlt:i<xs.length:=by rw[hx];exact(Array.getElem?_eq_some_iff.1 hf').1
  exact⟨xs[i],by rw[this,zgE hlt]⟩
 refine⟨x,k1,?_⟩
 rw[List.drop_zero,←hl,List.take_length]at k2
 exact k2
theorem qvj {t:TypeId} {fs:Array Field} {τ:Type} {c:τ→List AV} {ok:τ→Prop} {n:Nat} (hu:P.underlying t=some (.struct fs)) (h:q2q P enc 0 fs.toList c ok n) (hn:P.cellsOf t=n):qow P enc t c ok:=qadm hu (by rw[hn];exact h)
theorem qow.map {t:TypeId} {α β:Type} {c:α→List AV} {ok:α→Prop} {c':β→List AV} {ok':β→Prop} (g:α→β) (h:qow P enc t c ok) (hc : ∀x,c' (g x)=c x) (ho : ∀x,ok x→ok' (g x)):qow P enc t c' ok':=by
 intro w fuel cs d ps ht
 obtain⟨x,h1,h2⟩:=h w fuel cs d ps ht
 exact⟨g x,ho x h1,by rw[hc];exact h2⟩
theorem q8a {τ:Type} {Q:Nat→τ→Prop} : ∀(n:Nat),(∀i,i<n → ∃x,Q i x) → ∃xs:List τ,xs.length=n ∧ ∀(i:Nat) (x:τ),xs[i]? = some x→Q i x
 | 0,_=>⟨[],rfl,by simp⟩
 |n+1,h=>by
  obtain⟨xs,h1,h2⟩:=q8a n fun i hi=>h i (by omega)
  obtain⟨x,hx⟩:=h n (by omega)
  refine⟨xs++[x],by simp[h1],fun i y hy => ?_⟩
  rw[List.getElem?_append]at hy
  split at hy
  ·exact h2 i y hy
  ·rename_i hi
   have hlt:i-xs.length<1:=by
    have:=(zei.1 hy).1
    simpa using this
   have:i=n:=by omega
   subst this
   rw[h1,Nat.sub_self]at hy
   simp at hy;subst hy;exact hx
theorem qafg {Γ:Ctx} {w:World} {sz:Nat} {τ:Type} {c:τ→List AV} : ∀(xs:List τ) (get:Nat→Option Value),(∀(i:Nat) (x:τ),xs[i]? = some x→qi Γ w (c x) (fun j=>get (j+i*sz)))→qhp Γ w sz (xs.map c) get
 | [],_,_=>by simp[qhp]
 |x::xs,get,h=>by
  simp only[List.map_cons,qhp]
  refine⟨by simpa using h 0 x (by simp),qafg xs _ fun i y hy => ?_⟩
  refine(h (i+1) y (by simpa using hy)).congr fun j => ?_
  congr 1
  rw[Nat.add_mul];omega
theorem que {t e:TypeId} {sz:Nat} {τ:Type} {c:τ→List AV} {ok:τ→Prop} (hu:P.underlying t=some (.slice e)) (hs:P.cellsOf e=sz) (h0:0<sz) (hc : ∀x,(c x).length=sz) (h:qow P enc e c ok) :
  qow P enc t (fun xs:List τ=>[.fsl (xs.map c) false]) (fun xs=>(∀x∈xs,ok x)∧xs.length≤maxLen):=by
 intro w fuel cs d ps ht
 rcases DataW.trod_slice hu ht with ⟨rfl,_⟩|⟨a,len,cap,elems,rest,n,rfl,rfl,_,_,hle,hcap,hel,hall,_⟩
 ·refine⟨[],by simp,VRs.one ?_⟩
  simp only[VR]
  exact⟨none,0,rfl,by simp,fun h=>(by cases h),.inl rfl⟩
 ·have hex : ∀i,i<len → ∃x:τ,ok x ∧ ∃vs,w.cells? 0 (a.add (i*sz)) sz=some vs∧VRs Ctx.nil w (c x) vs:=by
   intro i hi
   have hb:=hall i hi
   rw[zgE (by omega),zob]at hb
   obtain⟨vs,k1,k2⟩:=hb
   obtain⟨x,k3,k4⟩:=h w n vs _ _ k2
   rw[hs]at k1
   exact⟨x,k3,vs,k1,k4⟩
  obtain⟨xs,h4,h5⟩:=q8a (Q:=fun i x=>ok x ∧ ∃vs,w.cells? 0 (a.add (i*sz)) sz=some vs∧VRs Ctx.nil w (c x) vs) len hex
  refine⟨xs,⟨fun x hx => ?_,by omega⟩,VRs.one ?_⟩
  ·obtain⟨i,hi,rfl⟩:=List.mem_iff_getElem.1 hx
   exact(h5 i _ (by simp[hi])).1
  ·simp only[VR]
   refine⟨some a,cap,by simp[h4],by simp[h4];omega,fun h=>(by cases h),?_⟩
   by_cases hx0:xs=[]
   ·left;simp[hx0]
   ·right
    have hlen0:0<xs.length:=List.length_pos_iff.2 hx0
    have hcell : ∀(i:Nat) (x:τ),xs[i]? = some x → ∀j,j<sz → ∃v,w.cell? ((a.add (i*sz)).add j)=some v:=by
     intro i x hx j hj
     obtain⟨_,vs,k1,k2⟩:=h5 i x hx
     obtain⟨_,k3,k4⟩:=World.cells?_some k1
     exact⟨vs[j]'(by omega),by rw[k4 j hj,zgE (by omega)]⟩
    obtain⟨v0,hv0⟩:=hcell 0 xs[0] (by simp[hlen0]) 0 h0
    obtain⟨b,off,spot⟩:=a
    have hspot:spot=none:=by simpa[Addr.add]using World.cell?_spot hv0
    subst hspot
    have hblt:b<w.heap.size:=by
     rw[Addr.add_lit,Addr.add_lit]at hv0
     unfold World.cell? at hv0
     cases hh:w.heap[b]? with
     |none=>rw[hh]at hv0;simp at hv0
     |some o=>exact(Array.getElem?_eq_some_iff.1 hh).1
    refine⟨b,off,sz,rfl,⟨hblt,id,id⟩,h0,?_,?_⟩
    ·intro e he
     obtain⟨x,_,rfl⟩:=List.mem_map.1 he
     exact hc x
    ·refine qafg xs _ fun i x hx => ?_
     obtain⟨_,vs,k1,k2⟩:=h5 i x hx
     obtain⟨_,k3,k4⟩:=World.cells?_some k1
     refine qi.of_list k2 fun j v hj => ?_
     have hjl:=(zei.1 hj).1
     have:=k4 j (by omega)
     rw[hj,Addr.add_lit,Addr.add_lit]at this
     rw[←this]
     congr 2
     omega
end
end Go.Ev
namespace Go.Ev
open Go.RowKit (Below)
open Go.ChangeShapes Go.WideShapes Go.ChangeAt Go.RowKit
variable {H:Type} {enc:TypeId×Value→H} {P:Program}
theorem Ext.below {w w':World} {Γ':Ctx} (x:Ext Ctx.nil Γ' w w'):Below w.heap.size w w':=⟨x.os,x.tape,x.output,x.size,fun k hk=>x.same k hk id⟩
theorem q3d (hl:laidOutB P=true) {w w':World} (hb:Below w.heap.size w w') {sp:Nat→Bool} : ∀ {ts:List TypeId} {vs:List Value} {ds:List (DataW H)} {ps:List MemPlace},
  (∀t∈ts,P.readableRec t=true∧t<P.types.size)→DataW.TrodAll enc P w 0 (fun _=>true) true ts vs ds ps→(∀p∈ps,p.block<w.heap.size)→(∀p∈ps,sp p.block=true)→DataW.TrodAll enc P w' 0 sp true ts vs ds ps
 | [],[],[],ps,_,h,_,_=>h
 |t::ts,v::vs,d::ds,ps,ht,⟨p,q,h1,h2,e⟩,hlt,hs=>by
  subst e
  obtain⟨r1,r2⟩:=ht t (by simp)
  exact⟨p,q,WideElems.Trod_stays hl r1 r2 h1 (fun x hx=>hb.same (hlt x (List.mem_append_left _ hx))) (fun x hx=>hs x (List.mem_append_left _ hx)),
   q3d hl hb (fun u hu=>ht u (by simp[hu])) h2 (fun x hx=>hlt x (List.mem_append_right _ hx)) (fun x hx=>hs x (List.mem_append_right _ hx)),rfl⟩
 | [],_ :: _,_,_,_,h,_,_=>h.elim
 | [],[],_ :: _,_,_,h,_,_=>h.elim
 | _ :: _,[],_,_,_,h,_,_=>h.elim
 | _ :: _,_ :: _,[],_,_,h,_,_=>h.elim
theorem frz_bool {σ:qf} {d:Nat} {a:AV} {b:Bool}:frz σ (d+1) a=some (.v (.bool b))→a = .v (.bool b):=by
 intro h
 simp only[frz]at h
 split at h
 ·cases h;rfl
 ·cases a with
  |v x=>cases h;rfl
  |sl o g off len c=>
   simp only at h
   split at h
   ·split at h
    ·rw[zob]at h;obtain⟨_,_,h⟩:=h;cases h
    ·cases h
   ·cases h
  |ptr o g i off=>
   simp only at h
   split at h
   ·split at h
    ·rw[zob]at h;obtain⟨_,_,h⟩:=h
     rw[zob]at h;obtain⟨_,_,h⟩:=h;cases h
    ·cases h
   ·cases h
  |agg cs=>simp only[zob]at h;obtain⟨_,_,h⟩:=h;cases h
  |tup cs=>simp only[zob]at h;obtain⟨_,_,h⟩:=h;cases h
  |fsl es c=>simp only[zob]at h;obtain⟨_,_,h⟩:=h;cases h
  |fptr cs=>simp only[zob]at h;obtain⟨_,_,h⟩:=h;cases h
  |fn f a b=>simp only[zob]at h;obtain⟨_,_,_,_,h⟩:=h;cases h
  |yld o=>cases h
  |mp o=>cases h
theorem qaju {T:Tab} (hT:TabOk P T) {f:Nat} {cf:CFunc} (hc:T.code f=some cf) {as_:List AV} {b:Bool} (h:qaz (evL T) f as_=some (.v (.bool b))) {W:World} {args:Array Value} (hv:VRs Ctx.nil W as_ args.toList) :
  Calls P f args W fun e W'=>e = .returned (.bool b)∧Below W.heap.size W W':=by
 unfold qaz at h
 rw[zob]at h
 obtain⟨⟨r,σ⟩,h1,h2⟩:=h
 obtain rfl:=frz_bool (d:=5) h2
 have hn:=evL_ok hT f as_ [] _ σ h1 Ctx.nil W args.toList (SR.nil P W) hv
 rw[Array.toArray_toList,hT.enter hc]at hn
 refine(callsIn_wide.1 hn).mono fun e W' he => ?_
 cases e with
 |returned v=>
  obtain⟨Γ',k1,_,k3⟩:=he
  simp only[VR]at k1
  exact⟨by rw[k1],k3.below⟩
 |panicked _=>exact he.elim
 |outgrown=>exact he.elim
theorem qaeg {f:Func} {s:ChangeSpec} {apart fresh handsOn again:Bool} {W W':World} {args:Array Value} {ds gs:List (DataW H)} {before:List MemPlace} {tb:TypeId}
  (hvars:s.vars=[]) (hspec:s.fn H (ds++gs) = { results:=[.lit (.bool true)],args:=ds }) (hr:f.resultTypes = #[tb]) (htb:P.underlying tb=some .bool) (hl:laidOutB P=true)
  (hts : ∀t∈f.params.toList,P.readableRec t=true∧t<P.types.size)
  (hW:DataW.Whole enc P f.params.toList s.vars apart W args.toList ds gs before) (hb:Below W.heap.size W W'):s.post enc P f apart fresh handsOn again W args (.bool true) W':=by
 have hlt:=hW.lt
 have hW':=hW
 obtain⟨p,q,hA,hV,rfl,hz,hnd⟩:=hW
 rw[hvars]at hV
 obtain⟨rfl,rfl⟩:=trodVars_none hV
 have hargs : ∀sp:Nat→Bool,(∀x∈p,sp x.block=true)→DataW.TrodAll enc P W' 0 sp true f.params.toList args.toList ds p:=fun sp hs=>q3d hl hb hts hA (fun x hx=>hlt x (by simp[hx])) hs
 have hres : ∀(bb:Nat) (sp:Nat→Bool) (hd:Bool),DataW.TrodAll enc P W' bb sp hd f.resultTypes.toList ((Value.bool true).resultList f.resultTypes.size) [.lit (.bool true)] []:=fun bb sp hd=>by
  rw[hr]
  exact trodAll_mk1 (shut_bool htb true)
 refine⟨ds,[],p++[],[],p,[],hW',?_,?_,?_,hb.frame _,fun _=>⟨?_,?_⟩⟩
 ·rw[hspec];exact hres _ _ _
 ·rw[hspec];exact hargs _ fun x hx=>by simpa using hlt x (by simp[hx])
 ·rw[hspec,hvars];rfl
 ·exact ok_one hr rfl (okWide_bool_mk htb true)
 ·refine⟨[.lit (.bool true)]++ds,[],([]++p)++[],⟨[]++p,[],trodAll_append (hargs _ (fun _ _=>rfl)) (hres _ _ _),by rw[hvars];rfl,rfl,?_,?_⟩,?_⟩
  ·intro b off hp
   have hp':MemPlace.cell b off∈p:=by simpa using hp
   have hblt:b<W.heap.size:=hlt (.cell b off) (by simp[hp'])
   rw[hb.frozen (p:=⟨b,off,none⟩) hblt]
   exact hz b off (by simp[hp'])
  ·intro ha
   simpa using hnd ha
  ·intro x hx _
   simpa using hx
end Go.Ev
namespace Go.Ev
open Go.RowKit (Below)
open Go.ChangeShapes Go.WideShapes Go.ChangeAt Go.RowKit
section
variable {H:Type} (P:Program) (enc:TypeId×Value→H)
def qaa9 (ts:List TypeId) {τ:Type} (c:τ→List AV) (ok:τ→Prop):Prop:=
 ∀(W:World) (args:List Value) (ds:List (DataW H)) (p:List MemPlace),DataW.TrodAll enc P W 0 (fun _=>true) true ts args ds p →
  (∀(j:Nat) t v,ts[j]? = some t→args[j]? = some v → ∃base,Value.okWide P W .any base t v) → ∃x:τ,ok x∧VRs Ctx.nil W (c x) args∧ds.length=ts.length
variable {P enc}
def qam8:TypeDesc→Bool
 | .struct _=>false
 | .array _ _=>false
 | _=>true
theorem qafq {w:World} {r:Reach} {base:Nat} {t:TypeId} {v:Value} {u:TypeDesc} (hu:P.underlying t=some u) (hp:qam8 u=true) (h:Value.okWide P w r base t v) : ∀cs,v ≠ .agg cs:=by
 rintro cs rfl
 unfold Value.okWide at h
 rw[hu]at h
 cases u<;>simp only[qam8,Bool.false_eq_true]at hp<;>simp only[Cell.okWide,Cell.ok,hu]at h
theorem qajo:qaa9 P enc [] (fun _:Unit=>[]) (fun _=>True):=by
 intro W args ds p h _
 obtain⟨rfl,rfl,rfl⟩:=trodAll_nil h
 exact⟨(),trivial,by simp[VRs],rfl⟩
theorem q7i {t:TypeId} {ts:List TypeId} {u:TypeDesc} {α β:Type} {a:α→AV} {ok1:α→Prop} {c2:β→List AV} {ok2:β→Prop} (hu:P.underlying t=some u) (hp:qam8 u=true)
  (h1:qow P enc t (fun x=>[a x]) ok1) (h2:qaa9 P enc ts c2 ok2):qaa9 P enc (t::ts) (fun x:α×β=>a x.1::c2 x.2) (fun x=>ok1 x.1∧ok2 x.2):=by
 intro W args ds p h hval
 obtain⟨v,vs,d,ds',p,q,rfl,rfl,rfl,ht,hr⟩:=trodAll_cons h
 obtain⟨y,k1,k2,k3⟩:=h2 W vs ds' q hr fun j t v e1 e2=>hval (j+1) t v (by simpa using e1) (by simpa using e2)
 obtain⟨fuel,hf⟩:=ht
 obtain⟨x,m1,m2⟩:=h1 W fuel _ d p hf
 obtain⟨base,hv⟩:=hval 0 t v rfl rfl
 have hna:=qafq hu hp hv
 have hc:v.cells.toList=[v]:=by
  cases v with
  |agg cs=>exact absurd rfl (hna cs)
  | _=>rfl
 rw[hc]at m2
 simp only[VRs]at m2
 obtain⟨v',r,e,m3,rfl⟩:=m2
 cases e
 refine⟨(x,y),⟨m1,k1⟩,?_,by simp[k3]⟩
 simp only[VRs]
 exact⟨v,vs,rfl,m3,k2⟩
theorem qacv {t:TypeId} {ts:List TypeId} {fs:Array Field} {α β:Type} {c1:α→List AV} {ok1:α→Prop} {c2:β→List AV} {ok2:β→Prop} (hu:P.underlying t=some (.struct fs))
  (h1:qow P enc t c1 ok1) (h2:qaa9 P enc ts c2 ok2):qaa9 P enc (t::ts) (fun x:α×β => .agg (c1 x.1)::c2 x.2) (fun x=>ok1 x.1∧ok2 x.2):=by
 intro W args ds p h hval
 obtain⟨v,vs,d,ds',p,q,rfl,rfl,rfl,ht,hr⟩:=trodAll_cons h
 obtain⟨y,k1,k2,k3⟩:=h2 W vs ds' q hr fun j t v e1 e2=>hval (j+1) t v (by simpa using e1) (by simpa using e2)
 obtain⟨fuel,hf⟩:=ht
 obtain⟨x,m1,m2⟩:=h1 W fuel _ d p hf
 obtain⟨base,hv⟩:=hval 0 t v rfl rfl
 obtain⟨cs,rfl,_⟩:=okWide_struct hu hv
 refine⟨(x,y),⟨m1,k1⟩,?_,by simp[k3]⟩
 simp only[VRs]
 refine⟨_,vs,rfl,?_,k2⟩
 simp only[VR]
 exact⟨cs.toList,by simp,by simpa[Value.cells]using m2⟩
end
theorem qahj {H:Type} {enc:TypeId×Value→H} {P:Program} {T:Tab} (hT:TabOk P T) {f:Nat} {fn:Func} {cf:CFunc} (hc:T.code f=some cf) {s:ChangeSpec} {apart:Bool} {ts:List TypeId} {tb:TypeId} {τ:Type} {c:τ→List AV} {ok:τ→Prop}
  (hpar:fn.params.toList=ts) (hargs:qaa9 P enc ts c ok) (hlaw : ∀x,ok x→qaz (evL T) f (c x)=some (.v (.bool true)))
  (hvars:s.vars=[]) (hspec : ∀ds:List (DataW H),ds.length=ts.length→s.fn H ds = { results:=[.lit (.bool true)],args:=ds })
  (hr:fn.resultTypes = #[tb]) (htb:P.underlying tb=some .bool) (hl:laidOutB P=true) (hts : ∀t∈ts,P.readableRec t=true∧t<P.types.size)
  (W:World) (base:Nat) (args:Array Value) (ds gs:List (DataW H)) (before:List MemPlace) (hval : ∀(j:Nat) t v,fn.params[j]? = some t→args[j]? = some v→Value.okWide P W .any base t v)
  (hW:DataW.Whole enc P fn.params.toList s.vars apart W args.toList ds gs before):Calls P f args W fun e W' => ∃v,e = .returned v∧s.post enc P fn apart true false false W args v W':=by
 have hW':=hW
 obtain⟨p,q,hA,hV,rfl,hz,hnd⟩:=hW
 rw[hvars]at hV
 obtain⟨rfl,rfl⟩:=trodVars_none hV
 obtain⟨x,h1,h2,h3⟩:=hargs W args.toList ds p (hpar▸hA) fun j t v e1 e2=>⟨base,hval j t v (by rw[←hpar]at e1;simpa using e1) (by simpa using e2)⟩
 refine(qaju hT hc (hlaw x h1) h2).mono fun e W' ⟨he,hb⟩=>⟨_,he,?_⟩
 exact qaeg hvars (by rw[List.append_nil];exact hspec ds h3) hr htb hl (by rw[hpar];exact hts) hW' hb
end Go.Ev
namespace Go.Proofs.YtfdoelhnnmcppaaGreat.K
open Go.Ev
open Go.ChangeShapes Go.WideShapes Go.ChangeAt Go.RowKit
section
variable {H:Type} {enc:TypeId×Value→H}
theorem wf_u8 {n:Int} (h:(Lit.int .u8 n).wf=true):0≤n∧n≤255:=by
 simp[Lit.wf]at h
 have h1:IntKind.u8.min=0:=rfl
 have h2:IntKind.u8.max=255:=rfl
 omega
theorem wf_i64 {n:Int} (h:(Lit.int .i64 n).wf=true) : -9223372036854775808≤n∧n≤9223372036854775807:=by
 simp[Lit.wf]at h
 have h1:IntKind.i64.min = -9223372036854775808:=rfl
 have h2:IntKind.i64.max=9223372036854775807:=rfl
 omega
theorem qr2:qow Tryz.prog enc 3 (fun n:Int=>[(ii n)]) (fun n => -9223372036854775808≤n∧n≤9223372036854775807):=(qaa4 Tryz.underlying3).map id (fun _=>rfl) (fun _ h=>wf_i64 h)
theorem qalt:qow Tryz.prog enc 5 (fun n:Int=>[(.v (.int .u8 n))]) (fun n=>0≤n∧n≤255):=(qaa4 Tryz.underlying5).map id (fun _=>rfl) (fun _ h=>wf_u8 h)
theorem data_op:qow Tryz.prog enc 85 OpI.r (fun _=>True):=by
 have h:=qvj (P:=Tryz.prog) (enc:=enc) (t:=85) Tryz.underlying85 (qgn (sz:=1) rfl (by kernel_rfl) qr2 (qgn (sz:=1) rfl (by kernel_rfl) qr2 (qgn (sz:=1) rfl (by kernel_rfl) qr2 (qgn (sz:=1) rfl (by kernel_rfl) qr2 (qza _))))) (by kernel_rfl)
 exact h.map (fun x=>(⟨x.1,x.2.1,x.2.2.1,x.2.2.2.1⟩:OpI)) (fun _=>rfl) (fun _ _=>trivial)
theorem qak7:qow Tryz.prog enc 86 (fun l:List OpI=>[(.fsl ((l).map OpI.r) false)]) (fun l=>(∀x∈l,True)∧l.length≤maxLen):=que (sz:=4) Tryz.underlying86 (by kernel_rfl) (by decide) (fun _=>rfl) data_op
theorem qai2:qow Tryz.prog enc 23 (fun l:List (List OpI)=>[(.fsl ((l).map qbu) false)]) (fun l=>(∀x∈l,(∀y∈x,True)∧x.length≤maxLen)∧l.length≤maxLen):=que (sz:=1) Tryz.underlying23 (by kernel_rfl) (by decide) (fun _=>rfl) qak7
theorem qaj4:qow Tryz.prog enc 82 Start.r (fun _=>True):=by
 have h:=qvj (P:=Tryz.prog) (enc:=enc) (t:=82) Tryz.underlying82 (qgn (sz:=1) rfl (by kernel_rfl) qr2 (qgn (sz:=1) rfl (by kernel_rfl) qr2 (qza _))) (by kernel_rfl)
 exact h.map (fun x=>(⟨x.1,x.2.1⟩:Start)) (fun _=>rfl) (fun _ _=>trivial)
theorem qagd:qow Tryz.prog enc 83 (fun l:List Start=>[(.fsl ((l).map Start.r) false)]) (fun l=>(∀x∈l,True)∧l.length≤maxLen):=que (sz:=2) Tryz.underlying83 (by kernel_rfl) (by decide) (fun _=>rfl) qaj4
theorem data_lps:qow Tryz.prog enc 22 (fun l:List (List Start)=>[(.fsl ((l).map lpC) false)]) (fun l=>(∀x∈l,(∀y∈x,True)∧x.length≤maxLen)∧l.length≤maxLen):=que (sz:=1) Tryz.underlying22 (by kernel_rfl) (by decide) (fun _=>rfl) qagd
theorem data_cfg:qow Tryz.prog enc 25 (fun c:Cfg=>[(.fsl ((c.lps).map lpC) false),(.fsl ((c.progs).map qbu) false),(ii c.look),(ii c.fin),(ii c.cap)]) (fun c => -9223372036854775808≤c.look∧c.look≤9223372036854775807):=by
 have h:=qvj (P:=Tryz.prog) (enc:=enc) (t:=25) Tryz.underlying25 (qgn (sz:=1) rfl (by kernel_rfl) data_lps (qgn (sz:=1) rfl (by kernel_rfl) qai2 (qgn (sz:=1) rfl (by kernel_rfl) qr2 (qgn (sz:=1) rfl (by kernel_rfl) qr2 (qgn (sz:=1) rfl (by kernel_rfl) qr2 (qza _)))))) (by kernel_rfl)
 exact h.map (fun x=>(⟨x.1,x.2.1,x.2.2.1,x.2.2.2.1,x.2.2.2.2.1⟩:Cfg)) (fun _=>rfl) (fun _ h=>h.2.2.1)
end
theorem own:ownKnob Tryz.prog.godebug=none:=by kernel_rfl
theorem laid:laidOutB Tryz.prog=true:=by kernel_rfl
end Go.Proofs.YtfdoelhnnmcppaaGreat.K
