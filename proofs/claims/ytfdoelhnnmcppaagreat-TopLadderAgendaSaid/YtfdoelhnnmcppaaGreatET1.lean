/- For every input the statement of this claim returns true: texts of its proof, joined (part 2). -/
import Derived.Laws.StructEq
import Derived.ChangeKeysEq
import Derived.Test.YtfdoelhnnmcppaaGreatET0
set_option linter.unusedSectionVars false
set_option linter.unusedSimpArgs false
set_option linter.unusedVariables false
open List renaming replicate → wa, eq_nil_of_length_eq_zero → wd, eq_of_mem_replicate → we, mem_of_mem_take → wf, mem_of_mem_drop → wg, flatten_append → wj, mem_append → wk, append_assoc → wl, replicate_succ → wn, head?_drop → wo, length_append → wp
open Nat renaming le_refl → wb, mul_le_mul_right → wc, eq_zero_or_pos → wh, add_mul → wi
open Option renaming bind_some → wm
open And renaming left → wq
namespace Go.Ev
open Go.RowKit (Below)
variable {P:Program} {Γ Γ':Ctx} {w w':World} {σ σ':qf} {e:Env} {a:Act} {av:AV}
theorem quj (b off n:Nat):(⟨b,off,none⟩:Addr).add n=⟨b,off+n,none⟩:=Addr.add_lit b off n
theorem qanr {e:Env} {d:Int} {x:Option Operand} {x':Option Opnd} {n:Int} (hc:cOpt x=some x') (he:qpi e d x'=some n) (hv:VE Γ w e a) :
  (x=none∧n=d) ∨ ∃k,x.map a.eval=some (.int k n):=by
 cases x with
 |none=>simp only[cOpt]at hc;cases hc;simp only[qpi]at he;cases he;exact .inl ⟨rfl,rfl⟩
 |some x=>
  simp only[cOpt]at hc
  obtain⟨y,hy,hc⟩:=zob.1 hc
  cases hc
  simp only[qpi]at he
  obtain⟨v,hve,he⟩:=zob.1 he
  split at he
  ·cases he
   have:=qak hy hve hv
   simp only[VR]at this
   exact .inr ⟨_,by rw[Option.map_some,this]⟩
  ·cases he
theorem qani {len cap:Nat} {lo hi mx:Option Value} {l h m:Int} (hl:(lo=none∧l=0) ∨ ∃k,lo=some (.int k l)) (hh:(hi=none∧h=len) ∨ ∃k,hi=some (.int k h))
  (hm:(mx=none∧m=cap)∨((∃k,mx=some (.int k m))∧hi≠none)) (h0:0≤l) (h1:l≤h) (h2:h≤m) (h3:m≤cap) :
  (Instr.sliceBounds true len cap lo hi mx).run P w = .ok (l.toNat,h.toNat,m.toNat) w:=by
 have e1:(h.toNat:Int)=h:=Int.toNat_of_nonneg (by omega)
 have e2:(m.toNat:Int)=m:=Int.toNat_of_nonneg (by omega)
 have g1:0≤h:=by omega
 have g2:0≤m:=by omega
 have g3:h≤cap:=by omega
 rcases hl with ⟨rfl,rfl⟩|⟨kl,rfl⟩<;>rcases hh with ⟨rfl,rfl⟩|⟨kh,rfl⟩<;>rcases hm with ⟨rfl,rfl⟩|⟨⟨km,rfl⟩,hne⟩ <;>
  first
   |exact absurd rfl hne
   |simp[Instr.sliceBounds,run_sliceBound, *]
theorem q7j {t el:TypeId} {sz:Nat} {A:Option Addr} {len cap:Nat} {lo hi mx:Option Value} {l h m:Int} (ht:P.underlying t=some (.slice el)) (hsz:szT P el=some sz)
  (hl:(lo=none∧l=0) ∨ ∃k,lo=some (.int k l)) (hh:(hi=none∧h=len) ∨ ∃k,hi=some (.int k h))
  (hm:(mx=none∧m=cap)∨((∃k,mx=some (.int k m))∧hi≠none)) (h0:0≤l) (h1:l≤h) (h2:h≤m) (h3:m≤cap) :
  (Instr.sliceAt t (.slice A len cap) lo hi mx).run P w = .ok (.slice (if m.toNat=l.toNat then A else A.map (·.add (l.toNat*sz))) (h.toNat-l.toNat) (m.toNat-l.toNat)) w:=by
 obtain⟨i,hi',rfl⟩:=qoq hsz
 simp[Instr.sliceAt,Instr.slice,run_underlying ht,qani hl hh hm h0 h1 h2 h3,qj2 hi']
theorem qakq {t el:TypeId} {sz:Nat} {es:List (List AV)} {clip:Bool} {p:Value} {lo hi mx:Option Value} {l h m:Int} (cl:Bool) (hx:VR Γ w (.fsl es clip) p)
  (ht:P.underlying t=some (.slice el)) (hsz:szT P el=some sz) (hes:es=[] ∨ ∃x,x∈es∧x.length=sz)
  (hl:(lo=none∧l=0) ∨ ∃k,lo=some (.int k l)) (hh:(hi=none∧h=es.length) ∨ ∃k,hi=some (.int k h))
  (hm:(mx=none∧m=h)∨((∃k,mx=some (.int k m))∧hi≠none)) (h0:0≤l) (h1:l≤h) (h2:h≤m) (h3:m≤es.length) (h4:h≤es.length)
  (hcl:cl=true→(mx=none∧clip=true∧h=es.length)∨(mx≠none∧m=h)) :
  ∃v,(Instr.sliceAt t p lo hi mx).run P w = .ok v w∧VR Γ w (.fsl ((es.drop l.toNat).take (h.toNat-l.toNat)) cl) v:=by
 have hx':=hx
 simp only[VR]at hx
 obtain⟨A,cap,rfl,c1,c2,c3⟩:=hx
 -- the model's own third bound
 obtain⟨m',hm',hmb,hmc⟩ : ∃m':Int,((mx=none∧m'=cap)∨((∃k,mx=some (.int k m'))∧hi≠none))∧(h≤m'∧m'≤cap)∧(cl=true→m'=h):=by
  rcases hm with ⟨rfl,rfl⟩|⟨⟨k,rfl⟩,hne⟩
  ·refine⟨cap,.inl ⟨rfl,rfl⟩,⟨by omega,by omega⟩,fun hc => ?_⟩
   rcases hcl hc with ⟨_,h5,h6⟩|⟨h5,_⟩
   ·have:=c2 h5
    omega
   ·exact absurd rfl h5
  ·refine⟨m,.inr ⟨⟨k,rfl⟩,hne⟩,⟨by omega,by omega⟩,fun hc => ?_⟩
   rcases hcl hc with ⟨h5,_⟩|⟨_,h5⟩
   ·cases h5
   ·exact h5
 refine⟨_,q7j ht hsz hl hh hm' h0 h1 hmb.1 hmb.2,?_⟩
 simp only[VR]
 have hlen:((es.drop l.toNat).take (h.toNat-l.toNat)).length=h.toNat-l.toNat:=by simp;omega
 refine⟨_,_,by rw[hlen],by omega,fun hc=>by rw[hlen,hmc hc],?_⟩
 by_cases hlt:l=h
 ·left
  apply List.length_eq_zero_iff.1
  omega
 ·right
  have hne:es ≠ []:=fun hn=>by subst hn;simp at h4;omega
  obtain⟨b,off,sz',cap',e1,_,_,hok,hpos,hls,hcells⟩:=qqv hx' hne
  simp only[Value.slice.injEq]at e1
  obtain⟨rfl,_,rfl⟩:=e1
  have hszz:sz'=sz:=by
   rcases hes with rfl|⟨x,hx,hxl⟩
   ·exact absurd rfl hne
   ·rw[←hls x hx,hxl]
  subst hszz
  refine⟨b,off+l.toNat*sz',sz',?_,hok,hpos,fun x hx=>hls x (wg (wf hx)),?_⟩
  ·rw[if_neg (by omega)]
   simp[quj]
  ·rw[qmw fun x hx=>hls x (wg (wf hx)),qii (sz:=sz') _ fun x hx=>hls x (wg hx),qot _ hls]
   refine((hcells.drop (l.toNat*sz') (by rw[qbo hls];exact wc _ (by omega))).take _).congr fun j => ?_
   congr 2;omega
theorem qalq {t el:TypeId} {sz o g off len:Nat} {clip:Bool} {p:Value} {lo hi mx:Option Value} {l h m:Int} (cl:Bool) (hx:VR Γ w (.sl o g off len clip) p)
  (ht:P.underlying t=some (.slice el)) (hsz:szT P el=some sz) (hloc:(Γ.loc o).g=g→(Γ.loc o).sz=sz)
  (hl:(lo=none∧l=0) ∨ ∃k,lo=some (.int k l)) (hh:(hi=none∧h=len) ∨ ∃k,hi=some (.int k h))
  (hm:(mx=none∧m=h)∨((∃k,mx=some (.int k m))∧hi≠none)) (h0:0≤l) (h1:l≤h) (h2:h≤m) (h3:m≤len) (h4:h≤len)
  (hcl:cl=true→(mx=none∧clip=true∧h=len)∨(mx≠none∧m=h)) :
  ∃v,(Instr.sliceAt t p lo hi mx).run P w = .ok v w∧VR Γ w (.sl o g (off+l.toNat) (h.toNat-l.toNat) cl) v:=by
 simp only[VR]at hx
 obtain⟨A,cap,rfl,c1,c2,c3,c4,c5⟩:=hx
 obtain⟨m',hm',hmb,hmc⟩ : ∃m':Int,((mx=none∧m'=cap)∨((∃k,mx=some (.int k m'))∧hi≠none))∧(h≤m'∧m'≤cap)∧(cl=true→m'=h):=by
  rcases hm with ⟨rfl,rfl⟩|⟨⟨k,rfl⟩,hne⟩
  ·refine⟨cap,.inl ⟨rfl,rfl⟩,⟨by omega,by omega⟩,fun hc => ?_⟩
   rcases hcl hc with ⟨_,h5,h6⟩|⟨h5,_⟩
   ·have:=c2 h5
    omega
   ·exact absurd rfl h5
  ·refine⟨m,.inr ⟨⟨k,rfl⟩,hne⟩,⟨by omega,by omega⟩,fun hc => ?_⟩
   rcases hcl hc with ⟨h5,_⟩|⟨_,h5⟩
   ·cases h5
   ·exact h5
 refine⟨_,q7j ht hsz hl hh hm' h0 h1 hmb.1 hmb.2,?_⟩
 simp only[VR]
 refine⟨_,_,rfl,by omega,fun hc=>by rw[hmc hc],c3,c4,fun hg => ?_⟩
 obtain⟨d1,d2⟩:=c5 hg
 refine⟨by omega,?_⟩
 by_cases he:m'.toNat=l.toNat
 ·exact .inl (by omega)
 ·right
  rw[if_neg he]
  rcases d2 with d2|d2
  ·omega
  ·rw[d2,hloc hg,wi];simp[quj]
theorem q5i {t el:TypeId} {sz:Nat} {es:List (List AV)} {clip:Bool} {p:Value} {k:IntKind} {n:Int} {c:List AV} (hx:VR Γ w (.fsl es clip) p) (ht:P.underlying t=some (.slice el)) (hsz:szT P el=some sz)
  (h0:0≤n) (hi:es[n.toNat]? = some c) (hc:c.length=sz) : ∃v,(Instr.indexAt t p (.int k n)).run P w = .ok v w∧VR Γ w (.fptr c) v:=by
 have hlt:=(zei.1 hi).1
 have hne:es ≠ []:=fun h=>by subst h;simp at hi
 obtain⟨b,off,sz',cap,rfl,_,_,hok,hpos,hls,hcells⟩:=qqv hx hne
 have hszz:sz'=sz:=by rw[←hls c (qtd hi),hc]
 subst hszz
 obtain⟨i,hinf,rfl⟩:=qoq hsz
 refine⟨.pointer (some ⟨b,off+n.toNat*i.size,none⟩),?_,?_⟩
 ·have hb:0≤n∧n<es.length:=⟨h0,by omega⟩
  simp[Instr.indexAt,asIntOf,run_underlying ht,hb,qj2 hinf,quj]
 ·simp only[VR]
  refine⟨b,_,rfl,hok,?_⟩
  refine(qi.elem hls hcells hi).congr fun j => ?_
  congr 2;omega
theorem qahd {t el:TypeId} {sz o g off len:Nat} {es:List (List AV)} {clip:Bool} {p:Value} {k:IntKind} {n:Int} (s:SR P Γ σ w) (hx:VR Γ w (.sl o g off len clip) p) (ht:P.underlying t=some (.slice el)) (hsz:szT P el=some sz)
  (h0:0≤n) (ho:σ[o]? = some (.row sz es g)) (hn:n.toNat<len) : ∃v,(Instr.indexAt t p (.int k n)).run P w = .ok v w∧VR Γ w (.ptr o g (off+n.toNat) 0) v:=by
 have hO:=s.obj o _ ho
 simp only[OR]at hO
 obtain⟨k1,k2,k3,k4,k5,-⟩:=hO
 simp only[VR]at hx
 obtain⟨A,cap,rfl,c1,c2,c3,c4,c5⟩:=hx
 obtain⟨d1,d2⟩:=c5 k1
 have hA:=d2.resolve_left (by omega)
 obtain⟨i,hinf,rfl⟩:=qoq hsz
 subst hA
 refine⟨.pointer (some ⟨(Γ.loc o).b,off*(Γ.loc o).sz+n.toNat*i.size,none⟩),?_,?_⟩
 ·have hb:0≤n∧n<len:=⟨h0,by omega⟩
  simp[Instr.indexAt,asIntOf,run_underlying ht,hb,qj2 hinf,quj]
 ·simp only[VR]
  exact⟨_,rfl,c3,c4,fun _=>by rw[k2,wi];simp⟩
theorem qah4 {t:TypeId} {fs:Array Field} {f:Nat} {fd:Field} {sz:Nat} {x r:AV} {p:Value} (hx:VR Γ w x p) (ht:P.underlying t=some (.struct fs)) (hf:fs[f]? = some fd) (hsz:szT P fd.type=some sz) (h0:sz≠0)
  (hr:(∃cs,x = .fptr cs∧r = .fptr (cs.drop fd.offset))∨(∃o g i o',x = .ptr o g i o'∧r = .ptr o g i (o'+fd.offset))) :
  ∃v,(Instr.fieldAt t p f).run P w = .ok v w∧VR Γ w r v:=by
 obtain⟨i,hinf,rfl⟩:=qoq hsz
 have hplace : ∀a:Addr,(fieldPlace a fd).run P w = .ok (a.add fd.offset) w:=fun a=>by
  simp[fieldPlace,qj2 hinf,h0]
 have hrun : ∀a:Addr,(Instr.fieldAt t (.pointer (some a)) f).run P w = .ok (.pointer (some (a.add fd.offset))) w:=fun a=>by
  simp[Instr.fieldAt,run_underlying ht,hf,Instr.sureAddr,hplace]
 rcases hr with ⟨cs,rfl,rfl⟩|⟨o,g,j,o',rfl,rfl⟩
 ·simp only[VR]at hx
  obtain⟨b,off,rfl,hok,hcs⟩:=hx
  refine⟨_,hrun _,?_⟩
  simp only[VR]
  refine⟨b,off+fd.offset,by rw[quj],hok,?_⟩
  by_cases hle:fd.offset≤cs.length
  ·refine(hcs.drop _ hle).congr fun k => ?_
   congr 2;omega
  ·rw[List.drop_eq_nil_of_le (by omega)];simp[qi]
 ·simp only[VR]at hx
  obtain⟨q,rfl,h1,h2,h3⟩:=hx
  refine⟨_,hrun _,?_⟩
  simp only[VR]
  refine⟨_,rfl,h1,h2,fun hg => ?_⟩
  rw[h3 hg,quj,Nat.add_assoc]
theorem qaes {t el:TypeId} {n sz:Nat} {x r:AV} {p:Value} {k:IntKind} {i:Int} (hx:VR Γ w x p) (ht:P.underlying t=some (.array n el)) (hsz:szT P el=some sz) (h0:0≤i) (hn:i.toNat<n)
  (hr:(∃cs,x = .fptr cs∧r = .fptr (cs.drop (i.toNat*sz)))∨(∃o g j o',x = .ptr o g j o'∧r = .ptr o g j (o'+i.toNat*sz))) :
  ∃v,(Instr.indexAt t p (.int k i)).run P w = .ok v w∧VR Γ w r v:=by
 obtain⟨inf,hinf,rfl⟩:=qoq hsz
 have hb:0≤i∧i<n:=⟨h0,by omega⟩
 have hrun : ∀a:Addr,(Instr.indexAt t (.pointer (some a)) (.int k i)).run P w = .ok (.pointer (some (a.add (i.toNat*inf.size)))) w:=fun a=>by
  simp[Instr.indexAt,asIntOf,run_underlying ht,Instr.sureAddr,hb,qj2 hinf]
 rcases hr with ⟨cs,rfl,rfl⟩|⟨o,g,j,o',rfl,rfl⟩
 ·simp only[VR]at hx
  obtain⟨b,off,rfl,hok,hcs⟩:=hx
  refine⟨_,hrun _,?_⟩
  simp only[VR]
  refine⟨b,off+i.toNat*inf.size,by rw[quj],hok,?_⟩
  by_cases hle:i.toNat*inf.size≤cs.length
  ·refine(hcs.drop _ hle).congr fun k => ?_
   congr 2;omega
  ·rw[List.drop_eq_nil_of_le (by omega)];simp[qi]
 ·simp only[VR]at hx
  obtain⟨q,rfl,h1,h2,h3⟩:=hx
  refine⟨_,hrun _,?_⟩
  simp only[VR]
  refine⟨_,rfl,h1,h2,fun hg => ?_⟩
  rw[h3 hg,quj,Nat.add_assoc]
theorem qano {t:TypeId} {sz off:Nat} {cs:List AV} {vs:List Value} {r:AV} (hcs:VRs Γ w cs vs) (hsz:szT P t=some sz) (hu:(P.underlying t).isSome=true) (h1:q5s P t=true∨sz=1)
  (hl:qyb sz (q5s P t) (cs.drop off)=some r) : ∃v,(part t vs.toArray off).run P w = .ok v w∧VR Γ w r v:=by
 obtain⟨i,hi,rfl⟩:=qoq hsz
 unfold qyb at hl
 split at hl
 ·rename_i hag
  split at hl
  ·cases hl
   refine⟨_,by simp[part,qvr hu,hag,qj2 hi];rfl,?_⟩
   simp only[VR]
   refine⟨(vs.drop off).take i.size,?_,(hcs.drop off).take _⟩
   congr 1
  ·cases hl
 ·rename_i hag
  have hag':q5s P t=false:=by simpa using hag
  rw[wo]at hl
  obtain⟨v,hv,hr⟩:=hcs.get hl
  exact⟨v,by simp[part,qvr hu,hag',hv],hr⟩
end Go.Ev
namespace Go.Ev
open Go.RowKit (Below)
variable {P:Program} {Γ Γ':Ctx} {w w':World} {σ σ':qf} {e:Env} {a:Act} {av:AV}
theorem qys (z:Array Value) (h:0<z.size) : ∀c,(List.range (c*z.size)).map (fun j=>z[j%z.size]!)=(wa c z.toList).flatten
 | 0=>by simp
 |c+1=>by
  rw[wn,List.flatten_cons,←qys z h c,wi,Nat.one_mul,Nat.add_comm,List.range_add,List.map_append,List.map_map]
  congr 1
  ·apply List.ext_getElem?
   intro j
   simp only[List.getElem?_map]
   by_cases hj:j<z.size
   ·rw[List.getElem?_range hj]
    simp[Nat.mod_eq_of_lt hj,hj]
   ·rw[List.getElem?_eq_none (by simp;omega)]
    simp;omega
  ·apply List.map_congr_left
   intro j _
   simp
theorem VRs.replicate {cs:List AV} {vs:List Value} (h:VRs Γ w cs vs) : ∀c,VRs Γ w (wa c cs).flatten (wa c vs).flatten
 | 0=>by simp[VRs]
 |c+1=>by simp only[wn,List.flatten_cons];exact h.append (VRs.replicate h c)
theorem q7h {zs:List AV} (z:Value) (h:0<z.cells.size) (hz:VRs Γ w zs z.cells.toList) (c:Nat):VRs Γ w (wa c zs).flatten (madeCells z.cells (c*z.cells.size)).toList:=by
 have:(madeCells z.cells (c*z.cells.size)).toList=(wa c z.cells.toList).flatten:=by
  rw[←qys _ h]
  simp[madeCells]
 rw[this]
 exact hz.replicate c
theorem ok_mkslF {t el:TypeId} {z:List AV} {bytes:Nat} {c:Int} (s:SR P Γ σ w) (ht:P.underlying t=some (.slice el)) (hz:ZV P el z) (hby:byT P el=some bytes)
  (h0:0≤c) (h2:bytes*c≤2^47) (h3:c≤2^62) (hne:z ≠ []) :
  qus P Γ w (((Instr.makeSlice t (.int .i64 c) (.int .i64 c)).run P w).andThen fun v w => .ok (.value v) w) (.fsl (wa c.toNat z) true) σ:=by
 obtain⟨i,zv,hi,hzv,hsz,hzl,hvr⟩:=hz
 obtain⟨i',hi',rfl⟩:=q8q hby
 rw[hi]at hi';cases hi'
 have hlen:0<zv.cells.size:=by
  rcases wh zv.cells.size with h|h
  ·exact absurd (wd (hzl.trans h)) hne
  ·exact h
 have hr:=run_make (P:=P) w t el i zv ht hi hzv .i64 .i64 c c h0 (Int.le_refl _) (by omega) (by omega)
 rw[←hsz]at hr
 have hB:=qd9 w (.cells (madeCells zv.cells (c.toNat*zv.cells.size)) el)
 refine⟨_,_,_,Γ,by rw[hr];rfl,.inl rfl,?_,s.of_below hB,.of_below Γ hB⟩
 have hes : ∀x∈wa c.toNat z,x.length=zv.cells.size:=fun x hx=>by rw[we hx];exact hzl
 simp only[VR,List.length_replicate]
 refine⟨_,c.toNat,rfl,wb _,fun _=>rfl,.inr ⟨w.heap.size,0,zv.cells.size,rfl,qagn s hB (wb _) (by simp),hlen,hes,?_⟩⟩
 rw[qmw hes]
 exact qi.of_list (VRs.mono (.of_below Γ hB) _ _ (q7h zv hlen (hvr _ _) _)) fun j v hj=>by simpa using hj
theorem ok_mksl {t el:TypeId} {z:List AV} {bytes:Nat} {l c:Int} (s:SR P Γ σ w) (ht:P.underlying t=some (.slice el)) (hz:ZV P el z) (hby:byT P el=some bytes)
  (h0:0≤l) (h1:l≤c) (h2:bytes*c≤2^47) (h3:c≤2^62) (hne:z ≠ []) :
  qus P Γ w (((Instr.makeSlice t (.int .i64 l) (.int .i64 c)).run P w).andThen fun v w => .ok (.value v) w) (.sl σ.length 0 0 l.toNat (decide (l=c))) (σ++[.row z.length (wa c.toNat z) 0]):=by
 obtain⟨i,zv,hi,hzv,hsz,hzl,hvr⟩:=hz
 obtain⟨i',hi',rfl⟩:=q8q hby
 rw[hi]at hi';cases hi'
 have hlen:0<zv.cells.size:=by
  rcases wh zv.cells.size with h|h
  ·exact absurd (wd (hzl.trans h)) hne
  ·exact h
 have hr:=run_make (P:=P) w t el i zv ht hi hzv .i64 .i64 l c h0 h1 (by omega) (by omega)
 rw[←hsz]at hr
 obtain⟨q1,q2⟩:=qz4 (P:=P) s (qd9 w (.cells (madeCells zv.cells (c.toNat*zv.cells.size)) el)) (wb _) (b:=w.heap.size) (et:=el) (arr:=madeCells zv.cells (c.toNat*zv.cells.size)) (qki _ _) zv.cells.size c.toNat
  (wa c.toNat z) hlen (by simp) (fun x hx=>by rw[we hx];exact hzl) (by rw[size_madeCells])
  (vs:=(madeCells zv.cells (c.toNat*zv.cells.size)).toList) (q7h zv hlen (hvr _ _) _) (by simp)
 refine⟨_,_,_,_,by rw[hr];rfl,.inl rfl,?_,by rw[hzl];exact q1,q2⟩
 simp only[VR,s.len,Ctx.push_new]
 refine⟨_,c.toNat,rfl,by omega,fun h => ?_,by simp[Ctx.push],wb _,fun _=>⟨by omega,.inr (by simp)⟩⟩
 have:=of_decide_eq_true h
 omega
theorem ok_mkslH {t el:TypeId} {z:List AV} {bytes p:Nat} {l c:Int} (s:SR P Γ σ w) (ht:P.underlying t=some (.slice el)) (hz:ZV P el z) (hby:byT P el=some bytes)
  (h0:0≤l) (h1:l≤c) (h2:bytes*c≤2^47) (h3:c≤2^62) (hne:z ≠ []) (hp:σ[p]? = some .hole) :
  qus P Γ w (((Instr.makeSlice t (.int .i64 l) (.int .i64 c)).run P w).andThen fun v w => .ok (.value v) w) (.sl p 1 0 l.toNat (decide (l=c))) (σ.set p (.row z.length (wa c.toNat z) 1)):=by
 obtain⟨i,zv,hi,hzv,hsz,hzl,hvr⟩:=hz
 obtain⟨i',hi',rfl⟩:=q8q hby
 rw[hi]at hi';cases hi'
 have hlen:0<zv.cells.size:=by
  rcases wh zv.cells.size with h|h
  ·exact absurd (wd (hzl.trans h)) hne
  ·exact h
 have hr:=run_make (P:=P) w t el i zv ht hi hzv .i64 .i64 l c h0 h1 (by omega) (by omega)
 rw[←hsz]at hr
 have hB:=qd9 w (.cells (madeCells zv.cells (c.toNat*zv.cells.size)) el)
 have hn:p<Γ.n:=by rw[←s.len];exact(zei.1 hp).1
 obtain⟨q1,q2⟩:=qac8 (P:=P) (w':=w.alloc (.cells (madeCells zv.cells (c.toNat*zv.cells.size)) el)) s hp hB.size (fun b hb=>hB.block b hb) hB.os hB.tape hB.output w.heap.size zv.cells.size c.toNat (fun _=>⟨wb _,by simp⟩) (wa c.toNat z) (by
  simp only[OR,Ctx.upd_same]
  exact⟨trivial,trivial,hlen,by simp,fun x hx=>by rw[we hx];exact hzl,.inr ⟨_,el,qki _ _,by rw[size_madeCells],qi.of_list (vs:=(madeCells zv.cells (c.toNat*zv.cells.size)).toList) (q7h zv hlen (hvr _ _) _) (by simp)⟩⟩)
 refine⟨_,_,_,_,by rw[hr];rfl,.inl rfl,?_,by rw[hzl];exact q1,q2⟩
 simp only[VR,Ctx.upd_same]
 refine⟨_,c.toNat,rfl,by omega,fun h => ?_,by simpa[Ctx.upd]using hn,wb _,fun _=>⟨by omega,.inr (by simp)⟩⟩
 have:=of_decide_eq_true h
 omega
theorem qaih {sz:Nat} (s:SR P Γ σ w) (h0:0<sz) : ∀n,∃ Γ',SR P Γ' (σ++wa n (.row sz [] 0)) w∧Ext Γ Γ' w w ∧ ∀i,i<n → ∀v,VR Γ w (.fsl [] true) v→VR Γ' w (.sl (σ.length+i) 0 0 0 false) v
 | 0=>⟨Γ,by simpa using s,Ext.refl _ _,fun i hi=>absurd hi (Nat.not_lt_zero _)⟩
 |n+1=>by
  obtain⟨Γ1,s1,e1,h1⟩:=qaih s h0 n
  have hn0 : ∀(Γ:Ctx),VR Γ w (.fsl [] true) (.slice none 0 0):=fun Γ=>by
   simp only[VR];exact⟨none,0,rfl,wb _,fun _=>rfl,.inl trivial⟩
  obtain⟨s2,e2,_⟩:=qwc s1 h0 (hn0 Γ1)
  refine⟨_,?_,e1.trans e2,fun i hi v hv => ?_⟩
  ·rw[List.replicate_succ',←wl];exact s2
  ·rcases Nat.lt_or_ge i n with hl|hg
   ·exact VR.mono e2 _ _ (h1 i hl v hv)
   ·have:i=n:=by omega
    subst this
    have:=(qwc s1 h0 (VR.mono e1 _ _ hv)).2.2
    simpa using this
theorem qyy {α β:Type} (f:α→β) : ∀(l:List α),(l.map fun i=>[f i]).flatten=l.map f
 | []=>rfl
 |x::l=>by simp[qyy f l]
theorem ok_mkslO {t el:TypeId} {bytes sz:Nat} {c:Int} (s:SR P Γ σ w) (ht:P.underlying t=some (.slice el)) (hz:ZV P el [.fsl [] true]) (hby:byT P el=some bytes)
  (h0:0≤c) (h2:bytes*c≤2^47) (h3:c≤2^62) (hs:0<sz) :
  qus P Γ w (((Instr.makeSlice t (.int .i64 c) (.int .i64 c)).run P w).andThen fun v w => .ok (.value v) w) (.sl (σ.length+c.toNat) 0 0 c.toNat true)
   (σ++(wa c.toNat (.row sz [] 0)++[.row 1 ((List.range c.toNat).map fun i=>[.sl (σ.length+i) 0 0 0 false]) 0])):=by
 obtain⟨i,zv,hi,hzv,hsz,hzl,hvr⟩:=hz
 obtain⟨i',hi',rfl⟩:=q8q hby
 rw[hi]at hi';cases hi'
 have hlen:zv.cells.size=1:=by simpa using hzl.symm
 have hr:=run_make (P:=P) w t el i zv ht hi hzv .i64 .i64 c c h0 (Int.le_refl _) (by omega) (by omega)
 rw[←hsz,hlen,Nat.mul_one]at hr
 obtain⟨Γ1,s1,e1,hown⟩:=qaih s hs c.toNat
 have hl1:(σ++wa c.toNat (SObj.row sz [] 0)).length=σ.length+c.toNat:=by simp
 have hcells : ∃u,zv.cells.toList=[u]∧VR Γ w (.fsl [] true) u:=by
  have:=hvr Γ w
  rw[show ([AV.fsl [] true]:List AV) = .fsl [] true::[] from rfl]at this
  simp only[VRs]at this
  obtain⟨u,us,h4,h5,h6⟩:=this
  subst h6
  exact⟨u,h4,by simpa only[VR]using h5⟩
 obtain⟨u,hu,hvu⟩:=hcells
 have hmade:(madeCells zv.cells c.toNat).toList=wa c.toNat u:=by
  have:=qys zv.cells (by omega) c.toNat
  rw[hlen,Nat.mul_one,hu]at this
  have h7:(madeCells zv.cells c.toNat).toList=(wa c.toNat [u]).flatten:=by rw[←this];simp[madeCells,hlen]
  rw[h7];simp
 obtain⟨q1,q2⟩:=qz4 (P:=P) s1 (qd9 w (.cells (madeCells zv.cells c.toNat) el)) (wb _) (b:=w.heap.size) (et:=el) (arr:=madeCells zv.cells c.toNat) (qki _ _) 1 c.toNat
  ((List.range c.toNat).map fun i=>[AV.sl (σ.length+i) 0 0 0 false]) Nat.one_pos (by simp) (fun x hx=>by
   obtain⟨j,_,rfl⟩:=List.mem_map.1 hx;rfl) (by rw[size_madeCells,Nat.mul_one])
  (vs:=wa c.toNat u) (by
   rw[qyy]
   refine VRs.of_get (by simp) fun j a v ha hv => ?_
   have hj:j<c.toNat:=by simpa using (zei.1 hv).1
   rw[List.getElem?_map,List.getElem?_range hj]at ha
   simp at ha;subst ha
   rw[List.getElem?_replicate,if_pos hj]at hv
   cases hv
   exact hown j hj u hvu) (by rw[←hmade];simp)
 rw[wl]at q1
 refine⟨_,_,_,_,by rw[hr];rfl,.inl rfl,?_,q1,e1.trans q2⟩
 have hn1:Γ1.n=σ.length+c.toNat:=by rw[←s1.len,hl1]
 simp only[VR,←hn1,Ctx.push_new]
 exact⟨_,c.toNat,rfl,by omega,fun h=>rfl,by simp[Ctx.push],wb _,fun _=>⟨by omega,.inr (by simp)⟩⟩
theorem qxu {sz:Nat} {z:List AV} (h1:z.length=sz) (h2:qfk z=true) : ∀n,qdk sz (wa n z)=true
 | 0=>rfl
 |n+1=>by simp only[wn,qdk,qxu h1 h2 n,h1,h2,decide_true,Bool.and_self]
theorem q0p (z:Array Value) (h:0<z.size) (n:Nat):(Builtin.zeroCells z n).toList=(wa n z.toList).flatten:=by
 rw[←qys z h n];simp[Builtin.zeroCells]
theorem ok_appM {t tn ty el:TypeId} {sz bytes:Nat} {kn kq:IntKind} {p:Value} {k:Int} {es:List (List AV)} {z:List AV} (s:SR P Γ σ w) (hp:VR Γ w (.fsl es true) p)
  (ht:P.underlying t=some (.slice el)) (htn:P.underlying tn=some (.int kn)) (hz:zT P el=some z) (hsz:szT P el=some sz) (hby:byT P el=some bytes) (hb0:0<bytes) (hk:0<k) (hs0:0<sz)
  (hr:qdk sz (es++wa k.toNat z)=true) (hfit:(es.length+k.toNat)*bytes≤2^47) :
  qus P Γ w (((Builtin.append_ #[t,tn] ty #[p,.int kq k]).run P w).andThen fun v w => .ok (.value v) w) (.sl σ.length 0 0 (es.length+k.toNat) false) (σ++[.row sz (es++wa k.toNat z) 0]):=by
 obtain⟨inf,zv,hinf,hzv,hzs,rfl⟩:=qae1 hz
 obtain⟨inf',hinf',rfl⟩:=qoq hsz
 rw[hinf]at hinf';cases hinf'
 obtain⟨inf',hinf',rfl⟩:=q8q hby
 rw[hinf]at hinf';cases hinf'
 obtain⟨m,rfl⟩ : ∃m:Nat,k=m:=⟨k.toNat,by omega⟩
 simp only[Int.toNat_natCast]at *
 have hm:0<m:=by omega
 have hp':=hp
 simp only[VR]at hp
 obtain⟨A,cap,rfl,h1,h2,h3⟩:=hp
 obtain rfl:=h2 trivial
 obtain⟨hr1,hr2⟩:=qw0 hr
 have hel:=qg8 hr1
 have hold : ∃olds,VRs Γ w es.flatten olds∧olds.length=es.length*inf.size ∧ ∀W:World,(∀x,W.cell? x=w.cell? x)→(Builtin.firstCells inf.size es.length (.slice A es.length es.length)).run P W = .ok olds.toArray W:=by
  by_cases hne:es=[]
  ·subst hne
   refine⟨[],by simp[VRs],by simp,fun W _ => ?_⟩
   cases A with
   |none=>exact run_firstCells_none _ _ _ _ _
   |some A=>exact run_firstCells_some _ inf.size 0 A _ _ [] (by simp) (by simp)
  ·obtain⟨b,off,_,cap,e1,_,_,_,_,_,e2⟩:=qqv hp' hne
   simp only[Value.slice.injEq]at e1
   obtain⟨rfl,_,rfl⟩:=e1
   obtain⟨olds,e3,e4⟩:=e2.list
   have hol:olds.length=es.length*inf.size:=by rw[e3.length,qbo hel]
   exact⟨olds,e3,hol,fun W hW=>run_firstCells_some W inf.size _ _ _ _ olds hol fun j v hj=>by rw[hW,Addr.add_lit];exact e4 j v hj⟩
 obtain⟨olds,o1,o2,o3⟩:=hold
 have hle:(es.length+m)*1≤(es.length+m)*inf.bytes:=Nat.mul_le_mul_left _ hb0
 have hcap:Builtin.nextslicecap (es.length+m) es.length*inf.bytes≤281474976710656:=by
  have h1:=nextslicecap_le (show es.length<es.length+m by omega)
  have h2:=wc inf.bytes h1
  rw[Nat.mul_assoc]at h2
  omega
 have hmle:m*inf.bytes≤(es.length+m)*inf.bytes:=wc _ (by omega)
 have hrun:=Lib.run_append_grow_zeros (P:=P) w t tn ty el inf zv kq kn ht htn hinf hzv A es.length es.length olds (o3 w.drew fun _=>rfl) m hm hs0 (by omega) (by omega) (by omega) hcap
 have hzl:0<zv.cells.size:=by omega
 have hnews:VRs Γ w (wa m (zv.cells.toList.map ofLeaf)).flatten (Builtin.zeroCells zv.cells m).toList:=by
  rw[q0p _ hzl];exact(VRs.ofLeaf zv.cells.toList).replicate m
 have hv:VRs Γ w (es++wa m (zv.cells.toList.map ofLeaf)).flatten (olds++(Builtin.zeroCells zv.cells m).toList):=by rw[wj];exact o1.append hnews
 have hg:=qwy w (es.length+m) es.length el
 obtain⟨q1,q2⟩:=qaa2 (P:=P) (el:=el) (n:=es.length+m) (c':=grownCap w (es.length+m) es.length el) (rest:=(Builtin.zeroCells zv.cells (grownCap w (es.length+m) es.length el-(es.length+m))).toList) s hs0 (qg8 hr) hv (by simp) hg (by
  have hz1:(Builtin.zeroCells zv.cells m).toList.length=m*zv.cells.size:=by simp[qmi]
  have hz2:(Builtin.zeroCells zv.cells (grownCap w (es.length+m) es.length el-(es.length+m))).toList.length=(grownCap w (es.length+m) es.length el-(es.length+m))*zv.cells.size:=by simp[qmi]
  rw[wp,wp,o2,hz1,hz2,hzs,←wi,←wi]
  congr 1;omega)
 have hcells:(olds++(Builtin.zeroCells zv.cells m).toList++(Builtin.zeroCells zv.cells (grownCap w (es.length+m) es.length el-(es.length+m))).toList).toArray=olds.toArray++Builtin.zeroCells zv.cells m++Builtin.zeroCells zv.cells (grownCap w (es.length+m) es.length el-(es.length+m)):=by
  apply Array.ext';simp
 rw[hcells]at q1 q2
 refine⟨_,_,_,_,by rw[hrun];rfl,.inl rfl,?_,q1,q2⟩
 simp only[VR,s.len,Ctx.push_new]
 exact⟨_,_,rfl,hg,by simp,by simp[Ctx.push],wb _,fun _=>⟨by omega,.inr (by simp)⟩⟩
theorem ok_clr {t el ty:TypeId} {sz o g off len:Nat} {c:Bool} {p:Value} {es:List (List AV)} {z:List AV} (s:SR P Γ σ w) (hp:VR Γ w (.sl o g off len c) p) (ht:P.underlying t=some (.slice el)) (hz:zT P el=some z) (hsz:szT P el=some sz) (h0:sz≠0)
  (ho:σ[o]? = some (.row sz es g)) (hle:off+len≤es.length) (hpl:qfk z=true) :
  qus P Γ w (((Builtin.clear_ #[t] ty #[p]).run P w).andThen fun v w => .ok (.value v) w) (.v (.tuple #[])) (σ.set o (.row sz (es.take off++(wa len z++es.drop (off+len))) g)):=by
 obtain⟨i,zv,hi,hzv,hzs,rfl⟩:=qae1 hz
 obtain⟨i',hi',rfl⟩:=qoq hsz
 rw[hi]at hi';cases hi'
 have hO:=s.obj o _ ho
 simp only[OR]at hO
 obtain⟨k1,k2,k3,k4,k5,k6⟩:=hO
 simp only[VR]at hp
 obtain⟨A,cp,rfl,hlc,_,hn,_,hloc⟩:=hp
 obtain⟨hb1,hb2⟩:=hloc k1
 rcases wh len with hl0|hpos
 ·subst hl0
  have hst:σ.set o (.row i.size (es.take off++(wa 0 (zv.cells.toList.map ofLeaf)++es.drop (off+0))) g)=σ:=by
   simp only[List.replicate_zero,List.nil_append,Nat.add_zero,List.take_append_drop]
   obtain⟨hlt,hge⟩:=zei.1 ho
   rw[←hge,List.set_getElem_self]
  rw[hst]
  refine .here s (v:=.tuple #[]) ?_ (by simp only[VR])
  cases A<;>simp[Builtin.clear_,run_underlying ht]
 ·have hA:A=some ⟨(Γ.loc o).b,off*(Γ.loc o).sz,none⟩:=hb2.resolve_left (by omega)
  have hct:(Γ.loc o).ct≠0:=by omega
  obtain⟨arr,et,k7,k8,k9⟩:=k6.resolve_left hct
  rw[k2]at hA
  subst hA
  have hzlen:(zv.cells.toList.map ofLeaf).length=i.size:=by simp[hzs]
  have hzc:(Builtin.zeroCells zv.cells len).toList=(wa len zv.cells.toList).flatten:=by
   rw[←qys zv.cells (by omega) len];simp[Builtin.zeroCells]
  have hvs:VRs Γ w (wa len (zv.cells.toList.map ofLeaf)).flatten (Builtin.zeroCells zv.cells len).toList:=by
   rw[hzc];exact(VRs.ofLeaf zv.cells.toList).replicate len
  have hrep:=qxu hzlen hpl len
  have hys:(wa len (zv.cells.toList.map ofLeaf)).flatten.length=len*i.size:=by
   rw[qbo (qg8 hrep)];simp
  have hfl:=qbo k5
  have hb3:off*i.size+len*i.size≤es.length*i.size:=by rw[←wi];exact wc _ hle
  have hb4:es.length*i.size≤arr.size:=by rw[k8];exact wc _ k4
  have hvl:(Builtin.zeroCells zv.cells len).toList.length=len*i.size:=by rw[hvs.length,hys]
  have hst:=run_storeCells_at P (Γ.loc o).b (off*i.size) et (Builtin.zeroCells zv.cells len).toList 0 arr w k7 (by rw[hvl];omega) (qwe hvs (qug hrep))
  simp only[Nat.add_zero]at hst
  have hmem : ∀e∈es.take off++(wa len (zv.cells.toList.map ofLeaf)++es.drop (off+len)),e.length=i.size:=fun e he=>by
   rcases wk.1 he with he|he
   ·exact k5 e (wf he)
   ·rcases wk.1 he with he|he
    ·rw[we he,hzlen]
    ·exact k5 e (wg he)
  have hw:=q3l s ho k7 hct g (.inl rfl) (es.take off++(wa len (zv.cells.toList.map ofLeaf)++es.drop (off+len))) (by simp;omega)
   (arr':=(splice arr.toList (off*i.size) (Builtin.zeroCells zv.cells len).toList).toArray) hmem
   (by simp only[List.size_toArray];rw[qrx (by rw[hvl];simp;omega)];simpa using k8)
   (by
    have:=qi.splice (k:=off*i.size) (arr:=arr.toList) (by simpa using k9) hvs (by rw[hys];omega) (by rw[hys];simp;omega)
    have e1:(es.take off++(wa len (zv.cells.toList.map ofLeaf)++es.drop (off+len))).flatten=splice es.flatten (off*i.size) (wa len (zv.cells.toList.map ofLeaf)).flatten:=by
     rw[wj,wj,qii off k5,qot (off+len) k5]
     unfold splice
     rw[hys,wi]
    rw[e1]
    simpa using this)
  refine⟨.value (.tuple #[]),.tuple #[],_,_,?_,.inl rfl,by simp only[VR],hw.1,hw.2⟩
  have hzr:=q3b (P:=P) (w:=w) hi hzv
  obtain⟨m,rfl⟩ : ∃m,len=m+1:=⟨len-1,by omega⟩
  simp[Builtin.clear_,run_underlying ht,hzr,hst,splice]
theorem ok_copy {t tx ty el:TypeId} {sz o g off len:Nat} {c:Bool} {p y:Value} {x:AV} {xs es:List (List AV)} (s:SR P Γ σ w) (hp:VR Γ w (.sl o g off len c) p) (hx:VR Γ w x y) (ht:P.underlying t=some (.slice el)) (htx : ∃e',P.underlying tx=some (.slice e'))
  (hsz:szT P el=some sz) (hs0:0<sz) (hns : ∀str,x ≠ .v (.string str)) (hc:qdr σ x=some xs) (hr:qdk sz (xs.take len)=true) (ho:σ[o]? = some (.row sz es g)) (hle:off+len≤es.length) :
  qus P Γ w (((Builtin.copy_ #[t,tx] ty #[p,y]).run P w).andThen fun v w => .ok (.value v) w) (.v (.int .i64 (min xs.length len:Nat))) (σ.set o (.row sz (es.take off++((xs.take len)++es.drop (off+min xs.length len))) g)):=by
 obtain⟨e',htx⟩:=htx
 obtain⟨inf,hinf,rfl⟩:=qoq hsz
 have hsz' : ∀w:World,(sizeOf el).run P w = .ok inf.size w:=fun w=>by simp[sizeOf,typeInfo,hinf]
 have hO:=s.obj o _ ho
 simp only[OR]at hO
 obtain⟨k1,k2,k3,k4,k5,k6⟩:=hO
 simp only[VR]at hp
 obtain⟨A,cp,rfl,hlc,_,hn,_,hloc⟩:=hp
 obtain⟨hb1,hb2⟩:=hloc k1
 obtain⟨m,hm⟩ : ∃m,m=min xs.length len:=⟨_,rfl⟩
 have htl:(xs.take len).length=m:=by rw[List.length_take,hm,Nat.min_comm]
 -- what is read
 have hread : ∃(A2:Option Addr) (cap2:Nat) (news:List Value),y = .slice A2 xs.length cap2∧VRs Γ w (xs.take len).flatten news∧(Builtin.firstCells inf.size m (.slice A2 xs.length cap2)).run P w = .ok news.toArray w:=by
  have fromCells : ∀(A2:Option Addr) (cap2:Nat),y = .slice A2 xs.length cap2→(xs.take len ≠ [] → ∃b off',A2=some ⟨b,off',none⟩∧qi Γ w (xs.take len).flatten (fun j=>w.cell? ⟨b,off'+j,none⟩)) → ∃(A2:Option Addr) (cap2:Nat) (news:List Value),y = .slice A2 xs.length cap2∧VRs Γ w (xs.take len).flatten news∧(Builtin.firstCells inf.size m (.slice A2 xs.length cap2)).run P w = .ok news.toArray w:=by
   intro A2 cap2 hy hcells
   by_cases hne:xs.take len=[]
   ·rw[hne]at htl
    have hm0:m=0:=by simpa using htl.symm
    refine⟨A2,cap2,[],hy,by rw[hne];simp[VRs],?_⟩
    rw[hm0]
    cases A2 with
    |none=>exact run_firstCells_none _ _ _ _ _
    |some A=>exact run_firstCells_some _ inf.size 0 A _ _ [] (by simp) (by simp)
   ·obtain⟨b,off',rfl,hv⟩:=hcells hne
    obtain⟨news,h1,h2⟩:=hv.list
    have hl:=h1.length
    rw[qbo (qg8 hr),htl]at hl
    exact⟨_,cap2,news,hy,h1,run_firstCells_some w inf.size m _ _ _ news hl fun j u hj=>by rw[Addr.add_lit];exact h2 j u hj⟩
  have takeCells : ∀ {b off':Nat} {get:Nat→Option Value},(∀e∈xs,e.length=inf.size)→qi Γ w xs.flatten get→qi Γ w (xs.take len).flatten get:=by
   intro b off' get hl h
   rw[qii len hl]
   exact h.take _
  unfold qdr at hc
  split at hc
  ·cases hc
   by_cases hne:xs=[]
   ·subst hne
    simp only[VR]at hx
    obtain⟨A2,cap2,rfl,_⟩:=hx
    exact fromCells A2 cap2 rfl (fun h=>absurd (by simp) h)
   ·obtain⟨b,off',sz',cap2,h1,_,_,_,_,h5,h2⟩:=qqv hx hne
    refine fromCells _ cap2 h1 fun hne2=>⟨b,off',rfl,?_⟩
    have hsz2:sz'=inf.size:=by
     cases hxt:xs.take len with
     |nil=>exact absurd hxt hne2
     |cons e r=>
      have h6:=qg8 hr e (by rw[hxt];simp)
      have h7:=h5 e (wf (i:=len) (by rw[hxt];simp))
      omega
    subst hsz2
    exact takeCells (b:=0) (off':=0) h5 h2
  ·rename_i o2 g2 off2 len2 c2
   split at hc
   ·rename_i sz2 es2 g2' ho2
    split at hc
    ·rename_i hg
     obtain⟨rfl,hle2⟩:=hg
     cases hc
     have hn2:((es2.drop off2).take len2).length=len2:=by simp;omega
     by_cases hpos:0<len2
     ·obtain⟨cap2,h1,_,_,_,h2⟩:=qzq s hx ho2 hle2 hpos
      have hO2:=s.obj o2 _ ho2
      simp only[OR]at hO2
      rw[←hn2]at h1
      refine fromCells _ cap2 h1 fun hne2=>⟨_,_,rfl,?_⟩
      have h5 : ∀e∈(es2.drop off2).take len2,e.length=sz2:=fun e he=>hO2.2.2.2.2.1 e (wg (wf he))
      have hsz2:sz2=inf.size:=by
       cases hxt:((es2.drop off2).take len2).take len with
       |nil=>exact absurd hxt hne2
       |cons e r=>
        have h6:=qg8 hr e (by rw[hxt];simp)
        have h7:=h5 e (wf (i:=len) (by rw[hxt];simp))
        omega
      subst hsz2
      exact takeCells (b:=0) (off':=0) h5 h2
     ·obtain rfl:len2=0:=by omega
      simp only[VR]at hx
      obtain⟨A2,cap2,rfl,_⟩:=hx
      refine fromCells A2 cap2 (by rw[hn2]) fun h=>absurd (by simp) h
    ·cases hc
   ·cases hc
  ·rename_i str
   exact absurd rfl (hns str)
  ·cases hc
 obtain⟨A2,cap2,news,rfl,hnews,hfirst⟩:=hread
 have hlen:(Builtin.lenOf (.slice A2 xs.length cap2)).run P w = .ok xs.length w:=rfl
 have hmn:Nat.min xs.length len=m:=hm.symm
 have hres:(.v (.int .i64 (min xs.length len:Nat)):AV) = .v (goInt m):=by rw[←hm];rfl
 rw[hres,←hm]
 rcases wh m with hm0|hpos
 ·have ht0:xs.take len=[]:=wd (by omega)
  have hst:σ.set o (.row inf.size (es.take off++(xs.take len++es.drop (off+m))) g)=σ:=by
   rw[ht0,hm0,Nat.add_zero,List.nil_append,List.take_append_drop]
   obtain⟨hlt,hge⟩:=zei.1 ho
   rw[←hge,List.set_getElem_self]
  rw[hst]
  have hn0:news=[]:=by
   have:=hnews.length
   rw[ht0]at this
   exact wd (by simpa using this)
  subst hn0
  refine .here s (v:=goInt m) ?_ (by simp only[VR])
  cases A<;>simp[Builtin.copy_,run_underlying ht,hsz',hlen,hmn,hfirst,storeCells]
 ·have hA:A=some ⟨(Γ.loc o).b,off*(Γ.loc o).sz,none⟩:=hb2.resolve_left (by omega)
  have hct:(Γ.loc o).ct≠0:=by omega
  obtain⟨arr,et,k7,k8,k9⟩:=k6.resolve_left hct
  rw[k2]at hA
  subst hA
  have hys:(xs.take len).flatten.length=m*inf.size:=by rw[qbo (qg8 hr),htl]
  have hfl:=qbo k5
  have hle':off+m≤es.length:=by omega
  have hb3:off*inf.size+m*inf.size≤es.length*inf.size:=by rw[←wi];exact wc _ hle'
  have hb4:es.length*inf.size≤arr.size:=by rw[k8];exact wc _ k4
  have hvl:news.length=m*inf.size:=by rw[hnews.length,hys]
  have hst:=run_storeCells_at P (Γ.loc o).b (off*inf.size) et news 0 arr w k7 (by rw[hvl];omega) (qwe hnews (qug hr))
  simp only[Nat.add_zero]at hst
  have hmem : ∀e∈es.take off++(xs.take len++es.drop (off+m)),e.length=inf.size:=fun e he=>by
   rcases wk.1 he with he|he
   ·exact k5 e (wf he)
   ·rcases wk.1 he with he|he
    ·exact qg8 hr e he
    ·exact k5 e (wg he)
  have hw:=q3l s ho k7 hct g (.inl rfl) (es.take off++(xs.take len++es.drop (off+m))) (by simp only[wp,List.length_take,List.length_drop];omega)
   (arr':=(splice arr.toList (off*inf.size) news).toArray) hmem
   (by simp only[List.size_toArray];rw[qrx (by rw[hvl];simp;omega)];simpa using k8)
   (by
    have:=qi.splice (k:=off*inf.size) (arr:=arr.toList) (by simpa using k9) hnews (by rw[hys];omega) (by rw[hys];simp;omega)
    have e1:(es.take off++(xs.take len++es.drop (off+m))).flatten=splice es.flatten (off*inf.size) (xs.take len).flatten:=by
     rw[wj,wj,qii off k5,qot (off+m) k5]
     unfold splice
     rw[hys,wi]
    rw[e1]
    simpa using this)
  refine⟨.value (goInt m),goInt m,_,_,?_,.inl rfl,by simp only[VR],hw.1,hw.2⟩
  simp[Builtin.copy_,run_underlying ht,hsz',hlen,hmn,hfirst,hst,splice]
theorem qaid (sz:Nat) (f:Nat×Operand→Option (Nat×Opnd)) (hf : ∀i x p,f (i,x)=some p → ∃y,qe0 x=some y∧p=(i,y)) (hv:VE Γ w e a) :
  ∀(parts:List (Nat×Operand)) (ps:List (Nat×Opnd)) (es es':List (List AV)) (arr:Array Value),qil f parts=some ps→q37 e sz es ps=some es'→(∀x∈es,x.length=sz)→VRs Γ w es.flatten arr.toList →
   ∃arr',Instr.fill (fun i=>some (i*sz,sz)) arr (parts.map fun(i,x)=>(i,a.eval x))=some arr'∧VRs Γ w es'.flatten arr'.toList∧(∀x∈es',x.length=sz)∧es'.length=es.length
 | [],ps,es,es',arr,h1,h2,h3,h4=>by
  simp only[qil]at h1;cases h1
  simp only[q37]at h2;cases h2
  exact⟨arr,by simp[Instr.fill],h4,h3,rfl⟩
 |(i,x)::parts,ps,es,es',arr,h1,h2,h3,h4=>by
  simp only[qil]at h1
  obtain⟨p,hp,h1⟩:=zob.1 h1
  obtain⟨ps',hps,h1⟩:=zob.1 h1
  cases h1
  obtain⟨y,hy,rfl⟩:=hf i x p hp
  simp only[q37]at h2
  obtain⟨b,hb,h2⟩:=zob.1 h2
  split at h2
  ·rename_i hc
   obtain⟨hc1,hc2,hc3⟩:=hc
   have hcells:VRs Γ w b.cells (a.eval x).cells.toList:=q2c (qak hy hb hv) hc3
   have hl:=hcells.length
   have hl2:=h4.length
   rw[qbo h3]at hl2
   simp only[Array.length_toList]at hl hl2
   have hbound:i*sz+sz≤es.length*sz:=by
    have:(i+1)*sz≤es.length*sz:=wc _ hc2
    rw[wi]at this;omega
   simp only[List.map_cons,Instr.fill]
   have hnot:¬((a.eval x).cells.size≠sz||decide (i*sz+(a.eval x).cells.size>arr.size))=true:=by
    rw[hl,hl2];simp;omega
   rw[if_neg hnot]
   have hz:=q1n (i*sz) (a.eval x).cells.toList 0 arr (by simp;omega)
   obtain⟨c,hci⟩ : ∃c,es[i]? = some c:=⟨es[i],zgE hc2⟩
   have hcl:=h3 c (qtd hci)
   have hset:(es.set i b.cells).flatten=splice es.flatten (i*sz) b.cells:=by
    have:=q0n (off:=0) (ys:=b.cells) h3 hci (by omega)
    have hs:splice c 0 b.cells=b.cells:=by
     unfold splice
     rw[List.take_zero,List.nil_append,List.drop_eq_nil_of_le (by omega),List.append_nil]
    rw[hs]at this
    simpa using this
   obtain⟨arr',g1,g2,g3,g4⟩:=qaid sz f hf hv parts ps' (es.set i b.cells) es' (splice arr.toList (i*sz) (a.eval x).cells.toList).toArray hps h2
    (fun x hx=>by
     rcases List.mem_or_eq_of_mem_set hx with hx|rfl
     ·exact h3 x hx
     ·exact hc1) (by rw[hset];exact h4.splice hcells (i*sz))
   refine⟨arr',?_,g2,g3,by simpa using g4⟩
   rw[show (a.eval x).cells.zipIdx.foldl (fun cs (c,j)=>cs.setIfInBounds (i*sz+j) c) arr=(splice arr.toList (i*sz) (a.eval x).cells.toList).toArray by
    apply Array.ext'
    rw[←Array.foldl_toList,Array.toList_zipIdx,hz]
    rfl]
   exact g1
  ·cases h2
theorem run_bsl {t el:TypeId} {i:TypeInfo} {z:Value} {n:Nat} {parts:Array (Nat×Value)} {arr:Array Value} (ht:P.underlying t=some (.slice el)) (hi:P.info? el=some i) (hz:i.zero=some z) (hsz:z.cells.size=i.size) (h0:0<i.size)
  (hsm:n*i.size≤2^24) (hf:Instr.fill (fun j=>some (j*i.size,i.size)) (madeCells z.cells (n*z.cells.size)) parts.toList=some arr) :
  (Instr.buildSlice t n parts).run P w = .ok (.slice (some ⟨w.heap.size,0,none⟩) n n) (w.alloc (.cells arr el)):=by
 have hsm':¬(2^24<n*i.size):=by omega
 rw[hsz]at hf
 by_cases hn:n*i.size=0
 ·have hn0:n=0:=by
   rcases Nat.mul_eq_zero.1 hn with h|h
   ·exact h
   ·omega
  subst hn0
  have:madeCells z.cells (0*i.size) = #[]:=by simp[madeCells]
  rw[this]at hf
  simp[Instr.buildSlice,run_underlying ht,qj2 hi,Array.range_zero',hf,newRow]
 ·exact run_buildSlice w t el n parts arr i z ht hi hz (by omega) hn hf
theorem ok_bsl {t el:TypeId} {z:List AV} {n:Nat} {parts:Array (Nat×Operand)} {ps:List (Nat×Opnd)} {es:List (List AV)} (s:SR P Γ σ w) (hv:VE Γ w e a) (ht:P.underlying t=some (.slice el)) (hz:zT P el=some z)
  (hps:qil (fun(i,x)=>(qe0 x).bind fun x=>some (i,x)) parts.toList=some ps) (hes:q37 e z.length (wa n z) ps=some es) (hne:z ≠ []) (hsm:n*z.length≤2^24) :
  ∃arr,(Instr.buildSlice t n (parts.map fun(i,x)=>(i,a.eval x))).run P w = .ok (.slice (some ⟨w.heap.size,0,none⟩) n n) (w.alloc (.cells arr el))∧VRs Γ w es.flatten arr.toList∧(∀x∈es,x.length=z.length)∧es.length=n∧0<z.length:=by
 obtain⟨i,zv,hi,hzv,hsz,rfl⟩:=qae1 hz
 have hlen:0<zv.cells.size:=by
  rcases wh zv.cells.size with h|h
  ·exact absurd (by simp[Array.size_eq_zero_iff.1 h]) hne
  ·exact h
 simp only[List.length_map,Array.length_toList]at hes hsm
 obtain⟨arr,g1,g2,g3,g4⟩:=qaid zv.cells.size (fun(i,x)=>(qe0 x).bind fun x=>some (i,x)) (fun i x p hp=>by
  obtain⟨y,hy,hp⟩:=zob.1 hp
  cases hp;exact⟨y,hy,rfl⟩) hv parts.toList ps (wa n (zv.cells.toList.map ofLeaf)) es (madeCells zv.cells (n*zv.cells.size)) hps hes (fun x hx=>by rw[we hx];simp) (q7h zv hlen (VRs.ofLeaf _) n)
 refine⟨arr,run_bsl (P:=P) ht hi hzv hsz (by omega) (by rw[←hsz];exact hsm) ?_,g2,by simpa using g3,by simpa using g4,by simpa using hlen⟩
 rw[←hsz,Array.toList_map]
 exact g1
theorem q64 {t:TypeId} {k:Bool} (h:qadd P t=some k):((k=false∧P.underlying t=some .bool)∨(k=true ∧ ∃i,P.underlying t=some (.int i)))∧szT P t=some 1:=by
 unfold qadd at h
 split at h
 ·rename_i hu;split at h<;>cases h;exact⟨.inl ⟨rfl,hu⟩,‹_›⟩
 ·rename_i i hu;split at h<;>cases h;exact⟨.inr ⟨rfl,i,hu⟩,‹_›⟩
 ·cases h
theorem qajn {t:TypeId} {k:Bool} (h:qadd P t=some k):(P.underlying t).isSome=true∧q5s P t=false:=by
 obtain⟨⟨_,h1⟩|⟨_,i,h1⟩,_⟩:=q64 h<;>simp[q5s,h1]
theorem qr1 {t:TypeId} {k:Bool} {vs:Array Value} {off:Nat} {v:Value} (h:qadd P t=some k) (hv:vs[off]? = some v):(part t vs off).run P w = .ok v w:=by
 obtain⟨h1,h2⟩:=qajn h
 simp[part,qvr h1,h2,hv]
theorem qanv {t:TypeId} {k:Bool} {ks:List Bool} {x y:AV} {xs ys:List AV} {u v:Value} {r:Bool} (hs:qadd P t=some k) (hx:VR Γ w x u) (hy:VR Γ w y v) (he:qj1 (k::ks) (x::xs) (y::ys)=some r) (d:Nat) :
  ∃r1 r2,(Op.equalIn (d+1) t u v).run P w = .ok r1 w∧qj1 ks xs ys=some r2∧r=(r1&&r2):=by
 obtain⟨hu,_⟩:=q64 hs
 unfold qj1 at he
 split at he
 ·rename_i h _ _;cases h
 ·rename_i k1 i1 a1 xs1 i2 a2 ys1 e0 e1 e2
  cases e0;cases e1;cases e2
  simp only[VR]at hx hy
  subst hx hy
  split at he
  ·rename_i hk
   subst hk
   obtain⟨r2,h2,he⟩:=zob.1 he
   cases he
   rcases hu with ⟨h,_⟩|⟨_,k,hu⟩
   ·cases h
   ·exact⟨a1==a2,r2,run_equalIn_int w d t _ k _ _ hu,h2,rfl⟩
  ·cases he
 ·rename_i k1 a1 xs1 a2 ys1 e0 e1 e2
  cases e0;cases e1;cases e2
  simp only[VR]at hx hy
  subst hx hy
  obtain⟨r2,h2,he⟩:=zob.1 he
  cases he
  rcases hu with ⟨_,hu⟩|⟨h,_⟩
  ·exact⟨a1==a2,r2,run_equalIn_bool w d t _ _ hu,h2,rfl⟩
  ·cases h
 ·cases he
theorem q5h {k:Bool} {ks:List Bool} {xs ys:List AV} {r:Bool} (h:qj1 (k::ks) xs ys=some r) : ∃x xs' y ys',xs=x::xs'∧ys=y::ys':=by
 cases xs with
 |nil=>cases k<;>simp[qj1]at h
 |cons x xs=>
  cases ys with
  |nil=>unfold qj1 at h;split at h<;>simp_all
  |cons y ys=>exact⟨x,xs,y,ys,rfl,rfl⟩
theorem q8g (d:Nat) : ∀(fs:List Field) (off:Nat) (ks:List Bool) (xs ys:List AV) (us vs:Array Value) (r:Bool),q9h P off fs=some ks→qj1 ks xs ys=some r →
  VRs Γ w xs (us.toList.drop off)→VRs Γ w ys (vs.toList.drop off)→(Op.eqFields (d+1) us vs fs).run P w = .ok r w
 | [],off,ks,xs,ys,us,vs,r,h1,h2,h3,h4=>by
  simp only[q9h]at h1;cases h1
  unfold qj1 at h2
  split at h2<;>simp_all [Op.eqFields]
 |f::fs,off,ks,xs,ys,us,vs,r,h1,h2,h3,h4=>by
  simp only[q9h]at h1
  split at h1
  ·rename_i hc
   obtain⟨k,hk,h1⟩:=zob.1 h1
   obtain⟨ks',hks,h1⟩:=zob.1 h1
   cases h1
   obtain⟨x,xs',y,ys',rfl,rfl⟩:=q5h h2
   simp only[VRs]at h3 h4
   obtain⟨u,us',eu,hxu,h3⟩:=h3
   obtain⟨v,vs',ev,hyv,h4⟩:=h4
   have hu:us[off]? = some u:=by
    have:us.toList[off]? = some u:=by rw[←wo,eu];rfl
    simpa using this
   have hv:vs[off]? = some v:=by
    have:vs.toList[off]? = some v:=by rw[←wo,ev];rfl
    simpa using this
   obtain⟨r1,r2,q1,q2,rfl⟩:=qanv hk hxu hyv h2 d
   have hu':us.toList.drop (off+1)=us':=by rw[←List.drop_drop,eu];rfl
   have hv':vs.toList.drop (off+1)=vs':=by rw[←List.drop_drop,ev];rfl
   have ih:=q8g d fs (off+1) ks' xs' ys' us vs r2 hks q2 (by rw[hu'];exact h3) (by rw[hv'];exact h4)
   simp only[Op.eqFields,hc.1,ne_eq,not_false_eq_true,if_true,Sem.run_bind,hc.2,qr1 hk hu,qr1 hk hv,Result.andThen_ok,q1]
   cases r1
   ·simp
   ·simpa using ih
  ·cases h1
theorem qaa0 (d:Nat) {el:TypeId} {k:Bool} (hk:qadd P el=some k) (hone:P.cellsOf el=1) : ∀(n off:Nat) (xs ys:List AV) (us vs:Array Value) (r:Bool),qj1 (wa n k) xs ys=some r →
  VRs Γ w xs (us.toList.drop off)→VRs Γ w ys (vs.toList.drop off)→(Op.eqItems (d+1) el (P.cellsOf el) us vs (List.range' off n)).run P w = .ok r w
 | 0,off,xs,ys,us,vs,r,h2,h3,h4=>by
  unfold qj1 at h2
  split at h2<;>simp_all [Op.eqItems]
 |n+1,off,xs,ys,us,vs,r,h2,h3,h4=>by
  rw[wn]at h2
  obtain⟨x,xs',y,ys',rfl,rfl⟩:=q5h h2
  simp only[VRs]at h3 h4
  obtain⟨u,us',eu,hxu,h3⟩:=h3
  obtain⟨v,vs',ev,hyv,h4⟩:=h4
  have hu:us[off]? = some u:=by
   have:us.toList[off]? = some u:=by rw[←wo,eu];rfl
   simpa using this
  have hv:vs[off]? = some v:=by
   have:vs.toList[off]? = some v:=by rw[←wo,ev];rfl
   simpa using this
  obtain⟨r1,r2,q1,q2,rfl⟩:=qanv hk hxu hyv h2 d
  have hu':us.toList.drop (off+1)=us':=by rw[←List.drop_drop,eu];rfl
  have hv':vs.toList.drop (off+1)=vs':=by rw[←List.drop_drop,ev];rfl
  have ih:=qaa0 d hk hone n (off+1) xs' ys' us vs r2 q2 (by rw[hu'];exact h3) (by rw[hv'];exact h4)
  simp only[List.range'_succ,Op.eqItems,Sem.run_bind,hone,Nat.mul_one,qr1 hk hu,qr1 hk hv,Result.andThen_ok,q1]
  rw[hone]at ih
  cases r1
  ·simp
  ·simpa using ih
theorem qagp {t:TypeId} (h:szT P t=some 1):P.cellsOf t=1:=by
 obtain⟨i,hi,hs⟩:=qoq h
 simp[Program.cellsOf,hi,hs]
theorem qaei {t:TypeId} {ks:List Bool} (h:qahh P t=some ks) (d:Nat):P.eqGuardType (d+2) t=false:=by
 have hsc : ∀ {t k},qadd P t=some k → ∀d,P.eqGuardType (d+1) t=false:=by
  intro t k hk d
  obtain⟨⟨_,h1⟩|⟨_,i,h1⟩,_⟩:=q64 hk<;>simp[Program.eqGuardType,h1]
 unfold qahh at h
 split at h
 ·rename_i n e hu
  obtain⟨k,hk,_⟩:=zob.1 h
  rw[Program.eqGuardType,hu]
  exact hsc hk d
 ·rename_i fs hu
  split at h
  ·have : ∀ (l : List Field) (off : Nat) (ks : List Bool), q9h P off l = some ks → (l.any fun f => f.name != "_" && P.eqGuardType (d + 1) f.type) = false := by
    intro l
    induction l with
    |nil=>intro _ _ _;rfl
    |cons f l ih=>
     intro off ks hl
     simp only[q9h]at hl
     split at hl
     ·obtain⟨k,hk,hl⟩:=zob.1 hl
      obtain⟨ks',hks,_⟩:=zob.1 hl
      simp[List.any_cons,hsc hk,ih _ _ hks]
     ·cases hl
   have h2:=this _ _ _ h
   simp only[Program.eqGuardType,hu]
   rw[←Array.any_toList]
   exact h2
  ·cases h
 ·cases h
theorem qajz {t:TypeId} {ks:List Bool} {x y:List AV} {u v:Value} {r:Bool} {op:BinOp} {xo yo:Operand} (hop:op = .eql∨op = .neq) (hf:qahh P t=some ks) (hx:VR Γ w (.agg x) u) (hy:VR Γ w (.agg y) v) (he:qj1 ks x y=some r) :
  (do eqGuard op t xo yo u v;binOp op t u v:Sem Value).run P w = .ok (.bool (if op = .neq then !r else r)) w:=by
 simp only[VR]at hx hy
 obtain⟨us,rfl,hx⟩:=hx
 obtain⟨vs,rfl,hy⟩:=hy
 have hd:P.depth=2*(P.types.size+Made.depth)+2:=rfl
 have hg:(eqGuard op t xo yo (.agg us.toArray) (.agg vs.toArray)).run P w = .ok () w:=by
  unfold eqGuard
  have h1:=qaei hf (2*(P.types.size+Made.depth))
  rw[←hd]at h1
  rcases hop with rfl|rfl<;>simp[h1]
 have heq:(Op.equal t (.agg us.toArray) (.agg vs.toArray)).run P w = .ok r w:=by
  unfold Op.equal Op.maxDepth
  have hf':=hf
  unfold qahh at hf
  split at hf
  ·rename_i n el hu
   obtain⟨k,hk,hks⟩:=zob.1 hf
   cases hks
   obtain⟨_,hsz⟩:=q64 hk
   obtain⟨i,hi,_⟩:=qoq hsz
   rw[run_equalIn_array w 9999 _ _ hu hi,List.range_eq_range']
   exact qaa0 9998 hk (qagp hsz) n 0 _ _ _ _ _ he (by simpa using hx) (by simpa using hy)
  ·rename_i fs hu
   split at hf
   ·rename_i hst
    have hfo:P.underlying t=some (.struct (P.fieldsOf t)):=by simp[Program.fieldsOf,hu]
    rw[run_equalIn_struct w 9999 t _ _ hfo hst]
    have:P.fieldsOf t=fs:=by simp[Program.fieldsOf,hu]
    rw[this]
    exact q8g 9998 _ 0 ks _ _ _ _ _ hf he (by simpa using hx) (by simpa using hy)
   ·cases hf
  ·cases hf
 simp only[Sem.run_bind,hg,Result.andThen_ok]
 rcases hop with rfl|rfl
 ·simp[binOp,heq]
 ·simp[binOp,heq]
end Go.Ev
namespace Go.Ev
open Go.RowKit (Below)
variable {P:Program} {Γ Γ':Ctx} {w w':World} {σ σ':qf} {e:Env} {a:Act} {av:AV}
theorem ok_bin {op : BinOp} {t : TypeId} {xo yo : Operand} {x y r : AV} {u v : Value} (hx : VR Γ w x u) (hy : VR Γ w y v) (he : qn2 op x y = some r) :
    ∃ z, (do eqGuard op t xo yo u v; binOp op t u v : Sem Value).run P w = .ok z w ∧ VR Γ w r z := by
  unfold qn2 at he
  split at he
  · rename_i k i k' j
    simp only [VR] at hx hy
    subst hx hy
    have hg : ∀ op, (eqGuard op t xo yo (.int k i) (.int k' j)).run P w = .ok () w := fun op => by
      unfold eqGuard; cases op <;> simp
    simp only [Sem.run_bind, hg, Result.andThen_ok]
    split at he
    · split at he
      · cases he
      · cases he
        refine ⟨_, ?_, by simp only [VR]; rfl⟩
        simp [binOp, Op.shift, *]
    · split at he
      · cases he
      · cases he
        refine ⟨_, ?_, by simp only [VR]; rfl⟩
        simp [binOp, Op.shift, *]
    · split at he
      · rename_i hk
        subst hk
        split at he <;> (try split at he) <;> first
          | (cases he; done)
          | (cases he
             refine ⟨_, ?_, by simp only [VR]; rfl⟩
             simp_all [binOp, Op.intArith, Op.intDiv, Op.intBits, Op.intCmp])
      · cases he
  · rename_i i j
    simp only [VR] at hx hy
    subst hx hy
    have hg : ∀ op, (eqGuard op t xo yo (.string i) (.string j)).run P w = .ok () w := fun op => by
      unfold eqGuard; cases op <;> simp
    simp only [Sem.run_bind, hg, Result.andThen_ok]
    split at he
    · split at he
      · cases he
        refine ⟨_, ?_, by simp only [VR]; rfl⟩
        have : (i.size : Int) + (j.size : Int) ≤ 9223372036854775807 := by omega
        simp [binOp, Op.stringOp, this]
      · cases he
    · cases he
      refine ⟨_, ?_, by simp only [VR]; rfl⟩
      simp [binOp, Op.stringOp, beq_toListBytes]
    · cases he
      refine ⟨_, ?_, by simp only [VR]; rfl⟩
      simp [binOp, Op.stringOp, beq_toListBytes]
    · cases he
  · cases he
theorem ok_isn {t:TypeId} {fn r:Bool} {a b:AV} {u v:Value} {op:BinOp} {xo yo:Operand} (hop:op = .eql∨op = .neq)
  (hu:(fn=true ∧ ∃x y z,P.underlying t=some (.func x y z))∨(fn=false ∧ ∃el,P.underlying t=some (.pointer el))) (hx:VR Γ w a u) (hy:VR Γ w b v) (h:isNil fn a b=some r) :
  (do eqGuard op t xo yo u v;binOp op t u v:Sem Value).run P w = .ok (.bool (if op = .neq then !r else r)) w:=by
 have key:(∀op,(eqGuard op t xo yo u v).run P w = .ok () w)∧(∀d:Nat,(Op.equalIn (d+1) t u v).run P w = .ok r w)∧((∃q,v = .pointer q)∨v = .nilFunc):=by
  unfold isNil at h
  split at h
  ·cases h
   simp only[VR]at hx hy;subst hx hy
   rcases hu with ⟨_,p1,p2,p3,hu⟩|⟨hf,_⟩
   ·exact⟨fun op=>by unfold eqGuard;cases op<;>simp,fun d=>by simp[Op.equalIn,run_underlying hu],.inr rfl⟩
   ·cases hf
  ·cases h
   simp only[VR]at hx hy
   obtain⟨fs,cs,rfl,_⟩:=hx
   subst hy
   rcases hu with ⟨_,p1,p2,p3,hu⟩|⟨hf,_⟩
   ·exact⟨fun op=>by unfold eqGuard;cases op<;>simp,fun d=>by simp[Op.equalIn,run_underlying hu],.inr rfl⟩
   ·cases hf
  ·cases h
   simp only[VR]at hx hy;subst hx hy
   rcases hu with ⟨hf,_⟩|⟨_,el,hu⟩
   ·cases hf
   ·exact⟨fun op=>by unfold eqGuard;cases op<;>simp,fun d=>by simp[Op.equalIn,run_underlying hu],.inl ⟨_,rfl⟩⟩
  ·cases h
   simp only[VR]at hx hy
   obtain⟨p,rfl,_⟩:=hx
   subst hy
   rcases hu with ⟨hf,_⟩|⟨_,el,hu⟩
   ·cases hf
   ·exact⟨fun op=>by unfold eqGuard;cases op<;>simp,fun d=>by simp[Op.equalIn,run_underlying hu],.inl ⟨_,rfl⟩⟩
  ·cases h
   simp only[VR]at hx hy
   obtain⟨_,_,rfl,_⟩:=hx
   subst hy
   rcases hu with ⟨hf,_⟩|⟨_,el,hu⟩
   ·cases hf
   ·exact⟨fun op=>by unfold eqGuard;cases op<;>simp,fun d=>by simp[Op.equalIn,run_underlying hu],.inl ⟨_,rfl⟩⟩
  ·cases h
 obtain⟨hg,he,hv⟩:=key
 have he':(Op.equal t u v).run P w = .ok r w:=he 9999
 simp only[Sem.run_bind,hg,Result.andThen_ok]
 rcases hv with ⟨q,rfl⟩|rfl<;>rcases hop with rfl|rfl<;>simp[binOp,he']
theorem ok_eqb {t:TypeId} {x y:Bool} {op:BinOp} {xo yo:Operand} (hop:op = .eql∨op = .neq) (hu:P.underlying t=some .bool) :
  (do eqGuard op t xo yo (.bool x) (.bool y);binOp op t (.bool x) (.bool y):Sem Value).run P w = .ok (.bool (if op = .neq then !(x==y)else x==y)) w:=by
 have hg : ∀op,(eqGuard op t xo yo (.bool x) (.bool y)).run P w = .ok () w:=fun op=>by
  unfold eqGuard;cases op<;>simp
 have he:(Op.equal t (.bool x) (.bool y)).run P w = .ok (x==y) w:=run_equalIn_bool w 9999 t _ _ hu
 simp only[Sem.run_bind,hg,Result.andThen_ok]
 rcases hop with rfl|rfl<;>simp[binOp,he]
theorem VRs.set {cs:List AV} {vs:List Value} {i:Nat} {x:AV} {v:Value} (h:VRs Γ w cs vs) (hv:vs[i]? = some v) (hx:VR Γ w x v):VRs Γ w (cs.set i x) vs:=by
 induction cs generalizing vs i with
 |nil=>simpa using h
 |cons c cs ih=>
  simp only[VRs]at h
  obtain⟨u,us,rfl,h1,h2⟩:=h
  cases i with
  |zero=>
   simp at hv;subst hv
   simp only[List.set_cons_zero,VRs]
   exact⟨_,_,rfl,hx,h2⟩
  |succ i=>
   simp only[List.set_cons_succ,VRs]
   exact⟨_,_,rfl,h1,ih h2 (by simpa using hv)⟩
theorem VRs.at {cs:List AV} {vs:List Value} {i:Nat} {x:AV} (h:VRs Γ w cs vs) (hi:cs[i]? = some x) : ∃v,vs[i]? = some v∧VR Γ w x v:=by
 induction cs generalizing vs i with
 |nil=>simp at hi
 |cons c cs ih=>
  simp only[VRs]at h
  obtain⟨u,us,rfl,h1,h2⟩:=h
  cases i with
  |zero=>simp at hi;subst hi;exact⟨u,rfl,h1⟩
  |succ i=>simpa using ih h2 (by simpa using hi)
theorem qamf : ∀(os:List (Nat×Nat)) {Γ:Ctx} {σ σ2:qf} {cs cs2:List AV} {vs:List Value},SR P Γ σ w→VRs Γ w cs vs→qai8 σ cs os=some (cs2,σ2) →
  ∃ Γ2,VRs Γ2 w cs2 vs∧SR P Γ2 σ2 w∧Ext Γ Γ2 w w
 | [],Γ,σ,σ2,cs,cs2,vs,s,h,ho=>by simp only[qai8]at ho;cases ho;exact⟨Γ,h,s,Ext.refl _ _⟩
 |(off,sz)::os,Γ,σ,σ2,cs,cs2,vs,s,h,ho=>by
  simp only[qai8]at ho
  split at ho
  ·rename_i hc
   split at ho
   ·rename_i h0
    obtain⟨v,hv,hx⟩:=h.at hc
    obtain⟨k1,k2,k3⟩:=qwc (P:=P) s h0 hx
    obtain⟨Γ2,m1,m2,m3⟩:=qamf os k1 (VRs.set (VRs.mono k2 _ _ h) hv k3) ho
    exact⟨Γ2,m1,m2,k2.trans m3⟩
   ·cases ho
  ·cases ho
theorem qanb {t:TypeId} {m key x:Operand} {c:COp} (s:SR P Γ σ w)
  (hc:((mapT P t).bind fun(k,_)=>(qe0 m).bind fun m=>(qe0 key).bind fun key=>(qe0 x).bind fun x=>some (COp.mput k m key x))=some c) (he:qdy e σ c=some (av,σ')) (hv:VE Γ w e a) :
  qus P Γ w (((Instr.mapUpdate t (a.eval m) (a.eval key) (a.eval x)).run P w).andThen fun _ w => .ok .skip w) av σ':=by
 rw[zob]at hc;obtain⟨⟨k,z⟩,ht,hc⟩:=hc
 rw[zob]at hc;obtain⟨m',hm,hc⟩:=hc
 rw[zob]at hc;obtain⟨key',hkey,hc⟩:=hc
 rw[zob]at hc;obtain⟨x',hx,hc⟩:=hc
 cases hc
 simp only[qdy]at he
 rw[zob]at he;obtain⟨p,hp,he⟩:=he
 rw[zob]at he;obtain⟨i,hi,he⟩:=he
 rw[zob]at he;obtain⟨y,hy,he⟩:=he
 split at he
 ·split at he
  ·rename_i o k' n _ k2 es ho
   split at he
   ·rename_i hcc
    obtain⟨rfl,rfl,hlo⟩:=hcc
    cases he
    obtain⟨kt,et,inf,zv,t1,t2,_,_,_⟩:=qang ht
    have hkv:=qak hkey hi hv
    simp only[VR]at hkv
    rw[hkv]
    exact ok_mput (P:=P) (n:=n) s (qak hm hp hv) (qak hx hy hv) hlo t1 t2 ho
   ·cases he
  ·cases he
 ·cases he
theorem op_ok {h:Hints} {o:Oper} {c:COp} (hc:cOp P h o=some c) (he:qdy e σ c=some (av,σ')) (hv:VE Γ w e a) (s:SR P Γ σ w):qus P Γ w ((execOp a.eval o).run P w) av σ':=by
 obtain⟨dst,op,type,pos,after,guard⟩:=o
 cases op with
 |move x=>
  simp only[cOp]at hc
  rw[zob]at hc;obtain⟨x',hx,hc⟩:=hc
  split at hc
  ·cases hc
   simp only[qdy]at he
   rw[zob]at he;obtain⟨y,hy,he⟩:=he
   have hy':=qak hx hy hv
   split at he
   ·split at he
    ·rename_i ho
     split at he
     ·rename_i hc2
      obtain⟨rfl,hle⟩:=hc2
      cases he
      obtain⟨q1,q2⟩:=qv7 s hy' ho hle
      exact⟨_,_,w,_,by simp[execOp],.inl rfl,q2,q1,Ext.drop Γ w _⟩
     ·cases he
    ·cases he
   ·cases he
    exact .here s (by simp[execOp]) hy'
  ·cases hc
   simp only[qdy]at he
   rw[zob]at he;obtain⟨y,hy,he⟩:=he
   cases he
   exact .here s (by simp[execOp]) (qak hx hy hv)
 |assign x=>
  simp only[cOp]at hc
  split at hc
  ·split at hc
   ·rw[zob]at hc;obtain⟨el,hel,hc⟩:=hc
    rw[zob]at hc;obtain⟨sz,hsz,hc⟩:=hc
    cases hc
    simp only[qdy]at he
    split at he
    ·cases he
     have hB:=Below.refl w.heap.size w
     refine⟨_,.slice none 0 0,w,Γ.push ⟨0,0,sz,0⟩,by simp[execOp];rfl,.inl rfl,?_,s.push hB _ (fun h=>absurd rfl h) ?_,Ext.push hB _ (fun h=>absurd rfl h)⟩
     ·simp only[VR,s.len,Ctx.push_new]
      exact⟨none,0,rfl,wb _,fun _=>rfl,by simp[Ctx.push],wb _,fun _=>⟨wb _,.inl rfl⟩⟩
     ·simp only[OR,Ctx.push_new]
      exact⟨trivial,trivial,‹_›,by simp,by simp,.inl trivial⟩
    ·cases he
   ·cases hc
   ·rw[zob]at hc;obtain⟨x',hx,hc⟩:=hc
    cases hc
    simp only[qdy]at he
    rw[zob]at he;obtain⟨y,hy,he⟩:=he
    cases he
    exact .here s (by simp[execOp]) (qak hx hy hv)
  ·rw[zob]at hc;obtain⟨x',hx,hc⟩:=hc
   cases hc
   simp only[qdy]at he
   rw[zob]at he;obtain⟨y,hy,he⟩:=he
   cases he
   exact .here s (by simp[execOp]) (qak hx hy hv)
 |pick c x y=>
  simp only[cOp]at hc
  rw[zob]at hc;obtain⟨c',hc',hc⟩:=hc
  rw[zob]at hc;obtain⟨x',hx,hc⟩:=hc
  rw[zob]at hc;obtain⟨y',hy,hc⟩:=hc
  cases hc
  simp only[qdy]at he
  rw[zob]at he;obtain⟨t,ht,he⟩:=he
  split at he
  ·rename_i t
   have htv:=qak hc' ht hv
   simp only[VR]at htv
   rw[zob]at he;obtain⟨r,hr,he⟩:=he
   cases he
   split at hr
   ·rename_i h1;subst h1
    exact .here s (v:=a.eval x) (by simp[execOp,htv,asBool]) (qak hx hr hv)
   ·rename_i h1
    have h1:t=false:=by simpa using h1
    subst h1
    exact .here s (v:=a.eval y) (by simp[execOp,htv,asBool]) (qak hy hr hv)
  ·cases he
 |alloc t=>
  simp only[cOp]at hc
  rw[zob]at hc;obtain⟨z,hz,hc⟩:=hc
  split at hc
  ·cases hc
   simp only[qdy]at he
   split at he
   ·cases he
    have:=(qaiu (P:=P) s (qahe hz) (wq ‹_›)).hole
    simpa only[execOp,Sem.run_bind,Sem.run_pure,wl,List.singleton_append]using this
   ·cases he
  ·split at hc
   ·cases hc
    simp only[qdy]at he
    split at he
    ·cases he
     have:=qaiu (P:=P) s (qahe hz) (wq ‹_›)
     simpa only[execOp,Sem.run_bind,Sem.run_pure]using this
    ·cases he
   ·cases hc
    simp only[qdy]at he
    rw[zob]at he;obtain⟨y,hy,he⟩:=he
    split at he
    ·split at he
     ·rename_i hh
      split at he
      ·cases he
       have:=qal6 (P:=P) s (qahe hz) (wq ‹_›) hh
       simpa only[execOp,Sem.run_bind,Sem.run_pure]using this
      ·cases he
     ·cases he
    ·cases he
 |box t x=>
  simp only[cOp]at hc
  rw[zob]at hc;obtain⟨x',hx,hc⟩:=hc
  split at hc
  ·split at hc
   ·cases hc
    simp only[qdy]at he
    rw[zob]at he;obtain⟨y,hy,he⟩:=he
    split at he
    ·cases he
     have:=(qalg (P:=P) (t:=t) s (qak hx hy hv) (And.right ‹_›)).hole
     simpa only[execOp,Sem.run_bind,Sem.run_pure]using this
    ·cases he
   ·cases hc
    simp only[qdy]at he
    rw[zob]at he;obtain⟨y,hy,he⟩:=he
    split at he
    ·cases he
     have:=qalg (P:=P) (t:=t) s (qak hx hy hv) (And.right ‹_›)
     simpa only[execOp,Sem.run_bind,Sem.run_pure]using this
    ·cases he
  split at hc
  ·rw[zob]at hc;obtain⟨el,hel,hc⟩:=hc
   rw[zob]at hc;obtain⟨sz,hsz,hc⟩:=hc
   cases hc
   simp only[qdy]at he
   rw[zob]at he;obtain⟨y,hy,he⟩:=he
   split at he
   ·split at he
    ·rename_i h0
     cases he
     obtain⟨s2,e2,hv2⟩:=qwc s h0 (qak hx hy hv)
     obtain⟨nx,v,w',Γ',q1,q2,q3,q4,q5⟩:=ok_box (P:=P) (t:=t) s2 hv2 (by simp[AV.cells]) (by rfl)
     have hr:(execOp a.eval ⟨dst,.box t x,type,pos,after,guard⟩).run P w = .ok nx w':=by simpa only[execOp,Sem.run_bind,Sem.run_pure]using q1
     refine⟨nx,v,w',Γ',hr,q2,?_,?_,e2.trans q5⟩
     ·rw[wp]at q3;exact q3
     ·rw[wl]at q4;exact q4
    ·cases he
   ·cases he
  ·cases hc
   simp only[qdy]at he
   rw[zob]at he;obtain⟨y,hy,he⟩:=he
   split at he
   ·cases he
    have:=ok_box (P:=P) (t:=t) s (qak hx hy hv) (wq ‹_›) (And.right ‹_›)
    simpa only[execOp,Sem.run_bind,Sem.run_pure]using this
   ·cases he
 |build t parts=>
  simp only[cOp]at hc
  rw[zob]at hc;obtain⟨z,hz,hc⟩:=hc
  obtain⟨i,zv,hi,hzv,hsz,rfl⟩:=qae1 hz
  have fin : ∀(place:Nat→Option (Nat×Nat)) (f:Nat×Operand→Option (Nat×Nat×Opnd)) (ps:List (Nat×Nat×Opnd)) (zz cs:List AV),(∀i x p,f (i,x)=some p → ∃q y,place i=some q∧qe0 x=some y∧p=(q.1,q.2,y)) →
    qil f parts.toList=some ps→VRs Γ w zz zv.cells.toList→q6u e zz ps=some cs→(∀vs:List (Nat×Value),P.built t vs=Instr.fill place zv.cells vs) →
    ∃arr:Array Value,(execOp a.eval ⟨dst,.build t parts,type,pos,after,guard⟩).run P w = .ok (.value (.agg arr)) w∧VRs Γ w cs arr.toList:=by
   intro place f ps zz cs hf hps hzz hcs hb
   obtain⟨arr,g1,g2⟩:=qalr place f hf hv parts.toList ps _ cs zv.cells hps hcs hzz
   have hr:(Instr.build t (parts.map fun(i,x)=>(i,a.eval x))).run P w = .ok (.agg arr) w:=run_build w t _ _ (by rw[Array.toList_map,hb];exact g1)
   exact⟨arr,by simp only[execOp,Sem.run_bind,hr];rfl,g2⟩
  have one : ∀(place:Nat→Option (Nat×Nat)) (f:Nat×Operand→Option (Nat×Nat×Opnd)) (ps:List (Nat×Nat×Opnd)) (zz:List AV),VRs Γ w zz zv.cells.toList→(∀i x p,f (i,x)=some p → ∃q y,place i=some q∧qe0 x=some y∧p=(q.1,q.2,y)) →
    qil f parts.toList=some ps→c = .build zz ps→(∀vs:List (Nat×Value),P.built t vs=Instr.fill place zv.cells vs)→qus P Γ w ((execOp a.eval ⟨dst,.build t parts,type,pos,after,guard⟩).run P w) av σ':=by
   rintro place f ps zz hzz hf hps rfl hb
   simp only[qdy]at he
   rw[zob]at he;obtain⟨cs,hcs,he⟩:=he
   cases he
   obtain⟨arr,g1,g2⟩:=fin place f ps _ cs hf hps hzz hcs hb
   refine .here s (v:=.agg arr) g1 ?_
   simp only[VR]
   exact⟨arr.toList,by simp,g2⟩
  split at hc
  ·rename_i fs hu
   rw[zob]at hc;obtain⟨places,hpl,hc⟩:=hc
   rw[zob]at hc;obtain⟨ps,hps,hc⟩:=hc
   have hf : ∀(i:Nat) (x:Operand) (p:Nat×Nat×Opnd),((places[i]?).bind fun(p:Nat×Nat)=>(qe0 x).bind fun x=>some (p.1,p.2,x))=some p → ∃(q:Nat×Nat) (y:Opnd),places[i]? = some q∧qe0 x=some y∧p=(q.1,q.2,y):=fun i x p hp=>by
    obtain⟨q,hq,hp⟩:=zob.1 hp
    obtain⟨y,hy,hp⟩:=zob.1 hp
    cases hp
    exact⟨q,y,hq,hy,rfl⟩
   have hb : ∀vs:List (Nat×Value),P.built t vs=Instr.fill (places[·]?) zv.cells vs:=fun vs=>by simp[Program.built,hi,hu,hzv,hpl]
   split at hc
   ·split at hc
    ·rw[zob]at hc;obtain⟨zz,hzz,hc⟩:=hc
     cases hc
     have hz2:VRs Γ w zz zv.cells.toList:=by
      obtain⟨i2,zv2,q1,q2,_,rfl⟩:=qacf hzz
      rw[hi]at q1;cases q1
      rw[hzv]at q2;cases q2
      exact VRs.ofTop _
     exact one (places[·]?) _ ps zz hz2 hf hps rfl hb
    ·cases hc
     exact one (places[·]?) _ ps _ (VRs.ofLeaf _) hf hps rfl hb
   ·rw[zob]at hc;obtain⟨zz,hzz,hc⟩:=hc
    cases hc
    simp only[qdy]at he
    rw[zob]at he;obtain⟨cs,hcs,he⟩:=he
    rw[zob]at he;obtain⟨⟨cs2,σ2⟩,ho,he⟩:=he
    cases he
    have hz2:VRs Γ w zz zv.cells.toList:=by
     obtain⟨i2,zv2,q1,q2,_,rfl⟩:=qacf hzz
     rw[hi]at q1;cases q1
     rw[hzv]at q2;cases q2
     exact VRs.ofTop _
    obtain⟨arr,g1,g2⟩:=fin (places[·]?) _ ps _ cs hf hps hz2 hcs hb
    obtain⟨Γ2,k1,k2,k3⟩:=qamf (P:=P) _ s g2 ho
    refine⟨_,.agg arr,w,Γ2,g1,.inl rfl,?_,k2,k3⟩
    simp only[VR]
    exact⟨arr.toList,by simp,k1⟩
  ·rename_i n el hu
   rw[zob]at hc;obtain⟨sz,hsz',hc⟩:=hc
   rw[zob]at hc;obtain⟨ps,hps,hc⟩:=hc
   cases hc
   obtain⟨ie,hie,rfl⟩:=qoq hsz'
   refine one (fun i=>some (i*ie.size,ie.size)) _ ps _ (VRs.ofLeaf _) (fun i x p hp => ?_) hps rfl (fun vs=>by simp[Program.built,hi,hu,hzv,hie])
   obtain⟨y,hy,hp⟩:=zob.1 hp
   cases hp
   exact⟨_,y,rfl,hy,rfl⟩
  ·cases hc
 |buildSlice t n parts=>
  simp only[cOp]at hc
  rw[zob]at hc;obtain⟨el,hel,hc⟩:=hc
  rw[zob]at hc;obtain⟨z,hz,hc⟩:=hc
  rw[zob]at hc;obtain⟨ps,hps,hc⟩:=hc
  have ht:=qj5 hel
  split at hc
  ·cases hc
   simp only[qdy]at he
   rw[zob]at he;obtain⟨es,hes,he⟩:=he
   split at he
   ·rename_i hcc
    cases he
    obtain⟨arr,hr,g1,g2,g3,g4⟩:=ok_bsl (P:=P) s hv ht hz hps hes hcc.1 hcc.2.2
    have hal:=g1.length
    rw[qbo g2,g3,Array.length_toList]at hal
    obtain⟨q1,q2⟩:=qz4 (P:=P) s (qd9 w (.cells arr el)) (wb _) (b:=w.heap.size) (et:=el) (arr:=arr) (qki _ _) z.length n es g4 (by omega) g2 hal (vs:=arr.toList) g1 (by simp)
    refine⟨_,_,_,_,by simp only[execOp,Sem.run_bind,hr];rfl,.inl rfl,?_,q1,q2⟩
    simp only[VR,s.len,Ctx.push_new]
    exact⟨_,n,rfl,wb _,fun _=>rfl,by simp[Ctx.push],wb _,fun _=>⟨by omega,.inr (by simp)⟩⟩
   ·cases he
  ·cases hc
   simp only[qdy]at he
   rw[zob]at he;obtain⟨es,hes,he⟩:=he
   split at he
   ·rename_i hcc
    cases he
    obtain⟨arr,hr,g1,g2,g3,g4⟩:=ok_bsl (P:=P) s hv ht hz hps hes hcc.1 hcc.2
    have hB:=qd9 w (.cells arr el)
    refine⟨_,_,_,Γ,by simp only[execOp,Sem.run_bind,hr];rfl,.inl rfl,?_,s.of_below hB,.of_below Γ hB⟩
    simp only[VR]
    refine⟨_,n,by rw[g3],by omega,fun _=>g3.symm,.inr ⟨w.heap.size,0,z.length,rfl,qagn s hB (wb _) (by simp),g4,g2,?_⟩⟩
    rw[qmw g2]
    exact qi.of_list (VRs.mono (.of_below Γ hB) _ _ g1) fun j v hj=>by simpa using hj
   ·cases he
 |load t x=>
  simp only[cOp]at hc
  rw[zob]at hc;obtain⟨sz,hsz,hc⟩:=hc
  rw[zob]at hc;obtain⟨x',hx,hc⟩:=hc
  split at hc
  ·rename_i hcc
   have he : ∃p cs r,x'.ev e=some p∧qb σ p=some cs∧qyb sz (q5s P t) cs=some r∧av=r∧σ'=σ:=by
    split at hc
    ·cases hc
     simp only[qdy]at he
     rw[zob]at he;obtain⟨p,hp,he⟩:=he
     split at he
     ·rename_i cs
      rw[zob]at he;obtain⟨r,hr,he⟩:=he
      cases he
      exact⟨_,cs,_,hp,rfl,hr,rfl,rfl⟩
     ·cases he
    split at hc
    ·split at hc
     ·split at hc
      ·cases hc
       simp only[qdy]at he
       rw[zob]at he;obtain⟨p,hp,he⟩:=he
       rw[zob]at he;obtain⟨cs,hcs,he⟩:=he
       rw[zob]at he;obtain⟨r,hr,he⟩:=he
       cases he
       exact⟨p,cs,_,hp,hcs,hr,rfl,rfl⟩
      ·split at hc
       ·cases hc
        simp only[qdy]at he
        rw[zob]at he;obtain⟨p,hp,he⟩:=he
        split at he
        ·rw[zob]at he;obtain⟨cs,hcs,he⟩:=he
         rw[zob]at he;obtain⟨r,hr,he⟩:=he
         cases he
         exact⟨p,cs,_,hp,hcs,hr,rfl,rfl⟩
        ·cases he
       ·cases hc
     ·cases hc
      simp only[qdy]at he
      rw[zob]at he;obtain⟨p,hp,he⟩:=he
      split at he
      ·rw[zob]at he;obtain⟨cs,hcs,he⟩:=he
       rw[zob]at he;obtain⟨r,hr,he⟩:=he
       cases he
       exact⟨p,cs,_,hp,hcs,hr,rfl,rfl⟩
      ·cases he
    ·cases hc
     simp only[qdy]at he
     rw[zob]at he;obtain⟨p,hp,he⟩:=he
     split at he
     ·rw[zob]at he;obtain⟨cs,hcs,he⟩:=he
      rw[zob]at he;obtain⟨r,hr,he⟩:=he
      cases he
      exact⟨p,cs,_,hp,hcs,hr,rfl,rfl⟩
     ·cases he
   obtain⟨p,cs,r,hp,hcs,hr,rfl,rfl⟩:=he
   have:=ok_ld (P:=P) s (qak hx hp hv) hcs hsz hcc.1 hcc.2 hr
   simpa only[execOp,Sem.run_bind,Sem.run_pure]using this
  ·cases hc
 |makeMap t r=>
  cases r with
  |some _=>simp[cOp]at hc
  |none=>
   simp only[cOp]at hc
   rw[zob]at hc;obtain⟨⟨k,z⟩,_,hc⟩:=hc
   cases hc
   simp only[qdy]at he
   cases he
   simpa only[execOp,Option.map_none,Sem.run_bind,Sem.run_pure]using ok_mkmap (P:=P) (t:=t) (k:=k) s
 |insert t m key x=>
  simp only[cOp]at hc
  have:=qanb (P:=P) s hc he hv
  simpa only[execOp,Sem.run_bind,Sem.run_pure]using this
 |mapUpdate t m key x=>
  simp only[cOp]at hc
  have:=qanb (P:=P) s hc he hv
  simpa only[execOp,Sem.run_bind,Sem.run_pure]using this
 |lookup t m key ok=>
  simp only[cOp]at hc
  rw[zob]at hc;obtain⟨⟨k,z⟩,ht,hc⟩:=hc
  rw[zob]at hc;obtain⟨m',hm,hc⟩:=hc
  rw[zob]at hc;obtain⟨key',hkey,hc⟩:=hc
  cases hc
  simp only[qdy]at he
  rw[zob]at he;obtain⟨p,hp,he⟩:=he
  rw[zob]at he;obtain⟨i,hi,he⟩:=he
  split at he
  ·split at he
   ·rename_i o k' n _ k2 es ho
    split at he
    ·rename_i hcc
     obtain⟨rfl,rfl⟩:=hcc
     cases he
     obtain⟨kt,et,inf,zv,t1,t2,t3,t4,rfl⟩:=qang ht
     have hkv:=qak hkey hi hv
     simp only[VR]at hkv
     have:=ok_mget (P:=P) (n:=n) (ok:=ok) s (qak hm hp hv) t1 t2 t3 t4 ho
     simpa only[execOp,hkv,Sem.run_bind,Sem.run_pure]using this
    ·cases he
   ·cases he
  ·cases he
 |store t x y=>
  simp only[cOp]at hc
  rw[zob]at hc;obtain⟨sz,hsz,hc⟩:=hc
  rw[zob]at hc;obtain⟨x',hx,hc⟩:=hc
  rw[zob]at hc;obtain⟨y',hy,hc⟩:=hc
  have he : ∃p v,x'.ev e=some p∧y'.ev e=some v∧stP sz p v σ=some (av,σ'):=by
   split at hc
   ·cases hc
    simp only[qdy]at he
    rw[zob]at he;obtain⟨p,hp,he⟩:=he
    rw[zob]at he;obtain⟨v,hve,he⟩:=he
    exact⟨p,v,hp,hve,he⟩
   ·cases hc
    simp only[qdy]at he
    rw[zob]at he;obtain⟨p,hp,he⟩:=he
    split at he
    ·rw[zob]at he;obtain⟨v,hve,he⟩:=he
     exact⟨p,v,hp,hve,he⟩
    ·cases he
  obtain⟨p,v,hp,hve,he⟩:=he
  unfold stP at he
  split at he
  ·split at he
   ·rename_i rs es g' ho
    rw[zob]at he;obtain⟨c,hci,he⟩:=he
    split at he
    ·rename_i hcc
     obtain⟨rfl,h1,h2,h3⟩:=hcc
     cases he
     have:=ok_st (P:=P) s (qak hx hp hv) (qak hy hve hv) hsz ho hci h1 h2 h3
     simpa only[execOp,Sem.run_bind,Sem.run_pure]using this
    ·cases he
   ·cases he
  ·cases he
 |nilCheck x=>
  simp only[cOp]at hc
  rw[zob]at hc;obtain⟨x',hx,hc⟩:=hc
  cases hc
  simp only[qdy]at he
  rw[zob]at he;obtain⟨y,hy,he⟩:=he
  have hxv:=qak hx hy hv
  split at he
  ·cases he
   have h':=hxv
   simp only[VR]at h'
   obtain⟨b,off,h1,_⟩:=h'
   exact .here s (v:=a.eval x) (by simp[execOp,h1]) hxv
  ·cases he
   have h':=hxv
   simp only[VR]at h'
   obtain⟨p,h1,_⟩:=h'
   exact .here s (v:=a.eval x) (by simp[execOp,h1]) hxv
  ·cases he
 |binOp op t x y yt=>
  simp only[cOp]at hc
  rw[zob]at hc;obtain⟨x',hx,hc⟩:=hc
  rw[zob]at hc;obtain⟨y',hy,hc⟩:=hc
  have agg : ∀(neg:Bool) (ks:List Bool),(op = .eql∧neg=false∨op = .neq∧neg=true)→qahh P t=some ks→c = .eqs neg ks x' y'→qus P Γ w ((execOp a.eval ⟨dst,.binOp op t x y yt,type,pos,after,guard⟩).run P w) av σ':=by
   rintro neg ks hop hf rfl
   simp only[qdy]at he
   rw[zob]at he;obtain⟨u,hu,he⟩:=he
   rw[zob]at he;obtain⟨v,hvv,he⟩:=he
   split at he
   ·rw[zob]at he;obtain⟨r,hr,he⟩:=he
    cases he
    have h1:=qajz (P:=P) (xo:=x) (yo:=y) (op:=op) (hop.imp wq wq) hf (qak hx hu hv) (qak hy hvv hv) hr
    refine .here s (v:=.bool (if op = .neq then !r else r)) (by simp only[execOp];rw[Sem.run_bind,h1];rfl) ?_
    simp only[VR]
    rcases hop with ⟨rfl,rfl⟩|⟨rfl,rfl⟩<;>simp
   ·cases he
  have bool : ∀(neg:Bool),(op = .eql∧neg=false∨op = .neq∧neg=true)→P.underlying t=some .bool→c = .eqb neg x' y'→qus P Γ w ((execOp a.eval ⟨dst,.binOp op t x y yt,type,pos,after,guard⟩).run P w) av σ':=by
   rintro neg hop hf rfl
   simp only[qdy]at he
   rw[zob]at he;obtain⟨u,hu,he⟩:=he
   rw[zob]at he;obtain⟨v,hvv,he⟩:=he
   split at he
   ·rename_i b1 b2
    cases he
    have e1:=qak hx hu hv
    have e2:=qak hy hvv hv
    simp only[VR]at e1 e2
    have h1:=ok_eqb (P:=P) (w:=w) (x:=b1) (y:=b2) (xo:=x) (yo:=y) (op:=op) (hop.imp wq wq) hf
    refine .here s (v:=.bool (if op = .neq then !(b1==b2)else b1==b2)) (by simp only[execOp,e1,e2];rw[Sem.run_bind,h1];rfl) ?_
    simp only[VR]
    rcases hop with ⟨rfl,rfl⟩|⟨rfl,rfl⟩<;>simp
   ·cases he
  have isn : ∀(fn neg:Bool),(op = .eql∧neg=false∨op = .neq∧neg=true)→((fn=true ∧ ∃x y z,P.underlying t=some (.func x y z))∨(fn=false ∧ ∃el,P.underlying t=some (.pointer el)))→c = .isn fn neg x' y'→qus P Γ w ((execOp a.eval ⟨dst,.binOp op t x y yt,type,pos,after,guard⟩).run P w) av σ':=by
   rintro fn neg hop hf rfl
   simp only[qdy]at he
   rw[zob]at he;obtain⟨u,hu,he⟩:=he
   rw[zob]at he;obtain⟨v,hvv,he⟩:=he
   split at he
   case h_2=>cases he
   rename_i r hr
   cases he
   have h1:=ok_isn (P:=P) (xo:=x) (yo:=y) (op:=op) (hop.imp wq wq) hf (qak hx hu hv) (qak hy hvv hv) hr
   refine .here s (v:=.bool (if op = .neq then !r else r)) (by simp only[execOp];rw[Sem.run_bind,h1];rfl) ?_
   simp only[VR]
   rcases hop with ⟨rfl,rfl⟩|⟨rfl,rfl⟩<;>simp[nilB]
  have bin:c = .bin op x' y'→qus P Γ w ((execOp a.eval ⟨dst,.binOp op t x y yt,type,pos,after,guard⟩).run P w) av σ':=by
   rintro rfl
   simp only[qdy]at he
   rw[zob]at he;obtain⟨u,hu,he⟩:=he
   rw[zob]at he;obtain⟨v,hvv,he⟩:=he
   rw[zob]at he;obtain⟨r,hr,he⟩:=he
   cases he
   obtain⟨z,h1,h2⟩:=ok_bin (P:=P) (t:=t) (xo:=x) (yo:=y) (qak hx hu hv) (qak hy hvv hv) hr
   exact .here s (v:=z) (by simp only[execOp];rw[Sem.run_bind,h1];rfl) h2
  split at hc
  ·rw[zob]at hc;obtain⟨ks,hks,hc⟩:=hc
   cases hc;exact agg _ _ (.inl ⟨rfl,rfl⟩) hks rfl
  ·rw[zob]at hc;obtain⟨ks,hks,hc⟩:=hc
   cases hc;exact agg _ _ (.inl ⟨rfl,rfl⟩) hks rfl
  ·rw[zob]at hc;obtain⟨ks,hks,hc⟩:=hc
   cases hc;exact agg _ _ (.inr ⟨rfl,rfl⟩) hks rfl
  ·rw[zob]at hc;obtain⟨ks,hks,hc⟩:=hc
   cases hc;exact agg _ _ (.inr ⟨rfl,rfl⟩) hks rfl
  ·cases hc;exact bool _ (.inl ⟨rfl,rfl⟩) ‹_› rfl
  ·cases hc;exact bool _ (.inr ⟨rfl,rfl⟩) ‹_› rfl
  ·cases hc;exact isn _ _ (.inl ⟨rfl,rfl⟩) (.inl ⟨rfl,_,_,_,‹_›⟩) rfl
  ·cases hc;exact isn _ _ (.inr ⟨rfl,rfl⟩) (.inl ⟨rfl,_,_,_,‹_›⟩) rfl
  ·cases hc;exact isn _ _ (.inl ⟨rfl,rfl⟩) (.inr ⟨rfl,_,‹_›⟩) rfl
  ·cases hc;exact isn _ _ (.inr ⟨rfl,rfl⟩) (.inr ⟨rfl,_,‹_›⟩) rfl
  ·cases hc;exact bin rfl
  ·cases hc;exact bin rfl
  ·cases hc
 |unOp op t x=>
  simp only[cOp]at hc
  rw[zob]at hc;obtain⟨x',hx,hc⟩:=hc
  cases hc
  simp only[qdy]at he
  rw[zob]at he;obtain⟨y,hy,he⟩:=he
  have hxv:=qak hx hy hv
  split at he
  ·cases he
   simp only[VR]at hxv
   exact .here s (by simp only[execOp,hxv,Op.unary];rfl) (by simp only[VR])
  ·cases he
   simp only[VR]at hxv
   exact .here s (by simp only[execOp,hxv,Op.unary,Op.intArith];rfl) (by simp only[VR])
  ·cases he
 |convert sT dT x=>
  simp only[cOp]at hc
  rw[zob]at hc;obtain⟨x',hx,hc⟩:=hc
  split at hc
  ·rename_i k1 k2 hs hd
   cases hc
   simp only[qdy]at he
   rw[zob]at he;obtain⟨y,hy,he⟩:=he
   have hxv:=qak hx hy hv
   split at he
   ·cases he
    simp only[VR]at hxv
    refine .here s (v:=.int k2 (k2.wrap _)) (by simp[execOp,hxv,convert,run_underlying hs,run_underlying hd,Conv.intToInt];rfl) (by simp only[VR])
   ·cases he
  ·cases hc
 |makeFunc f first cap=>
  simp only[cOp]at hc
  rw[zob]at hc;obtain⟨x',hx,hc⟩:=hc
  rw[zob]at hc;obtain⟨y',hy,hc⟩:=hc
  cases hc
  simp only[qdy]at he
  rw[zob]at he;obtain⟨u,hu,he⟩:=he
  rw[zob]at he;obtain⟨v,hvv,he⟩:=he
  cases he
  refine .here s (v:=.func f (first.map a.eval) (cap.map a.eval)) (by simp[execOp,Instr.makeFunc]) ?_
  simp only[VR]
  refine⟨first.toList.map a.eval,cap.toList.map a.eval,?_,qny hx hu hv,qny hy hvv hv⟩
  congr 1<;>(apply Array.ext';simp)
 |makeSlice t l c'=>
  simp only[cOp]at hc
  rw[zob]at hc;obtain⟨el,hel,hc⟩:=hc
  rw[zob]at hc;obtain⟨z,hz,hc⟩:=hc
  rw[zob]at hc;obtain⟨by',hby,hc⟩:=hc
  rw[zob]at hc;obtain⟨x',hx,hc⟩:=hc
  rw[zob]at hc;obtain⟨y',hy,hc⟩:=hc
  split at hc
  ·cases hc
   simp only[qdy]at he
   rw[zob]at he;obtain⟨u,hu,he⟩:=he
   rw[zob]at he;obtain⟨v,hvv,he⟩:=he
   split at he
   ·split at he
    ·rename_i hcc
     obtain⟨rfl,k0,k1,k2,k3,_⟩:=hcc
     cases he
     have e1:=qak hx hu hv
     have e2:=qak hy hvv hv
     simp only[VR]at e1 e2
     have:=ok_mkslF (P:=P) (Γ:=Γ) s (qj5 hel) (qahe hz) hby k0 k1 k2 k3
     simpa only[execOp,Sem.run_bind,Sem.run_pure,e1,e2]using this
    ·cases he
   ·cases he
  split at hc
  ·cases hc
   simp only[qdy]at he
   rw[zob]at he;obtain⟨u,hu,he⟩:=he
   rw[zob]at he;obtain⟨v,hvv,he⟩:=he
   split at he
   ·split at he
    ·rename_i hh
     split at he
     ·rename_i hcc
      cases he
      have e1:=qak hx hu hv
      have e2:=qak hy hvv hv
      simp only[VR]at e1 e2
      have:=ok_mkslH (P:=P) s (qj5 hel) (qahe hz) hby hcc.1 hcc.2.1 hcc.2.2.1 hcc.2.2.2.1 hcc.2.2.2.2.1 hh
      simpa only[execOp,Sem.run_bind,Sem.run_pure,e1,e2]using this
     ·cases he
    ·cases he
   ·cases he
  split at hc
  ·cases hc
   simp only[qdy]at he
   rw[zob]at he;obtain⟨u,hu,he⟩:=he
   rw[zob]at he;obtain⟨v,hvv,he⟩:=he
   split at he
   ·split at he
    ·rename_i hcc
     obtain⟨rfl,q1,q2,q3,q4⟩:=hcc
     cases he
     have e1:=qak hx hu hv
     have e2:=qak hy hvv hv
     simp only[VR]at e1 e2
     have:=ok_mkslO (P:=P) s (qj5 hel) (qahe hz) hby q1 q2 q3 q4
     simpa only[execOp,Sem.run_bind,Sem.run_pure,e1,e2]using this
    ·cases he
   ·cases he
  cases hc
  simp only[qdy]at he
  rw[zob]at he;obtain⟨u,hu,he⟩:=he
  rw[zob]at he;obtain⟨v,hvv,he⟩:=he
  split at he
  ·split at he
   ·rename_i hcc
    cases he
    have e1:=qak hx hu hv
    have e2:=qak hy hvv hv
    simp only[VR]at e1 e2
    have:=ok_mksl (P:=P) s (qj5 hel) (qahe hz) hby hcc.1 hcc.2.1 hcc.2.2.1 hcc.2.2.2.1 hcc.2.2.2.2.1
    simpa only[execOp,Sem.run_bind,Sem.run_pure,e1,e2]using this
   ·cases he
  ·cases he
 |slice t x lo hi mx=>
  simp only[cOp]at hc
  rw[zob]at hc;obtain⟨x',hx,hc⟩:=hc
  rw[zob]at hc;obtain⟨lo',hlo,hc⟩:=hc
  rw[zob]at hc;obtain⟨hi',hhi,hc⟩:=hc
  rw[zob]at hc;obtain⟨mx',hmx,hc⟩:=hc
  have isS : ∀ {x:Option Operand} {y:Option Opnd},cOpt x=some y→(y.isSome=x.isSome):=fun {x y} h=>by
   cases x with
   |none=>simp only[cOpt]at h;cases h;rfl
   |some x=>simp only[cOpt]at h;obtain⟨z,_,h⟩:=zob.1 h;cases h;rfl
  have arg : ∀ {d n:Int} {x:Option Operand} {x':Option Opnd},cOpt x=some x'→qpi e d x'=some n→(x.map a.eval=none∧n=d) ∨ ∃k,x.map a.eval=some (.int k n):=fun h1 h2=>by
   rcases qanr h1 h2 hv with ⟨rfl,h⟩|h
   ·exact .inl ⟨rfl,h⟩
   ·exact .inr h
  split at hc
  ·rename_i el hu
   rw[zob]at hc;obtain⟨sz,hsz,hc⟩:=hc
   cases hc
   simp only[qdy]at he
   rw[zob]at he;obtain⟨y,hy,he⟩:=he
   have hxv:=qak hx hy hv
   split at he
   ·rename_i es clip
    rw[zob]at he;obtain⟨l,hl,he⟩:=he
    rw[zob]at he;obtain⟨h',hh,he⟩:=he
    rw[zob]at he;obtain⟨m,hm,he⟩:=he
    split at he
    ·rename_i hcc
     obtain⟨c1,c2,c3,c4,c5,c6,c7⟩:=hcc
     cases he
     have hmm:(mx.map a.eval=none∧m=h')∨((∃k,mx.map a.eval=some (.int k m))∧hi.map a.eval≠none):=by
      rcases arg hmx hm with h1|h1
      ·exact .inl h1
      ·refine .inr ⟨h1,fun hn => ?_⟩
       obtain⟨k,h1⟩:=h1
       have h2:mx.isSome=true:=by cases mx<;>simp_all
       rw[←isS hmx]at h2
       have h3:=c7 h2
       rw[isS hhi]at h3
       cases hi<;>simp_all
     obtain⟨v,g1,g2⟩:=qakq (P:=P) (if mx'.isSome=true then decide (m=h')else clip&&decide (h'=es.length)) hxv hu hsz (by
       cases es with
       |nil=>exact .inl rfl
       |cons x es=>exact .inr ⟨x,by simp,qg8 c6 x (by simp)⟩) (arg hlo hl) (arg hhi hh) hmm c1 c2 c4 c5 c3 (fun hcl=>by
       split at hcl
       ·rename_i h3
        rw[isS hmx]at h3
        exact .inr ⟨by cases mx<;>simp_all,of_decide_eq_true hcl⟩
       ·rename_i h3
        rw[isS hmx]at h3
        simp only[Bool.and_eq_true,decide_eq_true_eq]at hcl
        exact .inl ⟨by cases mx<;>simp_all,hcl⟩)
     exact .here s (v:=v) (by simp only[execOp,Sem.run_bind,g1];rfl) g2
    ·cases he
   ·rename_i o g off len clip
    split at he
    ·rename_i rs es g' ho
     rw[zob]at he;obtain⟨l,hl,he⟩:=he
     rw[zob]at he;obtain⟨h',hh,he⟩:=he
     rw[zob]at he;obtain⟨m,hm,he⟩:=he
     split at he
     ·rename_i hcc
      obtain⟨c1,c2,c3,c4,c5,rfl,rfl,c7⟩:=hcc
      cases he
      have hO:=s.obj o _ ho
      simp only[OR]at hO
      have hmm:(mx.map a.eval=none∧m=h')∨((∃k,mx.map a.eval=some (.int k m))∧hi.map a.eval≠none):=by
       rcases arg hmx hm with h1|h1
       ·exact .inl h1
       ·refine .inr ⟨h1,fun hn => ?_⟩
        obtain⟨k,h1⟩:=h1
        have h2:mx.isSome=true:=by cases mx<;>simp_all
        rw[←isS hmx]at h2
        have h3:=c7 h2
        rw[isS hhi]at h3
        cases hi<;>simp_all
      obtain⟨v,g1,g2⟩:=qalq (P:=P) (if mx'.isSome=true then decide (m=h')else clip&&decide (h'=len)) hxv hu hsz (fun _=>hO.2.1) (arg hlo hl) (arg hhi hh) hmm c1 c2 c4 c5 c3 (fun hcl=>by
        split at hcl
        ·rename_i h3
         rw[isS hmx]at h3
         exact .inr ⟨by cases mx<;>simp_all,of_decide_eq_true hcl⟩
        ·rename_i h3
         rw[isS hmx]at h3
         simp only[Bool.and_eq_true,decide_eq_true_eq]at hcl
         exact .inl ⟨by cases mx<;>simp_all,hcl⟩)
      exact .here s (v:=v) (by simp only[execOp,Sem.run_bind,g1];rfl) g2
     ·cases he
    ·cases he
   ·cases he
  ·rename_i hu
   split at hc
   ·rename_i hmn
    cases hc
    have hmx0:mx=none:=by
     have:=isS hmx
     cases mx<;>cases mx'<;>simp_all
    subst hmx0
    simp only[qdy]at he
    rw[zob]at he;obtain⟨y,hy,he⟩:=he
    have hxv:=qak hx hy hv
    split at he
    ·rename_i str
     rw[zob]at he;obtain⟨l,hl,he⟩:=he
     rw[zob]at he;obtain⟨h',hh,he⟩:=he
     split at he
     ·rename_i hcc
      obtain⟨c1,c2,c3⟩:=hcc
      cases he
      simp only[VR]at hxv
      have e1:(h'.toNat:Int)=h':=Int.toNat_of_nonneg (by omega)
      have g1:0≤h':=by omega
      have hb:(Instr.sliceBounds false str.size str.size (lo.map a.eval) (hi.map a.eval) none).run P w = .ok (l.toNat,h'.toNat,str.size) w:=by
       rcases arg hlo hl with ⟨q1,rfl⟩|⟨k1,q1⟩<;>rcases arg hhi hh with ⟨q2,rfl⟩|⟨k2,q2⟩<;>rw[q1,q2]<;>simp[Instr.sliceBounds,run_sliceBound, *]
      have hr:(Instr.sliceAt t (.string str) (lo.map a.eval) (hi.map a.eval) none).run P w = .ok (.string (str.extract l.toNat h'.toNat)) w:=by
       simp[Instr.sliceAt,Instr.slice,run_underlying hu,hb]
      exact .here s (v:=.string (str.extract l.toNat h'.toNat)) (by simp only[execOp,Sem.run_bind,hxv];rw[show (none:Option Operand).map a.eval=none from rfl,hr];rfl) (by simp only[VR])
     ·cases he
    ·cases he
   ·cases hc
  ·cases hc
 |fieldAddr t x f=>
  simp only[cOp]at hc
  split at hc
  ·rename_i fs hu
   rw[zob]at hc;obtain⟨fd,hfd,hc⟩:=hc
   rw[zob]at hc;obtain⟨sz,hsz,hc⟩:=hc
   split at hc
   ·cases hc
   ·rename_i h0
    rw[zob]at hc;obtain⟨x',hx,hc⟩:=hc
    cases hc
    simp only[qdy]at he
    rw[zob]at he;obtain⟨y,hy,he⟩:=he
    have hxv:=qak hx hy hv
    split at he
    ·cases he
     obtain⟨v,h1,h2⟩:=qah4 (P:=P) hxv hu hfd hsz h0 (.inl ⟨_,rfl,rfl⟩)
     exact .here s (v:=v) (by simp only[execOp,Sem.run_bind,h1];rfl) h2
    ·cases he
     obtain⟨v,h1,h2⟩:=qah4 (P:=P) hxv hu hfd hsz h0 (.inr ⟨_,_,_,_,rfl,rfl⟩)
     exact .here s (v:=v) (by simp only[execOp,Sem.run_bind,h1];rfl) h2
    ·cases he
  ·cases hc
 |field t x f=>
  simp only[cOp]at hc
  split at hc
  ·rename_i fs hu
   rw[zob]at hc;obtain⟨fd,hfd,hc⟩:=hc
   rw[zob]at hc;obtain⟨sz,hsz,hc⟩:=hc
   split at hc
   ·cases hc
   ·split at hc
    ·rename_i h0 hcc
     rw[zob]at hc;obtain⟨x',hx,hc⟩:=hc
     cases hc
     simp only[qdy]at he
     rw[zob]at he;obtain⟨y,hy,he⟩:=he
     have hxv:=qak hx hy hv
     split at he
     ·rw[zob]at he;obtain⟨r,hr,he⟩:=he
      cases he
      simp only[VR]at hxv
      obtain⟨vs,h3,h4⟩:=hxv
      obtain⟨v,h1,h2⟩:=qano (P:=P) h4 hsz hcc.1 hcc.2 hr
      exact .here s (v:=v) (by simp[execOp,Instr.field,run_underlying hu,hfd,asAgg,h3,h1]) h2
     ·cases he
    ·cases hc
  ·cases hc
 |indexAddr t x i=>
  simp only[cOp]at hc
  rw[zob]at hc;obtain⟨x',hx,hc⟩:=hc
  rw[zob]at hc;obtain⟨i',hi,hc⟩:=hc
  split at hc
  ·rename_i el hu
   rw[zob]at hc;obtain⟨sz,hsz,hc⟩:=hc
   split at hc
   ·cases hc
   ·split at hc
    ·cases hc
     simp only[qdy]at he
     rw[zob]at he;obtain⟨y,hy,he⟩:=he
     rw[zob]at he;obtain⟨n,hn,he⟩:=he
     have hxv:=qak hx hy hv
     have hnv:=qak hi hn hv
     split at he
     ·rename_i k n
      simp only[VR]at hnv
      split at he
      ·rename_i h0
       split at he
       ·rw[zob]at he;obtain⟨c,hci,he⟩:=he
        split at he
        ·cases he
         obtain⟨v,h1,h2⟩:=q5i (P:=P) (k:=k) hxv hu hsz h0 hci ‹_›
         exact .here s (v:=v) (by simp only[execOp,Sem.run_bind,hnv,h1];rfl) h2
        ·cases he
       ·cases he
      ·cases he
     ·cases he
    ·cases hc
     simp only[qdy]at he
     rw[zob]at he;obtain⟨y,hy,he⟩:=he
     rw[zob]at he;obtain⟨n,hn,he⟩:=he
     have hxv:=qak hx hy hv
     have hnv:=qak hi hn hv
     split at he
     ·rename_i k n
      simp only[VR]at hnv
      split at he
      ·rename_i h0
       split at he
       ·rw[zob]at he;obtain⟨c,hci,he⟩:=he
        split at he
        ·cases he
         obtain⟨v,h1,h2⟩:=q5i (P:=P) (k:=k) hxv hu hsz h0 hci ‹_›
         exact .here s (v:=v) (by simp only[execOp,Sem.run_bind,hnv,h1];rfl) h2
        ·cases he
       ·split at he
        ·rename_i rs es g' ho
         split at he
         ·rename_i hcc
          obtain⟨rfl,rfl,h3⟩:=hcc
          cases he
          obtain⟨v,h1,h2⟩:=qahd (P:=P) (k:=k) s hxv hu hsz h0 ho h3
          exact .here s (v:=v) (by simp only[execOp,Sem.run_bind,hnv,h1];rfl) h2
         ·cases he
        ·cases he
       ·cases he
      ·cases he
     ·cases he
  ·rename_i m el hu
   rw[zob]at hc;obtain⟨sz,hsz,hc⟩:=hc
   split at hc
   ·cases hc
   ·cases hc
    simp only[qdy]at he
    rw[zob]at he;obtain⟨y,hy,he⟩:=he
    rw[zob]at he;obtain⟨n,hn,he⟩:=he
    have hxv:=qak hx hy hv
    have hnv:=qak hi hn hv
    split at he
    ·rename_i k n
     simp only[VR]at hnv
     split at he
     ·rename_i h0
      split at he
      ·cases he
       obtain⟨v,h1,h2⟩:=qaes (P:=P) (k:=k) hxv hu hsz h0.1 h0.2 (.inl ⟨_,rfl,rfl⟩)
       exact .here s (v:=v) (by simp only[execOp,Sem.run_bind,hnv,h1];rfl) h2
      ·cases he
       obtain⟨v,h1,h2⟩:=qaes (P:=P) (k:=k) hxv hu hsz h0.1 h0.2 (.inr ⟨_,_,_,_,rfl,rfl⟩)
       exact .here s (v:=v) (by simp only[execOp,Sem.run_bind,hnv,h1];rfl) h2
      ·cases he
     ·cases he
    ·cases he
  ·cases hc
 |index t x i=>
  simp only[cOp]at hc
  rw[zob]at hc;obtain⟨x',hx,hc⟩:=hc
  rw[zob]at hc;obtain⟨i',hi,hc⟩:=hc
  split at hc
  ·rename_i hu
   cases hc
   simp only[qdy]at he
   rw[zob]at he;obtain⟨y,hy,he⟩:=he
   rw[zob]at he;obtain⟨n,hn,he⟩:=he
   have hxv:=qak hx hy hv
   have hnv:=qak hi hn hv
   split at he
   ·rename_i str k n
    split at he
    ·rename_i h0
     rw[zob]at he;obtain⟨b,hb,he⟩:=he
     cases he
     simp only[VR]at hxv hnv
     have hb':str[n.toNat]? = some b:=by
      have:=hb
      rw[Array.getElem?_toList]at this
      obtain⟨h5,h6⟩:=Array.getElem?_eq_some_iff.1 this
      show getElem? str n.toNat = _
      rw[getElem?_pos str n.toNat h5]
      exact congrArg some h6
     refine .here s (v:=.int .u8 b.toNat) (by simp[execOp,Instr.index,asIntOf,hxv,hnv,run_underlying hu,h0,hb']) (by simp only[VR])
    ·cases he
   ·cases he
  ·rename_i m el hu
   rw[zob]at hc;obtain⟨sz,hsz,hc⟩:=hc
   split at hc
   ·cases hc
   ·split at hc
    ·rename_i h0 hcc
     cases hc
     simp only[qdy]at he
     rw[zob]at he;obtain⟨y,hy,he⟩:=he
     rw[zob]at he;obtain⟨n,hn,he⟩:=he
     have hxv:=qak hx hy hv
     have hnv:=qak hi hn hv
     split at he
     ·rename_i cs k n
      split at he
      ·rename_i hbb
       rw[zob]at he;obtain⟨r,hr,he⟩:=he
       cases he
       simp only[VR]at hxv hnv
       obtain⟨vs,h3,h4⟩:=hxv
       obtain⟨v,h1,h2⟩:=qano (P:=P) h4 hsz hcc.1 hcc.2 hr
       obtain⟨inf,hinf,rfl⟩:=qoq hsz
       have hb:0≤n∧n<m:=⟨hbb.1,by omega⟩
       exact .here s (v:=v) (by simp[execOp,Instr.index,asIntOf,hnv,h3,run_underlying hu,hb,qj2 hinf,h1]) h2
      ·cases he
     ·cases he
    ·cases hc
  ·cases hc
 |extract x k=>
  simp only[cOp]at hc
  rw[zob]at hc;obtain⟨x',hx,hc⟩:=hc
  cases hc
  simp only[qdy]at he
  rw[zob]at he;obtain⟨y,hy,he⟩:=he
  have hxv:=qak hx hy hv
  split at he
  ·rw[zob]at he;obtain⟨r,hr,he⟩:=he
   cases he
   simp only[VR]at hxv
   obtain⟨vs,h3,h4⟩:=hxv
   obtain⟨v,h1,h2⟩:=h4.get hr
   exact .here s (v:=v) (by simp[execOp,Instr.extract,h3,h1]) h2
  ·cases he
 |call c'=>
  obtain⟨callee,args,argTypes⟩:=c'
  simp only[cOp]at hc
  have two : ∀ {x y:Operand},args.toList=[x,y]→args.map a.eval = #[a.eval x,a.eval y]:=fun {x y} h=>by
   apply Array.ext';rw[Array.toList_map,h];rfl
  split at hc
  ·rename_i x hargs
   have one:args.map a.eval = #[a.eval x]:=by apply Array.ext';rw[Array.toList_map,hargs];rfl
   split at hc
   ·rename_i el hd
    rw[zob]at hd;obtain⟨t,ht,hu⟩:=hd
    rw[zob]at hc;obtain⟨x',hx,hc⟩:=hc
    cases hc
    simp only[qdy]at he
    rw[zob]at he;obtain⟨y,hy,he⟩:=he
    have hxv:=qak hx hy hv
    split at he
    ·cases he
     simp only[VR]at hxv
     obtain⟨A,cp,h1,_⟩:=hxv
     exact .here s (v:=goInt _) (by simp[execOp,resolve,one,invoke,builtin,Builtin.len_,ht,run_underlying hu,h1];rfl) (by simp only[VR];rfl)
    ·cases he
     simp only[VR]at hxv
     obtain⟨A,cp,h1,_⟩:=hxv
     exact .here s (v:=goInt _) (by simp[execOp,resolve,one,invoke,builtin,Builtin.len_,ht,run_underlying hu,h1];rfl) (by simp only[VR];rfl)
    ·cases he
   ·rename_i hd
    rw[zob]at hd;obtain⟨t,ht,hu⟩:=hd
    rw[zob]at hc;obtain⟨x',hx,hc⟩:=hc
    cases hc
    simp only[qdy]at he
    rw[zob]at he;obtain⟨y,hy,he⟩:=he
    have hxv:=qak hx hy hv
    split at he
    ·cases he
     simp only[VR]at hxv
     exact .here s (v:=goInt _) (by simp[execOp,resolve,one,invoke,builtin,Builtin.len_,ht,run_underlying hu,hxv];rfl) (by simp only[VR];rfl)
    ·cases he
   ·cases hc
  ·rename_i x hargs
   have one:args.map a.eval = #[a.eval x]:=by apply Array.ext';rw[Array.toList_map,hargs];rfl
   split at hc
   ·rename_i el hd
    rw[zob]at hd;obtain⟨t,ht,hu⟩:=hd
    rw[zob]at hc;obtain⟨x',hx,hc⟩:=hc
    cases hc
    simp only[qdy]at he
    rw[zob]at he;obtain⟨y,hy,he⟩:=he
    have hxv:=qak hx hy hv
    split at he
    ·cases he
     simp only[VR]at hxv
     obtain⟨A,cp,h1,_,h2,_⟩:=hxv
     have h2:=h2 trivial
     subst h2
     exact .here s (v:=goInt _) (by simp[execOp,resolve,one,invoke,builtin,Builtin.cap_,ht,run_underlying hu,h1];rfl) (by simp only[VR];rfl)
    ·cases he
     simp only[VR]at hxv
     obtain⟨A,cp,h1,_,h2,_⟩:=hxv
     have h2:=h2 trivial
     subst h2
     exact .here s (v:=goInt _) (by simp[execOp,resolve,one,invoke,builtin,Builtin.cap_,ht,run_underlying hu,h1];rfl) (by simp only[VR];rfl)
    ·cases he
   ·cases hc
  ·rename_i x hargs
   have one:args.map a.eval = #[a.eval x]:=by apply Array.ext';rw[Array.toList_map,hargs];rfl
   split at hc
   ·rename_i el hd
    rw[zob]at hd;obtain⟨t,ht,hu⟩:=hd
    rw[zob]at hc;obtain⟨z,hz,hc⟩:=hc
    rw[zob]at hc;obtain⟨sz,hsz,hc⟩:=hc
    rw[zob]at hc;obtain⟨x',hx,hc⟩:=hc
    split at hc
    ·cases hc
    rename_i h0
    cases hc
    simp only[qdy]at he
    rw[zob]at he;obtain⟨y,hy,he⟩:=he
    have hxv:=qak hx hy hv
    have hrun:(execOp a.eval ⟨dst,.call ⟨.builtin .clear,args,argTypes⟩,type,pos,after,guard⟩).run P w=((Builtin.clear_ #[t] type #[a.eval x]).run P w).andThen fun v w => .ok (.value v) w:=by
     have:Builtin.clear_ argTypes type #[a.eval x]=Builtin.clear_ #[t] type #[a.eval x]:=by
      unfold Builtin.clear_
      simp[ht]
     simp[execOp,resolve,one,invoke,builtin,this]
    rw[hrun]
    split at he
    ·cases he
     simp only[VR]at hxv
     obtain⟨A,cp,h1,_⟩:=hxv
     refine .here s (v:=.tuple #[]) ?_ (by simp only[VR])
     rw[h1]
     cases A<;>simp[Builtin.clear_,run_underlying hu]
    ·split at he
     ·rename_i ho
      split at he
      ·rename_i hcc
       obtain⟨rfl,rfl,q1,q2⟩:=hcc
       cases he
       exact ok_clr (P:=P) s hxv hu hz hsz h0 ho q1 q2
      ·cases he
     ·cases he
    ·cases he
   ·cases hc
  ·rename_i x y hargs
   have hmap:=two hargs
   have fin : ∀(t tx:TypeId),argTypes[0]? = some t→argTypes[1]? = some tx→((∃e',P.underlying tx=some (.slice e'))∨P.underlying tx=some .string) →
     ((qz7 P t).bind fun e=>(szT P e).bind fun sz=>(byT P e).bind fun b=>(qe0 x).bind fun s=>(qe0 y).bind fun x=>
      if sz=0∨b=0∨(zT P e).isNone=true then none else if qst h.appN dst=true then some (COp.appN sz b s x)else if qst h.appF dst=true then some (.appF sz b s x)else if qst h.appZ dst=true then some (.appZ sz b s x)else match qxn h.appB dst with | []=>some (.app sz b s x)|av=>some (.appB sz b s x av))=some c →
     qus P Γ w ((execOp a.eval ⟨dst,.call ⟨.builtin .append,args,argTypes⟩,type,pos,after,guard⟩).run P w) av σ':=by
    intro t tx ht htx hk hc
    rw[zob]at hc;obtain⟨el,hel,hc⟩:=hc
    rw[zob]at hc;obtain⟨sz,hsz,hc⟩:=hc
    rw[zob]at hc;obtain⟨by',hby,hc⟩:=hc
    rw[zob]at hc;obtain⟨x',hx,hc⟩:=hc
    rw[zob]at hc;obtain⟨y',hy,hc⟩:=hc
    split at hc
    ·cases hc
    ·rename_i hcc
     obtain⟨c1,c2⟩:=not_or.1 hcc
     obtain⟨c2,c3⟩:=not_or.1 c2
     have hat:argTypes.toList=t::tx::argTypes.toList.drop 2:=by
      have h1:argTypes.toList[0]? = some t:=by simpa using ht
      have h2:argTypes.toList[1]? = some tx:=by simpa using htx
      match hl:argTypes.toList with
      | []=>rw[hl]at h1;simp at h1
      | [q]=>rw[hl]at h2;simp at h2
      |q::q'::r=>rw[hl]at h1 h2;simp at h1 h2;simp[h1,h2]
     have hzo:ZOk P el:=by
      cases hz:zT P el with
      |none=>simp[hz]at c3
      |some z=>obtain⟨i,zv,q1,q2,q3,_⟩:=qae1 hz;exact⟨i,zv,q1,q2,q3⟩
     have hrun:(execOp a.eval ⟨dst,.call ⟨.builtin .append,args,argTypes⟩,type,pos,after,guard⟩).run P w =
       ((Builtin.append_ #[t,tx] type #[a.eval x,a.eval y]).run P w).andThen fun v w => .ok (.value v) w:=by
      have:Builtin.append_ argTypes type #[a.eval x,a.eval y]=Builtin.append_ #[t,tx] type #[a.eval x,a.eval y]:=by
       unfold Builtin.append_
       simp[ht,htx]
      simp[execOp,resolve,hmap,invoke,builtin,this]
     rw[hrun]
     split at hc
     ·cases hc
      simp only[qdy]at he
      rw[zob]at he;obtain⟨u,hu,he⟩:=he
      rw[zob]at he;obtain⟨v,hvv,he⟩:=he
      rw[zob]at he;obtain⟨xs,hxs,he⟩:=he
      split at he
      ·rename_i es
       split at he
       ·rename_i hc2
        have:=qaga (P:=P) (ty:=type) s (qak hx hu hv) (qak hy hvv hv) (qj5 hel) hk hzo hsz hby hc2.1 (by omega) hxs hc2.2.1 hc2.2.2
        split at he
        ·rename_i hx0
         cases he;rw[if_pos hx0.1,if_pos hx0.1]at this;exact this
        ·rename_i hx0
         cases he
         by_cases hx1:xs=[]
         ·have he0:es=[]:=Classical.byContradiction fun h=>hx0 ⟨hx1,h⟩
          subst hx1;subst he0
          rw[if_pos rfl,if_pos rfl]at this
          simpa using this.own_empty hc2.1
         ·rw[if_neg hx1,if_neg hx1]at this;exact this
       ·cases he
      ·cases he
     ·split at hc
      ·cases hc
       simp only[qdy]at he
       rw[zob]at he;obtain⟨u,hu,he⟩:=he
       rw[zob]at he;obtain⟨v,hvv,he⟩:=he
       rw[zob]at he;obtain⟨xs,hxs,he⟩:=he
       split at he
       ·rename_i es
        split at he
        ·rename_i hc2
         have:=qaga (P:=P) (ty:=type) s (qak hx hu hv) (qak hy hvv hv) (qj5 hel) hk hzo hsz hby hc2.1 (by omega) hxs hc2.2.1 hc2.2.2
         split at he
         ·cases he;rw[if_pos ‹_›,if_pos ‹_›]at this;exact this
         ·cases he;rw[if_neg ‹_›,if_neg ‹_›]at this;exact this.freeze (by simp)
        ·cases he
       ·cases he
      have appOk : ∀(u v:AV) (xs:List (List AV)) (r:AV) (σ1:qf),x'.ev e=some u→y'.ev e=some v→qdr σ v=some xs→q6o sz by' u xs σ=some (r,σ1) →
        qus P Γ w (((Builtin.append_ #[t,tx] type #[a.eval x,a.eval y]).run P w).andThen fun v w => .ok (.value v) w) r σ1:=by
       intro u v xs r σ1 hu hvv hxs he
       unfold q6o at he
       split at he
       ·split at he
        ·rename_i hok
         split at he
         ·rename_i rs es g' ho
          split at he
          ·rename_i hc2
           obtain⟨rfl,rfl,rfl,hle,hfit⟩:=hc2
           have:=ok_app (P:=P) (ty:=type) s (qak hx hu hv) (qak hy hvv hv) (qj5 hel) hk hzo hsz hby (by omega) (by omega) hxs hok ho hle hfit
           split at he
           ·cases he;rw[if_pos ‹_›,if_pos ‹_›]at this;exact this
           ·cases he;rw[if_neg ‹_›,if_neg ‹_›]at this;exact this
          ·cases he
         ·cases he
        ·cases he
       ·rename_i es
        split at he
        ·rename_i hc2
         have:=qaga (P:=P) (ty:=type) s (qak hx hu hv) (qak hy hvv hv) (qj5 hel) hk hzo hsz hby hc2.1 (by omega) hxs hc2.2.1 hc2.2.2
         split at he
         ·rename_i hx0
          cases he;rw[if_pos hx0.1,if_pos hx0.1]at this;exact this
         ·rename_i hx0
          cases he
          by_cases hx1:xs=[]
          ·have he0:es=[]:=Classical.byContradiction fun h=>hx0 ⟨hx1,h⟩
           subst hx1;subst he0
           rw[if_pos rfl,if_pos rfl]at this
           simpa using this.own_empty hc2.1
          ·rw[if_neg hx1,if_neg hx1]at this;exact this
        ·cases he
       ·cases he
      split at hc
      ·cases hc
       simp only[qdy]at he
       rw[zob]at he;obtain⟨u,hu,he⟩:=he
       rw[zob]at he;obtain⟨v,hvv,he⟩:=he
       rw[zob]at he;obtain⟨xs,hxs,he⟩:=he
       rw[zob]at he;obtain⟨⟨r,σ1⟩,ha,he⟩:=he
       exact(appOk u v xs r σ1 hu hvv hxs ha).give he
      ·split at hc
       ·cases hc
        simp only[qdy]at he
        rw[zob]at he;obtain⟨u,hu,he⟩:=he
        rw[zob]at he;obtain⟨v,hvv,he⟩:=he
        rw[zob]at he;obtain⟨xs,hxs,he⟩:=he
        exact appOk u v xs _ _ hu hvv hxs he
       ·cases hc
        simp only[qdy]at he
        rw[zob]at he;obtain⟨u,hu,he⟩:=he
        split at he
        ·rw[zob]at he;obtain⟨v,hvv,he⟩:=he
         rw[zob]at he;obtain⟨xs,hxs,he⟩:=he
         exact appOk u v xs _ _ hu hvv hxs he
        ·cases he
   split at hc
   ·rename_i t el ht htx
    rw[zob]at htx;obtain⟨tx,h1,h2⟩:=htx
    exact fin t tx ht h1 (.inl ⟨_,h2⟩) hc
   ·rename_i t ht htx
    rw[zob]at htx;obtain⟨tx,h1,h2⟩:=htx
    exact fin t tx ht h1 (.inr h2) hc
   ·rename_i t kn ht htx
    rw[zob]at htx;obtain⟨tn,htn,hkn⟩:=htx
    rw[zob]at hc;obtain⟨el,hel,hc⟩:=hc
    rw[zob]at hc;obtain⟨sz,hsz,hc⟩:=hc
    rw[zob]at hc;obtain⟨by',hby,hc⟩:=hc
    rw[zob]at hc;obtain⟨z,hz,hc⟩:=hc
    rw[zob]at hc;obtain⟨x',hx,hc⟩:=hc
    rw[zob]at hc;obtain⟨y',hy,hc⟩:=hc
    split at hc
    ·cases hc
    rename_i hb0
    cases hc
    have hrun:(execOp a.eval ⟨dst,.call ⟨.builtin .append,args,argTypes⟩,type,pos,after,guard⟩).run P w =
      ((Builtin.append_ #[t,tn] type #[a.eval x,a.eval y]).run P w).andThen fun v w => .ok (.value v) w:=by
     have:Builtin.append_ argTypes type #[a.eval x,a.eval y]=Builtin.append_ #[t,tn] type #[a.eval x,a.eval y]:=by
      unfold Builtin.append_
      simp[ht,htn]
     simp[execOp,resolve,hmap,invoke,builtin,this]
    rw[hrun]
    simp only[qdy]at he
    rw[zob]at he;obtain⟨u,hu,he⟩:=he
    rw[zob]at he;obtain⟨v,hvv,he⟩:=he
    split at he
    ·split at he
     ·rename_i hcc
      cases he
      have e2:=qak hy hvv hv
      simp only[VR]at e2
      rw[e2]
      exact ok_appM (P:=P) (ty:=type) s (qak hx hu hv) (qj5 hel) hkn hz hsz hby (by omega) hcc.1 hcc.2.1 hcc.2.2.1 hcc.2.2.2
     ·cases he
    ·cases he
   ·cases hc
  ·rename_i x y hargs
   have hmap:=two hargs
   split at hc
   ·rename_i t e1 ht htx
    rw[zob]at htx;obtain⟨tx,ht1,htx⟩:=htx
    rw[zob]at hc;obtain⟨el,hel,hc⟩:=hc
    rw[zob]at hc;obtain⟨sz,hsz,hc⟩:=hc
    rw[zob]at hc;obtain⟨x',hx,hc⟩:=hc
    rw[zob]at hc;obtain⟨y',hy,hc⟩:=hc
    split at hc
    ·cases hc
    rename_i h0
    cases hc
    have hrun:(execOp a.eval ⟨dst,.call ⟨.builtin .copy,args,argTypes⟩,type,pos,after,guard⟩).run P w =
      ((Builtin.copy_ #[t,tx] type #[a.eval x,a.eval y]).run P w).andThen fun v w => .ok (.value v) w:=by
     have:Builtin.copy_ argTypes type #[a.eval x,a.eval y]=Builtin.copy_ #[t,tx] type #[a.eval x,a.eval y]:=by
      unfold Builtin.copy_
      simp[ht]
     simp[execOp,resolve,hmap,invoke,builtin,this]
    rw[hrun]
    simp only[qdy]at he
    rw[zob]at he;obtain⟨u,hu,he⟩:=he
    rw[zob]at he;obtain⟨v,hvv,he⟩:=he
    split at he
    ·cases he
    rename_i hnv
    rw[zob]at he;obtain⟨xs,hxs,he⟩:=he
    split at he
    ·split at he
     ·rename_i ho
      split at he
      ·rename_i hcc
       obtain⟨rfl,rfl,q1,q2⟩:=hcc
       cases he
       exact ok_copy (P:=P) (ty:=type) s (qak hx hu hv) (qak hy hvv hv) (qj5 hel) ⟨_,htx⟩ hsz (by omega) (fun str k=>hnv (by rw[k];rfl)) hxs q2 ho q1
      ·cases he
     ·cases he
    ·cases he
   ·cases hc
  ·rename_i x y hargs
   have hmap:=two hargs
   rw[zob]at hc;obtain⟨x',hx,hc⟩:=hc
   rw[zob]at hc;obtain⟨y',hy,hc⟩:=hc
   cases hc
   simp only[qdy]at he
   rw[zob]at he;obtain⟨u,hu,he⟩:=he
   rw[zob]at he;obtain⟨v,hvv,he⟩:=he
   have e1:=qak hx hu hv
   have e2:=qak hy hvv hv
   split at he
   ·cases he
    simp only[VR]at e1 e2
    rename_i k i k' j
    refine .here s (v:=.int k (if j>i then j else i)) (by simp[execOp,resolve,hmap,invoke,builtin,Builtin.max_,Builtin.max2,e1,e2]) (by simp only[VR];rfl)
   ·cases he
  ·rename_i x y hargs
   have hmap:=two hargs
   rw[zob]at hc;obtain⟨x',hx,hc⟩:=hc
   rw[zob]at hc;obtain⟨y',hy,hc⟩:=hc
   cases hc
   simp only[qdy]at he
   rw[zob]at he;obtain⟨u,hu,he⟩:=he
   rw[zob]at he;obtain⟨v,hvv,he⟩:=he
   have e1:=qak hx hu hv
   have e2:=qak hy hvv hv
   split at he
   ·cases he
    simp only[VR]at e1 e2
    rename_i k i k' j
    refine .here s (v:=.int k (if j<i then j else i)) (by simp[execOp,resolve,hmap,invoke,builtin,Builtin.min_,Builtin.min2,e1,e2]) (by simp only[VR];rfl)
   ·cases he
  ·cases hc
 | _=>simp[cOp]at hc
end Go.Ev
namespace Go.Ev
variable {O:Orc} {e e':Env} {σ σ' τ:qf}
theorem q46 : ∀(l:List (Nat×AV)) (d t:Nat),look (qaja l d) t=if t=d then none else look l t
 | [],d,t=>by simp[look,qaja]
 |(k,v)::r,d,t=>by
  simp only[qaja]
  split
  ·rename_i h
   rw[q46 r d t]
   simp only[look]
   subst h
   split
   ·rfl
   ·rw[if_neg (Ne.symm ‹_›)]
  ·simp only[look]
   rw[q46 r d t]
   split
   ·rename_i h1 h2
    subst h2
    rw[if_neg h1]
   ·rfl
theorem q4q (e:Env) (d:Option Nat) (v:AV) (t:Nat):(e.set d v).get t=if d=some t then some v else e.get t:=by
 cases d with
 |none=>simp[Env.set]
 |some k=>simp[Env.set,Env.get,look]
theorem qaj9 (e:Env) (d:Option Nat) (t:Nat):(e.forget d).get t=if d=some t then none else e.get t:=by
 cases d with
 |none=>simp[Env.forget]
 |some k=>
  simp only[Env.forget,Env.get,q46]
  by_cases h:t=k
  ·simp[h]
  ·simp[h,Ne.symm h]
@[simp] theorem marks_set (e : Env) (d : Option Nat) (v : AV) : (e.set d v).marks = e.marks:=by cases d <;> rfl
@[simp] theorem marks_unset (e : Env) (d : Option Nat) : (e.unset d).marks = e.marks:=by cases d <;> rfl
@[simp] theorem marks_forget (e : Env) (d : Option Nat) : (e.forget d).marks = e.marks:=by cases d <;> rfl
theorem q3a (e:Env) (d:Option Nat) (t:Nat):(e.unset d).get t=if d=some t then some (.tup [])else e.get t:=q4q e d _ t
def Eqv (e e':Env):Prop:=(∀t,e.get t=e'.get t)∧e.marks=e'.marks
theorem Eqv.refl (e:Env):Eqv e e:=⟨fun _=>rfl,rfl⟩
theorem Eqv.symm (h:Eqv e e'):Eqv e' e:=⟨fun t=>(h.1 t).symm,h.2.symm⟩
theorem Eqv.trans {e'':Env} (h:Eqv e e') (k:Eqv e' e''):Eqv e e'':=⟨fun t=>(h.1 t).trans (k.1 t),h.2.trans k.2⟩
def qqb (l:List Nat) (e e':Env):Prop:=∀t,t∈l→e.get t=e'.get t
theorem qqb.left {l m:List Nat} (h:qqb (l++m) e e'):qqb l e e':=fun t ht=>h t (List.mem_append_left _ ht)
theorem qqb.right {l m:List Nat} (h:qqb (l++m) e e'):qqb m e e':=fun t ht=>h t (List.mem_append_right _ ht)
theorem qh {x:Opnd} (h:qqb (opT x) e e'):x.ev e=x.ev e':=by
 cases x with
 |t i=>exact h i (by simp[opT])
 |c a=>rfl
theorem qiw : ∀ {l:List Opnd},qqb (qaf1 l) e e'→evs e l=evs e' l
 | [],_=>rfl
 |x::xs,h=>by simp only[evs,qh (qqb.left h),qiw (qqb.right h)]
theorem qy2 {x:Option Opnd} {d:Int} (h:qqb (optT x) e e'):qpi e d x=qpi e' d x:=by
 cases x with
 |none=>rfl
 |some x=>
  have:x.ev e=x.ev e':=by
   cases x with
   |t i=>exact h i (by simp[optT])
   |c a=>rfl
  simp only[qpi,this]
theorem q1c : ∀ {ps:List (Nat×Nat×Opnd)} {cs:List AV},qqb (qaf1 (ps.map (·.2.2))) e e'→q6u e cs ps=q6u e' cs ps
 | [],_,_=>rfl
 |(o,s,x)::ps,cs,h=>by
  simp only[List.map_cons,qaf1]at h
  simp only[q6u,qh (qqb.left h)]
  cases x.ev e' with
  |none=>rfl
  |some a=>simp only[wm];split;exact q1c (qqb.right h);rfl
theorem q1h {sz:Nat} : ∀ {ps:List (Nat×Opnd)} {cs:List (List AV)},qqb (qaf1 (ps.map (·.2))) e e'→q37 e sz cs ps=q37 e' sz cs ps
 | [],_,_=>rfl
 |(o,x)::ps,cs,h=>by
  simp only[List.map_cons,qaf1]at h
  simp only[q37,qh (qqb.left h)]
  cases x.ev e' with
  |none=>rfl
  |some a=>simp only[wm];split;exact q1h (qqb.right h);rfl
theorem qtj {p:AV} : ∀ {l:List Nat},qqb l e e'→q0c e p l=q0c e' p l
 | [],_=>rfl
 |t::l,h=>by
  simp only[q0c,h t (by simp)]
  have ih:=qtj (p:=p) (l:=l) fun t ht=>h t (by simp[ht])
  rw[ih]
theorem qakf {c:COp} (h:qqb c.reads e e'):qdy e σ c=qdy e' σ c:=by
 cases c<;>simp only[COp.reads]at h<;>simp only[qdy]
 case mv=>rw[qh h]
 case pick=>rw[qh h.left,qh h.right.left,qh h.right.right]
 case frzv=>rw[qh h]
 case box=>rw[qh h]
 case boxO=>rw[qh h]
 case boxF=>rw[qh h]
 case build=>rw[q1c h]
 case buildO=>rw[q1c h]
 case bsl=>rw[q1h h]
 case bslF=>rw[q1h h]
 case ld=>rw[qh h]
 case ldF=>rw[qh h]
 case ldD=>simp only[qh h.left,qtj h.right]
 case mput=>rw[qh h.left,qh h.right.left,qh h.right.right]
 case mget=>rw[qh h.left,qh h.right]
 case st=>rw[qh h.left,qh h.right]
 case nilck=>rw[qh h]
 case bin=>rw[qh h.left,qh h.right]
 case eqs=>rw[qh h.left,qh h.right]
 case isn=>rw[qh h.left,qh h.right]
 case stA=>simp only[qh h.left,qh h.right.left,qtj h.right.right]
 case mkslF=>rw[qh h.left,qh h.right]
 case mkslH=>rw[qh h.left,qh h.right]
 case ldK sz ag x b off=>
  have hb : ∀p,qakb e p b off=qakb e' p b off:=fun p=>by unfold qakb;rw[h.right b (by simp)]
  simp only[qh h.left,hb]
 case eqb=>rw[qh h.left,qh h.right]
 case un=>rw[qh h]
 case conv=>rw[qh h]
 case mkfn=>rw[qiw h.left,qiw h.right]
 case mksl=>rw[qh h.left,qh h.right]
 case slc=>simp only[qh h.left,qy2 h.right.left,qy2 h.right.right.left,qy2 h.right.right.right]
 case slcS=>simp only[qh h.left,qy2 h.right.left,qy2 h.right.right]
 case faddr=>rw[qh h]
 case fld=>rw[qh h]
 case iaddr=>rw[qh h.left,qh h.right]
 case iaddrA=>rw[qh h.left,qh h.right]
 case iaddrF=>rw[qh h.left,qh h.right]
 case idxS=>rw[qh h.left,qh h.right]
 case idxA=>rw[qh h.left,qh h.right]
 case ext=>rw[qh h]
 case len=>rw[qh h]
 case lenS=>rw[qh h]
 case app=>rw[qh h.left,qh h.right]
 case appZ=>rw[qh h.left,qh h.right]
 case appN=>rw[qh h.left,qh h.right]
 case appF=>rw[qh h.left,qh h.right]
 case copy=>rw[qh h.left,qh h.right]
 case mm=>rw[qh h.left,qh h.right]
 case cap=>rw[qh h]
 case clr=>rw[qh h]
 case boxFW=>rw[qh h]
 case allocH=>rw[h _ (by simp)]
 case mkslO=>rw[qh h.left,qh h.right]
 case appM=>rw[qh h.left,qh h.right]
 case appB=>simp only[qh h.left,qh h.right.left,qtj h.right.right]
 case ldB sz ag x base=>
  have hb : ∀p,qajw e p base=qajw e' p base:=fun p=>by unfold qajw;rw[h.right base (by simp)]
  simp only[qh h.left,hb]
def qq4:Item'→List Nat
 | .op c=>c.reads
 | .callP _ as | .callA _ as | .callI _ as | .callR _ as | .callF _ as | .callH _ as _=>qaf1 as
 | .callv f as=>opT f++qaf1 as
 | .callK f as b _ _=>opT f++(qaf1 as++[b])
theorem qhk {it:Item'} (h:qqb (qq4 it) e e'):qae O e σ it=qae O e' σ it:=by
 cases it<;>simp only[qq4]at h<;>simp only[qae]
 case op=>exact qakf h
 case callP=>rw[qiw h]
 case callA=>rw[qiw h]
 case callI=>rw[qiw h]
 case callR=>rw[qiw h]
 case callF=>rw[qiw h]
 case callH=>rw[qiw h]
 case callv=>rw[qh h.left,qiw h.right]
 case callK f as b off sz=>
  have hb : ∀ σ τ,qe2 e σ τ b off sz=qe2 e' σ τ b off sz:=fun σ τ=>by unfold qe2;rw[h.right.right b (by simp)]
  simp only[qh h.left,qiw h.right.left,hb]
theorem qrr (o:COper):o.reads=(match o.guard with|some (t,_)=>[t]|none=>[])++qq4 o.it:=by
 unfold COper.reads qq4
 cases o.it<;>rfl
def qagt (o:COper) (e e1:Env):Prop:=(∃r,e1=e.set o.dst r)∨e1=e.unset o.dst
theorem qsh {o:COper} {e1:Env} {σ1:qf}:qgy O e σ o=some (e1,σ1) ↔
  ((o.guard=none ∨ ∃t b,o.guard=some (t,b)∧e.get t=some (.v (.bool b))) ∧ ∃r,qae O e σ o.it=some (r,σ1)∧e1=e.set o.dst r) ∨
  ((∃t b,o.guard=some (t,b)∧(e.get t=some (.v (.bool !b))∨e.get t=some (.tup [])))∧e1=e.unset o.dst∧σ1=σ):=by
 unfold qgy
 cases hg:o.guard with
 |none=>
  simp only[zob,true_or,true_and,reduceCtorEq,false_and,exists_false,or_false]
  constructor
  ·rintro⟨⟨r,s⟩,h1,h2⟩;cases h2;exact⟨r,h1,rfl⟩
  ·rintro⟨r,h1,rfl⟩;exact⟨(r,σ1),h1,rfl⟩
 |some tw=>
  obtain⟨t,want⟩:=tw
  simp only[zob]
  constructor
  ·rintro⟨b,hb,h⟩
   split at h
   ·rename_i b
    split at h
    ·rename_i hw
     subst hw
     rw[zob]at h
     obtain⟨⟨r,s⟩,h1,h2⟩:=h
     cases h2
     exact .inl ⟨.inr ⟨t,b,rfl,hb⟩,r,h1,rfl⟩
    ·rename_i hw
     cases h
     refine .inr ⟨⟨t,want,rfl,.inl ?_⟩,rfl,rfl⟩
     rw[hb];cases b<;>cases want<;>simp_all
   ·cases h
    exact .inr ⟨⟨t,want,rfl,.inr hb⟩,rfl,rfl⟩
   ·cases h
  ·rintro(⟨h1,r,h2,rfl⟩|⟨⟨t',b',h1,h2⟩,rfl,rfl⟩)
   ·rcases h1 with h1|⟨t',b',h1,h3⟩
    ·cases h1
    ·cases h1
     refine⟨_,h3,?_⟩
     simp[h2]
   ·cases h1
    rcases h2 with h2|h2
    ·refine⟨_,h2,?_⟩
     cases want<;>simp
    ·exact⟨_,h2,rfl⟩
theorem qvx {o:COper} {e1:Env} {σ1:qf} (h:qgy O e σ o=some (e1,σ1)):qagt o e e1:=by
 rcases qsh.1 h with ⟨_,r,_,h⟩|⟨_,h,_⟩
 ·exact .inl ⟨r,h⟩
 ·exact .inr h
theorem qagt.get {o:COper} {e1:Env} (h:qagt o e e1) {t:Nat} (ht:o.dst≠some t):e1.get t=e.get t:=by
 rcases h with ⟨r,rfl⟩|rfl
 ·rw[q4q,if_neg ht]
 ·rw[q3a,if_neg ht]
theorem q8j {o:COper} {e1:Env} {σ1 τ1:qf} (h:qgy O e σ o=some (e1,σ1)) (ha:qqb o.reads e e')
  (hit : ∀r,qae O e σ o.it=some (r,σ1)→qae O e σ o.it=some (r,σ1)∧qae O e' τ o.it=some (r,τ1)) (hsk:σ1=σ→τ1=τ) :
  ∃e1',qgy O e' τ o=some (e1',τ1)∧((∃r,e1=e.set o.dst r∧e1'=e'.set o.dst r)∨(e1=e.unset o.dst∧e1'=e'.unset o.dst)):=by
 rw[qrr]at ha
 rcases qsh.1 h with ⟨hg,r,h2,rfl⟩|⟨⟨t,b,hg,h2⟩,rfl,rfl⟩
 ·refine⟨e'.set o.dst r,qsh.2 (.inl ⟨?_,r,(hit r h2).2,rfl⟩),.inl ⟨r,rfl,rfl⟩⟩
  rcases hg with hg|⟨t,b,hg,h3⟩
  ·exact .inl hg
  ·exact .inr ⟨t,b,hg,by rw[←ha t (by simp[hg])];exact h3⟩
 ·refine⟨e'.unset o.dst,qsh.2 (.inr ⟨⟨t,b,hg,by rw[←ha t (by simp[hg])];exact h2⟩,rfl,hsk rfl⟩),.inr ⟨rfl,rfl⟩⟩
theorem step_eqv {o:COper} {e1 e1':Env} (he:Eqv e e') (h:(∃r,e1=e.set o.dst r∧e1'=e'.set o.dst r)∨(e1=e.unset o.dst∧e1'=e'.unset o.dst)):Eqv e1 e1':=by
 rcases h with ⟨r,rfl,rfl⟩|⟨rfl,rfl⟩
 ·exact⟨fun t=>by rw[q4q,q4q,he.1],by simp[he.2]⟩
 ·exact⟨fun t=>by rw[q3a,q3a,he.1],by simp[he.2]⟩
theorem qai3 {o:COper} {e1:Env} {σ1:qf} (he:Eqv e e') (h:qgy O e σ o=some (e1,σ1)) : ∃e1',qgy O e' σ o=some (e1',σ1)∧Eqv e1 e1':=by
 obtain⟨e1',h1,h2⟩:=q8j (τ:=σ) (τ1:=σ1) h (fun t _=>he.1 t) (fun r hr=>⟨hr,by rw[←qhk (fun t _=>he.1 t)];exact hr⟩) (fun h=>h)
 exact⟨e1',h1,step_eqv he h2⟩
theorem qms : ∀ {l:List COper} {e e' e1:Env} {σ σ1:qf},Eqv e e'→qah O l e σ=some (e1,σ1) → ∃e1',qah O l e' σ=some (e1',σ1)∧Eqv e1 e1'
 | [],e,e',e1,σ,σ1,he,h=>by simp only[qah]at h;cases h;exact⟨e',rfl,he⟩
 |o::l,e,e',e1,σ,σ1,he,h=>by
  simp only[qah,zob]at h
  obtain⟨⟨e2,σ2⟩,h1,h2⟩:=h
  obtain⟨e2',h3,h4⟩:=qai3 he h1
  obtain⟨e1',h5,h6⟩:=qms h4 h2
  exact⟨e1',by simp only[qah,h3,wm];exact h5,h6⟩
theorem qg2 {it : Item'} {r : AV} (hk : it.kind = .pure) (h : qae O e σ it = some (r, σ')) : σ' = σ ∧ ∀ τ, qae O e τ it = some (r, τ) := by
  cases it with
  | op c =>
    simp only [Item'.kind] at hk
    simp only [qae] at h ⊢
    cases c <;> simp only [COp.kind] at hk <;> first
      | (cases hk; done)
      | (simp only [qdy, zob] at h ⊢
         (repeat' (first | (obtain ⟨_, _, h⟩ := h) | split at h | rw [zob] at h)) <;> simp_all)
  | callP k as =>
    simp only [qae, zob] at h ⊢
    obtain ⟨vs, h1, h⟩ := h
    split at h
    · rw [zob] at h
      obtain ⟨⟨u, s⟩, h2, h⟩ := h
      simp only [zob] at h
      obtain ⟨v, h3, h⟩ := h
      cases h
      refine ⟨rfl, fun τ => ⟨vs, h1, ?_⟩⟩
      rw [if_pos ‹_›]
      simp [h2, h3]
    · cases h
  | callA _ _ => cases hk
  | callI _ _ => cases hk
  | callF _ _ => cases hk
  | callH _ _ _ => cases hk
  | callR _ _ => cases hk
  | callv _ _ => cases hk
  | callK _ _ _ _ _ => cases hk
theorem qag0 {σ τ:qf} {o:Nat} {ob:SObj} (h:σ[o]? = some ob):(σ++τ)[o]? = some ob:=by
 rw[List.getElem?_append_left (zei.1 h).1];exact h
def Up (σ τ:qf):Prop:=∀(o:Nat) (ob:SObj),σ[o]? = some ob→ob≠SObj.hole→τ[o]? = some ob
theorem Up.app (σ τ:qf):Up σ (σ++τ):=fun o ob h _=>qag0 h
theorem Up.refl (σ:qf):Up σ σ:=fun o ob h _=>h
theorem Up.more {σ τ:qf} (h:Up σ τ) (hl:τ.length=σ.length) (ρ:qf):Up (σ++ρ) (τ++ρ):=fun o ob ho hne=>by
 rcases Nat.lt_or_ge o σ.length with hlt|hge
 ·rw[List.getElem?_append_left hlt]at ho
  exact qag0 (h o ob ho hne)
 ·rw[List.getElem?_append_right hge]at ho
  rw[List.getElem?_append_right (by omega),hl];exact ho
theorem Up.fill {σ:qf} {p:Nat} {ob:SObj} (h:σ[p]? = some .hole):Up σ (σ.set p ob):=fun o ob' ho hne=>by
 by_cases hp:p=o
 ·subst hp;rw[h]at ho;cases ho;exact absurd rfl hne
 ·rw[List.getElem?_set_ne hp];exact ho
theorem qzj {σ τ:qf} {p:AV} {cs:List AV} (hu:Up σ τ) (h:qb σ p=some cs):qb τ p=some cs:=by
 unfold qb at h⊢
 cases p<;>simp only at h ⊢ <;> try exact h
 rename_i o g i off
 cases ho:σ[o]? with
 |none=>rw[ho]at h;cases h
 |some ob=>
  rw[ho]at h
  rw[hu o ob ho (by rintro rfl;cases h)];exact h
theorem qzt {σ τ:qf} {p:AV} {cs:List (List AV)} (hu:Up σ τ) (h:qdr σ p=some cs):qdr τ p=some cs:=by
 unfold qdr at h⊢
 split at h
 ·exact h
 ·rename_i o g off len c
  cases ho:σ[o]? with
  |none=>rw[ho]at h;cases h
  |some ob=>
   rw[ho]at h
   rw[hu o ob ho (by rintro rfl;cases h)];exact h
 ·exact h
 ·cases h
theorem q7f {it:Item'} {r:AV} {τ:qf} (hk:it.kind = .load) (h:qae O e σ it=some (r,σ')) (hu:Up σ τ):σ'=σ∧qae O e τ it=some (r,τ):=by
 cases it with
 |op c=>
  simp only[Item'.kind]at hk
  simp only[qae]at h⊢
  cases c<;>simp only[COp.kind]at hk<;>first
   |(cases hk;done)
   |skip
  case ld=>
   simp only[qdy,zob]at h⊢
   obtain⟨p,h1,cs,h2,v,h3,h⟩:=h
   cases h
   exact⟨rfl,p,h1,cs,qzj hu h2,_,h3,rfl⟩
  case ldD=>
   simp only[qdy,zob]at h⊢
   obtain⟨p,h1,h⟩:=h
   split at h
   ·rename_i haw
    simp only[zob]at h
    obtain⟨cs,h2,v,h3,h⟩:=h
    cases h
    refine⟨rfl,p,h1,?_⟩
    rw[if_pos haw]
    simp only[zob]
    exact⟨cs,qzj hu h2,_,h3,rfl⟩
   ·cases h
  case ldB=>
   simp only[qdy,zob]at h⊢
   obtain⟨p,h1,h⟩:=h
   split at h
   ·rename_i haw
    simp only[zob]at h
    obtain⟨cs,h2,v,h3,h⟩:=h
    cases h
    refine⟨rfl,p,h1,?_⟩
    rw[if_pos haw]
    simp only[zob]
    exact⟨cs,qzj hu h2,_,h3,rfl⟩
   ·cases h
  case ldK=>
   simp only[qdy,zob]at h⊢
   obtain⟨p,h1,h⟩:=h
   split at h
   ·rename_i haw
    simp only[zob]at h
    obtain⟨cs,h2,v,h3,h⟩:=h
    cases h
    refine⟨rfl,p,h1,?_⟩
    rw[if_pos haw]
    simp only[zob]
    exact⟨cs,qzj hu h2,_,h3,rfl⟩
   ·cases h
  case mget=>
   simp only[qdy,zob]at h⊢
   obtain⟨p,h1,i,h2,h⟩:=h
   split at h
   ·split at h
    ·rename_i ho
     split at h
     ·cases h
      refine⟨rfl,_,h1,_,h2,?_⟩
      simp only[hu _ _ ho (by simp)]
      rw[if_pos ‹_›]
     ·cases h
    ·cases h
   ·cases h
  case slc sz x lo hi mx=>
   simp only[qdy,zob]at h⊢
   obtain⟨p,h1,h⟩:=h
   split at h
   ·simp only[zob]at h
    obtain⟨l,h2,m,h3,n,h4,h⟩:=h
    split at h
    ·cases h
     refine⟨rfl,_,h1,?_⟩
     simp only[zob]
     exact⟨l,h2,m,h3,n,h4,by rw[if_pos ‹_›]⟩
    ·cases h
   ·rename_i o g off len clip
    split at h
    ·rename_i ho
     simp only[zob]at h
     obtain⟨l,h2,m,h3,n,h4,h⟩:=h
     split at h
     ·cases h
      refine⟨rfl,_,h1,?_⟩
      simp only[hu _ _ ho (by simp),zob]
      exact⟨l,h2,m,h3,n,h4,by rw[if_pos ‹_›]⟩
     ·cases h
    ·cases h
   ·cases h
  case iaddr sz x i=>
   simp only[qdy,zob]at h⊢
   obtain⟨p,h1,n,h2,h⟩:=h
   split at h
   ·rename_i k n
    split at h
    ·rename_i h0
     split at h
     ·simp only[zob]at h
      obtain⟨c,h3,h⟩:=h
      split at h
      ·cases h
       refine⟨rfl,_,h1,_,h2,?_⟩
       simp only[if_pos h0,zob]
       exact⟨c,h3,by rw[if_pos ‹_›]⟩
      ·cases h
     ·rename_i o g off len clip
      split at h
      ·rename_i ho
       split at h
       ·cases h
        refine⟨rfl,_,h1,_,h2,?_⟩
        simp only[if_pos h0,hu _ _ ho (by simp)]
        rw[if_pos ‹_›]
       ·cases h
      ·cases h
     ·cases h
    ·cases h
   ·cases h
 | _=>cases hk
theorem q4f {it:Item'} {r:AV} (hk:it.kind = .load) (h:qae O e σ it=some (r,σ')) (τ:qf):σ'=σ∧qae O e (σ++τ) it=some (r,σ++τ):=q7f hk h (Up.app σ τ)
def qamn (n:Nat) (e:Env):Prop:=∀t a o,e.get t=some a→a.obj? = some o→o<n
theorem qp7 {n:Nat} {x:Opnd} {a:AV} {o:Nat} (hk:qamn n e) (h:x.ev e=some a) (hc : ∀c,x = .c c→c.lo 0=true) (ho:a.obj? = some o):o<n:=by
 cases x with
 |t i=>exact hk i a o h ho
 |c c=>
  simp only[Opnd.ev]at h;cases h
  have:=hc _ rfl
  cases a<;>simp_all [AV.lo,AV.obj?]
def Opnd.okC:Opnd→Bool
 | .t _=>true
 | .c a=>a.lo 0
theorem qqh {σ τ:qf} {o:Nat} {ob:SObj} (h:(σ++τ)[o]? = some ob) (ho:o<σ.length):σ[o]? = some ob:=by
 rw[List.getElem?_append_left ho]at h;exact h
def qy4:Item'→Bool
 | .op (.ld _ _ x)=>x.okC
 | .op (.ldD _ _ x _)=>x.okC
 | .op (.ldB _ _ x _)=>x.okC
 | .op (.ldK _ _ x _ _)=>x.okC
 | .op (.mget _ _ _ x _)=>x.okC
 | .op (.iaddr _ x _)=>x.okC
 | .op (.slc _ x _ _ _)=>x.okC
 | _=>true
theorem qal9 {it:Item'} {r:AV} {τ:qf} (hk:it.kind = .load) (hkn:qamn σ.length e) (hc:qy4 it=true)
  (h:qae O e (σ++τ) it=some (r,σ')):qae O e σ it=some (r,σ):=by
 cases it with
 |op c=>
  simp only[Item'.kind]at hk
  simp only[qae]at h⊢
  cases c<;>simp only[COp.kind]at hk<;>first
   |(cases hk;done)
   |skip
  case ld sz ag x=>
   simp only[qy4]at hc
   simp only[qdy,zob]at h⊢
   obtain⟨p,h1,cs,h2,v,h3,h⟩:=h
   cases h
   refine⟨p,h1,cs,?_,_,h3,rfl⟩
   unfold qb at h2⊢
   cases p<;>simp only at h2 ⊢ <;> try exact h2
   rename_i o g i off
   have hn:=qp7 hkn h1 (fun c hx=>by subst hx;exact hc) (o:=o) rfl
   cases ho:(σ++τ)[o]? with
   |none=>rw[ho]at h2;cases h2
   |some ob=>rw[qqh ho hn];rw[ho]at h2;exact h2
  case ldD sz ag x av=>
   simp only[qy4]at hc
   simp only[qdy,zob]at h⊢
   obtain⟨p,h1,h⟩:=h
   split at h
   ·rename_i haw
    simp only[zob]at h
    obtain⟨cs,h2,v,h3,h⟩:=h
    cases h
    refine⟨p,h1,?_⟩
    rw[if_pos haw]
    simp only[zob]
    refine⟨cs,?_,_,h3,rfl⟩
    unfold qb at h2⊢
    cases p<;>simp only at h2 ⊢ <;> try exact h2
    rename_i o g i off
    have hn:=qp7 hkn h1 (fun c hx=>by subst hx;exact hc) (o:=o) rfl
    cases ho:(σ++τ)[o]? with
    |none=>rw[ho]at h2;cases h2
    |some ob=>rw[qqh ho hn];rw[ho]at h2;exact h2
   ·cases h
  case ldB sz ag x base=>
   simp only[qy4]at hc
   simp only[qdy,zob]at h⊢
   obtain⟨p,h1,h⟩:=h
   split at h
   ·rename_i haw
    simp only[zob]at h
    obtain⟨cs,h2,v,h3,h⟩:=h
    cases h
    refine⟨p,h1,?_⟩
    rw[if_pos haw]
    simp only[zob]
    refine⟨cs,?_,_,h3,rfl⟩
    unfold qb at h2⊢
    cases p<;>simp only at h2 ⊢ <;> try exact h2
    rename_i o g i off
    have hn:=qp7 hkn h1 (fun c hx=>by subst hx;exact hc) (o:=o) rfl
    cases ho:(σ++τ)[o]? with
    |none=>rw[ho]at h2;cases h2
    |some ob=>rw[qqh ho hn];rw[ho]at h2;exact h2
   ·cases h
  case ldK sz ag x b off'=>
   simp only[qy4]at hc
   simp only[qdy,zob]at h⊢
   obtain⟨p,h1,h⟩:=h
   split at h
   ·rename_i haw
    simp only[zob]at h
    obtain⟨cs,h2,v,h3,h⟩:=h
    cases h
    refine⟨p,h1,?_⟩
    rw[if_pos haw]
    simp only[zob]
    refine⟨cs,?_,_,h3,rfl⟩
    unfold qb at h2⊢
    cases p<;>simp only at h2 ⊢ <;> try exact h2
    rename_i o g i off
    have hn:=qp7 hkn h1 (fun c hx=>by subst hx;exact hc) (o:=o) rfl
    cases ho:(σ++τ)[o]? with
    |none=>rw[ho]at h2;cases h2
    |some ob=>rw[qqh ho hn];rw[ho]at h2;exact h2
   ·cases h
  case mget ok k z m key=>
   simp only[qy4]at hc
   simp only[qdy,zob]at h⊢
   obtain⟨p,h1,i,h2,h⟩:=h
   split at h
   ·rename_i o k' n
    have hn:=qp7 hkn h1 (fun c hx=>by subst hx;exact hc) (o:=o) rfl
    split at h
    ·rename_i ho
     split at h
     ·cases h
      refine⟨_,h1,_,h2,?_⟩
      simp only[qqh ho hn]
      rw[if_pos ‹_›]
     ·cases h
    ·cases h
   ·cases h
  case slc sz x lo hi mx=>
   simp only[qy4]at hc
   simp only[qdy,zob]at h⊢
   obtain⟨p,h1,h⟩:=h
   split at h
   ·simp only[zob]at h
    obtain⟨l,h2,m,h3,n,h4,h⟩:=h
    split at h
    ·cases h
     refine⟨_,h1,?_⟩
     simp only[zob]
     exact⟨l,h2,m,h3,n,h4,by rw[if_pos ‹_›]⟩
    ·cases h
   ·rename_i o g off len clip
    have hn:=qp7 hkn h1 (fun c hx=>by subst hx;exact hc) (o:=o) rfl
    split at h
    ·rename_i ho
     simp only[zob]at h
     obtain⟨l,h2,m,h3,n,h4,h⟩:=h
     split at h
     ·cases h
      refine⟨_,h1,?_⟩
      simp only[qqh ho hn,zob]
      exact⟨l,h2,m,h3,n,h4,by rw[if_pos ‹_›]⟩
     ·cases h
    ·cases h
   ·cases h
  case iaddr sz x i=>
   simp only[qy4]at hc
   simp only[qdy,zob]at h⊢
   obtain⟨p,h1,n,h2,h⟩:=h
   split at h
   ·rename_i k n
    split at h
    ·rename_i h0
     split at h
     ·simp only[zob]at h
      obtain⟨c,h3,h⟩:=h
      split at h
      ·cases h
       refine⟨_,h1,_,h2,?_⟩
       simp only[if_pos h0,zob]
       exact⟨c,h3,by rw[if_pos ‹_›]⟩
      ·cases h
     ·rename_i o g off len clip
      have hn:=qp7 hkn h1 (fun c hx=>by subst hx;exact hc) (o:=o) rfl
      split at h
      ·rename_i ho
       split at h
       ·cases h
        refine⟨_,h1,_,h2,?_⟩
        simp only[if_pos h0,qqh ho hn]
        rw[if_pos ‹_›]
       ·cases h
      ·cases h
     ·cases h
    ·cases h
   ·cases h
 | _=>cases hk
def qto (τ:qf):Prop:=∀ob∈τ,ob≠SObj.hole
theorem qahr : ∀ {os:List (Nat×Nat)} {σ σ2:qf} {cs cs2:List AV},qai8 σ cs os=some (cs2,σ2) → ∃ ρ,σ2=σ++ρ∧qto ρ ∧ ∀ τ:qf,τ.length=σ.length→qai8 τ cs os=some (cs2,τ++ρ)
 | [],σ,σ2,cs,cs2,h=>by simp only[qai8]at h;cases h;exact⟨[],by simp,by simp[qto],fun τ _=>by simp[qai8]⟩
 |(off,sz)::os,σ,σ2,cs,cs2,h=>by
  simp only[qai8]at h
  split at h
  ·rename_i hc
   split at h
   ·rename_i h0
    obtain⟨ρ,rfl,h1,h2⟩:=qahr h
    refine⟨[.row sz [] 0]++ρ,by simp,fun ob hob => ?_,fun τ hτ => ?_⟩
    ·rcases wk.1 hob with hob|hob
     ·rw[List.mem_singleton]at hob;subst hob;simp
     ·exact h1 ob hob
    ·simp only[qai8,hc,if_pos h0,hτ]
     have:=h2 (τ++[.row sz [] 0]) (by simp[hτ])
     rw[wl]at this
     exact this
   ·cases h
  ·cases h
theorem q73 {it:Item'} {r:AV} (hk:it.kind = .read) (h:qae O e σ it=some (r,σ')):σ'=σ:=by
 cases it with
 |op c=>simp only[Item'.kind]at hk;cases c<;>simp only[COp.kind]at hk<;>cases hk
 |callR k as=>
  simp only[qae,zob]at h
  obtain⟨vs,_,⟨u,τ⟩,_,h⟩:=h
  split at h
  ·cases h;rfl
  ·cases h
 |callP _ _=>cases hk
 |callA _ _=>cases hk
 |callI _ _=>cases hk
 |callF _ _=>cases hk
 |callH _ _ _=>cases hk
 |callv _ _=>cases hk
 |callK _ _ _ _ _=>cases hk
theorem q9m {it : Item'} {r : AV} (hk : it.kind = .alloc) (h : qae O e σ it = some (r, σ')) : ∃ ρ, σ' = σ ++ ρ ∧ qto ρ ∧ ∀ τ, Up σ τ → τ.length = σ.length → qae O e τ it = some (r, τ ++ ρ) := by
  cases it with
  | op c =>
    simp only [Item'.kind] at hk
    simp only [qae] at h ⊢
    cases c
    case buildO =>
      simp only [qdy, zob] at h ⊢
      obtain ⟨cs, h1, ⟨cs2, σ2⟩, h2, h⟩ := h
      cases h
      obtain ⟨ρ, q1, q2, q3⟩ := qahr h2
      exact ⟨ρ, q1, q2, fun τ _ hl => ⟨cs, h1, _, q3 τ hl, rfl⟩⟩
    case mkslO =>
      simp only [qdy, zob] at h ⊢
      obtain ⟨l, h1, c, h2, h⟩ := h
      split at h
      · split at h
        · cases h
          refine ⟨_, rfl, fun ob hob => ?_, fun τ _ hl => ⟨_, h1, _, h2, ?_⟩⟩
          · rcases wk.1 hob with hob | hob
            · rw [we hob]; simp
            · rw [List.mem_singleton] at hob; subst hob; simp
          · simp only [hl]
            rw [if_pos ‹_›]
        · cases h
      · cases h
    case appN =>
      simp only [qdy, zob] at h ⊢
      obtain ⟨a, h1, y, h2, xs, h3, h⟩ := h
      split at h
      · split at h
        · rename_i hc
          split at h
          · rename_i hc2
            cases h
            exact ⟨[], by simp, by simp [qto], fun τ hu hl => ⟨_, h1, _, h2, _, qzt hu h3, by simp only [if_pos hc, if_pos hc2]; simp⟩⟩
          · rename_i hc2
            cases h
            exact ⟨_, rfl, by simp [qto], fun τ hu hl => ⟨_, h1, _, h2, _, qzt hu h3, by simp only [if_pos hc, if_neg hc2, hl]⟩⟩
        · cases h
      · cases h
    case appF =>
      simp only [qdy, zob] at h ⊢
      obtain ⟨a, h1, y, h2, xs, h3, h⟩ := h
      split at h
      · split at h
        · rename_i hc
          split at h
          · rename_i hc2
            cases h
            exact ⟨[], by simp, by simp [qto], fun τ hu hl => ⟨_, h1, _, h2, _, qzt hu h3, by simp only [if_pos hc, if_pos hc2]; simp⟩⟩
          · rename_i hc2
            cases h
            exact ⟨_, rfl, by simp [qto], fun τ hu hl => ⟨_, h1, _, h2, _, qzt hu h3, by simp only [if_pos hc, if_neg hc2]⟩⟩
        · cases h
      · cases h
    all_goals simp only [COp.kind] at hk
    all_goals first
      | (cases hk; done)
      | (simp only [qdy] at h ⊢
         (repeat' (first | (obtain ⟨_, _, h⟩ := h) | split at h | rw [zob] at h)) <;> first
           | (cases h; done)
           | (cases h; exact ⟨_, rfl, by simp [qto], fun τ _ hl => by simp_all⟩)
           | exact ⟨_, rfl, by simp [qto], fun τ _ hl => by simp_all⟩)
  | callA k as =>
    simp only [qae, zob] at h ⊢
    obtain ⟨vs, h1, h⟩ := h
    split at h
    · rename_i hlo
      rw [zob] at h
      obtain ⟨⟨u, s⟩, h2, h⟩ := h
      rw [zob] at h
      obtain ⟨v, h3, h⟩ := h
      cases h
      refine ⟨v, rfl, fun ob hob => ?_, fun τ _ hl => ⟨vs, h1, ?_⟩⟩
      · have : ∀ {l : List SObj} {m : List SObj}, qil (q2m σ.length) l = some m → ∀ ob ∈ m, ob ≠ .hole := by
          intro l
          induction l with
          | nil => intro m hm ob hob; simp only [qil] at hm; cases hm; cases hob
          | cons x l ih =>
            intro m hm ob hob
            simp only [qil, zob] at hm
            obtain ⟨y, hy, ys, hys, hm⟩ := hm
            cases hm
            rcases List.mem_cons.1 hob with rfl | hob
            · unfold q2m at hy
              split at hy <;> first | (cases hy; simp; done) | (cases hy; done)
            · exact ih hys ob hob
        exact this h3 ob hob
      · rw [if_pos hlo, hl]
        simp [h2, h3]
    · cases h
  | callP _ _ => cases hk
  | callI _ _ => cases hk
  | callF _ _ => cases hk
  | callH _ _ _ => cases hk
  | callR _ _ => cases hk
  | callv _ _ => cases hk
  | callK _ _ _ _ _ => cases hk
theorem qzr {it : Item'} {r : AV} (hk : it.kind = .alloc ∨ it.kind = .room) (h : qae O e σ it = some (r, σ')) : ∃ τ, σ' = σ ++ τ := by
  rcases hk with hk | hk
  · obtain ⟨ρ, h1, _⟩ := q9m hk h; exact ⟨ρ, h1⟩
  cases it with
  | op c =>
    simp only [Item'.kind] at hk
    simp only [qae] at h
    cases c
    all_goals simp only [COp.kind] at hk
    all_goals first
      | (cases hk; done)
      | (simp only [qdy] at h
         (repeat' (first | (obtain ⟨_, _, h⟩ := h) | split at h | rw [zob] at h)) <;> first
           | (cases h; done)
           | (cases h; exact ⟨_, rfl⟩)
           | exact ⟨_, rfl⟩)
  | callA _ _ => cases hk
  | callP _ _ => cases hk
  | callI _ _ => cases hk
  | callF _ _ => cases hk
  | callH _ _ _ => cases hk
  | callR _ _ => cases hk
  | callv _ _ => cases hk
  | callK _ _ _ _ _ => cases hk
theorem q72 {it:Item'} {r:AV} (hk:it.kind = .fill) (h:qae O e σ it=some (r,σ')) : ∃p ob,σ[p]? = some .hole∧σ'=σ.set p ob ∧ ∀ τ:qf,τ[p]? = some .hole→qae O e τ it=some (r,τ.set p ob):=by
 cases it with
 |op c=>
  simp only[Item'.kind]at hk
  simp only[qae]at h⊢
  cases c
  case allocH base z=>
   simp only[qdy,zob]at h⊢
   obtain⟨y,h1,h⟩:=h
   split at h
   ·split at h
    ·rename_i hh
     split at h
     ·cases h
      exact⟨_,_,hh,rfl,fun τ hτ=>⟨_,h1,by simp only[hτ];rw[if_pos ‹_›]⟩⟩
     ·cases h
    ·cases h
   ·cases h
  case mkslH pos z bytes l c=>
   simp only[qdy,zob]at h⊢
   obtain⟨y,h1,y2,h2,h⟩:=h
   split at h
   ·split at h
    ·rename_i hh
     split at h
     ·cases h
      exact⟨_,_,hh,rfl,fun τ hτ=>⟨_,h1,_,h2,by simp only[hτ];rw[if_pos ‹_›]⟩⟩
     ·cases h
    ·cases h
   ·cases h
  all_goals simp only[COp.kind]at hk
  all_goals cases hk
 |callH k as pos=>
  simp only[qae,zob]at h⊢
  obtain⟨vs,h1,h⟩:=h
  split at h
  ·rename_i hlo
   rw[zob]at h
   obtain⟨⟨u,s⟩,h2,h⟩:=h
   simp only at h
   split at h
   ·split at h
    ·rename_i ho
     split at h
     ·rename_i hg
      rw[zob]at h
      obtain⟨es',h3,h⟩:=h
      split at h
      ·rename_i hh
       cases h
       refine⟨_,_,hh,rfl,fun τ hτ=>⟨vs,h1,?_⟩⟩
       rw[if_pos hlo,h2]
       simp only[wm,ho]
       rw[if_pos hg,h3]
       simp only[wm,hτ]
      ·cases h
     ·cases h
    ·cases h
   ·cases h
  ·cases h
 |callA _ _=>cases hk
 |callP _ _=>cases hk
 |callI _ _=>cases hk
 |callF _ _=>cases hk
 |callR _ _=>cases hk
 |callv _ _=>cases hk
 |callK _ _ _ _ _=>cases hk
end Go.Ev
