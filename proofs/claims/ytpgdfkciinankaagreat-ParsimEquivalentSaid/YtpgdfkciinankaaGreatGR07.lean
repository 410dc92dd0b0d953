/- For every input the statement of this claim returns true: texts of its proof, joined (part 8). -/
import Derived.Test.YtpgdfkciinankaaGreatGR04
import Derived.Test.YtpgdfkciinankaaGreatGR06
set_option linter.unusedSectionVars false
set_option linter.unusedSimpArgs false
set_option linter.unusedVariables false
namespace Go.Proofs.YtpgdfkciinankaaGreat.K
open Go.Ev
set_option maxRecDepth 10000
theorem q2v (n:Nat) : ∀(a b:List (List AV)),qc5 n (a++b)=(qc5 n a&&qc5 n b)
 | [],b=>by simp[qqz]
 |x::a,b=>by rw[List.cons_append,qhn,qhn,q2v n a b,Bool.and_assoc]
theorem qacv (l:List Int) (c:Bool) (h:l.length≤100000):(evL T).call qgt [(.fsl ((l).map qa0) c)] []=some (.sl 0 0 0 l.length false,[.row 1 (l.map qa0) 0]):=by
 have h':l.length*8≤140737488355328:=by omega
 rw[q35 qux]
 simp only[qts,qm,qafz,h',Ev.ev1,zgy,↓reduceIte,Nat.reducePow]
theorem q0o (l:List Int) (c:Bool) (n:Int) (h:l.length≤100000):qac (evL T) qjm [(.fsl ((l).map qa0) c),(ii n)]=some (.fsl ((l++[n]).map qa0) false):=by
 have h':(l.length+1)*8≤140737488355328:=by omega
 have htl:List.take l.length (l.map qa0)=l.map qa0:=ztl (by simp)
 have htk : ∀e:List AV,List.take (l.length+1) (l.map qa0++[e])=l.map qa0++[e]:=fun e=>ztl (by simp)
 have hr:(l++[n]).map qa0=l.map qa0++[[(ii n)]]:=by rw[List.map_append];rfl
 rw[qac,qe q9a q6d]
 rw[hr]
 simp only[qrg,qacv l c h,h',htl,htk,q2v,qm,Ev.ev1,q1x,q3t,qdj,Ev.AV.cells,Ev.AV.uc,Ev.AV.plain,qh,ne_eq,zgy,↓qc,↓reduceIte,Nat.reduceAdd,Nat.reduceEqDiff,Nat.reduceMul,Nat.reduceLT,Nat.reduceLeDiff,Nat.reducePow,reduceCtorEq]
set_option maxRecDepth 10000
def Fits (l:List Evt) (x:Evt) (k:Nat):Prop:=k≤l.length∧(∀u,0<k→l[k-1]? = some u→leE u x)∧(∀v,l[k]? = some v→leE x v)
theorem At.fits {l:List Evt} {x:Evt} {k:Nat} (h:At l x k):Fits l x k:=
 ⟨h.1,fun u h0 hu=>q9s u x (h.2.1 u h0 hu),fun v hv=>by have:=h.2.2 v hv;have:=qw5 v x;unfold leE;omega⟩
theorem Fits.perm {l:List Evt} {x:Evt} {k:Nat}:(l.take k++x::l.drop k).Perm (x::l):=by
 have:=List.perm_middle (a:=x) (l₁:=l.take k) (l₂:=l.drop k)
 rwa[List.take_append_drop]at this
theorem Fits.sorted {l:List Evt} {x:Evt} {k:Nat} (h:Fits l x k) (hs:l.Pairwise leE):(l.take k++x::l.drop k).Pairwise leE:=by
 obtain⟨h1,h2,h3⟩:=h
 have hlen:(l.take k).length=k:=by rw[List.length_take];omega
 refine qtm qox (by rwa[List.take_append_drop]) (fun u hu => ?_) (fun v hv => ?_)
 ·rw[hlen]at hu
  rw[List.getElem?_take]at hu
  split at hu
  ·exact h2 u (by omega) hu
  ·cases hu
 ·rw[List.getElem?_drop]at hv
  exact h3 v hv
theorem Fits.eq {l:List Evt} {x:Evt} {k:Nat} (h:Fits l x k) (hs:l.Pairwise leE) (hd:q3p (x::l)):l.take k++x::l.drop k=sortL (x::l):=
 qtn hd Fits.perm (h.sorted hs)
section
variable (l:List Evt) (c:Bool) (x:Evt)
theorem q6z (hl:l.length≤1000000) (hk:qc4 l) (kx:x.key.length≤9223372036854775807) (hs:l.Pairwise leE) (hd:q3p (x::l)):qac (evL T) qg3 [(.fsl ((l).map Evt.r) c),(.agg [(ii x.time),(.fsl ((x.key).map qa0) false),(ii x.lp),(ii x.kind),(ii x.proc),(ii x.arg)])]=some (.fsl ((sortL (x::l)).map Evt.r) false):=by
 obtain⟨k,hA,h⟩:=q3v l c x hl hk kx
 rw[hA.fits.eq hs hd]at h
 exact h
end
set_option maxRecDepth 10000
theorem q3p.sub {l m:List Evt} (h:q3p m) (s:l.Sublist m):q3p l:=List.Pairwise.sublist s h
theorem qah6 {l:List Evt} (hd:q3p l) (hs:l.Pairwise leE):l=sortL l:=qtn hd (List.Perm.refl _) hs
theorem qaep (l:List Evt):(sortL l).length=l.length:=(qdd l).length_eq
theorem qc4.sortL {l:List Evt} (h:qc4 l):qc4 (sortL l):=fun x hx=>h x ((qdd l).mem_iff.1 hx)
section
variable (l m:List Evt) (c d:Bool)
end
def qiw (l:List Evt) (k:List Int):List Evt×Bool:=(l.eraseP (fun e=>decide (e.key=k)),l.any (fun e=>decide (e.key=k)))
section
variable (l:List Evt) (c:Bool) (k:List Int) (d:Bool)
theorem qaku {i:Nat} {x:Evt} (h:l[i]? = some x) (hx:x.key=k) (hb : ∀(j:Nat) (z:Evt),j<i→l[j]? = some z→¬z.key=k):qiw l k=(l.take i++l.drop (i+1),true):=by
 unfold qiw
 have hany:l.any (fun e=>decide (e.key=k))=true:=List.any_eq_true.2 ⟨x,zmg h,by simpa using hx⟩
 rw[hany]
 obtain⟨hi,hxe⟩:=zei.1 h
 have hsplit:l=l.take i++x::l.drop (i+1):=by
  rw[←hxe];simp
 congr 1
 conv=>lhs;rw[hsplit]
 rw[List.eraseP_append_right _ (fun z hz=>by
  obtain⟨j,hj⟩:=List.mem_iff_getElem?.1 hz
  rw[List.getElem?_take]at hj
  split at hj
  ·simpa using hb j z (by omega) hj
  ·cases hj)]
 rw[List.eraseP_cons_of_pos (by simpa using hx)]
theorem qaf8 (h : ∀x∈l,¬x.key=k):qiw l k=(l,false):=by
 unfold qiw
 rw[List.eraseP_of_forall_not (fun x hx=>by simpa using h x hx)]
 congr 1
 rw[List.any_eq_false]
 exact fun x hx=>by simpa using h x hx
end
set_option maxRecDepth 10000
theorem q4r {α:Type} [DecidableEq α] : ∀ {a b:List α},a.length=b.length→((a.zip b).all (fun z=>decide (z.1=z.2))=true↔a=b)
 | [],[],_=>by simp
 |x::a,y::b,h=>by
  rw[List.zip_cons_cons,List.all_cons,Bool.and_eq_true,decide_eq_true_eq,q4r (a:=a) (b:=b) (by simpa using h),List.cons.injEq]
 | [],_ :: _,h=>by simp at h
 | _ :: _,[],h=>by simp at h
section
variable (a b:List Int) (c d:Bool)
theorem qaa3 (hab:a.length=b.length) (hl:a.length≤9223372036854775807) :
  ∃y,itB (exec (evL T) itL none qe4) (qai [0,1,12,13] true 0) ⟨[(0,(.fsl ((a).map qa0) c)),(1,(.fsl ((b).map qa0) d)),(12,(ii a.length)),(13,(ii 0))],[]⟩ []=some y∧((a.zip b).all (fun z=>decide (z.1=z.2))=true∧(y.1 = .exit 0∧y.2.1.marks=[]∧y.2.2=[]) ∨
   (a.zip b).all (fun z=>decide (z.1=z.2))=false ∧ ∃x,(a.zip b).find? (fun z => !decide (z.1=z.2))=some x∧(y.1 = .ret∧y.2.1.marks=[]∧y.2.2=[]∧Ev.look y.2.1.vars 4=some (bb false))):=by
 have hzl:(a.zip b).length=a.length:=by rw[List.length_zip,←hab,Nat.min_self]
 refine qgl (a.zip b) (fun i=>⟨[(0,(.fsl ((a).map qa0) c)),(1,(.fsl ((b).map qa0) d)),(12,(ii a.length)),(13,(ii i))],[]⟩) [] (fun z=>decide (z.1=z.2)) _ (fun _ y => _) ?_ ?_ ?_
 ·intro i x hi hx hp
  rw[hzl]at hi
  have hi':(i:Int)<(a.length:Int):=by omega
  have hw:IntKind.i64.wrap ((i:Int)+1)=((i+1:Nat):Int):=by rw[qi (by omega) (by omega)];simp
  obtain⟨hxa,hxb⟩:=List.getElem?_zip_eq_some.1 hx
  have hp':=of_decide_eq_true hp
  simp only[qe4,zgs,zgr,zgq,zgt,hxa,hxb,hi',hw,hp',qm,qa0,Ev.ev1,qb,ne_eq,zgy,↓qc,↓reduceIte,Nat.reduceEqDiff,reduceCtorEq]
 ·intro i x hi hx hp
  rw[hzl]at hi
  have hi':(i:Int)<(a.length:Int):=by omega
  obtain⟨hxa,hxb⟩:=List.getElem?_zip_eq_some.1 hx
  have hp':¬x.1=x.2:=of_decide_eq_false hp
  simp only[qe4,zgs,zgr,zgq,zgt,hxa,hxb,hi',hp',qa0,Ev.ev1,qb,ne_eq,zgy,↓qc,↓reduceIte,Nat.reduceEqDiff,reduceCtorEq]
  exact⟨_,rfl,rfl,rfl,rfl,rfl⟩
 ·rw[hzl]
  simp only[qe4,Int.lt_irrefl,Ev.ev1,zgy,↓qc,↓reduceIte,Nat.reduceEqDiff,reduceCtorEq]
  exact⟨_,rfl,rfl,rfl,rfl⟩
theorem qrt (hl:a.length≤9223372036854775807) (hl2:b.length≤9223372036854775807):qac (evL T) qcf [(.fsl ((a).map qa0) c),(.fsl ((b).map qa0) d)]=some (bb (decide (a=b))):=by
 rw[qac,qe qus qss]
 by_cases hab:a.length=b.length
 ·have hab':(a.length:Int)=(b.length:Int):=by omega
  obtain⟨⟨y,e,σ⟩,k1,k2⟩:=qaa3 a b c d hab hl
  simp only at k2
  rcases k2 with ⟨k3,rfl,k4,rfl⟩|⟨k3,x,_,rfl,k4,rfl,k5⟩
  ·have:a=b:=(q4r hab).1 k3
   rw[hab']at k1
   simp only[qe3,this,qm,Ev.ev1,qh,ne_eq,zgy,↓qc,↓qv,↓reduceIte,Nat.reduceAdd,Nat.reduceEqDiff,reduceCtorEq]
   subst this
   simp only[k1,k4,Ev.ev1,zgy,↓reduceIte]
  ·have:¬a=b:=fun h=>by rw[(q4r hab).2 h]at k3;cases k3
   simp only[this]
   rw[hab']at k1
   simp only[qe3,hab',k1,k4,k5,qm,Ev.ev1,qh,ne_eq,zgy,↓qc,↓qv,↓reduceIte,Nat.reduceAdd,Nat.reduceEqDiff,reduceCtorEq]
 ·have hab':¬(a.length:Int)=(b.length:Int):=by omega
  have:¬a=b:=fun h=>hab (by rw[h])
  simp only[qe3,hab',this,Ev.ev1,qh,ne_eq,zgy,↓qc,↓reduceIte,Nat.reduceAdd,Nat.reduceEqDiff,reduceCtorEq]
end
theorem qmm (n:Nat) : ∀(a b:qf),qct n (a++b)=(qct n a&&qct n b)
 | [],b=>by simp[qct]
 |x::a,b=>by simp only[zgm,qct,qmm n a b,Bool.and_assoc]
theorem qmh {n:Nat} : ∀ {σ:qf},qct n σ=true ↔ ∀x∈σ,SObj.lo n x=true
 | []=>by simp[qct]
 |x::a=>by simp only[qct,Bool.and_eq_true,qmh (σ:=a),List.mem_cons,forall_eq_or_imp]
theorem qpa {n:Nat} {σ:qf} (h:qct n σ=true) (i:Nat) {x:SObj} (hx:x.lo n=true):qct n (σ.set i x)=true:=by
 rw[qmh]at h⊢
 intro y hy
 rcases List.mem_or_eq_of_mem_set hy with hy|rfl
 ·exact h y hy
 ·exact hx
mutual
theorem qabm {n m:Nat} (h:n≤m) : ∀(a:AV),a.lo n=true→a.lo m=true
 | .v _,_=>by simp only[AV.lo]
 | .agg cs,k=>by simp only[AV.lo]at k ⊢;exact qwx h cs k
 | .tup cs,k=>by simp only[AV.lo]at k ⊢;exact qwx h cs k
 | .fsl es _,k=>by simp only[AV.lo]at k ⊢;exact ql5 h es k
 | .fptr cs,k=>by simp only[AV.lo]at k ⊢;exact qwx h cs k
 | .sl o _ _ _ _,k=>by simp only[AV.lo,decide_eq_true_eq]at k ⊢;omega
 | .ptr o _ _ _,k=>by simp only[AV.lo,decide_eq_true_eq]at k ⊢;omega
 | .fn _ a b,k=>by simp only[AV.lo,Bool.and_eq_true]at k ⊢;exact⟨qwx h a k.1,qwx h b k.2⟩
 | .yld o,k=>by simp only[AV.lo,decide_eq_true_eq]at k ⊢;omega
 | .mp o,k=>by simp only[AV.lo,decide_eq_true_eq]at k ⊢;omega
theorem qwx {n m:Nat} (h:n≤m) : ∀(l:List AV),los n l=true→los m l=true
 | [],_=>by simp only[los]
 |a::l,k=>by simp only[los,Bool.and_eq_true]at k ⊢;exact⟨qabm h a k.1,qwx h l k.2⟩
theorem ql5 {n m:Nat} (h:n≤m) : ∀(es:List (List AV)),qc5 n es=true→qc5 m es=true
 | [],_=>by simp only[qc5]
 |a::l,k=>by simp only[qc5,Bool.and_eq_true]at k ⊢;exact⟨qwx h a k.1,ql5 h l k.2⟩
end
theorem q8x {n m:Nat} (h:n≤m) : ∀(l:List (Nat×AV)),qyz n l=true→qyz m l=true
 | [],_=>by simp only[qyz]
 |(_,a)::r,k=>by simp only[qyz,Bool.and_eq_true]at k ⊢;exact⟨qabm h a k.1,q8x h r k.2⟩
theorem qws {n m:Nat} (h:n≤m) (o:SObj) (k:o.lo n=true):o.lo m=true:=by
 cases o<;>simp only[SObj.lo]at k⊢
 ·exact ql5 h _ k
 ·exact q8x h _ k
theorem qk1 {n m:Nat} (h:n≤m) {σ:qf} (k:qct n σ=true):qct m σ=true:=by
 rw[qmh]at k⊢
 exact fun x hx=>qws h x (k x hx)
set_option maxRecDepth 10000
def qh2:List (Int×AV):=[(1,.fn (.func qby) [] []),(2,.fn (.func qb0) [] []),(3,.fn (.func qbu) [] []),(4,.fn (.func qbn) [] []),(5,.fn (.func qbt) [] []),(6,.fn (.func qce) [] []),(7,.fn (.func qbz) [] []),(8,.fn (.func qch) [] [])]
section
variable (a0 a1 a2:Int) (am:Nat) (x:Ex) (gp gc gg:Nat)
theorem qzs (i:Nat) (hi:x.ev.proc=i) (hp:i<x.procs.length) :
  (evL T).call qah [.ptr 5 0 0 0] [.row 4 [[(ii a0),(ii a1),.sl 2 0 0 am false,(ii a2)]] 0,.row 4 [[(ii 0),(ii 0),.fsl [] false,(ii 0)]] 0,.row 4 ((x.procs).map Pr.r) gp,.row 6 ((x.out).map Evt.r) gc,.row 1 ((x.gone).map qna) gg,.row 14 [[(ii x.r0),(ii x.r1),.sl 2 gp 0 x.procs.length false,(ii x.sum),(ii x.ev.time),(.fsl ((x.ev.key).map qa0) false),(ii x.ev.lp),(ii x.ev.kind),(ii x.ev.proc),(ii x.ev.arg),.sl 3 gc 0 x.out.length false,(ii x.n),.sl 4 gg 0 x.gone.length false,(bb x.over)]] 0,.mp .i64 qh2]=some (.ptr 2 gp i 0,[.row 4 [[(ii a0),(ii a1),.sl 2 0 0 am false,(ii a2)]] 0,.row 4 [[(ii 0),(ii 0),.fsl [] false,(ii 0)]] 0,.row 4 ((x.procs).map Pr.r) gp,.row 6 ((x.out).map Evt.r) gc,.row 1 ((x.gone).map qna) gg,.row 14 [[(ii x.r0),(ii x.r1),.sl 2 gp 0 x.procs.length false,(ii x.sum),(ii x.ev.time),(.fsl ((x.ev.key).map qa0) false),(ii x.ev.lp),(ii x.ev.kind),(ii x.ev.proc),(ii x.ev.arg),.sl 3 gc 0 x.out.length false,(ii x.n),.sl 4 gg 0 x.gone.length false,(bb x.over)]] 0,.mp .i64 qh2]):=by
 rw[qe qm9 qmi]
 simp only[qgj,hi,hp,zgs,zgr,qm,qa3,qq,qew,Nat.reduceLT,Ev.ev1,qb,qh,Ev.SObj.lo,zgy,↓qc,↓reduceIte,Nat.reduceAdd,Nat.reduceEqDiff,Nat.reduceLT,reduceCtorEq]
theorem qakd (k p a:Int):(evL T).call qcg [.ptr 5 0 0 0,(ii k),(ii p),(ii a)] [.row 4 [[(ii a0),(ii a1),.sl 2 0 0 am false,(ii a2)]] 0,.row 4 [[(ii 0),(ii 0),.fsl [] false,(ii 0)]] 0,.row 4 ((x.procs).map Pr.r) gp,.row 6 ((x.out).map Evt.r) gc,.row 1 ((x.gone).map qna) gg,.row 14 [[(ii x.r0),(ii x.r1),.sl 2 gp 0 x.procs.length false,(ii x.sum),(ii x.ev.time),(.fsl ((x.ev.key).map qa0) false),(ii x.ev.lp),(ii x.ev.kind),(ii x.ev.proc),(ii x.ev.arg),.sl 3 gc 0 x.out.length false,(ii x.n),.sl 4 gg 0 x.gone.length false,(bb x.over)]] 0,.mp .i64 qh2]=some (.agg [(ii 0),.fsl [] false,(ii x.ev.lp),(ii k),(ii p),(ii a)],[.row 4 [[(ii a0),(ii a1),.sl 2 0 0 am false,(ii a2)]] 0,.row 4 [[(ii 0),(ii 0),.fsl [] false,(ii 0)]] 0,.row 4 ((x.procs).map Pr.r) gp,.row 6 ((x.out).map Evt.r) gc,.row 1 ((x.gone).map qna) gg,.row 14 [[(ii x.r0),(ii x.r1),.sl 2 gp 0 x.procs.length false,(ii x.sum),(ii x.ev.time),(.fsl ((x.ev.key).map qa0) false),(ii x.ev.lp),(ii x.ev.kind),(ii x.ev.proc),(ii x.ev.arg),.sl 3 gc 0 x.out.length false,(ii x.n),.sl 4 gg 0 x.gone.length false,(bb x.over)]] 0,.mp .i64 qh2]):=by
 rw[qe qul qs4]
 simp only[qim,qm,qa3,qq,qew,Nat.reduceLT,Nat.reduceLeDiff,Ev.ev1,Ev.stP,qb,Ev.AV.cells,Ev.AV.uc,Ev.AV.plain,qh,Ev.SObj.lo,ne_eq,zgy,↓qc,↓reduceIte,Nat.reduceAdd,Nat.reduceEqDiff,Nat.reduceLT,Nat.reduceLeDiff,reduceCtorEq]
def qql (x:Ex) (d:Int) (gc:Nat):Nat:=if w64 (x.ev.time+d)>1152921504606846976 then gc else gc+1
theorem q2z (h:x.Small) (d:Int) (t0 lp k p a:Int) (ks:List Int) :
  (evL T).call qba [.ptr 5 0 0 0,(ii d),.agg [(ii t0),(.fsl ((ks).map qa0) false),(ii lp),(ii k),(ii p),(ii a)]] [.row 4 [[(ii a0),(ii a1),.sl 2 0 0 am false,(ii a2)]] 0,.row 4 [[(ii 0),(ii 0),.fsl [] false,(ii 0)]] 0,.row 4 ((x.procs).map Pr.r) gp,.row 6 ((x.out).map Evt.r) gc,.row 1 ((x.gone).map qna) gg,.row 14 [[(ii x.r0),(ii x.r1),.sl 2 gp 0 x.procs.length false,(ii x.sum),(ii x.ev.time),(.fsl ((x.ev.key).map qa0) false),(ii x.ev.lp),(ii x.ev.kind),(ii x.ev.proc),(ii x.ev.arg),.sl 3 gc 0 x.out.length false,(ii x.n),.sl 4 gg 0 x.gone.length false,(bb x.over)]] 0,.mp .i64 qh2]=some ((.fsl ((x.kid).map qa0) false),[.row 4 [[(ii a0),(ii a1),.sl 2 0 0 am false,(ii a2)]] 0,.row 4 [[(ii 0),(ii 0),.fsl [] false,(ii 0)]] 0,.row 4 (((x.create d ⟨t0,ks,lp,k,p,a⟩).procs).map Pr.r) gp,.row 6 (((x.create d ⟨t0,ks,lp,k,p,a⟩).out).map Evt.r) (qql x d gc),.row 1 (((x.create d ⟨t0,ks,lp,k,p,a⟩).gone).map qna) gg,.row 14 [[(ii ((x.create d ⟨t0,ks,lp,k,p,a⟩).r0)),(ii ((x.create d ⟨t0,ks,lp,k,p,a⟩).r1)),.sl 2 gp 0 (x.create d ⟨t0,ks,lp,k,p,a⟩).procs.length false,(ii ((x.create d ⟨t0,ks,lp,k,p,a⟩).sum)),(ii ((x.create d ⟨t0,ks,lp,k,p,a⟩).ev.time)),(.fsl (((x.create d ⟨t0,ks,lp,k,p,a⟩).ev.key).map qa0) false),(ii ((x.create d ⟨t0,ks,lp,k,p,a⟩).ev.lp)),(ii ((x.create d ⟨t0,ks,lp,k,p,a⟩).ev.kind)),(ii ((x.create d ⟨t0,ks,lp,k,p,a⟩).ev.proc)),(ii ((x.create d ⟨t0,ks,lp,k,p,a⟩).ev.arg)),.sl 3 (qql x d gc) 0 (x.create d ⟨t0,ks,lp,k,p,a⟩).out.length false,(ii ((x.create d ⟨t0,ks,lp,k,p,a⟩).n)),.sl 4 gg 0 (x.create d ⟨t0,ks,lp,k,p,a⟩).gone.length false,(bb ((x.create d ⟨t0,ks,lp,k,p,a⟩).over))]] 0,.mp .i64 qh2]):=by
 have hk:=q0o x.ev.key false x.n h.key
 have hs:(x.out.length+1)*64≤140737488355328:=by have:=h.out;omega
 have htl:List.take x.out.length (x.out.map Evt.r)=x.out.map Evt.r:=ztl (by simp)
 have hlo:los 7 ([(ii x.r0),(ii x.r1),.sl 2 gp 0 x.procs.length false,(ii x.sum),(ii x.ev.time),(.fsl ((x.ev.key).map qa0) false),(ii x.ev.lp),(ii x.ev.kind),(ii x.ev.proc),(ii x.ev.arg),.sl 3 gc 0 x.out.length false,(ii x.n),.sl 4 gg 0 x.gone.length false,(bb x.over)])=true:=by simp only[qm,Nat.reduceLT,Ev.ev1,zgy,Nat.reduceLT]
 rw[qe qq2 qqd]
 unfold Ex.create qql Ex.kid
 by_cases ho:w64 (x.ev.time+d)>1152921504606846976
 ·have ho':IntKind.i64.wrap (x.ev.time+d)>1152921504606846976:=ho
  simp only[ho,if_true]
  simp only[qe5,hk,ho',qm,qa3,qq,qew,Nat.reduceLT,Nat.reduceLeDiff,Ev.ev1,Ev.stP,qb,Ev.AV.cells,Ev.AV.uc,Ev.AV.plain,qh,Ev.SObj.lo,ne_eq,zgy,↓qc,↓reduceIte,Nat.reduceAdd,Nat.reduceEqDiff,Nat.reduceLT,Nat.reduceLeDiff,reduceCtorEq]
  done
 ·have ho':¬IntKind.i64.wrap (x.ev.time+d)>1152921504606846976:=ho
  simp only[ho,if_false]
  have hr : ∀e:Evt,(x.out++[e]).map Evt.r=x.out.map Evt.r++[e.r]:=fun e=>by rw[List.map_append];rfl
  simp only[qe5,hk,ho',hs,htl,hr,q2v,Evt.r,qm,qa3,qq,qew,Nat.reduceLT,Nat.reduceLeDiff,Ev.ev1,Ev.stP,q3t,qb,qdj,Ev.AV.cells,Ev.AV.uc,Ev.AV.plain,qh,Ev.SObj.lo,ne_eq,zgy,↓qc,↓reduceIte,Nat.reduceAdd,Nat.reduceEqDiff,Nat.reduceMul,Nat.reduceLT,Nat.reduceLeDiff,Nat.reducePow,reduceCtorEq]
  done
end
set_option maxRecDepth 10000
theorem eq_table:eqBm qh2 qh2=true:=by
 have h:decide (eqBm qh2 qh2=true)=true:=by kernel_rfl
 exact of_decide_eq_true h
def Ex.ownE (x:Ex) (k p a:Int):Evt:=⟨0,[],x.ev.lp,k,p,a⟩
def Ex.setP (x:Ex) (i:Nat) (q:Pr):Ex:={ x with procs:=x.procs.set i q }
def Ex.stopE (x:Ex) (i:Nat) (q:Pr):Ex:=if 0<q.timer.length then { x with gone:=x.gone++[q.timer],procs:=x.procs.set i { q with timer:=[] } }else x
section
variable (a0 a1 a2:Int) (am:Nat) (x:Ex) (gp gc gg:Nat) (op:OpI)
theorem hold_ev (h:x.Small):(evL T).call qby [.ptr 5 0 0 0,(.agg [(ii op.code),(ii op.a),(ii op.b),(ii op.c)])] [.row 4 [[(ii a0),(ii a1),.sl 2 0 0 am false,(ii a2)]] 0,.row 4 [[(ii 0),(ii 0),.fsl [] false,(ii 0)]] 0,.row 4 ((x.procs).map Pr.r) gp,.row 6 ((x.out).map Evt.r) gc,.row 1 ((x.gone).map qna) gg,.row 14 [[(ii x.r0),(ii x.r1),.sl 2 gp 0 x.procs.length false,(ii x.sum),(ii x.ev.time),(.fsl ((x.ev.key).map qa0) false),(ii x.ev.lp),(ii x.ev.kind),(ii x.ev.proc),(ii x.ev.arg),.sl 3 gc 0 x.out.length false,(ii x.n),.sl 4 gg 0 x.gone.length false,(bb x.over)]] 0,.mp .i64 qh2]=some ((ii 1),[.row 4 [[(ii a0),(ii a1),.sl 2 0 0 am false,(ii a2)]] 0,.row 4 [[(ii 0),(ii 0),.fsl [] false,(ii 0)]] 0,.row 4 (((x.create op.a (x.ownE 1 x.ev.proc 0)).procs).map Pr.r) gp,.row 6 (((x.create op.a (x.ownE 1 x.ev.proc 0)).out).map Evt.r) (qql x op.a gc),.row 1 (((x.create op.a (x.ownE 1 x.ev.proc 0)).gone).map qna) gg,.row 14 [[(ii ((x.create op.a (x.ownE 1 x.ev.proc 0)).r0)),(ii ((x.create op.a (x.ownE 1 x.ev.proc 0)).r1)),.sl 2 gp 0 (x.create op.a (x.ownE 1 x.ev.proc 0)).procs.length false,(ii ((x.create op.a (x.ownE 1 x.ev.proc 0)).sum)),(ii ((x.create op.a (x.ownE 1 x.ev.proc 0)).ev.time)),(.fsl (((x.create op.a (x.ownE 1 x.ev.proc 0)).ev.key).map qa0) false),(ii ((x.create op.a (x.ownE 1 x.ev.proc 0)).ev.lp)),(ii ((x.create op.a (x.ownE 1 x.ev.proc 0)).ev.kind)),(ii ((x.create op.a (x.ownE 1 x.ev.proc 0)).ev.proc)),(ii ((x.create op.a (x.ownE 1 x.ev.proc 0)).ev.arg)),.sl 3 (qql x op.a gc) 0 (x.create op.a (x.ownE 1 x.ev.proc 0)).out.length false,(ii ((x.create op.a (x.ownE 1 x.ev.proc 0)).n)),.sl 4 gg 0 (x.create op.a (x.ownE 1 x.ev.proc 0)).gone.length false,(bb ((x.create op.a (x.ownE 1 x.ev.proc 0)).over))]] 0,.mp .i64 qh2]):=by
 have h1:=qakd a0 a1 a2 am x gp gc gg 1 x.ev.proc 0
 have h2:=q2z a0 a1 a2 am x gp gc gg h op.a 0 x.ev.lp 1 x.ev.proc 0 []
 simp only[List.map_nil]at h2
 rw[qe qs3 qrx]
 simp only[qh1,h1,h2,Ex.ownE,qm,qa3,qq,qew,Nat.reduceLT,Ev.ev1,qb,Ev.AV.cells,Ev.AV.plain,qh,Ev.SObj.lo,ne_eq,zgy,↓qc,↓reduceIte,Nat.reduceAdd,Nat.reduceEqDiff,Nat.reduceLT,reduceCtorEq]
theorem send_ev (h:x.Small):(evL T).call qb0 [.ptr 5 0 0 0,(.agg [(ii op.code),(ii op.a),(ii op.b),(ii op.c)])] [.row 4 [[(ii a0),(ii a1),.sl 2 0 0 am false,(ii a2)]] 0,.row 4 [[(ii 0),(ii 0),.fsl [] false,(ii 0)]] 0,.row 4 ((x.procs).map Pr.r) gp,.row 6 ((x.out).map Evt.r) gc,.row 1 ((x.gone).map qna) gg,.row 14 [[(ii x.r0),(ii x.r1),.sl 2 gp 0 x.procs.length false,(ii x.sum),(ii x.ev.time),(.fsl ((x.ev.key).map qa0) false),(ii x.ev.lp),(ii x.ev.kind),(ii x.ev.proc),(ii x.ev.arg),.sl 3 gc 0 x.out.length false,(ii x.n),.sl 4 gg 0 x.gone.length false,(bb x.over)]] 0,.mp .i64 qh2]=some ((ii 0),[.row 4 [[(ii a0),(ii a1),.sl 2 0 0 am false,(ii a2)]] 0,.row 4 [[(ii 0),(ii 0),.fsl [] false,(ii 0)]] 0,.row 4 (((x.create op.c ⟨0,[],op.a,3,0,op.b⟩).procs).map Pr.r) gp,.row 6 (((x.create op.c ⟨0,[],op.a,3,0,op.b⟩).out).map Evt.r) (qql x op.c gc),.row 1 (((x.create op.c ⟨0,[],op.a,3,0,op.b⟩).gone).map qna) gg,.row 14 [[(ii ((x.create op.c ⟨0,[],op.a,3,0,op.b⟩).r0)),(ii ((x.create op.c ⟨0,[],op.a,3,0,op.b⟩).r1)),.sl 2 gp 0 (x.create op.c ⟨0,[],op.a,3,0,op.b⟩).procs.length false,(ii ((x.create op.c ⟨0,[],op.a,3,0,op.b⟩).sum)),(ii ((x.create op.c ⟨0,[],op.a,3,0,op.b⟩).ev.time)),(.fsl (((x.create op.c ⟨0,[],op.a,3,0,op.b⟩).ev.key).map qa0) false),(ii ((x.create op.c ⟨0,[],op.a,3,0,op.b⟩).ev.lp)),(ii ((x.create op.c ⟨0,[],op.a,3,0,op.b⟩).ev.kind)),(ii ((x.create op.c ⟨0,[],op.a,3,0,op.b⟩).ev.proc)),(ii ((x.create op.c ⟨0,[],op.a,3,0,op.b⟩).ev.arg)),.sl 3 (qql x op.c gc) 0 (x.create op.c ⟨0,[],op.a,3,0,op.b⟩).out.length false,(ii ((x.create op.c ⟨0,[],op.a,3,0,op.b⟩).n)),.sl 4 gg 0 (x.create op.c ⟨0,[],op.a,3,0,op.b⟩).gone.length false,(bb ((x.create op.c ⟨0,[],op.a,3,0,op.b⟩).over))]] 0,.mp .i64 qh2]):=by
 have h2:=q2z a0 a1 a2 am x gp gc gg h op.c 0 op.a 3 0 op.b []
 simp only[List.map_nil]at h2
 rw[qe qtb qro]
 simp only[qh6,h2,qm,qa3,qq,qew,Nat.reduceLT,Nat.reduceLeDiff,Ev.ev1,qb,Ev.AV.cells,Ev.AV.uc,Ev.AV.plain,qh,Ev.SObj.lo,ne_eq,zgy,↓qc,↓reduceIte,Nat.reduceAdd,Nat.reduceEqDiff,Nat.reduceLT,Nat.reduceLeDiff,reduceCtorEq]
theorem end_ev:(evL T).call qch [.ptr 5 0 0 0,(.agg [(ii op.code),(ii op.a),(ii op.b),(ii op.c)])] [.row 4 [[(ii a0),(ii a1),.sl 2 0 0 am false,(ii a2)]] 0,.row 4 [[(ii 0),(ii 0),.fsl [] false,(ii 0)]] 0,.row 4 ((x.procs).map Pr.r) gp,.row 6 ((x.out).map Evt.r) gc,.row 1 ((x.gone).map qna) gg,.row 14 [[(ii x.r0),(ii x.r1),.sl 2 gp 0 x.procs.length false,(ii x.sum),(ii x.ev.time),(.fsl ((x.ev.key).map qa0) false),(ii x.ev.lp),(ii x.ev.kind),(ii x.ev.proc),(ii x.ev.arg),.sl 3 gc 0 x.out.length false,(ii x.n),.sl 4 gg 0 x.gone.length false,(bb x.over)]] 0,.mp .i64 qh2]=some ((ii 2),[.row 4 [[(ii a0),(ii a1),.sl 2 0 0 am false,(ii a2)]] 0,.row 4 [[(ii 0),(ii 0),.fsl [] false,(ii 0)]] 0,.row 4 ((x.procs).map Pr.r) gp,.row 6 ((x.out).map Evt.r) gc,.row 1 ((x.gone).map qna) gg,.row 14 [[(ii x.r0),(ii x.r1),.sl 2 gp 0 x.procs.length false,(ii x.sum),(ii x.ev.time),(.fsl ((x.ev.key).map qa0) false),(ii x.ev.lp),(ii x.ev.kind),(ii x.ev.proc),(ii x.ev.arg),.sl 3 gc 0 x.out.length false,(ii x.n),.sl 4 gg 0 x.gone.length false,(bb x.over)]] 0,.mp .i64 qh2]):=by
 rw[qe qt5 qta]
 simp only[qil,qm,qa3,qq,qew,Nat.reduceLT,Ev.ev1,Ev.AV.cells,Ev.AV.plain,qh,Ev.SObj.lo,ne_eq,zgy,↓qc,↓reduceIte,Nat.reduceAdd,Nat.reduceLT,reduceCtorEq]
def Ex.reg (x:Ex) (k:Int):Int:=if k=0 then x.r0 else x.r1
def Ex.setReg (x:Ex) (k v:Int):Ex:=if k=0 then { x with r0:=v }else { x with r1:=v }
theorem add_ev (ha:op.a=0∨op.a=1):(evL T).call qce [.ptr 5 0 0 0,(.agg [(ii op.code),(ii op.a),(ii op.b),(ii op.c)])] [.row 4 [[(ii a0),(ii a1),.sl 2 0 0 am false,(ii a2)]] 0,.row 4 [[(ii 0),(ii 0),.fsl [] false,(ii 0)]] 0,.row 4 ((x.procs).map Pr.r) gp,.row 6 ((x.out).map Evt.r) gc,.row 1 ((x.gone).map qna) gg,.row 14 [[(ii x.r0),(ii x.r1),.sl 2 gp 0 x.procs.length false,(ii x.sum),(ii x.ev.time),(.fsl ((x.ev.key).map qa0) false),(ii x.ev.lp),(ii x.ev.kind),(ii x.ev.proc),(ii x.ev.arg),.sl 3 gc 0 x.out.length false,(ii x.n),.sl 4 gg 0 x.gone.length false,(bb x.over)]] 0,.mp .i64 qh2]=some ((ii 0),[.row 4 [[(ii a0),(ii a1),.sl 2 0 0 am false,(ii a2)]] 0,.row 4 [[(ii 0),(ii 0),.fsl [] false,(ii 0)]] 0,.row 4 (((x.setReg op.a (w64 (x.reg op.a+op.b))).procs).map Pr.r) gp,.row 6 (((x.setReg op.a (w64 (x.reg op.a+op.b))).out).map Evt.r) gc,.row 1 (((x.setReg op.a (w64 (x.reg op.a+op.b))).gone).map qna) gg,.row 14 [[(ii ((x.setReg op.a (w64 (x.reg op.a+op.b))).r0)),(ii ((x.setReg op.a (w64 (x.reg op.a+op.b))).r1)),.sl 2 gp 0 (x.setReg op.a (w64 (x.reg op.a+op.b))).procs.length false,(ii ((x.setReg op.a (w64 (x.reg op.a+op.b))).sum)),(ii ((x.setReg op.a (w64 (x.reg op.a+op.b))).ev.time)),(.fsl (((x.setReg op.a (w64 (x.reg op.a+op.b))).ev.key).map qa0) false),(ii ((x.setReg op.a (w64 (x.reg op.a+op.b))).ev.lp)),(ii ((x.setReg op.a (w64 (x.reg op.a+op.b))).ev.kind)),(ii ((x.setReg op.a (w64 (x.reg op.a+op.b))).ev.proc)),(ii ((x.setReg op.a (w64 (x.reg op.a+op.b))).ev.arg)),.sl 3 gc 0 (x.setReg op.a (w64 (x.reg op.a+op.b))).out.length false,(ii ((x.setReg op.a (w64 (x.reg op.a+op.b))).n)),.sl 4 gg 0 (x.setReg op.a (w64 (x.reg op.a+op.b))).gone.length false,(bb ((x.setReg op.a (w64 (x.reg op.a+op.b))).over))]] 0,.mp .i64 qh2]):=by
 rw[qe qui qs1]
 rcases ha with ha|ha
 ·simp only[qgq,ha,Ex.setReg,Ex.reg,qm,qa3,qq,qew,Nat.reduceLT,Nat.reduceLeDiff,Ev.ev1,Ev.stP,qb,Ev.AV.cells,Ev.AV.uc,Ev.AV.plain,qh,Ev.SObj.lo,ne_eq,zgy,↓qc,↓reduceIte,Nat.reduceAdd,Nat.reduceEqDiff,Nat.reduceMul,Nat.reduceLT,Nat.reduceLeDiff,Int.reduceLE,Int.reduceToNat,reduceCtorEq]
 ·simp only[qgq,ha,Ex.setReg,Ex.reg,qm,qa3,qq,qew,Nat.reduceLT,Nat.reduceLeDiff,Ev.ev1,Ev.stP,qb,Ev.AV.cells,Ev.AV.uc,Ev.AV.plain,qh,Ev.SObj.lo,ne_eq,zgy,↓qc,↓reduceIte,Nat.reduceAdd,Nat.reduceEqDiff,Nat.reduceMul,Nat.reduceLT,Nat.reduceLeDiff,Int.reduceLE,Int.reduceToNat,Int.reduceEq,reduceCtorEq]
section
variable (i:Nat) (q:Pr) (hi:x.ev.proc=i) (hq:x.procs[i]? = some q)
include hi hq
theorem less_ev (ha:op.a=0∨op.a=1):(evL T).call qbz [.ptr 5 0 0 0,(.agg [(ii op.code),(ii op.a),(ii op.b),(ii op.c)])] [.row 4 [[(ii a0),(ii a1),.sl 2 0 0 am false,(ii a2)]] 0,.row 4 [[(ii 0),(ii 0),.fsl [] false,(ii 0)]] 0,.row 4 ((x.procs).map Pr.r) gp,.row 6 ((x.out).map Evt.r) gc,.row 1 ((x.gone).map qna) gg,.row 14 [[(ii x.r0),(ii x.r1),.sl 2 gp 0 x.procs.length false,(ii x.sum),(ii x.ev.time),(.fsl ((x.ev.key).map qa0) false),(ii x.ev.lp),(ii x.ev.kind),(ii x.ev.proc),(ii x.ev.arg),.sl 3 gc 0 x.out.length false,(ii x.n),.sl 4 gg 0 x.gone.length false,(bb x.over)]] 0,.mp .i64 qh2]=some ((ii 0),[.row 4 [[(ii a0),(ii a1),.sl 2 0 0 am false,(ii a2)]] 0,.row 4 [[(ii 0),(ii 0),.fsl [] false,(ii 0)]] 0,.row 4 (((if x.reg op.a<op.b then x.setP i { q with pc:=op.c }else x).procs).map Pr.r) gp,.row 6 (((if x.reg op.a<op.b then x.setP i { q with pc:=op.c }else x).out).map Evt.r) gc,.row 1 (((if x.reg op.a<op.b then x.setP i { q with pc:=op.c }else x).gone).map qna) gg,.row 14 [[(ii ((if x.reg op.a<op.b then x.setP i { q with pc:=op.c }else x).r0)),(ii ((if x.reg op.a<op.b then x.setP i { q with pc:=op.c }else x).r1)),.sl 2 gp 0 (if x.reg op.a<op.b then x.setP i { q with pc:=op.c }else x).procs.length false,(ii ((if x.reg op.a<op.b then x.setP i { q with pc:=op.c }else x).sum)),(ii ((if x.reg op.a<op.b then x.setP i { q with pc:=op.c }else x).ev.time)),(.fsl (((if x.reg op.a<op.b then x.setP i { q with pc:=op.c }else x).ev.key).map qa0) false),(ii ((if x.reg op.a<op.b then x.setP i { q with pc:=op.c }else x).ev.lp)),(ii ((if x.reg op.a<op.b then x.setP i { q with pc:=op.c }else x).ev.kind)),(ii ((if x.reg op.a<op.b then x.setP i { q with pc:=op.c }else x).ev.proc)),(ii ((if x.reg op.a<op.b then x.setP i { q with pc:=op.c }else x).ev.arg)),.sl 3 gc 0 (if x.reg op.a<op.b then x.setP i { q with pc:=op.c }else x).out.length false,(ii ((if x.reg op.a<op.b then x.setP i { q with pc:=op.c }else x).n)),.sl 4 gg 0 (if x.reg op.a<op.b then x.setP i { q with pc:=op.c }else x).gone.length false,(bb ((if x.reg op.a<op.b then x.setP i { q with pc:=op.c }else x).over))]] 0,.mp .i64 qh2]):=by
 have hp:=(zei.1 hq).1
 have h1:=qzs a0 a1 a2 am x gp gc gg i hi hp
 have hset:(x.procs.map Pr.r).set i [(ii q.prog),(ii op.c),(bb q.alive),(.fsl ((q.timer).map qa0) false)]=(x.procs.set i { q with pc:=op.c }).map Pr.r:=by rw[List.map_set];rfl
 have hl:(x.procs.set i { q with pc:=op.c }).length=x.procs.length:=by simp
 rw[qe qtc qsg]
 unfold Ex.reg
 rcases ha with ha|ha
 ·by_cases hlt:x.r0<op.b
  ·simp only[qdq,ha,hlt,Ex.setP,h1,hl,zgq,zgt,hq,Pr.r,qm,qa3,qq,qew,Nat.reduceLT,Nat.reduceLeDiff,Ev.ev1,Ev.stP,qb,Ev.AV.cells,Ev.AV.uc,Ev.AV.plain,qh,Ev.SObj.lo,ne_eq,zgy,↓qc,↓reduceIte,Nat.reduceAdd,Nat.reduceEqDiff,Nat.reduceMul,Nat.reduceLT,Nat.reduceLeDiff,Int.reduceLE,Int.reduceToNat,reduceCtorEq,hset]
  ·simp only[qdq,ha,hlt,qm,qa3,qq,qew,Nat.reduceLT,Ev.ev1,qb,Ev.AV.cells,Ev.AV.plain,qh,Ev.SObj.lo,ne_eq,zgy,↓qc,↓reduceIte,Nat.reduceAdd,Nat.reduceEqDiff,Nat.reduceMul,Nat.reduceLT,Int.reduceLE,Int.reduceToNat,reduceCtorEq]
 ·have h01:¬(1:Int)=0:=by decide
  by_cases hlt:x.r1<op.b
  ·simp only[qdq,ha,h01,hlt,Ex.setP,h1,hl,zgq,zgt,hq,Pr.r,qm,qa3,qq,qew,Nat.reduceLT,Nat.reduceLeDiff,Ev.ev1,Ev.stP,qb,Ev.AV.cells,Ev.AV.uc,Ev.AV.plain,qh,Ev.SObj.lo,ne_eq,zgy,↓qc,↓reduceIte,Nat.reduceAdd,Nat.reduceEqDiff,Nat.reduceMul,Nat.reduceLT,Nat.reduceLeDiff,Int.reduceLE,Int.reduceToNat,reduceCtorEq,hset]
  ·simp only[qdq,ha,h01,hlt,qm,qa3,qq,qew,Nat.reduceLT,Ev.ev1,qb,Ev.AV.cells,Ev.AV.plain,qh,Ev.SObj.lo,ne_eq,zgy,↓qc,↓reduceIte,Nat.reduceAdd,Nat.reduceEqDiff,Nat.reduceMul,Nat.reduceLT,Int.reduceLE,Int.reduceToNat,reduceCtorEq]
theorem qaks (h:x.Small):(evL T).call qbn [.ptr 5 0 0 0,(.agg [(ii op.code),(ii op.a),(ii op.b),(ii op.c)])] [.row 4 [[(ii a0),(ii a1),.sl 2 0 0 am false,(ii a2)]] 0,.row 4 [[(ii 0),(ii 0),.fsl [] false,(ii 0)]] 0,.row 4 ((x.procs).map Pr.r) gp,.row 6 ((x.out).map Evt.r) gc,.row 1 ((x.gone).map qna) gg,.row 14 [[(ii x.r0),(ii x.r1),.sl 2 gp 0 x.procs.length false,(ii x.sum),(ii x.ev.time),(.fsl ((x.ev.key).map qa0) false),(ii x.ev.lp),(ii x.ev.kind),(ii x.ev.proc),(ii x.ev.arg),.sl 3 gc 0 x.out.length false,(ii x.n),.sl 4 gg 0 x.gone.length false,(bb x.over)]] 0,.mp .i64 qh2]=some ((ii 0),[.row 4 [[(ii a0),(ii a1),.sl 2 0 0 am false,(ii a2)]] 0,.row 4 [[(ii 0),(ii 0),.fsl [] false,(ii 0)]] 0,.row 4 (((x.stopE i q).procs).map Pr.r) gp,.row 6 (((x.stopE i q).out).map Evt.r) gc,.row 1 (((x.stopE i q).gone).map qna) (if 0<q.timer.length then gg+1 else gg),.row 14 [[(ii ((x.stopE i q).r0)),(ii ((x.stopE i q).r1)),.sl 2 gp 0 (x.stopE i q).procs.length false,(ii ((x.stopE i q).sum)),(ii ((x.stopE i q).ev.time)),(.fsl (((x.stopE i q).ev.key).map qa0) false),(ii ((x.stopE i q).ev.lp)),(ii ((x.stopE i q).ev.kind)),(ii ((x.stopE i q).ev.proc)),(ii ((x.stopE i q).ev.arg)),.sl 3 gc 0 (x.stopE i q).out.length false,(ii ((x.stopE i q).n)),.sl 4 (if 0<q.timer.length then gg+1 else gg) 0 (x.stopE i q).gone.length false,(bb ((x.stopE i q).over))]] 0,.mp .i64 qh2]):=by
 have hp:=(zei.1 hq).1
 have h1:=qzs a0 a1 a2 am x gp gc gg i hi hp
 have hset:(x.procs.map Pr.r).set i [(ii q.prog),(ii q.pc),(bb q.alive),.fsl [] false]=(x.procs.set i { q with timer:=[] }).map Pr.r:=by rw[List.map_set];rfl
 have hl:(x.procs.set i { q with timer:=[] }).length=x.procs.length:=by simp
 have hs:(x.gone.length+1)*24≤140737488355328:=by have:=h.gone;omega
 have htl:List.take x.gone.length (x.gone.map qna)=x.gone.map qna:=ztl (by simp)
 have hr : ∀e:List Int,(x.gone++[e]).map qna=x.gone.map qna++[qna e]:=fun e=>by rw[List.map_append];rfl
 rw[qe qsx qr3]
 unfold Ex.stopE
 by_cases ht:0<q.timer.length
 ·have ht':(q.timer.length:Int)>0:=by omega
  simp only[qgc,ht,ht',h1,hl,hs,htl,hr,q2v,qna,zgq,zgt,hq,Pr.r,qm,qa3,qq,qew,Nat.reduceLT,Nat.reduceLeDiff,Ev.ev1,Ev.stP,q3t,qb,qdj,Ev.AV.cells,Ev.AV.uc,Ev.AV.plain,qh,Ev.SObj.lo,ne_eq,zgy,↓qc,↓reduceIte,Nat.reduceAdd,Nat.reduceEqDiff,Nat.reduceMul,Nat.reduceLT,Nat.reduceLeDiff,Nat.reducePow,reduceCtorEq,hset]
 ·have ht':¬(q.timer.length:Int)>0:=by omega
  simp only[qgc,ht,ht',h1,zgq,zgt,hq,Pr.r,qm,qa3,qq,qew,Nat.reduceLT,Ev.ev1,qb,Ev.AV.cells,Ev.AV.plain,qh,Ev.SObj.lo,ne_eq,zgy,↓qc,↓reduceIte,Nat.reduceAdd,Nat.reduceLT,reduceCtorEq]
def Ex.spawnE (x:Ex) (op:OpI):Ex:=if x.procs.length<8 then ({ x with procs:=x.procs++[⟨op.a,0,true,[]⟩] }:Ex).create op.b (x.ownE 1 x.procs.length 0)else x
omit hi hq in
theorem spawn_ev (h:x.Small) : ∃gp' gc',(evL T).call qbt [.ptr 5 0 0 0,(.agg [(ii op.code),(ii op.a),(ii op.b),(ii op.c)])] [.row 4 [[(ii a0),(ii a1),.sl 2 0 0 am false,(ii a2)]] 0,.row 4 [[(ii 0),(ii 0),.fsl [] false,(ii 0)]] 0,.row 4 ((x.procs).map Pr.r) gp,.row 6 ((x.out).map Evt.r) gc,.row 1 ((x.gone).map qna) gg,.row 14 [[(ii x.r0),(ii x.r1),.sl 2 gp 0 x.procs.length false,(ii x.sum),(ii x.ev.time),(.fsl ((x.ev.key).map qa0) false),(ii x.ev.lp),(ii x.ev.kind),(ii x.ev.proc),(ii x.ev.arg),.sl 3 gc 0 x.out.length false,(ii x.n),.sl 4 gg 0 x.gone.length false,(bb x.over)]] 0,.mp .i64 qh2]=some ((ii 0),[.row 4 [[(ii a0),(ii a1),.sl 2 0 0 am false,(ii a2)]] 0,.row 4 [[(ii 0),(ii 0),.fsl [] false,(ii 0)]] 0,.row 4 (((x.spawnE op).procs).map Pr.r) gp',.row 6 (((x.spawnE op).out).map Evt.r) gc',.row 1 (((x.spawnE op).gone).map qna) gg,.row 14 [[(ii ((x.spawnE op).r0)),(ii ((x.spawnE op).r1)),.sl 2 gp' 0 (x.spawnE op).procs.length false,(ii ((x.spawnE op).sum)),(ii ((x.spawnE op).ev.time)),(.fsl (((x.spawnE op).ev.key).map qa0) false),(ii ((x.spawnE op).ev.lp)),(ii ((x.spawnE op).ev.kind)),(ii ((x.spawnE op).ev.proc)),(ii ((x.spawnE op).ev.arg)),.sl 3 gc' 0 (x.spawnE op).out.length false,(ii ((x.spawnE op).n)),.sl 4 gg 0 (x.spawnE op).gone.length false,(bb ((x.spawnE op).over))]] 0,.mp .i64 qh2]):=by
 rw[qe qr7 qrk]
 unfold Ex.spawnE
 by_cases h8:x.procs.length<8
 ·have h8':(x.procs.length:Int)<8:=by omega
  have hs:(x.procs.length+1)*48≤140737488355328:=by omega
  have htl:List.take x.procs.length (x.procs.map Pr.r)=x.procs.map Pr.r:=ztl (by simp)
  have hr : ∀e:Pr,(x.procs++[e]).map Pr.r=x.procs.map Pr.r++[e.r]:=fun e=>by rw[List.map_append];rfl
  have hl : ∀e:Pr,(x.procs++[e]).length=x.procs.length+1:=fun e=>by simp
  have hsm:({ x with procs:=x.procs++[⟨op.a,0,true,[]⟩] }:Ex).Small:=⟨by simp;omega,h.out,h.gone,h.key⟩
  have h1:=qakd a0 a1 a2 am { x with procs:=x.procs++[⟨op.a,0,true,[]⟩] } (gp+1) gc gg 1 x.procs.length 0
  have h2:=q2z a0 a1 a2 am { x with procs:=x.procs++[⟨op.a,0,true,[]⟩] } (gp+1) gc gg hsm op.b 0 x.ev.lp 1 x.procs.length 0 []
  refine⟨gp+1,qql { x with procs:=x.procs++[⟨op.a,0,true,[]⟩] } op.b gc,?_⟩
  simp only[hr,hl,Pr.r,List.map_nil]at h1 h2
  simp only[qfo,h8,h8',h1,h2,hs,htl,Ex.ownE,qm,qa3,qq,qew,Nat.reduceLT,Nat.reduceLeDiff,Ev.ev1,Ev.stP,q3t,qb,qdj,Ev.AV.cells,Ev.AV.uc,Ev.AV.plain,qh,Ev.SObj.lo,ne_eq,zgy,↓qc,↓reduceIte,Nat.reduceAdd,Nat.reduceEqDiff,Nat.reduceMul,Nat.reduceLT,Nat.reduceLeDiff,Nat.reducePow,reduceCtorEq]
 ·have h8':¬(x.procs.length:Int)<8:=by omega
  refine⟨gp,gc,?_⟩
  simp only[qfo,h8,h8',qm,qa3,qq,qew,Nat.reduceLT,Ev.ev1,qb,Ev.AV.cells,Ev.AV.plain,qh,Ev.SObj.lo,ne_eq,zgy,↓qc,↓reduceIte,Nat.reduceAdd,Nat.reduceLT,reduceCtorEq]
def Ex.timerE (x:Ex) (i:Nat) (q:Pr) (op:OpI):Ex:=((x.stopE i q).create op.a (x.ownE 2 x.ev.proc op.b)).setP i { q with timer:=(x.stopE i q).kid }
theorem timer_ev (h:x.Small) (hg:x.gone.length<1000) : ∃gc' gg',(evL T).call qbu [.ptr 5 0 0 0,(.agg [(ii op.code),(ii op.a),(ii op.b),(ii op.c)])] [.row 4 [[(ii a0),(ii a1),.sl 2 0 0 am false,(ii a2)]] 0,.row 4 [[(ii 0),(ii 0),.fsl [] false,(ii 0)]] 0,.row 4 ((x.procs).map Pr.r) gp,.row 6 ((x.out).map Evt.r) gc,.row 1 ((x.gone).map qna) gg,.row 14 [[(ii x.r0),(ii x.r1),.sl 2 gp 0 x.procs.length false,(ii x.sum),(ii x.ev.time),(.fsl ((x.ev.key).map qa0) false),(ii x.ev.lp),(ii x.ev.kind),(ii x.ev.proc),(ii x.ev.arg),.sl 3 gc 0 x.out.length false,(ii x.n),.sl 4 gg 0 x.gone.length false,(bb x.over)]] 0,.mp .i64 qh2]=some ((ii 0),[.row 4 [[(ii a0),(ii a1),.sl 2 0 0 am false,(ii a2)]] 0,.row 4 [[(ii 0),(ii 0),.fsl [] false,(ii 0)]] 0,.row 4 (((x.timerE i q op).procs).map Pr.r) gp,.row 6 (((x.timerE i q op).out).map Evt.r) gc',.row 1 (((x.timerE i q op).gone).map qna) gg',.row 14 [[(ii ((x.timerE i q op).r0)),(ii ((x.timerE i q op).r1)),.sl 2 gp 0 (x.timerE i q op).procs.length false,(ii ((x.timerE i q op).sum)),(ii ((x.timerE i q op).ev.time)),(.fsl (((x.timerE i q op).ev.key).map qa0) false),(ii ((x.timerE i q op).ev.lp)),(ii ((x.timerE i q op).ev.kind)),(ii ((x.timerE i q op).ev.proc)),(ii ((x.timerE i q op).ev.arg)),.sl 3 gc' 0 (x.timerE i q op).out.length false,(ii ((x.timerE i q op).n)),.sl 4 gg' 0 (x.timerE i q op).gone.length false,(bb ((x.timerE i q op).over))]] 0,.mp .i64 qh2]):=by
 have h0:=qaks a0 a1 a2 am x gp gc gg op i q hi hq h
 have hev:(x.stopE i q).ev=x.ev:=by unfold Ex.stopE;split<;>rfl
 have hpl:(x.stopE i q).procs.length=x.procs.length:=by unfold Ex.stopE;split<;>simp
 have hp:=(zei.1 hq).1
 have hsm:(x.stopE i q).Small:=⟨by rw[hpl];exact h.procs,by unfold Ex.stopE;split<;>exact h.out,by
  unfold Ex.stopE;split
  ·simp only[zgp,zga,zgb];omega
  ·exact h.gone,by rw[hev];exact h.key⟩
 generalize (if 0<q.timer.length then gg+1 else gg)=gg' at h0
 have hset2 : ∀k:List Int,(x.stopE i q).procs.set i { q with timer:=k }=x.procs.set i { q with timer:=k }:=fun k=>by
  unfold Ex.stopE;split<;>simp
 have hq2 : ∃q2,(x.stopE i q).procs[i]? = some q2∧q2.prog=q.prog∧q2.pc=q.pc∧q2.alive=q.alive:=by
  by_cases ht:0<q.timer.length
  ·simp only[Ex.stopE,ht,if_true]
   exact⟨{ q with timer:=[] },by rw[List.getElem?_set_self hp],rfl,rfl,rfl⟩
  ·simp only[Ex.stopE,ht,if_false]
   exact⟨q,hq,rfl,rfl,rfl⟩
 unfold Ex.timerE
 generalize x.stopE i q=y at h0 hev hpl hsm hset2 hq2
 obtain⟨q2,hq2,e1,e2,e3⟩:=hq2
 have hi2:y.ev.proc=i:=by rw[hev];exact hi
 have h1:=qzs a0 a1 a2 am y gp gc gg' i hi2 (by omega)
 have h2:=qakd a0 a1 a2 am y gp gc gg' 2 y.ev.proc op.b
 have h3:=q2z a0 a1 a2 am y gp gc gg' hsm op.a 0 y.ev.lp 2 y.ev.proc op.b []
 refine⟨qql y op.a gc,gg',?_⟩
 have hcp:(y.create op.a ⟨0,[],y.ev.lp,2,y.ev.proc,op.b⟩).procs=y.procs:=rfl
 simp only[Ex.ownE,Ex.setP,←hev]at h0⊢
 generalize qql y op.a gc=gc' at h3
 generalize y.create op.a ⟨0,[],y.ev.lp,2,y.ev.proc,op.b⟩=z at h3 hcp
 have hset:(y.procs.map Pr.r).set i [(ii q2.prog),(ii q2.pc),(bb q2.alive),(.fsl ((y.kid).map qa0) false)]=(y.procs.set i { q with timer:=y.kid }).map Pr.r:=by rw[List.map_set,e1,e2,e3];rfl
 have hl:(y.procs.set i { q with timer:=y.kid }).length=y.procs.length:=by simp
 rw[qe qso qq4]
 simp only[List.map_nil,hcp]at h3
 simp only[qhj,h0,h1,h2,h3,hcp,hl,zgq,zgt,hq2,Pr.r,eq_procs,eq_evts,eq_keys,qacm,eq_table,qm,qa3,qq,qew,Nat.reduceLT,Ev.ev1,Ev.stP,qzc,Ev.SObj.eqB,qb,Ev.AV.cells,Ev.AV.uc,Ev.AV.plain,qh,Ev.SObj.lo,ne_eq,zgy,↓qc,↓reduceIte,Nat.reduceAdd,Nat.reduceEqDiff,Nat.reduceLT,reduceCtorEq,hset]
end
end
set_option maxRecDepth 10000
def qgd (x:Ex) (i:Nat) (q:Pr) (op:OpI):Ex×Int:=
 if op.code=1 then (x.create op.a (x.ownE 1 x.ev.proc 0),1)
 else if op.code=2 then (x.create op.c ⟨0,[],op.a,3,0,op.b⟩,0)
 else if op.code=3 then (x.timerE i q op,0)
 else if op.code=4 then (x.stopE i q,0)
 else if op.code=5 then (x.spawnE op,0)
 else if op.code=6 then (x.setReg op.a (w64 (x.reg op.a+op.b)),0)
 else if op.code=7 then (if x.reg op.a<op.b then x.setP i { q with pc:=op.c }else x,0)
 else (x,2)
structure OpOk' (op:OpI):Prop where
 code:1≤op.code∧op.code≤8
 reg:op.code=6∨op.code=7→op.a=0∨op.a=1
 to:op.code=7→0≤op.c∧op.c≤1000000
section
variable (a0 a1 a2:Int) (am:Nat) (x:Ex) (gp gc gg:Nat) (op:OpI) (i:Nat) (q:Pr)
theorem step_ev (h:x.Small) (hg:x.gone.length<1000) (hi:x.ev.proc=i) (hq:x.procs[i]? = some q) (ho:OpOk' op) :
  ∃k gp' gc' gg',qalh op.code qh2=some (.fn (.func k) [] [])∧(evL T).call k [.ptr 5 0 0 0,(.agg [(ii op.code),(ii op.a),(ii op.b),(ii op.c)])] [.row 4 [[(ii a0),(ii a1),.sl 2 0 0 am false,(ii a2)]] 0,.row 4 [[(ii 0),(ii 0),.fsl [] false,(ii 0)]] 0,.row 4 ((x.procs).map Pr.r) gp,.row 6 ((x.out).map Evt.r) gc,.row 1 ((x.gone).map qna) gg,.row 14 [[(ii x.r0),(ii x.r1),.sl 2 gp 0 x.procs.length false,(ii x.sum),(ii x.ev.time),(.fsl ((x.ev.key).map qa0) false),(ii x.ev.lp),(ii x.ev.kind),(ii x.ev.proc),(ii x.ev.arg),.sl 3 gc 0 x.out.length false,(ii x.n),.sl 4 gg 0 x.gone.length false,(bb x.over)]] 0,.mp .i64 qh2]=some ((ii ((qgd x i q op).2)),[.row 4 [[(ii a0),(ii a1),.sl 2 0 0 am false,(ii a2)]] 0,.row 4 [[(ii 0),(ii 0),.fsl [] false,(ii 0)]] 0,.row 4 (((qgd x i q op).1.procs).map Pr.r) gp',.row 6 (((qgd x i q op).1.out).map Evt.r) gc',.row 1 (((qgd x i q op).1.gone).map qna) gg',.row 14 [[(ii ((qgd x i q op).1.r0)),(ii ((qgd x i q op).1.r1)),.sl 2 gp' 0 (qgd x i q op).1.procs.length false,(ii ((qgd x i q op).1.sum)),(ii ((qgd x i q op).1.ev.time)),(.fsl (((qgd x i q op).1.ev.key).map qa0) false),(ii ((qgd x i q op).1.ev.lp)),(ii ((qgd x i q op).1.ev.kind)),(ii ((qgd x i q op).1.ev.proc)),(ii ((qgd x i q op).1.ev.arg)),.sl 3 gc' 0 (qgd x i q op).1.out.length false,(ii ((qgd x i q op).1.n)),.sl 4 gg' 0 (qgd x i q op).1.gone.length false,(bb ((qgd x i q op).1.over))]] 0,.mp .i64 qh2]):=by
 have hc:op.code=1∨op.code=2∨op.code=3∨op.code=4∨op.code=5∨op.code=6∨op.code=7∨op.code=8:=by have:=ho.code;omega
 have ne : ∀m n:Int,decide (m=n)=false→¬m=n:=fun m n h=>of_decide_eq_false h
 rcases hc with hc|hc|hc|hc|hc|hc|hc|hc
 ·refine⟨qby,gp,qql x op.a gc,gg,by rw[hc];rfl,?_⟩
  have e:qgd x i q op=(x.create op.a (x.ownE 1 x.ev.proc 0),1):=by simp[qgd,hc]
  rw[e];exact hold_ev a0 a1 a2 am x gp gc gg op h
 ·refine⟨qb0,gp,qql x op.c gc,gg,by rw[hc];rfl,?_⟩
  have e:qgd x i q op=(x.create op.c ⟨0,[],op.a,3,0,op.b⟩,0):=by simp[qgd,hc]
  rw[e];exact send_ev a0 a1 a2 am x gp gc gg op h
 ·obtain⟨gc',gg',hz⟩:=timer_ev a0 a1 a2 am x gp gc gg op i q hi hq h hg
  refine⟨qbu,gp,gc',gg',by rw[hc];rfl,?_⟩
  have e:qgd x i q op=(x.timerE i q op,0):=by simp[qgd,hc]
  rw[e];exact hz
 ·refine⟨qbn,gp,gc,(if 0<q.timer.length then gg+1 else gg),by rw[hc];rfl,?_⟩
  have e:qgd x i q op=(x.stopE i q,0):=by simp[qgd,hc]
  rw[e];exact qaks a0 a1 a2 am x gp gc gg op i q hi hq h
 ·obtain⟨gp',gc',hz⟩:=spawn_ev a0 a1 a2 am x gp gc gg op h
  refine⟨qbt,gp',gc',gg,by rw[hc];rfl,?_⟩
  have e:qgd x i q op=(x.spawnE op,0):=by simp[qgd,hc]
  rw[e];exact hz
 ·refine⟨qce,gp,gc,gg,by rw[hc];rfl,?_⟩
  have e:qgd x i q op=(x.setReg op.a (w64 (x.reg op.a+op.b)),0):=by simp[qgd,hc]
  rw[e];exact add_ev a0 a1 a2 am x gp gc gg op (ho.reg (.inl hc))
 ·refine⟨qbz,gp,gc,gg,by rw[hc];rfl,?_⟩
  have e:qgd x i q op=(if x.reg op.a<op.b then x.setP i { q with pc:=op.c }else x,0):=by simp[qgd,hc]
  rw[e];exact less_ev a0 a1 a2 am x gp gc gg op i q hi hq (ho.reg (.inr hc))
 ·refine⟨qch,gp,gc,gg,by rw[hc];rfl,?_⟩
  have e:qgd x i q op=(x,2):=by simp[qgd,hc]
  rw[e];exact end_ev a0 a1 a2 am x gp gc gg op
end
def qs0 (x:Ex) (i:Nat):Ex:=match x.procs[i]? with
 |some q=>x.setP i { q with alive:=false }
 |none=>x
def qvq (p:List OpI) (i:Nat):Nat→Ex→Ex
 | 0,x=>qs0 x i
 |n+1,x=>match x.procs[i]? with
  |none=>x
  |some q=>match p[q.pc.toNat]? with
   |none=>qs0 x i
   |some op=>
    if (qgd (x.setP i { q with pc:=w64 (q.pc+1) }) i { q with pc:=w64 (q.pc+1) } op).2=1 then (qgd (x.setP i { q with pc:=w64 (q.pc+1) }) i { q with pc:=w64 (q.pc+1) } op).1
    else if (qgd (x.setP i { q with pc:=w64 (q.pc+1) }) i { q with pc:=w64 (q.pc+1) } op).2=2 then qs0 (qgd (x.setP i { q with pc:=w64 (q.pc+1) }) i { q with pc:=w64 (q.pc+1) } op).1 i
    else qvq p i n (qgd (x.setP i { q with pc:=w64 (q.pc+1) }) i { q with pc:=w64 (q.pc+1) } op).1
structure ActInv (e:Evt) (i n:Nat) (x:Ex):Prop where
 ev:x.ev=e
 has : ∃q,x.procs[i]? = some q∧0≤q.pc∧q.pc≤1000000
 procs:x.procs.length≤20
 out:x.out.length≤n
 gone:x.gone.length≤n
theorem ActInv.small {e:Evt} {i n:Nat} {x:Ex} (h:ActInv e i n x) (hn:n≤100) (hk:e.key.length≤100000):x.Small:=⟨by have:=h.procs;omega,by have:=h.out;omega,by have:=h.gone;omega,by rw[h.ev];exact hk⟩
theorem qaif (x:Ex) (d:Int) (e:Evt):(x.create d e).out.length≤x.out.length+1:=by
 unfold Ex.create;simp only;split
 ·omega
 ·simp
theorem ActInv.step {e:Evt} {i n:Nat} {x:Ex} (h:ActInv e i n x) {q:Pr} (hq:x.procs[i]? = some q) (hpc:0≤q.pc∧q.pc≤1000000) {op:OpI} (ho:OpOk' op):ActInv e i (n+1) (qgd x i q op).1:=by
 have hlt:=(zei.1 hq).1
 have hp:=h.procs
 have h1:=h.out
 have h2:=h.gone
 have stop:ActInv e i (n+1) (x.stopE i q)∧(x.stopE i q).out=x.out:=by
  unfold Ex.stopE;split
  ·exact⟨⟨h.ev,⟨{ q with timer:=[] },by simp only;rw[List.getElem?_set_self hlt],hpc⟩,by simpa using hp,by simp only;omega,by simp;omega⟩,rfl⟩
  ·exact⟨⟨h.ev,⟨q,hq,hpc⟩,hp,by omega,by omega⟩,rfl⟩
 have crt : ∀(y:Ex) (d:Int) (ev:Evt),y.ev=e→(∃q,y.procs[i]? = some q∧0≤q.pc∧q.pc≤1000000)→y.procs.length≤20→y.out.length≤n→y.gone.length≤n+1→ActInv e i (n+1) (y.create d ev):=fun y d ev k1 k2 k3 k4 k5=>
  ⟨k1,k2,k3,by have:=qaif y d ev;omega,k5⟩
 unfold qgd
 split
 ·exact crt x _ _ h.ev ⟨q,hq,hpc⟩ hp h1 (by omega)
 split
 ·exact crt x _ _ h.ev ⟨q,hq,hpc⟩ hp h1 (by omega)
 split
 ·obtain⟨s1,s2⟩:=stop
  have hc:=crt (x.stopE i q) op.a (x.ownE 2 x.ev.proc op.b) s1.ev s1.has s1.procs (by rw[s2];exact h1) s1.gone
  have hl:i<((x.stopE i q).create op.a (x.ownE 2 x.ev.proc op.b)).procs.length:=by
   obtain⟨q',hq',_⟩:=hc.has
   exact(zei.1 hq').1
  exact⟨hc.ev,⟨{ q with timer:=(x.stopE i q).kid },by simp only[Ex.timerE,Ex.setP];rw[List.getElem?_set_self hl],hpc⟩,by simp only[Ex.timerE,Ex.setP,List.length_set];exact hc.procs,hc.out,hc.gone⟩
 split
 ·exact stop.1
 split
 ·unfold Ex.spawnE
  split
  ·refine crt _ _ _ h.ev ⟨q,by simp only;rw[List.getElem?_append_left hlt];exact hq,hpc⟩ (by simp;omega) h1 (by simp only;omega)
  ·exact⟨h.ev,⟨q,hq,hpc⟩,hp,by first|omega|(simp only;omega),by first|omega|(simp only;omega)⟩
 split
 ·unfold Ex.setReg
  split<;>exact⟨h.ev,⟨q,hq,hpc⟩,hp,by first|omega|(simp only;omega),by first|omega|(simp only;omega)⟩
 split
 ·rename_i h7
  simp only
  split
  ·exact⟨h.ev,⟨{ q with pc:=op.c },by simp only[Ex.setP];rw[List.getElem?_set_self hlt],ho.to h7⟩,by simp only[Ex.setP,List.length_set];exact hp,by simp only[Ex.setP];omega,by simp only[Ex.setP];omega⟩
  ·exact⟨h.ev,⟨q,hq,hpc⟩,hp,by first|omega|(simp only;omega),by first|omega|(simp only;omega)⟩
 ·exact⟨h.ev,⟨q,hq,hpc⟩,hp,by first|omega|(simp only;omega),by first|omega|(simp only;omega)⟩
set_option maxRecDepth 10000
theorem ActInv.pc {e:Evt} {i n:Nat} {x:Ex} (h:ActInv e i n x) {q:Pr} (hq:x.procs[i]? = some q) {pc:Int} (hp:0≤pc∧pc≤1000000) (al:Bool):ActInv e i n (x.setP i { q with pc:=pc,alive:=al }):=by
 have hlt:=(zei.1 hq).1
 exact⟨h.ev,⟨{ q with pc:=pc,alive:=al },by simp only[Ex.setP];rw[List.getElem?_set_self hlt],hp⟩,by simp only[Ex.setP,List.length_set];exact h.procs,h.out,h.gone⟩
section
variable (a0 a1 a2:Int) (am:Nat) (e0:Evt) (i:Nat) (p:List OpI) (cl:Bool)
def ActEnd (a0 a1 a2:Int) (am:Nat) (e0:Evt) (i:Nat) (F:Ex) (y:CExit×Env×qf):Prop:=
 ∃z gp gc gg,y.2.2=[.row 4 [[(ii a0),(ii a1),.sl 2 0 0 am false,(ii a2)]] 0,.row 4 [[(ii 0),(ii 0),.fsl [] false,(ii 0)]] 0,.row 4 ((z.procs).map Pr.r) gp,.row 6 ((z.out).map Evt.r) gc,.row 1 ((z.gone).map qna) gg,.row 14 [[(ii z.r0),(ii z.r1),.sl 2 gp 0 z.procs.length false,(ii z.sum),(ii z.ev.time),(.fsl ((z.ev.key).map qa0) false),(ii z.ev.lp),(ii z.ev.kind),(ii z.ev.proc),(ii z.ev.arg),.sl 3 gc 0 z.out.length false,(ii z.n),.sl 4 gg 0 z.gone.length false,(bb z.over)]] 0,.mp .i64 qh2]∧y.2.1.marks=[]∧((y.1 = .ret∧z=F∧ActInv e0 i 16 z)∨(y.1 = .exit 0∧Ev.look y.2.1.vars 0=some (.ptr 5 0 0 0)∧qs0 z i=F∧ActInv e0 i 16 z))
theorem act_loop (hk:e0.key.length≤100000) (hpr:e0.proc=i) (hpl:p.length≤1000) (hok : ∀op∈p,OpOk' op) (x:Ex) (gp gc gg:Nat) (h0:ActInv e0 i 0 x) :
  ∃y,itB (exec (evL T) itL none qbg) (qai [0,1,4,7] true 7) ⟨[(0,.ptr 5 0 0 0),(1,(.fsl ((p).map OpI.r) cl)),(4,.mp 6),(7,(ii 0))],[]⟩ [.row 4 [[(ii a0),(ii a1),.sl 2 0 0 am false,(ii a2)]] 0,.row 4 [[(ii 0),(ii 0),.fsl [] false,(ii 0)]] 0,.row 4 ((x.procs).map Pr.r) gp,.row 6 ((x.out).map Evt.r) gc,.row 1 ((x.gone).map qna) gg,.row 14 [[(ii x.r0),(ii x.r1),.sl 2 gp 0 x.procs.length false,(ii x.sum),(ii x.ev.time),(.fsl ((x.ev.key).map qa0) false),(ii x.ev.lp),(ii x.ev.kind),(ii x.ev.proc),(ii x.ev.arg),.sl 3 gc 0 x.out.length false,(ii x.n),.sl 4 gg 0 x.gone.length false,(bb x.over)]] 0,.mp .i64 qh2]=some y∧ActEnd a0 a1 a2 am e0 i (qvq p i 16 x) y:=by
 have:=qg5 (f:=exec (evL T) itL none qbg) (s:=qai [0,1,4,7] true 7) (α:=Ex×Nat×Nat×Nat) (fun j _=>⟨[(0,.ptr 5 0 0 0),(1,(.fsl ((p).map OpI.r) cl)),(4,.mp 6),(7,(ii ((j:Int))))],[]⟩) (fun _ a=>[.row 4 [[(ii a0),(ii a1),.sl 2 0 0 am false,(ii a2)]] 0,.row 4 [[(ii 0),(ii 0),.fsl [] false,(ii 0)]] 0,.row 4 ((a.1.procs).map Pr.r) a.2.1,.row 6 ((a.1.out).map Evt.r) a.2.2.1,.row 1 ((a.1.gone).map qna) a.2.2.2,.row 14 [[(ii a.1.r0),(ii a.1.r1),.sl 2 a.2.1 0 a.1.procs.length false,(ii a.1.sum),(ii a.1.ev.time),(.fsl ((a.1.ev.key).map qa0) false),(ii a.1.ev.lp),(ii a.1.ev.kind),(ii a.1.ev.proc),(ii a.1.ev.arg),.sl 3 a.2.2.1 0 a.1.out.length false,(ii a.1.n),.sl 4 a.2.2.2 0 a.1.gone.length false,(bb a.1.over)]] 0,.mp .i64 qh2])
  (fun j a=>ActInv e0 i j a.1∧qvq p i (16-j) a.1=qvq p i 16 x) 16 (ActEnd a0 a1 a2 am e0 i (qvq p i 16 x)) ?_ ?_ 0 (x,gp,gc,gg) (Nat.zero_le _) ⟨h0,rfl⟩
 ·exact this
 ·rintro j ⟨y,gp,gc,gg⟩ hj ⟨hi1,hi2⟩
  simp only at hi1 hi2⊢
  obtain⟨q,hq,hpc⟩:=hi1.has
  have hlt:=(zei.1 hq).1
  have hpr':y.ev.proc=i:=by rw[hi1.ev];exact hpr
  have hj':(j:Int)<16:=by omega
  have hw:IntKind.i64.wrap ((j:Int)+1)=((j+1:Nat):Int):=by rw[qi (by omega) (by omega)];simp
  have s1:=qzs a0 a1 a2 am y gp gc gg i hpr' hlt
  rw[show 16-j=(16-(j+1))+1 from by omega,qvq,hq]at hi2
  simp only at hi2
  cases hop:p[q.pc.toNat]? with
  |none=>
   rw[hop]at hi2
   simp only at hi2
   have hge:q.pc≥(p.length:Int):=by have:=List.getElem?_eq_none_iff.1 hop;omega
   right
   simp only[qbg,hj',hge,s1,zgq,zgt,hq,Pr.r,Ev.ev1,qb,zgy,↓qc,↓reduceIte,Nat.reduceEqDiff,reduceCtorEq]
   exact⟨_,rfl,y,gp,gc,gg,rfl,rfl,.inr ⟨rfl,rfl,hi2,⟨hi1.ev,hi1.has,hi1.procs,by have:=hi1.out;omega,by have:=hi1.gone;omega⟩⟩⟩
  |some op=>
   rw[hop]at hi2
   simp only at hi2
   have hlp:=(zei.1 hop).1
   have hge:¬q.pc≥(p.length:Int):=by omega
   have hwq:w64 (q.pc+1)=q.pc+1:=qi (by omega) (by omega)
   have hwq':IntKind.i64.wrap (q.pc+1)=q.pc+1:=hwq
   have hset:(y.procs.map Pr.r).set i [(ii q.prog),(ii (q.pc+1)),(bb q.alive),(.fsl ((q.timer).map qa0) false)]=(y.procs.set i { q with pc:=q.pc+1 }).map Pr.r:=by rw[List.map_set];rfl
   have hl:(y.procs.set i { q with pc:=q.pc+1 }).length=y.procs.length:=by simp
   rw[hwq]at hi2
   have hz:ActInv e0 i j (y.setP i { q with pc:=q.pc+1 }):=hi1.pc hq (by omega) q.alive
   have hzq:(y.setP i { q with pc:=q.pc+1 }).procs[i]? = some { q with pc:=q.pc+1 }:=by simp only[Ex.setP];rw[List.getElem?_set_self hlt]
   have hzp:(y.setP i { q with pc:=q.pc+1 }).ev.proc=i:=hpr'
   have hoo:=hok op (zmg hop)
   have hn:=hz.step hzq (show 0≤q.pc+1∧q.pc+1≤1000000 by omega) hoo
   obtain⟨k,gp',gc',gg',t1,t2⟩:=step_ev a0 a1 a2 am (y.setP i { q with pc:=q.pc+1 }) gp gc gg op i { q with pc:=q.pc+1 } (hz.small (by omega) hk) (by have:=hz.gone;omega) hzp hzq hoo
   generalize hS:qgd (y.setP i { q with pc:=q.pc+1 }) i { q with pc:=q.pc+1 } op=S at hi2 hn t2
   obtain⟨z,sig⟩:=S
   simp only at hi2 hn t2
   have hsig:sig=0∨sig=1∨sig=2:=by
    have:(qgd (y.setP i { q with pc:=q.pc+1 }) i { q with pc:=q.pc+1 } op).2=sig:=by rw[hS]
    rw[←this]
    unfold qgd
    repeat' (first|(split)|exact .inl rfl|exact .inr (.inl rfl)|exact .inr (.inr rfl))
   simp only[Ex.setP,hl]at t2
   obtain⟨qz,hqz,hqzp⟩:=hn.has
   have hltz:=(zei.1 hqz).1
   have s2:=qzs a0 a1 a2 am z gp' gc' gg' i (by rw[hn.ev];exact hpr) hltz
   rcases hsig with rfl|rfl|rfl
   ·left
    refine⟨(z,gp',gc',gg'),?_,hn,?_⟩
    ·simp only[qbg,hj',hge,s1,hpc,hop,hwq',t1,t2,hw,zgq,zgt,hq,Pr.r,OpI.r,qia,qm,qa3,qq,qew,Nat.reduceLT,Nat.reduceLeDiff,Ev.ev1,Ev.stP,qb,Ev.AV.cells,Ev.AV.uc,Ev.AV.plain,Ev.SObj.lo,zgy,↓qc,↓reduceIte,Nat.reduceAdd,Nat.reduceEqDiff,Nat.reduceLT,Nat.reduceLeDiff,Int.reduceEq,reduceCtorEq,hset]
    ·simp only[show ¬(0:Int)=1 from by decide,show ¬(0:Int)=2 from by decide,if_false]at hi2
     exact hi2
   ·right
    simp only[if_true]at hi2
    simp only[qbg,hj',hge,s1,hpc,hop,hwq',t1,t2,zgq,zgt,hq,Pr.r,OpI.r,Nat.reduceLeDiff,Ev.ev1,Ev.stP,qb,Ev.AV.cells,Ev.AV.uc,Ev.AV.plain,zgy,↓qc,↓reduceIte,Nat.reduceAdd,Nat.reduceEqDiff,Nat.reduceLeDiff,reduceCtorEq,hset]
    exact⟨_,rfl,z,gp',gc',gg',rfl,rfl,.inl ⟨rfl,hi2,⟨hn.ev,hn.has,hn.procs,by have:=hn.out;omega,by have:=hn.gone;omega⟩⟩⟩
   ·right
    simp only[show ¬(2:Int)=1 from by decide,if_true,if_false]at hi2
    have hkz:qs0 z i=z.setP i { qz with alive:=false }:=by unfold qs0;rw[hqz]
    rw[hkz]at hi2
    have hset2:(z.procs.map Pr.r).set i [(ii qz.prog),(ii qz.pc),(bb false),(.fsl ((qz.timer).map qa0) false)]=(z.procs.set i { qz with alive:=false }).map Pr.r:=by rw[List.map_set];rfl
    have hl2:(z.procs.set i { qz with alive:=false }).length=z.procs.length:=by simp
    have hfin:=hn.pc hqz hqzp false
    simp only[qbg,hj',hge,s1,hpc,hop,hwq',t1,t2,s2,zgq,zgt,hq,hqz,Pr.r,OpI.r,Nat.reduceLeDiff,Ev.ev1,Ev.stP,qb,Ev.AV.cells,Ev.AV.uc,Ev.AV.plain,zgy,↓qc,↓reduceIte,Nat.reduceAdd,Nat.reduceEqDiff,Nat.reduceLeDiff,Int.reduceEq,reduceCtorEq,hset,hset2]
    refine⟨_,rfl,z.setP i { qz with alive:=false },gp',gc',gg',?_,rfl,.inl ⟨rfl,hi2,⟨hfin.ev,hfin.has,hfin.procs,by have:=hfin.out;omega,by have:=hfin.gone;omega⟩⟩⟩
    simp only[Ex.setP,hl2]
 ·rintro⟨y,gp,gc,gg⟩ ⟨hi1,hi2⟩
  simp only[qbg,Int.lt_irrefl,Ev.ev1,zgy,↓qc,↓reduceIte,Nat.reduceEqDiff,reduceCtorEq]
  exact⟨_,rfl,y,gp,gc,gg,rfl,rfl,.inr ⟨rfl,rfl,hi2,hi1⟩⟩
end
set_option maxRecDepth 10000
theorem qy9:(evL T).call qec [] []=some (.mp 0,[.mp .i64 qh2]):=by
 rw[qe qv4 quu]
 simp only[qjb,qh2,Ev.ev1,qh,zgy,↓qc,↓reduceIte,Nat.reduceLT,Int.reduceEq]
section
variable (a0 a1 a2:Int) (am:Nat) (e0:Evt) (i:Nat) (p:List OpI) (cl:Bool)
theorem qafr (hk:e0.key.length≤100000) (hpr:e0.proc=i) (hpl:p.length≤1000) (hok : ∀op∈p,OpOk' op) (x:Ex) (gp gc gg:Nat) (h0:ActInv e0 i 0 x) :
  ∃gp' gc' gg',(evL T).call qci [.ptr 5 0 0 0,(.fsl ((p).map OpI.r) cl)] [.row 4 [[(ii a0),(ii a1),.sl 2 0 0 am false,(ii a2)]] 0,.row 4 [[(ii 0),(ii 0),.fsl [] false,(ii 0)]] 0,.row 4 ((x.procs).map Pr.r) gp,.row 6 ((x.out).map Evt.r) gc,.row 1 ((x.gone).map qna) gg,.row 14 [[(ii x.r0),(ii x.r1),.sl 2 gp 0 x.procs.length false,(ii x.sum),(ii x.ev.time),(.fsl ((x.ev.key).map qa0) false),(ii x.ev.lp),(ii x.ev.kind),(ii x.ev.proc),(ii x.ev.arg),.sl 3 gc 0 x.out.length false,(ii x.n),.sl 4 gg 0 x.gone.length false,(bb x.over)]] 0]=some (.tup [],[.row 4 [[(ii a0),(ii a1),.sl 2 0 0 am false,(ii a2)]] 0,.row 4 [[(ii 0),(ii 0),.fsl [] false,(ii 0)]] 0,.row 4 (((qvq p i 16 x).procs).map Pr.r) gp',.row 6 (((qvq p i 16 x).out).map Evt.r) gc',.row 1 (((qvq p i 16 x).gone).map qna) gg',.row 14 [[(ii ((qvq p i 16 x).r0)),(ii ((qvq p i 16 x).r1)),.sl 2 gp' 0 (qvq p i 16 x).procs.length false,(ii ((qvq p i 16 x).sum)),(ii ((qvq p i 16 x).ev.time)),(.fsl (((qvq p i 16 x).ev.key).map qa0) false),(ii ((qvq p i 16 x).ev.lp)),(ii ((qvq p i 16 x).ev.kind)),(ii ((qvq p i 16 x).ev.proc)),(ii ((qvq p i 16 x).ev.arg)),.sl 3 gc' 0 (qvq p i 16 x).out.length false,(ii ((qvq p i 16 x).n)),.sl 4 gg' 0 (qvq p i 16 x).gone.length false,(bb ((qvq p i 16 x).over))]] 0])∧ActInv e0 i 16 (qvq p i 16 x):=by
 obtain⟨⟨y,e,σ⟩,k1,z,gp',gc',gg',k2,k3,k4⟩:=act_loop a0 a1 a2 am e0 i p cl hk hpr hpl hok x gp gc gg h0
 simp only at k2 k3 k4
 subst k2
 generalize qvq p i 16 x=F at k4
 rw[qe qqa qpn]
 rcases k4 with ⟨rfl,rfl,k5⟩|⟨rfl,k5,k6,k7⟩
 ·refine⟨gp',gc',gg',?_,k5⟩
  simp only[qej,qy9,k1,k3,qia,qm,qa3,qq,qew,Nat.reduceLT,Ev.ev1,q1x,qh,Ev.SObj.lo,zgy,↓qc,↓qv,↓reduceIte,Nat.reduceAdd,Nat.reduceEqDiff,Nat.reduceLT,reduceCtorEq]
 ·obtain⟨q,hq,hpc⟩:=k7.has
  have hlt:=(zei.1 hq).1
  have s2:=qzs a0 a1 a2 am z gp' gc' gg' i (by rw[k7.ev];exact hpr) hlt
  have hkz:qs0 z i=z.setP i { q with alive:=false }:=by unfold qs0;rw[hq]
  rw[hkz]at k6
  have hset:(z.procs.map Pr.r).set i [(ii q.prog),(ii q.pc),(bb false),(.fsl ((q.timer).map qa0) false)]=(z.procs.set i { q with alive:=false }).map Pr.r:=by rw[List.map_set];rfl
  have hl:(z.procs.set i { q with alive:=false }).length=z.procs.length:=by simp
  have hfin:=k7.pc hq hpc false
  subst k6
  refine⟨gp',gc',gg',?_,hfin⟩
  simp only[Ex.setP,hl]
  simp only[qej,qy9,k1,k3,k5,s2,zgq,zgt,hq,Pr.r,qia,qm,qa3,qq,qew,Nat.reduceLT,Nat.reduceLeDiff,Ev.ev1,Ev.stP,q1x,Ev.AV.cells,Ev.AV.uc,Ev.AV.plain,qh,Ev.SObj.lo,zgy,↓qc,↓qv,↓reduceIte,Nat.reduceAdd,Nat.reduceEqDiff,Nat.reduceLT,Nat.reduceLeDiff,reduceCtorEq,hset]
end
set_option maxRecDepth 10000
theorem qaab (l:List Pr) (c:Bool) (h:l.length≤1000):(evL T).call qc2 [(.fsl ((l).map Pr.r) c)] []=some (.sl 0 0 0 l.length false,[.row 4 (l.map Pr.r) 0]):=by
 have h':l.length*48≤140737488355328:=by omega
 rw[q35 qn7]
 simp only[qts,qa3,procs_ok,h',Ev.ev1,zgy,↓reduceIte,Nat.reduceLT,Nat.reducePow]
theorem qag9 (a0 a1 a2:Int) (am:Nat) (x:Ex) (gp gc gg:Nat) (i:Nat) (hi:x.ev.proc=i) (hp:i<x.procs.length) :
  (evL T).call qah [.ptr 5 0 0 0] [.row 4 [[(ii a0),(ii a1),.sl 2 0 0 am false,(ii a2)]] 0,.row 4 [[(ii 0),(ii 0),.fsl [] false,(ii 0)]] 0,.row 4 ((x.procs).map Pr.r) gp,.row 6 ((x.out).map Evt.r) gc,.row 1 ((x.gone).map qna) gg,.row 14 [[(ii x.r0),(ii x.r1),.sl 2 gp 0 x.procs.length false,(ii x.sum),(ii x.ev.time),(.fsl ((x.ev.key).map qa0) false),(ii x.ev.lp),(ii x.ev.kind),(ii x.ev.proc),(ii x.ev.arg),.sl 3 gc 0 x.out.length false,(ii x.n),.sl 4 gg 0 x.gone.length false,(bb x.over)]] 0]=some (.ptr 2 gp i 0,[.row 4 [[(ii a0),(ii a1),.sl 2 0 0 am false,(ii a2)]] 0,.row 4 [[(ii 0),(ii 0),.fsl [] false,(ii 0)]] 0,.row 4 ((x.procs).map Pr.r) gp,.row 6 ((x.out).map Evt.r) gc,.row 1 ((x.gone).map qna) gg,.row 14 [[(ii x.r0),(ii x.r1),.sl 2 gp 0 x.procs.length false,(ii x.sum),(ii x.ev.time),(.fsl ((x.ev.key).map qa0) false),(ii x.ev.lp),(ii x.ev.kind),(ii x.ev.proc),(ii x.ev.arg),.sl 3 gc 0 x.out.length false,(ii x.n),.sl 4 gg 0 x.gone.length false,(bb x.over)]] 0]):=by
 rw[qe qm9 qmi]
 simp only[qgj,hi,hp,zgs,zgr,qm,qa3,qq,qew,Nat.reduceLT,Ev.ev1,qb,qh,Ev.SObj.lo,zgy,↓qc,↓reduceIte,Nat.reduceAdd,Nat.reduceEqDiff,Nat.reduceLT,reduceCtorEq]
def ql4 (x:Lp) (e:Evt):Ex:=⟨x.r0,x.r1,x.procs,x.sum,e,[],0,[],false⟩
def qn6 (e:Evt) (q:Pr):Pr:=if e.kind=2 then { q with pc:=e.arg,timer:=if q.timer=e.key then []else q.timer }else q
def endE (x:Ex):Lp:=⟨x.r0,x.r1,x.procs,x.sum⟩
def qwd (x:Lp) (e:Evt):Option Pr:=if (e.kind=1∨e.kind=2)∧0≤e.proc then (x.procs[e.proc.toNat]?).bind fun q=>if q.alive=true then some q else none else none
def q0m (c:Cfg) (x:Lp) (e:Evt) (q:Pr):Ex:=qvq ((c.progs[q.prog.toNat]?).getD []) e.proc.toNat 16 ((ql4 x e).setP e.proc.toNat (qn6 e q))
structure q5u (c:Cfg) (x:Lp) (e:Evt):Prop where
 procs:x.procs.length≤20
 key:e.key.length≤100000
 proc : ∀q∈x.procs,0≤q.prog∧q.prog<c.progs.length∧0≤q.pc∧q.pc≤1000000∧q.timer.length≤100000
 prog : ∀p∈c.progs,p.length≤1000 ∧ ∀op∈p,OpOk' op
 arg:e.kind=2→0≤e.arg∧e.arg≤1000000
section
variable (c:Cfg) (x:Lp) (e:Evt)
theorem Exec_msg (hk:e.kind=3):qac (evL T) qd8 [(.agg [(.fsl ((c.lps).map lpC) false),(.fsl ((c.progs).map qaz) false),(ii c.look),(ii c.fin),(ii c.cap)]),(.agg [(ii x.r0),(ii x.r1),(.fsl ((x.procs).map Pr.r) false),(ii x.sum)]),(.agg [(ii e.time),(.fsl ((e.key).map qa0) false),(ii e.lp),(ii e.kind),(ii e.proc),(ii e.arg)])]=some (.tup [(.agg [(ii ((⟨x.r0,x.r1,x.procs,w64 (x.sum+e.arg)⟩:Lp).r0)),(ii ((⟨x.r0,x.r1,x.procs,w64 (x.sum+e.arg)⟩:Lp).r1)),(.fsl (((⟨x.r0,x.r1,x.procs,w64 (x.sum+e.arg)⟩:Lp).procs).map Pr.r) false),(ii ((⟨x.r0,x.r1,x.procs,w64 (x.sum+e.arg)⟩:Lp).sum))]),.fsl [] true,.fsl [] true,(bb false)]):=by
 rw[qac,qe qnz qmz]
 simp only[qbk,hk,qa3,Ev.ev1,Ev.stP,qb,Ev.AV.cells,Ev.AV.uc,Ev.AV.plain,qh,ne_eq,zgy,↓qc,↓reduceIte,Nat.reduceAdd,Nat.reduceEqDiff,reduceCtorEq]
theorem qamk (hk:¬e.kind=3) (ha:qwd x e=none):qac (evL T) qd8 [(.agg [(.fsl ((c.lps).map lpC) false),(.fsl ((c.progs).map qaz) false),(ii c.look),(ii c.fin),(ii c.cap)]),(.agg [(ii x.r0),(ii x.r1),(.fsl ((x.procs).map Pr.r) false),(ii x.sum)]),(.agg [(ii e.time),(.fsl ((e.key).map qa0) false),(ii e.lp),(ii e.kind),(ii e.proc),(ii e.arg)])]=some (.tup [(.agg [(ii x.r0),(ii x.r1),(.fsl ((x.procs).map Pr.r) false),(ii x.sum)]),.fsl [] true,.fsl [] true,(bb false)]):=by
 rw[qac,qe qnz qmz]
 by_cases k1:e.kind=1
 case neg=>
  by_cases k2:e.kind=2
  case neg=>simp only[qbk,hk,k1,k2,qa3,Ev.ev1,Ev.stP,qb,Ev.AV.cells,Ev.AV.plain,qh,ne_eq,zgy,↓qc,↓reduceIte,Nat.reduceAdd,Nat.reduceEqDiff,reduceCtorEq]
  by_cases h1:e.proc<0
  ·simp only[qbk,k2,h1,qa3,Ev.ev1,Ev.stP,qb,Ev.AV.cells,Ev.AV.plain,qh,ne_eq,zgy,↓qc,↓reduceIte,Nat.reduceAdd,Nat.reduceEqDiff,Int.reduceEq,reduceCtorEq]
  by_cases h2:e.proc≥(x.procs.length:Int)
  ·simp only[qbk,k2,h1,h2,qa3,Ev.ev1,Ev.stP,qb,Ev.AV.cells,Ev.AV.plain,qh,ne_eq,zgy,↓qc,↓reduceIte,Nat.reduceAdd,Nat.reduceEqDiff,Int.reduceEq,reduceCtorEq]
  obtain⟨q,hq⟩ : ∃q,x.procs[e.proc.toNat]? = some q:=⟨_,zgE (by omega)⟩
  have h0:0≤e.proc:=by omega
  have hal:q.alive=false:=by
   unfold qwd at ha
   rw[if_pos ⟨.inr k2,h0⟩,hq]at ha
   cases h:q.alive with
   |false=>rfl
   |true=>simp[h]at ha
  simp only[qbk,k2,h0,h1,h2,hq,hal,zgq,zgt,Pr.r,qa3,Ev.ev1,Ev.stP,qb,Ev.AV.cells,Ev.AV.plain,qh,ne_eq,zgy,↓qc,↓reduceIte,Nat.reduceAdd,Nat.reduceEqDiff,Int.reduceEq,reduceCtorEq]
 by_cases h1:e.proc<0
 ·simp only[qbk,k1,h1,qa3,Ev.ev1,Ev.stP,qb,Ev.AV.cells,Ev.AV.plain,qh,ne_eq,zgy,↓qc,↓reduceIte,Nat.reduceAdd,Nat.reduceEqDiff,Int.reduceEq,reduceCtorEq]
 by_cases h2:e.proc≥(x.procs.length:Int)
 ·simp only[qbk,k1,h1,h2,qa3,Ev.ev1,Ev.stP,qb,Ev.AV.cells,Ev.AV.plain,qh,ne_eq,zgy,↓qc,↓reduceIte,Nat.reduceAdd,Nat.reduceEqDiff,Int.reduceEq,reduceCtorEq]
 obtain⟨q,hq⟩ : ∃q,x.procs[e.proc.toNat]? = some q:=⟨_,zgE (by omega)⟩
 have h0:0≤e.proc:=by omega
 have hal:q.alive=false:=by
  unfold qwd at ha
  rw[if_pos ⟨.inl k1,h0⟩,hq]at ha
  cases h:q.alive with
  |false=>rfl
  |true=>simp[h]at ha
 simp only[qbk,k1,h0,h1,h2,hq,hal,zgq,zgt,Pr.r,qa3,Ev.ev1,Ev.stP,qb,Ev.AV.cells,Ev.AV.plain,qh,ne_eq,zgy,↓qc,↓reduceIte,Nat.reduceAdd,Nat.reduceEqDiff,Int.reduceEq,reduceCtorEq]
end
set_option maxRecDepth 10000
section
variable (c:Cfg) (x:Lp) (e:Evt)
theorem qaeg (h:q5u c x e) {i:Nat} {q:Pr} (hi:e.proc=i) (hq:x.procs[i]? = some q):ActInv e i 0 ((ql4 x e).setP i (qn6 e q)):=by
 have hlt:=(zei.1 hq).1
 obtain⟨p1,p2,p3,p4,p5⟩:=h.proc q (zmg hq)
 refine⟨rfl,⟨qn6 e q,by simp only[Ex.setP,ql4];rw[List.getElem?_set_self hlt],?_⟩,by simp only[Ex.setP,ql4,List.length_set];exact h.procs,Nat.le_refl _,Nat.le_refl _⟩
 unfold qn6
 by_cases k:e.kind=2
 ·rw[if_pos k];exact h.arg k
 ·rw[if_neg k];exact⟨p3,p4⟩
theorem qaer (q:Pr):(qn6 e q).prog=q.prog:=by unfold qn6;split<;>rfl
theorem Exec_run (h:q5u c x e) {q:Pr} (ha:qwd x e=some q) :
  qac (evL T) qd8 [(.agg [(.fsl ((c.lps).map lpC) false),(.fsl ((c.progs).map qaz) false),(ii c.look),(ii c.fin),(ii c.cap)]),(.agg [(ii x.r0),(ii x.r1),(.fsl ((x.procs).map Pr.r) false),(ii x.sum)]),(.agg [(ii e.time),(.fsl ((e.key).map qa0) false),(ii e.lp),(ii e.kind),(ii e.proc),(ii e.arg)])]=some (.tup [(.agg [(ii ((endE (q0m c x e q)).r0)),(ii ((endE (q0m c x e q)).r1)),(.fsl (((endE (q0m c x e q)).procs).map Pr.r) false),(ii ((endE (q0m c x e q)).sum))]),(.fsl (((q0m c x e q).out).map Evt.r) false),(.fsl (((q0m c x e q).gone).map qna) false),(bb ((q0m c x e q).over))]):=by
 unfold qwd at ha
 split at ha
 case isFalse=>cases ha
 rename_i hc
 obtain⟨hkind,h0⟩:=hc
 obtain⟨i,hi⟩ : ∃i:Nat,e.proc=i:=⟨_,(Int.toNat_of_nonneg h0).symm⟩
 have hin:e.proc.toNat=i:=by omega
 rw[hin,zob]at ha
 obtain⟨q',hq,ha⟩:=ha
 split at ha
 case isFalse=>cases ha
 rename_i hal
 cases ha
 have hlt:=(zei.1 hq).1
 obtain⟨p1,p2,p3,p4,p5⟩:=h.proc q (zmg hq)
 obtain⟨p,hp⟩ : ∃p,c.progs[q.prog.toNat]? = some p:=⟨_,zgE (by omega)⟩
 obtain⟨pl,pok⟩:=h.prog p (zmg hp)
 have hinv:=qaeg c x e h hi hq
 obtain⟨gp,gc,gg,hact,hend⟩:=qafr x.r0 x.r1 x.sum x.procs.length e i p false h.key hi pl pok ((ql4 x e).setP i (qn6 e q)) 0 0 0 hinv
 have hrun:q0m c x e q=qvq p i 16 ((ql4 x e).setP i (qn6 e q)):=by unfold q0m;rw[hin,hp];rfl
 rw[hrun]
 generalize qvq p i 16 ((ql4 x e).setP i (qn6 e q))=F at hact hend
 have hcl:=qaab x.procs false (by have:=h.procs;omega)
 have h1:¬e.proc<0:=by omega
 have h2:¬e.proc≥(x.procs.length:Int):=by omega
 have h9:((i:Int)).toNat=i:=Int.toNat_natCast i
 have h3:¬e.kind=3:=by omega
 have s0:=qag9 x.r0 x.r1 x.sum x.procs.length (ql4 x e) 0 0 0 i hi hlt
 have hset:(x.procs.map Pr.r).set i [(ii ((qn6 e q).prog)),(ii ((qn6 e q).pc)),(bb ((qn6 e q).alive)),(.fsl (((qn6 e q).timer).map qa0) false)]=(x.procs.set i (qn6 e q)).map Pr.r:=by rw[List.map_set];rfl
 have hl:(x.procs.set i (qn6 e q)).length=x.procs.length:=by simp
 have hq2:(x.procs.set i (qn6 e q))[i]? = some (qn6 e q):=by rw[List.getElem?_set_self hlt]
 have s1:=qag9 x.r0 x.r1 x.sum x.procs.length ((ql4 x e).setP i (qn6 e q)) 0 0 0 i hi (by simp only[Ex.setP,ql4,List.length_set];exact hlt)
 rw[hi]at h0 h1 h2
 simp only[ql4,List.map_nil,zgb,hi]at s0
 simp only[ql4,Ex.setP,List.map_nil,zgb,hl,hi]at s1 hact
 have ft : ∀ {τ:Type} (l:List τ) (f:τ→List AV),List.take l.length (l.map f)=l.map f:=fun l f=>ztl (by simp)
 have hpr:=qaer e q
 rw[qac,qe qnz qmz]
 rcases hkind with k1|k2
 ·have hwk:qn6 e q=q:=by unfold qn6;rw[if_neg (by omega)]
  have hss:x.procs.set i q=x.procs:=by
   obtain⟨hlt',hge⟩:=zei.1 hq
   rw[←hge,List.set_getElem_self]
  rw[hwk,hss]at hact
  have k2:¬e.kind=2:=by omega
  have k3:¬(1:Int)=3:=by decide
  have k4:¬(1:Int)=2:=by decide
  simp only[k1]at s0 hact⊢
  simp only[qbk,k3,k4,h0,h1,h2,hi,hq,hal,hcl,s0,p1,hp,hact,ft,endE,zgr,zgq,zgt,Pr.r,qaz,qa3,qq,qew,Nat.reduceLT,Nat.reduceLeDiff,Ev.ev1,Ev.stP,q1x,qb,Ev.AV.cells,Ev.AV.uc,Ev.AV.plain,qh,Ev.AV.obj?,ne_eq,zgy,↓qc,↓reduceIte,Nat.reduceAdd,Nat.reduceEqDiff,Nat.reduceBEq,Nat.reduceLT,Nat.reduceLeDiff,reduceCtorEq]
  done
 ·have k1:¬(2:Int)=1:=by decide
  have k3:¬(2:Int)=3:=by decide
  have hkl:=h.key
  have hwk:qn6 e q = { q with pc:=e.arg,timer:=if q.timer=e.key then []else q.timer }:=by unfold qn6;rw[if_pos k2]
  obtain⟨qp,qpc,qa,qt⟩:=q
  dsimp only at *
  subst hal
  have heq:=qrt qt e.key false false (by omega) (by omega)
  have hset1:(x.procs.map Pr.r).set i [(ii qp),(ii e.arg),(bb true),(.fsl ((qt).map qa0) false)]=(x.procs.set i ⟨qp,e.arg,true,qt⟩).map Pr.r:=by rw[List.map_set];rfl
  have hg1:(x.procs.set i ⟨qp,e.arg,true,qt⟩)[i]? = some ⟨qp,e.arg,true,qt⟩:=by rw[List.getElem?_set_self hlt]
  have hset2:((x.procs.set i ⟨qp,e.arg,true,qt⟩).map Pr.r).set i [(ii qp),(ii e.arg),(bb true),.fsl [] false]=(x.procs.set i ⟨qp,e.arg,true,[]⟩).map Pr.r:=by
   have:x.procs.set i ⟨qp,e.arg,true,[]⟩=(x.procs.set i ⟨qp,e.arg,true,qt⟩).set i ⟨qp,e.arg,true,[]⟩:=by rw[List.set_set]
   rw[this,List.map_set (l:=x.procs.set i ⟨qp,e.arg,true,qt⟩)];rfl
  have hl1:(x.procs.set i ⟨qp,e.arg,true,qt⟩).length=x.procs.length:=by simp
  rw[hwk]at s1 hact hq2
  simp only[k2]at s0 s1 hact⊢
  by_cases ht:qt=e.key
  ·simp only[ht,if_true]at s1 hact hq2
   simp only[ht,zgv]at heq
   simp only[ht]at hset1 hset2 hg1
   simp only[qbk,k1,k3,h0,h1,h2,hi,hq,hcl,s0,s1,p1,hp,hact,ft,heq,hset1,hset2,hg1,hq2,ht,endE,zgr,zgq,zgt,Pr.r,qaz,qm,qa3,qq,qew,Nat.reduceLT,Nat.reduceLeDiff,Ev.ev1,Ev.stP,q1x,qb,Ev.AV.cells,Ev.AV.uc,Ev.AV.plain,qh,Ev.AV.obj?,ne_eq,zgy,↓qc,↓reduceIte,Nat.reduceAdd,Nat.reduceEqDiff,Nat.reduceBEq,Nat.reduceLT,Nat.reduceLeDiff,reduceCtorEq]
   done
  ·simp only[ht,if_false]at s1 hact hq2
   simp only[ht,zgw]at heq
   simp only[qbk,k1,k3,h0,h1,h2,hi,hq,hcl,s0,s1,p1,hp,hact,ft,heq,hset1,hg1,endE,zgr,zgq,zgt,Pr.r,qaz,qm,qa3,qq,qew,Nat.reduceLT,Nat.reduceLeDiff,Ev.ev1,Ev.stP,q1x,qb,Ev.AV.cells,Ev.AV.uc,Ev.AV.plain,qh,Ev.AV.obj?,ne_eq,zgy,↓qc,↓reduceIte,Nat.reduceAdd,Nat.reduceEqDiff,Nat.reduceBEq,Nat.reduceLT,Nat.reduceLeDiff,reduceCtorEq]
   done
end
set_option maxRecDepth 10000
structure Lp.Short (x:Lp):Prop where
 len:x.procs.length≤9223372036854775807
 timer : ∀q∈x.procs,q.timer.length≤9223372036854775807
section
variable (a b:Lp) (cf df:Bool)
theorem qabb (h1:a.Short) (h2:b.Short):qac (evL T) qj4 [(.agg [(ii a.r0),(ii a.r1),(.fsl ((a.procs).map Pr.r) cf),(ii a.sum)]),(.agg [(ii b.r0),(ii b.r1),(.fsl ((b.procs).map Pr.r) df),(ii b.sum)])]=some (bb (decide (a=b))):=by
 obtain⟨ar0,ar1,ap,as'⟩:=a
 obtain⟨br0,br1,bp,bs'⟩:=b
 obtain⟨l1,t1⟩:=h1
 obtain⟨l2,t2⟩:=h2
 dsimp only at *
 simp only[Lp.mk.injEq]
 rw[qac,qe q6g q37]
 by_cases e1:ar0=br0
 case neg=>
  have e1':(ar0==br0)=false:=beq_false_of_ne e1
  simp only[qhg,e1,e1',false_and,zgw,Bool.false_and,Ev.ev1,qb,Ev.AV.cells,Ev.AV.plain,qg4,qh,ne_eq,zgy,↓qc,↓reduceIte,Nat.reduceAdd,Nat.reduceEqDiff,Nat.reduceLeDiff,reduceCtorEq]
 by_cases e2:ar1=br1
 case neg=>
  have e2':(ar1==br1)=false:=beq_false_of_ne e2
  simp only[qhg,e1,e2,e2',false_and,and_false,zgw,Bool.and_false,beq_self_eq_true,Bool.and_true,Ev.ev1,qb,Ev.AV.cells,Ev.AV.plain,qg4,qh,ne_eq,zgy,↓qc,↓reduceIte,Nat.reduceAdd,Nat.reduceEqDiff,Nat.reduceLeDiff,reduceCtorEq]
 subst e1
 subst e2
 by_cases e3:as'=bs'
 case neg=>simp only[qhg,e3,and_false,zgw,beq_self_eq_true,Ev.ev1,qb,Ev.AV.cells,Ev.AV.plain,qg4,qh,ne_eq,zgy,↓qc,↓reduceIte,Nat.reduceAdd,Nat.reduceEqDiff,Nat.reduceLeDiff,reduceCtorEq]
 subst e3
 by_cases hab:ap.length=bp.length
 case neg=>
  have hab':¬(ap.length:Int)=(bp.length:Int):=by omega
  have:¬ap=bp:=fun h=>hab (by rw[h])
  simp only[qhg,hab',this,and_false,zgw,beq_self_eq_true,Ev.ev1,qb,Ev.AV.cells,Ev.AV.plain,qg4,qh,ne_eq,zgy,↓qc,↓reduceIte,Nat.reduceAdd,Nat.reduceEqDiff,Nat.reduceLeDiff,reduceCtorEq]
 have hab':(ap.length:Int)=(bp.length:Int):=by omega
 have hzl:(ap.zip bp).length=ap.length:=by rw[List.length_zip,←hab,Nat.min_self]
 have hL : ∃y,itB (exec (evL T) itL none qgk) (qai [2,3,5] true 0) ⟨[(2,.fptr [(ii ar0),(ii ar1),(.fsl ((ap).map Pr.r) cf),(ii as')]),(3,.fptr [(ii ar0),(ii ar1),(.fsl ((bp).map Pr.r) df),(ii as')]),(5,(ii 0))],[]⟩ []=some y∧((ap.zip bp).all (fun z=>decide (z.1=z.2))=true∧(y.1 = .exit 0∧y.2.1.marks=[]∧y.2.2=[]) ∨
   (ap.zip bp).all (fun z=>decide (z.1=z.2))=false ∧ ∃x,(ap.zip bp).find? (fun z => !decide (z.1=z.2))=some x∧(y.1 = .ret∧y.2.1.marks=[]∧y.2.2=[.row 4 [x.1.r] 0,.row 4 [x.2.r] 0]∧Ev.look y.2.1.vars 4=some (bb false))):=by
  refine qgl (ap.zip bp) (fun i=>⟨[(2,.fptr [(ii ar0),(ii ar1),(.fsl ((ap).map Pr.r) cf),(ii as')]),(3,.fptr [(ii ar0),(ii ar1),(.fsl ((bp).map Pr.r) df),(ii as')]),(5,(ii i))],[]⟩) [] (fun z=>decide (z.1=z.2)) _ (fun x y => _) ?_ ?_ ?_
  ·intro i x hi hx hp
   rw[hzl]at hi
   have hi':(i:Int)<(ap.length:Int):=by omega
   have hw:IntKind.i64.wrap ((i:Int)+1)=((i+1:Nat):Int):=by rw[qi (by omega) (by omega)];simp
   obtain⟨hxa,hxb⟩:=List.getElem?_zip_eq_some.1 hx
   obtain⟨⟨p1,p2,p3,p4⟩,q⟩:=x
   have hv:=q4l p4 p4 false false (t1 _ (zmg hxa)) (t1 _ (zmg hxa))
   simp only[zgv]at hv
   simp only[decide_eq_true_eq]at hp
   subst hp
   cases p3<;>simp only[qgk,zgs,zgr,zgq,zgt,hxa,hxb,hi',hw,hv,qa3,qm,Pr.r,Ev.ev1,Ev.stP,qb,Ev.AV.cells,Ev.AV.plain,ne_eq,zgy,↓qc,↓reduceIte,Nat.reduceAdd,Nat.reduceEqDiff]
  ·intro i x hi hx hp
   rw[hzl]at hi
   have hi':(i:Int)<(ap.length:Int):=by omega
   obtain⟨hxa,hxb⟩:=List.getElem?_zip_eq_some.1 hx
   obtain⟨⟨p1,p2,p3,p4⟩,⟨q1,q2,q3,q4⟩⟩:=x
   have hv:=q4l p4 q4 false false (t1 _ (zmg hxa)) (t2 _ (zmg hxb))
   simp only[decide_eq_false_iff_not,Pr.mk.injEq]at hp
   by_cases f1:p1=q1
   case neg=>
    simp only[qgk,zgs,zgr,zgq,zgt,hxa,hxb,hi',f1,Pr.r,Ev.ev1,Ev.stP,qb,Ev.AV.cells,Ev.AV.plain,ne_eq,zgy,↓qc,↓reduceIte,Nat.reduceAdd,Nat.reduceEqDiff]
    exact⟨_,rfl,rfl,rfl,rfl,rfl⟩
   by_cases f2:p2=q2
   case neg=>
    simp only[qgk,zgs,zgr,zgq,zgt,hxa,hxb,hi',f1,f2,Pr.r,Ev.ev1,Ev.stP,qb,Ev.AV.cells,Ev.AV.plain,ne_eq,zgy,↓qc,↓reduceIte,Nat.reduceAdd,Nat.reduceEqDiff]
    exact⟨_,rfl,rfl,rfl,rfl,rfl⟩
   by_cases f3:p3=q3
   case neg=>
    cases p3<;>cases q3<;>first|exact absurd rfl f3|(simp only[qgk,zgs,zgr,zgq,zgt,hxa,hxb,hi',f1,f2,Pr.r,Ev.ev1,Ev.stP,qb,Ev.AV.cells,Ev.AV.plain,ne_eq,zgy,↓qc,↓reduceIte,Nat.reduceAdd,Nat.reduceEqDiff];exact⟨_,rfl,rfl,rfl,rfl,rfl⟩)
   have f4:¬p4=q4:=fun h=>hp ⟨f1,f2,f3,h⟩
   simp only[f4,zgw]at hv
   subst f3
   cases p3<;>(simp only[qgk,zgs,zgr,zgq,zgt,hxa,hxb,hi',f1,f2,hv,qm,Pr.r,Ev.ev1,Ev.stP,qb,Ev.AV.cells,Ev.AV.plain,ne_eq,zgy,↓qc,↓reduceIte,Nat.reduceAdd,Nat.reduceEqDiff];exact⟨_,rfl,rfl,rfl,rfl,rfl⟩)
  ·rw[hzl]
   simp only[qgk,Int.lt_irrefl,Ev.ev1,qb,zgy,↓qc,↓reduceIte,Nat.reduceEqDiff]
   exact⟨_,rfl,rfl,rfl,rfl⟩
 obtain⟨⟨y,e,σ⟩,k1,k2⟩:=hL
 simp only at k2
 rcases k2 with ⟨k3,rfl,k4,rfl⟩|⟨k3,x,_,rfl,k4,rfl,k5⟩
 ·have:ap=bp:=(qrr hab).1 k3
  subst this
  simp only[qhg,k1,k4,qa3,beq_self_eq_true,zgx,zgv,Ev.ev1,qb,Ev.AV.cells,Ev.AV.plain,qg4,qh,ne_eq,zgy,↓qc,↓qv,↓reduceIte,Nat.reduceAdd,Nat.reduceEqDiff,Nat.reduceLeDiff,reduceCtorEq]
 ·have:¬ap=bp:=fun h=>by rw[(qrr hab).2 h]at k3;cases k3
  simp only[this]
  simp only[qhg,hab',k1,k4,k5,qa3,beq_self_eq_true,and_false,zgw,Ev.ev1,qb,Ev.AV.cells,Ev.AV.plain,qg4,qh,ne_eq,zgy,↓qc,↓qv,↓reduceIte,Nat.reduceAdd,Nat.reduceEqDiff,Nat.reduceLeDiff,reduceCtorEq]
end
def lpF (x:Lp×Bool):List AV:=[(ii x.1.r0),(ii x.1.r1),(.fsl ((x.1.procs).map Pr.r) x.2),(ii x.1.sum)]
theorem qagn (n:Nat) (x:Lp×Bool):los n (lpF x)=true:=by simp only[lpF,qa3,Ev.ev1,zgy]
theorem lpF_pl (x:Lp×Bool):(lpF x).length=4∧qfx (lpF x)=true:=⟨rfl,rfl⟩
theorem qgu (n:Nat) (l:List (Lp×Bool)):qc5 n (l.map lpF)=true:=qjy (qagn n) l
theorem lpFs_ok (l:List (Lp×Bool)):qcy 4 (l.map lpF)=true:=qo9 lpF_pl l
section
variable (a b:List (Lp×Bool)) (c d:Bool)
theorem q0y : ∀ {a b:List (Lp×Bool)},a.length=b.length→((a.zip b).all (fun z=>decide (z.1.1=z.2.1))=true↔a.map Prod.fst=b.map Prod.fst)
 | [],[],_=>by simp
 |x::a,y::b,h=>by
  rw[List.zip_cons_cons,List.all_cons,Bool.and_eq_true,decide_eq_true_eq,q0y (a:=a) (b:=b) (by simpa using h),List.map_cons,List.map_cons,List.cons.injEq]
 | [],_ :: _,h=>by simp at h
 | _ :: _,[],h=>by simp at h
theorem qabv (h1:a.length≤9223372036854775807) (h2:b.length≤9223372036854775807) (ha : ∀x∈a,x.1.Short) (hb : ∀x∈b,x.1.Short) :
  qac (evL T) qhp [(.fsl ((a).map lpF) c),(.fsl ((b).map lpF) d)]=some (bb (decide (a.map Prod.fst=b.map Prod.fst))):=by
 rw[qac,qe q32 q2m]
 by_cases hab:a.length=b.length
 case neg=>
  have hab':¬(a.length:Int)=(b.length:Int):=by omega
  have:¬a.map Prod.fst=b.map Prod.fst:=fun h=>hab (by simpa using congrArg List.length h)
  simp only[qkm,hab',this,Ev.ev1,qh,ne_eq,zgy,↓qc,↓reduceIte,Nat.reduceAdd,Nat.reduceEqDiff,reduceCtorEq]
 have hab':(a.length:Int)=(b.length:Int):=by omega
 have hzl:(a.zip b).length=a.length:=by rw[List.length_zip,←hab,Nat.min_self]
 have hL : ∃y,itB (exec (evL T) itL none qjl) (qai [0,1,5] true 0) ⟨[(0,(.fsl ((a).map lpF) c)),(1,(.fsl ((b).map lpF) d)),(5,(ii 0))],[]⟩ []=some y∧((a.zip b).all (fun z=>decide (z.1.1=z.2.1))=true∧(y.1 = .exit 0∧y.2.1.marks=[]∧y.2.2=[]) ∨
   (a.zip b).all (fun z=>decide (z.1.1=z.2.1))=false ∧ ∃x,(a.zip b).find? (fun z => !decide (z.1.1=z.2.1))=some x∧(y.1 = .ret∧y.2.1.marks=[]∧y.2.2=[]∧Ev.look y.2.1.vars 4=some (bb false))):=by
  refine qgl (a.zip b) (fun i=>⟨[(0,(.fsl ((a).map lpF) c)),(1,(.fsl ((b).map lpF) d)),(5,(ii i))],[]⟩) [] (fun z=>decide (z.1.1=z.2.1)) _ (fun _ y => _) ?_ ?_ ?_
  ·intro i x hi hx hp
   rw[hzl]at hi
   have hi':(i:Int)<(a.length:Int):=by omega
   have hw:IntKind.i64.wrap ((i:Int)+1)=((i+1:Nat):Int):=by rw[qi (by omega) (by omega)];simp
   obtain⟨hxa,hxb⟩:=List.getElem?_zip_eq_some.1 hx
   have hv:=qabb x.1.1 x.2.1 x.1.2 x.2.2 (ha _ (zmg hxa)) (hb _ (zmg hxb))
   rw[hp]at hv
   simp only[qjl,zgs,zgr,zgq,zgt,hxa,hxb,hi',hw,hv,qgu,qa3,lpF,Ev.ev1,qb,zgy,↓qc,↓reduceIte,Nat.reduceAdd,Nat.reduceEqDiff,reduceCtorEq]
  ·intro i x hi hx hp
   rw[hzl]at hi
   have hi':(i:Int)<(a.length:Int):=by omega
   obtain⟨hxa,hxb⟩:=List.getElem?_zip_eq_some.1 hx
   have hv:=qabb x.1.1 x.2.1 x.1.2 x.2.2 (ha _ (zmg hxa)) (hb _ (zmg hxb))
   rw[hp]at hv
   simp only[qjl,zgs,zgr,zgq,zgt,hxa,hxb,hi',hv,qa3,lpF,Ev.ev1,qb,zgy,↓qc,↓reduceIte,Nat.reduceAdd,Nat.reduceEqDiff,reduceCtorEq]
   exact⟨_,rfl,rfl,rfl,rfl,rfl⟩
  ·rw[hzl]
   simp only[qjl,Int.lt_irrefl,Ev.ev1,zgy,↓qc,↓reduceIte,Nat.reduceEqDiff,reduceCtorEq]
   exact⟨_,rfl,rfl,rfl,rfl⟩
 obtain⟨⟨y,e,σ⟩,k1,k2⟩:=hL
 simp only at k2
 rcases k2 with ⟨k3,rfl,k4,rfl⟩|⟨k3,x,_,rfl,k4,rfl,k5⟩
 ·have:a.map Prod.fst=b.map Prod.fst:=(q0y hab).1 k3
  simp only[this,zgv]
  simp only[qkm,hab',k1,k4,qgu,Ev.ev1,qh,ne_eq,zgy,↓qc,↓qv,↓reduceIte,Nat.reduceAdd,Nat.reduceEqDiff,reduceCtorEq]
 ·have:¬a.map Prod.fst=b.map Prod.fst:=fun h=>by rw[(q0y hab).2 h]at k3;cases k3
  simp only[this]
  simp only[qkm,hab',k1,k4,k5,qgu,Ev.ev1,qh,ne_eq,zgy,↓qc,↓qv,↓reduceIte,Nat.reduceAdd,Nat.reduceEqDiff,reduceCtorEq]
end
set_option maxRecDepth 10000
section
variable (a b:Lp)
end
set_option maxRecDepth 10000
section
variable (x:Ex)
end
set_option maxRecDepth 10000
def Pr.inc (q:Pr):Pr:={ q with pc:=w64 (q.pc+1) }
section
variable (x:Ex) (i:Nat) (op:OpI) (q:Pr)
end
set_option maxRecDepth 10000
def stepR (x:Ex) (i:Nat) (q:Pr) (op:OpI):Ex×Bool:=
 if (qgd (x.setP i q.inc) i q.inc op).2=1 then ((qgd (x.setP i q.inc) i q.inc op).1,true)
 else if (qgd (x.setP i q.inc) i q.inc op).2=2 then (qs0 (qgd (x.setP i q.inc) i q.inc op).1 i,true)
 else ((qgd (x.setP i q.inc) i q.inc op).1,false)
theorem qaej (p:List OpI) (i n:Nat) (x:Ex) (q:Pr) (hq:x.procs[i]? = some q):qvq p i (n+1) x=match p[q.pc.toNat]? with
  |none=>qs0 x i
  |some op=>if (stepR x i q op).2=true then (stepR x i q op).1 else qvq p i n (stepR x i q op).1:=by
 simp only[qvq,hq]
 cases hp:p[q.pc.toNat]? with
 |none=>rfl
 |some op=>
  show (if (qgd (x.setP i q.inc) i q.inc op).2=1 then (qgd (x.setP i q.inc) i q.inc op).1 else if (qgd (x.setP i q.inc) i q.inc op).2=2 then qs0 (qgd (x.setP i q.inc) i q.inc op).1 i else qvq p i n (qgd (x.setP i q.inc) i q.inc op).1)=(if (stepR x i q op).2=true then (stepR x i q op).1 else qvq p i n (stepR x i q op).1)
  unfold stepR
  by_cases h1:(qgd (x.setP i q.inc) i q.inc op).2=1
  ·simp only[h1,if_true]
  by_cases h2:(qgd (x.setP i q.inc) i q.inc op).2=2
  ·rw[if_neg h1,if_pos h2,if_neg h1,if_pos h2];rfl
  ·simp only[h1,h2,if_false,zfa]
set_option maxRecDepth 10000
theorem ActInv.stepR {e:Evt} {i n:Nat} {x:Ex} (h:ActInv e i n x) {q:Pr} (hq:x.procs[i]? = some q) (hpc:0≤q.pc∧q.pc+1≤1000000) {op:OpI} (ho:OpOk' op):ActInv e i (n+1) (stepR x i q op).1:=by
 have hlt:=(zei.1 hq).1
 have hwq:w64 (q.pc+1)=q.pc+1:=qi (by omega) (by omega)
 have hz:ActInv e i n (x.setP i q.inc):=by
  have:=h.pc hq (pc:=q.pc+1) ⟨by omega,by omega⟩ q.alive
  unfold Pr.inc;rw[hwq];exact this
 have hzq:(x.setP i q.inc).procs[i]? = some q.inc:=by simp only[Ex.setP];rw[List.getElem?_set_self hlt]
 have hn:=hz.step hzq (show 0≤q.inc.pc∧q.inc.pc≤1000000 by unfold Pr.inc;simp only[hwq];omega) ho
 unfold K.stepR
 split
 ·exact hn
 split
 ·obtain⟨q',h1,h2⟩:=hn.has
  have:=hn.pc h1 h2 false
  unfold qs0;rw[h1];exact this
 ·exact hn
section
variable (c:Cfg) (e0:Evt) (i:Nat) (p:List OpI) (pr:Int)
end
set_option maxRecDepth 10000
section
variable (c:Cfg) (x:Lp) (e:Evt)
end
set_option maxRecDepth 10000
def qvl {τ:Type} (f:τ→Int) (l:List τ):Int:=match l.find? (fun x => !decide (f x=0))with
 |some x=>f x
 |none=>0
theorem qzl {τ:Type} {f:τ→Int} {l:List τ} (h:l.all (fun x=>decide (f x=0))=true):qvl f l=0:=by
 unfold qvl
 have:l.find? (fun x => !decide (f x=0))=none:=by
  rw[List.find?_eq_none];intro x hx;rw[List.all_eq_true]at h;simp[of_decide_eq_true (h x hx)]
 rw[this]
theorem qru {τ:Type} {f:τ→Int} {l:List τ} {x:τ} (h:l.find? (fun x => !decide (f x=0))=some x):qvl f l=f x:=by unfold qvl;rw[h]
theorem q1k {τ:Type} {f:τ→Int} {l:List τ}:qvl f l=0 ↔ ∀x∈l,f x=0:=by
 cases h:l.find? (fun x => !decide (f x=0))with
 |none=>
  rw[List.find?_eq_none]at h
  have h1 : ∀x∈l,f x=0:=fun x hx=>by simpa using h x hx
  exact⟨fun _=>h1,fun _=>qzl (by rw[List.all_eq_true];intro x hx;simp[h1 x hx])⟩
 |some x=>
  have h1:=List.find?_some h
  have h2:=List.mem_of_find?_eq_some h
  rw[qru h]
  exact⟨fun k=>by simp[k]at h1,fun k=>k x h2⟩
section
variable (c:Cfg)
def len8 (l:List Start):Bool:=!decide ((l.length:Int)>8)
def qqk (c:Cfg):Bool:=decide (1≤c.lps.length∧c.lps.length≤8∧c.progs.length≤8)&&(c.lps.all len8&&decide (1≤c.cap∧c.cap≤64∧0≤c.fin∧c.fin≤1152921504606846976))
theorem qaal:qac (evL T) qla [(.agg [(.fsl ((c.lps).map lpC) false),(.fsl ((c.progs).map qaz) false),(ii c.look),(ii c.fin),(ii c.cap)])]=some (bb (qqk c)):=by
 unfold qqk
 rw[qac,qe q8u q6q]
 by_cases h1:(c.lps.length:Int)<1
 ·have:¬(1≤c.lps.length∧c.lps.length≤8∧c.progs.length≤8):=by omega
  simp only[qfq,h1,this,zgw,Bool.false_and,Ev.ev1,qb,Ev.AV.cells,Ev.AV.plain,qh,ne_eq,zgy,↓qc,↓reduceIte,Nat.reduceEqDiff]
 by_cases h2:(c.lps.length:Int)>8
 ·have:¬(1≤c.lps.length∧c.lps.length≤8∧c.progs.length≤8):=by omega
  simp only[qfq,h1,h2,this,zgw,Bool.false_and,Ev.ev1,qb,Ev.AV.cells,Ev.AV.plain,qh,ne_eq,zgy,↓qc,↓reduceIte,Nat.reduceEqDiff]
 by_cases h3:(c.progs.length:Int)>8
 ·have:¬(1≤c.lps.length∧c.lps.length≤8∧c.progs.length≤8):=by omega
  simp only[qfq,h1,h2,h3,this,zgw,Bool.false_and,Ev.ev1,qb,Ev.AV.cells,Ev.AV.plain,qh,ne_eq,zgy,↓qc,↓reduceIte,Nat.reduceEqDiff]
 have h4:(1≤c.lps.length∧c.lps.length≤8∧c.progs.length≤8):=by omega
 have hL : ∃y,itB (exec (evL T) itL none ql0) (qai [1,3] true 0) ⟨[(1,(.fptr [(.fsl ((c.lps).map lpC) false),(.fsl ((c.progs).map qaz) false),(ii c.look),(ii c.fin),(ii c.cap)])),(3,(ii 0))],[]⟩ []=some y∧(c.lps.all len8=true∧(y.1 = .exit 0∧y.2.1.marks=[]∧y.2.2=[]∧Ev.look y.2.1.vars 1=some (.fptr [(.fsl ((c.lps).map lpC) false),(.fsl ((c.progs).map qaz) false),(ii c.look),(ii c.fin),(ii c.cap)])) ∨
   c.lps.all len8=false ∧ ∃x,c.lps.find? (fun x => !len8 x)=some x∧(y.1 = .ret∧y.2.1.marks=[]∧y.2.2=[]∧Ev.look y.2.1.vars 2=some (bb false))):=by
  refine qgl c.lps (fun i=>⟨[(1,(.fptr [(.fsl ((c.lps).map lpC) false),(.fsl ((c.progs).map qaz) false),(ii c.look),(ii c.fin),(ii c.cap)])),(3,(ii i))],[]⟩) [] len8 _ (fun _ y => _) ?_ ?_ ?_
  ·intro i x hi hx hp
   have hi':(i:Int)<(c.lps.length:Int):=by omega
   have hw:IntKind.i64.wrap ((i:Int)+1)=((i+1:Nat):Int):=by rw[qi (by omega) (by omega)];simp
   have h1:¬(x.length:Int)>8:=by simpa[len8]using hp
   simp only[ql0,zgs,zgr,zgq,zgt,hx,hi',hw,h1,qa2,qu,lpC,Ev.ev1,qb,zgy,↓qc,↓reduceIte,Nat.reduceEqDiff]
  ·intro i x hi hx hp
   have hi':(i:Int)<(c.lps.length:Int):=by omega
   have h1:(x.length:Int)>8:=by simpa[len8]using hp
   simp only[ql0,zgs,zgr,zgq,zgt,hx,hi',h1,lpC,Ev.ev1,qb,zgy,↓qc,↓reduceIte,Nat.reduceEqDiff]
   exact⟨_,rfl,rfl,rfl,rfl,rfl⟩
  ·simp only[ql0,Int.lt_irrefl,Ev.ev1,qb,zgy,↓qc,↓reduceIte,Nat.reduceEqDiff]
   exact⟨_,rfl,rfl,rfl,rfl,rfl⟩
 obtain⟨⟨y,e,σ⟩,k1,k2⟩:=hL
 simp only at k2
 rcases k2 with ⟨k3,rfl,k4,rfl,k5⟩|⟨k3,x,_,rfl,k4,rfl,k5⟩
 ·by_cases g1:c.cap≥1
  case neg=>
   have:¬(1≤c.cap∧c.cap≤64∧0≤c.fin∧c.fin≤1152921504606846976):=by omega
   simp only[qfq,h1,h2,h3,h4,k1,k3,k4,k5,g1,qa2,qu,zgw,Bool.and_false,Ev.ev1,qb,Ev.AV.cells,Ev.AV.plain,qh,ne_eq,zgy,↓qc,↓qv,↓reduceIte,Nat.reduceEqDiff]
  by_cases g2:c.cap≤64
  case neg=>
   have:¬(1≤c.cap∧c.cap≤64∧0≤c.fin∧c.fin≤1152921504606846976):=by omega
   simp only[qfq,h1,h2,h3,h4,k1,k3,k4,k5,g1,g2,qa2,qu,zgw,Bool.and_false,Ev.ev1,qb,Ev.AV.cells,Ev.AV.plain,qh,ne_eq,zgy,↓qc,↓qv,↓reduceIte,Nat.reduceEqDiff]
  by_cases g3:c.fin≥0
  case neg=>
   have:¬(1≤c.cap∧c.cap≤64∧0≤c.fin∧c.fin≤1152921504606846976):=by omega
   simp only[qfq,h1,h2,h3,h4,k1,k3,k4,k5,g1,g2,g3,qa2,qu,zgw,Bool.and_false,Ev.ev1,qb,Ev.AV.cells,Ev.AV.plain,qh,ne_eq,zgy,↓qc,↓qv,↓reduceIte,Nat.reduceEqDiff]
  by_cases g4:c.fin≤1152921504606846976
  case neg=>
   have:¬(1≤c.cap∧c.cap≤64∧0≤c.fin∧c.fin≤1152921504606846976):=by omega
   simp only[qfq,h1,h2,h3,h4,k1,k3,k4,k5,g1,g2,g3,g4,qa2,qu,zgw,Bool.and_false,Ev.ev1,qb,Ev.AV.cells,Ev.AV.plain,qh,ne_eq,zgy,↓qc,↓qv,↓reduceIte,Nat.reduceEqDiff]
  have:(1≤c.cap∧c.cap≤64∧0≤c.fin∧c.fin≤1152921504606846976):=by omega
  simp only[qfq,h1,h2,h3,h4,k1,k3,k4,k5,g1,g2,g3,g4,qa2,qu,zgx,zgv,Ev.ev1,qb,Ev.AV.cells,Ev.AV.plain,qh,ne_eq,zgy,↓qc,↓qv,↓reduceIte,Nat.reduceEqDiff]
 ·simp only[qfq,h1,h2,h3,h4,k1,k3,k4,k5,qa2,qu,zgv,Bool.and_false,Bool.false_and,Ev.ev1,qb,Ev.AV.cells,Ev.AV.plain,qh,ne_eq,zgy,↓qc,↓qv,↓reduceIte,Nat.reduceEqDiff]
def qxa (c:Cfg) (p:List OpI):Int:=qqp p c.progs.length c.lps.length c.look
def qml (c:Cfg) (s:Start):Int:=if s.prog<0∨s.prog≥c.progs.length then 22 else if s.time<0∨s.time>1152921504606846976 then 11 else 0
def qajf (c:Cfg) (l:List Start):Int:=qvl (qml c) l
def q8o (c:Cfg):Int:=if qqk c=false then 1 else if c.look<1 then 20 else if qvl (qxa c) c.progs≠0 then qvl (qxa c) c.progs else qvl (qajf c) c.lps
theorem qakx (hl:c.progs.length≤8) :
  ∃y,itB (exec (evL T) itL none ql2) (qai [1,3] true 0) ⟨[(1,(.fptr [(.fsl ((c.lps).map lpC) false),(.fsl ((c.progs).map qaz) false),(ii c.look),(ii c.fin),(ii c.cap)])),(3,(ii 0))],[]⟩ []=some y∧(c.progs.all (fun p=>decide (qxa c p=0))=true∧(y.1 = .exit 0∧y.2.1.marks=[]∧y.2.2=[]∧Ev.look y.2.1.vars 1=some (.fptr [(.fsl ((c.lps).map lpC) false),(.fsl ((c.progs).map qaz) false),(ii c.look),(ii c.fin),(ii c.cap)])) ∨
   c.progs.all (fun p=>decide (qxa c p=0))=false ∧ ∃x,c.progs.find? (fun p => !decide (qxa c p=0))=some x∧(y.1 = .ret∧y.2.1.marks=[]∧y.2.2=[]∧Ev.look y.2.1.vars 2=some (ii (qxa c x)))):=by
 refine qgl c.progs (fun i=>⟨[(1,(.fptr [(.fsl ((c.lps).map lpC) false),(.fsl ((c.progs).map qaz) false),(ii c.look),(ii c.fin),(ii c.cap)])),(3,(ii i))],[]⟩) [] (fun p=>decide (qxa c p=0)) _ (fun x y => _) ?_ ?_ ?_
 ·intro i x hi hx hp
  have hi':(i:Int)<(c.progs.length:Int):=by omega
  have hw:IntKind.i64.wrap ((i:Int)+1)=((i+1:Nat):Int):=by rw[qi (by omega) (by omega)];simp
  have hv:=q0k x false c.progs.length c.lps.length c.look
  rw[show qqp x c.progs.length c.lps.length c.look=0 from of_decide_eq_true hp]at hv
  simp only[ql2,zgs,zgr,zgq,zgt,hx,hi',hw,hv,qa2,qu,qia,qaz,Ev.ev1,qb,ne_eq,zgy,↓qc,↓reduceIte,Nat.reduceEqDiff]
 ·intro i x hi hx hp
  have hi':(i:Int)<(c.progs.length:Int):=by omega
  have hv:=q0k x false c.progs.length c.lps.length c.look
  have hz:¬qqp x c.progs.length c.lps.length c.look=0:=of_decide_eq_false hp
  simp only[ql2,zgs,zgr,zgq,zgt,hx,hi',hv,hz,qia,qaz,Ev.ev1,qb,ne_eq,zgy,↓qc,↓reduceIte,Nat.reduceEqDiff]
  exact⟨_,rfl,rfl,rfl,rfl,rfl⟩
 ·simp only[ql2,Int.lt_irrefl,Ev.ev1,qb,zgy,↓qc,↓reduceIte,Nat.reduceEqDiff]
  exact⟨_,rfl,rfl,rfl,rfl,rfl⟩
theorem qadp (i:Nat) (l:List Start) (hx:c.lps[i]? = some l) (hl:l.length≤8) :
  ∃y,itB (exec (evL T) itL none qg2) (qai [1,5,6] true 0) ⟨[(1,(.fptr [(.fsl ((c.lps).map lpC) false),(.fsl ((c.progs).map qaz) false),(ii c.look),(ii c.fin),(ii c.cap)])),(5,(ii i)),(6,(ii 0))],[]⟩ []=some y∧(l.all (fun s=>decide (qml c s=0))=true∧(y.1 = .exit 4∧y.2.1.marks=[]∧y.2.2=[]∧Ev.look y.2.1.vars 1=some (.fptr [(.fsl ((c.lps).map lpC) false),(.fsl ((c.progs).map qaz) false),(ii c.look),(ii c.fin),(ii c.cap)])∧Ev.look y.2.1.vars 5=some (ii i)) ∨
   l.all (fun s=>decide (qml c s=0))=false ∧ ∃x,l.find? (fun s => !decide (qml c s=0))=some x∧(y.1 = .ret∧y.2.1.marks=[]∧y.2.2=[.row 2 [x.r] 0]∧Ev.look y.2.1.vars 2=some (ii (qml c x)))):=by
 refine qgl l (fun k=>⟨[(1,(.fptr [(.fsl ((c.lps).map lpC) false),(.fsl ((c.progs).map qaz) false),(ii c.look),(ii c.fin),(ii c.cap)])),(5,(ii i)),(6,(ii k))],[]⟩) [] (fun s=>decide (qml c s=0)) _ (fun x y => _) ?_ ?_ ?_
 ·intro k s hk hs hp
  have hk':(k:Int)<(l.length:Int):=by omega
  have hw:IntKind.i64.wrap ((k:Int)+1)=((k+1:Nat):Int):=by rw[qi (by omega) (by omega)];simp
  have hz:qml c s=0:=of_decide_eq_true hp
  unfold qml at hz
  by_cases g1:s.prog<0
  ·rw[if_pos (.inl g1)]at hz;cases hz
  by_cases g2:s.prog≥(c.progs.length:Int)
  ·rw[if_pos (.inr g2)]at hz;cases hz
  by_cases g3:s.time<0
  ·rw[if_neg (by omega),if_pos (.inl g3)]at hz;cases hz
  by_cases g4:s.time>1152921504606846976
  ·rw[if_neg (by omega),if_pos (.inr g4)]at hz;cases hz
  simp only[qg2,zgs,zgr,zgq,zgt,hx,hs,hk',hw,g1,g2,g3,g4,qa2,qu,lpC,Start.r,Ev.ev1,Ev.stP,qb,Ev.AV.cells,Ev.AV.plain,ne_eq,zgy,↓qc,↓reduceIte,Nat.reduceAdd,Nat.reduceEqDiff]
 ·intro k s hk hs hp
  have hk':(k:Int)<(l.length:Int):=by omega
  have hz:¬qml c s=0:=of_decide_eq_false hp
  unfold qml at hz⊢
  by_cases g1:s.prog<0
  ·rw[if_pos (.inl g1)]
   simp only[qg2,zgs,zgr,zgq,zgt,hx,hs,hk',g1,lpC,Start.r,Ev.ev1,Ev.stP,qb,Ev.AV.cells,Ev.AV.plain,ne_eq,zgy,↓qc,↓reduceIte,Nat.reduceAdd,Nat.reduceEqDiff]
   exact⟨_,rfl,rfl,rfl,rfl,rfl⟩
  by_cases g2:s.prog≥(c.progs.length:Int)
  ·rw[if_pos (.inr g2)]
   simp only[qg2,zgs,zgr,zgq,zgt,hx,hs,hk',g1,g2,lpC,Start.r,Ev.ev1,Ev.stP,qb,Ev.AV.cells,Ev.AV.plain,ne_eq,zgy,↓qc,↓reduceIte,Nat.reduceAdd,Nat.reduceEqDiff]
   exact⟨_,rfl,rfl,rfl,rfl,rfl⟩
  rw[if_neg (by omega)]at hz⊢
  by_cases g3:s.time<0
  ·rw[if_pos (.inl g3)]
   simp only[qg2,zgs,zgr,zgq,zgt,hx,hs,hk',g1,g2,g3,lpC,Start.r,Ev.ev1,Ev.stP,qb,Ev.AV.cells,Ev.AV.plain,ne_eq,zgy,↓qc,↓reduceIte,Nat.reduceAdd,Nat.reduceEqDiff]
   exact⟨_,rfl,rfl,rfl,rfl,rfl⟩
  by_cases g4:s.time>1152921504606846976
  ·rw[if_pos (.inr g4)]
   simp only[qg2,zgs,zgr,zgq,zgt,hx,hs,hk',g1,g2,g3,g4,lpC,Start.r,Ev.ev1,Ev.stP,qb,Ev.AV.cells,Ev.AV.plain,ne_eq,zgy,↓qc,↓reduceIte,Nat.reduceAdd,Nat.reduceEqDiff]
   exact⟨_,rfl,rfl,rfl,rfl,rfl⟩
  ·exact absurd (by rw[if_neg (by omega)]) hz
 ·simp only[qg2,zgs,zgr,zgq,zgt,hx,Int.lt_irrefl,lpC,Ev.ev1,qb,zgy,↓qc,↓reduceIte,Nat.reduceEqDiff]
  exact⟨_,rfl,rfl,rfl,rfl,rfl,rfl⟩
theorem qajy (hl:c.lps.length≤8) (hll : ∀l∈c.lps,l.length≤8) :
  ∃y,itB (exec (evL T) itL none ql3) (qai [1,5] true 0) ⟨[(1,(.fptr [(.fsl ((c.lps).map lpC) false),(.fsl ((c.progs).map qaz) false),(ii c.look),(ii c.fin),(ii c.cap)])),(5,(ii 0))],[]⟩ []=some y∧(c.lps.all (fun l=>decide (qajf c l=0))=true∧(y.1 = .exit 2∧y.2.1.marks=[]∧y.2.2=[]) ∨
   c.lps.all (fun l=>decide (qajf c l=0))=false ∧ ∃x,c.lps.find? (fun l => !decide (qajf c l=0))=some x∧(y.1 = .ret∧y.2.1.marks=[]∧(∃s:Start,y.2.2=[.row 2 [s.r] 0])∧Ev.look y.2.1.vars 2=some (ii (qajf c x)))):=by
 refine qgl c.lps (fun i=>⟨[(1,(.fptr [(.fsl ((c.lps).map lpC) false),(.fsl ((c.progs).map qaz) false),(ii c.look),(ii c.fin),(ii c.cap)])),(5,(ii i))],[]⟩) [] (fun l=>decide (qajf c l=0)) _ (fun x y => _) ?_ ?_ ?_
 ·intro i l hi hx hp
  have hi':(i:Int)<(c.lps.length:Int):=by omega
  have hw:IntKind.i64.wrap ((i:Int)+1)=((i+1:Nat):Int):=by rw[qi (by omega) (by omega)];simp
  have hz:qajf c l=0:=of_decide_eq_true hp
  obtain⟨⟨y,e,σ⟩,k1,k2⟩:=qadp c i l hx (hll l (zmg hx))
  simp only at k2
  rcases k2 with ⟨k3,rfl,k4,rfl,k5,k6⟩|⟨k3,x,k7,rfl,k4,rfl,k5⟩
  ·simp only[ql3,hi',hw,k1,k4,k5,k6,qa2,qu,Ev.ev1,qb,zgy,↓qc,↓qv,↓reduceIte,Nat.reduceEqDiff]
  ·have h1:=List.find?_some k7
   have h2:qml c x=0:=by rw[←qru k7];exact hz
   simp[h2]at h1
 ·intro i l hi hx hp
  have hi':(i:Int)<(c.lps.length:Int):=by omega
  have hz:¬qajf c l=0:=of_decide_eq_false hp
  obtain⟨⟨y,e,σ⟩,k1,k2⟩:=qadp c i l hx (hll l (zmg hx))
  simp only at k2
  rcases k2 with ⟨k3,rfl,k4,rfl,k5,k6⟩|⟨k3,x,k7,rfl,k4,rfl,k5⟩
  ·exact absurd (qzl k3) hz
  ·rw[show qajf c l=qml c x from qru k7]
   simp only[ql3,hi',k1,qa2,qu,Ev.ev1,qb,zgy,↓qc,↓qv,↓reduceIte,Nat.reduceEqDiff]
   exact⟨_,rfl,rfl,k4,⟨x,rfl⟩,k5⟩
 ·simp only[ql3,Int.lt_irrefl,Ev.ev1,qb,zgy,↓qc,↓reduceIte,Nat.reduceEqDiff]
  exact⟨_,rfl,rfl,rfl,rfl⟩
theorem qaad:qac (evL T) qld [(.agg [(.fsl ((c.lps).map lpC) false),(.fsl ((c.progs).map qaz) false),(ii c.look),(ii c.fin),(ii c.cap)])]=some (ii (q8o c)):=by
 have hs:=qaal c
 unfold q8o
 rw[qac,qe q81 q56]
 cases h1:qqk c with
 |false=>
  rw[h1]at hs
  simp only[qjw,hs,qa2,qu,Ev.ev1,qb,Ev.AV.cells,Ev.AV.plain,qh,ne_eq,zgy,↓qc,↓reduceIte,Nat.reduceAdd,Nat.reduceEqDiff]
 |true=>
  rw[h1]at hs
  have h2:=h1
  simp only[qqk,Bool.and_eq_true,decide_eq_true_eq,List.all_eq_true]at h2
  obtain⟨⟨s1,s2,s3⟩,s4,s5⟩:=h2
  have s6 : ∀l∈c.lps,l.length≤8:=fun l hl=>by have:=s4 l hl;simp[len8]at this;omega
  simp only[Bool.true_eq_false,if_false]
  by_cases hk:c.look<1
  ·simp only[qjw,hs,hk,qa2,qu,Ev.ev1,qb,Ev.AV.cells,Ev.AV.plain,qh,ne_eq,zgy,↓qc,↓reduceIte,Nat.reduceAdd,Nat.reduceEqDiff]
  rw[if_neg hk]
  obtain⟨⟨y,e,σ⟩,k1,k2⟩:=qakx c s3
  obtain⟨⟨y',e',σ'⟩,m1,m2⟩:=qajy c s2 s6
  simp only at k2 m2
  rcases k2 with ⟨k3,rfl,k4,rfl,k5⟩|⟨k3,x,k7,rfl,k4,rfl,k5⟩
  ·rw[qzl k3,if_neg (by simp)]
   rcases m2 with ⟨m3,rfl,m4,rfl⟩|⟨m3,x,m7,rfl,m4,⟨s,rfl⟩,m5⟩
   ·rw[qzl m3]
    simp only[qjw,hs,hk,k1,k4,k5,m1,m4,qa2,qu,Ev.ev1,qb,Ev.AV.cells,Ev.AV.plain,qh,ne_eq,zgy,↓qc,↓qv,↓reduceIte,Nat.reduceAdd,Nat.reduceEqDiff]
   ·rw[qru m7]
    simp only[qjw,hs,hk,k1,k4,k5,m1,m4,m5,qa2,qu,Ev.ev1,qb,Ev.AV.cells,Ev.AV.plain,qh,ne_eq,zgy,↓qc,↓qv,↓reduceIte,Nat.reduceAdd,Nat.reduceEqDiff]
  ·have hz:=List.find?_some k7
   have hz':¬qxa c x=0:=by simpa using hz
   rw[qru k7,if_pos hz']
   simp only[qjw,hs,hk,k1,k4,k5,qa2,qu,Ev.ev1,qb,Ev.AV.cells,Ev.AV.plain,qh,ne_eq,zgy,↓qc,↓qv,↓reduceIte,Nat.reduceAdd,Nat.reduceEqDiff]
end
set_option maxRecDepth 10000
section
variable (c:Cfg)
def l12 (l:List Start):Bool:=!decide ((l.length:Int)>12)
def l30 (p:List OpI):Bool:=!decide ((p.length:Int)>30)
def q0q (c:Cfg):Bool:=decide ((c.lps.length:Int)>12)||(decide ((c.progs.length:Int)>12)||(!(c.lps.all l12) || !(c.progs.all l30)))
theorem great_l1 (hl:c.lps.length≤12) :
  ∃y,itB (exec (evL T) itL none qlz) (qai [1,3] true 0) ⟨[(1,(.fptr [(.fsl ((c.lps).map lpC) false),(.fsl ((c.progs).map qaz) false),(ii c.look),(ii c.fin),(ii c.cap)])),(3,(ii 0))],[]⟩ []=some y∧(c.lps.all l12=true∧(y.1 = .exit 0∧y.2.1.marks=[]∧y.2.2=[]∧Ev.look y.2.1.vars 1=some (.fptr [(.fsl ((c.lps).map lpC) false),(.fsl ((c.progs).map qaz) false),(ii c.look),(ii c.fin),(ii c.cap)])) ∨
   c.lps.all l12=false ∧ ∃x,c.lps.find? (fun x => !l12 x)=some x∧(y.1 = .ret∧y.2.1.marks=[]∧y.2.2=[]∧Ev.look y.2.1.vars 2=some (bb true))):=by
 refine qgl c.lps (fun i=>⟨[(1,(.fptr [(.fsl ((c.lps).map lpC) false),(.fsl ((c.progs).map qaz) false),(ii c.look),(ii c.fin),(ii c.cap)])),(3,(ii i))],[]⟩) [] l12 _ (fun _ y => _) ?_ ?_ ?_
 ·intro i x hi hx hp
  have hi':(i:Int)<(c.lps.length:Int):=by omega
  have hw:IntKind.i64.wrap ((i:Int)+1)=((i+1:Nat):Int):=by rw[qi (by omega) (by omega)];simp
  have h1:¬(x.length:Int)>12:=by simpa[l12]using hp
  simp only[qlz,zgs,zgr,zgq,zgt,hx,hi',hw,h1,qa2,qu,lpC,Ev.ev1,qb,zgy,↓qc,↓reduceIte,Nat.reduceEqDiff]
 ·intro i x hi hx hp
  have hi':(i:Int)<(c.lps.length:Int):=by omega
  have h1:(x.length:Int)>12:=by simpa[l12]using hp
  simp only[qlz,zgs,zgr,zgq,zgt,hx,hi',h1,lpC,Ev.ev1,qb,zgy,↓qc,↓reduceIte,Nat.reduceEqDiff]
  exact⟨_,rfl,rfl,rfl,rfl,rfl⟩
 ·simp only[qlz,Int.lt_irrefl,Ev.ev1,qb,zgy,↓qc,↓reduceIte,Nat.reduceEqDiff]
  exact⟨_,rfl,rfl,rfl,rfl,rfl⟩
theorem great_l2 (hl:c.progs.length≤12) :
  ∃y,itB (exec (evL T) itL none ql1) (qai [1,4] true 0) ⟨[(1,(.fptr [(.fsl ((c.lps).map lpC) false),(.fsl ((c.progs).map qaz) false),(ii c.look),(ii c.fin),(ii c.cap)])),(4,(ii 0))],[]⟩ []=some y∧(c.progs.all l30=true∧(y.1 = .exit 2∧y.2.1.marks=[]∧y.2.2=[]) ∨
   c.progs.all l30=false ∧ ∃x,c.progs.find? (fun x => !l30 x)=some x∧(y.1 = .ret∧y.2.1.marks=[]∧y.2.2=[]∧Ev.look y.2.1.vars 2=some (bb true))):=by
 refine qgl c.progs (fun i=>⟨[(1,(.fptr [(.fsl ((c.lps).map lpC) false),(.fsl ((c.progs).map qaz) false),(ii c.look),(ii c.fin),(ii c.cap)])),(4,(ii i))],[]⟩) [] l30 _ (fun _ y => _) ?_ ?_ ?_
 ·intro i x hi hx hp
  have hi':(i:Int)<(c.progs.length:Int):=by omega
  have hw:IntKind.i64.wrap ((i:Int)+1)=((i+1:Nat):Int):=by rw[qi (by omega) (by omega)];simp
  have h1:¬(x.length:Int)>30:=by simpa[l30]using hp
  simp only[ql1,zgs,zgr,zgq,zgt,hx,hi',hw,h1,qa2,qu,qaz,Ev.ev1,qb,zgy,↓qc,↓reduceIte,Nat.reduceEqDiff]
 ·intro i x hi hx hp
  have hi':(i:Int)<(c.progs.length:Int):=by omega
  have h1:(x.length:Int)>30:=by simpa[l30]using hp
  simp only[ql1,zgs,zgr,zgq,zgt,hx,hi',h1,qaz,Ev.ev1,qb,zgy,↓qc,↓reduceIte,Nat.reduceEqDiff]
  exact⟨_,rfl,rfl,rfl,rfl,rfl⟩
 ·simp only[ql1,Int.lt_irrefl,Ev.ev1,qb,zgy,↓qc,↓reduceIte,Nat.reduceEqDiff]
  exact⟨_,rfl,rfl,rfl,rfl⟩
theorem qaao:qac (evL T) qlf [(.agg [(.fsl ((c.lps).map lpC) false),(.fsl ((c.progs).map qaz) false),(ii c.look),(ii c.fin),(ii c.cap)])]=some (bb (q0q c)):=by
 rw[qac,qe q74 q52]
 by_cases h1:(c.lps.length:Int)>12
 ·simp only[qjk,q0q,h1,Ev.ev1,qb,Ev.AV.cells,Ev.AV.plain,qh,ne_eq,zgy,↓qc,↓reduceIte,Nat.reduceEqDiff]
 by_cases h2:(c.progs.length:Int)>12
 ·simp only[qjk,q0q,h1,h2,Ev.ev1,qb,Ev.AV.cells,Ev.AV.plain,qh,ne_eq,zgy,↓qc,↓reduceIte,Nat.reduceEqDiff]
 obtain⟨⟨y,e,σ⟩,k1,k2⟩:=great_l1 c (by omega)
 obtain⟨⟨y',e',σ'⟩,m1,m2⟩:=great_l2 c (by omega)
 simp only at k2 m2
 rcases k2 with ⟨k3,rfl,k4,rfl,k5⟩|⟨k3,x,_,rfl,k4,rfl,k5⟩
 ·rcases m2 with ⟨m3,rfl,m4,rfl⟩|⟨m3,x,_,rfl,m4,rfl,m5⟩
  ·simp only[qjk,q0q,h1,h2,k1,k3,k4,k5,m1,m3,m4,qa2,qu,Bool.or_self,Ev.ev1,qb,Ev.AV.cells,Ev.AV.plain,qh,ne_eq,zgy,↓qc,↓qv,↓reduceIte,Nat.reduceEqDiff]
  ·simp only[qjk,q0q,h1,h2,k1,k3,k4,k5,m1,m3,m4,m5,qa2,qu,Bool.or_true,Ev.ev1,qb,Ev.AV.cells,Ev.AV.plain,qh,ne_eq,zgy,↓qc,↓qv,↓reduceIte,Nat.reduceEqDiff]
 ·simp only[qjk,q0q,h1,h2,k1,k3,k4,k5,qa2,qu,Bool.or_true,Bool.true_or,Ev.ev1,qb,Ev.AV.cells,Ev.AV.plain,qh,ne_eq,zgy,↓qc,↓qv,↓reduceIte,Nat.reduceEqDiff]
theorem q8q (h:q0q c=false):c.lps.length≤12∧c.progs.length≤12∧(∀l∈c.lps,l.length≤12) ∧ ∀p∈c.progs,p.length≤30:=by
 simp only[q0q,Bool.or_eq_false_iff,decide_eq_false_iff_not,Bool.not_eq_false',List.all_eq_true]at h
 obtain⟨h1,h2,h3,h4⟩:=h
 exact⟨by omega,by omega,fun l hl=>by have:=h3 l hl;simp[l12]at this;omega,fun p hp=>by have:=h4 p hp;simp[l30]at this;omega⟩
def okB (c:Cfg):Bool:=!q0q c&&decide (q8o c=0)
end
structure OpFull (c:Cfg) (p:List OpI) (op:OpI):Prop where
 code:1≤op.code∧op.code≤8
 hold:op.code=1→1≤op.a∧op.a≤1099511627776
 send:op.code=2→0≤op.a∧op.a<c.lps.length∧1≤op.c∧op.c≤1099511627776∧c.look≤op.c
 timer:op.code=3→1≤op.a∧op.a≤1099511627776∧0≤op.b∧op.b<p.length
 spawn:op.code=5→0≤op.a∧op.a<c.progs.length∧1≤op.b∧op.b≤1099511627776
 reg:op.code=6∨op.code=7→op.a=0∨op.a=1
 to:op.code=7→0≤op.c∧op.c<p.length
theorem qad6 {p:List OpI} {ps lps look:Int} (h:qqp p ps lps look=0):qxc p=true∧p.all (fun x=>q0v x p.length ps)=true∧p.all (qagc lps)=true∧p.all (qry look)=true:=by
 unfold qqp at h
 cases h1:qxc p with
 |false=>rw[if_pos h1]at h;cases h
 |true=>
  rw[if_neg (by simp[h1])]at h
  cases h2:p.all (fun x=>q0v x p.length ps)with
  |false=>rw[if_pos h2]at h;cases h
  |true=>
   rw[if_neg (by simp[h2])]at h
   cases h3:p.all (qagc lps)with
   |false=>rw[if_pos h3]at h;cases h
   |true=>
    rw[if_neg (by simp[h3])]at h
    cases h4:p.all (qry look)with
    |false=>rw[if_pos h4]at h;cases h
    |true=>exact⟨rfl,rfl,rfl,rfl⟩
theorem qzt {n:Int}:qxh n=true↔1≤n∧n≤1099511627776:=by simp[qxh]
structure Valid (c:Cfg):Prop where
 lps:1≤c.lps.length∧c.lps.length≤8
 progs:c.progs.length≤8
 lp : ∀l∈c.lps,l.length≤8
 cap:1≤c.cap∧c.cap≤64
 fin:0≤c.fin∧c.fin≤1152921504606846976
 look:1≤c.look
 prog : ∀p∈c.progs,1≤p.length∧p.length≤16 ∧ ∀op∈p,OpFull c p op
 start : ∀l∈c.lps,∀s∈l,0≤s.prog∧s.prog<c.progs.length∧0≤s.time∧s.time≤1152921504606846976
theorem qajv {c:Cfg} {p:List OpI} (h:qqp p c.progs.length c.lps.length c.look=0):1≤p.length∧p.length≤16 ∧ ∀op∈p,OpFull c p op:=by
 obtain⟨h1,h2,h3,h4⟩:=qad6 h
 simp only[qxc,Bool.and_eq_true,decide_eq_true_eq,List.all_eq_true]at h1 h2 h3 h4
 obtain⟨⟨h5,h6⟩,h7⟩:=h1
 refine⟨h5,h6,fun op ho => ?_⟩
 have g1:=h7 op ho
 have g2:=h2 op ho
 have g3:=h3 op ho
 have g4:=h4 op ho
 simp only[q7a,Bool.and_eq_true,decide_eq_true_eq]at g1
 simp only[qagc,qry,Bool.not_eq_true',Bool.and_eq_false_iff,decide_eq_false_iff_not]at g3 g4
 unfold q0v at g2
 refine⟨⟨by omega,by omega⟩,?_,?_,?_,?_,?_,?_⟩
 ·intro k;rw[if_pos k]at g2
  simp only[Bool.and_eq_true,qzt,decide_eq_true_eq]at g2;exact g2.1
 ·intro k
  rw[if_neg (by omega),if_pos k]at g2
  simp only[Bool.and_eq_true,qzt,decide_eq_true_eq]at g2
  refine⟨g2.1,?_,g2.2.2.1,g2.2.2.2,?_⟩
  ·rcases g3 with g3|g3
   ·exact absurd k g3
   ·omega
  ·rcases g4 with g4|g4
   ·exact absurd k g4
   ·omega
 ·intro k
  rw[if_neg (by omega),if_neg (by omega),if_pos k]at g2
  simp only[Bool.and_eq_true,qzt,decide_eq_true_eq]at g2
  exact⟨g2.1.1,g2.1.2,g2.2.1,g2.2.2.1⟩
 ·intro k
  rw[if_neg (by omega),if_neg (by omega),if_neg (by omega),if_pos k]at g2
  simp only[Bool.and_eq_true,qzt,decide_eq_true_eq]at g2
  exact⟨g2.1,g2.2.1,g2.2.2.1.1,g2.2.2.1.2⟩
 ·rintro(k|k)
  ·rw[if_neg (by omega),if_neg (by omega),if_neg (by omega),if_neg (by omega),if_pos k]at g2
   simp only[Bool.and_eq_true,decide_eq_true_eq]at g2
   obtain⟨q1,q2,_⟩:=g2
   omega
  ·rw[if_neg (by omega),if_neg (by omega),if_neg (by omega),if_neg (by omega),if_neg (by omega),if_pos k]at g2
   simp only[Bool.and_eq_true,decide_eq_true_eq]at g2
   obtain⟨q1,q2,_⟩:=g2
   omega
 ·intro k
  rw[if_neg (by omega),if_neg (by omega),if_neg (by omega),if_neg (by omega),if_neg (by omega),if_pos k]at g2
  simp only[Bool.and_eq_true,decide_eq_true_eq]at g2
  exact⟨g2.2.2.2.1,g2.2.2.2.2⟩
theorem qag7 {c:Cfg} (h:q8o c=0):Valid c:=by
 unfold q8o at h
 cases h1:qqk c with
 |false=>rw[if_pos h1]at h;cases h
 |true=>
  rw[if_neg (by simp[h1])]at h
  by_cases h2:c.look<1
  ·rw[if_pos h2]at h;cases h
  rw[if_neg h2]at h
  by_cases h3:qvl (qxa c) c.progs≠0
  ·rw[if_pos h3]at h;exact absurd h h3
  rw[if_neg h3]at h
  have h4:=q1k.1 (Decidable.of_not_not h3)
  have h5:=q1k.1 h
  simp only[qqk,Bool.and_eq_true,decide_eq_true_eq,List.all_eq_true]at h1
  obtain⟨⟨s1,s2,s3⟩,s4,s5⟩:=h1
  refine⟨⟨s1,s2⟩,s3,fun l hl=>by have:=s4 l hl;simp[len8]at this;omega,⟨s5.1,s5.2.1⟩,⟨s5.2.2.1,s5.2.2.2⟩,by omega,fun p hp=>qajv (h4 p hp),fun l hl s hs => ?_⟩
  have h6:=q1k.1 (h5 l hl) s hs
  unfold qml at h6
  split at h6
  ·cases h6
  split at h6
  ·cases h6
  ·omega
def qxg (t0:List Int) (x:Ex) (g:List Int):Prop:=g.length≤40000∧(x.over=true∨g=t0 ∨ ∃ev∈x.out,ev.kind=2∧ev.key=g)
structure EvOk (c:Cfg) (e:Evt) (x:Ex) (k:Nat) (ev:Evt):Prop where
 time:e.time<ev.time∧ev.time≤1152921504606846976
 key : ∃m:Int,ev.key=e.key++[m]∧(k:Int)≤m∧m<x.n
 msg:ev.kind=3→0≤ev.lp∧ev.lp<c.lps.length∧e.time+c.look≤ev.time∧c.look≤1099511627776
 own:ev.kind≠3→ev.lp=e.lp∧0≤ev.proc∧ev.proc<x.procs.length∧(ev.kind=1∨ev.kind=2)
structure EInv (c:Cfg) (e:Evt) (i:Nat) (X:List Pr) (pr:Int) (p:List OpI) (t0:List Int) (n:Nat) (x:Ex):Prop where
 ev:x.ev=e
 len:X.length≤x.procs.length∧x.procs.length≤8
 own : ∃q,x.procs[i]? = some q∧q.prog=pr∧0≤q.pc∧q.pc≤p.length∧(q.timer=[]∨qxg t0 x q.timer)
 old : ∀j,j≠i→j<X.length→x.procs[j]? = X[j]?
 new : ∀j q,X.length≤j→x.procs[j]? = some q→q.alive=true∧q.pc=0∧q.timer=[]∧0≤q.prog∧q.prog<c.progs.length
 cnt:0≤x.n∧x.n≤n∧(x.out.length:Int)≤x.n
 outs : ∀k ev,x.out[k]? = some ev→EvOk c e x k ev
 inc : ∀k ev ev',x.out[k]? = some ev→x.out[k+1]? = some ev' → ∃m m',ev.key=e.key++[m]∧ev'.key=e.key++[m']∧m<m'
 gone : ∀g∈x.gone,qxg t0 x g
section
variable {c:Cfg} {e:Evt} {i:Nat} {X:List Pr} {pr:Int} {p:List OpI} {t0:List Int} {n:Nat} {x:Ex}
theorem EInv.lt (h:EInv c e i X pr p t0 n x):i<x.procs.length:=by
 obtain⟨q,h1,_⟩:=h.own;exact(zei.1 h1).1
theorem EInv.more (h:EInv c e i X pr p t0 n x):EInv c e i X pr p t0 (n+1) x:=
 ⟨h.ev,h.len,h.own,h.old,h.new,by have:=h.cnt;omega,h.outs,h.inc,h.gone⟩
theorem EInv.setP (h:EInv c e i X pr p t0 n x) (hiX:i<X.length) {q:Pr} (h1:q.prog=pr) (h2:0≤q.pc∧q.pc≤p.length) (h3:q.timer=[]∨qxg t0 x q.timer):EInv c e i X pr p t0 n (x.setP i q):=by
 have hlt:=h.lt
 refine⟨h.ev,by simp only[Ex.setP,List.length_set];exact h.len,⟨q,by simp only[Ex.setP];rw[List.getElem?_set_self hlt],h1,h2.1,h2.2,h3⟩,?_,?_,h.cnt,?_,h.inc,h.gone⟩
 ·intro j hj hl;simp only[Ex.setP];rw[List.getElem?_set_ne (Ne.symm hj)];exact h.old j hj hl
 ·intro j q' hl hq;simp only[Ex.setP]at hq;rw[List.getElem?_set_ne (by omega)]at hq;exact h.new j q' hl hq
 ·intro k ev hk
  obtain⟨a,b,d,f⟩:=h.outs k ev hk
  exact⟨a,b,d,by simpa only[Ex.setP,List.length_set]using f⟩
theorem EInv.push (h:EInv c e i X pr p t0 n x) {g:List Int} (hg:qxg t0 x g):EInv c e i X pr p t0 n { x with gone:=x.gone++[g] }:=by
 refine⟨h.ev,h.len,h.own,h.old,h.new,h.cnt,fun k ev hk => ?_,h.inc,?_⟩
 ·obtain⟨a,b,d,f⟩:=h.outs k ev hk;exact⟨a,b,d,f⟩
 ·intro g' hg'
  rcases List.mem_append.1 hg' with hg'|hg'
  ·exact h.gone g' hg'
  ·simp at hg';subst hg';exact hg
theorem EInv.reg (h:EInv c e i X pr p t0 n x) (k v:Int):EInv c e i X pr p t0 n (x.setReg k v):=by
 unfold Ex.setReg
 split
 ·exact⟨h.ev,h.len,h.own,h.old,h.new,h.cnt,fun k ev hk=>by obtain⟨a,b,d,f⟩:=h.outs k ev hk;exact⟨a,b,d,f⟩,h.inc,h.gone⟩
 ·exact⟨h.ev,h.len,h.own,h.old,h.new,h.cnt,fun k ev hk=>by obtain⟨a,b,d,f⟩:=h.outs k ev hk;exact⟨a,b,d,f⟩,h.inc,h.gone⟩
theorem EInv.spawn (h:EInv c e i X pr p t0 n x) (hiX:i<X.length) (hl:x.procs.length<8) {a:Int} (ha:0≤a∧a<c.progs.length):EInv c e i X pr p t0 n { x with procs:=x.procs++[⟨a,0,true,[]⟩] }:=by
 have hlt:=h.lt
 have hln:=h.len
 refine⟨h.ev,by simp;omega,?_,?_,?_,h.cnt,?_,h.inc,h.gone⟩
 ·obtain⟨q,h1,h2⟩:=h.own
  exact⟨q,by show (x.procs ++ _)[i]? = _;rw[List.getElem?_append_left hlt];exact h1,h2⟩
 ·intro j hj hl';show (x.procs ++ _)[j]? = _;rw[List.getElem?_append_left (by omega)];exact h.old j hj hl'
 ·intro j q hj hq
  change (x.procs++[⟨a,0,true,[]⟩])[j]? = some q at hq
  by_cases hjl:j<x.procs.length
  ·rw[List.getElem?_append_left hjl]at hq;exact h.new j q hj hq
  ·have hj2:=(zei.1 hq).1
   simp at hj2
   have hje:j=x.procs.length:=by omega
   subst hje
   simp at hq
   subst hq
   exact⟨rfl,rfl,rfl,ha⟩
 ·intro k ev hk
  obtain⟨a,b,d,f⟩:=h.outs k ev hk
  exact⟨a,b,d,fun hk'=>by obtain⟨f1,f2,f3,f4⟩:=f hk';exact⟨f1,f2,by simp;omega,f4⟩⟩
theorem create_over {d:Int} {s:Evt} (h:x.over=true):(x.create d s).over=true:=by unfold Ex.create;simp only;split<;>first|rfl|exact h
theorem qais {d:Int} {s ev:Evt} (h:ev∈x.out):ev∈(x.create d s).out:=by unfold Ex.create;simp only;split<;>first|exact h|exact List.mem_append_left _ h
theorem qxg.create {g:List Int} (h:qxg t0 x g) (d:Int) (s:Evt):qxg t0 (x.create d s) g:=by
 refine⟨h.1,?_⟩
 rcases h.2 with h|h|⟨ev,h1,h2⟩
 ·exact .inl (create_over h)
 ·exact .inr (.inl h)
 ·exact .inr (.inr ⟨ev,qais h1,h2⟩)
theorem EInv.create (h:EInv c e i X pr p t0 n x) (hn:n≤90) (he:0≤e.time∧e.time≤1152921504606846976) (hk:e.key.length≤30000) {d:Int} (hd:1≤d∧d≤1099511627776) {s:Evt}
  (hm:s.kind=3→0≤s.lp∧s.lp<c.lps.length∧c.look≤d) (ho:s.kind≠3→s.lp=e.lp∧0≤s.proc∧s.proc<x.procs.length∧(s.kind=1∨s.kind=2)) :
  EInv c e i X pr p t0 (n+1) (x.create d s)∧(s.kind=2→qxg t0 (x.create d s) x.kid):=by
 obtain⟨c1,c2,c3⟩:=h.cnt
 have hw:w64 (x.n+1)=x.n+1:=qi (by omega) (by omega)
 have ht:w64 (x.ev.time+d)=e.time+d:=by rw[h.ev];exact qi (by omega) (by omega)
 have hown : ∃q,(x.create d s).procs[i]? = some q∧q.prog=pr∧0≤q.pc∧q.pc≤p.length∧(q.timer=[]∨qxg t0 (x.create d s) q.timer):=by
  obtain⟨q,h1,h2,h3,h4,h5⟩:=h.own
  exact⟨q,h1,h2,h3,h4,h5.imp id fun g=>g.create d s⟩
 have hgone : ∀g∈(x.create d s).gone,qxg t0 (x.create d s) g:=fun g hg=>(h.gone g hg).create d s
 have hkid:x.kid.length≤40000:=by unfold Ex.kid;rw[h.ev];simp;omega
 by_cases hov:e.time+d>1152921504606846976
 ·have hx:x.create d s = { x with n:=x.n+1,over:=true }:=by unfold Ex.create;rw[hw,ht,if_pos hov,if_pos hov]
  rw[hx]at hown hgone⊢
  refine⟨⟨h.ev,h.len,hown,h.old,h.new,⟨by show 0≤x.n+1;omega,by show x.n+1≤((n+1:Nat):Int);omega,by show (x.out.length:Int)≤x.n+1;omega⟩,fun k ev hk' => ?_,h.inc,hgone⟩,fun _=>⟨hkid,.inl rfl⟩⟩
  obtain⟨a,⟨m,b1,b2,b3⟩,d,f⟩:=h.outs k ev hk'
  exact⟨a,⟨m,b1,b2,by show m<x.n+1;omega⟩,d,f⟩
 ·have hx:x.create d s = { x with n:=x.n+1,out:=x.out++[⟨e.time+d,e.key++[x.n],s.lp,s.kind,s.proc,s.arg⟩] }:=by unfold Ex.create Ex.kid;rw[hw,ht,if_neg hov,if_neg hov,h.ev]
  rw[hx]at hown hgone⊢
  refine⟨⟨h.ev,h.len,hown,h.old,h.new,⟨by show 0≤x.n+1;omega,by show x.n+1≤((n+1:Nat):Int);omega,by show ((x.out ++ _).length:Int)≤x.n+1;simp;omega⟩,fun k ev hk' => ?_,?_,hgone⟩,fun hs=>⟨hkid,.inr (.inr ⟨_,List.mem_append_right _ (List.mem_singleton.2 rfl),hs,by unfold Ex.kid;rw[h.ev]⟩)⟩⟩
  ·change (x.out++[_])[k]? = some ev at hk'
   by_cases hkl:k<x.out.length
   ·rw[List.getElem?_append_left hkl]at hk'
    obtain⟨a,⟨m,b1,b2,b3⟩,d,f⟩:=h.outs k ev hk'
    exact⟨a,⟨m,b1,b2,by show m<x.n+1;omega⟩,d,f⟩
   ·have hk2:=(zei.1 hk').1
    simp at hk2
    have hke:k=x.out.length:=by omega
    subst hke
    simp at hk'
    subst hk'
    refine⟨⟨by show e.time<e.time+d;omega,by show e.time+d ≤ _;omega⟩,⟨x.n,rfl,c3,by show x.n<x.n+1;omega⟩,fun hs => ?_,fun hs=>ho hs⟩
    obtain⟨m1,m2,m3⟩:=hm hs
    exact⟨m1,m2,by show e.time+c.look≤e.time+d;omega,by omega⟩
  ·intro k ev ev' h1 h2
   change (x.out++[_])[k]? = some ev at h1
   change (x.out++[_])[k+1]? = some ev' at h2
   have hk2:=(zei.1 h2).1
   simp at hk2
   rw[List.getElem?_append_left (by omega)]at h1
   by_cases hkl:k+1<x.out.length
   ·rw[List.getElem?_append_left hkl]at h2;exact h.inc k ev ev' h1 h2
   ·have hke:k+1=x.out.length:=by omega
    rw[hke]at h2
    simp at h2
    subst h2
    obtain⟨m,b1,b2,b3⟩:=(h.outs k ev h1).key
    exact⟨m,x.n,b1,rfl,b3⟩
theorem EInv.stop (h:EInv c e i X pr p t0 n x) (hiX:i<X.length) {q:Pr} (hq:x.procs[i]? = some q):EInv c e i X pr p t0 n (x.stopE i q):=by
 obtain⟨q',h1,h2,h3,h4,h5⟩:=h.own
 rw[hq]at h1;cases h1
 unfold Ex.stopE
 split
 next hl=>
  have hg:qxg t0 x q.timer:=by
   rcases h5 with h5|h5
   ·rw[h5]at hl;simp at hl
   ·exact h5
  exact(h.push hg).setP (q:={ q with timer:=[] }) hiX h2 ⟨h3,h4⟩ (.inl rfl)
 next=>exact h
theorem EInv.step (h:EInv c e i X pr p t0 n x) (hiX:i<X.length) (hn:n≤90) (he:0≤e.time∧e.time≤1152921504606846976) (hk:e.key.length≤30000) (hpr:e.proc=i) {q:Pr} (hq:x.procs[i]? = some q) {op:OpI} (ho:OpFull c p op) :
  EInv c e i X pr p t0 (n+1) (qgd x i q op).1:=by
 have hlt:=h.lt
 obtain⟨q',h1,h2,h3,h4,h5⟩:=h.own
 rw[hq]at h1;cases h1
 unfold qgd
 split
 next k=>exact(h.create hn he hk (ho.hold k) (fun hs=>absurd hs (by show ¬(1:Int)=3;decide)) (fun _=>⟨by show x.ev.lp=e.lp;rw[h.ev],by show 0≤x.ev.proc;rw[h.ev,hpr];omega,by show x.ev.proc < _;rw[h.ev,hpr];omega,.inl rfl⟩)).1
 split
 next k=>
  obtain⟨s1,s2,s3,s4,s5⟩:=ho.send k
  exact(h.create hn he hk ⟨s3,s4⟩ (s:=⟨0,[],op.a,3,0,op.b⟩) (fun _=>⟨s1,s2,s5⟩) (fun hs=>absurd rfl hs)).1
 split
 next k=>
  obtain⟨s1,s2,s3,s4⟩:=ho.timer k
  have hst:=h.stop hiX hq
  obtain⟨g1,g2⟩:=hst.create hn he hk ⟨s1,s2⟩ (s:=x.ownE 2 x.ev.proc op.b) (fun hs=>absurd hs (by show ¬(2:Int)=3;decide)) (fun _=>⟨by show x.ev.lp=e.lp;rw[h.ev],by show 0≤x.ev.proc;rw[h.ev,hpr];omega,by show x.ev.proc < _;rw[h.ev,hpr];have:=hst.lt;omega,.inr rfl⟩)
  exact g1.setP (q:={ q with timer:=(x.stopE i q).kid }) hiX h2 ⟨h3,h4⟩ (.inr (g2 rfl))
 split
 next k=>exact(h.stop hiX hq).more
 split
 next k=>
  obtain⟨s1,s2,s3,s4⟩:=ho.spawn k
  unfold Ex.spawnE
  split
  next hl=>exact((h.spawn hiX hl ⟨s1,s2⟩).create hn he hk ⟨s3,s4⟩ (s:=x.ownE 1 x.procs.length 0) (fun hs=>absurd hs (by show ¬(1:Int)=3;decide)) (fun _=>⟨by show x.ev.lp=e.lp;rw[h.ev],by show (0:Int)≤(x.procs.length:Int);omega,by show (x.procs.length:Int) < _;simp;omega,.inl rfl⟩)).1
  next=>exact h.more
 split
 next k=>exact(h.reg _ _).more
 split
 next k=>
  obtain⟨s1,s2⟩:=ho.to k
  split
  ·exact(h.setP (q:={ q with pc:=op.c }) hiX h2 ⟨s1,by show op.c ≤ _;omega⟩ h5).more
  ·exact h.more
 next=>exact h.more
theorem EInv.kill (h:EInv c e i X pr p t0 n x) (hiX:i<X.length):EInv c e i X pr p t0 n (qs0 x i):=by
 obtain⟨q,h1,h2,h3,h4,h5⟩:=h.own
 unfold qs0;rw[h1]
 exact h.setP (q:={ q with alive:=false }) hiX h2 ⟨h3,h4⟩ h5
theorem EInv.stepR (h:EInv c e i X pr p t0 n x) (hiX:i<X.length) (hn:n≤90) (he:0≤e.time∧e.time≤1152921504606846976) (hk:e.key.length≤30000) (hpl:p.length≤1000) (hpr:e.proc=i) {q:Pr} (hq:x.procs[i]? = some q) {op:OpI} (hop:p[q.pc.toNat]? = some op) (ho:OpFull c p op) :
  EInv c e i X pr p t0 (n+1) (stepR x i q op).1:=by
 have hlt:=h.lt
 obtain⟨q',h1,h2,h3,h4,h5⟩:=h.own
 rw[hq]at h1;cases h1
 have hpc:=(zei.1 hop).1
 have hw:w64 (q.pc+1)=q.pc+1:=qi (by omega) (by omega)
 have hz:=h.setP (q:=q.inc) hiX h2 ⟨by show 0≤w64 (q.pc+1);rw[hw];omega,by show w64 (q.pc+1) ≤ _;rw[hw];omega⟩ h5
 have hzq:(x.setP i q.inc).procs[i]? = some q.inc:=by simp only[Ex.setP];rw[List.getElem?_set_self hlt]
 have hs:=hz.step hiX hn he hk hpr hzq ho
 unfold K.stepR
 split
 ·exact hs
 split
 ·exact hs.kill hiX
 ·exact hs
theorem EInv.act (hiX:i<X.length) (he:0≤e.time∧e.time≤1152921504606846976) (hk:e.key.length≤30000) (hpl:p.length≤1000) (hpr:e.proc=i) (ho : ∀op∈p,OpFull c p op) :
  ∀(m n:Nat) (x:Ex),n+m≤90→EInv c e i X pr p t0 n x→EInv c e i X pr p t0 (n+m) (qvq p i m x)
 | 0,n,x,_,h=>h.kill hiX
 |m+1,n,x,hnm,h=>by
  obtain⟨q,h1,h2⟩:=h.own
  have mono : ∀ {k:Nat} {y:Ex},EInv c e i X pr p t0 k y → ∀l,k≤l→EInv c e i X pr p t0 l y:=by
   intro k y hy l hl
   exact⟨hy.ev,hy.len,hy.own,hy.old,hy.new,by have:=hy.cnt;omega,hy.outs,hy.inc,hy.gone⟩
  rw[qaej p i m x q h1]
  cases hop:p[q.pc.toNat]? with
  |none=>exact mono (h.kill hiX) _ (by omega)
  |some op=>
   have hs:=h.stepR hiX (by omega) he hk hpl hpr h1 hop (ho op (zmg hop))
   simp only
   split
   ·exact mono hs _ (by omega)
   ·have:=EInv.act hiX he hk hpl hpr ho m (n+1) _ (by omega) hs
    rw[show n+(m+1)=n+1+m from by omega];exact this
end
set_option maxRecDepth 10000
def badP (c:Cfg) (q:Pr):Bool:=!(decide (0≤q.prog)&&(decide (q.prog<c.progs.length)&&(decide (0≤q.pc)&&decide (q.pc≤(((c.progs[q.prog.toNat]?).getD []).length:Int)))))
theorem not_lt_zero {x:Int} (h:¬x<0):0≤x:=by omega
set_option maxRecDepth 10000
set_option maxRecDepth 10000
structure Ready (c:Cfg) (x:Lp) (e:Evt):Prop where
 valid:Valid c
 len:x.procs.length≤8
 proc : ∀q∈x.procs,0≤q.prog∧q.prog<c.progs.length∧0≤q.pc∧q.pc≤((c.progs[q.prog.toNat]?).getD []).length∧q.timer.length≤30000
 time:0≤e.time∧e.time≤1152921504606846976
 key:e.key.length≤30000
 arg : ∀q,qwd x e=some q→e.kind=2→0≤e.arg∧e.arg≤((c.progs[q.prog.toNat]?).getD []).length
theorem qak2 {c:Cfg} {p:List OpI} {op:OpI} (h:OpFull c p op) (hp:p.length≤16):OpOk' op:=⟨h.code,h.reg,fun k=>by have:=h.to k;omega⟩
section
variable {c:Cfg} {x:Lp} {e:Evt}
theorem q91 {q:Pr} (h:qwd x e=some q):(e.kind=1∨e.kind=2)∧0≤e.proc∧x.procs[e.proc.toNat]? = some q∧q.alive=true:=by
 unfold qwd at h
 split at h
 case isFalse=>cases h
 rename_i hc
 rw[zob]at h
 obtain⟨q',hq,ha⟩:=h
 split at ha
 case isFalse=>cases ha
 rename_i hal
 cases ha
 exact⟨hc.1,hc.2,hq,hal⟩
theorem Ready.ops (h:Ready c x e) {p:List OpI} (hp:p∈c.progs):p.length≤16 ∧ ∀op∈p,OpFull c p op:=⟨(h.valid.prog p hp).2.1,(h.valid.prog p hp).2.2⟩
theorem Ready.plen (h:Ready c x e) (k:Nat):((c.progs[k]?).getD []).length≤16:=by
 cases hk:c.progs[k]? with
 |none=>simp
 |some p=>simpa using (h.ops (zmg hk)).1
theorem Ready.execOk (h:Ready c x e) {q:Pr} (ha:qwd x e=some q):q5u c x e:=
 ⟨by have:=h.len;omega,by have:=h.key;omega,fun q hq=>by obtain⟨a,b,d,f,g⟩:=h.proc q hq;have:=h.plen q.prog.toNat;exact⟨a,b,d,by omega,by omega⟩,
  fun p hp=>⟨by have:=(h.ops hp).1;omega,fun op ho=>qak2 ((h.ops hp).2 op ho) (h.ops hp).1⟩,fun k=>by have:=h.arg q ha k;have:=h.plen q.prog.toNat;omega⟩
theorem Ready.inv (h:Ready c x e) {q:Pr} (ha:qwd x e=some q) : ∃(i:Nat) (p:List OpI),e.proc=i∧x.procs[i]? = some q∧p∈c.progs∧c.progs[q.prog.toNat]? = some p∧EInv c e i x.procs q.prog p q.timer 16 (q0m c x e q):=by
 obtain⟨a1,a2,a3,a4⟩:=q91 ha
 obtain⟨i,hi⟩ : ∃i:Nat,e.proc=i:=⟨_,(Int.toNat_of_nonneg a2).symm⟩
 have hin:e.proc.toNat=i:=by omega
 rw[hin]at a3
 obtain⟨p1,p2,p3,p4,p5⟩:=h.proc q (zmg a3)
 obtain⟨p,hp⟩ : ∃p,c.progs[q.prog.toNat]? = some p:=⟨_,zgE (by omega)⟩
 have hpm:=zmg hp
 have hlt:=(zei.1 a3).1
 have hgd:((c.progs[q.prog.toNat]?).getD []).length=p.length:=by rw[hp];rfl
 rw[hgd]at p4
 refine⟨i,p,hi,a3,hpm,hp,?_⟩
 have hrun:q0m c x e q=qvq p i 16 ((ql4 x e).setP i (qn6 e q)):=by unfold q0m;rw[hin,hp];rfl
 rw[hrun]
 have hg:q.timer=[]∨qxg q.timer (ql4 x e) q.timer:=.inr ⟨by omega,.inr (.inl rfl)⟩
 have h0:EInv c e i x.procs q.prog p q.timer 0 (ql4 x e):=by
  refine⟨rfl,⟨Nat.le_refl _,h.len⟩,⟨q,a3,rfl,p3,p4,hg⟩,fun j _ _=>rfl,fun j q' hj hq' => ?_,⟨Int.le_refl 0,Int.le_refl 0,Int.le_refl 0⟩,fun k ev hk=>by simp[ql4]at hk,fun k ev ev' hk=>by simp[ql4]at hk,fun g hg=>by simp[ql4]at hg⟩
  have:=(zei.1 hq').1
  change j<x.procs.length at this
  omega
 have h1:EInv c e i x.procs q.prog p q.timer 0 ((ql4 x e).setP i (qn6 e q)):=by
  refine h0.setP hlt (qaer e q) ?_ ?_
  ·unfold qn6;split
   next k=>have:=h.arg q ha k;rw[hgd]at this;exact this
   next=>exact⟨p3,p4⟩
  ·unfold qn6;split
   ·by_cases ht:q.timer=e.key
    ·simp[ht]
    ·simp only[ht,if_false];exact hg
   ·exact hg
 have:=EInv.act hlt h.time (by have:=h.key;omega) (by have:=(h.ops hpm).1;omega) hi (h.ops hpm).2 16 0 _ (by omega) h1
 exact this
theorem ActInv.act {i:Nat} {p:List OpI} (hpl:p.length≤1000) (ho : ∀op∈p,OpOk' op) : ∀(m n:Nat) (y:Ex),ActInv e i n y→ActInv e i (n+m) (qvq p i m y)
 | 0,n,y,h=>by
  obtain⟨q,h1,h2⟩:=h.has
  show ActInv e i n (qs0 y i)
  unfold qs0;rw[h1];exact h.pc h1 h2 false
 |m+1,n,y,h=>by
  have mono : ∀ {k:Nat} {z:Ex},ActInv e i k z → ∀l,k≤l→ActInv e i l z:=fun hz l hl=>⟨hz.ev,hz.has,hz.procs,by have:=hz.out;omega,by have:=hz.gone;omega⟩
  obtain⟨q,h1,h2⟩:=h.has
  rw[qaej p i m y q h1]
  cases hop:p[q.pc.toNat]? with
  |none=>
   refine mono (k:=n) ?_ _ (by omega)
   show ActInv e i n (qs0 y i)
   unfold qs0;rw[h1];exact h.pc h1 h2 false
  |some op=>
   have hlp:=(zei.1 hop).1
   have hs:=h.stepR h1 ⟨by omega,by omega⟩ (ho op (zmg hop))
   simp only
   split
   ·exact mono hs _ (by omega)
   ·have:=ActInv.act hpl ho m (n+1) _ hs
    rw[show n+(m+1)=n+1+m from by omega];exact this
theorem Ready.goneLen (h:Ready c x e) {q:Pr} (ha:qwd x e=some q):(q0m c x e q).gone.length≤16:=by
 obtain⟨i,p,hi,hq,hpm,hp,_⟩:=h.inv ha
 have hin:e.proc.toNat=i:=by omega
 have hrun:q0m c x e q=qvq p i 16 ((ql4 x e).setP i (qn6 e q)):=by unfold q0m;rw[hin,hp];rfl
 have h0:=qaeg c x e (h.execOk ha) hi hq
 have:=ActInv.act (by have:=(h.ops hpm).1;omega) (fun op ho=>qak2 ((h.ops hpm).2 op ho) (h.ops hpm).1) 16 0 _ h0
 rw[hrun];have:=this.gone;omega
structure XRes where
 lp:Lp
 out:List Evt
 gone:List (List Int)
 over:Bool
 nil:Bool
def qa1 (c:Cfg) (x:Lp) (e:Evt):XRes:=
 if e.kind=3 then ⟨⟨x.r0,x.r1,x.procs,w64 (x.sum+e.arg)⟩,[],[],false,true⟩
 else match qwd x e with
  |none=>⟨x,[],[],false,true⟩
  |some q=>⟨endE (q0m c x e q),(q0m c x e q).out,(q0m c x e q).gone,(q0m c x e q).over,false⟩
theorem Exec_ev (h:Ready c x e):qac (evL T) qd8 [(.agg [(.fsl ((c.lps).map lpC) false),(.fsl ((c.progs).map qaz) false),(ii c.look),(ii c.fin),(ii c.cap)]),(.agg [(ii x.r0),(ii x.r1),(.fsl ((x.procs).map Pr.r) false),(ii x.sum)]),(.agg [(ii e.time),(.fsl ((e.key).map qa0) false),(ii e.lp),(ii e.kind),(ii e.proc),(ii e.arg)])]=some (.tup [(.agg [(ii ((qa1 c x e).lp.r0)),(ii ((qa1 c x e).lp.r1)),(.fsl (((qa1 c x e).lp.procs).map Pr.r) false),(ii ((qa1 c x e).lp.sum))]),(.fsl (((qa1 c x e).out).map Evt.r) (qa1 c x e).nil),(.fsl (((qa1 c x e).gone).map qna) (qa1 c x e).nil),(bb ((qa1 c x e).over))]):=by
 unfold qa1
 by_cases hk:e.kind=3
 ·rw[if_pos hk];exact Exec_msg c x e hk
 rw[if_neg hk]
 cases ha:qwd x e with
 |none=>exact qamk c x e hk ha
 |some q=>exact Exec_run c x e (h.execOk ha) ha
theorem Ready.sizes (h:Ready c x e):(qa1 c x e).lp.procs.length≤8∧(∀q∈(qa1 c x e).lp.procs,q.timer.length≤40000)∧(qa1 c x e).out.length≤16∧(∀ev∈(qa1 c x e).out,ev.key.length≤40000)∧(∀g∈(qa1 c x e).gone,g.length≤40000)∧(qa1 c x e).gone.length≤16:=by
 unfold qa1
 by_cases hk:e.kind=3
 ·rw[if_pos hk]
  exact⟨h.len,fun q hq=>by have:=(h.proc q hq).2.2.2.2;omega,by simp,fun _ h=>by simp at h,fun _ h=>by simp at h,by simp⟩
 rw[if_neg hk]
 cases ha:qwd x e with
 |none=>exact⟨h.len,fun q hq=>by have:=(h.proc q hq).2.2.2.2;omega,by simp,fun _ h=>by simp at h,fun _ h=>by simp at h,by simp⟩
 |some q=>
  obtain⟨i,p,hi,hq,hpm,hp,hI⟩:=h.inv ha
  refine⟨hI.len.2,fun q' hq' => ?_,by have:=hI.cnt;show (q0m c x e q).out.length≤16;omega,fun ev hev => ?_,fun g hg=>(hI.gone g hg).1,h.goneLen ha⟩
  ·obtain⟨j,hj⟩:=List.mem_iff_getElem?.1 hq'
   change (q0m c x e q).procs[j]? = some q' at hj
   by_cases hji:j=i
   ·obtain⟨q2,b1,_,_,_,b5⟩:=hI.own
    subst hji
    rw[hj]at b1;cases b1
    rcases b5 with b5|b5
    ·rw[b5];simp
    ·exact b5.1
   ·by_cases hjl:j<x.procs.length
    ·rw[hI.old j hji hjl]at hj
     have:=(h.proc q' (zmg hj)).2.2.2.2;omega
    ·rw[(hI.new j q' (by omega) hj).2.2.1];simp
  ·obtain⟨k,hk'⟩:=List.mem_iff_getElem?.1 hev
   obtain⟨m,hm,_⟩:=(hI.outs k ev hk').key
   rw[hm];have:=h.key;simp;omega
end
set_option maxRecDepth 10000
theorem q25 {f:Env→qf→R3} {s:Env→qf→Option (Env×qf)} {τ:Type} (l:List τ) (E:Nat→Env) (σ:qf) (Q:CExit×Env×qf→Prop)
  (good : ∀(i:Nat) (x:τ),i<l.length→l[i]? = some x→it1 f s (E i) σ=some (.inl (E (i+1),σ)))
  (last : ∃y,it1 f s (E l.length) σ=some (.inr y)∧Q y) : ∃y,itB f s (E 0) σ=some y∧Q y:=by
 have H:=qgl l E σ (fun _=>true) Q (fun _ _=>False) (fun i x h1 h2 _=>good i x h1 h2) (fun i x _ _ h=>by cases h) last
 obtain⟨y,h1,h2|⟨h2,_⟩⟩:=H
 ·exact⟨y,h1,h2.2⟩
 ·simp at h2
section
variable {c:Cfg} {x:Lp} {e:Evt}
theorem Ready.cases (h:Ready c x e):(e.kind=3∧qa1 c x e=⟨⟨x.r0,x.r1,x.procs,w64 (x.sum+e.arg)⟩,[],[],false,true⟩)∨(¬e.kind=3∧qwd x e=none∧qa1 c x e=⟨x,[],[],false,true⟩) ∨
  ∃q,¬e.kind=3∧qwd x e=some q∧qa1 c x e=⟨endE (q0m c x e q),(q0m c x e q).out,(q0m c x e q).gone,(q0m c x e q).over,false⟩:=by
 unfold qa1
 by_cases hk:e.kind=3
 ·exact .inl ⟨hk,if_pos hk⟩
 ·rw[if_neg hk]
  cases ha:qwd x e with
  |none=>exact .inr (.inl ⟨hk,rfl,rfl⟩)
  |some q=>exact .inr (.inr ⟨q,hk,rfl,rfl⟩)
theorem Ready.outs (h:Ready c x e) : ∃X:Ex,X.procs=(qa1 c x e).lp.procs∧(∀k ev,(qa1 c x e).out[k]? = some ev→EvOk c e X k ev) ∧
  ∀k ev ev',(qa1 c x e).out[k]? = some ev→(qa1 c x e).out[k+1]? = some ev' → ∃m m',ev.key=e.key++[m]∧ev'.key=e.key++[m']∧m<m':=by
 rcases h.cases with ⟨_,hx⟩|⟨_,_,hx⟩|⟨q,_,ha,hx⟩
 ·rw[hx];exact⟨ql4 x e,rfl,fun k ev hk=>by simp at hk,fun k ev ev' hk=>by simp at hk⟩
 ·rw[hx];exact⟨ql4 x e,rfl,fun k ev hk=>by simp at hk,fun k ev ev' hk=>by simp at hk⟩
 ·rw[hx]
  obtain⟨i,p,hi,hq,hpm,hp,hI⟩:=h.inv ha
  exact⟨q0m c x e q,rfl,hI.outs,hI.inc⟩
theorem Ready.state (h:Ready c x e):x.procs.length≤(qa1 c x e).lp.procs.length ∧ ∀(j:Nat) (q':Pr),(qa1 c x e).lp.procs[j]? = some q' →
  (badP c q'=false∧(x.procs.length≤j→q'.alive=true∧q'.pc=0) ∧ ∀q,x.procs[j]? = some q→q'.prog=q.prog∧((j:Int)≠e.proc→q'=q)):=by
 have old : ∀q∈x.procs,badP c q=false:=by
  intro q hq
  obtain⟨a,b,d,f,g⟩:=h.proc q hq
  simp only[badP,a,b,d,f,zgv,zfc,Bool.not_true]
 rcases h.cases with ⟨_,hx⟩|⟨_,_,hx⟩|⟨q0,_,ha,hx⟩
 ·rw[hx]
  refine⟨Nat.le_refl _,fun j q' hj=>⟨old q' (zmg hj),fun hl => ?_,fun q hq => ?_⟩⟩
  ·have:=(zei.1 hj).1;simp only at this;omega
  ·simp only at hj;rw[hq]at hj;cases hj;exact⟨rfl,fun _=>rfl⟩
 ·rw[hx]
  refine⟨Nat.le_refl _,fun j q' hj=>⟨old q' (zmg hj),fun hl => ?_,fun q hq => ?_⟩⟩
  ·have:=(zei.1 hj).1;simp only at this;omega
  ·simp only at hj;rw[hq]at hj;cases hj;exact⟨rfl,fun _=>rfl⟩
 ·rw[hx]
  obtain⟨i,p,hi,hq0,hpm,hp,hI⟩:=h.inv ha
  have hlt:=(zei.1 hq0).1
  obtain⟨p1,p2,p3,p4,p5⟩:=h.proc q0 (zmg hq0)
  refine⟨hI.len.1,fun j q' hj => ?_⟩
  change (q0m c x e q0).procs[j]? = some q' at hj
  by_cases hji:j=i
  ·subst hji
   obtain⟨q2,b1,b2,b3,b4,b5⟩:=hI.own
   rw[hj]at b1;cases b1
   refine⟨?_,fun hl=>by omega,fun q hq => ?_⟩
   ·simp only[badP,b2,b3,b4,hp,p1,p2,Option.getD_some,zgv,zfc,Bool.not_true]
   ·rw[hq0]at hq;cases hq;exact⟨b2,fun hne=>absurd hi.symm hne⟩
  ·by_cases hjl:j<x.procs.length
   ·rw[hI.old j hji hjl]at hj
    refine⟨old q' (zmg hj),fun hl=>by omega,fun q hq => ?_⟩
    rw[hq]at hj;cases hj;exact⟨rfl,fun _=>rfl⟩
   ·obtain⟨n1,n2,n3,n4,n5⟩:=hI.new j q' (by omega) hj
    refine⟨?_,fun _=>⟨n1,n2⟩,fun q hq => ?_⟩
    ·simp[badP,n2,n4,n5]
    ·have:=(zei.1 hq).1;omega
end
set_option maxRecDepth 10000
structure TOk (e:Evt) (L:Nat) (ev:Evt):Prop where
 tim:ev.kind=2→ev.proc=e.proc∧0≤ev.arg∧ev.arg<L
 msg:ev.kind=3→ev.proc=0
def qyl (e:Evt) (L B:Nat) (x:Ex):Prop:=x.ev=e∧(∀ev∈x.out,TOk e L ev) ∧ ∀q∈x.procs,q.timer.length≤B
section
variable {e:Evt} {L B:Nat} {x:Ex}
theorem qyl.same (h:qyl e L B x) {y:Ex} (h1:y.ev=x.ev) (h2:y.out=x.out) (h3:y.procs=x.procs):qyl e L B y:=⟨by rw[h1];exact h.1,by rw[h2];exact h.2.1,by rw[h3];exact h.2.2⟩
theorem qyl.setP (h:qyl e L B x) (i:Nat) {q:Pr} (hq:q.timer.length≤B):qyl e L B (x.setP i q):=by
 refine⟨h.1,h.2.1,fun q' hq' => ?_⟩
 rcases List.mem_or_eq_of_mem_set hq' with hq'|rfl
 ·exact h.2.2 q' hq'
 ·exact hq
theorem qyl.at (h:qyl e L B x) {i:Nat} {q:Pr} (hq:x.procs[i]? = some q):q.timer.length≤B:=h.2.2 q (zmg hq)
theorem qyl.create (h:qyl e L B x) (d:Int) {s:Evt} (hs:s.kind=2→s.proc=e.proc∧0≤s.arg∧s.arg<L) (hm:s.kind=3→s.proc=0):qyl e L B (x.create d s):=by
 refine⟨h.1,fun ev hev => ?_,h.2.2⟩
 unfold Ex.create at hev
 simp only at hev
 split at hev
 ·exact h.2.1 ev hev
 ·rcases List.mem_append.1 hev with hev|hev
  ·exact h.2.1 ev hev
  ·rw[List.mem_singleton]at hev;subst hev;exact⟨hs,hm⟩
theorem qyl.stop (h:qyl e L B x) (i:Nat) (q:Pr):qyl e L B (x.stopE i q):=by
 unfold Ex.stopE;split
 ·exact qyl.same (h.setP i (q:={ q with timer:=[] }) (Nat.zero_le _)) rfl rfl rfl
 ·exact h
theorem qyl.kill (h:qyl e L B x) (i:Nat):qyl e L B (qs0 x i):=by
 unfold qs0;split
 next q hq=>exact h.setP i (q:={ q with alive:=false }) (show q.timer.length≤B from h.at hq)
 ·exact h
theorem qyl.step (h:qyl e L B x) (i:Nat) (q:Pr) (op:OpI) (hq:q.timer.length≤B) (hB:e.key.length+1≤B) (ho:op.code=3→0≤op.b∧op.b<L):qyl e L B (qgd x i q op).1:=by
 have he:=h.1
 unfold qgd
 split
 ·exact h.create _ (fun k=>absurd k (by show ¬(1:Int)=2;decide)) (fun k=>absurd k (by show ¬(1:Int)=3;decide))
 split
 ·exact h.create _ (fun k=>absurd k (by show ¬(3:Int)=2;decide)) (fun _=>rfl)
 split
 next k=>
  show qyl e L B (x.timerE i q op)
  unfold Ex.timerE
  refine qyl.setP ((h.stop i q).create op.a (s:=x.ownE 2 x.ev.proc op.b) (fun _=>⟨by show x.ev.proc=e.proc;rw[he],ho k⟩) (fun k=>absurd k (by show ¬(2:Int)=3;decide))) i ?_
  show (x.stopE i q).kid.length≤B
  unfold Ex.kid
  rw[(h.stop i q).1];simp;exact hB
 split
 ·exact h.stop i q
 split
 ·show qyl e L B (x.spawnE op)
  unfold Ex.spawnE;split
  ·have h2:qyl e L B ({ x with procs:=x.procs++[⟨op.a,0,true,[]⟩] }:Ex):=by
    refine⟨h.1,h.2.1,fun q' hq' => ?_⟩
    rcases List.mem_append.1 hq' with hq'|hq'
    ·exact h.2.2 q' hq'
    ·rw[List.mem_singleton]at hq';subst hq';exact Nat.zero_le _
   exact h2.create _ (fun k=>absurd k (by show ¬(1:Int)=2;decide)) (fun k=>absurd k (by show ¬(1:Int)=3;decide))
  ·exact h
 split
 ·show qyl e L B (x.setReg _ _)
  unfold Ex.setReg;split<;>exact h.same rfl rfl rfl
 split
 ·show qyl e L B (if _ then _ else _)
  split
  ·exact h.setP i (q:={ q with pc:=op.c }) hq
  ·exact h
 ·exact h
theorem qyl.act {p:List OpI} (hB:e.key.length+1≤B) (ho : ∀op∈p,op.code=3→0≤op.b∧op.b<L) (i:Nat) : ∀(m:Nat) {x:Ex},qyl e L B x→qyl e L B (qvq p i m x)
 | 0,x,h=>h.kill i
 |m+1,x,h=>by
  unfold qvq
  split
  ·exact h
  rename_i q hq
  split
  ·exact h.kill i
  rename_i op hop
  have h0:qyl e L B (x.setP i { q with pc:=w64 (q.pc+1) }):=h.setP i (show q.timer.length≤B from h.at hq)
  have hs:=h0.step i { q with pc:=w64 (q.pc+1) } op (show q.timer.length≤B from h.at hq) hB (ho op (zmg hop))
  split
  ·exact hs
  split
  ·exact hs.kill i
  ·exact qyl.act hB ho i m hs
end
theorem Ready.tims {c:Cfg} {x:Lp} {e:Evt} (h:Ready c x e) {B:Nat} (hB:e.key.length+1≤B) (hx : ∀q∈x.procs,q.timer.length≤B):(∀ev∈(qa1 c x e).out,(ev.kind=3→ev.proc=0)∧(ev.kind=2 → ∃q p,x.procs[e.proc.toNat]? = some q∧c.progs[q.prog.toNat]? = some p∧ev.proc=e.proc∧0≤ev.arg∧ev.arg<p.length)) ∧ ∀q∈(qa1 c x e).lp.procs,q.timer.length≤B:=by
 rcases h.cases with ⟨_,hx'⟩|⟨_,_,hx'⟩|⟨q,_,ha,hx'⟩
 ·rw[hx'];exact⟨fun ev hev=>by simp at hev,hx⟩
 ·rw[hx'];exact⟨fun ev hev=>by simp at hev,hx⟩
 ·rw[hx']
  obtain⟨i,p,hi,hq,hpm,hp,_⟩:=h.inv ha
  have hw:(qn6 e q).timer.length≤B:=by
   have:=hx q (zmg hq)
   unfold qn6;split
   ·show (if q.timer=e.key then []else q.timer).length≤B
    split
    ·exact Nat.zero_le _
    ·exact this
   ·exact this
  have h0:qyl e p.length B (ql4 x e):=⟨rfl,fun ev hev=>(by cases hev),hx⟩
  have hT:qyl e p.length B (q0m c x e q):=by
   unfold q0m
   rw[hp]
   exact qyl.act hB (fun op ho k=>by have:=((h.ops hpm).2 op ho).timer k;exact⟨this.2.2.1,this.2.2.2⟩) _ 16 (h0.setP e.proc.toNat hw)
  refine⟨fun ev hev => ?_,hT.2.2⟩
  have:=hT.2.1 ev hev
  exact⟨this.msg,fun k=>⟨q,p,by rw[hi,Int.toNat_natCast];exact hq,hp,this.tim k⟩⟩
set_option maxRecDepth 10000
def qme (k i:Nat) (s:Start):Evt:=⟨s.time,[(k:Int),(i:Int)],k,1,i,0⟩
def qnj (k:Nat) (l:List Start):List Evt:=l.mapIdx (fun i s=>qme k i s)
def ql7 (lps:List (List Start)):List Evt:=(lps.mapIdx (fun k l=>qnj k l)).flatten
theorem qafy (k:Nat) (l:List Start) (s:Start):qnj k (l++[s])=qnj k l++[qme k l.length s]:=by simp[qnj,List.mapIdx_append]
theorem qah0 (lps:List (List Start)) (l:List Start):ql7 (lps++[l])=ql7 lps++qnj lps.length l:=by simp[ql7,List.mapIdx_append]
theorem qabi (k:Nat) (l:List Start):(qnj k l).length=l.length:=by simp[qnj]
theorem qu0 {k:Nat} {l:List Start} {x:Evt} (h:x∈qnj k l) : ∃i s,l[i]? = some s∧x=qme k i s:=by
 simp only[qnj]at h
 obtain⟨i,hi⟩:=List.mem_iff_getElem?.1 h
 rw[List.getElem?_mapIdx]at hi
 cases hl:l[i]? with
 |none=>rw[hl]at hi;cases hi
 |some s=>rw[hl]at hi;cases hi;exact⟨i,s,hl,rfl⟩
theorem q3f {lps:List (List Start)} {x:Evt} (h:x∈ql7 lps) : ∃k l i s,lps[k]? = some l∧l[i]? = some s∧x=qme k i s:=by
 simp only[ql7,List.mem_flatten]at h
 obtain⟨r,hr,hx⟩:=h
 obtain⟨k,hk⟩:=List.mem_iff_getElem?.1 hr
 rw[List.getElem?_mapIdx]at hk
 cases hl:lps[k]? with
 |none=>rw[hl]at hk;cases hk
 |some l=>
  rw[hl]at hk;cases hk
  obtain⟨i,s,h1,h2⟩:=qu0 hx
  exact⟨k,l,i,s,hl,h1,h2⟩
theorem qaio (lps:List (List Start)):qc4 (ql7 lps):=by
 intro x hx
 obtain⟨k,l,i,s,_,_,rfl⟩:=q3f hx
 simp[qme]
theorem qad9 {k k' i i':Nat} {s s':Start} (h:qx5 (qme k i s) (qme k' i' s')=0):k=k'∧i=i':=by
 have:=((q9t _ _).1 h).2
 simp only[qme,List.cons.injEq,and_true]at this
 omega
theorem qahn (lps:List (List Start)):q3p (ql7 lps):=by
 unfold q3p ql7
 rw[List.pairwise_flatten]
 constructor
 ·intro r hr
  obtain⟨k,hk⟩:=List.mem_iff_getElem?.1 hr
  rw[List.getElem?_mapIdx]at hk
  cases hl:lps[k]? with
  |none=>rw[hl]at hk;cases hk
  |some l=>
   rw[hl]at hk;cases hk
   rw[List.pairwise_iff_getElem]
   intro i j hi hj hij h
   simp only[qnj,List.getElem_mapIdx]at h
   have:=(qad9 h).2;omega
 ·rw[List.pairwise_iff_getElem]
  intro k k' hk hk' hkk x hx y hy h
  simp only[List.getElem_mapIdx]at hx hy
  obtain⟨i,s,_,rfl⟩:=qu0 hx
  obtain⟨i',s',_,rfl⟩:=qu0 hy
  have:=(qad9 h).1;omega
theorem qaf1 {k i:Nat} {l:List Start} {s:Start} (h:l[i]? = some s):qnj k (l.take (i+1))=qnj k (l.take i)++[qme k i s]:=by
 have hi:i<l.length:=(zei.1 h).1
 rw[qhq h,qafy,List.length_take,Nat.min_eq_left (by omega)]
theorem qabw {k:Nat} {lps:List (List Start)} {l:List Start} (h:lps[k]? = some l):ql7 (lps.take (k+1))=ql7 (lps.take k)++qnj k l:=by
 have hi:k<lps.length:=(zei.1 h).1
 rw[qhq h,qah0,List.length_take,Nat.min_eq_left (by omega)]
theorem qad2 : ∀ {lps:List (List Start)} {m:Nat},(∀l∈lps,l.length≤m)→(ql7 lps).length≤lps.length*m:=by
 intro lps m h
 have : ∀n,n≤lps.length→(ql7 (lps.take n)).length≤n*m:=by
  intro n
  induction n with
  |zero=>intro _;simp[ql7]
  |succ n ih=>
   intro hn
   obtain⟨l,hl⟩ : ∃l,lps[n]? = some l:=⟨_,zgE (by omega)⟩
   rw[qabw hl,List.length_append,qabi,Nat.succ_mul]
   have:=ih (by omega)
   have:=h l (zmg hl)
   omega
 have:=this lps.length (Nat.le_refl _)
 rwa[List.take_length]at this
section
variable (c:Cfg)
theorem q5q (out:List Evt) (e:List AV):List.take out.length (out.map Evt.r)=out.map Evt.r∧List.take (out.length+1) (out.map Evt.r++[e])=out.map Evt.r++[e]:=⟨ztl (by simp),ztl (by simp)⟩
theorem qai5 (k:Nat) (l:List Start) (o0:List Evt) (g0:Nat) (hl:l.length≤12) (hk:k≤12) (ho:o0.length≤1000) (n:Int) :
  ∃y,itB (exec (evL T) itL none qi0) (qai [3,4,9,10,11,16,17,18] true 1) ⟨[(3,.sl 0 g0 0 o0.length false),(4,(ii k)),(9,(.fsl ((c.lps).map lpC) false)),(10,(ii n)),(11,(ii k)),(16,(.fsl ((l).map Start.r) false)),(17,(ii l.length)),(18,(ii 0))],[]⟩ [.row 6 (o0.map Evt.r) g0]=some y ∧
   ∃g:Nat,y.1 = .exit 2∧y.2.1.marks=[]∧y.2.2=[.row 6 ((o0++qnj k l).map Evt.r) g]∧Ev.look y.2.1.vars 3=some (.sl 0 g 0 (o0++qnj k l).length false)∧Ev.look y.2.1.vars 9=some (.fsl ((c.lps).map lpC) false)∧Ev.look y.2.1.vars 10=some (ii n)∧Ev.look y.2.1.vars 11=some (ii k):=by
 have key:=qg5 (f:=exec (evL T) itL none qi0) (s:=qai [3,4,9,10,11,16,17,18] true 1) (α:=List Evt×Nat)
  (fun i a=>⟨[(3,.sl 0 a.2 0 a.1.length false),(4,(ii k)),(9,(.fsl ((c.lps).map lpC) false)),(10,(ii n)),(11,(ii k)),(16,(.fsl ((l).map Start.r) false)),(17,(ii l.length)),(18,(ii i))],[]⟩) (fun i a=>[.row 6 (a.1.map Evt.r) a.2])
  (fun i a=>a.1=o0++qnj k (l.take i)) l.length
  (fun y => ∃g:Nat,y.1 = .exit 2∧y.2.1.marks=[]∧y.2.2=[.row 6 ((o0++qnj k l).map Evt.r) g]∧Ev.look y.2.1.vars 3=some (.sl 0 g 0 (o0++qnj k l).length false)∧Ev.look y.2.1.vars 9=some (.fsl ((c.lps).map lpC) false)∧Ev.look y.2.1.vars 10=some (ii n)∧Ev.look y.2.1.vars 11=some (ii k)) ?_ ?_ 0 (o0,g0) (Nat.zero_le _) (by simp[qnj])
 ·exact key
 ·rintro i ⟨out,g⟩ hi hout
  simp only at hout⊢
  obtain⟨x,hx⟩ : ∃x,l[i]? = some x:=⟨_,zgE hi⟩
  have hi':(i:Int)<(l.length:Int):=by omega
  have hw:IntKind.i64.wrap ((i:Int)+1)=((i+1:Nat):Int):=by rw[qi (by omega) (by omega)];simp
  have ho2:out.length≤1012:=by rw[hout,List.length_append,qabi];have:=List.length_take_le i l;omega
  have hb:(out.length+1)*64≤140737488355328:=by omega
  have hcd:=q0o [(k:Int)] true i (by simp)
  simp only[List.map_cons,List.map_nil,qa0]at hcd
  obtain⟨t1,t2⟩:=q5q out (qme k i x).r
  have hr:(out++[qme k i x]).map Evt.r=out.map Evt.r++[(qme k i x).r]:=by rw[List.map_append];rfl
  refine .inl ⟨(out++[qme k i x],g+1),?_,by simp only;rw[qaf1 hx,hout,List.append_assoc]⟩
  have hlo:=qq 1 (out++[qme k i x])
  simp only
  rw[hr,List.length_append]
  rw[hr]at hlo
  have hil : ∀n,qc5 n ([(k:Int),(i:Int)].map qa0)=true:=fun n=>qm n _
  simp only[qme,Evt.r]at t2 hlo⊢
  have hcd2:([(k:Int)]++[(i:Int)]).map qa0=[(k:Int),(i:Int)].map qa0:=rfl
  rw[hcd2]at hcd
  generalize [(k:Int),(i:Int)].map qa0=kl at hcd hlo t2 hil⊢
  simp only[qi0,zgs,zgr,zgq,zgt,hx,hi',hw,hcd,hb,t1,hlo,Start.r,qa2,qsh,Ev.ev1,Ev.stP,q3t,qb,qdj,Ev.AV.cells,Ev.AV.uc,Ev.AV.plain,Ev.SObj.lo,ne_eq,zgy,↓qc,↓reduceIte,Nat.reduceAdd,Nat.reduceEqDiff,Nat.reduceMul,Nat.reduceLeDiff,Nat.reducePow]
 ·rintro⟨out,g⟩ hout
  rw[List.take_length]at hout
  simp only at hout⊢
  simp only[qi0,Int.lt_irrefl,Ev.ev1,zgy,↓qc,↓reduceIte,Nat.reduceEqDiff]
  exact⟨_,rfl,g,rfl,rfl,by rw[hout],by rw[hout,List.length_append];rfl,rfl,rfl,rfl⟩
end
set_option maxRecDepth 10000
section
variable (c:Cfg)
structure Small12 (c:Cfg):Prop where
 lps:c.lps.length≤12
 lp : ∀l∈c.lps,l.length≤12
theorem Small12.len {c:Cfg} (h:Small12 c) (k:Nat):(ql7 (c.lps.take k)).length≤144:=by
 have:=qad2 (lps:=c.lps.take k) (m:=12) (fun l hl=>h.lp l (List.mem_of_mem_take hl))
 have:=List.length_take_le k c.lps
 have:=List.length_take_le' k c.lps
 have:=h.lps
 omega
theorem qahr (h:Small12 c) :
  ∃y,itB (exec (evL T) itL none qi1) (qai [3,9,10,11] true 1) ⟨[(3,.sl 0 0 0 0 false),(9,(.fsl ((c.lps).map lpC) false)),(10,(ii c.lps.length)),(11,(ii 0))],[]⟩ [.row 6 [] 0]=some y ∧
   ∃g:Nat,y.1 = .exit 0∧y.2.1.marks=[]∧y.2.2=[.row 6 ((ql7 c.lps).map Evt.r) g]∧Ev.look y.2.1.vars 3=some (.sl 0 g 0 (ql7 c.lps).length false):=by
 have key:=qg5 (f:=exec (evL T) itL none qi1) (s:=qai [3,9,10,11] true 1) (α:=List Evt×Nat)
  (fun i a=>⟨[(3,.sl 0 a.2 0 a.1.length false),(9,(.fsl ((c.lps).map lpC) false)),(10,(ii c.lps.length)),(11,(ii i))],[]⟩) (fun i a=>[.row 6 (a.1.map Evt.r) a.2])
  (fun i a=>a.1=ql7 (c.lps.take i)) c.lps.length
  (fun y => ∃g:Nat,y.1 = .exit 0∧y.2.1.marks=[]∧y.2.2=[.row 6 ((ql7 c.lps).map Evt.r) g]∧Ev.look y.2.1.vars 3=some (.sl 0 g 0 (ql7 c.lps).length false)) ?_ ?_ 0 ([],0) (Nat.zero_le _) (by simp[ql7])
 ·exact key
 ·rintro i ⟨out,g⟩ hi hout
  simp only at hout⊢
  obtain⟨x,hx⟩ : ∃x,c.lps[i]? = some x:=⟨_,zgE hi⟩
  have hlps:=h.lps
  have hi':(i:Int)<(c.lps.length:Int):=by omega
  have hw:IntKind.i64.wrap ((i:Int)+1)=((i+1:Nat):Int):=by rw[qi (by omega) (by omega)];simp
  have hl:=h.len i
  obtain⟨⟨y,e,σ⟩,k1,g',k2,k3,k4,k5,k6,k7,k8⟩:=qai5 c i x out g (h.lp _ (zmg hx)) (by omega) (by rw[hout];omega) c.lps.length
  simp only at k1 k2 k3 k4 k5 k6 k7 k8
  subst k2;subst k4
  refine .inl ⟨(out++qnj i x,g'),?_,by simp only;rw[qabw hx,hout]⟩
  simp only[zgp]at k5⊢
  simp only[qi1,zgs,zgr,zgq,zgt,hx,hi',hw,k1,k3,k5,k6,k7,k8,lpC,qq,qa2,qsh,Ev.ev1,qb,Ev.SObj.lo,zgy,↓qc,↓qv,↓reduceIte,Nat.reduceEqDiff]
 ·rintro⟨out,g⟩ hout
  rw[List.take_length]at hout
  simp only at hout⊢
  simp only[qi1,Int.lt_irrefl,Ev.ev1,zgy,↓qc,↓reduceIte,Nat.reduceEqDiff]
  exact⟨_,rfl,g,rfl,rfl,by rw[hout],by rw[hout];rfl⟩
theorem qv2 (h:Small12 c):qac (evL T) qgx [(.agg [(.fsl ((c.lps).map lpC) false),(.fsl ((c.progs).map qaz) false),(ii c.look),(ii c.fin),(ii c.cap)])]=some (.fsl ((sortL (ql7 c.lps)).map Evt.r) false):=by
 obtain⟨⟨y,e,σ⟩,k1,g,k2,k3,k4,k5⟩:=qahr c h
 simp only at k1 k2 k3 k4 k5
 subst k2;subst k4
 have hl:=h.len c.lps.length
 rw[List.take_length]at hl
 have hs:=qng (ql7 c.lps) false (by omega) (qaio _) (qahn _)
 have t1:=(q5q (ql7 c.lps) []).1
 have h0:(0:Int)=((0:Nat):Int):=rfl
 rw[qac,qe q2g q0s]
 simp only[qnt,k1,k3,k5,hs,t1,qq,qa2,Ev.ev1,qb,Ev.AV.cells,Ev.AV.plain,qh,Ev.SObj.lo,ne_eq,zgy,↓qc,↓qv,↓reduceIte,Nat.reduceEqDiff,Nat.reduceLT]
end
end Go.Proofs.YtpgdfkciinankaaGreat.K
