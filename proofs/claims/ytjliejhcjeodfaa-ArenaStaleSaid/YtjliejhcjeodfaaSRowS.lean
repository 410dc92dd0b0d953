/- For every input ArenaStale returns true, and its arguments read as before. No conditions. -/
import Derived.Test.YtjliejhcjeodfaaGA04
import Derived.Test.YtjliejhcjeodfaaGA08
set_option linter.unusedSectionVars false
set_option linter.unusedSimpArgs false
set_option linter.unusedVariables false
namespace Go.Proofs.Ytjliejhcjeodfaa.K
open Go.Ev
set_option maxRecDepth 10000
section
variable (more:List OpA) (cm:Bool) (h:Int) (all next:List Int) (q q':Bool) (i:Nat) (A B C:Ar)
theorem stale_L2 (hn:next=all ∨ ∃x,x∉all∧next=all++[x]) (hl:all.length≤1000) :
  ∃y,itB (exec (evL T) itL none qcp) (qca [3,9,12,13,15,16,17,18,20] true 3) ⟨[(3,(.fsl ((more).map OpA.r) cm)),(9,(bb true)),(12,(ii h)),(13,.ptr 1 0 0 0),(15,(.fsl ((all).map qk) q)),(16,(ii i)),(17,.ptr 2 0 0 0),(18,(.fsl ((next).map qk) q')),(20,(ii ((0:Nat))))],[]⟩ [(.row 3 [[(.fsl ((A.slots).map Slt.r) false),(.fsl ((A.idle).map qk) false),(ii A.next)]] 0),(.row 3 [[(.fsl ((B.slots).map Slt.r) false),(.fsl ((B.idle).map qk) false),(ii B.next)]] 0),(.row 3 [[(.fsl ((C.slots).map Slt.r) false),(.fsl ((C.idle).map qk) false),(ii C.next)]] 0)]=some y ∧
   (y.1 = .exit 2∧y.2.1.marks=[]∧y.2.2=[(.row 3 [[(.fsl ((A.slots).map Slt.r) false),(.fsl ((A.idle).map qk) false),(ii A.next)]] 0),(.row 3 [[(.fsl ((B.slots).map Slt.r) false),(.fsl ((B.idle).map qk) false),(ii B.next)]] 0),(.row 3 [[(.fsl ((C.slots).map Slt.r) false),(.fsl ((C.idle).map qk) false),(ii C.next)]] 0)]∧qbk y.2.1.vars 3=some (.fsl ((more).map OpA.r) cm)∧qbk y.2.1.vars 9=some (bb true)∧qbk y.2.1.vars 12=some (ii h)∧qbk y.2.1.vars 13=some (.ptr 1 0 0 0)∧qbk y.2.1.vars 15=some (.fsl ((all).map qk) q)∧qbk y.2.1.vars 16=some (ii i)∧qbk y.2.1.vars 17=some (.ptr 2 0 0 0)∧qbk y.2.1.vars 18=some (.fsl ((next).map qk) q')):=by
 rcases hn with rfl|⟨x,hx,rfl⟩
 ·by_cases h0:(0:Int)<(next.length:Int)
  ·exact⟨_,qqx (by simp only[qcp,zgi,h0,Int.lt_irrefl,gt_iff_lt,Ev.ev1,zgy,↓qf,↓reduceIte,Nat.reduceEqDiff];rfl),rfl,rfl,rfl,rfl,rfl,rfl,rfl,rfl,rfl,rfl,rfl⟩
  ·exact⟨_,qqx (by simp only[qcp,zgi,h0,Ev.ev1,zgy,↓qf,↓reduceIte,Nat.reduceEqDiff];rfl),rfl,rfl,rfl,rfl,rfl,rfl,rfl,rfl,rfl,rfl,rfl⟩
 ·refine qhs (α:=Unit) (fun k _=>⟨[(3,(.fsl ((more).map OpA.r) cm)),(9,(bb true)),(12,(ii h)),(13,.ptr 1 0 0 0),(15,(.fsl ((all).map qk) q)),(16,(ii i)),(17,.ptr 2 0 0 0),(18,(.fsl ((all++[x]).map qk) q')),(20,(ii k))],[]⟩) (fun _ _=>[(.row 3 [[(.fsl ((A.slots).map Slt.r) false),(.fsl ((A.idle).map qk) false),(ii A.next)]] 0),(.row 3 [[(.fsl ((B.slots).map Slt.r) false),(.fsl ((B.idle).map qk) false),(ii B.next)]] 0),(.row 3 [[(.fsl ((C.slots).map Slt.r) false),(.fsl ((C.idle).map qk) false),(ii C.next)]] 0)]) (fun _ _=>True) all.length _ ?_ ?_ 0 () (Nat.zero_le _) trivial
  ·rintro k-hk -
   obtain⟨y,hy⟩ : ∃y,all[k]? = some y:=⟨_,zgE hk⟩
   have hne:¬y=x:=fun e=>hx (e▸zmg hy)
   have hk':(k:Int)<(all.length:Int):=by omega
   have hg:((all.length+1:Nat):Int)>(all.length:Int):=by omega
   have hw:IntKind.i64.wrap ((k:Int)+1)=((k+1:Nat):Int):=qal (by omega)
   have hw2:IntKind.i64.wrap (((all.length+1:Nat):Int)-1)=(all.length:Int):=qbn rfl (by omega)
   have hgx:(all++[x])[all.length]? = some x:=by simp
   have hll:(all++[x]).length=all.length+1:=by simp
   refine .inl ⟨(),?_,trivial⟩
   simp only[qcp,zgs,zgr,zgq,zgt,zgi,hll,hy,hgx,hne,hk',hg,hw,hw2,qk,qm,qe,qi7,Ev.ev1,qc,Ev.SObj.lo,zgy,↓qf,↓reduceIte,Nat.reduceEqDiff,Nat.reduceLT]
  ·rintro - -
   simp only[qcp,zgi,Int.lt_irrefl,Ev.ev1,zgy,↓qf,↓reduceIte,Nat.reduceEqDiff]
   exact⟨_,rfl,rfl,rfl,rfl,rfl,rfl,rfl,rfl,rfl,rfl,rfl,rfl⟩
end
set_option maxHeartbeats 2000000 in
theorem stale_L1 (n:Nat) (A0 B0:Ar) (is0:List Int) (more:List OpA) (cm q0:Bool) (h:Int) (hI:Iss n 200 B0 is0) (hO:Old B0 h) (his:is0.length≤200) (hm : ∀o∈more,o.a<256∧o.b<256) (hml:more.length≤9223372036854775807) :
  ∃y,itB (exec (evL T) itL none qdi) (qca [3,9,12,13,15,16] true 2) ⟨[(3,(.fsl ((more).map OpA.r) cm)),(9,(bb true)),(12,(ii h)),(13,.ptr 1 0 0 0),(15,(.fsl ((is0).map qk) q0)),(16,(ii ((0:Nat))))],[]⟩ [(.row 3 [[(.fsl ((A0.slots).map Slt.r) false),(.fsl ((A0.idle).map qk) false),(ii A0.next)]] 0),(.row 3 [[(.fsl ((B0.slots).map Slt.r) false),(.fsl ((B0.idle).map qk) false),(ii B0.next)]] 0)]=some y ∧
   (y.1 = .exit 0∧y.2.1.marks=[]∧(∃B:Ar,y.2.2=[(.row 3 [[(.fsl ((A0.slots).map Slt.r) false),(.fsl ((A0.idle).map qk) false),(ii A0.next)]] 0),(.row 3 [[(.fsl ((B.slots).map Slt.r) false),(.fsl ((B.idle).map qk) false),(ii B.next)]] 0)])∧qbk y.2.1.vars 9=some (bb true)):=by
 refine qhs (α:=Ar×List Int×Bool) (fun i s=>⟨[(3,(.fsl ((more).map OpA.r) cm)),(9,(bb true)),(12,(ii h)),(13,.ptr 1 0 0 0),(15,(.fsl ((s.2.1).map qk) s.2.2)),(16,(ii i))],[]⟩) (fun _ s=>[(.row 3 [[(.fsl ((A0.slots).map Slt.r) false),(.fsl ((A0.idle).map qk) false),(ii A0.next)]] 0),(.row 3 [[(.fsl ((s.1.slots).map Slt.r) false),(.fsl ((s.1.idle).map qk) false),(ii s.1.next)]] 0)])
  (fun i s=>Iss n (200+i) s.1 s.2.1∧Old s.1 h∧s.2.1.length≤200+i) (min more.length 100) _ ?_ ?_ 0 (B0,is0,q0) (Nat.zero_le _) ⟨hI,hO,his⟩
 ·rintro i ⟨B,all,q⟩ hi ⟨I,O,hl⟩
  simp only at I O hl⊢
  have hi1:i<more.length:=by omega
  obtain⟨o,ho⟩ : ∃o,more[i]? = some o:=⟨_,zgE hi1⟩
  have hi':(i:Int)<(more.length:Int):=by omega
  have hi2:(i:Int)<100:=by omega
  have hw:IntKind.i64.wrap ((i:Int)+1)=((i+1:Nat):Int):=qal (by omega)
  obtain⟨o1,o2⟩:=hm o (zmg ho)
  obtain⟨q',hs⟩:=q0w B all q o I.ok (by omega) o1 o2
  obtain⟨J,hOld,hnx⟩:=I.step o
  have hlen:=qwi B all o
  obtain⟨C,hC⟩ : ∃C,C=(qjo B all o).1:=⟨_,rfl⟩
  obtain⟨next,hN⟩ : ∃next,next=(qjo B all o).2:=⟨_,rfl⟩
  rw[←hC,←hN]at hs J
  rw[←hN]at hnx hlen
  have O2:Old C h:=by rw[hC];exact hOld h O
  obtain⟨⟨y,e,σ⟩,k1,k2,k3,k4,k5,k6,k7,k8,k9,k10,k11,k12⟩:=stale_L2 more cm h all next q q' i A0 B C hnx (by omega)
  simp only at k2 k3 k4 k5 k6 k7 k8 k9 k10 k11 k12
  subst k2;subst k4
  have z0:((0:Nat):Int)=0:=rfl
  rw[z0]at k1
  have lk:=qfr C false false h J.ok.len.2
  have lt:=qgs C false false h 1 3 J.ok.len.2
  have lr:=qfg C false false h J.ok.len.2 J.ok.sizes.2
  have hf:=O2.find
  simp only[qig,qjq,qv8,hf,Option.map_none,Option.getD_none,Option.isSome_none]at lk lt lr
  refine .inl ⟨(C,next,q'),?_,J,O2,by simp only;omega⟩
  simp only
  obtain⟨okk,on,oa,ob⟩:=o
  simp only at hs
  simp only[qdi,zgs,zgr,zgq,zgt,OpA.r,ho,hi',hi2,hw,hs,k1,k3,k5,k6,k7,k8,k10,k11,k12,lk,lt,lr,qqo,zgi,qm,qe,qi7,Ev.ev1,Ev.stP,qc,Ev.AV.cells,Ev.AV.plain,Ev.SObj.lo,ne_eq,zgy,↓qf,↓qaq,↓reduceIte,Nat.reduceAdd,Nat.reduceEqDiff,Nat.reduceLT]
 ·rintro⟨B,all,q⟩ -
  simp only
  by_cases h1:more.length≤100
  ·rw[Nat.min_eq_left h1]
   simp only[qdi,zgi,Int.lt_irrefl,Ev.ev1,zgy,↓qf,↓reduceIte,Nat.reduceEqDiff]
   exact⟨_,rfl,rfl,rfl,⟨B,rfl⟩,rfl⟩
  ·rw[Nat.min_eq_right (by omega)]
   have h100:((100:Nat):Int)=100:=rfl
   rw[h100]
   have hlt:(100:Int)<(more.length:Int):=by omega
   simp only[qdi,zgi,hlt,Int.lt_irrefl,Ev.ev1,zgy,↓qf,↓reduceIte,Nat.reduceEqDiff]
   exact⟨_,rfl,rfl,rfl,⟨B,rfl⟩,rfl⟩
set_option maxHeartbeats 2000000 in
theorem qzp (cap:Nat) (l:List OpA) (e:Bool) (n:Int) (more:List OpA) (cm:Bool) (hcap:cap<256) (hl : ∀o∈l,o.a<256∧o.b<256) (hll:l.length≤9223372036854775807) (hm : ∀o∈more,o.a<256∧o.b<256) (hml:more.length≤9223372036854775807) :
  qu (evL T) qdp [(.v (.int .u8 (cap))),(.fsl ((l).map OpA.r) e),(ii n),(.fsl ((more).map OpA.r) cm)]=some (bb true):=by
 have h0:=qhc
 obtain⟨q,hmade⟩:=qsr cap hcap l e hl hll
 have hpick:=qn6 (qil cap l).2 q n (by have:=qi5 cap l;omega)
 have I:=qly cap l
 have hil:=qi5 cap l
 generalize qil cap l=M at hmade hpick I hil
 have hrel:=qfg M.1 false false (qiw M.2 n) I.ok.len.2 I.ok.sizes.2
 rw[qu,qj qnc qh7]
 cases hr:qv8 M.1 (qiw M.2 n)with
 |none=>
  rw[hr]at hrel
  simp only at hrel
  simp only[qeg,h0,hmade,hpick,hrel,qm,qe,qi7,Ev.ev1,Ev.stP,qc,Ev.AV.cells,Ev.AV.plain,qn,ne_eq,zgy,↓qf,↓reduceIte,Nat.reduceAdd,Nat.reduceEqDiff,reduceCtorEq]
 |some B=>
  rw[hr]at hrel
  simp only at hrel
  obtain⟨J,O⟩:=I.rel hr
  have hv:=qw1 J.ok false false
  obtain⟨⟨y,e',σ⟩,k1,k2,k3,⟨B',k4⟩,k5⟩:=stale_L1 _ M.1 B M.2 more cm q (qiw M.2 n) J O hil hm hml
  simp only at k2 k3 k4 k5
  subst k2;subst k4
  have z0:((0:Nat):Int)=0:=rfl
  rw[z0]at k1
  simp only[qeg,h0,hmade,hpick,hrel,hv,k1,k3,k5,qm,qe,qi7,Ev.ev1,Ev.stP,qc,Ev.AV.cells,Ev.AV.plain,qn,Ev.SObj.lo,ne_eq,zgy,↓qf,↓qaq,↓reduceIte,Nat.reduceAdd,Nat.reduceEqDiff,reduceCtorEq]
open Go.ChangeShapes Go.WideShapes Go.ChangeAt Go.RowKit
set_option maxRecDepth 100000 in
theorem arenaStale_lifted (os:Os) (started:os.Started) (H:Type) (enc:TypeId×Value→H) :
  ReturnsInHanded {} Try.checked os 5 .any (Rows.arenaStaleSpec.pre6 enc Try.prog Try.f5 Rows.arenaStaleRow.domain false) (Rows.arenaStaleSpec.post enc Try.prog Try.f5 false true false false):=by
 refine returnsInHanded_of_change (C:=Try.checked) own started (by kernel_rfl) Try.func5
  (ChangeSpec.witness6 (enc:=enc) (C:=Try.checked) false ⟨#[],#[.int .u8 0,.slice none 0 0,.int .i64 0,.slice none 0 0],[]⟩ 8 (by kernel_rfl) (by kernel_rfl) (by kernel_rfl) (by kernel_rfl)) ?_
 intro W base args ds gs before hval hW hcnd _
 have hargs:=qcd Try.underlying5 rfl ql9 (qcd Try.underlying26 rfl qmy (qcd Try.underlying3 rfl qhy (qcd Try.underlying26 rfl qmy (qkr (enc:=enc)))))
 refine qji (P:=Try.prog) (fn:=Try.f5) (tb:=4) T_ok qh7 (by rw[Try.params5]) hargs ?_ rfl ?_ (by kernel_rfl) Try.underlying4 laid (by decide +kernel) W base args ds gs before hval hW
 ·rintro⟨cap,l,n,m,_⟩ ⟨h2,h3,_,h4,_⟩
  exact qzp cap l false n m false h2 h3.1 h3.2 h4.1 h4.2
 ·intro ds h
  match ds,h with
  | [_,_,_,_],_=>rfl
theorem arenaStale_over:Rows.arenaStaleRow.holds Try.pinned (OpenSpec.ofChange Rows.arenaStaleSpec):=
 OpenClaim.holds_of_wide 5 Try.f5 rfl rfl rfl rfl rfl rfl rfl ⟨rfl,rfl,rfl,rfl,rfl⟩ rfl rfl rfl rfl rfl (by kernel_rfl) Try.func5 (by kernel_rfl)
  (of_decide_eq_true (by kernel_rfl)) (by unfold Func.isWrapper;first|(rw[if_pos (by decide +kernel)];kernel_rfl)|(rw[if_neg (by decide +kernel)];exact⟨rfl,rfl⟩))
  (fun os started H enc _=>arenaStale_lifted os started H enc)
end Go.Proofs.Ytjliejhcjeodfaa.K
namespace Go.Proofs.Ytjliejhcjeodfaa
theorem arenaStale_holds:Rows.ArenaStaleSaid:=K.arenaStale_over
end Go.Proofs.Ytjliejhcjeodfaa
#print axioms Go.Proofs.Ytjliejhcjeodfaa.arenaStale_holds
