/- For every input ArenaIssued returns true, and its arguments read as before. No conditions. -/
import Derived.Test.YtjliejhcjeodfaaGA04
import Derived.Test.YtjliejhcjeodfaaGA08
set_option linter.unusedSectionVars false
set_option linter.unusedSimpArgs false
set_option linter.unusedVariables false
namespace Go.Proofs.Ytjliejhcjeodfaa.K
open Go.Ev
set_option maxRecDepth 10000
set_option maxHeartbeats 2000000 in
theorem qzm (A B:Ar) (is:List Int) (q:Bool) (S:Slt) (hA:A.slots.length≤64) (hB:B.slots.length≤64) (hl:is.length≤1000) (hiss : ∀x∈is,qig B x=qig A x ∧ ∀s,qig A x=some s→s.seq<S.seq) :
  ∃y,itB (exec (evL T) itL none qc9) (qca [7,8,9,10,13,15] true 3) ⟨[(7,(bb true)),(8,.ptr 0 0 0 0),(9,(.fsl ((is).map qk) q)),(10,.ptr 1 0 0 0),(13,.ptr 2 0 0 0),(15,(ii ((0:Nat))))],[]⟩ [(.row 3 [[(.fsl ((A.slots).map Slt.r) false),(.fsl ((A.idle).map qk) false),(ii A.next)]] 0),(.row 3 [[(.fsl ((B.slots).map Slt.r) false),(.fsl ((B.idle).map qk) false),(ii B.next)]] 0),(.row 4 [[(ii S.gen),(ii S.state),(ii S.time),(ii S.seq)]] 0)]=some y ∧
   (y.1 = .exit 0∧y.2.1.marks=[]∧y.2.2=[(.row 3 [[(.fsl ((A.slots).map Slt.r) false),(.fsl ((A.idle).map qk) false),(ii A.next)]] 0),(.row 3 [[(.fsl ((B.slots).map Slt.r) false),(.fsl ((B.idle).map qk) false),(ii B.next)]] 0),(.row 4 [[(ii S.gen),(ii S.state),(ii S.time),(ii S.seq)]] 0)]∧qbk y.2.1.vars 7=some (bb true)):=by
 refine qhs (α:=Unit) (fun i _=>⟨[(7,(bb true)),(8,.ptr 0 0 0 0),(9,(.fsl ((is).map qk) q)),(10,.ptr 1 0 0 0),(13,.ptr 2 0 0 0),(15,(ii i))],[]⟩) (fun _ _=>[(.row 3 [[(.fsl ((A.slots).map Slt.r) false),(.fsl ((A.idle).map qk) false),(ii A.next)]] 0),(.row 3 [[(.fsl ((B.slots).map Slt.r) false),(.fsl ((B.idle).map qk) false),(ii B.next)]] 0),(.row 4 [[(ii S.gen),(ii S.state),(ii S.time),(ii S.seq)]] 0)]) (fun _ _=>True) is.length _ ?_ ?_ 0 () (Nat.zero_le _) trivial
 ·rintro i-hi -
  obtain⟨x,hx⟩ : ∃x,is[i]? = some x:=⟨_,zgE hi⟩
  have hi':(i:Int)<(is.length:Int):=by omega
  have hw:IntKind.i64.wrap ((i:Int)+1)=((i+1:Nat):Int):=qal (by omega)
  obtain⟨e1,e2⟩:=hiss x (zmg hx)
  have l1:=qfr A false false x hA
  have l2:=qfr B false false x hB
  rw[e1]at l2
  refine .inl ⟨(),?_,trivial⟩
  clear hiss e1
  cases hk:qig A x with
  |none=>
   rw[hk]at l1 l2
   simp only[qc9,zgs,zgr,zgq,zgt,zgi,hx,hi',hw,l1,l2,qk,qqo,Option.getD_none,Option.isSome_none,qm,qe,Ev.ev1,Ev.stP,qc,Ev.AV.cells,Ev.AV.plain,qd5,Ev.SObj.lo,ne_eq,zgy,↓qf,↓reduceIte,Nat.reduceAdd,Nat.reduceEqDiff,Nat.reduceLT]
  |some s=>
   have h3:=e2 s hk
   rw[hk]at l1 l2
   have h3':¬s.seq≥S.seq:=by omega
   clear e2
   simp only[qc9,zgs,zgr,zgq,zgt,zgi,hx,hi',hw,l1,l2,h3',qk,Option.getD_some,Option.isSome_some,qm,qe,Ev.ev1,Ev.stP,qc,Ev.AV.cells,Ev.AV.plain,qd5,Ev.SObj.lo,ne_eq,zgy,↓qf,↓reduceIte,Nat.reduceAdd,Nat.reduceEqDiff,Nat.reduceLT]
 ·rintro - -
  simp only[qc9,zgi,Int.lt_irrefl,Ev.ev1,zgy,↓qf,↓reduceIte,Nat.reduceEqDiff]
  exact⟨_,rfl,rfl,rfl,rfl,rfl⟩
set_option maxHeartbeats 2000000 in
theorem qy0 (cap:Nat) (l:List OpA) (e:Bool) (t:Nat) (hcap:cap<256) (hl : ∀o∈l,o.a<256∧o.b<256) (hll:l.length≤9223372036854775807) (ht:t<4294967296) :
  qu (evL T) qda [(.v (.int .u8 (cap))),(.fsl ((l).map OpA.r) e),(.v (.int .u32 (t)))]=some (bb true):=by
 have h0:=qhc
 obtain⟨q,hmade⟩:=qsr cap hcap l e hl hll
 have I:=qly cap l
 have hil:=qi5 cap l
 generalize qil cap l=M at hmade I hil
 have A:=I.ok
 have wt:=qx2 ht
 have hal:=qhx M.1 false false A t
 rw[qu,qj qmh qhi]
 rcases I.alloc_full (by omega) (t:=(t:Int)) ⟨by omega,by unfold qok;omega⟩with ⟨f1,f2⟩|⟨f1,B,h,f2⟩
 ·rw[f2]at hal
  simp only[alR]at hal
  simp only[qd6,h0,hmade,wt,hal,qm,qe,qi7,Ev.ev1,Ev.stP,qc,Ev.AV.cells,Ev.AV.plain,qn,ne_eq,zgy,↓qf,↓reduceIte,Nat.reduceAdd,Nat.reduceEqDiff,Int.reduceEq,reduceCtorEq]
 ·rw[f2]at hal
  simp only[alR]at hal
  obtain⟨⟨S,s1,s2,s3,s4⟩,hiss⟩:=I.issued f2
  have hB:=(A.alloc f2).1
  have hnx:=(A.alloc_live f2).2.2
  have lk:=qfr B false false h hB.len.2
  rw[s1]at lk
  have wn:IntKind.i64.wrap (M.1.next+1)=M.1.next+1:=by have:=A.next;unfold qf3 at this;exact qan (by omega) (by omega)
  obtain⟨⟨y,e',σ⟩,k1,k2,k3,k4,k5⟩:=qzm M.1 B M.2 q S A.len.2 hB.len.2 (by omega) (fun x hx=>⟨(hiss x hx).1,fun s hs=>by rw[s4];exact(hiss x hx).2 s hs⟩)
  simp only at k2 k3 k4 k5
  subst k2;subst k4
  have z0:((0:Nat):Int)=0:=rfl
  rw[z0,s2,s3,s4,hnx]at k1
  simp only[Option.getD_some,Option.isSome_some,s2,s3,s4]at lk
  simp only[hnx]at hal lk
  simp only[qd6,h0,hmade,wt,hal,lk,wn,k1,k3,k5,qm,qe,qi7,Ev.ev1,Ev.stP,qc,Ev.AV.cells,Ev.AV.plain,qn,Ev.SObj.lo,ne_eq,zgy,↓qf,↓qaq,↓reduceIte,Nat.reduceAdd,Nat.reduceEqDiff,Nat.reduceLT,reduceCtorEq]
open Go.ChangeShapes Go.WideShapes Go.ChangeAt Go.RowKit
set_option maxRecDepth 100000 in
theorem arenaIssued_lifted (os:Os) (started:os.Started) (H:Type) (enc:TypeId×Value→H) :
  ReturnsInHanded {} Try.checked os 7 .any (Rows.arenaIssuedSpec.pre6 enc Try.prog Try.f7 Rows.arenaIssuedRow.domain false) (Rows.arenaIssuedSpec.post enc Try.prog Try.f7 false true false false):=by
 refine returnsInHanded_of_change (C:=Try.checked) own started (by kernel_rfl) Try.func7
  (ChangeSpec.witness6 (enc:=enc) (C:=Try.checked) false ⟨#[],#[.int .u8 0,.slice none 0 0,.int .u32 0],[]⟩ 8 (by kernel_rfl) (by kernel_rfl) (by kernel_rfl) (by kernel_rfl)) ?_
 intro W base args ds gs before hval hW hcnd _
 have hargs:=qcd Try.underlying5 rfl ql9 (qcd Try.underlying26 rfl qmy (qcd Try.underlying53 rfl qxl (qkr (enc:=enc))))
 refine qji (P:=Try.prog) (fn:=Try.f7) (tb:=4) T_ok qhi (by rw[Try.params7]) hargs ?_ rfl ?_ (by kernel_rfl) Try.underlying4 laid (by decide +kernel) W base args ds gs before hval hW
 ·rintro⟨cap,l,t,_⟩ ⟨h2,h3,h4,_⟩
  exact qy0 cap l false t h2 h3.1 h3.2 h4
 ·intro ds h
  match ds,h with
  | [_,_,_],_=>rfl
theorem arenaIssued_over:Rows.arenaIssuedRow.holds Try.pinned (OpenSpec.ofChange Rows.arenaIssuedSpec):=
 OpenClaim.holds_of_wide 7 Try.f7 rfl rfl rfl rfl rfl rfl rfl ⟨rfl,rfl,rfl,rfl,rfl⟩ rfl rfl rfl rfl rfl (by kernel_rfl) Try.func7 (by kernel_rfl)
  (of_decide_eq_true (by kernel_rfl)) (by unfold Func.isWrapper;first|(rw[if_pos (by decide +kernel)];kernel_rfl)|(rw[if_neg (by decide +kernel)];exact⟨rfl,rfl⟩))
  (fun os started H enc _=>arenaIssued_lifted os started H enc)
end Go.Proofs.Ytjliejhcjeodfaa.K
namespace Go.Proofs.Ytjliejhcjeodfaa
theorem arenaIssued_holds:Rows.ArenaIssuedSaid:=K.arenaIssued_over
end Go.Proofs.Ytjliejhcjeodfaa
#print axioms Go.Proofs.Ytjliejhcjeodfaa.arenaIssued_holds
