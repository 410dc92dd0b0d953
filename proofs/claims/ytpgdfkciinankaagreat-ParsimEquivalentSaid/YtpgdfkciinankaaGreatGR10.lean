/- For every input the statement of this claim returns true: texts of its proof, joined (part 11). -/
import Derived.ChangeShapes
import Derived.ChangeOld
import Derived.ChangeArms
import Derived.DataReads
import Derived.Carry
import Derived.ChangeSame
import Derived.OpenShut
import Derived.Handed
import Derived.RowKit3
import Derived.ChangeAt
import Derived.Test.YtpgdfkciinankaaGreatRows
import Derived.WalkKit
import Derived.ProofKit
import Derived.Test.YtpgdfkciinankaaGreatER3
import Derived.Test.YtpgdfkciinankaaGreatGR04
import Derived.Test.YtpgdfkciinankaaGreatGR09
set_option linter.unusedSectionVars false
set_option linter.unusedSimpArgs false
set_option linter.unusedVariables false
namespace Go.Proofs.YtpgdfkciinankaaGreat.K
open Go.Ev
set_option maxRecDepth 10000
structure LogOk (LG:List (List AV)):Prop where
 lo : ∀n,qc5 n LG=true
 ok:qcy 6 LG=true
section
variable (st:List WS) (w0 w1:Nat) (pr:List (Nat×Nat)) (tk W lf:Nat) (LG:List (List AV)) (gl gp k:Nat)
theorem at_ev (hlo:LogOk LG) (i:Nat) (hi:i<2):(evL T).call qe6 [.ptr 3 0 0 2,(ii i)] [.row 1 ((st).map wsA) 1,.row 1 [[(ii w0)],[(ii w1)]] 0,.row 6 LG gl,.row 4 [[.sl 2 gl 0 (LG).length false,(ii 0),.sl 1 0 0 2 false,.fsl [] false]] 0,.row 2 ((pr).map prC) gp,.row 6 [[.ptr 3 0 0 0,(ii tk),.sl 0 1 0 W false,.sl 4 gp 0 (pr).length false,(ii lf),(ii k)]] 0]=some (.ptr 1 0 i 0,[.row 1 ((st).map wsA) 1,.row 1 [[(ii w0)],[(ii w1)]] 0,.row 6 LG gl,.row 4 [[.sl 2 gl 0 (LG).length false,(ii 0),.sl 1 0 0 2 false,.fsl [] false]] 0,.row 2 ((pr).map prC) gp,.row 6 [[.ptr 3 0 0 0,(ii tk),.sl 0 1 0 W false,.sl 4 gp 0 (pr).length false,(ii lf),(ii k)]] 0]):=by
 have h0:¬(i:Int)<0:=by omega
 have h2:¬(i:Int)≥2:=by omega
 rw[qe qxz qw2]
 simp only[qkd,h0,h2,hi,qka,qht,hlo.lo,zgs,zgr,Ev.ev1,qb,qh,Ev.SObj.lo,zgy,↓qc,↓reduceIte,Nat.reduceAdd,Nat.reduceEqDiff,Nat.reduceLT,reduceCtorEq]
theorem q8t (hlo:LogOk LG) (hl:LG.length≤1000000000) (a b c d e:Int) (o:Bool) : ∃LG' gl',LogOk LG'∧LG'.length=LG.length+1 ∧
  (evL T).call qd0 [.ptr 3 0 0 0,(ii a),(ii b),(ii c),(ii d),(ii e),(bb o)] [.row 1 ((st).map wsA) 1,.row 1 [[(ii w0)],[(ii w1)]] 0,.row 6 LG gl,.row 4 [[.sl 2 gl 0 (LG).length false,(ii 0),.sl 1 0 0 2 false,.fsl [] false]] 0,.row 2 ((pr).map prC) gp,.row 6 [[.ptr 3 0 0 0,(ii tk),.sl 0 1 0 W false,.sl 4 gp 0 (pr).length false,(ii lf),(ii k)]] 0]=some (.tup [],[.row 1 ((st).map wsA) 1,.row 1 [[(ii w0)],[(ii w1)]] 0,.row 6 LG' gl',.row 4 [[.sl 2 gl' 0 (LG').length false,(ii 0),.sl 1 0 0 2 false,.fsl [] false]] 0,.row 2 ((pr).map prC) gp,.row 6 [[.ptr 3 0 0 0,(ii tk),.sl 0 1 0 W false,.sl 4 gp 0 (pr).length false,(ii lf),(ii k)]] 0]):=by
 have ok2:LogOk (LG++[[(ii a),(ii b),(ii c),(ii d),(ii e),(bb o)]]):=⟨fun n=>by rw[q0w,hlo.lo];rfl,by rw[qaa5,hlo.ok];rfl⟩
 refine⟨LG++[[(ii a),(ii b),(ii c),(ii d),(ii e),(bb o)]],gl+1,ok2,by simp,?_⟩
 have bd:(LG.length+1)*48≤140737488355328:=by omega
 have hl2:(LG++[([(ii a),(ii b),(ii c),(ii d),(ii e),(bb o)]:List AV)]).length=LG.length+1:=by simp
 have lo2:=ok2.lo 6
 rw[qe qt4 qtf]
 simp only[qij,bd,lo2,hl2,qka,qht,Ev.ev1,Ev.stP,q3t,qb,qdj,Ev.AV.cells,Ev.AV.uc,Ev.AV.plain,qh,Ev.SObj.lo,ne_eq,zgy,↓qc,↓reduceIte,Nat.reduceAdd,Nat.reduceEqDiff,Nat.reduceMul,Nat.reduceLT,Nat.reduceLeDiff,Nat.reducePow,reduceCtorEq]
theorem qaj7 (v d:Int) (hlo:LogOk LG):(evL T).call qdl [(ii v),.fptr [(ii d)]] [.row 1 ((st).map wsA) 1,.row 1 [[(ii w0)],[(ii w1)]] 0,.row 6 LG gl,.row 4 [[.sl 2 gl 0 (LG).length false,(ii 0),.sl 1 0 0 2 false,.fsl [] false]] 0,.row 2 ((pr).map prC) gp,.row 6 [[.ptr 3 0 0 0,(ii tk),.sl 0 1 0 W false,.sl 4 gp 0 (pr).length false,(ii lf),(ii k)]] 0]=some (.tup [(ii (IntKind.i64.wrap (v+d))),(bb true)],[.row 1 ((st).map wsA) 1,.row 1 [[(ii w0)],[(ii w1)]] 0,.row 6 LG gl,.row 4 [[.sl 2 gl 0 (LG).length false,(ii 0),.sl 1 0 0 2 false,.fsl [] false]] 0,.row 2 ((pr).map prC) gp,.row 6 [[.ptr 3 0 0 0,(ii tk),.sl 0 1 0 W false,.sl 4 gp 0 (pr).length false,(ii lf),(ii k)]] 0]):=by
 rw[qe qxi qwz]
 simp only[qke,qka,qht,hlo.lo,Ev.ev1,qb,qh,Ev.SObj.lo,zgy,↓qc,↓reduceIte,Nat.reduceAdd,Nat.reduceEqDiff,Nat.reduceLT,reduceCtorEq]
theorem load1_ev (v:Int) (hlo:LogOk LG):(evL T).call qdw [(ii v)] [.row 1 ((st).map wsA) 1,.row 1 [[(ii w0)],[(ii w1)]] 0,.row 6 LG gl,.row 4 [[.sl 2 gl 0 (LG).length false,(ii 0),.sl 1 0 0 2 false,.fsl [] false]] 0,.row 2 ((pr).map prC) gp,.row 6 [[.ptr 3 0 0 0,(ii tk),.sl 0 1 0 W false,.sl 4 gp 0 (pr).length false,(ii lf),(ii k)]] 0]=some (.tup [(ii v),(bb true)],[.row 1 ((st).map wsA) 1,.row 1 [[(ii w0)],[(ii w1)]] 0,.row 6 LG gl,.row 4 [[.sl 2 gl 0 (LG).length false,(ii 0),.sl 1 0 0 2 false,.fsl [] false]] 0,.row 2 ((pr).map prC) gp,.row 6 [[.ptr 3 0 0 0,(ii tk),.sl 0 1 0 W false,.sl 4 gp 0 (pr).length false,(ii lf),(ii k)]] 0]):=by
 rw[qe qwl qu9]
 simp only[qjx,qka,qht,hlo.lo,Ev.ev1,qh,Ev.SObj.lo,zgy,↓qc,↓reduceIte,Nat.reduceAdd,Nat.reduceEqDiff,Nat.reduceLT,reduceCtorEq]
theorem add0_ev (w:Int) (hlo:LogOk LG) (hl:LG.length≤1000000000) (hw:w0≤1000000) : ∃LG' gl',LogOk LG'∧LG'.length=LG.length+1 ∧
  (evL T).call qek [.ptr 3 0 0 0,(ii w),(ii 0),(ii 1)] [.row 1 ((st).map wsA) 1,.row 1 [[(ii w0)],[(ii w1)]] 0,.row 6 LG gl,.row 4 [[.sl 2 gl 0 (LG).length false,(ii 0),.sl 1 0 0 2 false,.fsl [] false]] 0,.row 2 ((pr).map prC) gp,.row 6 [[.ptr 3 0 0 0,(ii tk),.sl 0 1 0 W false,.sl 4 gp 0 (pr).length false,(ii lf),(ii k)]] 0]=some ((ii ((w0+1:Nat))),[.row 1 ((st).map wsA) 1,.row 1 [[(ii ((w0+1:Nat)))],[(ii w1)]] 0,.row 6 LG' gl',.row 4 [[.sl 2 gl' 0 (LG').length false,(ii 0),.sl 1 0 0 2 false,.fsl [] false]] 0,.row 2 ((pr).map prC) gp,.row 6 [[.ptr 3 0 0 0,(ii tk),.sl 0 1 0 W false,.sl 4 gp 0 (pr).length false,(ii lf),(ii k)]] 0]):=by
 have ha:=at_ev st w0 w1 pr tk W lf LG gl gp k hlo 0 (by omega)
 have hd:=qaj7 st w0 w1 pr tk W lf LG gl gp k w0 1 hlo
 have ww:IntKind.i64.wrap ((w0:Int)+1)=((w0+1:Nat):Int):=by rw[qi (by omega) (by omega)];simp
 obtain⟨LG',gl',h1,h2,h3⟩:=q8t st (w0+1) w1 pr tk W lf LG gl gp k hlo hl w 2 0 w0 (w0+1:Nat) true
 refine⟨LG',gl',h1,h2,?_⟩
 rw[ww]at hd
 simp only[Int.ofNat_zero]at ha
 have lo1:=h1.lo 6
 have hu:(evL T).call qcj [.ptr 3 0 0 0,(ii w),(ii 2),(ii 0),.fn (.func qdl) [] [.fptr [(ii 1)]]] [.row 1 ((st).map wsA) 1,.row 1 [[(ii w0)],[(ii w1)]] 0,.row 6 LG gl,.row 4 [[.sl 2 gl 0 (LG).length false,(ii 0),.sl 1 0 0 2 false,.fsl [] false]] 0,.row 2 ((pr).map prC) gp,.row 6 [[.ptr 3 0 0 0,(ii tk),.sl 0 1 0 W false,.sl 4 gp 0 (pr).length false,(ii lf),(ii k)]] 0]=some (.tup [(ii ((w0+1:Nat))),(bb true)],[.row 1 ((st).map wsA) 1,.row 1 [[(ii ((w0+1:Nat)))],[(ii w1)]] 0,.row 6 LG' gl',.row 4 [[.sl 2 gl' 0 (LG').length false,(ii 0),.sl 1 0 0 2 false,.fsl [] false]] 0,.row 2 ((pr).map prC) gp,.row 6 [[.ptr 3 0 0 0,(ii tk),.sl 0 1 0 W false,.sl 4 gp 0 (pr).length false,(ii lf),(ii k)]] 0]):=by
  rw[qe qlc qks]
  simp only[qgi,ha,hd,h3,lo1,qka,qht,Ev.ev1,q4h,Ev.stP,qb,Ev.AV.cells,Ev.AV.uc,Ev.AV.plain,qh,Ev.SObj.lo,zgy,↓qc,↓reduceIte,Nat.reduceAdd,Nat.reduceEqDiff,Nat.reduceLT,reduceCtorEq]
 rw[qe qqt qpy]
 simp only[qj1,hu,lo1,qka,qht,Ev.ev1,Ev.AV.cells,Ev.AV.uc,Ev.AV.plain,qh,Ev.SObj.lo,ne_eq,zgy,↓qc,↓reduceIte,Nat.reduceAdd,Nat.reduceEqDiff,Nat.reduceLT,reduceCtorEq]
theorem add1w_ev (w:Int) (hlo:LogOk LG) (hl:LG.length≤1000000000) (hw:w1≤1000000) : ∃LG' gl',LogOk LG'∧LG'.length=LG.length+1 ∧
  (evL T).call qek [.ptr 3 0 0 0,(ii w),(ii 1),(ii 1)] [.row 1 ((st).map wsA) 1,.row 1 [[(ii w0)],[(ii w1)]] 0,.row 6 LG gl,.row 4 [[.sl 2 gl 0 (LG).length false,(ii 0),.sl 1 0 0 2 false,.fsl [] false]] 0,.row 2 ((pr).map prC) gp,.row 6 [[.ptr 3 0 0 0,(ii tk),.sl 0 1 0 W false,.sl 4 gp 0 (pr).length false,(ii lf),(ii k)]] 0]=some ((ii ((w1+1:Nat))),[.row 1 ((st).map wsA) 1,.row 1 [[(ii w0)],[(ii ((w1+1:Nat)))]] 0,.row 6 LG' gl',.row 4 [[.sl 2 gl' 0 (LG').length false,(ii 0),.sl 1 0 0 2 false,.fsl [] false]] 0,.row 2 ((pr).map prC) gp,.row 6 [[.ptr 3 0 0 0,(ii tk),.sl 0 1 0 W false,.sl 4 gp 0 (pr).length false,(ii lf),(ii k)]] 0]):=by
 have ha:=at_ev st w0 w1 pr tk W lf LG gl gp k hlo 1 (by omega)
 have hd:=qaj7 st w0 w1 pr tk W lf LG gl gp k w1 1 hlo
 have ww:IntKind.i64.wrap ((w1:Int)+1)=((w1+1:Nat):Int):=by rw[qi (by omega) (by omega)];simp
 obtain⟨LG',gl',h1,h2,h3⟩:=q8t st w0 (w1+1) pr tk W lf LG gl gp k hlo hl w 2 1 w1 (w1+1:Nat) true
 refine⟨LG',gl',h1,h2,?_⟩
 rw[ww]at hd
 simp only[Int.ofNat_one]at ha
 have lo1:=h1.lo 6
 have hu:(evL T).call qcj [.ptr 3 0 0 0,(ii w),(ii 2),(ii 1),.fn (.func qdl) [] [.fptr [(ii 1)]]] [.row 1 ((st).map wsA) 1,.row 1 [[(ii w0)],[(ii w1)]] 0,.row 6 LG gl,.row 4 [[.sl 2 gl 0 (LG).length false,(ii 0),.sl 1 0 0 2 false,.fsl [] false]] 0,.row 2 ((pr).map prC) gp,.row 6 [[.ptr 3 0 0 0,(ii tk),.sl 0 1 0 W false,.sl 4 gp 0 (pr).length false,(ii lf),(ii k)]] 0]=some (.tup [(ii ((w1+1:Nat))),(bb true)],[.row 1 ((st).map wsA) 1,.row 1 [[(ii w0)],[(ii ((w1+1:Nat)))]] 0,.row 6 LG' gl',.row 4 [[.sl 2 gl' 0 (LG').length false,(ii 0),.sl 1 0 0 2 false,.fsl [] false]] 0,.row 2 ((pr).map prC) gp,.row 6 [[.ptr 3 0 0 0,(ii tk),.sl 0 1 0 W false,.sl 4 gp 0 (pr).length false,(ii lf),(ii k)]] 0]):=by
  rw[qe qlc qks]
  simp only[qgi,ha,hd,h3,lo1,qka,qht,Ev.ev1,q4h,Ev.stP,qb,Ev.AV.cells,Ev.AV.uc,Ev.AV.plain,qh,Ev.SObj.lo,zgy,↓qc,↓reduceIte,Nat.reduceAdd,Nat.reduceEqDiff,Nat.reduceLT,reduceCtorEq]
 rw[qe qqt qpy]
 simp only[qj1,hu,lo1,qka,qht,Ev.ev1,Ev.AV.cells,Ev.AV.uc,Ev.AV.plain,qh,Ev.SObj.lo,ne_eq,zgy,↓qc,↓reduceIte,Nat.reduceAdd,Nat.reduceEqDiff,Nat.reduceLT,reduceCtorEq]
theorem load_ev (w:Int) (hlo:LogOk LG) (hl:LG.length≤1000000000) : ∃LG' gl',LogOk LG'∧LG'.length=LG.length+1 ∧
  (evL T).call qf4 [.ptr 3 0 0 0,(ii w),(ii 1)] [.row 1 ((st).map wsA) 1,.row 1 [[(ii w0)],[(ii w1)]] 0,.row 6 LG gl,.row 4 [[.sl 2 gl 0 (LG).length false,(ii 0),.sl 1 0 0 2 false,.fsl [] false]] 0,.row 2 ((pr).map prC) gp,.row 6 [[.ptr 3 0 0 0,(ii tk),.sl 0 1 0 W false,.sl 4 gp 0 (pr).length false,(ii lf),(ii k)]] 0]=some ((ii w1),[.row 1 ((st).map wsA) 1,.row 1 [[(ii w0)],[(ii w1)]] 0,.row 6 LG' gl',.row 4 [[.sl 2 gl' 0 (LG').length false,(ii 0),.sl 1 0 0 2 false,.fsl [] false]] 0,.row 2 ((pr).map prC) gp,.row 6 [[.ptr 3 0 0 0,(ii tk),.sl 0 1 0 W false,.sl 4 gp 0 (pr).length false,(ii lf),(ii k)]] 0]):=by
 have ha:=at_ev st w0 w1 pr tk W lf LG gl gp k hlo 1 (by omega)
 have hd:=load1_ev st w0 w1 pr tk W lf LG gl gp k w1 hlo
 obtain⟨LG',gl',h1,h2,h3⟩:=q8t st w0 w1 pr tk W lf LG gl gp k hlo hl w 1 1 w1 w1 true
 refine⟨LG',gl',h1,h2,?_⟩
 simp only[Int.ofNat_one]at ha
 have lo1:=h1.lo 6
 have hu:(evL T).call qcj [.ptr 3 0 0 0,(ii w),(ii 1),(ii 1),.fn (.func qdw) [] []] [.row 1 ((st).map wsA) 1,.row 1 [[(ii w0)],[(ii w1)]] 0,.row 6 LG gl,.row 4 [[.sl 2 gl 0 (LG).length false,(ii 0),.sl 1 0 0 2 false,.fsl [] false]] 0,.row 2 ((pr).map prC) gp,.row 6 [[.ptr 3 0 0 0,(ii tk),.sl 0 1 0 W false,.sl 4 gp 0 (pr).length false,(ii lf),(ii k)]] 0]=some (.tup [(ii w1),(bb true)],[.row 1 ((st).map wsA) 1,.row 1 [[(ii w0)],[(ii w1)]] 0,.row 6 LG' gl',.row 4 [[.sl 2 gl' 0 (LG').length false,(ii 0),.sl 1 0 0 2 false,.fsl [] false]] 0,.row 2 ((pr).map prC) gp,.row 6 [[.ptr 3 0 0 0,(ii tk),.sl 0 1 0 W false,.sl 4 gp 0 (pr).length false,(ii lf),(ii k)]] 0]):=by
  rw[qe qlc qks]
  simp only[qgi,ha,hd,h3,lo1,qka,qht,Ev.ev1,q4h,Ev.stP,qb,Ev.AV.cells,Ev.AV.uc,Ev.AV.plain,qh,Ev.SObj.lo,zgy,↓qc,↓reduceIte,Nat.reduceAdd,Nat.reduceEqDiff,Nat.reduceLT,reduceCtorEq]
 rw[qe qy2 qxq]
 simp only[qle,hu,lo1,qka,qht,Ev.ev1,qh,Ev.SObj.lo,zgy,↓qc,↓reduceIte,Nat.reduceAdd,Nat.reduceEqDiff,Nat.reduceLT,reduceCtorEq]
end
set_option maxRecDepth 10000
section
variable (st:List WS) (w0 w1:Nat) (pr:List (Nat×Nat)) (tk W lf:Nat) (LG:List (List AV)) (gl gp k:Nat)
theorem claim_ev (w:Int) (hlo:LogOk LG) (hl:LG.length≤1000000000) (hw:w0≤1000000) : ∃LG' gl',LogOk LG'∧LG'.length=LG.length+1 ∧
  ∃r,wsA (if w0+1≤tk then .work w0 else .arrive)=[r]∧(evL T).call qcx [.ptr 5 0 0 0,(ii w)] [.row 1 ((st).map wsA) 1,.row 1 [[(ii w0)],[(ii w1)]] 0,.row 6 LG gl,.row 4 [[.sl 2 gl 0 (LG).length false,(ii 0),.sl 1 0 0 2 false,.fsl [] false]] 0,.row 2 ((pr).map prC) gp,.row 6 [[.ptr 3 0 0 0,(ii tk),.sl 0 1 0 W false,.sl 4 gp 0 (pr).length false,(ii lf),(ii k)]] 0]=some (r,[.row 1 ((st).map wsA) 1,.row 1 [[(ii ((w0+1:Nat)))],[(ii w1)]] 0,.row 6 LG' gl',.row 4 [[.sl 2 gl' 0 (LG').length false,(ii 0),.sl 1 0 0 2 false,.fsl [] false]] 0,.row 2 ((pr).map prC) gp,.row 6 [[.ptr 3 0 0 0,(ii tk),.sl 0 1 0 W false,.sl 4 gp 0 (pr).length false,(ii lf),(ii k)]] 0]):=by
 obtain⟨LG',gl',h1,h2,h3⟩:=add0_ev st w0 w1 pr tk W lf LG gl gp k w hlo hl hw
 refine⟨LG',gl',h1,h2,?_⟩
 have lo1:=h1.lo 6
 have ww:IntKind.i64.wrap (((w0+1:Nat):Int)-1)=(w0:Int):=by rw[qi (by omega) (by omega)];omega
 rw[qe qxk qwv]
 by_cases hc:w0+1≤tk
 ·have hc':((w0+1:Nat):Int)≤(tk:Int):=by omega
  have hwk:(evL T).call qf3 [.ptr 5 0 0 0,(ii w0)] [.row 1 ((st).map wsA) 1,.row 1 [[(ii ((w0+1:Nat)))],[(ii w1)]] 0,.row 6 LG' gl',.row 4 [[.sl 2 gl' 0 (LG').length false,(ii 0),.sl 1 0 0 2 false,.fsl [] false]] 0,.row 2 ((pr).map prC) gp,.row 6 [[.ptr 3 0 0 0,(ii tk),.sl 0 1 0 W false,.sl 4 gp 0 (pr).length false,(ii lf),(ii k)]] 0]=some (.fn (.func qcm) [] [.fptr [.ptr 5 0 0 0],.fptr [(ii w0)]],[.row 1 ((st).map wsA) 1,.row 1 [[(ii ((w0+1:Nat)))],[(ii w1)]] 0,.row 6 LG' gl',.row 4 [[.sl 2 gl' 0 (LG').length false,(ii 0),.sl 1 0 0 2 false,.fsl [] false]] 0,.row 2 ((pr).map prC) gp,.row 6 [[.ptr 3 0 0 0,(ii tk),.sl 0 1 0 W false,.sl 4 gp 0 (pr).length false,(ii lf),(ii k)]] 0]):=by
   rw[qe qyo qx0]
   simp only[qlj,lo1,qka,qht,Ev.ev1,Ev.AV.cells,Ev.AV.uc,Ev.AV.plain,qh,Ev.SObj.lo,ne_eq,zgy,↓qc,↓reduceIte,Nat.reduceAdd,Nat.reduceEqDiff,Nat.reduceLT,reduceCtorEq]
  rw[if_pos hc]
  refine⟨_,rfl,?_⟩
  simp only[qid,h3,hc',ww,hwk,lo1,qka,qht,Ev.ev1,qb,qh,Ev.SObj.lo,zgy,↓qc,↓reduceIte,Nat.reduceAdd,Nat.reduceEqDiff,Nat.reduceLT,reduceCtorEq]
 ·have hc':¬((w0+1:Nat):Int)≤(tk:Int):=by omega
  rw[if_neg hc]
  refine⟨_,rfl,?_⟩
  simp only[qid,h3,hc',lo1,qka,qht,Ev.ev1,qb,qh,Ev.SObj.lo,zgy,↓qc,↓reduceIte,Nat.reduceAdd,Nat.reduceEqDiff,Nat.reduceLT,reduceCtorEq]
theorem work_ev (w t:Nat) (hlo:LogOk LG) (hp:pr.length≤1000000):(evL T).call qcm [(ii w),.fptr [.ptr 5 0 0 0],.fptr [(ii t)]] [.row 1 ((st).map wsA) 1,.row 1 [[(ii w0)],[(ii w1)]] 0,.row 6 LG gl,.row 4 [[.sl 2 gl 0 (LG).length false,(ii 0),.sl 1 0 0 2 false,.fsl [] false]] 0,.row 2 ((pr).map prC) gp,.row 6 [[.ptr 3 0 0 0,(ii tk),.sl 0 1 0 W false,.sl 4 gp 0 (pr).length false,(ii lf),(ii k)]] 0] =
  some (.fn (.func qcx) [.ptr 5 0 0 0] [],[.row 1 ((st).map wsA) 1,.row 1 [[(ii w0)],[(ii w1)]] 0,.row 6 LG gl,.row 4 [[.sl 2 gl 0 (LG).length false,(ii 0),.sl 1 0 0 2 false,.fsl [] false]] 0,.row 2 (((pr++[(t,w)])).map prC) (gp+1),.row 6 [[.ptr 3 0 0 0,(ii tk),.sl 0 1 0 W false,.sl 4 (gp+1) 0 ((pr++[(t,w)])).length false,(ii lf),(ii k)]] 0]):=by
 have bd:(pr.length+1)*16≤140737488355328:=by omega
 have hm:(pr++[(t,w)]).map prC=pr.map prC++[[(ii t),(ii w)]]:=by rw[List.map_append];rfl
 have hl2:(pr++[(t,w)]).length=pr.length+1:=by simp
 have tkl:List.take pr.length (pr.map prC)=pr.map prC:=ztl (by simp)
 have lo2:=qht 6 (pr++[(t,w)])
 have hle:pr.length≤pr.length:=Nat.le_refl _
 rw[hm]at lo2⊢
 rw[hl2]
 rw[qe qwr qvb]
 simp only[qjt,bd,lo2,tkl,hle,zgi,qka,hlo.lo,Ev.ev1,Ev.stP,q3t,qb,qdj,Ev.AV.cells,Ev.AV.uc,Ev.AV.plain,qh,Ev.SObj.lo,ne_eq,zgy,↓qc,↓reduceIte,Nat.reduceAdd,Nat.reduceEqDiff,Nat.reduceMul,Nat.reduceLT,Nat.reduceLeDiff,Nat.reducePow,reduceCtorEq]
theorem qalp (w:Int) (hlo:LogOk LG) (hl:LG.length≤1000000000) (hw:w1≤1000000) : ∃LG' gl',LogOk LG'∧LG'.length=LG.length+1 ∧
  (evL T).call qc1 [.ptr 5 0 0 0,(ii w)] [.row 1 ((st).map wsA) 1,.row 1 [[(ii w0)],[(ii w1)]] 0,.row 6 LG gl,.row 4 [[.sl 2 gl 0 (LG).length false,(ii 0),.sl 1 0 0 2 false,.fsl [] false]] 0,.row 2 ((pr).map prC) gp,.row 6 [[.ptr 3 0 0 0,(ii tk),.sl 0 1 0 W false,.sl 4 gp 0 (pr).length false,(ii lf),(ii k)]] 0]=some (.fn (.func qb6) [.ptr 5 0 0 0] [],[.row 1 ((st).map wsA) 1,.row 1 [[(ii w0)],[(ii ((w1+1:Nat)))]] 0,.row 6 LG' gl',.row 4 [[.sl 2 gl' 0 (LG').length false,(ii 0),.sl 1 0 0 2 false,.fsl [] false]] 0,.row 2 ((pr).map prC) gp,.row 6 [[.ptr 3 0 0 0,(ii tk),.sl 0 1 0 W false,.sl 4 gp 0 (pr).length false,(ii lf),(ii k)]] 0]):=by
 obtain⟨LG',gl',h1,h2,h3⟩:=add1w_ev st w0 w1 pr tk W lf LG gl gp k w hlo hl hw
 refine⟨LG',gl',h1,h2,?_⟩
 have lo1:=h1.lo 6
 rw[qe qwe qv0]
 simp only[qjq,h3,lo1,qka,qht,Ev.ev1,qb,qh,Ev.SObj.lo,zgy,↓qc,↓reduceIte,Nat.reduceAdd,Nat.reduceEqDiff,Nat.reduceLT,reduceCtorEq]
theorem wait_ev (w:Int) (hlo:LogOk LG) (hl:LG.length≤1000000000) (hlf:w1=W→1≤lf∧lf≤1000000) : ∃LG' gl',LogOk LG'∧LG'.length=LG.length+1 ∧
  ∃r,wsA (if w1=W then .done else .wait)=[r]∧(evL T).call qb6 [.ptr 5 0 0 0,(ii w)] [.row 1 ((st).map wsA) 1,.row 1 [[(ii w0)],[(ii w1)]] 0,.row 6 LG gl,.row 4 [[.sl 2 gl 0 (LG).length false,(ii 0),.sl 1 0 0 2 false,.fsl [] false]] 0,.row 2 ((pr).map prC) gp,.row 6 [[.ptr 3 0 0 0,(ii tk),.sl 0 1 0 W false,.sl 4 gp 0 (pr).length false,(ii lf),(ii k)]] 0]=some (r,[.row 1 ((st).map wsA) 1,.row 1 [[(ii w0)],[(ii w1)]] 0,.row 6 LG' gl',.row 4 [[.sl 2 gl' 0 (LG').length false,(ii 0),.sl 1 0 0 2 false,.fsl [] false]] 0,.row 2 ((pr).map prC) gp,.row 6 [[.ptr 3 0 0 0,(ii tk),.sl 0 1 0 W false,.sl 4 gp 0 (pr).length false,(ii ((if w1=W then lf-1 else lf:Nat))),(ii k)]] 0]):=by
 obtain⟨LG',gl',h1,h2,h3⟩:=load_ev st w0 w1 pr tk W lf LG gl gp k w hlo hl
 refine⟨LG',gl',h1,h2,?_⟩
 have lo1:=h1.lo 6
 rw[qe qx9 qx1]
 by_cases hc:w1=W
 ·obtain⟨l1,l2⟩:=hlf hc
  have ww:IntKind.i64.wrap ((lf:Int)-1)=((lf-1:Nat):Int):=by rw[qi (by omega) (by omega)];omega
  subst hc
  rw[if_pos rfl,if_pos rfl]
  refine⟨_,rfl,?_⟩
  simp only[qi2,h3,ww,lo1,zgl,zgn,zgf,qka,qht,Ev.ev1,q3e,Ev.stP,qb,Ev.AV.cells,Ev.AV.uc,Ev.AV.plain,qh,Ev.SObj.lo,ne_eq,zgy,↓qc,↓reduceIte,Nat.reduceAdd,Nat.reduceEqDiff,Nat.reduceLT,Nat.reduceLeDiff,reduceCtorEq]
 ·have hc':¬(w1:Int)=(W:Int):=by omega
  rw[if_neg hc,if_neg hc]
  refine⟨_,rfl,?_⟩
  simp only[qi2,h3,hc',lo1,zgl,zgn,qka,qht,Ev.ev1,q3e,qb,qh,Ev.SObj.lo,ne_eq,zgy,↓qc,↓reduceIte,Nat.reduceAdd,Nat.reduceEqDiff,Nat.reduceLT,reduceCtorEq]
end
theorem qakc (st:List WS) (w:Nat) (h:w<st.length) (h1:qqs st[w]=false) (y:WS):qnc (st.set w y)=if qqs y=true then qnc st-1 else qnc st:=by
 have:=q0t (fun x => !qqs x) st w y h
 have hp:0<qnc st:=(q3o st).2 ⟨w,h,fun e=>by rw[e]at h1;cases h1⟩
 unfold qnc at hp⊢
 simp only[h1,Bool.not_false,if_true]at this
 cases hy:qqs y with
 |true=>rw[hy]at this;simp at this ⊢;omega
 |false=>rw[hy]at this;simp at this ⊢;omega
theorem pick_ev (p:Pool) (tk W:Nat) (I:PInv tk W p) (ht:tk≤1000) (hW:W≤1000) (w:Nat) (hw:w<W) (LG:List (List AV)) (gl gp k:Nat) (hlo:LogOk LG) (hl:LG.length≤1000000000) (hk:k≤1000000000) :
  ∃LG' gl' gp',LogOk LG'∧LG'.length≤LG.length+1∧(evL T).call qev [.ptr 5 0 0 0,(ii w)] [.row 1 ((((p).st)).map wsA) 1,.row 1 [[(ii (((p).w0)))],[(ii (((p).w1)))]] 0,.row 6 LG gl,.row 4 [[.sl 2 gl 0 (LG).length false,(ii 0),.sl 1 0 0 2 false,.fsl [] false]] 0,.row 2 ((((p).pairs)).map prC) gp,.row 6 [[.ptr 3 0 0 0,(ii tk),.sl 0 1 0 ((p).st.length) false,.sl 4 gp 0 (((p).pairs)).length false,(ii ((qnc (p).st))),(ii k)]] 0]=some (.tup [],[.row 1 (((((p.step tk w)).st)).map wsA) 1,.row 1 [[(ii ((((p.step tk w)).w0)))],[(ii ((((p.step tk w)).w1)))]] 0,.row 6 LG' gl',.row 4 [[.sl 2 gl' 0 (LG').length false,(ii 0),.sl 1 0 0 2 false,.fsl [] false]] 0,.row 2 (((((p.step tk w)).pairs)).map prC) gp',.row 6 [[.ptr 3 0 0 0,(ii tk),.sl 0 1 0 (((p.step tk w)).st.length) false,.sl 4 gp' 0 ((((p.step tk w)).pairs)).length false,(ii ((qnc ((p.step tk w)).st))),(ii ((k+1:Nat)))]] 0]):=by
 obtain⟨w0,w1,st,pairs⟩:=p
 have hlen:=I.len
 have b0:=I.w0
 have b1:=I.w1
 have bp:=I.perm.length_eq
 simp only at hlen b0 b1 bp
 have c0:=List.countP_le_length (p:=qaar) (l:=st)
 have c1:=List.countP_le_length (p:=inW) (l:=st)
 have c2:=leftN_le st
 simp only[zgp,zgi,List.length_range]at bp
 have hws:w<st.length:=by omega
 have hg:(st.map wsA)[w]? = some (wsA st[w]):=by rw[List.getElem?_map,zgE hws];rfl
 have hset : ∀y,(st.map wsA).set w (wsA y)=(st.set w y).map wsA:=fun y=>by rw[List.map_set]
 have hlf:=qakc st w hws
 have wk:IntKind.i64.wrap ((k:Int)+1)=((k+1:Nat):Int):=by rw[qi (by omega) (by omega)];simp
 unfold Pool.step
 simp only[zgE hws]
 subst hlen
 rw[qe qye qxy]
 cases hs:st[w]with
 |claim=>
  rw[hs]at hg hlf
  simp only[wsA]at hg
  obtain⟨LG',gl',h1,h2,r,hr,h3⟩:=claim_ev st w0 w1 pairs tk st.length (qnc st) LG gl gp (k+1) w hlo hl (by omega)
  have lo1:=h1.lo 6
  refine⟨LG',gl',gp,h1,by omega,?_⟩
  simp only
  have hdn : ∀y,qqs y=false→qnc (st.set w y)=qnc st:=fun y hy=>by rw[hlf rfl,hy];rfl
  by_cases hc:w0+1≤tk
  ·rw[if_pos hc]at hr
   simp only[hc,if_true]
   have hs2:=hset (.work w0)
   have lo2:=qka (st.set w (.work w0))
   rw[hr]at hs2
   rw[←hs2]at lo2⊢
   rw[hdn _ rfl,List.length_set]
   have hrw:r = .fn (.func qcm) [] [.fptr [.ptr 5 0 0 0],.fptr [(ii w0)]]:=by simp only[wsA,List.cons.injEq,and_true]at hr;exact hr.symm
   subst hrw
   simp only[qc6,wk,hg,h3,hws,lo1,lo2,zgl,zgn,qht,zgs,zgr,Ev.ev1,q3e,q4h,Ev.stP,qb,Ev.AV.cells,Ev.AV.uc,Ev.AV.plain,qh,Ev.SObj.lo,zgy,↓qc,↓reduceIte,Nat.reduceAdd,Nat.reduceEqDiff,Nat.reduceLT,reduceCtorEq]
  ·rw[if_neg hc]at hr
   simp only[hc,if_false]
   have hs2:=hset .arrive
   have lo2:=qka (st.set w .arrive)
   rw[hr]at hs2
   rw[←hs2]at lo2⊢
   rw[hdn _ rfl,List.length_set]
   have hrw:r = .fn (.func qc1) [.ptr 5 0 0 0] []:=by simp only[wsA,List.cons.injEq,and_true]at hr;exact hr.symm
   subst hrw
   simp only[qc6,wk,hg,h3,hws,lo1,lo2,zgl,zgn,qht,zgs,zgr,Ev.ev1,q3e,q4h,Ev.stP,qb,Ev.AV.cells,Ev.AV.uc,Ev.AV.plain,qh,Ev.SObj.lo,zgy,↓qc,↓reduceIte,Nat.reduceAdd,Nat.reduceEqDiff,Nat.reduceLT,reduceCtorEq]
 |work t=>
  rw[hs]at hg hlf
  simp only[wsA]at hg
  have h3:=work_ev st w0 w1 pairs tk st.length (qnc st) LG gl gp (k+1) w t hlo (by omega)
  refine⟨LG,gl,gp+1,hlo,by omega,?_⟩
  simp only
  have hs2:=hset .claim
  have lo2:=qka (st.set w .claim)
  simp only[wsA]at hs2
  rw[←hs2]at lo2⊢
  rw[hlf rfl,List.length_set]
  simp only[qqs,zfa,if_false]
  simp only[qc6,wk,hg,h3,hws,lo2,zgl,zgn,qht,hlo.lo,zgs,zgr,Ev.ev1,q3e,q4h,Ev.stP,qb,Ev.AV.cells,Ev.AV.uc,Ev.AV.plain,qh,Ev.SObj.lo,zgy,↓qc,↓reduceIte,Nat.reduceAdd,Nat.reduceEqDiff,Nat.reduceLT,reduceCtorEq]
 |arrive=>
  rw[hs]at hg hlf
  simp only[wsA]at hg
  obtain⟨LG',gl',h1,h2,h3⟩:=qalp st w0 w1 pairs tk st.length (qnc st) LG gl gp (k+1) w hlo hl (by omega)
  have lo1:=h1.lo 6
  refine⟨LG',gl',gp,h1,by omega,?_⟩
  simp only
  have hs2:=hset .wait
  have lo2:=qka (st.set w .wait)
  simp only[wsA]at hs2
  rw[←hs2]at lo2⊢
  rw[hlf rfl,List.length_set]
  simp only[qqs,zfa,if_false]
  simp only[qc6,wk,hg,h3,hws,lo1,lo2,zgl,zgn,qht,zgs,zgr,Ev.ev1,q3e,q4h,Ev.stP,qb,Ev.AV.cells,Ev.AV.uc,Ev.AV.plain,qh,Ev.SObj.lo,zgy,↓qc,↓reduceIte,Nat.reduceAdd,Nat.reduceEqDiff,Nat.reduceLT,reduceCtorEq]
 |wait=>
  rw[hs]at hg hlf
  simp only[wsA]at hg
  have hp:0<qnc st:=(q3o st).2 ⟨w,hws,fun e=>by rw[e]at hs;cases hs⟩
  obtain⟨LG',gl',h1,h2,r,hr,h3⟩:=wait_ev st w0 w1 pairs tk st.length (qnc st) LG gl gp (k+1) w hlo hl (fun _=>by omega)
  have lo1:=h1.lo 6
  refine⟨LG',gl',gp,h1,by omega,?_⟩
  simp only
  by_cases hc:w1=st.length
  ·rw[if_pos hc]at hr
   rw[if_pos hc]at h3
   simp only[hc,if_true]
   rw[hc]at h3
   have hs2:=hset .done
   have lo2:=qka (st.set w .done)
   rw[hr]at hs2
   rw[←hs2]at lo2⊢
   rw[hlf rfl,List.length_set]
   have hrw:r = .v .nilFunc:=by simp only[wsA,List.cons.injEq,and_true]at hr;exact hr.symm
   subst hrw
   simp only[qqs,if_true]
   simp only[qc6,wk,hg,h3,hws,lo1,lo2,zgl,zgn,qht,zgs,zgr,Ev.ev1,q3e,q4h,Ev.stP,qb,Ev.AV.cells,Ev.AV.uc,Ev.AV.plain,qh,Ev.SObj.lo,zgy,↓qc,↓reduceIte,Nat.reduceAdd,Nat.reduceEqDiff,Nat.reduceLT,reduceCtorEq]
  ·rw[if_neg hc]at hr
   rw[if_neg hc]at h3
   simp only[hc,if_false]
   have hrw:r = .fn (.func qb6) [.ptr 5 0 0 0] []:=by simp only[wsA,List.cons.injEq,and_true]at hr;exact hr.symm
   subst hrw
   have hs2:(st.map wsA).set w [.fn (.func qb6) [.ptr 5 0 0 0] []]=st.map wsA:=by
    have:=hset .wait
    simp only[wsA]at this
    rw[this,←hs,List.set_getElem_self]
   simp only[qc6,wk,hg,h3,hws,lo1,hs2,zgl,zgn,qka,qht,zgs,zgr,Ev.ev1,q3e,q4h,Ev.stP,qb,Ev.AV.cells,Ev.AV.uc,Ev.AV.plain,qh,Ev.SObj.lo,zgy,↓qc,↓reduceIte,Nat.reduceAdd,Nat.reduceEqDiff,Nat.reduceLT,reduceCtorEq]
 |done=>
  rw[hs]at hg
  simp only[wsA]at hg
  refine⟨LG,gl,gp,hlo,by omega,?_⟩
  simp only
  simp only[qc6,wk,hg,hws,zgl,zgn,qka,qht,hlo.lo,zgs,zgr,Ev.ev1,q4h,Ev.stP,qb,Ev.AV.cells,Ev.AV.uc,Ev.AV.plain,qh,Ev.SObj.lo,zgy,↓qc,↓reduceIte,Nat.reduceAdd,Nat.reduceEqDiff,Nat.reduceLT,reduceCtorEq]
set_option maxRecDepth 10000
def qqc (l:List Nat):List Int:=l.map fun x:Nat=>(x:Int)
theorem natI_len (l:List Nat):(qqc l).length=l.length:=List.length_map ..
theorem valid_ev (tk W:Nat) (ht:tk≤64) (h1:1≤W) (h2:W≤64):qac (evL T) qi6 [(ii tk),(ii W)]=some (bb true):=by
 have a1:(tk:Int)≥0:=by omega
 have a2:(tk:Int)≤64:=by omega
 have a3:(W:Int)≥1:=by omega
 have a4:(W:Int)≤64:=by omega
 rw[qac,qe q38 q2e]
 simp only[qoj,a1,a2,a3,a4,Ev.ev1,qh,zgy,↓qc,↓reduceIte,Nat.reduceAdd,Nat.reduceEqDiff,reduceCtorEq]
theorem qadm (tk W:Nat) (picks:List Nat) (c:Bool) (n:Nat) (ht:tk≤64) (h1:1≤W) (h2:W≤64) (hp : ∀x∈picks,x<W) (hpl:picks.length≤1000) (hn:Fin tk W picks n) :
  qac (evL T) qe1 [(ii tk),(ii W),(.fsl (((qqc picks)).map qa0) c)]=some (.tup [.fsl ((qmg tk W picks n).pairs.map prC) false,(ii n)]):=by
 have hnb:n≤1000+64*(2*64+3*64):=by
  have:=hn.bound
  have:W*(2*tk+3*W)≤64*(2*64+3*64):=Nat.mul_le_mul h2 (by omega)
  omega
 have hL : ∃y,itB (exec (evL T) itL none qhb) (qai [1,2,8,9] true 6) ⟨[(1,(ii W)),(2,(.fsl (((qqc picks)).map qa0) c)),(8,.ptr 5 0 0 0),(9,(ii ((0:Nat))))],[]⟩ [.row 1 (((((qmg tk W picks 0)).st)).map wsA) 1,.row 1 [[(ii ((((qmg tk W picks 0)).w0)))],[(ii ((((qmg tk W picks 0)).w1)))]] 0,.row 6 ([]:List (List AV)) 0,.row 4 [[.sl 2 0 0 (([]:List (List AV))).length false,(ii 0),.sl 1 0 0 2 false,.fsl [] false]] 0,.row 2 (((((qmg tk W picks 0)).pairs)).map prC) 0,.row 6 [[.ptr 3 0 0 0,(ii tk),.sl 0 1 0 (((qmg tk W picks 0)).st.length) false,.sl 4 0 0 ((((qmg tk W picks 0)).pairs)).length false,(ii ((qnc ((qmg tk W picks 0)).st))),(ii ((0:Nat)))]] 0]=some y ∧
   ∃LG gl gp,LogOk LG∧y.1 = .exit 0∧y.2.1.marks=[]∧y.2.2=[.row 1 (((((qmg tk W picks n)).st)).map wsA) 1,.row 1 [[(ii ((((qmg tk W picks n)).w0)))],[(ii ((((qmg tk W picks n)).w1)))]] 0,.row 6 LG gl,.row 4 [[.sl 2 gl 0 (LG).length false,(ii 0),.sl 1 0 0 2 false,.fsl [] false]] 0,.row 2 (((((qmg tk W picks n)).pairs)).map prC) gp,.row 6 [[.ptr 3 0 0 0,(ii tk),.sl 0 1 0 (((qmg tk W picks n)).st.length) false,.sl 4 gp 0 ((((qmg tk W picks n)).pairs)).length false,(ii ((qnc ((qmg tk W picks n)).st))),(ii n)]] 0]∧Ev.look y.2.1.vars 8=some (.ptr 5 0 0 0):=by
  have key:=qg5 (f:=exec (evL T) itL none qhb) (s:=qai [1,2,8,9] true 6) (α:=List (List AV)×Nat×Nat)
   (fun i _=>⟨[(1,(ii W)),(2,(.fsl (((qqc picks)).map qa0) c)),(8,.ptr 5 0 0 0),(9,(ii i))],[]⟩) (fun i a=>[.row 1 (((((qmg tk W picks i)).st)).map wsA) 1,.row 1 [[(ii ((((qmg tk W picks i)).w0)))],[(ii ((((qmg tk W picks i)).w1)))]] 0,.row 6 (a.1) a.2.1,.row 4 [[.sl 2 a.2.1 0 ((a.1)).length false,(ii 0),.sl 1 0 0 2 false,.fsl [] false]] 0,.row 2 (((((qmg tk W picks i)).pairs)).map prC) a.2.2,.row 6 [[.ptr 3 0 0 0,(ii tk),.sl 0 1 0 (((qmg tk W picks i)).st.length) false,.sl 4 a.2.2 0 ((((qmg tk W picks i)).pairs)).length false,(ii ((qnc ((qmg tk W picks i)).st))),(ii i)]] 0]) (fun i a=>LogOk a.1∧a.1.length≤i) n
   (fun y => ∃LG gl gp,LogOk LG∧y.1 = .exit 0∧y.2.1.marks=[]∧y.2.2=[.row 1 (((((qmg tk W picks n)).st)).map wsA) 1,.row 1 [[(ii ((((qmg tk W picks n)).w0)))],[(ii ((((qmg tk W picks n)).w1)))]] 0,.row 6 LG gl,.row 4 [[.sl 2 gl 0 (LG).length false,(ii 0),.sl 1 0 0 2 false,.fsl [] false]] 0,.row 2 (((((qmg tk W picks n)).pairs)).map prC) gp,.row 6 [[.ptr 3 0 0 0,(ii tk),.sl 0 1 0 (((qmg tk W picks n)).st.length) false,.sl 4 gp 0 ((((qmg tk W picks n)).pairs)).length false,(ii ((qnc ((qmg tk W picks n)).st))),(ii n)]] 0]∧Ev.look y.2.1.vars 8=some (.ptr 5 0 0 0)) ?_ ?_ 0 ([],0,0) (Nat.zero_le _) ⟨⟨fun _=>rfl,rfl⟩,Nat.le_refl _⟩
  ·exact key
  ·rintro i ⟨LG,gl,gp⟩ hi ⟨hlo,hll⟩
   simp only at hlo hll⊢
   have I:=q7m (T:=tk) (picks:=picks) h1 i
   have hlt:=hn.first i hi
   have hpk:qoq picks W i<W:=by
    unfold qoq;split
    next hl=>rw[List.getD_eq_getElem?_getD,zgE hl];exact hp _ (List.getElem_mem hl)
    next=>exact Nat.mod_lt _ (by omega)
   obtain⟨LG',gl',gp',a1,a2,a3⟩:=pick_ev (qmg tk W picks i) tk W I (by omega) (by omega) (qoq picks W i) hpk LG gl gp i hlo (by omega) (by omega)
   have hw:IntKind.i64.wrap ((i:Int)+1)=((i+1:Nat):Int):=by rw[qi (by omega) (by omega)];simp
   have hlf:((qnc (qmg tk W picks i).st:Nat):Int)>0:=by omega
   have lo1:=a1.lo 6
   have hll2:((qqc picks).map qa0).length=picks.length:=by rw[List.length_map,natI_len]
   refine .inl ⟨(LG',gl',gp'),?_,a1,by simp only;omega⟩
   simp only
   change _=some (Sum.inl (_,([.row 1 ((((((qmg tk W picks i).step tk (qoq picks W i))).st)).map wsA) 1,.row 1 [[(ii (((((qmg tk W picks i).step tk (qoq picks W i))).w0)))],[(ii (((((qmg tk W picks i).step tk (qoq picks W i))).w1)))]] 0,.row 6 LG' gl',.row 4 [[.sl 2 gl' 0 (LG').length false,(ii 0),.sl 1 0 0 2 false,.fsl [] false]] 0,.row 2 ((((((qmg tk W picks i).step tk (qoq picks W i))).pairs)).map prC) gp',.row 6 [[.ptr 3 0 0 0,(ii tk),.sl 0 1 0 ((((qmg tk W picks i).step tk (qoq picks W i))).st.length) false,.sl 4 gp' 0 (((((qmg tk W picks i).step tk (qoq picks W i))).pairs)).length false,(ii ((qnc (((qmg tk W picks i).step tk (qoq picks W i))).st))),(ii ((i+1:Nat)))]] 0]:qf)))
   by_cases hil:i<picks.length
   ·have hc:(i:Int)<(picks.length:Int):=by omega
    have hg:((qqc picks).map qa0)[i]? = some [(ii ((qoq picks W i:Nat)))]:=by
     unfold qoq qqc
     rw[if_pos hil,List.getD_eq_getElem?_getD,List.getElem?_map,List.getElem?_map,zgE hil];rfl
    simp only[qhb,hlf,hll2,hc,hg,a3,hw,lo1,qka,qht,zgs,zgr,qm,Ev.ev1,qb,Ev.SObj.lo,zgy,↓qc,↓reduceIte,Nat.reduceEqDiff,Nat.reduceLT]
   ·have hc:¬(i:Int)<(picks.length:Int):=by omega
    have hw2:IntKind.i64.wrap ((i:Int)-(picks.length:Int))=((i-picks.length:Nat):Int):=by rw[qi (by omega) (by omega)];omega
    have hW0:¬(W:Int)=0:=by omega
    have hm:(((i-picks.length:Nat):Int)).tmod (W:Int)=((qoq picks W i:Nat):Int):=by
     unfold qoq
     rw[if_neg hil,Int.tmod_eq_emod_of_nonneg (by omega)];rfl
    simp only[qhb,hlf,hll2,hc,hw2,hW0,hm,a3,hw,lo1,qka,qht,qm,Ev.ev1,qb,Ev.SObj.lo,zgy,↓qc,↓reduceIte,Nat.reduceEqDiff,Nat.reduceLT]
  ·rintro⟨LG,gl,gp⟩ ⟨hlo,hll⟩
   simp only at hlo hll⊢
   have hs:=hn.stop
   rw[hs]
   simp only[qhb,gt_iff_lt,Int.lt_irrefl,Ev.ev1,qb,zgy,↓qc,↓reduceIte,Nat.reduceEqDiff]
   exact⟨_,rfl,LG,gl,gp,hlo,rfl,rfl,rfl,rfl⟩
 obtain⟨⟨y,e,σ⟩,k1,LG,gl,gp,hlo,k2,k3,k4,k5⟩:=hL
 simp only at k1 k2 k3 k4 k5
 subst k2;subst k4
 have hst:=qalv tk W h1 h2
 have hv:=valid_ev tk W ht h1 h2
 have e0:qmg tk W picks 0=Pool.start W:=rfl
 have h64:((64:Nat):Int)=64:=rfl
 have l0:qnc (List.replicate W WS.claim)=W:=by unfold qnc;rw[List.countP_eq_length.2 (fun a ha=>by rw[List.eq_of_mem_replicate ha];rfl),List.length_replicate]
 rw[e0]at k1
 simp only[Pool.start,l0,List.length_replicate,Int.ofNat_zero,List.map_nil,zgb]at k1
 have lr:=qka (List.replicate W WS.claim)
 have im:qiz 0 ((List.replicate W WS.claim).map wsA)=(List.replicate W WS.claim).map wsA:=q77 (fun x=>by cases x<;>simp only[wsA,qic,AV.shift,Nat.add_zero]) _
 have tk1:List.take ((qmg tk W picks n).pairs.length) ((qmg tk W picks n).pairs.map prC)=(qmg tk W picks n).pairs.map prC:=ztl (by simp)
 have hle : ∀m:Nat,m≤m:=fun m=>Nat.le_refl m
 rw[qac,qe q2i q1u]
 generalize (List.replicate W WS.claim).map wsA=R at *
 simp only[qny,hv,hst,k1,k3,k5,im,lr,tk1,hle,AV.shift,qic,qiz,List.map_nil,zgi,qht,qm,Ev.ev1,q1x,qb,qh,Ev.SObj.lo,zgy,↓qc,↓qv,↓reduceIte,Nat.reduceAdd,Nat.reduceEqDiff,Nat.reduceLT,reduceCtorEq]
set_option maxRecDepth 10000
def qv5 {α:Type} (n:Nat) (d:List Nat) (A B:Nat→α):List α:=(List.range n).map fun i=>if i∈d then A i else B i
section
variable {α:Type} (n:Nat) (d:List Nat) (A B:Nat→α)
theorem qwh:(qv5 n d A B).length=n:=by simp[qv5]
theorem qzo {i:Nat} (hi:i<n):(qv5 n d A B)[i]? = some (if i∈d then A i else B i):=by
 unfold qv5;rw[List.getElem?_map,List.getElem?_range hi];rfl
theorem q7i {i:Nat} (hi:i<n):(qv5 n d A B).set i (A i)=qv5 n (d++[i]) A B:=by
 refine List.ext_getElem? fun j => ?_
 by_cases hj:j<n
 ·rw[qzo n (d++[i]) A B hj]
  by_cases e:i=j
  ·subst e
   rw[List.getElem?_set_self (by rw[qwh];exact hi),if_pos (by simp)]
  ·rw[List.getElem?_set_ne e,qzo n d A B hj]
   have:j∈d++[i]↔j∈d:=by simp;omega
   simp only[this]
 ·rw[List.getElem?_eq_none (by rw[List.length_set,qwh];omega),List.getElem?_eq_none (by rw[qwh];omega)]
theorem q7l:qv5 n [] A B=(List.range n).map B:=by simp[qv5]
theorem q7o (h : ∀i,i<n→i∈d):qv5 n d A B=(List.range n).map A:=by
 unfold qv5
 refine List.map_congr_left fun i hi => ?_
 rw[if_pos (h i (List.mem_range.1 hi))]
end
theorem qzf (k n:Nat) (d:List Nat) (A B:Nat→List AV) (hA : ∀i,los k (A i)=true) (hB : ∀i,los k (B i)=true):qc5 k (qv5 n d A B)=true:=by
 unfold qv5
 refine qjy (fun i => ?_) _
 split
 ·exact hA i
 ·exact hB i
def flag (c:Cfg) (i:Nat):Bool:=(((qib c.lps)[i]?).map Prod.snd).getD false
def qkq (c:Cfg) (s:Sim):List (Lp×Bool):=(List.range c.lps.length).map fun i:Nat=>(lpAt s i,flag c i)
def plC (p:List (Nat×Nat)):List AV:=[.fsl (p.map prC) false]
theorem plC_lo (n:Nat) (p:List (Nat×Nat)):los n (plC p)=true:=by simp only[plC,qht,Ev.ev1,zgy]
theorem plC_pl (p:List (Nat×Nat)):(plC p).length=1∧qfx (plC p)=true:=⟨rfl,rfl⟩
theorem qvp (n:Nat) (l:List (List (Nat×Nat))):qc5 n (l.map plC)=true:=qjy (plC_lo n) l
theorem pls_ok (l:List (List (Nat×Nat))):qcy 1 (l.map plC)=true:=qo9 plC_pl l
section
variable {c:Cfg} {s:Sim} {h:List Evt} {f hor:Int}
theorem StF.trace_eq {L:List (Lp×Bool)} (F:StF c s h L):s.trace=(List.range c.lps.length).map fun i:Nat=>qiu s i:=by
 refine List.ext_getElem? fun i => ?_
 rw[List.getElem?_map]
 by_cases hi:i<c.lps.length
 ·rw[List.getElem?_range hi,F.inv.tr i hi]
  simp only[zgt,qiu,zgr,F.inv.tr i hi,Option.getD_some]
 ·rw[List.getElem?_eq_none (by rw[F.inv.trl];omega),List.getElem?_eq_none (by simp;omega)];rfl
theorem StF.flagAt (F:StF c s h (qkq c s)) {i:Nat} (hi:i<c.lps.length):s.lps[i]? = some (lpAt s i)∧(flag c i=true→(lpAt s i).procs=[]):=by
 obtain⟨x,xf,h1,h2,h3⟩:=F.at hi
 have hx:lpAt s i=x:=by unfold lpAt;rw[Int.toNat_natCast,h2];rfl
 have h4:(qkq c s)[i]? = some (lpAt s i,flag c i):=by unfold qkq;rw[List.getElem?_map,List.getElem?_range hi];rfl
 rw[h4]at h1
 cases h1
 exact⟨h2,h3⟩
theorem StF.proc (F:StF c s h (qkq c s)) {i:Nat} (hi:i<c.lps.length) :
  qac (evL T) qg1 [(.agg [(.fsl ((c.lps).map lpC) false),(.fsl ((c.progs).map qaz) false),(ii c.look),(ii c.fin),(ii c.cap)]),(.agg [(ii ((lpAt s i).r0)),(ii ((lpAt s i).r1)),(.fsl (((lpAt s i).procs).map Pr.r) (flag c i)),(ii ((lpAt s i).sum))]),(.fsl (((sortL (qbc s.pend i))).map Evt.r) false),(ii hor)]=some (.tup [(.agg [(ii ((wAt c s hor i).lp.r0)),(ii ((wAt c s hor i).lp.r1)),(.fsl (((wAt c s hor i).lp.procs).map Pr.r) (flag c i)),(ii ((wAt c s hor i).lp.sum))]),(.fsl (((wAt c s hor i).box).map Evt.r) false),(.fsl (((wAt c s hor i).done).map Evt.r) false),(.fsl (((wAt c s hor i).sent).map Evt.r) false),(bb ((wAt c s hor i).over))]):=by
 obtain⟨h1,h2⟩:=F.flagAt hi
 unfold wAt
 exact qaij hor (f:=flag c i) (cb:=false) (F.winv hi h1) h2 (by have:=F.len;omega)
def qqb (P:List (Nat×Nat)):List Nat:=P.map Prod.fst
theorem next_L (F:StF c s h (qkq c s)) (P:List (Nat×Nat)) (hP:(qqb P).Perm (List.range c.lps.length)) (cp:Bool) (fl:List Int) (pl:List (List (Nat×Nat))) :
  ∃y,itB (exec (evL T) itL none qg8) (qai [2,3,4,5,8,9,10,11,40,41,42] true 6) ⟨[(2,(ii f)),(3,.fsl (P.map prC) cp),(4,.fptr [(.fsl (((s).trace).map qn) false),(.fsl (((qkq c s)).map lpF) false),(.fsl (((qca (c).lps.length (s).pend)).map qn) false),(bb ((s).over)),(.fsl ((fl).map qa0) false),(.fsl ((pl).map plC) false)]),(5,(.fptr [(.fsl ((c.lps).map lpC) false),(.fsl ((c.progs).map qaz) false),(ii c.look),(ii c.fin),(ii c.cap)])),(8,.ptr 0 0 0 0),(9,(ii hor)),(10,.ptr 1 0 0 0),(11,.sl 5 0 0 c.lps.length true),(40,.fsl (P.map prC) cp),(41,(ii P.length)),(42,(ii ((0:Nat))))],[]⟩ [.row 6 [[.fsl [] false,.fsl [] false,.fsl [] false,.v (.bool false),.fsl [] false,.fsl [] false]] 0,.row 6 [[.sl 2 0 0 c.lps.length false,.sl 3 0 0 c.lps.length false,.sl 4 0 0 c.lps.length false,(bb ((s.over||(([]:List Nat)).any (fun i=>(wAt c s hor i).over)))),(.fsl ((fl).map qa0) false),(.fsl ((pl).map plC) false)]] 0,.row 1 (qv5 c.lps.length ([]:List Nat) (fun i:Nat=>qn (qiu s i++(wAt c s hor i).done)) (fun i:Nat=>qn (qiu s i))) 0,.row 4 (qv5 c.lps.length ([]:List Nat) (fun i=>lpF ((wAt c s hor i).lp,flag c i)) (fun i:Nat=>lpF (lpAt s i,flag c i))) 0,.row 1 (qv5 c.lps.length ([]:List Nat) (fun i=>qn (wAt c s hor i).box) (fun i=>qn (sortL (qbc s.pend i)))) 0,.row 1 (qv5 c.lps.length ([]:List Nat) (fun i=>qn (wAt c s hor i).sent) (fun _=>qn [])) 0]=some y ∧
   (y.1 = .exit 0∧y.2.1.marks=[]∧y.2.2=[.row 6 [[.fsl [] false,.fsl [] false,.fsl [] false,.v (.bool false),.fsl [] false,.fsl [] false]] 0,.row 6 [[.sl 2 0 0 c.lps.length false,.sl 3 0 0 c.lps.length false,.sl 4 0 0 c.lps.length false,(bb ((s.over||((qqb P)).any (fun i=>(wAt c s hor i).over)))),(.fsl ((fl).map qa0) false),(.fsl ((pl).map plC) false)]] 0,.row 1 (qv5 c.lps.length (qqb P) (fun i:Nat=>qn (qiu s i++(wAt c s hor i).done)) (fun i:Nat=>qn (qiu s i))) 0,.row 4 (qv5 c.lps.length (qqb P) (fun i=>lpF ((wAt c s hor i).lp,flag c i)) (fun i:Nat=>lpF (lpAt s i,flag c i))) 0,.row 1 (qv5 c.lps.length (qqb P) (fun i=>qn (wAt c s hor i).box) (fun i=>qn (sortL (qbc s.pend i)))) 0,.row 1 (qv5 c.lps.length (qqb P) (fun i=>qn (wAt c s hor i).sent) (fun _=>qn [])) 0]∧Ev.look y.2.1.vars 2=some (ii f)∧Ev.look y.2.1.vars 3=some (.fsl (P.map prC) cp)∧Ev.look y.2.1.vars 4=some (.fptr [(.fsl (((s).trace).map qn) false),(.fsl (((qkq c s)).map lpF) false),(.fsl (((qca (c).lps.length (s).pend)).map qn) false),(bb ((s).over)),(.fsl ((fl).map qa0) false),(.fsl ((pl).map plC) false)])∧Ev.look y.2.1.vars 8=some (.ptr 0 0 0 0)∧Ev.look y.2.1.vars 10=some (.ptr 1 0 0 0)∧Ev.look y.2.1.vars 11=some (.sl 5 0 0 c.lps.length true)):=by
 have hv8:=F.inv.valid.lps.2
 have hpl:P.length=c.lps.length:=by have:=hP.length_eq;simp[qqb]at this;exact this
 have key:=qg5 (f:=exec (evL T) itL none qg8) (s:=qai [2,3,4,5,8,9,10,11,40,41,42] true 6) (α:=Unit)
  (fun k _=>⟨[(2,(ii f)),(3,.fsl (P.map prC) cp),(4,.fptr [(.fsl (((s).trace).map qn) false),(.fsl (((qkq c s)).map lpF) false),(.fsl (((qca (c).lps.length (s).pend)).map qn) false),(bb ((s).over)),(.fsl ((fl).map qa0) false),(.fsl ((pl).map plC) false)]),(5,(.fptr [(.fsl ((c.lps).map lpC) false),(.fsl ((c.progs).map qaz) false),(ii c.look),(ii c.fin),(ii c.cap)])),(8,.ptr 0 0 0 0),(9,(ii hor)),(10,.ptr 1 0 0 0),(11,.sl 5 0 0 c.lps.length true),(40,.fsl (P.map prC) cp),(41,(ii P.length)),(42,(ii k))],[]⟩) (fun k _=>[.row 6 [[.fsl [] false,.fsl [] false,.fsl [] false,.v (.bool false),.fsl [] false,.fsl [] false]] 0,.row 6 [[.sl 2 0 0 c.lps.length false,.sl 3 0 0 c.lps.length false,.sl 4 0 0 c.lps.length false,(bb ((s.over||((qqb (P.take k))).any (fun i=>(wAt c s hor i).over)))),(.fsl ((fl).map qa0) false),(.fsl ((pl).map plC) false)]] 0,.row 1 (qv5 c.lps.length (qqb (P.take k)) (fun i:Nat=>qn (qiu s i++(wAt c s hor i).done)) (fun i:Nat=>qn (qiu s i))) 0,.row 4 (qv5 c.lps.length (qqb (P.take k)) (fun i=>lpF ((wAt c s hor i).lp,flag c i)) (fun i:Nat=>lpF (lpAt s i,flag c i))) 0,.row 1 (qv5 c.lps.length (qqb (P.take k)) (fun i=>qn (wAt c s hor i).box) (fun i=>qn (sortL (qbc s.pend i)))) 0,.row 1 (qv5 c.lps.length (qqb (P.take k)) (fun i=>qn (wAt c s hor i).sent) (fun _=>qn [])) 0]) (fun _ _=>True) P.length
  (fun y=>y.1 = .exit 0∧y.2.1.marks=[]∧y.2.2=[.row 6 [[.fsl [] false,.fsl [] false,.fsl [] false,.v (.bool false),.fsl [] false,.fsl [] false]] 0,.row 6 [[.sl 2 0 0 c.lps.length false,.sl 3 0 0 c.lps.length false,.sl 4 0 0 c.lps.length false,(bb ((s.over||((qqb P)).any (fun i=>(wAt c s hor i).over)))),(.fsl ((fl).map qa0) false),(.fsl ((pl).map plC) false)]] 0,.row 1 (qv5 c.lps.length (qqb P) (fun i:Nat=>qn (qiu s i++(wAt c s hor i).done)) (fun i:Nat=>qn (qiu s i))) 0,.row 4 (qv5 c.lps.length (qqb P) (fun i=>lpF ((wAt c s hor i).lp,flag c i)) (fun i:Nat=>lpF (lpAt s i,flag c i))) 0,.row 1 (qv5 c.lps.length (qqb P) (fun i=>qn (wAt c s hor i).box) (fun i=>qn (sortL (qbc s.pend i)))) 0,.row 1 (qv5 c.lps.length (qqb P) (fun i=>qn (wAt c s hor i).sent) (fun _=>qn [])) 0]∧Ev.look y.2.1.vars 2=some (ii f)∧Ev.look y.2.1.vars 3=some (.fsl (P.map prC) cp)∧Ev.look y.2.1.vars 4=some (.fptr [(.fsl (((s).trace).map qn) false),(.fsl (((qkq c s)).map lpF) false),(.fsl (((qca (c).lps.length (s).pend)).map qn) false),(bb ((s).over)),(.fsl ((fl).map qa0) false),(.fsl ((pl).map plC) false)])∧Ev.look y.2.1.vars 8=some (.ptr 0 0 0 0)∧Ev.look y.2.1.vars 10=some (.ptr 1 0 0 0)∧Ev.look y.2.1.vars 11=some (.sl 5 0 0 c.lps.length true)) ?_ ?_ 0 () (Nat.zero_le _) trivial
 ·exact key
 ·rintro k _ hk _
  obtain⟨⟨i,wk⟩,hi⟩ : ∃x,P[k]? = some x:=⟨_,zgE hk⟩
  have him:i∈qqb P:=List.mem_map.2 ⟨_,zmg hi,rfl⟩
  have hin:i<c.lps.length:=List.mem_range.1 (hP.mem_iff.1 him)
  have hnd:(qqb P).Nodup:=hP.nodup_iff.2 List.nodup_range
  have hnx:qqb (P.take (k+1))=qqb (P.take k)++[i]:=by unfold qqb;rw[List.take_add_one,hi,List.map_append];rfl
  have hni:i∉qqb (P.take k):=by
   have hs:(qqb (P.take (k+1))).Nodup:=hnd.sublist (by unfold qqb;exact(List.take_sublist _ _).map _)
   rw[hnx,List.nodup_append]at hs
   exact fun hm=>hs.2.2 i hm i (by simp) rfl
  have hpr:=F.proc (hor:=hor) hin
  obtain⟨hs1,hs2⟩:=F.flagAt hin
  have hk':(k:Int)<(P.length:Int):=by omega
  have hw:IntKind.i64.wrap ((k:Int)+1)=((k+1:Nat):Int):=by rw[qi (by omega) (by omega)];simp
  have hgp:(P.map prC)[k]? = some [(ii i),(ii wk)]:=by rw[List.getElem?_map,hi];rfl
  have hgl:((qkq c s).map lpF)[i]? = some (lpF (lpAt s i,flag c i)):=by rw[List.getElem?_map];unfold qkq;rw[List.getElem?_map,List.getElem?_range hin];rfl
  have hgb:((qca c.lps.length s.pend).map qn)[i]? = some (qn (sortL (qbc s.pend i))):=by rw[List.getElem?_map,qako _ _ hin];rfl
  have hgt:((qv5 c.lps.length (qqb (P.take k)) (fun i:Nat=>qn (qiu s i++(wAt c s hor i).done)) (fun i:Nat=>qn (qiu s i))))[i]? = some (qn (qiu s i)):=by rw[qzo _ _ _ _ hin,if_neg hni]
  have hg2:((qv5 c.lps.length (qqb (P.take k)) (fun i=>lpF ((wAt c s hor i).lp,flag c i)) (fun i:Nat=>lpF (lpAt s i,flag c i))))[i]? = some (lpF (lpAt s i,flag c i)):=by rw[qzo _ _ _ _ hin,if_neg hni]
  have hg3:((qv5 c.lps.length (qqb (P.take k)) (fun i=>qn (wAt c s hor i).box) (fun i=>qn (sortL (qbc s.pend i)))))[i]? = some (qn (sortL (qbc s.pend i))):=by rw[qzo _ _ _ _ hin,if_neg hni]
  have hg4:((qv5 c.lps.length (qqb (P.take k)) (fun i=>qn (wAt c s hor i).sent) (fun _=>qn [])))[i]? = some (qn []):=by rw[qzo _ _ _ _ hin,if_neg hni]
  have st1:=q7i c.lps.length (qqb (P.take k)) (fun i:Nat=>qn (qiu s i++(wAt c s hor i).done)) (fun i:Nat=>qn (qiu s i)) hin
  have st2:=q7i c.lps.length (qqb (P.take k)) (fun i=>lpF ((wAt c s hor i).lp,flag c i)) (fun i:Nat=>lpF (lpAt s i,flag c i)) hin
  have st3:=q7i c.lps.length (qqb (P.take k)) (fun i=>qn (wAt c s hor i).box) (fun i=>qn (sortL (qbc s.pend i))) hin
  have st4:=q7i c.lps.length (qqb (P.take k)) (fun i=>qn (wAt c s hor i).sent) (fun _=>qn []) hin
  have lo1:=qzf 6 c.lps.length (qqb (P.take k)++[i]) (fun i:Nat=>qn (qiu s i++(wAt c s hor i).done)) (fun i:Nat=>qn (qiu s i)) (fun _=>qq9 _ _) (fun _=>qq9 _ _)
  have lo2:=qzf 6 c.lps.length (qqb (P.take k)++[i]) (fun i=>lpF ((wAt c s hor i).lp,flag c i)) (fun i:Nat=>lpF (lpAt s i,flag c i)) (fun _=>qagn _ _) (fun _=>qagn _ _)
  have lo3:=qzf 6 c.lps.length (qqb (P.take k)++[i]) (fun i=>qn (wAt c s hor i).box) (fun i=>qn (sortL (qbc s.pend i))) (fun _=>qq9 _ _) (fun _=>qq9 _ _)
  have lo4:=qzf 6 c.lps.length (qqb (P.take k)++[i]) (fun i=>qn (wAt c s hor i).sent) (fun _=>qn []) (fun _=>qq9 _ _) (fun _=>qq9 _ _)
  have l1:=qwh c.lps.length (qqb (P.take k)) (fun i:Nat=>qn (qiu s i++(wAt c s hor i).done)) (fun i:Nat=>qn (qiu s i))
  have l2:=qwh c.lps.length (qqb (P.take k)) (fun i=>lpF ((wAt c s hor i).lp,flag c i)) (fun i:Nat=>lpF (lpAt s i,flag c i))
  have l3:=qwh c.lps.length (qqb (P.take k)) (fun i=>qn (wAt c s hor i).box) (fun i=>qn (sortL (qbc s.pend i)))
  have l4:=qwh c.lps.length (qqb (P.take k)) (fun i=>qn (wAt c s hor i).sent) (fun _=>qn [])
  have htl:(qiu s i).length≤30:=by
   have:qiu s i=qbc h i:=by unfold qiu;rw[Int.toNat_natCast,F.inv.tr i hin];rfl
   rw[this];have:=List.length_filter_le (fun e:Evt=>decide (e.lp=i)) h;have:=F.len;unfold qbc;omega
  have hdl:(wAt c s hor i).done.length≤2000:=by obtain⟨_,es,_,hd,hel⟩:=F.wAt_inv hor hin;rw[hd];exact hel
  obtain⟨g,hcc⟩:=qvu [qiu s i,(wAt c s hor i).done] true (by simp) (by simp;omega) (by simp)
  have hcat:qac (evL T) qg [.fsl [qn (qiu s i),qn (wAt c s hor i).done] true]=some (.fsl (((qiu s i++(wAt c s hor i).done)).map Evt.r) false):=by
   simp only[List.map_cons,List.map_nil,List.flatten_cons,List.flatten_nil,zgn]at hcc
   have tk:List.take (qiu s i++(wAt c s hor i).done).length ((qiu s i++(wAt c s hor i).done).map Evt.r)=(qiu s i++(wAt c s hor i).done).map Evt.r:=ztl (by rw[List.length_map];exact Nat.le_refl _)
   have hl:(qiu s i++(wAt c s hor i).done).length≤((qiu s i++(wAt c s hor i).done).map Evt.r).length:=by rw[List.length_map];exact Nat.le_refl _
   rw[qac,hcc]
   generalize qiu s i++(wAt c s hor i).done=Q at *
   have lq:=qq 0 Q
   simp only[tk,lq,zfd,Ev.ev1,zgy,↓qc,↓reduceIte]
  refine .inl ⟨(),?_,trivial⟩
  rw[hnx,List.any_append,←Bool.or_assoc,List.any_cons,List.any_nil,Bool.or_false]
  rw[←st1]at lo1⊢
  rw[←st2]at lo2⊢
  rw[←st3]at lo3⊢
  rw[←st4]at lo4⊢
  have lob : ∀n,qc5 n ((sortL (qbc s.pend i)).map Evt.r)=true:=fun n=>qq _ _
  have loT:=qcb 6 s.trace
  have loB:=qcb 6 (qca c.lps.length s.pend)
  have loL:=qgu 6 (qkq c s)
  have loP:=qht 6 P
  have loF:=qm 6 fl
  have loQ:=qvp 6 pl
  clear st1 st2 st3 st4 hcc hdl htl hs1 hs2 hni hnd him hi hnx
  generalize (s.over||(qqb (P.take k)).any (fun i=>(wAt c s hor i).over))=OV at *
  generalize (qv5 c.lps.length (qqb (P.take k)) (fun i:Nat=>qn (qiu s i++(wAt c s hor i).done)) (fun i:Nat=>qn (qiu s i)))=X1 at *
  generalize (qv5 c.lps.length (qqb (P.take k)) (fun i=>lpF ((wAt c s hor i).lp,flag c i)) (fun i:Nat=>lpF (lpAt s i,flag c i)))=X2 at *
  generalize (qv5 c.lps.length (qqb (P.take k)) (fun i=>qn (wAt c s hor i).box) (fun i=>qn (sortL (qbc s.pend i))))=X3 at *
  generalize (qv5 c.lps.length (qqb (P.take k)) (fun i=>qn (wAt c s hor i).sent) (fun _=>qn []))=X4 at *
  generalize s.trace.map qn=TM at *
  generalize (qca c.lps.length s.pend).map qn=BM at *
  generalize (qkq c s).map lpF=LM at *
  generalize fl.map qa0=FM at *
  generalize pl.map plC=QM at *
  generalize sortL (qbc s.pend i)=bi at *
  generalize wAt c s hor i=w at *
  generalize hlp:lpAt s i=lpi at *
  generalize hfg:flag c i=fg at *
  simp only[lpF]at hgl hg2 lo2⊢
  simp only[qn]at hgb hgt hg3 hg4 hcat lo1 lo3 lo4⊢
  obtain⟨wlp,wb,wd,ws,wo⟩:=w
  simp only at hpr hcat lo1 lo2 lo3 lo4⊢
  have r2 : ∀x:List AV,List.replicate 2 x=[x,x]:=fun _=>rfl
  have lot : ∀n,qc5 n ((qiu s i).map Evt.r)=true:=fun n=>qq _ _
  have loQ2 : ∀n,qc5 n ((qiu s i++wd).map Evt.r)=true:=fun n=>qq _ _
  generalize qiu s i++wd=Q at *
  cases OV <;>
  simp only[qg8,r2,lot,hk',hw,hgp,hgl,hgb,hgt,hg2,hg3,hg4,hpr,hcat,lo1,lo2,lo3,lo4,hin,lob,loT,loB,loL,loP,loF,loQ,qyh,qaf4,zgs,zgr,qq,qa2,qu,qa3,Ev.ev1,Ev.stP,qb,Ev.AV.cells,Ev.AV.uc,Ev.AV.plain,Ev.SObj.lo,Ev.AV.obj?,ne_eq,zgy,↓qc,↓reduceIte,Nat.reduceAdd,Nat.reduceEqDiff,Nat.reduceBEq,Nat.reduceMul,Nat.reduceLT,Nat.reduceLeDiff,Nat.reducePow,Int.reduceLE,Int.reduceToNat]
 ·rintro _ _
  rw[List.take_length]
  have lo1:=qzf 6 c.lps.length (qqb P) (fun i:Nat=>qn (qiu s i++(wAt c s hor i).done)) (fun i:Nat=>qn (qiu s i)) (fun _=>qq9 _ _) (fun _=>qq9 _ _)
  simp only[qg8,Int.lt_irrefl,Ev.ev1,zgy,↓qc,↓reduceIte,Nat.reduceEqDiff]
  exact⟨_,rfl,rfl,rfl,rfl,rfl,rfl,rfl,rfl,rfl,rfl⟩
end
set_option maxRecDepth 10000
def q0j (c:Cfg) (f:Int):Int:=f+q1w c.look (c.fin-f)
section
variable {c:Cfg} {s:Sim} {h:List Evt} {f:Int}
theorem qaiw (n:Nat) (l:List Evt):(qca n l).map qn=(List.range n).map fun i:Nat=>qn (sortL (qbc l i)):=by unfold qca;rw[List.map_map];rfl
theorem qaha (hor:Int) {i:Nat} (hi:i<c.lps.length):lpAt (qkh c s hor) i=(wAt c s hor i).lp:=by
 unfold lpAt qkh;simp only[zgr];rw[List.getElem?_map,List.getElem?_range hi];rfl
theorem qalq (hor:Int):(qkq c (qkh c s hor)).map lpF=(List.range c.lps.length).map fun i:Nat=>lpF ((wAt c s hor i).lp,flag c i):=by
 unfold qkq;rw[List.map_map]
 refine List.map_congr_left fun i hi => ?_
 simp only[Function.comp,qaha hor (List.mem_range.1 hi)]
theorem qahq (hor:Int):(qkh c s hor).trace.map qn=(List.range c.lps.length).map fun i:Nat=>qn (qiu s i++(wAt c s hor i).done):=by
 unfold qkh;simp only;rw[List.map_map];rfl
theorem next_over (hor:Int) (P:List (Nat×Nat)) (hP:(qqb P).Perm (List.range c.lps.length)):(qkh c s hor).over=(s.over||(qqb P).any (fun i=>(wAt c s hor i).over)):=by
 unfold qkh;simp only
 rw[Bool.eq_iff_iff]
 simp only[Bool.or_eq_true,List.any_eq_true]
 refine or_congr Iff.rfl ⟨fun⟨x,h1,h2⟩=>⟨x,hP.mem_iff.2 h1,h2⟩,fun⟨x,h1,h2⟩=>⟨x,hP.mem_iff.1 h1,h2⟩⟩
theorem qaju (l:List Int) (cl:Bool):qac (evL T) qed [(.fsl ((l).map qa0) cl)]=some (.fsl ((l).map qa0) true):=by
 have hl:(l.map qa0).length=l.length:=List.length_map ..
 have tk:List.take l.length (l.map qa0)=l.map qa0:=ztl (by omega)
 have z1 : ∀n:Nat,(0:Int)≤(n:Int):=fun n=>by omega
 have ok:=qafz l
 rw[qac,qe qvv qum]
 simp only[qi9,hl,tk,z1,ok,Int.le_refl,zgr,Int.toNat_zero,Nat.sub_zero,imp_self,qm,Ev.ev1,qh,zgy,↓qc,↓reduceIte,Nat.reduceEqDiff,reduceCtorEq]
theorem clip_pls (l:List (List (Nat×Nat))) (cl:Bool):qac (evL T) qbx [(.fsl ((l).map plC) cl)]=some (.fsl ((l).map plC) true):=by
 have hl:(l.map plC).length=l.length:=List.length_map ..
 have tk:List.take l.length (l.map plC)=l.map plC:=ztl (by omega)
 have z1 : ∀n:Nat,(0:Int)≤(n:Int):=fun n=>by omega
 have ok:=pls_ok l
 rw[qac,qe qo5 qop]
 simp only[qe8,hl,tk,z1,ok,Int.le_refl,zgr,Int.toNat_zero,Nat.sub_zero,imp_self,qvp,Ev.ev1,qh,zgy,↓qc,↓reduceIte,Nat.reduceEqDiff,reduceCtorEq]
theorem qadi (l:List (Lp×Bool)) (cl:Bool) (hl:l.length≤1000):(evL T).call qd5 [(.fsl ((l).map lpF) cl)] []=some (.sl 0 0 0 l.length false,[.row 4 (l.map lpF) 0]):=by
 have h':l.length*48≤140737488355328:=by omega
 rw[q35 qpj]
 simp only[qts,qgu,lpFs_ok,h',Ev.ev1,zgy,↓reduceIte,Nat.reduceLT,Nat.reducePow]
theorem q3d (bs:List (List Evt)) (cl:Bool) (hl:bs.length≤1000):(evL T).call qag [(.fsl ((bs).map qn) cl)] []=some (.sl 0 0 0 bs.length false,[.row 1 (bs.map qn) 0]):=by
 have h':bs.length*24≤140737488355328:=by omega
 rw[q35 qgh]
 simp only[qts,qcb,qalj,h',Ev.ev1,zgy,↓reduceIte,Nat.reducePow]
theorem StF.deliver (F:StF c s h (qkq c s)) (hor:Int) (c1 c2:Bool):qac (evL T) qfr [(.fsl (((qen c s hor c.lps.length)).map qn) c1),(.fsl (((qhe c s hor c.lps.length)).map qn) c2)]=some (.fsl (((qca c.lps.length (qkh c s hor).pend)).map qn) false):=by
 have W:=F.winF hor
 have hv8:=F.inv.valid.lps.2
 have hwf:=W.len
 have:=qaa8 (qen c s hor c.lps.length) (qhe c s hor c.lps.length) c1 c2 (by simp[qen];omega) (by simp[qhe];omega) (by omega) W.kok (F.lefts_sorted hor) (W.dist _ (.refl _)) (fun e he=>by
   have:=W.rng e (List.mem_append_right _ he)
   simpa[qen]using this)
 rw[qadd hor (F.lefts_own hor) W.keys.dist]at this
 exact this
theorem next_ev (F:StF c s h (qkq c s)) (hl8:c.look≤8) (hf:0≤f∧f≤1152921504606846976) (P:List (Nat×Nat)) (hP:(qqb P).Perm (List.range c.lps.length)) (cp:Bool) (fl:List Int) (pl:List (List (Nat×Nat))) (h1:fl.length≤1000) (h2:pl.length≤1000) :
  qac (evL T) qfz [.agg [(.fsl (((s).trace).map qn) false),(.fsl (((qkq c s)).map lpF) false),(.fsl (((qca (c).lps.length (s).pend)).map qn) false),(bb ((s).over)),(.fsl ((fl).map qa0) false),(.fsl ((pl).map plC) false)],(.agg [(.fsl ((c.lps).map lpC) false),(.fsl ((c.progs).map qaz) false),(ii c.look),(ii c.fin),(ii c.cap)]),(ii f),.fsl (P.map prC) cp]=some (.agg [(.fsl ((((qkh c s (q0j c f))).trace).map qn) false),(.fsl (((qkq c (qkh c s (q0j c f)))).map lpF) false),(.fsl (((qca (c).lps.length ((qkh c s (q0j c f))).pend)).map qn) false),(bb (((qkh c s (q0j c f))).over)),(.fsl (((fl++[f])).map qa0) false),(.fsl (((pl++[P])).map plC) false)]):=by
 have hv:=F.inv.valid
 have hv8:=hv.lps.2
 have hlk:=hv.look
 have hv1:=hv.lps.1
 have hfin:=hv.fin
 have hHz:qac (evL T) qgz [(.agg [(.fsl ((c.lps).map lpC) false),(.fsl ((c.progs).map qaz) false),(ii c.look),(ii c.fin),(ii c.cap)]),(ii f)]=some (ii ((q0j c f))):=by unfold q0j;exact qahz c f hf (by omega) hfin
 generalize hhor:q0j c f=hor at *
 have hpl:P.length=c.lps.length:=by have:=hP.length_eq;simp[qqb]at this;exact this
 obtain⟨⟨y,e,σ⟩,k1,k2,k3,k4,k5,k6,k7,k8,k9,k10⟩:=next_L (f:=f) (hor:=hor) F P hP cp fl pl
 simp only at k1 k2 k3 k4 k5 k6 k7 k8 k9 k10
 subst k2;subst k4
 have e1:=F.trace_eq
 have tl:s.trace.length=c.lps.length:=F.inv.trl
 have ll:(qkq c s).length=c.lps.length:=F.lL
 have bl:(qca c.lps.length s.pend).length=c.lps.length:=by simp[qca]
 have hc1:=q3d s.trace false (by omega)
 have hc2:=qadi (qkq c s) false (by omega)
 have hc3:=q3d (qca c.lps.length s.pend) false (by omega)
 rw[tl]at hc1
 rw[ll]at hc2
 rw[bl]at hc3
 have hD:=F.deliver hor false false
 have hC1:=qaju fl false
 have hC2:=clip_pls pl false
 have hall : ∀i,i<c.lps.length→i∈qqb P:=fun i hi=>hP.mem_iff.2 (List.mem_range.2 hi)
 -- the store at the loop's head,and behind it
 have m1:qv5 c.lps.length ([]:List Nat) (fun i:Nat=>qn (qiu s i++(wAt c s hor i).done)) (fun i:Nat=>qn (qiu s i))=s.trace.map qn:=by rw[q7l,e1,List.map_map];rfl
 have m2:qv5 c.lps.length ([]:List Nat) (fun i:Nat=>lpF ((wAt c s hor i).lp,flag c i)) (fun i:Nat=>lpF (lpAt s i,flag c i))=(qkq c s).map lpF:=by rw[q7l];unfold qkq;rw[List.map_map];rfl
 have m3:qv5 c.lps.length ([]:List Nat) (fun i:Nat=>qn (wAt c s hor i).box) (fun i:Nat=>qn (sortL (qbc s.pend i)))=(qca c.lps.length s.pend).map qn:=by rw[q7l,qaiw]
 have m4:qv5 c.lps.length ([]:List Nat) (fun i:Nat=>qn (wAt c s hor i).sent) (fun _=>qn [])=List.replicate c.lps.length [.fsl [] false]:=by
  rw[q7l];refine List.ext_getElem (by simp) (fun i h1 h2 => ?_)
  simp[qn]
 rw[m1,m2,m3,m4]at k1
 rw[q7o _ _ _ _ hall,q7o _ _ _ _ hall,q7o _ _ _ _ hall,q7o _ _ _ _ hall,←next_over hor P hP,←qahq,←qalq]at k1
 have m5:((List.range c.lps.length).map fun i:Nat=>qn (wAt c s hor i).box)=(qen c s hor c.lps.length).map qn:=by unfold qen;rw[List.map_map];rfl
 have m6:((List.range c.lps.length).map fun i:Nat=>qn (wAt c s hor i).sent)=(qhe c s hor c.lps.length).map qn:=by unfold qhe;rw[List.map_map];rfl
 rw[m5,m6]at k1
 simp only[List.any_nil,Bool.or_false,Int.ofNat_zero]at k1
 have lo1:=qcb 6 s.trace
 have lo1':=qcb 0 s.trace
 have lo2:=qgu 6 (qkq c s)
 have lo2':=qgu 0 (qkq c s)
 have lo3:=qcb 6 (qca c.lps.length s.pend)
 have lo3':=qcb 0 (qca c.lps.length s.pend)
 have lr:qc5 6 (List.replicate c.lps.length [.fsl [] false])=true:=qip _ _ _ rfl
 have lo4 : ∀n,qc5 n ((qen c s hor c.lps.length).map qn)=true:=fun n=>qcb _ _
 have lo5 : ∀n,qc5 n ((qhe c s hor c.lps.length).map qn)=true:=fun n=>qcb _ _
 have lo6 : ∀n,qc5 n ((qkh c s hor).trace.map qn)=true:=fun n=>qcb _ _
 have lo7 : ∀n,qc5 n ((qkq c (qkh c s hor)).map lpF)=true:=fun n=>qgu _ _
 have q1:((qen c s hor c.lps.length).map qn).length=c.lps.length:=by simp[qen]
 have q2:((qhe c s hor c.lps.length).map qn).length=c.lps.length:=by simp[qhe]
 have q3:((qkh c s hor).trace.map qn).length=c.lps.length:=by simp[qkh]
 have q4:((qkq c (qkh c s hor)).map lpF).length=c.lps.length:=by simp[qkq]
 have t1:List.take c.lps.length ((qen c s hor c.lps.length).map qn)=(qen c s hor c.lps.length).map qn:=ztl (by omega)
 have t2:List.take c.lps.length ((qhe c s hor c.lps.length).map qn)=(qhe c s hor c.lps.length).map qn:=ztl (by omega)
 have t3:List.take c.lps.length ((qkh c s hor).trace.map qn)=(qkh c s hor).trace.map qn:=ztl (by omega)
 have t4:List.take c.lps.length ((qkq c (qkh c s hor)).map lpF)=(qkq c (qkh c s hor)).map lpF:=ztl (by omega)
 have hfa:(fl++[f]).map qa0=fl.map qa0++[[(ii f)]]:=by rw[List.map_append];rfl
 have hpa:(pl++[P]).map plC=pl.map plC++[[.fsl (P.map prC) false]]:=by rw[List.map_append];rfl
 have ok1:qcy 1 (fl.map qa0++[[(ii f)]])=true:=by rw[←hfa];exact qafz _
 have ok2:qcy 1 (pl.map plC++[[.fsl (P.map prC) false]])=true:=by rw[←hpa];exact pls_ok _
 have la1 : ∀n,qc5 n (fl.map qa0++[[(ii f)]])=true:=fun n=>by rw[←hfa];exact qm _ _
 have la2 : ∀n,qc5 n (pl.map plC++[[.fsl (P.map prC) false]])=true:=fun n=>by rw[←hpa];exact qvp _ _
 have b1:(fl.length+1)*8≤140737488355328:=by omega
 have b2:(pl.length+1)*24≤140737488355328:=by omega
 have b3:24*(c.lps.length:Int)≤140737488355328:=by omega
 have b4:(c.lps.length:Int)≤4611686018427387904:=by omega
 have hpm:(P.map prC).length=P.length:=List.length_map ..
 have lp : ∀n,qc5 n (P.map prC)=true:=fun n=>qht n P
 have sh1:=qkn 2 _ lo1'
 have sh2:=qkn 3 _ lo2'
 have sh3:=qkn 4 _ lo3'
 have sz1:(fl.map qa0).length=fl.length:=List.length_map ..
 have sz2:(pl.map plC).length=pl.length:=List.length_map ..
 have sz3:((qkq c s).map lpF).length=c.lps.length:=by rw[List.length_map];exact ll
 have li : ∀n,qc5 n (fl.map qa0)=true:=fun n=>qm n fl
 have lq : ∀n,qc5 n (pl.map plC)=true:=fun n=>qvp n pl
 have hle : ∀m:Nat,m≤m:=fun m=>Nat.le_refl m
 rw[hfa,hpa]
 rw[qac,qe qyv qxr]
 have lo8 : ∀n,qc5 n ((qca c.lps.length (qkh c s hor).pend).map qn)=true:=fun n=>qcb _ _
 clear m1 m2 m3 m4 m5 m6 e1 hfa hpa F hP hall
 generalize (qkh c s hor).trace.map qn=NT at *
 generalize (qkq c (qkh c s hor)).map lpF=NL at *
 generalize (qca c.lps.length (qkh c s hor).pend).map qn=NB at *
 generalize (qkh c s hor).over=NO at *
 generalize (qen c s hor c.lps.length).map qn=LE at *
 generalize (qhe c s hor c.lps.length).map qn=SE at *
 generalize s.trace.map qn=TM at *
 generalize (qca c.lps.length s.pend).map qn=BM at *
 generalize (qkq c s).map lpF=LM at *
 generalize fl.map qa0=FM at *
 generalize pl.map plC=QM at *
 generalize s.over=OV at *
 have lR : ∀n,los n [(.fsl [] false:AV)]=true:=fun _=>rfl
 simp only[qlg,hHz,hc1,hc2,hc3,hD,hC1,hC2,k1,k3,k5,k6,k7,k8,k9,k10,lo1,lo1',lo2,lo2',lo3,lo3',lr,lo4,lo5,lo6,lo7,lo8,q1,q2,q3,q4,t1,t2,t3,t4,ok1,ok2,la1,la2,b1,b2,b3,b4,hpm,lp,sh1,sh2,sh3,sz1,sz2,sz3,li,lq,hle,q1x,AV.shift,zgs,zgr,Int.le_refl,zfd,qa2,qu,Ev.ev1,Ev.stP,qae6,q1x,q9d,qb,qdj,Ev.AV.cells,Ev.AV.uc,Ev.AV.plain,qh,Ev.SObj.lo,ne_eq,zgy,↓qc,↓qv,↓reduceIte,Nat.reduceAdd,Nat.reduceEqDiff,Nat.reduceMul,Nat.reduceLT,Nat.reduceLeDiff,Nat.reducePow,Int.reducePow,reduceCtorEq]
end
set_option maxRecDepth 10000
def flS (c:Cfg) (s:Sim):Option Int:=qx7 (qca c.lps.length s.pend)
def qaew (c:Cfg) (s:Sim):Sim:=match flS c s with|some f=>qkh c s (q0j c f)|none=>s
def qcd (c:Cfg):Nat→Sim
 | 0=>start c
 |k+1=>qaew c (qcd c k)
def endZ (s:Sim):Int:=if s.over=true then 11 else 0
def q0h (c:Cfg) (cap:Int) (lim:Nat) (s:Sim):Option Int:=
 if cap<(s.pend.length:Int)then some 10 else match flS c s with
  |none=>some (endZ s)
  |some f=>if c.fin≤f then some (endZ s)else if lim≤s.trace.flatten.length then some 10 else none
structure Stop (c:Cfg) (cap:Int) (lim k:Nat) (e:Int):Prop where
 stop:q0h c cap lim (qcd c k)=some e
 first : ∀j,j<k→q0h c cap lim (qcd c j)=none
def qcc (c:Cfg) (k:Nat):List Int:=(List.range k).map fun j=>(flS c (qcd c j)).getD 0
theorem qaah {c:Cfg} {cap:Int} {lim:Nat} {s:Sim} (h:q0h c cap lim s=none):(s.pend.length:Int)≤cap ∧ ∃f,flS c s=some f∧f<c.fin∧s.trace.flatten.length<lim:=by
 unfold q0h at h
 split at h
 ·cases h
 split at h
 ·cases h
 split at h
 ·cases h
 split at h
 ·cases h
 next f hf _ _=>exact⟨by omega,f,hf,by omega,by omega⟩
theorem qajr (c:Cfg) (hor:Int) : ∀(k:Nat) (w:WSt),w.lp.procs=[]→(WSt.run c hor k w).lp.procs=[]
 | 0,w,h=>h
 |k+1,w,h=>by
  unfold WSt.run
  split
  ·exact h
  ·split
   ·exact qajr c hor k _ (q9l h)
   ·exact h
section
variable {c:Cfg}
theorem qakg {s:Sim} (hl:s.lps.length=c.lps.length) (hf : ∀i,i<c.lps.length→flag c i=true→(lpAt s i).procs=[]):LOk (qkq c s) s:=by
 refine⟨?_,fun x hx hx2 => ?_⟩
 ·refine List.ext_getElem? fun i => ?_
  unfold qkq
  rw[List.getElem?_map,List.getElem?_map]
  by_cases hi:i<c.lps.length
  ·rw[List.getElem?_range hi,zgE (by rw[hl];exact hi)]
   simp only[zgt,lpAt,zgr,zgE (show i<s.lps.length by rw[hl];exact hi),Option.getD_some]
  ·rw[List.getElem?_eq_none (by simp;omega),List.getElem?_eq_none (by omega)];rfl
 ·simp only[qkq,List.mem_map,List.mem_range]at hx
  obtain⟨i,hi,rfl⟩:=hx
  exact hf i hi hx2
theorem qaa4 (i:Nat) (hi:i<c.lps.length) (h:flag c i=true):(lpAt (start c) i).procs=[]:=by
 unfold flag at h
 unfold lpAt start
 simp only[zgr,zgq]
 have hl:i<(qib c.lps).length:=by simp[qib,qadb];exact hi
 rw[zgE hl]at h⊢
 simp only[zgt,Option.getD_some]at h⊢
 simp only[qib,List.getElem_map]at h⊢
 simpa[stLp]using h
theorem qaie:qkq c (start c)=qib c.lps:=by
 refine List.ext_getElem? fun i => ?_
 unfold qkq
 rw[List.getElem?_map]
 by_cases hi:i<c.lps.length
 ·have hl:i<(qib c.lps).length:=by simp[qib,qadb];exact hi
  rw[List.getElem?_range hi]
  simp only[zgt,lpAt,flag,start,zgr,zgq,zgE hl,Option.getD_some]
 ·rw[List.getElem?_eq_none (by simp;omega),List.getElem?_eq_none (by simp[qib,qadb];omega)];rfl
structure ParI (c:Cfg) (lim k:Nat) (h:List Evt):Prop where
 inv:SInvK c (qcd c k) h
 lok:LOk (qkq c (qcd c k)) (qcd c k)
 ge:k≤h.length
 len:h.length≤8000+lim
 flag : ∀i,i<c.lps.length→flag c i=true→(lpAt (qcd c k) i).procs=[]
theorem ParI.stF {lim k:Nat} {h:List Evt} (I:ParI c lim k h) (hl:h.length≤30):StF c (qcd c k) h (qkq c (qcd c k)):=⟨I.inv,hl,I.lok⟩
theorem qae2 (hv:Valid c) (n4:c.lps.length≤4) {cap:Int} {lim:Nat} (hlim:lim≤30) : ∀k,(∀j,j<k→q0h c cap lim (qcd c j)=none) → ∃h,ParI c lim k h
 | 0,_=>⟨[],(SInv.start hv).toSInvK,qakg (SInv.start hv).lpl (qaa4),Nat.le_refl _,Nat.zero_le _,qaa4⟩
 |k+1,hs=>by
  obtain⟨h,I⟩:=qae2 hv n4 hlim k (fun j hj=>hs j (by omega))
  obtain⟨_,f,hf,hff,hcl⟩:=qaah (hs k (by omega))
  rw[I.inv.count]at hcl
  have F:=I.stF (by omega)
  obtain⟨h',N⟩:=F.next (q0j c f)
  have hh:f<q0j c f:=by
   have:=hv.look
   unfold q0j q1w;split<;>omega
  have hpos:=F.some_done (q0j c f) hf hh
  have hw:qcd c (k+1)=qkh c (qcd c k) (q0j c f):=by show qaew c (qcd c k) = _;unfold qaew;rw[hf]
  have hfl : ∀i,i<c.lps.length→flag c i=true→(lpAt (qcd c (k+1)) i).procs=[]:=fun i hi hfi=>by
   rw[hw,qaha _ hi]
   unfold wAt
   exact qajr c _ 2000 _ (I.flag i hi hfi)
  refine⟨h',by rw[hw];exact N.inv,?_,by rw[N.len];have:=I.ge;omega,by rw[N.len];have:=N.bnd;omega,hfl⟩
  exact qakg (by rw[hw];exact N.inv.lpl) hfl
theorem q1a (hv:Valid c) (n4:c.lps.length≤4) (cap:Int) {lim:Nat} (hlim:lim≤30) : ∃k e,Stop c cap lim k e:=by
 have : ∃k,q0h c cap lim (qcd c k)≠none:=by
  refine Classical.byContradiction fun hn => ?_
  have hall : ∀k,q0h c cap lim (qcd c k)=none:=fun k=>Classical.byContradiction fun h=>hn ⟨k,h⟩
  obtain⟨h,I⟩:=qae2 hv n4 hlim 40 (fun j _=>hall j)
  obtain⟨_,f,_,_,hcl⟩:=qaah (hall 40)
  rw[I.inv.count]at hcl
  have:=I.ge
  omega
 obtain⟨k,hk⟩:=this
 obtain⟨m,_,h1,h2⟩:=least (P:=fun k=>q0h c cap lim (qcd c k)≠none) k hk
 obtain⟨e,he⟩:=Option.ne_none_iff_exists'.1 h1
 exact⟨m,e,he,fun j hj=>Classical.byContradiction fun h=>h2 j hj h⟩
theorem Stop.le40 (hv:Valid c) (n4:c.lps.length≤4) {cap:Int} {lim k:Nat} {e:Int} (hlim:lim≤30) (h:Stop c cap lim k e):k≤31:=by
 by_cases hk:k=0
 ·omega
 obtain⟨h0,I⟩:=qae2 hv n4 hlim (k-1) (fun j hj=>h.first j (by omega))
 obtain⟨_,f,_,_,hcl⟩:=qaah (h.first (k-1) (by omega))
 rw[I.inv.count]at hcl
 have:=I.ge
 omega
theorem qakv (c:Cfg) (m:Int) (hor:Int) : ∀(k:Nat) (w:WSt),WSt.run { c with cap:=m } hor k w=WSt.run c hor k w
 | 0,w=>rfl
 |k+1,w=>by
  unfold WSt.run
  have hs : ∀e r,w.step { c with cap:=m } e r=w.step c e r:=fun e r=>rfl
  split
  ·rfl
  ·split
   ·rw[hs];exact qakv c m hor k _
   ·rfl
theorem qal8 (c:Cfg) (m:Int) (s:Sim) (hor:Int) (i:Nat):wAt { c with cap:=m } s hor i=wAt c s hor i:=qakv c m hor 2000 _
theorem qajt (c:Cfg) (m:Int) (s:Sim) (hor:Int):qkh { c with cap:=m } s hor=qkh c s hor:=by
 have h:(fun i=>wAt { c with cap:=m } s hor i)=fun i=>wAt c s hor i:=funext fun i=>qal8 c m s hor i
 unfold qkh qen qhe q5a
 simp only[qal8]
theorem winS_cap (c:Cfg) (m:Int) (s:Sim):qaew { c with cap:=m } s=qaew c s:=by
 have h1:flS { c with cap:=m } s=flS c s:=rfl
 have h2 : ∀f,q0j { c with cap:=m } f=q0j c f:=fun _=>rfl
 unfold qaew
 rw[h1]
 cases flS c s with
 |none=>rfl
 |some f=>simp only[h2,qajt]
theorem q7j (c:Cfg) (m:Int) : ∀k,qcd { c with cap:=m } k=qcd c k
 | 0=>rfl
 |k+1=>by show qaew _ (qcd _ k)=qaew c (qcd c k);rw[q7j c m k,winS_cap]
theorem Stop.cap {m cap:Int} {lim k:Nat} {e:Int} (h:Stop { c with cap:=m } cap lim k e):Stop c cap lim k e:=
 ⟨by have:=h.stop;rw[q7j]at this;exact this,fun j hj=>by have:=h.first j hj;rw[q7j]at this;exact this⟩
theorem qabk (hv:Valid c) (n4:c.lps.length≤4) {cap:Int} {lim k:Nat} (hlim:lim≤30) : ∀d,(∀j,j<k+d→q0h c cap lim (qcd c j)=none) → ∀i,i<c.lps.length → ∃t,qiu (qcd c (k+d)) i=qiu (qcd c k) i++t
 | 0,_,i,_=>⟨[],(List.append_nil _).symm⟩
 |d+1,hs,i,hi=>by
  obtain⟨t,ht⟩:=qabk hv n4 (cap:=cap) (k:=k) hlim d (fun j hj=>hs j (by omega)) i hi
  obtain⟨_,f,hf,_,_⟩:=qaah (hs (k+d) (by omega))
  have hw:qcd c (k+d+1)=qkh c (qcd c (k+d)) (q0j c f):=by show qaew c (qcd c (k+d)) = _;unfold qaew;rw[hf]
  refine⟨t++(wAt c (qcd c (k+d)) (q0j c f) i).done,?_⟩
  rw[show k+(d+1)=k+d+1 by omega,hw,←List.append_assoc,←ht]
  unfold qiu qkh
  simp only[zgr]
  rw[List.getElem?_map,List.getElem?_range hi]
  rfl
end
set_option maxRecDepth 10000
theorem qz1 {α:Type} {l:List α} (h:1≤l.length):l ≠ []:=fun e=>by rw[e]at h;simp at h
theorem qab1 (n:Nat) (l:List Evt):(qca n l).length=n:=by simp[qca]
theorem q7r (xs:List (List Evt)) (cl:Bool) (h1:xs ≠ []) (hx:xs.length≤1000000) (hT:xs.flatten.length≤1000000):qac (evL T) qir [(.fsl ((xs).map qn) cl)]=some (ii xs.flatten.length):=by
 obtain⟨g,h⟩:=qvu xs cl hx hT h1
 rw[qac,qe q65 q5j]
 simp only[qpp,h,qkn,qq,qcb,Ev.ev1,q1x,qh,zgy,↓qc,↓reduceIte,reduceCtorEq]
structure RunIn (c:Cfg) (W:Nat) (picks:List Nat) (lim n:Nat):Prop where
 h12:Small12 c
 v:Valid c
 n4:c.lps.length≤4
 l8:c.look≤8
 w:1≤W∧W≤64
 p : ∀x∈picks,x<W
 pl:picks.length≤1000
 lim:lim≤30
 fin:Fin c.lps.length W picks n
def qk3 (c:Cfg) (W:Nat) (picks:List Nat) (n:Nat):List (Nat×Nat):=(qmg c.lps.length W picks n).pairs
theorem qadn (c:Cfg) (k:Nat) {f:Int} (hf:flS c (qcd c k)=some f):qcc c (k+1)=qcc c k++[f]:=by
 unfold qcc;rw[List.range_succ,List.map_append];simp[hf]
section
variable {c:Cfg} {W:Nat} {picks:List Nat} {lim n:Nat} (cp:Bool)
theorem run_L2 (I:RunIn c W picks lim n) {K:Nat} {er:Int} (hS:Stop c c.cap lim K er) :
  ∃y,itB (exec (evL T) itL none qfm) (qai [1,2,3,4,8,10,11] true 2) ⟨[(1,(ii W)),(2,(.fsl (((qqc picks)).map qa0) cp)),(3,(ii lim)),(4,(.fptr [(.fsl ((c.lps).map lpC) false),(.fsl ((c.progs).map qaz) false),(ii c.look),(ii c.fin),(ii c.cap)])),(8,.ptr 0 0 0 0),(10,.ptr 1 0 0 0),(11,(ii 0))],[]⟩ [.row 6 [[.fsl [] false,.fsl [] false,.fsl [] false,.v (.bool false),.fsl [] false,.fsl [] false]] 0,.row 6 [[(.fsl ((((qcd c 0)).trace).map qn) false),(.fsl (((qkq c (qcd c 0))).map lpF) false),(.fsl (((qca (c).lps.length ((qcd c 0)).pend)).map qn) false),(bb (((qcd c 0)).over)),(.fsl (((qcc c 0)).map qa0) false),(.fsl (((List.replicate 0 (qk3 c W picks n))).map plC) false)]] 0]=some y ∧
   (y.1 = .exit 0∧y.2.1.marks=[]∧y.2.2=[.row 6 [[.fsl [] false,.fsl [] false,.fsl [] false,.v (.bool false),.fsl [] false,.fsl [] false]] 0,.row 6 [[(.fsl ((((qcd c K)).trace).map qn) false),(.fsl (((qkq c (qcd c K))).map lpF) false),(.fsl (((qca (c).lps.length ((qcd c K)).pend)).map qn) false),(bb (((qcd c K)).over)),(.fsl (((qcc c K)).map qa0) false),(.fsl (((List.replicate K (qk3 c W picks n))).map plC) false)]] 0]∧Ev.look y.2.1.vars 8=some (.ptr 0 0 0 0)∧Ev.look y.2.1.vars 10=some (.ptr 1 0 0 0)∧Ev.look y.2.1.vars 11=some (ii er)):=by
 have hv8:=I.v.lps
 have hK:=hS.le40 I.v I.n4 I.lim
 have key:=qg5 (f:=exec (evL T) itL none qfm) (s:=qai [1,2,3,4,8,10,11] true 2) (α:=Unit)
  (fun k _=>⟨[(1,(ii W)),(2,(.fsl (((qqc picks)).map qa0) cp)),(3,(ii lim)),(4,(.fptr [(.fsl ((c.lps).map lpC) false),(.fsl ((c.progs).map qaz) false),(ii c.look),(ii c.fin),(ii c.cap)])),(8,.ptr 0 0 0 0),(10,.ptr 1 0 0 0),(11,(ii 0))],[]⟩) (fun k _=>[.row 6 [[.fsl [] false,.fsl [] false,.fsl [] false,.v (.bool false),.fsl [] false,.fsl [] false]] 0,.row 6 [[(.fsl ((((qcd c k)).trace).map qn) false),(.fsl (((qkq c (qcd c k))).map lpF) false),(.fsl (((qca (c).lps.length ((qcd c k)).pend)).map qn) false),(bb (((qcd c k)).over)),(.fsl (((qcc c k)).map qa0) false),(.fsl (((List.replicate k (qk3 c W picks n))).map plC) false)]] 0]) (fun _ _=>True) K
  (fun y=>y.1 = .exit 0∧y.2.1.marks=[]∧y.2.2=[.row 6 [[.fsl [] false,.fsl [] false,.fsl [] false,.v (.bool false),.fsl [] false,.fsl [] false]] 0,.row 6 [[(.fsl ((((qcd c K)).trace).map qn) false),(.fsl (((qkq c (qcd c K))).map lpF) false),(.fsl (((qca (c).lps.length ((qcd c K)).pend)).map qn) false),(bb (((qcd c K)).over)),(.fsl (((qcc c K)).map qa0) false),(.fsl (((List.replicate K (qk3 c W picks n))).map plC) false)]] 0]∧Ev.look y.2.1.vars 8=some (.ptr 0 0 0 0)∧Ev.look y.2.1.vars 10=some (.ptr 1 0 0 0)∧Ev.look y.2.1.vars 11=some (ii er)) ?_ ?_ 0 () (Nat.zero_le _) trivial
 ·exact key
 ·rintro k _ hk _
  obtain⟨h,P⟩:=qae2 I.v I.n4 (cap:=c.cap) I.lim k (fun j hj=>hS.first j (by omega))
  obtain⟨g1,f,hf,hff,g2⟩:=qaah (hS.first k hk)
  have hcnt:=P.inv.count
  have F:=P.stF (by have:=I.lim;omega)
  have hFl:=qagr (qca c.lps.length (qcd c k).pend) false (by simp[qca];omega)
  unfold flS at hf
  rw[hf]at hFl
  simp only[Option.getD_some,Option.isSome_some]at hFl
  obtain⟨fa,fe,fem,fet⟩:=F.floor hf
  have ft:=(P.inv.ev fe (List.mem_append_right _ fem)).time
  have hbl:(qca c.lps.length (qcd c k).pend).flatten.length=(qcd c k).pend.length:=F.flat.length_eq
  have hpl:=F.plen
  have hC1:=q7r (qca c.lps.length (qcd c k).pend) false (qz1 (by rw[qab1];exact hv8.1)) (by simp[qca];omega) (by omega)
  have hC2:=q7r (qcd c k).trace false (qz1 (by rw[P.inv.trl];exact hv8.1)) (by rw[P.inv.trl];omega) (by have:=P.len;have:=I.lim;omega)
  rw[hbl]at hC1
  have hFi:=qadm c.lps.length W picks cp n (by omega) I.w.1 I.w.2 I.p I.pl I.fin
  have hN:=next_ev F I.l8 (f:=f) (by omega) (qk3 c W picks n) (I.fin.perm I.w.1) false (qcc c k) (List.replicate k (qk3 c W picks n)) (by simp[qcc];omega) (by simp;omega)
  have hw:qcd c (k+1)=qkh c (qcd c k) (q0j c f):=by show qaew c (qcd c k) = _;unfold qaew flS;rw[hf]
  rw[←hw,←qadn c k hf,←List.replicate_succ']at hN
  have c1:¬((qcd c k).pend.length:Int)>c.cap:=by omega
  have c2:¬f≥c.fin:=by omega
  have c3:¬((qcd c k).trace.flatten.length:Int)≥(lim:Int):=by omega
  refine .inl ⟨(),?_,trivial⟩
  have hlm:(c.lps.map lpC).length=c.lps.length:=List.length_map ..
  have lo1 : ∀m,qc5 m ((qcd c k).trace.map qn)=true:=fun m=>qcb _ _
  have lo2 : ∀m,qc5 m ((qkq c (qcd c k)).map lpF)=true:=fun m=>qgu _ _
  have lo3 : ∀m,qc5 m ((qca c.lps.length (qcd c k).pend).map qn)=true:=fun m=>qcb _ _
  have lo4 : ∀m,qc5 m ((qcc c k).map qa0)=true:=fun m=>qm _ _
  have lo5 : ∀m,qc5 m ((List.replicate k (qk3 c W picks n)).map plC)=true:=fun m=>qvp _ _
  have ko1 : ∀m,qc5 m ((qcd c (k+1)).trace.map qn)=true:=fun m=>qcb _ _
  have ko2 : ∀m,qc5 m ((qkq c (qcd c (k+1))).map lpF)=true:=fun m=>qgu _ _
  have ko3 : ∀m,qc5 m ((qca c.lps.length (qcd c (k+1)).pend).map qn)=true:=fun m=>qcb _ _
  have ko4 : ∀m,qc5 m ((qcc c (k+1)).map qa0)=true:=fun m=>qm _ _
  have ko5 : ∀m,qc5 m ((List.replicate (k+1) (qk3 c W picks n)).map plC)=true:=fun m=>qvp _ _
  change qac (evL T) qe1 [(ii c.lps.length),(ii W),(.fsl (((qqc picks)).map qa0) cp)]=some (.tup [.fsl ((qk3 c W picks n).map prC) false,(ii n)])at hFi
  generalize (qcd c k).trace.flatten.length=cn at *
  generalize (qcd c k).pend.length=bn at *
  generalize (qcd c k).trace.map qn=TM at *
  generalize (qkq c (qcd c k)).map lpF=LM at *
  generalize (qca c.lps.length (qcd c k).pend).map qn=BM at *
  generalize (qcc c k).map qa0=FM at *
  generalize (List.replicate k (qk3 c W picks n)).map plC=QM at *
  generalize (qcd c (k+1)).trace.map qn=TM' at *
  generalize (qkq c (qcd c (k+1))).map lpF=LM' at *
  generalize (qca c.lps.length (qcd c (k+1)).pend).map qn=BM' at *
  generalize (qcc c (k+1)).map qa0=FM' at *
  generalize (List.replicate (k+1) (qk3 c W picks n)).map plC=QM' at *
  generalize (qcd c k).over=OV at *
  generalize (qcd c (k+1)).over=OV' at *
  simp only[qfm,hFl,hC1,hC2,hFi,hN,c1,c2,c3,hlm,lo1,lo2,lo3,lo4,lo5,ko1,ko2,ko3,ko4,ko5,qht,qm,qa2,qu,Ev.ev1,Ev.stP,qb,Ev.AV.cells,Ev.AV.plain,Ev.SObj.lo,zgy,↓qc,↓reduceIte,Nat.reduceAdd,Nat.reduceEqDiff,Nat.reduceLT]
 ·rintro _ _
  obtain⟨h,P⟩:=qae2 I.v I.n4 (cap:=c.cap) I.lim K hS.first
  have hcnt:=P.inv.count
  have hplen:=P.inv.len
  have hhl:=P.len
  have hlim:=I.lim
  have hst:=hS.stop
  have hFl:=qagr (qca c.lps.length (qcd c K).pend) false (by simp[qca];omega)
  have hbp:(qca c.lps.length (qcd c K).pend).flatten.Perm (qcd c K).pend:=
   (q27 _ _ (fun i=>qbc (qcd c K).pend i) fun i=>qdd _).trans (q7g fun e he=>(P.inv.ev e (List.mem_append_right _ he)).lp)
  have hbl:=hbp.length_eq
  have hC1:=q7r (qca c.lps.length (qcd c K).pend) false (qz1 (by rw[qab1];exact hv8.1)) (by simp[qca];omega) (by omega)
  have hC2:=q7r (qcd c K).trace false (qz1 (by rw[P.inv.trl];exact hv8.1)) (by rw[P.inv.trl];omega) (by omega)
  rw[hbl]at hC1
  have lo1 : ∀m,qc5 m ((qcd c K).trace.map qn)=true:=fun m=>qcb _ _
  have lo2 : ∀m,qc5 m ((qkq c (qcd c K)).map lpF)=true:=fun m=>qgu _ _
  have lo3 : ∀m,qc5 m ((qca c.lps.length (qcd c K).pend).map qn)=true:=fun m=>qcb _ _
  have lo4 : ∀m,qc5 m ((qcc c K).map qa0)=true:=fun m=>qm _ _
  have lo5 : ∀m,qc5 m ((List.replicate K (qk3 c W picks n)).map plC)=true:=fun m=>qvp _ _
  unfold q0h flS endZ at hst
  generalize (qcd c K).trace.flatten.length=cn at *
  generalize (qcd c K).trace.map qn=TM at *
  generalize (qkq c (qcd c K)).map lpF=LM at *
  generalize qx7 (qca c.lps.length (qcd c K).pend)=fo at *
  generalize (qca c.lps.length (qcd c K).pend).map qn=BM at *
  generalize (qcc c K).map qa0=FM at *
  generalize (List.replicate K (qk3 c W picks n)).map plC=QM at *
  generalize (qcd c K).over=OV at *
  by_cases c1:((qcd c K).pend.length:Int)>c.cap
  ·rw[if_pos (by omega)]at hst
   cases hst
   simp only[qfm,hFl,hC1,c1,lo3,Ev.ev1,qb,zgy,↓qc,↓reduceIte,Nat.reduceEqDiff,reduceCtorEq]
   exact⟨_,rfl,rfl,rfl,rfl,rfl,rfl,rfl⟩
  rw[if_neg (by omega)]at hst
  cases fo with
  |none=>
   simp only[Option.getD_none,Option.isSome_none]at hFl hst
   cases hst
   cases OV with
   |true=>
    simp only[qfm,hFl,hC1,c1,lo3,Ev.ev1,qb,zgy,↓qc,↓reduceIte,Nat.reduceEqDiff,reduceCtorEq]
    exact⟨_,rfl,rfl,rfl,rfl,rfl,rfl,rfl⟩
   |false=>
    simp only[qfm,hFl,hC1,c1,lo3,Ev.ev1,qb,zgy,↓qc,↓reduceIte,Nat.reduceEqDiff,reduceCtorEq]
    exact⟨_,rfl,rfl,rfl,rfl,rfl,rfl,rfl⟩
  |some f=>
   simp only[Option.getD_some,Option.isSome_some]at hFl hst
   by_cases c2:f≥c.fin
   ·rw[if_pos c2]at hst
    cases hst
    cases OV with
    |true=>
     simp only[qfm,hFl,hC1,c1,c2,lo3,Ev.ev1,qb,zgy,↓qc,↓reduceIte,Nat.reduceEqDiff,reduceCtorEq]
     exact⟨_,rfl,rfl,rfl,rfl,rfl,rfl,rfl⟩
    |false=>
     simp only[qfm,hFl,hC1,c1,c2,lo3,Ev.ev1,qb,zgy,↓qc,↓reduceIte,Nat.reduceEqDiff,reduceCtorEq]
     exact⟨_,rfl,rfl,rfl,rfl,rfl,rfl,rfl⟩
   ·rw[if_neg c2]at hst
    by_cases c3:lim≤cn
    ·rw[if_pos c3]at hst
     cases hst
     have c3':(cn:Int)≥(lim:Int):=by omega
     simp only[qfm,hFl,hC1,hC2,c1,c2,c3',lo1,lo3,Ev.ev1,qb,zgy,↓qc,↓reduceIte,Nat.reduceEqDiff,reduceCtorEq]
     exact⟨_,rfl,rfl,rfl,rfl,rfl,rfl,rfl⟩
    ·rw[if_neg c3]at hst;cases hst
end
set_option maxRecDepth 10000
section
variable {c:Cfg} {e:Evt} (R3 X4 X5:SObj) (dn:List Evt) (g1:Nat) (x:Lp) (o f:Bool)
end
section
variable {c:Cfg} {f:Bool}
end
set_option maxRecDepth 10000
theorem Boxes_ev (n:Nat) (hn:n≤8) (l:List Evt) (cl:Bool) (hl:l.length≤1000000) (hk:qc4 l) (hd:q3p l) (hr : ∀e∈l,0≤e.lp∧e.lp<(n:Int)):qac (evL T) qj8 [(ii n),(.fsl ((l).map Evt.r) cl)]=some (.fsl (((qca n l)).map qn) false):=by
 have hrep:(List.replicate n ([]:List Evt)).map qn=List.replicate n [.fsl [] false]:=by rw[List.map_replicate];rfl
 have hfl:(List.replicate n ([]:List Evt)).flatten=[]:=by rw[List.flatten_eq_nil_iff];exact fun b hb=>List.eq_of_mem_replicate hb
 have hD:=qaa8 (List.replicate n []) [l] false true (by simp;omega) (by simp) (by rw[hfl];simpa using hl) (by rw[hfl];simpa using hk) (fun b hb=>by rw[List.eq_of_mem_replicate hb];exact .nil) (fun i b hb=>by
  rw[List.eq_of_mem_replicate (zmg hb),List.nil_append]
  simp only[List.flatten_cons,List.flatten_nil,zgn]
  exact qaht hd i) (fun e he=>by simp at he;simpa using hr e he)
 have hdl:qjz (List.replicate n []) [l].flatten=qca n l:=by
  unfold qjz qca
  refine List.ext_getElem (by simp) (fun i h1 h2 => ?_)
  simp[List.getElem_mapIdx]
 rw[hdl,hrep]at hD
 simp only[List.map_cons,List.map_nil,qn]at hD
 have b1:24*(n:Int)≤140737488355328:=by omega
 have b2:(n:Int)≤4611686018427387904:=by omega
 have lr : ∀k,qc5 k (List.replicate n ([.fsl [] false]:List AV))=true:=fun k=>qip _ _ _ rfl
 have tk:List.take n (List.replicate n ([.fsl [] false]:List AV))=List.replicate n [.fsl [] false]:=ztl (by simp)
 have hlr:(List.replicate n ([.fsl [] false]:List AV)).length=n:=List.length_replicate
 have hle:n≤n:=Nat.le_refl _
 rw[qac,qe q6v q5d]
 simp only[qpt,hD,b1,b2,lr,tk,hlr,hle,zgs,zgr,Int.le_refl,qq,qcb,Ev.ev1,qae6,q9d,Ev.AV.cells,Ev.AV.uc,Ev.AV.plain,qh,ne_eq,zgy,↓qc,↓reduceIte,Nat.reduceAdd,Nat.reduceEqDiff,Nat.reduceMul,Nat.reduceLeDiff,Nat.reducePow,Int.reducePow,reduceCtorEq]
section
variable (bs ss:List (List Evt)) (cs:Bool)
end
set_option maxRecDepth 10000
section
variable {c:Cfg} {W:Nat} {picks:List Nat} {lim n:Nat} (cp:Bool)
theorem qafv:(start c).trace.map qn=List.replicate c.lps.length [.fsl [] false]:=by
 show (List.replicate c.lps.length ([]:List Evt)).map qn = _
 rw[List.map_replicate];rfl
theorem qae5 (I:RunIn c W picks lim n) {K:Nat} {er:Int} (hS:Stop c c.cap lim K er) :
  qac (evL T) qjs [(.agg [(.fsl ((c.lps).map lpC) false),(.fsl ((c.progs).map qaz) false),(ii c.look),(ii c.fin),(ii c.cap)]),(ii W),(.fsl (((qqc picks)).map qa0) cp),(ii lim)]=some (.tup [(.agg [(.fsl ((((qcd c K)).trace).map qn) false),(.fsl (((qkq c (qcd c K))).map lpF) false),(.fsl (((qca (c).lps.length ((qcd c K)).pend)).map qn) false),(bb (((qcd c K)).over)),(.fsl (((qcc c K)).map qa0) false),(.fsl (((List.replicate K (qk3 c W picks n))).map plC) false)]),(ii er)]):=by
 have hv8:=I.v.lps
 obtain⟨⟨y,e,σ⟩,k1,k2,k3,k4,k5,k6,k7⟩:=run_L2 cp I hS
 simp only at k1 k2 k3 k4 k5 k6 k7
 subst k2;subst k4
 have H0:=SInv.start I.v
 have hst:=q55 c I.h12
 have hin:=qv2 c I.h12
 have hk:qc4 (sortL (ql7 c.lps)):=fun x hx=>by have:=(H0.ev x (List.mem_append_right _ hx)).key;simp at this;omega
 have hd:q3p (sortL (ql7 c.lps)):=qlo.dist (List.pairwise_append.1 H0.keys).2.1
 have hl:=H0.len
 have hB:=Boxes_ev c.lps.length hv8.2 (sortL (ql7 c.lps)) false (by show (start c).pend.length ≤ _;simp at hl;omega) hk hd (fun e he=>(H0.ev e (List.mem_append_right _ he)).lp)
 have hlm:(c.lps.map lpC).length=c.lps.length:=List.length_map ..
 have b3:24*(c.lps.length:Int)≤140737488355328:=by omega
 have b4:(c.lps.length:Int)≤4611686018427387904:=by omega
 have e1:(qcd c 0).trace.map qn=List.replicate c.lps.length [.fsl [] false]:=qafv
 have e2:qkq c (qcd c 0)=qib c.lps:=qaie
 have e3:(qcd c 0).pend=sortL (ql7 c.lps):=rfl
 have e4:(qcd c 0).over=false:=rfl
 rw[e1,e2,e3,e4]at k1
 simp only[qcc,List.range_zero,List.map_nil,List.replicate_zero]at k1
 change itB _ _ _ _=some (_,_,([.row 6 [[.fsl [] false,.fsl [] false,.fsl [] false,.v (.bool false),.fsl [] false,.fsl [] false]] 0,.row 6 [[(.fsl ((((qcd c K)).trace).map qn) false),(.fsl (((qkq c (qcd c K))).map lpF) false),(.fsl (((qca (c).lps.length ((qcd c K)).pend)).map qn) false),(bb (((qcd c K)).over)),(.fsl (((qcc c K)).map qa0) false),(.fsl (((List.replicate K (qk3 c W picks n))).map plC) false)]] 0]:qf))at k1
 have lo0 : ∀m,qc5 m (List.replicate c.lps.length [(.fsl [] false:AV)])=true:=fun m=>qip _ _ _ rfl
 have lo1 : ∀m,qc5 m ((qcd c K).trace.map qn)=true:=fun m=>qcb _ _
 have lo2 : ∀m,qc5 m ((qkq c (qcd c K)).map lpF)=true:=fun m=>qgu _ _
 have lo3 : ∀m,qc5 m ((qca c.lps.length (qcd c K).pend).map qn)=true:=fun m=>qcb _ _
 have lo4 : ∀m,qc5 m ((qcc c K).map qa0)=true:=fun m=>qm _ _
 have lo5 : ∀m,qc5 m ((List.replicate K (qk3 c W picks n)).map plC)=true:=fun m=>qvp _ _
 have lo6 : ∀m,qc5 m ((qib c.lps).map lpF)=true:=fun m=>qgu _ _
 have lo7 : ∀m,qc5 m ((qca c.lps.length (sortL (ql7 c.lps))).map qn)=true:=fun m=>qcb _ _
 have lo8 : ∀m,qc5 m ((sortL (ql7 c.lps)).map Evt.r)=true:=fun m=>qq _ _
 rw[qac,qe qaau q8b]
 generalize (qcd c K).trace.map qn=TM' at *
 generalize (qkq c (qcd c K)).map lpF=LM' at *
 generalize (qca c.lps.length (qcd c K).pend).map qn=BM' at *
 generalize (qcc c K).map qa0=FM' at *
 generalize (List.replicate K (qk3 c W picks n)).map plC=QM' at *
 generalize (qcd c K).over=OV' at *
 generalize (qib c.lps).map lpF=SM at *
 generalize (qca c.lps.length (sortL (ql7 c.lps))).map qn=IM at *
 generalize (sortL (ql7 c.lps)).map Evt.r=EM at *
 simp only[qto,hst,hin,hB,k1,k3,k5,k6,k7,hlm,b3,b4,lo0,lo1,lo2,lo3,lo4,lo5,lo6,lo7,lo8,zgs,zgr,qm,qa2,qu,Ev.ev1,Ev.stP,qb,Ev.AV.cells,Ev.AV.uc,Ev.AV.plain,qh,Ev.SObj.lo,ne_eq,zgy,↓qc,↓qv,↓reduceIte,Nat.reduceAdd,Nat.reduceEqDiff,Nat.reduceLT,Nat.reduceLeDiff,Int.reducePow,reduceCtorEq]
theorem q1p (I:RunIn c W picks lim n) (hc:qac (evL T) qdr [(.agg [(.fsl ((c.lps).map lpC) false),(.fsl ((c.progs).map qaz) false),(ii c.look),(ii c.fin),(ii c.cap)])]=some (ii 0)) {K:Nat} {er:Int} (hS:Stop c c.cap lim K er) :
  qac (evL T) qet [(.agg [(.fsl ((c.lps).map lpC) false),(.fsl ((c.progs).map qaz) false),(ii c.look),(ii c.fin),(ii c.cap)]),(ii W),(.fsl (((qqc picks)).map qa0) cp),(ii lim)]=some (.tup [(.fsl (((qcd c K).trace).map qn) false),(.fsl (((qkq c (qcd c K))).map lpF) false),(ii er)]):=by
 have hr:=qae5 cp I hS
 have lo1 : ∀m,qc5 m ((qcd c K).trace.map qn)=true:=fun m=>qcb _ _
 have lo2 : ∀m,qc5 m ((qkq c (qcd c K)).map lpF)=true:=fun m=>qgu _ _
 have lo3 : ∀m,qc5 m ((qca c.lps.length (qcd c K).pend).map qn)=true:=fun m=>qcb _ _
 have lo4 : ∀m,qc5 m ((qcc c K).map qa0)=true:=fun m=>qm _ _
 have lo5 : ∀m,qc5 m ((List.replicate K (qk3 c W picks n)).map plC)=true:=fun m=>qvp _ _
 rw[qac,qe qaag q89]
 simp only[qth,hc,hr,lo1,lo2,qm,qa2,qu,Ev.ev1,Ev.stP,qb,Ev.AV.cells,Ev.AV.plain,qh,ne_eq,zgy,↓qc,↓reduceIte,Nat.reduceAdd,Nat.reduceEqDiff,reduceCtorEq]
theorem qzv (I:RunIn c W picks lim n) (hc:qac (evL T) qdr [(.agg [(.fsl ((c.lps).map lpC) false),(.fsl ((c.progs).map qaz) false),(ii c.look),(ii c.fin),(ii c.cap)])]=some (ii 0)) {K:Nat} {er:Int} (hS:Stop c c.cap lim K er) :
  qac (evL T) qep [(.agg [(.fsl ((c.lps).map lpC) false),(.fsl ((c.progs).map qaz) false),(ii c.look),(ii c.fin),(ii c.cap)]),(ii W),(.fsl (((qqc picks)).map qa0) cp),(ii lim)]=some (.fsl (((qcc c K)).map qa0) false):=by
 have hr:=qae5 cp I hS
 have lo1 : ∀m,qc5 m ((qcd c K).trace.map qn)=true:=fun m=>qcb _ _
 have lo2 : ∀m,qc5 m ((qkq c (qcd c K)).map lpF)=true:=fun m=>qgu _ _
 have lo3 : ∀m,qc5 m ((qca c.lps.length (qcd c K).pend).map qn)=true:=fun m=>qcb _ _
 have lo4 : ∀m,qc5 m ((qcc c K).map qa0)=true:=fun m=>qm _ _
 have lo5 : ∀m,qc5 m ((List.replicate K (qk3 c W picks n)).map plC)=true:=fun m=>qvp _ _
 rw[qac,qe q5e q2f]
 simp only[qot,hc,hr,lo4,qm,qa2,qu,Ev.ev1,Ev.stP,qb,Ev.AV.cells,Ev.AV.plain,qh,ne_eq,zgy,↓qc,↓reduceIte,Nat.reduceAdd,Nat.reduceEqDiff,reduceCtorEq]
theorem qahx (I:RunIn c W picks lim n) (hc:qac (evL T) qdr [(.agg [(.fsl ((c.lps).map lpC) false),(.fsl ((c.progs).map qaz) false),(ii c.look),(ii c.fin),(ii c.cap)])]=some (ii 0)) {K:Nat} {er:Int} (hS:Stop c c.cap lim K er) :
  qac (evL T) qea [(.agg [(.fsl ((c.lps).map lpC) false),(.fsl ((c.progs).map qaz) false),(ii c.look),(ii c.fin),(ii c.cap)]),(ii W),(.fsl (((qqc picks)).map qa0) cp),(ii lim)]=some (.fsl (((List.replicate K (qk3 c W picks n))).map plC) false):=by
 have hr:=qae5 cp I hS
 have lo1 : ∀m,qc5 m ((qcd c K).trace.map qn)=true:=fun m=>qcb _ _
 have lo2 : ∀m,qc5 m ((qkq c (qcd c K)).map lpF)=true:=fun m=>qgu _ _
 have lo3 : ∀m,qc5 m ((qca c.lps.length (qcd c K).pend).map qn)=true:=fun m=>qcb _ _
 have lo4 : ∀m,qc5 m ((qcc c K).map qa0)=true:=fun m=>qm _ _
 have lo5 : ∀m,qc5 m ((List.replicate K (qk3 c W picks n)).map plC)=true:=fun m=>qvp _ _
 rw[qac,qe qxt qv9]
 generalize (List.replicate K (qk3 c W picks n)).map plC=QM' at *
 simp only[qkf,hc,hr,lo5,qm,qa2,qu,Ev.ev1,Ev.stP,qb,Ev.AV.cells,Ev.AV.plain,qh,ne_eq,zgy,↓qc,↓reduceIte,Nat.reduceAdd,Nat.reduceEqDiff,reduceCtorEq]
end
set_option maxRecDepth 100000
def u8C (x:Int):List AV:=[.v (.int .u8 x)]
theorem u8C_lo (n:Nat) (x:Int):los n (u8C x)=true:=rfl
theorem q0n (n:Nat) (l:List Int):qc5 n (l.map u8C)=true:=qjy (u8C_lo n) l
theorem qo1:qac (evL T) qhw []=some (bb true):=qahu 70 (by kernel_rfl)
theorem qr8 (c:Cfg) : ∃b:Bool,qac (evL T) qkr [(.agg [(.fsl ((c.lps).map lpC) false),(.fsl ((c.progs).map qaz) false),(ii c.look),(ii c.fin),(ii c.cap)])]=some (bb b)∧(b=true→Good c∧c.look≤8∧c.lps.length≤4):=by
 obtain⟨b,h1,h2⟩:=Quick_ev c
 refine⟨b,?_,fun hb=>by
  obtain⟨k1,k2,k3⟩:=h2 hb
  exact⟨good_of k1,k2,k3⟩⟩
 rw[qac,qe qaet qac5]
 simp only[qz2,h1,qa2,qu,Ev.ev1,qb,Ev.AV.cells,Ev.AV.plain,qh,ne_eq,zgy,↓qc,↓reduceIte,Nat.reduceAdd,Nat.reduceEqDiff]
theorem q2w (a:Int) (ha:0≤a∧a≤255) : ∃k:Nat,k<30∧qac (evL T) qe2 [.v (.int .u8 a)]=some (ii k):=by
 refine⟨a.toNat%30,Nat.mod_lt _ (by omega),?_⟩
 have hw:IntKind.i64.wrap a=a:=qi (by omega) (by omega)
 have hr:a.tmod 30=((a.toNat%30:Nat):Int):=by
  obtain⟨n,rfl⟩ : ∃n:Nat,a=n:=⟨a.toNat,by omega⟩
  rw[Int.tmod_eq_emod_of_nonneg (by omega)];omega
 have h30:¬(30:Int)=0:=by decide
 rw[qac,qe q90 q6l]
 simp only[qre,hw,hr,h30,Ev.ev1,qh,zgy,↓qc,↓reduceIte,reduceCtorEq]
theorem qabl (a:Int) (ha:0≤a∧a≤255) (m:Nat) (hm:1≤m∧m≤64) : ∃W:Nat,1≤W∧W≤m∧IntKind.i64.wrap a=a∧¬(m:Int)=0∧IntKind.i64.wrap (a.tmod m+1)=(W:Int):=by
 have q1:=Int.tmod_lt_of_pos a (show (0:Int)<(m:Int) by omega)
 have q2:=Int.tmod_nonneg (m:Int) ha.1
 refine⟨(a.tmod m).toNat+1,by omega,by omega,qi (by omega) (by omega),by omega,?_⟩
 rw[qi (by omega) (by omega)];omega
def qco (l:List Int) (W:Nat):List Nat:=l.map fun x=>x.toNat%W
theorem qzq (l:List Int) (cl:Bool) (W:Nat) (hW:1≤W∧W≤64) (hl : ∀x∈l,0≤x∧x≤255) (hn:l.length≤1000):qac (evL T) qei [(.fsl ((l).map u8C) cl),(ii W)]=some (.fsl (((qqc (qco l W))).map qa0) false):=by
 have hL : ∃y,itB (exec (evL T) itL none qlx) (qai [0,1,5,6] true 1) ⟨[(0,(.fsl ((l).map u8C) cl)),(1,(ii W)),(5,.sl 0 0 0 0 false),(6,(ii ((0:Nat))))],[]⟩ [.row 1 [] 0]=some y ∧
   (y.1 = .exit 0∧y.2.1.marks=[] ∧ ∃g:Nat,y.2.2=[.row 1 ((qqc (qco l W)).map qa0) g]∧Ev.look y.2.1.vars 5=some (.sl 0 g 0 l.length false)):=by
  have key:=qg5 (f:=exec (evL T) itL none qlx) (s:=qai [0,1,5,6] true 1) (α:=Nat)
   (fun i g=>⟨[(0,(.fsl ((l).map u8C) cl)),(1,(ii W)),(5,.sl 0 g 0 i false),(6,(ii i))],[]⟩) (fun i g=>[.row 1 ((qqc (qco (l.take i) W)).map qa0) g]) (fun _ _=>True) l.length
   (fun y=>y.1 = .exit 0∧y.2.1.marks=[] ∧ ∃g:Nat,y.2.2=[.row 1 ((qqc (qco l W)).map qa0) g]∧Ev.look y.2.1.vars 5=some (.sl 0 g 0 l.length false)) ?_ ?_ 0 0 (Nat.zero_le _) trivial
  ·exact key
  ·rintro i g hi _
   obtain⟨x,hx⟩ : ∃x,l[i]? = some x:=⟨_,zgE hi⟩
   obtain⟨x0,x1⟩:=hl x (zmg hx)
   have hi':(i:Int)<(l.length:Int):=by omega
   have hw:IntKind.i64.wrap ((i:Int)+1)=((i+1:Nat):Int):=by rw[qi (by omega) (by omega)];simp
   have hg:(l.map u8C)[i]? = some [.v (.int .u8 x)]:=by rw[List.getElem?_map,hx];rfl
   have hll:(l.map u8C).length=l.length:=List.length_map ..
   have hx64:IntKind.i64.wrap x=x:=qi (by omega) (by omega)
   have hmx:(if (W:Int)>1 then (W:Int)else 1)=W:=by split<;>omega
   have hW0:¬(W:Int)=0:=by omega
   have hr:x.tmod W=((x.toNat%W:Nat):Int):=by
    obtain⟨n,rfl⟩ : ∃n:Nat,x=n:=⟨x.toNat,by omega⟩
    rw[Int.tmod_eq_emod_of_nonneg (by omega)];rfl
   have hnx:(qqc (qco (l.take (i+1)) W)).map qa0=(qqc (qco (l.take i) W)).map qa0++[[(ii ((x.toNat%W:Nat)))]]:=by
    unfold qqc qco;rw[List.take_add_one,hx];simp[qa0]
   have hlk:((qqc (qco (l.take i) W)).map qa0).length=i:=by unfold qqc qco;simp;omega
   have tk:List.take i ((qqc (qco (l.take i) W)).map qa0)=(qqc (qco (l.take i) W)).map qa0:=ztl (by omega)
   have lo:=qm 1 (qqc (qco (l.take (i+1)) W))
   have bd:(i+1)*8≤140737488355328:=by omega
   have hle:i≤i:=Nat.le_refl _
   rw[hnx]at lo
   refine .inl ⟨g+1,?_,trivial⟩
   rw[hnx]
   generalize (qqc (qco (l.take i) W)).map qa0=R at *
   simp only[qlx,hll,hi',hw,hg,hx64,hmx,hW0,hr,hlk,tk,lo,bd,hle,zgs,zgr,q0n,Ev.ev1,q3t,qb,qdj,Ev.AV.cells,Ev.AV.uc,Ev.AV.plain,Ev.SObj.lo,ne_eq,zgy,↓qc,↓reduceIte,Nat.reduceEqDiff,Nat.reduceMul,Nat.reduceLeDiff,Nat.reducePow,reduceCtorEq]
  ·rintro g _
   rw[List.take_length]
   have hll:(l.map u8C).length=l.length:=List.length_map ..
   simp only[qlx,hll,Int.lt_irrefl,Ev.ev1,zgy,↓qc,↓reduceIte,Nat.reduceEqDiff,reduceCtorEq]
   exact⟨_,rfl,rfl,rfl,g,rfl,rfl⟩
 obtain⟨⟨y,e,σ⟩,k1,k2,k3,g,k4,k5⟩:=hL
 simp only[Int.ofNat_zero]at k1 k2 k3 k4 k5
 subst k2;subst k4
 have hlk:((qqc (qco l W)).map qa0).length=l.length:=by unfold qqc qco;simp
 have tk:List.take l.length ((qqc (qco l W)).map qa0)=(qqc (qco l W)).map qa0:=ztl (by omega)
 have lo:=qm 0 (qqc (qco l W))
 have hle:l.length≤l.length:=Nat.le_refl _
 rw[qac,qe q8l q6y]
 simp only[qq8,k1,k3,k5,hlk,tk,lo,hle,zfd,q0n,Ev.ev1,qh,Ev.SObj.lo,zgy,↓qc,↓qv,↓reduceIte,Nat.reduceAdd,Nat.reduceEqDiff,Nat.reduceLT,reduceCtorEq]
theorem qaiy (l:List Int) (W:Nat) (hW:1≤W) : ∀x∈qco l W,x<W:=by
 intro x hx
 unfold qco at hx
 obtain⟨y,_,rfl⟩:=List.mem_map.1 hx
 exact Nat.mod_lt _ (by omega)
theorem qtq {c:Cfg} (G:Good c) (l8:c.look≤8) (n4:c.lps.length≤4) {W:Nat} (hW:1≤W∧W≤64) (l:List Int) (hl:l.length≤200) {lim:Nat} (hlim:lim≤30) : ∃n,RunIn c W (qco l W) lim n:=by
 obtain⟨n,hn⟩:=fin_ex (T:=c.lps.length) (picks:=qco l W) hW.1
 exact⟨n,G.h12,G.v,n4,l8,hW,qaiy l W hW.1,by simp[qco];omega,hlim,hn⟩
theorem Good.check {c:Cfg} (G:Good c):qac (evL T) qdr [(.agg [(.fsl ((c.lps).map lpC) false),(.fsl ((c.progs).map qaz) false),(ii c.look),(ii c.fin),(ii c.cap)])]=some (ii 0):=by
 have:=qyb c G.ok
 rw[G.z]at this;exact this
theorem qacl (l:List Int) (ca cb:Bool) (hl:l.length≤1000000):qac (evL T) qk4 [(.fsl ((l).map qa0) ca),(.fsl ((l).map qa0) cb)]=some (bb true):=by
 have hL : ∃y,itB (exec (evL T) itL none qoz) (qai [0,1,5] true 0) ⟨[(0,(.fsl ((l).map qa0) ca)),(1,(.fsl ((l).map qa0) cb)),(5,(ii ((0:Nat))))],[]⟩ []=some y∧(y.1 = .exit 0∧y.2.1.marks=[]∧y.2.2=[]):=by
  refine q25 l (fun i=>⟨[(0,(.fsl ((l).map qa0) ca)),(1,(.fsl ((l).map qa0) cb)),(5,(ii i))],[]⟩) [] _ ?_ ?_
  ·intro i x hi hx
   have hi':(i:Int)<(l.length:Int):=by omega
   have hw:IntKind.i64.wrap ((i:Int)+1)=((i+1:Nat):Int):=by rw[qi (by omega) (by omega)];simp
   have hg:(l.map qa0)[i]? = some [(ii x)]:=by rw[List.getElem?_map,hx];rfl
   have hll:(l.map qa0).length=l.length:=List.length_map ..
   simp only[qoz,hll,hi',hw,hg,zgs,zgr,qm,Ev.ev1,qb,ne_eq,zgy,↓qc,↓reduceIte,Nat.reduceEqDiff,reduceCtorEq]
  ·have hll:(l.map qa0).length=l.length:=List.length_map ..
   simp only[qoz,hll,Int.lt_irrefl,Ev.ev1,zgy,↓qc,↓reduceIte,Nat.reduceEqDiff,reduceCtorEq]
   exact⟨_,rfl,rfl,rfl,rfl⟩
 obtain⟨⟨y,e,σ⟩,k1,k2,k3,k4⟩:=hL
 simp only[Int.ofNat_zero]at k1 k2 k3 k4
 subst k2;subst k4
 rw[qac,qe qaat q9z]
 simp only[qtt,k1,k3,qm,Ev.ev1,qh,ne_eq,zgy,↓qc,↓qv,↓reduceIte,Nat.reduceAdd,Nat.reduceEqDiff,reduceCtorEq]
theorem qadc (l:List (Nat×Nat)) (ca cb:Bool) (hl:l.length≤1000000):qac (evL T) qmq [.fsl (l.map prC) ca,.fsl (l.map prC) cb]=some (bb true):=by
 have hL : ∃y,itB (exec (evL T) itL none qou) (qai [0,1,5] true 0) ⟨[(0,.fsl (l.map prC) ca),(1,.fsl (l.map prC) cb),(5,(ii ((0:Nat))))],[]⟩ []=some y∧(y.1 = .exit 0∧y.2.1.marks=[]∧y.2.2=[]):=by
  refine q25 l (fun i=>⟨[(0,.fsl (l.map prC) ca),(1,.fsl (l.map prC) cb),(5,(ii i))],[]⟩) [] _ ?_ ?_
  ·intro i x hi hx
   have hi':(i:Int)<(l.length:Int):=by omega
   have hw:IntKind.i64.wrap ((i:Int)+1)=((i+1:Nat):Int):=by rw[qi (by omega) (by omega)];simp
   have hg:(l.map prC)[i]? = some [(ii x.1),(ii x.2)]:=by rw[List.getElem?_map,hx];rfl
   have hll:(l.map prC).length=l.length:=List.length_map ..
   simp only[qou,hll,hi',hw,hg,zgs,zgr,qht,Ev.ev1,qb,qg4,zgy,↓qc,↓reduceIte,Nat.reduceAdd,Nat.reduceEqDiff,reduceCtorEq]
  ·have hll:(l.map prC).length=l.length:=List.length_map ..
   simp only[qou,hll,Int.lt_irrefl,Ev.ev1,zgy,↓qc,↓reduceIte,Nat.reduceEqDiff,reduceCtorEq]
   exact⟨_,rfl,rfl,rfl,rfl⟩
 obtain⟨⟨y,e,σ⟩,k1,k2,k3,k4⟩:=hL
 simp only[Int.ofNat_zero]at k1 k2 k3 k4
 subst k2;subst k4
 rw[qac,qe qaay q8n]
 simp only[qti,k1,k3,qht,Ev.ev1,qh,ne_eq,zgy,↓qc,↓qv,↓reduceIte,Nat.reduceAdd,Nat.reduceEqDiff,reduceCtorEq]
set_option maxRecDepth 100000
section
variable {c:Cfg} {lim k:Nat} {h:List Evt}
theorem ParI.rows (P:ParI c lim k h) (hl:lim≤30):(qcd c k).trace.length≤1000000∧(∀x∈(qcd c k).trace,x.length≤1000000)∧(∀x∈(qcd c k).trace,∀e∈x,e.key.length≤9223372036854775807):=by
 have hv:=P.inv.valid.lps
 have hh:=P.len
 refine⟨by rw[P.inv.trl];omega,fun x hx => ?_,fun x hx e he => ?_⟩
 ·obtain⟨i,hi⟩:=List.mem_iff_getElem?.1 hx
  have hin:i<c.lps.length:=by rw[←P.inv.trl];exact(zei.1 hi).1
  rw[P.inv.tr i hin]at hi;cases hi
  have:=List.length_filter_le (fun e:Evt=>decide (e.lp=i)) h
  unfold qbc;omega
 ·obtain⟨i,hi⟩:=List.mem_iff_getElem?.1 hx
  have:=(P.inv.ev e (List.mem_append_left _ (P.inv.mem hi e he).1)).key
  omega
theorem ParI.short (P:ParI c lim k h) (hl:lim≤30):(qkq c (qcd c k)).length≤9223372036854775807 ∧ ∀x∈qkq c (qcd c k),x.1.Short:=by
 have hv:=P.inv.valid.lps
 have hh:=P.len
 refine⟨by simp[qkq];omega,fun x hx => ?_⟩
 have hm:x.1∈(qcd c k).lps:=by rw[←P.lok.1];exact List.mem_map.2 ⟨x,hx,rfl⟩
 obtain⟨a,b⟩:=P.inv.lp _ hm
 exact⟨by omega,fun q hq=>by have:=(b q hq).2.2.2.2;omega⟩
theorem Good.capM (G:Good c) {m:Int} (hm:1≤m∧m≤c.cap):Good { c with cap:=m }:=by
 have h0:q8o c=0:=by rw[qaco];exact G.z
 have hc:=G.v.cap
 have h1:q8o { c with cap:=m }=0:=by
  have e1:qxa { c with cap:=m }=qxa c:=rfl
  have e2:qajf { c with cap:=m }=qajf c:=rfl
  unfold q8o at h0⊢
  rw[e1,e2]
  by_cases hs:qqk c=false
  ·rw[if_pos hs]at h0;cases h0
  ·have hs':qqk { c with cap:=m }=true:=by
    rw[Bool.not_eq_false]at hs
    unfold qqk at hs⊢
    simp only[Bool.and_eq_true,decide_eq_true_eq]at hs⊢
    exact⟨hs.1,hs.2.1,by omega,by omega,hs.2.2.2.2.1,hs.2.2.2.2.2⟩
   rw[if_neg hs]at h0
   rw[if_neg (by rw[hs'];simp)]
   exact h0
 exact⟨⟨G.h12.lps,G.h12.lp⟩,⟨G.ok.lps,G.ok.progs,G.ok.prog,G.ok.lp⟩,by rw[←qaco];exact h1,qag7 h1⟩
end
set_option maxHeartbeats 1000000 in
theorem q3q (c:Cfg) (a b lm:Int) (ha:0≤a∧a≤255) (hb:0≤b∧b≤255) (hl:0≤lm∧lm≤255) (l m:List Int) (hlr : ∀x∈l,0≤x∧x≤255) (hmr : ∀x∈m,0≤x∧x≤255) (cl cm:Bool) :
  qac (evL T) qdo [(.agg [(.fsl ((c.lps).map lpC) false),(.fsl ((c.progs).map qaz) false),(ii c.look),(ii c.fin),(ii c.cap)]),.v (.int .u8 a),.v (.int .u8 b),(.fsl ((l).map u8C) cl),(.fsl ((m).map u8C) cm),.v (.int .u8 lm)]=some (bb true):=by
 have hH:=qo1
 obtain⟨b1,hq,hqb⟩:=qr8 c
 have hll:(l.map u8C).length=l.length:=List.length_map ..
 have hml:(m.map u8C).length=m.length:=List.length_map ..
 rw[qac,qe qqf qk2]
 cases b1 with
 |false=>simp only[qcs,hH,hq,qa2,qu,Ev.ev1,qb,Ev.AV.cells,Ev.AV.plain,qh,ne_eq,zgy,↓qc,↓reduceIte,Nat.reduceAdd,Nat.reduceEqDiff]
 |true=>
 by_cases g1:(l.length:Int)>200
 ·simp only[qcs,hH,hq,hll,g1,qa2,qu,Ev.ev1,qb,Ev.AV.cells,Ev.AV.plain,qh,ne_eq,zgy,↓qc,↓reduceIte,Nat.reduceAdd,Nat.reduceEqDiff,reduceCtorEq]
 by_cases g2:(m.length:Int)>200
 ·simp only[qcs,hH,hq,hll,hml,g1,g2,qa2,qu,Ev.ev1,qb,Ev.AV.cells,Ev.AV.plain,qh,ne_eq,zgy,↓qc,↓reduceIte,Nat.reduceAdd,Nat.reduceEqDiff,reduceCtorEq]
 obtain⟨G,l8,n4⟩:=hqb rfl
 obtain⟨k,k30,hsm⟩:=q2w lm hl
 obtain⟨V,v1,v2,wa,w64,wv⟩:=qabl a ha 64 (by omega)
 obtain⟨W,u1,u2,wb,w8,wu⟩:=qabl b hb 8 (by omega)
 have hp1:=qzq l cl V ⟨v1,by omega⟩ hlr (by omega)
 have hp2:=qzq m cm W ⟨u1,by omega⟩ hmr (by omega)
 obtain⟨n1,I1⟩:=qtq (lim:=k) G l8 n4 (W:=V) ⟨v1,by omega⟩ l (by omega) (by omega)
 obtain⟨n2,I2⟩:=qtq (lim:=k) G l8 n4 (W:=W) ⟨u1,by omega⟩ m (by omega) (by omega)
 obtain⟨K,er,hS⟩:=q1a G.v n4 c.cap (lim:=k) (by omega)
 obtain⟨h,P⟩:=qae2 G.v n4 (cap:=c.cap) (lim:=k) (by omega) K hS.first
 have hR1:=q1p false I1 G.check hS
 have hR2:=q1p false I2 G.check hS
 have hF1:=qzv false I1 G.check hS
 have hF2:=qzv false I2 G.check hS
 obtain⟨r1,r2,r3⟩:=P.rows (by omega)
 have hT:=qwa (qcd c K).trace false false r1 r2 r3
 obtain⟨s1,s2⟩:=P.short (by omega)
 have hLP:=qabv (qkq c (qcd c K)) (qkq c (qcd c K)) false false s1 s1 s2 s2
 rw[decide_eq_true rfl]at hLP
 have hFS:=qacl (qcc c K) false false (by simp[qcc];have:=hS.le40 G.v n4 (by omega);omega)
 have lo1 : ∀m,qc5 m ((qcd c K).trace.map qn)=true:=fun m=>qcb _ _
 have lo2 : ∀m,qc5 m ((qkq c (qcd c K)).map lpF)=true:=fun m=>qgu _ _
 have lo3 : ∀m,qc5 m ((qcc c K).map qa0)=true:=fun m=>qm _ _
 have lo4 : ∀q,qc5 q ((qqc (qco l V)).map qa0)=true:=fun m=>qm _ _
 have lo5 : ∀q,qc5 q ((qqc (qco m W)).map qa0)=true:=fun m=>qm _ _
 generalize (qcd c K).trace.map qn=TM at *
 generalize (qkq c (qcd c K)).map lpF=LM at *
 generalize (qcc c K).map qa0=FM at *
 generalize (qqc (qco l V)).map qa0=N1 at *
 generalize (qqc (qco m W)).map qa0=N2 at *
 simp only[Int.cast_ofNat_Int]at w64 w8 wv wu
 simp only[qcs,hH,hq,hll,hml,g1,g2,hsm,wa,wb,w64,w8,wv,wu,hp1,hp2,hR1,hR2,hF1,hF2,hT,hLP,hFS,lo1,lo2,lo3,lo4,lo5,q0n,qa2,qu,Ev.ev1,qb,Ev.AV.cells,Ev.AV.plain,qh,ne_eq,zgy,↓qc,↓reduceIte,Nat.reduceAdd,Nat.reduceEqDiff,reduceCtorEq]
end Go.Proofs.YtpgdfkciinankaaGreat.K
namespace Go.Ev
def Ctx.nil:Ctx:={ n:=0,loc:=fun _=>⟨0,0,0,0⟩,own:=fun _=>False,far:=fun _=>False }
theorem SR.nil (P:Program) (w:World):SR P Ctx.nil [] w where
 len:=rfl
 obj o ob h:=by simp at h
 blk o h:=absurd h (Nat.not_lt_zero _)
 inj o o' h:=absurd h (Nat.not_lt_zero _)
 ownlt b h:=h.elim
 farlt b h:=h.elim
 sep b h:=h.elim
section
variable (P:Program) {H:Type} (enc:TypeId×Value→H)
def qnn (t:TypeId) {τ:Type} (c:τ→List AV) (ok:τ→Prop):Prop:=
 ∀(w:World) (fuel:Nat) (cs:List Value) (d:DataW H) (ps:List MemPlace),DataW.trod enc P w 0 (fun _=>true) true fuel t cs=some (d,ps) → ∃x:τ,ok x∧VRs Ctx.nil w (c x) cs
variable {P enc}
theorem VRs.one {Γ:Ctx} {w:World} {a:AV} {v:Value} (h:VR Γ w a v):VRs Γ w [a] [v]:=by
 simp only[VRs];exact⟨v,[],rfl,h,rfl⟩
theorem qabc {t:TypeId} {k:IntKind} (hu:P.underlying t=some (.int k)):qnn P enc t (fun n:Int=>[.v (.int k n)]) (fun n=>(Lit.int k n).wf=true):=by
 intro w fuel cs d ps h
 cases fuel with
 |zero=>simp[DataW.trod]at h
 |succ fuel=>
  unfold DataW.trod at h
  rw[hu]at h
  split at h<;>rename_i heq<;>first|(cases heq;done)|(cases h;done)|skip
  cases heq
  split at h
  ·rename_i hk
   obtain⟨rfl,hwf⟩:=hk
   exact⟨_,hwf,VRs.one (by simp only[VR])⟩
  ·cases h
variable (P enc) in
def q2p (off:Nat) (fs:List Field) {τ:Type} (c:τ→List AV) (ok:τ→Prop) (tot:Nat):Prop:=
 ∀(w:World) (fuel:Nat) (cs:List Value),(∀(i:Nat) (f:Field),fs[i]? = some f → ∃x,DataW.trod enc P w 0 (fun _=>true) true fuel f.type ((cs.drop f.offset).take (P.cellsOf f.type))=some x) →
  ∃x:τ,ok x∧VRs Ctx.nil w (c x) ((cs.drop off).take tot)
theorem qyn (off:Nat):q2p P enc off [] (fun _:Unit=>[]) (fun _=>True) 0:=fun w fuel cs _=>⟨(),trivial,by simp[VRs]⟩
theorem qgr {off:Nat} {f:Field} {fs:List Field} {α β:Type} {c1:α→List AV} {ok1:α→Prop} {c2:β→List AV} {ok2:β→Prop} {tot:Nat} {sz:Nat} (ho:f.offset=off) (hs:P.cellsOf f.type=sz)
  (h1:qnn P enc f.type c1 ok1) (h2:q2p P enc (off+sz) fs c2 ok2 tot):q2p P enc off (f::fs) (fun x:α×β=>c1 x.1++c2 x.2) (fun x=>ok1 x.1∧ok2 x.2) (sz+tot):=by
 intro w fuel cs h
 obtain⟨⟨d,ps⟩,h3⟩:=h 0 f rfl
 obtain⟨x,k1,k2⟩:=h1 w fuel _ d ps h3
 obtain⟨y,k3,k4⟩:=h2 w fuel cs fun i g hg=>h (i+1) g (by simpa using hg)
 refine⟨(x,y),⟨k1,k3⟩,?_⟩
 rw[List.take_add,List.drop_drop]
 rw[ho,hs]at k2
 exact k2.append k4
theorem qab8 {t:TypeId} {fs:Array Field} {τ:Type} {c:τ→List AV} {ok:τ→Prop} (hu:P.underlying t=some (.struct fs)) (h:q2p P enc 0 fs.toList c ok (P.cellsOf t)):qnn P enc t c ok:=by
 intro w fuel cs d ps ht
 obtain⟨xs,n,rfl,_,hl,hx,hall⟩:=DataW.trod_struct hu ht
 obtain⟨x,k1,k2⟩:=h w n cs fun i f hf=>by
  have hf':fs[i]? = some f:=by simpa using hf
  have:=hall i f hf'
  have hlt:i<xs.length:=by rw[hx];exact(Array.getElem?_eq_some_iff.1 hf').1
  exact⟨xs[i],by rw[this,zgE hlt]⟩
 refine⟨x,k1,?_⟩
 rw[List.drop_zero,←hl,List.take_length]at k2
 exact k2
theorem quh {t:TypeId} {fs:Array Field} {τ:Type} {c:τ→List AV} {ok:τ→Prop} {n:Nat} (hu:P.underlying t=some (.struct fs)) (h:q2p P enc 0 fs.toList c ok n) (hn:P.cellsOf t=n):qnn P enc t c ok:=qab8 hu (by rw[hn];exact h)
theorem qnn.map {t:TypeId} {α β:Type} {c:α→List AV} {ok:α→Prop} {c':β→List AV} {ok':β→Prop} (g:α→β) (h:qnn P enc t c ok) (hc : ∀x,c' (g x)=c x) (ho : ∀x,ok x→ok' (g x)):qnn P enc t c' ok':=by
 intro w fuel cs d ps ht
 obtain⟨x,h1,h2⟩:=h w fuel cs d ps ht
 exact⟨g x,ho x h1,by rw[hc];exact h2⟩
theorem q79 {τ:Type} {Q:Nat→τ→Prop} : ∀(n:Nat),(∀i,i<n → ∃x,Q i x) → ∃xs:List τ,xs.length=n ∧ ∀(i:Nat) (x:τ),xs[i]? = some x→Q i x
 | 0,_=>⟨[],rfl,by simp⟩
 |n+1,h=>by
  obtain⟨xs,h1,h2⟩:=q79 n fun i hi=>h i (by omega)
  obtain⟨x,hx⟩:=h n (by omega)
  refine⟨xs++[x],by simp[h1],fun i y hy => ?_⟩
  rw[List.getElem?_append]at hy
  split at hy
  ·exact h2 i y hy
  ·rename_i hi
   have hlt:i-xs.length<1:=by
    have:=(zei.1 hy).1
    simpa using this
   have:i=n:=by omega
   subst this
   rw[h1,Nat.sub_self]at hy
   simp at hy;subst hy;exact hx
theorem qadw {Γ:Ctx} {w:World} {sz:Nat} {τ:Type} {c:τ→List AV} : ∀(xs:List τ) (get:Nat→Option Value),(∀(i:Nat) (x:τ),xs[i]? = some x→ql Γ w (c x) (fun j=>get (j+i*sz)))→qh0 Γ w sz (xs.map c) get
 | [],_,_=>by simp[qh0]
 |x::xs,get,h=>by
  simp only[List.map_cons,qh0]
  refine⟨by simpa using h 0 x (by simp),qadw xs _ fun i y hy => ?_⟩
  refine(h (i+1) y (by simpa using hy)).congr fun j => ?_
  congr 1
  rw[Nat.add_mul];omega
theorem qpw {t e:TypeId} {sz:Nat} {τ:Type} {c:τ→List AV} {ok:τ→Prop} (hu:P.underlying t=some (.slice e)) (hs:P.cellsOf e=sz) (h0:0<sz) (hc : ∀x,(c x).length=sz) (h:qnn P enc e c ok) :
  qnn P enc t (fun xs:List τ=>[.fsl (xs.map c) false]) (fun xs=>(∀x∈xs,ok x)∧xs.length≤maxLen):=by
 intro w fuel cs d ps ht
 rcases DataW.trod_slice hu ht with ⟨rfl,_⟩|⟨a,len,cap,elems,rest,n,rfl,rfl,_,_,hle,hcap,hel,hall,_⟩
 ·refine⟨[],by simp,VRs.one ?_⟩
  simp only[VR]
  exact⟨none,0,rfl,by simp,fun h=>(by cases h),.inl rfl⟩
 ·have hex : ∀i,i<len → ∃x:τ,ok x ∧ ∃vs,w.cells? 0 (a.add (i*sz)) sz=some vs∧VRs Ctx.nil w (c x) vs:=by
   intro i hi
   have hb:=hall i hi
   rw[zgE (by omega),zob]at hb
   obtain⟨vs,k1,k2⟩:=hb
   obtain⟨x,k3,k4⟩:=h w n vs _ _ k2
   rw[hs]at k1
   exact⟨x,k3,vs,k1,k4⟩
  obtain⟨xs,h4,h5⟩:=q79 (Q:=fun i x=>ok x ∧ ∃vs,w.cells? 0 (a.add (i*sz)) sz=some vs∧VRs Ctx.nil w (c x) vs) len hex
  refine⟨xs,⟨fun x hx => ?_,by omega⟩,VRs.one ?_⟩
  ·obtain⟨i,hi,rfl⟩:=List.mem_iff_getElem.1 hx
   exact(h5 i _ (by simp[hi])).1
  ·simp only[VR]
   refine⟨some a,cap,by simp[h4],by simp[h4];omega,fun h=>(by cases h),?_⟩
   by_cases hx0:xs=[]
   ·left;simp[hx0]
   ·right
    have hlen0:0<xs.length:=List.length_pos_iff.2 hx0
    have hcell : ∀(i:Nat) (x:τ),xs[i]? = some x → ∀j,j<sz → ∃v,w.cell? ((a.add (i*sz)).add j)=some v:=by
     intro i x hx j hj
     obtain⟨_,vs,k1,k2⟩:=h5 i x hx
     obtain⟨_,k3,k4⟩:=World.cells?_some k1
     exact⟨vs[j]'(by omega),by rw[k4 j hj,zgE (by omega)]⟩
    obtain⟨v0,hv0⟩:=hcell 0 xs[0] (by simp[hlen0]) 0 h0
    obtain⟨b,off,spot⟩:=a
    have hspot:spot=none:=by simpa[Addr.add]using World.cell?_spot hv0
    subst hspot
    have hblt:b<w.heap.size:=by
     rw[Addr.add_lit,Addr.add_lit]at hv0
     unfold World.cell? at hv0
     cases hh:w.heap[b]? with
     |none=>rw[hh]at hv0;simp at hv0
     |some o=>exact(Array.getElem?_eq_some_iff.1 hh).1
    refine⟨b,off,sz,rfl,⟨hblt,id,id⟩,h0,?_,?_⟩
    ·intro e he
     obtain⟨x,_,rfl⟩:=List.mem_map.1 he
     exact hc x
    ·refine qadw xs _ fun i x hx => ?_
     obtain⟨_,vs,k1,k2⟩:=h5 i x hx
     obtain⟨_,k3,k4⟩:=World.cells?_some k1
     refine ql.of_list k2 fun j v hj => ?_
     have hjl:=(zei.1 hj).1
     have:=k4 j (by omega)
     rw[hj,Addr.add_lit,Addr.add_lit]at this
     rw[←this]
     congr 2
     omega
end
end Go.Ev
namespace Go.Ev
open Go.RowKit (Below)
open Go.ChangeShapes Go.WideShapes Go.ChangeAt Go.RowKit
variable {H:Type} {enc:TypeId×Value→H} {P:Program}
theorem Ext.below {w w':World} {Γ':Ctx} (x:Ext Ctx.nil Γ' w w'):Below w.heap.size w w':=⟨x.os,x.tape,x.output,x.size,fun k hk=>x.same k hk id⟩
theorem q3c (hl:laidOutB P=true) {w w':World} (hb:Below w.heap.size w w') {sp:Nat→Bool} : ∀ {ts:List TypeId} {vs:List Value} {ds:List (DataW H)} {ps:List MemPlace},
  (∀t∈ts,P.readableRec t=true∧t<P.types.size)→DataW.TrodAll enc P w 0 (fun _=>true) true ts vs ds ps→(∀p∈ps,p.block<w.heap.size)→(∀p∈ps,sp p.block=true)→DataW.TrodAll enc P w' 0 sp true ts vs ds ps
 | [],[],[],ps,_,h,_,_=>h
 |t::ts,v::vs,d::ds,ps,ht,⟨p,q,h1,h2,e⟩,hlt,hs=>by
  subst e
  obtain⟨r1,r2⟩:=ht t (by simp)
  exact⟨p,q,WideElems.Trod_stays hl r1 r2 h1 (fun x hx=>hb.same (hlt x (List.mem_append_left _ hx))) (fun x hx=>hs x (List.mem_append_left _ hx)),
   q3c hl hb (fun u hu=>ht u (by simp[hu])) h2 (fun x hx=>hlt x (List.mem_append_right _ hx)) (fun x hx=>hs x (List.mem_append_right _ hx)),rfl⟩
 | [],_ :: _,_,_,_,h,_,_=>h.elim
 | [],[],_ :: _,_,_,h,_,_=>h.elim
 | _ :: _,[],_,_,_,h,_,_=>h.elim
 | _ :: _,_ :: _,[],_,_,h,_,_=>h.elim
theorem frz_bool {σ:qf} {d:Nat} {a:AV} {b:Bool}:frz σ (d+1) a=some (.v (.bool b))→a = .v (.bool b):=by
 intro h
 simp only[frz]at h
 split at h
 ·cases h;rfl
 ·cases a with
  |v x=>cases h;rfl
  |sl o g off len c=>
   simp only at h
   split at h
   ·split at h
    ·rw[zob]at h;obtain⟨_,_,h⟩:=h;cases h
    ·cases h
   ·cases h
  |ptr o g i off=>
   simp only at h
   split at h
   ·split at h
    ·rw[zob]at h;obtain⟨_,_,h⟩:=h
     rw[zob]at h;obtain⟨_,_,h⟩:=h;cases h
    ·cases h
   ·cases h
  |agg cs=>simp only[zob]at h;obtain⟨_,_,h⟩:=h;cases h
  |tup cs=>simp only[zob]at h;obtain⟨_,_,h⟩:=h;cases h
  |fsl es c=>simp only[zob]at h;obtain⟨_,_,h⟩:=h;cases h
  |fptr cs=>simp only[zob]at h;obtain⟨_,_,h⟩:=h;cases h
  |fn f a b=>simp only[zob]at h;obtain⟨_,_,_,_,h⟩:=h;cases h
  |yld o=>cases h
  |mp o=>cases h
theorem qair {T:Tab} (hT:TabOk P T) {f:Nat} {cf:CFunc} (hc:T.code f=some cf) {as_:List AV} {b:Bool} (h:qac (evL T) f as_=some (.v (.bool b))) {W:World} {args:Array Value} (hv:VRs Ctx.nil W as_ args.toList) :
  Calls P f args W fun e W'=>e = .returned (.bool b)∧Below W.heap.size W W':=by
 unfold qac at h
 rw[zob]at h
 obtain⟨⟨r,σ⟩,h1,h2⟩:=h
 obtain rfl:=frz_bool (d:=5) h2
 have hn:=evL_ok hT f as_ [] _ σ h1 Ctx.nil W args.toList (SR.nil P W) hv
 rw[Array.toArray_toList,hT.enter hc]at hn
 refine(callsIn_wide.1 hn).mono fun e W' he => ?_
 cases e with
 |returned v=>
  obtain⟨Γ',k1,_,k3⟩:=he
  simp only[VR]at k1
  exact⟨by rw[k1],k3.below⟩
 |panicked _=>exact he.elim
 |outgrown=>exact he.elim
theorem qaed {f:Func} {s:ChangeSpec} {apart fresh handsOn again:Bool} {W W':World} {args:Array Value} {ds gs:List (DataW H)} {before:List MemPlace} {tb:TypeId}
  (hvars:s.vars=[]) (hspec:s.fn H (ds++gs) = { results:=[.lit (.bool true)],args:=ds }) (hr:f.resultTypes = #[tb]) (htb:P.underlying tb=some .bool) (hl:laidOutB P=true)
  (hts : ∀t∈f.params.toList,P.readableRec t=true∧t<P.types.size)
  (hW:DataW.Whole enc P f.params.toList s.vars apart W args.toList ds gs before) (hb:Below W.heap.size W W'):s.post enc P f apart fresh handsOn again W args (.bool true) W':=by
 have hlt:=hW.lt
 have hW':=hW
 obtain⟨p,q,hA,hV,rfl,hz,hnd⟩:=hW
 rw[hvars]at hV
 obtain⟨rfl,rfl⟩:=trodVars_none hV
 have hargs : ∀sp:Nat→Bool,(∀x∈p,sp x.block=true)→DataW.TrodAll enc P W' 0 sp true f.params.toList args.toList ds p:=fun sp hs=>q3c hl hb hts hA (fun x hx=>hlt x (by simp[hx])) hs
 have hres : ∀(bb:Nat) (sp:Nat→Bool) (hd:Bool),DataW.TrodAll enc P W' bb sp hd f.resultTypes.toList ((Value.bool true).resultList f.resultTypes.size) [.lit (.bool true)] []:=fun bb sp hd=>by
  rw[hr]
  exact trodAll_mk1 (shut_bool htb true)
 refine⟨ds,[],p++[],[],p,[],hW',?_,?_,?_,hb.frame _,fun _=>⟨?_,?_⟩⟩
 ·rw[hspec];exact hres _ _ _
 ·rw[hspec];exact hargs _ fun x hx=>by simpa using hlt x (by simp[hx])
 ·rw[hspec,hvars];rfl
 ·exact ok_one hr rfl (okWide_bool_mk htb true)
 ·refine⟨[.lit (.bool true)]++ds,[],([]++p)++[],⟨[]++p,[],trodAll_append (hargs _ (fun _ _=>rfl)) (hres _ _ _),by rw[hvars];rfl,rfl,?_,?_⟩,?_⟩
  ·intro b off hp
   have hp':MemPlace.cell b off∈p:=by simpa using hp
   have hblt:b<W.heap.size:=hlt (.cell b off) (by simp[hp'])
   rw[hb.frozen (p:=⟨b,off,none⟩) hblt]
   exact hz b off (by simp[hp'])
  ·intro ha
   simpa using hnd ha
  ·intro x hx _
   simpa using hx
end Go.Ev
namespace Go.Ev
open Go.RowKit (Below)
open Go.ChangeShapes Go.WideShapes Go.ChangeAt Go.RowKit
section
variable {H:Type} (P:Program) (enc:TypeId×Value→H)
def qaa7 (ts:List TypeId) {τ:Type} (c:τ→List AV) (ok:τ→Prop):Prop:=
 ∀(W:World) (args:List Value) (ds:List (DataW H)) (p:List MemPlace),DataW.TrodAll enc P W 0 (fun _=>true) true ts args ds p →
  (∀(j:Nat) t v,ts[j]? = some t→args[j]? = some v → ∃base,Value.okWide P W .any base t v) → ∃x:τ,ok x∧VRs Ctx.nil W (c x) args∧ds.length=ts.length
variable {P enc}
def qakz:TypeDesc→Bool
 | .struct _=>false
 | .array _ _=>false
 | _=>true
theorem qaea {w:World} {r:Reach} {base:Nat} {t:TypeId} {v:Value} {u:TypeDesc} (hu:P.underlying t=some u) (hp:qakz u=true) (h:Value.okWide P w r base t v) : ∀cs,v ≠ .agg cs:=by
 rintro cs rfl
 unfold Value.okWide at h
 rw[hu]at h
 cases u<;>simp only[qakz,Bool.false_eq_true]at hp<;>simp only[Cell.okWide,Cell.ok,hu]at h
theorem qvi:qaa7 P enc [] (fun _:Unit=>[]) (fun _=>True):=by
 intro W args ds p h _
 obtain⟨rfl,rfl,rfl⟩:=trodAll_nil h
 exact⟨(),trivial,by simp[VRs],rfl⟩
theorem qef {t:TypeId} {ts:List TypeId} {u:TypeDesc} {α β:Type} {a:α→AV} {ok1:α→Prop} {c2:β→List AV} {ok2:β→Prop} (hu:P.underlying t=some u) (hp:qakz u=true)
  (h1:qnn P enc t (fun x=>[a x]) ok1) (h2:qaa7 P enc ts c2 ok2):qaa7 P enc (t::ts) (fun x:α×β=>a x.1::c2 x.2) (fun x=>ok1 x.1∧ok2 x.2):=by
 intro W args ds p h hval
 obtain⟨v,vs,d,ds',p,q,rfl,rfl,rfl,ht,hr⟩:=trodAll_cons h
 obtain⟨y,k1,k2,k3⟩:=h2 W vs ds' q hr fun j t v e1 e2=>hval (j+1) t v (by simpa using e1) (by simpa using e2)
 obtain⟨fuel,hf⟩:=ht
 obtain⟨x,m1,m2⟩:=h1 W fuel _ d p hf
 obtain⟨base,hv⟩:=hval 0 t v rfl rfl
 have hna:=qaea hu hp hv
 have hc:v.cells.toList=[v]:=by
  cases v with
  |agg cs=>exact absurd rfl (hna cs)
  | _=>rfl
 rw[hc]at m2
 simp only[VRs]at m2
 obtain⟨v',r,e,m3,rfl⟩:=m2
 cases e
 refine⟨(x,y),⟨m1,k1⟩,?_,by simp[k3]⟩
 simp only[VRs]
 exact⟨v,vs,rfl,m3,k2⟩
theorem qos {t:TypeId} {ts:List TypeId} {fs:Array Field} {α β:Type} {c1:α→List AV} {ok1:α→Prop} {c2:β→List AV} {ok2:β→Prop} (hu:P.underlying t=some (.struct fs))
  (h1:qnn P enc t c1 ok1) (h2:qaa7 P enc ts c2 ok2):qaa7 P enc (t::ts) (fun x:α×β => .agg (c1 x.1)::c2 x.2) (fun x=>ok1 x.1∧ok2 x.2):=by
 intro W args ds p h hval
 obtain⟨v,vs,d,ds',p,q,rfl,rfl,rfl,ht,hr⟩:=trodAll_cons h
 obtain⟨y,k1,k2,k3⟩:=h2 W vs ds' q hr fun j t v e1 e2=>hval (j+1) t v (by simpa using e1) (by simpa using e2)
 obtain⟨fuel,hf⟩:=ht
 obtain⟨x,m1,m2⟩:=h1 W fuel _ d p hf
 obtain⟨base,hv⟩:=hval 0 t v rfl rfl
 obtain⟨cs,rfl,_⟩:=okWide_struct hu hv
 refine⟨(x,y),⟨m1,k1⟩,?_,by simp[k3]⟩
 simp only[VRs]
 refine⟨_,vs,rfl,?_,k2⟩
 simp only[VR]
 exact⟨cs.toList,by simp,by simpa[Value.cells]using m2⟩
end
theorem qsi {H:Type} {enc:TypeId×Value→H} {P:Program} {T:Tab} (hT:TabOk P T) {f:Nat} {fn:Func} {cf:CFunc} (hc:T.code f=some cf) {s:ChangeSpec} {apart:Bool} {ts:List TypeId} {tb:TypeId} {τ:Type} {c:τ→List AV} {ok:τ→Prop}
  (hpar:fn.params.toList=ts) (hargs:qaa7 P enc ts c ok) (hlaw : ∀x,ok x→qac (evL T) f (c x)=some (.v (.bool true)))
  (hvars:s.vars=[]) (hspec : ∀ds:List (DataW H),ds.length=ts.length→s.fn H ds = { results:=[.lit (.bool true)],args:=ds })
  (hr:fn.resultTypes = #[tb]) (htb:P.underlying tb=some .bool) (hl:laidOutB P=true) (hts : ∀t∈ts,P.readableRec t=true∧t<P.types.size)
  (W:World) (base:Nat) (args:Array Value) (ds gs:List (DataW H)) (before:List MemPlace) (hval : ∀(j:Nat) t v,fn.params[j]? = some t→args[j]? = some v→Value.okWide P W .any base t v)
  (hW:DataW.Whole enc P fn.params.toList s.vars apart W args.toList ds gs before):Calls P f args W fun e W' => ∃v,e = .returned v∧s.post enc P fn apart true false false W args v W':=by
 have hW':=hW
 obtain⟨p,q,hA,hV,rfl,hz,hnd⟩:=hW
 rw[hvars]at hV
 obtain⟨rfl,rfl⟩:=trodVars_none hV
 obtain⟨x,h1,h2,h3⟩:=hargs W args.toList ds p (hpar▸hA) fun j t v e1 e2=>⟨base,hval j t v (by rw[←hpar]at e1;simpa using e1) (by simpa using e2)⟩
 refine(qair hT hc (hlaw x h1) h2).mono fun e W' ⟨he,hb⟩=>⟨_,he,?_⟩
 exact qaed hvars (by rw[List.append_nil];exact hspec ds h3) hr htb hl (by rw[hpar];exact hts) hW' hb
end Go.Ev
namespace Go.Proofs.YtpgdfkciinankaaGreat.K
open Go.Ev
open Go.ChangeShapes Go.WideShapes Go.ChangeAt Go.RowKit
section
variable {H:Type} {enc:TypeId×Value→H}
theorem wf_u8 {n:Int} (h:(Lit.int .u8 n).wf=true):0≤n∧n≤255:=by
 simp[Lit.wf]at h
 have h1:IntKind.u8.min=0:=rfl
 have h2:IntKind.u8.max=255:=rfl
 omega
theorem wf_i64 {n:Int} (h:(Lit.int .i64 n).wf=true) : -9223372036854775808≤n∧n≤9223372036854775807:=by
 simp[Lit.wf]at h
 have h1:IntKind.i64.min = -9223372036854775808:=rfl
 have h2:IntKind.i64.max=9223372036854775807:=rfl
 omega
theorem qqv:qnn Tryz.prog enc 3 (fun n:Int=>[(ii n)]) (fun n => -9223372036854775808≤n∧n≤9223372036854775807):=(qabc Tryz.underlying3).map id (fun _=>rfl) (fun _ h=>wf_i64 h)
theorem qpb:qnn Tryz.prog enc 5 (fun n:Int=>[(.v (.int .u8 n))]) (fun n=>0≤n∧n≤255):=(qabc Tryz.underlying5).map id (fun _=>rfl) (fun _ h=>wf_u8 h)
theorem qzm:qnn Tryz.prog enc 26 (fun l:List Int=>[(.fsl ((l).map u8C) false)]) (fun l=>(∀x∈l,0≤x∧x≤255)∧l.length≤maxLen):=qpw (sz:=1) Tryz.underlying26 (by kernel_rfl) (by decide) (fun _=>rfl) qpb
theorem data_op:qnn Tryz.prog enc 91 OpI.r (fun _=>True):=by
 have h:=quh (P:=Tryz.prog) (enc:=enc) (t:=91) Tryz.underlying91 (qgr (sz:=1) rfl (by kernel_rfl) qqv (qgr (sz:=1) rfl (by kernel_rfl) qqv (qgr (sz:=1) rfl (by kernel_rfl) qqv (qgr (sz:=1) rfl (by kernel_rfl) qqv (qyn _))))) (by kernel_rfl)
 exact h.map (fun x=>(⟨x.1,x.2.1,x.2.2.1,x.2.2.2.1⟩:OpI)) (fun _=>rfl) (fun _ _=>trivial)
theorem qamf:qnn Tryz.prog enc 61 (fun l:List OpI=>[(.fsl ((l).map OpI.r) false)]) (fun l=>(∀x∈l,True)∧l.length≤maxLen):=qpw (sz:=4) Tryz.underlying61 (by kernel_rfl) (by decide) (fun _=>rfl) data_op
theorem qai2:qnn Tryz.prog enc 23 (fun l:List (List OpI)=>[(.fsl ((l).map qaz) false)]) (fun l=>(∀x∈l,(∀y∈x,True)∧x.length≤maxLen)∧l.length≤maxLen):=qpw (sz:=1) Tryz.underlying23 (by kernel_rfl) (by decide) (fun _=>rfl) qamf
theorem qajb:qnn Tryz.prog enc 64 Start.r (fun _=>True):=by
 have h:=quh (P:=Tryz.prog) (enc:=enc) (t:=64) Tryz.underlying64 (qgr (sz:=1) rfl (by kernel_rfl) qqv (qgr (sz:=1) rfl (by kernel_rfl) qqv (qyn _))) (by kernel_rfl)
 exact h.map (fun x=>(⟨x.1,x.2.1⟩:Start)) (fun _=>rfl) (fun _ _=>trivial)
theorem qafj:qnn Tryz.prog enc 60 (fun l:List Start=>[(.fsl ((l).map Start.r) false)]) (fun l=>(∀x∈l,True)∧l.length≤maxLen):=qpw (sz:=2) Tryz.underlying60 (by kernel_rfl) (by decide) (fun _=>rfl) qajb
theorem data_lps:qnn Tryz.prog enc 22 (fun l:List (List Start)=>[(.fsl ((l).map lpC) false)]) (fun l=>(∀x∈l,(∀y∈x,True)∧x.length≤maxLen)∧l.length≤maxLen):=qpw (sz:=1) Tryz.underlying22 (by kernel_rfl) (by decide) (fun _=>rfl) qafj
theorem q2x:qnn Tryz.prog enc 25 (fun c:Cfg=>[(.fsl ((c.lps).map lpC) false),(.fsl ((c.progs).map qaz) false),(ii c.look),(ii c.fin),(ii c.cap)]) (fun c => -9223372036854775808≤c.look∧c.look≤9223372036854775807):=by
 have h:=quh (P:=Tryz.prog) (enc:=enc) (t:=25) Tryz.underlying25 (qgr (sz:=1) rfl (by kernel_rfl) data_lps (qgr (sz:=1) rfl (by kernel_rfl) qai2 (qgr (sz:=1) rfl (by kernel_rfl) qqv (qgr (sz:=1) rfl (by kernel_rfl) qqv (qgr (sz:=1) rfl (by kernel_rfl) qqv (qyn _)))))) (by kernel_rfl)
 exact h.map (fun x=>(⟨x.1,x.2.1,x.2.2.1,x.2.2.2.1,x.2.2.2.2.1⟩:Cfg)) (fun _=>rfl) (fun _ h=>h.2.2.1)
end
theorem own:ownKnob Tryz.prog.godebug=none:=by kernel_rfl
theorem laid:laidOutB Tryz.prog=true:=by kernel_rfl
open Go.Ev
set_option maxRecDepth 100000
section
variable {c:Cfg}
theorem q93 (c:Cfg) {k j:Nat} (hj:j<k):(qcc c k)[j]? = some ((flS c (qcd c j)).getD 0):=by unfold qcc;rw[List.getElem?_map,List.getElem?_range hj];rfl
theorem qajo (hv:Valid c) (n4:c.lps.length≤4) {cap:Int} {lim K:Nat} {e:Int} (hlim:lim≤30) (hS:Stop c cap lim K e) {j:Nat} (hj:j+1<K) :
  ∃f f',flS c (qcd c j)=some f∧flS c (qcd c (j+1))=some f'∧0≤f∧f+c.look≤f'∧f'<c.fin:=by
 obtain⟨h,P⟩:=qae2 hv n4 (cap:=cap) hlim j (fun i hi=>hS.first i (by omega))
 obtain⟨h',P'⟩:=qae2 hv n4 (cap:=cap) hlim (j+1) (fun i hi=>hS.first i (by omega))
 obtain⟨_,f,hf,hff,g2⟩:=qaah (hS.first j (by omega))
 obtain⟨_,f',hf',hff',g2'⟩:=qaah (hS.first (j+1) hj)
 rw[P.inv.count]at g2
 have g3:=g2'
 rw[P'.inv.count]at g3
 have F:=P.stF (by omega)
 have F':=P'.stF (by omega)
 obtain⟨fa,fe,fem,fet⟩:=F.floor hf
 obtain⟨fa',fe',fem',fet'⟩:=F'.floor hf'
 have ft:=(P.inv.ev fe (List.mem_append_right _ fem)).time
 have hw:qcd c (j+1)=qkh c (qcd c j) (q0j c f):=by show qaew c (qcd c j) = _;unfold qaew;rw[hf]
 obtain⟨h2,N⟩:=F.next (q0j c f)
 have hcnt:h2.length=h'.length:=by
  have e1:=N.inv.count
  have e2:=P'.inv.count
  rw[hw]at e2;omega
 have hA : ∀i,i<c.lps.length→(wAt c (qcd c j) (q0j c f) i).done.length<2000:=fun i hi=>by
  have:=qagp (c:=c) (s:=qcd c j) (q0j c f) hi
  have:=N.len
  omega
 have hz:q0j c f≤f+c.look:=by unfold q0j q1w;split<;>omega
 have hall:=F.after (q0j c f) fa hz hA fe' (by rw[←hw];exact fem')
 refine⟨f,f',hf,hf',by omega,?_,hff'⟩
 unfold q0j q1w at hall
 split at hall<;>omega
end
set_option maxHeartbeats 1000000 in
theorem qaee (c:Cfg) (a lm:Int) (ha:0≤a∧a≤255) (hl:0≤lm∧lm≤255) (l:List Int) (hlr : ∀x∈l,0≤x∧x≤255) (cl:Bool) :
  qac (evL T) qff [(.agg [(.fsl ((c.lps).map lpC) false),(.fsl ((c.progs).map qaz) false),(ii c.look),(ii c.fin),(ii c.cap)]),.v (.int .u8 a),(.fsl ((l).map u8C) cl),.v (.int .u8 lm)]=some (bb true):=by
 have hH:=qo1
 obtain⟨b1,hq,hqb⟩:=qr8 c
 have hll:(l.map u8C).length=l.length:=List.length_map ..
 rw[qac,qe qu3 qno]
 cases b1 with
 |false=>simp only[qfd,hH,hq,qa2,qu,Ev.ev1,qb,Ev.AV.cells,Ev.AV.plain,qh,ne_eq,zgy,↓qc,↓reduceIte,Nat.reduceAdd,Nat.reduceEqDiff]
 |true=>
 by_cases g1:(l.length:Int)>200
 ·simp only[qfd,hH,hq,hll,g1,qa2,qu,Ev.ev1,qb,Ev.AV.cells,Ev.AV.plain,qh,ne_eq,zgy,↓qc,↓reduceIte,Nat.reduceAdd,Nat.reduceEqDiff,reduceCtorEq]
 obtain⟨G,l8,n4⟩:=hqb rfl
 obtain⟨k,k30,hsm⟩:=q2w lm hl
 obtain⟨V,v1,v2,wa,w64,wv⟩:=qabl a ha 8 (by omega)
 have hp1:=qzq l cl V ⟨v1,by omega⟩ hlr (by omega)
 obtain⟨n1,I1⟩:=qtq (lim:=k) G l8 n4 (W:=V) ⟨v1,by omega⟩ l (by omega) (by omega)
 obtain⟨K,er,hS⟩:=q1a G.v n4 c.cap (lim:=k) (by omega)
 obtain⟨h,P⟩:=qae2 G.v n4 (cap:=c.cap) (lim:=k) (by omega) K hS.first
 have hR1:=q1p false I1 G.check hS
 have hF1:=qzv false I1 G.check hS
 have hKl:=hS.le40 G.v n4 (by omega)
 have hge:=P.ge
 have hcnt:=P.inv.count
 have hhl:=P.len
 have hfl:(qcc c K).length=K:=by simp[qcc]
 have hC:=qabg (qcd c K).trace false (by rw[P.inv.trl];omega) (by omega)
 have hL : ∃y,itB (exec (evL T) itL none qfj) (qai [4,9,12,15,16] true 0) ⟨[(4,(.fptr [(.fsl ((c.lps).map lpC) false),(.fsl ((c.progs).map qaz) false),(ii c.look),(ii c.fin),(ii c.cap)])),(9,(bb true)),(12,(.fsl (((qcd c K).trace).map qn) false)),(15,(.fsl (((qcc c K)).map qa0) false)),(16,(ii ((0+1:Nat))))],[]⟩ []=some y ∧
   (y.1 = .exit 0∧y.2.1.marks=[]∧y.2.2=[]∧Ev.look y.2.1.vars 9=some (bb true)∧Ev.look y.2.1.vars 12=some (.fsl (((qcd c K).trace).map qn) false)∧Ev.look y.2.1.vars 15=some (.fsl (((qcc c K)).map qa0) false)):=by
  have lo1 : ∀m,qc5 m ((qcd c K).trace.map qn)=true:=fun m=>qcb _ _
  have hfm:((qcc c K).map qa0).length=K:=by rw[List.length_map];exact hfl
  have key:=qg5 (f:=exec (evL T) itL none qfj) (s:=qai [4,9,12,15,16] true 0) (α:=Unit)
   (fun i _=>⟨[(4,(.fptr [(.fsl ((c.lps).map lpC) false),(.fsl ((c.progs).map qaz) false),(ii c.look),(ii c.fin),(ii c.cap)])),(9,(bb true)),(12,(.fsl (((qcd c K).trace).map qn) false)),(15,(.fsl (((qcc c K)).map qa0) false)),(16,(ii ((i+1:Nat))))],[]⟩) (fun i _=>[]) (fun _ _=>True) (K-1)
   (fun y=>y.1 = .exit 0∧y.2.1.marks=[]∧y.2.2=[]∧Ev.look y.2.1.vars 9=some (bb true)∧Ev.look y.2.1.vars 12=some (.fsl (((qcd c K).trace).map qn) false)∧Ev.look y.2.1.vars 15=some (.fsl (((qcc c K)).map qa0) false)) ?_ ?_ 0 () (Nat.zero_le _) trivial
  ·exact key
  ·rintro i _ hi _
   obtain⟨f,f',q1,q2,q3,q4,q5⟩:=qajo G.v n4 (lim:=k) (by omega) hS (j:=i) (by omega)
   have hfin:=G.v.fin
   have gi:((qcc c K).map qa0)[i]? = some [(ii f)]:=by rw[List.getElem?_map,q93 c (by omega),q1];rfl
   have gi1:((qcc c K).map qa0)[i+1]? = some [(ii f')]:=by rw[List.getElem?_map,q93 c (by omega),q2];rfl
   have hi':((i+1:Nat):Int)<(K:Int):=by omega
   have hw:IntKind.i64.wrap (((i+1:Nat):Int)+1)=((i+1+1:Nat):Int):=by rw[qi (by omega) (by omega)];simp
   have hw2:IntKind.i64.wrap (((i+1:Nat):Int)-1)=(i:Int):=by rw[qi (by omega) (by omega)];omega
   have hw3:IntKind.i64.wrap (f+c.look)=f+c.look:=qi (by have:=G.v.look;omega) (by omega)
   have c1:¬f'<f+c.look:=by omega
   have c2:¬f'≥c.fin:=by omega
   have loF : ∀m,qc5 m ((qcc c K).map qa0)=true:=fun m=>qm _ _
   refine .inl ⟨(),?_,trivial⟩
   generalize (qcc c K).map qa0=FM at *
   generalize (qcd c K).trace.map qn=TM at *
   simp only[qfj,hfm,hi',gi,gi1,hw,hw2,hw3,c1,c2,lo1,loF,zgs,zgr,qa2,qu,Ev.ev1,qb,zgy,↓qc,↓reduceIte,Nat.reduceEqDiff]
  ·rintro _ _
   have loF : ∀m,qc5 m ((qcc c K).map qa0)=true:=fun m=>qm _ _
   have c0:¬((K-1+1:Nat):Int)<(K:Int):=by omega
   generalize (qcc c K).map qa0=FM at *
   generalize (qcd c K).trace.map qn=TM at *
   simp only[qfj,hfm,c0,Ev.ev1,zgy,↓qc,↓reduceIte,Nat.reduceEqDiff]
   exact⟨_,rfl,rfl,rfl,rfl,rfl,rfl,rfl⟩
 obtain⟨⟨y,e,σ⟩,k1,k2,k3,k4,k5,k6,k7⟩:=hL
 simp only[zfd,Int.ofNat_one]at k1 k2 k3 k4 k5 k6 k7
 subst k2;subst k4
 have lo1 : ∀m,qc5 m ((qcd c K).trace.map qn)=true:=fun m=>qcb _ _
 have lo2 : ∀m,qc5 m ((qkq c (qcd c K)).map lpF)=true:=fun m=>qgu _ _
 have lo3 : ∀m,qc5 m ((qcc c K).map qa0)=true:=fun m=>qm _ _
 have lo4 : ∀q,qc5 q ((qqc (qco l V)).map qa0)=true:=fun m=>qm _ _
 have hfm:((qcc c K).map qa0).length=K:=by rw[List.length_map];exact hfl
 have cc:(K:Int)≤((qcd c K).trace.flatten.length:Int):=by omega
 generalize (qcd c K).trace.flatten.length=cn at *
 generalize (qcd c K).trace.map qn=TM at *
 generalize (qkq c (qcd c K)).map lpF=LM at *
 generalize (qcc c K).map qa0=FM at *
 generalize (qqc (qco l V)).map qa0=N1 at *
 simp only[Int.cast_ofNat_Int]at w64 wv
 simp only[qfd,hH,hq,hll,g1,hsm,wa,w64,wv,hp1,hR1,hF1,k1,k3,k5,k6,k7,hC,hfm,cc,lo1,lo3,lo4,q0n,qa2,qu,Ev.ev1,qb,Ev.AV.cells,Ev.AV.plain,qh,ne_eq,zgy,↓qc,↓qv,↓reduceIte,Nat.reduceAdd,Nat.reduceEqDiff,reduceCtorEq]
set_option maxHeartbeats 1000000 in
theorem qad5 (c:Cfg) (a lm:Int) (ha:0≤a∧a≤255) (hl:0≤lm∧lm≤255) (l:List Int) (hlr : ∀x∈l,0≤x∧x≤255) (cl:Bool) :
  qac (evL T) qfg [(.agg [(.fsl ((c.lps).map lpC) false),(.fsl ((c.progs).map qaz) false),(ii c.look),(ii c.fin),(ii c.cap)]),.v (.int .u8 a),(.fsl ((l).map u8C) cl),.v (.int .u8 lm)]=some (bb true):=by
 have hH:=qo1
 obtain⟨b1,hq,hqb⟩:=qr8 c
 have hll:(l.map u8C).length=l.length:=List.length_map ..
 rw[qac,qe quy qnm]
 cases b1 with
 |false=>simp only[qfe,hH,hq,qa2,qu,Ev.ev1,qb,Ev.AV.cells,Ev.AV.plain,qh,ne_eq,zgy,↓qc,↓reduceIte,Nat.reduceAdd,Nat.reduceEqDiff]
 |true=>
 by_cases g1:(l.length:Int)>200
 ·simp only[qfe,hH,hq,hll,g1,qa2,qu,Ev.ev1,qb,Ev.AV.cells,Ev.AV.plain,qh,ne_eq,zgy,↓qc,↓reduceIte,Nat.reduceAdd,Nat.reduceEqDiff,reduceCtorEq]
 obtain⟨G,l8,n4⟩:=hqb rfl
 obtain⟨k,k30,hsm⟩:=q2w lm hl
 obtain⟨V,v1,v2,wa,w64,wv⟩:=qabl a ha 8 (by omega)
 have hp1:=qzq l cl V ⟨v1,by omega⟩ hlr (by omega)
 obtain⟨n1,I1⟩:=qtq (lim:=k) G l8 n4 (W:=V) ⟨v1,by omega⟩ l (by omega) (by omega)
 obtain⟨K,er,hS⟩:=q1a G.v n4 c.cap (lim:=k) (by omega)
 have hA:=qahx false I1 G.check hS
 have hF1:=qzv false I1 G.check hS
 have hKl:=hS.le40 G.v n4 (by omega)
 have hFi:=qadm c.lps.length V (qco l V) false n1 (by omega) I1.w.1 I1.w.2 I1.p I1.pl I1.fin
 change qac (evL T) qe1 [(ii c.lps.length),(ii V),(.fsl (((qqc (qco l V))).map qa0) false)]=some (.tup [.fsl ((qk3 c V (qco l V) n1).map prC) false,(ii n1)])at hFi
 have hpl:(qk3 c V (qco l V) n1).length=c.lps.length:=by have:=(I1.fin.perm I1.w.1).length_eq;simp only[zgi,List.length_range]at this;exact this
 have hSm:=qadc (qk3 c V (qco l V) n1) false false (by omega)
 generalize qk3 c V (qco l V) n1=PP at *
 have hL : ∃y,itB (exec (evL T) itL none qhk) (qai [3,4,9,10,11,12,13,15] true 0) ⟨[(3,.v (.int .u8 lm)),(4,(.fptr [(.fsl ((c.lps).map lpC) false),(.fsl ((c.progs).map qaz) false),(ii c.look),(ii c.fin),(ii c.cap)])),(9,(bb true)),(10,(ii V)),(11,(.fsl (((qqc (qco l V))).map qa0) false)),(12,(.fsl (((List.replicate K PP)).map plC) false)),(13,.fsl (PP.map prC) false),(15,(ii ((0:Nat))))],[]⟩ []=some y ∧
   (y.1 = .exit 0∧y.2.1.marks=[]∧y.2.2=[]∧Ev.look y.2.1.vars 3=some (.v (.int .u8 lm))∧Ev.look y.2.1.vars 4=some (.fptr [(.fsl ((c.lps).map lpC) false),(.fsl ((c.progs).map qaz) false),(ii c.look),(ii c.fin),(ii c.cap)])∧Ev.look y.2.1.vars 9=some (bb true)∧Ev.look y.2.1.vars 10=some (ii V)∧Ev.look y.2.1.vars 11=some (.fsl (((qqc (qco l V))).map qa0) false)∧Ev.look y.2.1.vars 12=some (.fsl (((List.replicate K PP)).map plC) false)):=by
  have lo4 : ∀q,qc5 q ((qqc (qco l V)).map qa0)=true:=fun m=>qm _ _
  have hlm:(c.lps.map lpC).length=c.lps.length:=List.length_map ..
  have hpm:(PP.map prC).length=c.lps.length:=by rw[List.length_map];exact hpl
  have hrl:((List.replicate K PP).map plC).length=K:=by simp
  have loQ : ∀m,qc5 m ((List.replicate K PP).map plC)=true:=fun m=>qvp _ _
  refine q25 (List.replicate K PP) (fun i=>⟨[(3,.v (.int .u8 lm)),(4,(.fptr [(.fsl ((c.lps).map lpC) false),(.fsl ((c.progs).map qaz) false),(ii c.look),(ii c.fin),(ii c.cap)])),(9,(bb true)),(10,(ii V)),(11,(.fsl (((qqc (qco l V))).map qa0) false)),(12,(.fsl (((List.replicate K PP)).map plC) false)),(13,.fsl (PP.map prC) false),(15,(ii i))],[]⟩) [] _ ?_ ?_
  ·intro i x hi hx
   have hi2:i<K:=by simpa using hi
   have hi':(i:Int)<(K:Int):=by omega
   have hw:IntKind.i64.wrap ((i:Int)+1)=((i+1:Nat):Int):=by rw[qi (by omega) (by omega)];simp
   have hxe:x=PP:=List.eq_of_mem_replicate (zmg hx)
   have hg:((List.replicate K PP).map plC)[i]? = some [.fsl (PP.map prC) false]:=by rw[List.getElem?_map,hx,hxe];rfl
   generalize (List.replicate K PP).map plC=QM at *
   simp only[qhk,hrl,hi',hw,hg,hSm,hlm,hpm,loQ,lo4,qht,zgs,zgr,qa2,qu,Ev.ev1,qb,ne_eq,zgy,↓qc,↓reduceIte,Nat.reduceEqDiff]
  ·rw[List.length_replicate]
   generalize (List.replicate K PP).map plC=QM at *
   simp only[qhk,hrl,Int.lt_irrefl,Ev.ev1,zgy,↓qc,↓reduceIte,Nat.reduceEqDiff]
   exact⟨_,rfl,rfl,rfl,rfl,rfl,rfl,rfl,rfl,rfl,rfl⟩
 obtain⟨⟨y,e,σ⟩,k1,k2,k3,k4,k5,k6,k7,k8,k9,k10⟩:=hL
 simp only[Int.ofNat_zero]at k1 k2 k3 k4 k5 k6 k7 k8 k9 k10
 subst k2;subst k4
 have lo3 : ∀m,qc5 m ((qcc c K).map qa0)=true:=fun m=>qm _ _
 have lo4 : ∀q,qc5 q ((qqc (qco l V)).map qa0)=true:=fun m=>qm _ _
 have loQ : ∀m,qc5 m ((List.replicate K PP).map plC)=true:=fun m=>qvp _ _
 have hfm:((qcc c K).map qa0).length=K:=by simp[qcc]
 have hlm:(c.lps.map lpC).length=c.lps.length:=List.length_map ..
 have hrl:((List.replicate K PP).map plC).length=K:=by simp
 generalize (List.replicate K PP).map plC=QM at *
 generalize (qcc c K).map qa0=FM at *
 generalize (qqc (qco l V)).map qa0=N1 at *
 simp only[Int.cast_ofNat_Int]at w64 wv
 simp only[qfe,hH,hq,hll,hlm,g1,hsm,wa,w64,wv,hp1,hA,hF1,hFi,k1,k3,k5,k6,k7,k8,k9,k10,hfm,hrl,lo4,loQ,qht,q0n,qa2,qu,Ev.ev1,qb,Ev.AV.cells,Ev.AV.plain,qh,ne_eq,zgy,↓qc,↓qv,↓reduceIte,Nat.reduceAdd,Nat.reduceEqDiff,reduceCtorEq]
end Go.Proofs.YtpgdfkciinankaaGreat.K
