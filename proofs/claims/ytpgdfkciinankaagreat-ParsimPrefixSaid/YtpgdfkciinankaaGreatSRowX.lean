/- For every input ParsimPrefix returns true, and its arguments read as before. No conditions. -/
import Derived.Test.YtpgdfkciinankaaGreatGR04
import Derived.Test.YtpgdfkciinankaaGreatGR10
set_option linter.unusedSectionVars false
set_option linter.unusedSimpArgs false
set_option linter.unusedVariables false
namespace Go.Proofs.YtpgdfkciinankaaGreat.K
open Go.Ev
set_option maxRecDepth 100000
section
variable {c:Cfg}
theorem qaix {cap cap':Int} {lim lim':Nat} {s:Sim} (h1:cap'≤cap) (h2:lim'≤lim) (h:q0h c cap' lim' s=none):q0h c cap lim s=none:=by
 obtain⟨a,f,b,d,g⟩:=qaah h
 unfold q0h
 rw[if_neg (by omega),b]
 simp only
 rw[if_neg (by omega),if_neg (by omega)]
theorem Stop.le {cap cap':Int} {lim lim' K K':Nat} {e e':Int} (h1:cap'≤cap) (h2:lim'≤lim) (hS:Stop c cap lim K e) (hS':Stop c cap' lim' K' e'):K'≤K:=by
 refine Classical.byContradiction fun hn => ?_
 have:=qaix h1 h2 (hS'.first K (by omega))
 rw[hS.stop]at this;cases this
theorem Stop.same {cap cap':Int} {lim K K':Nat} {e e':Int} (h1:cap'≤cap) (hS:Stop c cap lim K e) (hS':Stop c cap' lim K' e') (he:e'≠10):K'=K:=by
 have hle:=Stop.le h1 (Nat.le_refl lim) hS hS'
 refine Classical.byContradiction fun hn => ?_
 have hf:=hS.first K' (by omega)
 obtain⟨a,f,b,d,g⟩:=qaah hf
 have hs:=hS'.stop
 unfold q0h at hs
 split at hs
 ·cases hs;exact he rfl
 ·rw[b]at hs
  simp only at hs
  rw[if_neg (by omega),if_neg (by omega)]at hs
  cases hs
theorem pre_ev (hv:Valid c) (n4:c.lps.length≤4) {cap:Int} {lim K K':Nat} {e:Int} (hlim:lim≤30) (hS:Stop c cap lim K e) (hle:K'≤K) :
  qac (evL T) qhi [(.fsl (((qcd c K').trace).map qn) false),(.fsl (((qcd c K).trace).map qn) false)]=some (bb true):=by
 obtain⟨h,P⟩:=qae2 hv n4 (cap:=cap) hlim K hS.first
 obtain⟨h',P'⟩:=qae2 hv n4 (cap:=cap) hlim K' (fun j hj=>hS.first j (by omega))
 obtain⟨r1,r2,r3⟩:=P.rows hlim
 refine qakl (qcd c K').trace (qcd c K).trace false false (by rw[P.inv.trl,P'.inv.trl]) (by rw[P'.inv.trl];have:=hv.lps;omega) (fun i x y hx hy => ?_) r2 r3
 have hi:i<c.lps.length:=by rw[←P.inv.trl];exact(zei.1 hy).1
 obtain⟨t,ht⟩:=qabk hv n4 (cap:=cap) (k:=K') hlim (K-K') (fun j hj=>hS.first j (by omega)) i hi
 rw[show K'+(K-K')=K by omega]at ht
 refine⟨t,?_⟩
 unfold qiu at ht
 rw[Int.toNat_natCast,hx,hy]at ht
 exact ht
end
set_option maxHeartbeats 1000000 in
theorem qai3 (c:Cfg) (a lm ls:Int) (ha:0≤a∧a≤255) (hl:0≤lm∧lm≤255) (hls:0≤ls∧ls≤255) (l:List Int) (hlr : ∀x∈l,0≤x∧x≤255) (cl:Bool) :
  qac (evL T) qgw [(.agg [(.fsl ((c.lps).map lpC) false),(.fsl ((c.progs).map qaz) false),(ii c.look),(ii c.fin),(ii c.cap)]),.v (.int .u8 a),(.fsl ((l).map u8C) cl),.v (.int .u8 lm),.v (.int .u8 ls)]=some (bb true):=by
 have hH:=qo1
 obtain⟨b1,hq,hqb⟩:=qr8 c
 have hll:(l.map u8C).length=l.length:=List.length_map ..
 rw[qac,qe qxv qoo]
 cases b1 with
 |false=>simp only[qe7,hH,hq,qa2,qu,Ev.ev1,qb,Ev.AV.cells,Ev.AV.plain,qh,ne_eq,zgy,↓qc,↓reduceIte,Nat.reduceAdd,Nat.reduceEqDiff]
 |true=>
 by_cases g1:(l.length:Int)>200
 ·simp only[qe7,hH,hq,hll,g1,qa2,qu,Ev.ev1,qb,Ev.AV.cells,Ev.AV.plain,qh,ne_eq,zgy,↓qc,↓reduceIte,Nat.reduceAdd,Nat.reduceEqDiff,reduceCtorEq]
 obtain⟨G,l8,n4⟩:=hqb rfl
 obtain⟨k,k30,hsm⟩:=q2w lm hl
 obtain⟨V,v1,v2,wa,w64,wv⟩:=qabl a ha 8 (by omega)
 have hcap:=G.v.cap
 have hp1:=qzq l cl V ⟨v1,by omega⟩ hlr (by omega)
 -- the smaller capacity
 have ws:IntKind.i64.wrap ls=ls:=qi (by omega) (by omega)
 have q1:=Int.tmod_lt_of_pos ls (show (0:Int)<8 by omega)
 have q2:=Int.tmod_nonneg (8:Int) hls.1
 have wm:IntKind.i64.wrap (c.cap-ls.tmod 8)=c.cap-ls.tmod 8:=qi (by omega) (by omega)
 obtain⟨m,hm,m1,m2⟩ : ∃m:Int,(if c.cap-ls.tmod 8>1 then c.cap-ls.tmod 8 else 1)=m∧1≤m∧m≤c.cap:=by
  refine⟨_,rfl,?_⟩
  split<;>omega
 have Gd:=G.capM (m:=m) ⟨m1,m2⟩
 obtain⟨n1,I1⟩:=qtq (lim:=k) G l8 n4 (W:=V) ⟨v1,by omega⟩ l (by omega) (by omega)
 obtain⟨n2,I2⟩:=qtq (c:={ c with cap:=m }) (lim:=k) Gd l8 n4 (W:=V) ⟨v1,by omega⟩ l (by omega) (by omega)
 obtain⟨n3,I3⟩:=qtq (lim:=k / 2) G l8 n4 (W:=V) ⟨v1,by omega⟩ l (by omega) (by omega)
 obtain⟨K,er,hS⟩:=q1a G.v n4 c.cap (lim:=k) (by omega)
 obtain⟨K2,er2,hS2⟩:=q1a Gd.v n4 m (lim:=k) (by omega)
 obtain⟨K3,er3,hS3⟩:=q1a G.v n4 c.cap (lim:=k / 2) (by omega)
 obtain⟨h,P⟩:=qae2 G.v n4 (cap:=c.cap) (lim:=k) (by omega) K hS.first
 have hR1:=q1p false I1 G.check hS
 have hR2:=q1p false I2 Gd.check hS2
 have hR3:=q1p false I3 G.check hS3
 have hS2':=hS2.cap
 have hP2:=pre_ev G.v n4 (by omega) hS (Stop.le m2 (Nat.le_refl k) hS hS2')
 have hP3:=pre_ev G.v n4 (by omega) hS (Stop.le (Int.le_refl _) (by omega:k / 2≤k) hS hS3)
 obtain⟨r1,r2,r3⟩:=P.rows (by omega)
 have hT:=qwa (qcd c K).trace false false r1 r2 r3
 rw[q7j]at hR2
 have hsm2:=Stop.same m2 hS hS2'
 have hdiv:((k:Nat):Int).tdiv 2=((k / 2:Nat):Int):=by rw[Int.tdiv_eq_ediv_of_nonneg (by omega)];rfl
 have hdw:IntKind.i64.wrap ((k / 2:Nat):Int)=((k / 2:Nat):Int):=qi (by omega) (by omega)
 have h2:¬(2:Int)=0:=by decide
 have h8:¬(8:Int)=0:=by decide
 have lo1 : ∀k m,qc5 m ((qcd c k).trace.map qn)=true:=fun _ m=>qcb _ _
 have lo2 : ∀m,qc5 m ((qkq c (qcd c K)).map lpF)=true:=fun m=>qgu _ _
 have lo2' : ∀m,qc5 m ((qkq c (qcd c K3)).map lpF)=true:=fun m=>qgu _ _
 have lo2'' : ∀q,qc5 q ((qkq { c with cap:=m } (qcd c K2)).map lpF)=true:=fun m=>qgu _ _
 have lo4 : ∀q,qc5 q ((qqc (qco l V)).map qa0)=true:=fun m=>qm _ _
 simp only[Int.cast_ofNat_Int]at w64 wv
 by_cases he:er2=10
 ·generalize (qkq c (qcd c K)).map lpF=LM at *
  generalize (qkq c (qcd c K3)).map lpF=LM3 at *
  generalize (qkq { c with cap:=m } (qcd c K2)).map lpF=LM2 at *
  generalize (qqc (qco l V)).map qa0=N1 at *
  simp only[qe7,hH,hq,hll,g1,hsm,wa,w64,wv,ws,wm,hm,h2,hdiv,hdw,hp1,hR1,hR2,hR3,hP2,hP3,he,lo1,lo4,q0n,qa2,qu,Ev.ev1,Ev.stP,qb,Ev.AV.cells,Ev.AV.uc,Ev.AV.plain,qh,ne_eq,zgy,↓qc,↓reduceIte,Nat.reduceAdd,Nat.reduceEqDiff,reduceCtorEq]
 ·have hK:=hsm2 he
  subst hK
  generalize (qkq c (qcd c K2)).map lpF=LM at *
  generalize (qkq c (qcd c K3)).map lpF=LM3 at *
  generalize (qkq { c with cap:=m } (qcd c K2)).map lpF=LM2 at *
  generalize (qqc (qco l V)).map qa0=N1 at *
  simp only[qe7,hH,hq,hll,g1,hsm,wa,w64,wv,ws,wm,hm,h2,hdiv,hdw,hp1,hR1,hR2,hR3,hP2,hP3,hT,he,lo1,lo4,q0n,qa2,qu,Ev.ev1,Ev.stP,qb,Ev.AV.cells,Ev.AV.uc,Ev.AV.plain,qh,ne_eq,zgy,↓qc,↓reduceIte,Nat.reduceAdd,Nat.reduceEqDiff,reduceCtorEq]
open Go.ChangeShapes Go.WideShapes Go.ChangeAt Go.RowKit
set_option maxRecDepth 100000 in
theorem parsimPrefix_lifted (os:Os) (started:os.Started) (H:Type) (enc:TypeId×Value→H) :
  ReturnsInHanded {} Tryz.checked os 5 .any (Rows.parsimPrefixSpec.pre6 enc Tryz.prog Tryz.f5 Rows.parsimPrefixRow.domain false) (Rows.parsimPrefixSpec.post enc Tryz.prog Tryz.f5 false true false false):=by
 refine returnsInHanded_of_change (C:=Tryz.checked) own started (by kernel_rfl) Tryz.func5
  (ChangeSpec.witness6 (enc:=enc) (C:=Tryz.checked) false ⟨#[],#[.agg #[.slice none 0 0,.slice none 0 0,.int .i64 0,.int .i64 0,.int .i64 0],.int .u8 0,.slice none 0 0,.int .u8 0,.int .u8 0],[]⟩ 8 (by kernel_rfl) (by kernel_rfl) (by kernel_rfl) (by kernel_rfl)) ?_
 intro W base args ds gs before hval hW hcnd _
 have hargs:=qos Tryz.underlying25 q2x (qef Tryz.underlying5 rfl qpb (qef Tryz.underlying26 rfl qzm (qef Tryz.underlying5 rfl qpb (qef Tryz.underlying5 rfl qpb (qvi (enc:=enc))))))
 refine qsi (P:=Tryz.prog) (fn:=Tryz.f5) (tb:=4) T_ok qoo (by rw[Tryz.params5]) hargs ?_ rfl ?_ (by kernel_rfl) Tryz.underlying4 laid (by decide +kernel) W base args ds gs before hval hW
 ·rintro⟨c,a,l,m,s,_⟩ ⟨_,h1,h2,h3,h4,_⟩
  exact qai3 c a m s h1 h3 h4 l h2.1 false
 ·intro ds h
  match ds,h with
  | [_,_,_,_,_],_=>rfl
theorem parsimPrefix_over:Rows.parsimPrefixRow.holds Tryz.pinned (OpenSpec.ofChange Rows.parsimPrefixSpec):=
 OpenClaim.holds_of_wide 5 Tryz.f5 rfl rfl rfl rfl rfl rfl rfl ⟨rfl,rfl,rfl,rfl,rfl⟩ rfl rfl rfl rfl rfl (by kernel_rfl) Tryz.func5 (by kernel_rfl)
  (of_decide_eq_true (by kernel_rfl)) (by unfold Func.isWrapper;first|(rw[if_pos (by decide +kernel)];kernel_rfl)|(rw[if_neg (by decide +kernel)];exact⟨rfl,rfl⟩))
  (fun os started H enc _=>parsimPrefix_lifted os started H enc)
end Go.Proofs.YtpgdfkciinankaaGreat.K
namespace Go.Proofs.YtpgdfkciinankaaGreat
theorem parsimPrefix_holds:Rows.ParsimPrefixSaid:=K.parsimPrefix_over
end Go.Proofs.YtpgdfkciinankaaGreat
#print axioms Go.Proofs.YtpgdfkciinankaaGreat.parsimPrefix_holds
