/- For every input the statement of this claim returns true: texts of its proof, joined (part 10). -/
import Derived.Test.YtpgdfkciinankaaGreatER3
import Derived.Test.YtpgdfkciinankaaGreatGR04
import Derived.Test.YtpgdfkciinankaaGreatGR06
import Derived.Test.YtpgdfkciinankaaGreatGR07
import Derived.Test.YtpgdfkciinankaaGreatGR08
set_option linter.unusedSectionVars false
set_option linter.unusedSimpArgs false
set_option linter.unusedVariables false
namespace Go.Proofs.YtpgdfkciinankaaGreat.K
open Go.Ev
set_option maxRecDepth 10000
section
variable (c:Cfg) (n:Nat) (A:qf) (O:List (List AV)) (hA:A.length=n+1) (rest:List Evt) (et ei ep ea:Int) (ek:List Int) (i:Nat) (hi:i<n) (k:Int) (ov:Bool)
include hA
theorem qaj9 (hi:i<n) (t:List Evt) (g:Nat) (ht:t.length≤10000) (hO:O[i]? = some [.sl (i+1) g 0 t.length false]) (hAi:A[i+1]? = some (.row 6 (t.map Evt.r) g)) (X:qf) (env:Env) (h0:Ev.look env.vars 0=some (.ptr (n+2) 0 0 0)) (h2:Ev.look env.vars 2=some (.ptr (n+3) 0 0 0)) :
  ∃env',exec (evL T) itL none cm3 env (A ++ .row 1 O 0::(.row 10 [[(.fsl ((c.lps).map lpC) false),(.fsl ((c.progs).map qaz) false),(ii c.look),(ii c.fin),(ii c.cap),.sl (n+1) 0 0 n false,.sl 0 1 0 n false,(.fsl ((rest).map Evt.r) false),(ii k),(bb ov)]] 0)::(.row 6 [[(ii et),(.fsl ((ek).map qa0) false),(ii i),(ii ei),(ii ep),(ii ea)]] 0)::X)=some (.normal,env',A.set (i+1) (.row 6 ((t++[(⟨et,ek,(i:Int),ei,ep,ea⟩:Evt)]).map Evt.r) (g+1)) ++ .row 1 (O.set i [.sl (i+1) (g+1) 0 (t.length+1) false]) 0::(.row 10 [[(.fsl ((c.lps).map lpC) false),(.fsl ((c.progs).map qaz) false),(ii c.look),(ii c.fin),(ii c.cap),.sl (n+1) 0 0 n false,.sl 0 1 0 n false,(.fsl ((rest).map Evt.r) false),(ii k),(bb ov)]] 0)::(.row 6 [[(ii et),(.fsl ((ek).map qa0) false),(ii i),(ii ei),(ii ep),(ii ea)]] 0)::X) ∧
   env'.marks=env.marks∧Ev.look env'.vars 0=some (.ptr (n+2) 0 0 0)∧Ev.look env'.vars 2=some (.ptr (n+3) 0 0 0):=by
 have p1:=fun B=>q70 hA B (i+1) (by omega)
 have p2:=fun B x=>qaca hA B x (i+1) (by omega)
 have b1:((n+2)==(i+1))=false:=by rw[beq_eq_false_iff_ne];omega
 have b2:((n+3)==(i+1))=false:=by rw[beq_eq_false_iff_ne];omega
 have b3:((n+1)==i)=false:=by rw[beq_eq_false_iff_ne];omega
 have b4:((n+2)==i)=false:=by rw[beq_eq_false_iff_ne];omega
 have tk:List.take t.length (t.map Evt.r)=t.map Evt.r:=ztl (by simp)
 have bd:(t.length+1)*64≤140737488355328:=by omega
 have hA2 : ∀v,(A.set (i+1) v).length=n+1:=fun v=>by rw[List.length_set];exact hA
 have q1:=fun v B=>q7z (hA2 v) B
 have q2:=fun v B=>qod (hA2 v) B
 have q3:=fun v B=>qadu (hA2 v) B
 have q4:=fun v B x=>pre_s1 (hA2 v) B x
 have hm : ∀e:Evt,(t++[e]).map Evt.r=t.map Evt.r++[e.r]:=fun e=>by rw[List.map_append];rfl
 rw[hm]
 simp only[qakm,cm2',cm3,qy4,qyq,qx,h0,h2,q7z hA,qod hA,qadu hA,p1,p2,q1,q4,hO,hAi,b1,b2,tk,bd,hi,Evt.r,zgr,zgs,Ev.ev1,Ev.stP,q3t,qb,qdj,Ev.AV.cells,Ev.AV.uc,Ev.AV.plain,Ev.AV.obj?,ne_eq,zgy,↓qc,↓reduceIte,Nat.reduceAdd,Nat.reduceEqDiff,Nat.reduceMul,Nat.reduceLeDiff,Nat.reducePow,reduceCtorEq]
 refine⟨_,rfl,?_,?_,?_⟩
 ·rfl
 ·exact h0
 ·exact h2
theorem qami (X:qf) (env:Env) (h0:Ev.look env.vars 0=some (.ptr (n+2) 0 0 0)) (h2:Ev.look env.vars 2=some (.ptr (n+3) 0 0 0)) :
  ∃env',exec (evL T) itL none cm4 env (A ++ .row 1 O 0::(.row 10 [[(.fsl ((c.lps).map lpC) false),(.fsl ((c.progs).map qaz) false),(ii c.look),(ii c.fin),(ii c.cap),.sl (n+1) 0 0 n false,.sl 0 1 0 n false,(.fsl ((rest).map Evt.r) false),(ii k),(bb ov)]] 0)::X)=some (.normal,env',A ++ .row 1 O 0::(.row 10 [[(.fsl ((c.lps).map lpC) false),(.fsl ((c.progs).map qaz) false),(ii c.look),(ii c.fin),(ii c.cap),.sl (n+1) 0 0 n false,.sl 0 1 0 n false,(.fsl ((rest).map Evt.r) false),(ii ((IntKind.i64.wrap (k+1)))),(bb ov)]] 0)::X) ∧
   env'.marks=env.marks∧Ev.look env'.vars 0=some (.ptr (n+2) 0 0 0)∧Ev.look env'.vars 2=some (.ptr (n+3) 0 0 0):=by
 simp only[qakm,cm2',cm3',cm4,qy4,qyq,qx,h0,qod hA,qabj hA,Ev.ev1,Ev.stP,qb,Ev.AV.cells,Ev.AV.uc,Ev.AV.plain,zgy,↓qc,↓reduceIte,Nat.reduceAdd,Nat.reduceEqDiff,Nat.reduceLeDiff]
 refine⟨_,rfl,?_,?_,?_⟩
 ·rfl
 ·exact h0
 ·exact h2
theorem qamn (hi:i<n) (L:List (Lp×Bool)) (x:Lp) (f:Bool) (hL:L[i]? = some (x,f)) (hA0:A[0]? = some (.row 4 (L.map lpF) 1)) (r:XRes) (hE:qac (evL T) qd8 [(.agg [(.fsl ((c.lps).map lpC) false),(.fsl ((c.progs).map qaz) false),(ii c.look),(ii c.fin),(ii c.cap)]),(.agg [(ii x.r0),(ii x.r1),(.fsl ((x.procs).map Pr.r) f),(ii x.sum)]),(.agg [(ii ((⟨et,ek,(i:Int),ei,ep,ea⟩:Evt).time)),(.fsl (((⟨et,ek,(i:Int),ei,ep,ea⟩:Evt).key).map qa0) false),(ii ((⟨et,ek,(i:Int),ei,ep,ea⟩:Evt).lp)),(ii ((⟨et,ek,(i:Int),ei,ep,ea⟩:Evt).kind)),(ii ((⟨et,ek,(i:Int),ei,ep,ea⟩:Evt).proc)),(ii ((⟨et,ek,(i:Int),ei,ep,ea⟩:Evt).arg))])]=some (.tup [(.agg [(ii r.lp.r0),(ii r.lp.r1),(.fsl ((r.lp.procs).map Pr.r) f),(ii r.lp.sum)]),(.fsl ((r.out).map Evt.r) r.nil),(.fsl ((r.gone).map qna) r.nil),(bb r.over)]))
  (env:Env) (h0:Ev.look env.vars 0=some (.ptr (n+2) 0 0 0)) (h2:Ev.look env.vars 2=some (.ptr (n+3) 0 0 0)) :
  ∃env',exec (evL T) itL none cm5 env (A++[.row 1 O 0,(.row 10 [[(.fsl ((c.lps).map lpC) false),(.fsl ((c.progs).map qaz) false),(ii c.look),(ii c.fin),(ii c.cap),.sl (n+1) 0 0 n false,.sl 0 1 0 n false,(.fsl ((rest).map Evt.r) false),(ii k),(bb ov)]] 0),(.row 6 [[(ii et),(.fsl ((ek).map qa0) false),(ii i),(ii ei),(ii ep),(ii ea)]] 0),.hole])=some (.normal,env',A++[.row 1 O 0,(.row 10 [[(.fsl ((c.lps).map lpC) false),(.fsl ((c.progs).map qaz) false),(ii c.look),(ii c.fin),(ii c.cap),.sl (n+1) 0 0 n false,.sl 0 1 0 n false,(.fsl ((rest).map Evt.r) false),(ii k),(bb ov)]] 0),(.row 6 [[(ii et),(.fsl ((ek).map qa0) false),(ii i),(ii ei),(ii ep),(ii ea)]] 0),.row 1 [[(.fsl ((r.gone).map qna) false)]] 1,.row 4 [lpF (r.lp,f)] 0]) ∧
   env'.marks=env.marks∧Ev.look env'.vars 0=some (.ptr (n+2) 0 0 0)∧Ev.look env'.vars 2=some (.ptr (n+3) 0 0 0)∧Ev.look env'.vars 3=some (.ptr (n+5) 0 0 0)∧Ev.look env'.vars 4=some (.fsl ((r.out).map Evt.r) r.nil)∧Ev.look env'.vars 5=some (.ptr (n+4) 1 0 0)∧Ev.look env'.vars 6=some (bb r.over):=by
 have p1:=fun B=>q70 hA B 0 (by omega)
 have hLm:(L.map lpF)[i]? = some (lpF (x,f)):=by rw[List.getElem?_map,hL];rfl
 simp only[qakm,cm2',cm3',cm4',cm5,qy4,qyq,qx,h0,h2,qod hA,qadu hA,pre_g4 hA,pre_g5 hA,pre_s4 hA,pre_s5 hA,hA,Nat.add_assoc,List.append_assoc,p1,hA0,hLm,hi,hE,lpF,zgr,zgs,qm,qa2,qu,qa3,Ev.ev1,Ev.stP,qb,Ev.AV.cells,Ev.AV.uc,Ev.AV.plain,ne_eq,zgy,↓qc,↓reduceIte,Nat.reduceAdd,Nat.reduceEqDiff,Nat.reduceLeDiff,reduceCtorEq]
 refine⟨_,rfl,?_,?_,?_,?_,?_,?_,?_⟩
 ·rfl
 ·exact h0
 ·exact h2
 ·rfl
 ·rfl
 ·rfl
 ·rfl
theorem qakf (hi:i<n) (L:List (Lp×Bool)) (x y:Lp×Bool) (hL:L[i]? = some x) (hA0:A[0]? = some (.row 4 (L.map lpF) 1)) (X:SObj) (env:Env) (h0:Ev.look env.vars 0=some (.ptr (n+2) 0 0 0)) (h2:Ev.look env.vars 2=some (.ptr (n+3) 0 0 0)) (h3:Ev.look env.vars 3=some (.ptr (n+5) 0 0 0))
  (v4 v5 v6:AV) (h4:Ev.look env.vars 4=some v4) (h5:Ev.look env.vars 5=some v5) (h6:Ev.look env.vars 6=some v6) :
  ∃env',exec (evL T) itL none cm6 env (A++[.row 1 O 0,(.row 10 [[(.fsl ((c.lps).map lpC) false),(.fsl ((c.progs).map qaz) false),(ii c.look),(ii c.fin),(ii c.cap),.sl (n+1) 0 0 n false,.sl 0 1 0 n false,(.fsl ((rest).map Evt.r) false),(ii k),(bb ov)]] 0),(.row 6 [[(ii et),(.fsl ((ek).map qa0) false),(ii i),(ii ei),(ii ep),(ii ea)]] 0),X,.row 4 [lpF y] 0])=some (.normal,env',A.set 0 (.row 4 ((L.set i y).map lpF) 1)++[.row 1 O 0,(.row 10 [[(.fsl ((c.lps).map lpC) false),(.fsl ((c.progs).map qaz) false),(ii c.look),(ii c.fin),(ii c.cap),.sl (n+1) 0 0 n false,.sl 0 1 0 n false,(.fsl ((rest).map Evt.r) false),(ii k),(bb ov)]] 0),(.row 6 [[(ii et),(.fsl ((ek).map qa0) false),(ii i),(ii ei),(ii ep),(ii ea)]] 0),X,.row 4 [lpF y] 0]) ∧
   env'.marks=env.marks∧Ev.look env'.vars 0=some (.ptr (n+2) 0 0 0)∧Ev.look env'.vars 4=some v4∧Ev.look env'.vars 5=some v5∧Ev.look env'.vars 6=some v6:=by
 have p1:=fun B=>q70 hA B 0 (by omega)
 have p2:=fun B x=>qaca hA B x 0 (by omega)
 have hLm:(L.map lpF)[i]? = some (lpF x):=by rw[List.getElem?_map,hL];rfl
 rw[List.map_set]
 simp only[qakm,cm2',cm3',cm4',cm5',cm6,qy4,qyq,qx,h0,h2,h3,qod hA,qadu hA,pre_g5 hA,p1,p2,hA0,hLm,hi,lpF,zgr,zgs,Ev.ev1,Ev.stP,qb,Ev.AV.cells,Ev.AV.plain,zgy,↓qc,↓reduceIte,Nat.reduceAdd,Nat.reduceEqDiff]
 refine⟨_,rfl,?_,?_,?_,?_,?_⟩
 ·rfl
 ·exact h0
 ·exact h4
 ·exact h5
 ·exact h6
theorem qamm (X:qf) (env:Env) (h0:Ev.look env.vars 0=some (.ptr (n+2) 0 0 0)) (v4 v5:AV) (o6:Bool) (h4:Ev.look env.vars 4=some v4) (h5:Ev.look env.vars 5=some v5) (h6:Ev.look env.vars 6=some (bb o6)) :
  ∃env',exec (evL T) itL none cm7 env (A ++ .row 1 O 0::(.row 10 [[(.fsl ((c.lps).map lpC) false),(.fsl ((c.progs).map qaz) false),(ii c.look),(ii c.fin),(ii c.cap),.sl (n+1) 0 0 n false,.sl 0 1 0 n false,(.fsl ((rest).map Evt.r) false),(ii k),(bb ov)]] 0)::X)=some (.normal,env',A ++ .row 1 O 0::(.row 10 [[(.fsl ((c.lps).map lpC) false),(.fsl ((c.progs).map qaz) false),(ii c.look),(ii c.fin),(ii c.cap),.sl (n+1) 0 0 n false,.sl 0 1 0 n false,(.fsl ((rest).map Evt.r) false),(ii k),(bb ((ov||o6)))]] 0)::X) ∧
   env'.marks=env.marks∧Ev.look env'.vars 0=some (.ptr (n+2) 0 0 0)∧Ev.look env'.vars 4=some v4∧Ev.look env'.vars 5=some v5:=by
 cases ov
 ·simp only[qakm,cm2',cm3',cm4',cm5',cm6',cm7,qy4,qyq,qx,h0,h6,qod hA,qabj hA,Ev.ev1,Ev.stP,qb,Ev.AV.cells,Ev.AV.uc,Ev.AV.plain,zgy,↓qc,↓reduceIte,Nat.reduceAdd,Nat.reduceEqDiff,reduceCtorEq]
  refine⟨_,rfl,?_,?_,?_,?_⟩
  ·rfl
  ·exact h0
  ·exact h4
  ·exact h5
 ·simp only[qakm,cm2',cm3',cm4',cm5',cm6',cm7,qy4,qyq,qx,h0,qod hA,qabj hA,Ev.ev1,Ev.stP,qb,Ev.AV.cells,Ev.AV.uc,Ev.AV.plain,zgy,↓qc,↓reduceIte,Nat.reduceAdd,Nat.reduceEqDiff,reduceCtorEq]
  refine⟨_,rfl,?_,?_,?_,?_⟩
  ·rfl
  ·exact h0
  ·exact h4
  ·exact h5
theorem qak4 (σ:qf) (env:Env) (h0:Ev.look env.vars 0=some (.ptr (n+2) 0 0 0)) (v4 v5:AV) (h4:Ev.look env.vars 4=some v4) (h5:Ev.look env.vars 5=some v5) :
  ∃env',exec (evL T) itL none cm8 env σ=some (.normal,env',σ) ∧
   env'.marks=env.marks∧Ev.look env'.vars 0=some (.ptr (n+2) 0 0 0)∧Ev.look env'.vars 4=some v4∧Ev.look env'.vars 7=some (.fn (.func qaa) [] [v5]):=by
 simp only[qakm,cm2',cm3',cm4',cm5',cm6',cm7',cm8,qy4,qyq,qx,h5,Ev.ev1,zgy,↓qc,↓reduceIte]
 refine⟨_,rfl,?_,?_,?_,?_⟩
 ·rfl
 ·exact h0
 ·exact h4
 ·rfl
end
set_option maxRecDepth 10000
theorem q26 (n sz:Nat) (es:List (List AV)) (g:Nat):SObj.lo n (.row sz es g)=qc5 n es:=by simp only[SObj.lo]
section
variable (c:Cfg) (n:Nat) (A:qf) (O:List (List AV)) (hA:A.length=n+1) (rest:List Evt) (et ei ep ea:Int) (ek:List Int) (i:Nat) (hi:i<n) (k:Int) (ov:Bool)
include hA
theorem qajk (alo:qct (n+1) A=true) (olo:qc5 (n+1) O=true) (X3 X5:SObj) (lo3:X3.lo (n+1)=true) (lo5:X5.lo (n+1)=true) (G:List (List Int)) (out:List Evt) (nl:Bool)
  (hG:G.length≤1000) (hGk : ∀k∈G,k.length≤9223372036854775807) (hD:(rest++out).length≤1000000) (hk:qc4 (rest++out)) (hd:q3p (rest++out))
  (env:Env) (h0:Ev.look env.vars 0=some (.ptr (n+2) 0 0 0)) (h4:Ev.look env.vars 4=some (.fsl ((out).map Evt.r) nl)) (h7:Ev.look env.vars 7=some (.fn (.func qaa) [] [.ptr (n+4) 1 0 0])) :
  ∃env',exec (evL T) itL none cm9 env (A++[.row 1 O 0,(.row 10 [[(.fsl ((c.lps).map lpC) false),(.fsl ((c.progs).map qaz) false),(ii c.look),(ii c.fin),(ii c.cap),.sl (n+1) 0 0 n false,.sl 0 1 0 n false,(.fsl ((rest).map Evt.r) false),(ii k),(bb ov)]] 0),X3,.row 1 [[(.fsl ((G).map qna) false)]] 1,X5])=some (.normal,env',A++[.row 1 O 0,(.row 10 [[(.fsl ((c.lps).map lpC) false),(.fsl ((c.progs).map qaz) false),(ii c.look),(ii c.fin),(ii c.cap),.sl (n+1) 0 0 n false,.sl 0 1 0 n false,(.fsl (((sortL ((rest++out).filter (qd4 G)))).map Evt.r) false),(ii k),(bb ov)]] 0),X3,.row 1 [[(.fsl ((G).map qna) false)]] 1,X5,.dead]) ∧
   env'.marks=env.marks:=by
 obtain⟨g,hc⟩:=qvu [rest,out] true (by simp) (by simpa using hD) (by simp)
 have hfl:[rest,out].flatten=rest++out:=by simp
 rw[hfl]at hc
 have mono : ∀ {m:Nat},n+1≤m→qct m A=true∧qc5 m O=true∧X3.lo m=true∧X5.lo m=true:=fun h=>⟨qk1 h alo,ql5 h _ olo,qws h _ lo3,qws h _ lo5⟩
 obtain⟨m1,m2,m3,m4⟩:=mono (m:=n+7) (by omega)
 obtain⟨E,hE1,hE2,hE3⟩:=qak7 (A++[.row 1 O 0,(.row 10 [[(.fsl ((c.lps).map lpC) false),(.fsl ((c.progs).map qaz) false),(ii c.look),(ii c.fin),(ii c.cap),.sl (n+1) 0 0 n false,.sl 0 1 0 n false,(.fsl ((rest).map Evt.r) false),(ii k),(bb ov)]] 0),X3,.row 1 [[(.fsl ((G).map qna) false)]] 1,X5,.row 6 ((rest++out).map Evt.r) g]) (n+4) (n+6) g (n+7) G (rest++out)
  ⟨by rw[pre_g4 hA];rfl,hG,hGk⟩ (by simp[hA]) (by
   have d1:n+1<n+7:=by omega
   have d0:0<n+7:=by omega
   rw[qmm,m1]
   simp only[qct,q26,m2,m3,m4,qhn,qqz,qtr,qyr,qag5,lo_v,qaeu,qq,qew,qa2,qu,zgv,d1,d0,zfc]) (by omega) (by omega) (by omega) (by rw[pre_g6 hA];rfl) hD hk
 have hsub:((rest++out).filter (qd4 G)).Sublist (rest++out):=List.filter_sublist
 have hs:=qng ((rest++out).filter (qd4 G)) false (by have:=hsub.length_le;omega) (fun x hx=>hk x (hsub.subset hx)) (List.Pairwise.sublist hsub hd)
 have tE:(E.map Evt.r).take ((rest++out).filter (qd4 G)).length=((rest++out).filter (qd4 G)).map Evt.r:=by rw[←List.map_take,hE2]
 have hEl:((rest++out).filter (qd4 G)).length≤(E.map Evt.r).length:=by rw[List.length_map];exact hE1
 generalize (rest++out).filter (qd4 G)=F at hE3 hs tE hEl⊢
 generalize rest++out=D at hc hE3
 rw[pre_s6 hA]at hE3
 simp only[List.map_cons,List.map_nil,qn,zgk,zgj]at hc hE3
 simp only[zgi]at hEl
 have hrep:List.replicate 2 [(.fsl [] false:AV)]=[[.fsl [] false],[.fsl [] false]]:=rfl
 simp only[qakm,cm2',cm3',cm4',cm5',cm6',cm7',cm9,qyq,qx,hrep,h0,h4,h7,qod hA,pre_g6 hA,qabj hA,pre_s6 hA,hA,Nat.add_assoc,List.append_assoc,hc,hE3,hs,tE,hEl,qkn,qq,Nat.add_comm,Ev.ev1,Ev.stP,qae6,q1x,q9d,qb,Ev.AV.cells,Ev.AV.uc,Ev.AV.plain,ne_eq,zgy,↓qc,↓reduceIte,Nat.reduceAdd,Nat.reduceEqDiff,Nat.reduceMul,Nat.reduceLT,Nat.reduceLeDiff,Nat.reducePow,reduceCtorEq]
 refine⟨_,rfl,?_⟩
 rfl
end
set_option maxRecDepth 10000
section
variable {c:Cfg} {s:Sim} {h:List Evt} {n:Nat} {L:List (Lp×Bool)} {A:qf} {O:List (List AV)}
theorem SimSt.lpAt (S:SimSt n s L A O) {i:Nat} (hi:i<n) : ∃f:Bool,L[i]? = some (K.lpAt s i,f)∧(f=true→(K.lpAt s i).procs=[]):=by
 obtain⟨x,hx⟩ : ∃x,L[i]? = some x:=⟨_,zgE (by rw[S.lpl];exact hi)⟩
 have h1:s.lps[i]? = some x.1:=by rw[←S.lpf,List.getElem?_map,hx];rfl
 have h2:K.lpAt s i=x.1:=by unfold K.lpAt;rw[Int.toNat_natCast,h1];rfl
 exact⟨x.2,by rw[h2];exact hx,fun hf=>by rw[h2];exact S.flag x (zmg hx) hf⟩
theorem trAt_set {s:Sim} {T':List (List Evt)} {L':List Lp} {P:List Evt} {m:Nat} {o:Bool} (i j:Nat) (t:List Evt) (hT:T'=s.trace.set i t) (hi:i<s.trace.length):qiu ⟨T',L',P,m,o⟩ (j:Int)=if i=j then t else qiu s j:=by
 unfold qiu
 simp only[zgr]
 subst hT
 by_cases e:i=j
 ·subst e;rw[List.getElem?_set_self hi,if_pos rfl];rfl
 ·rw[List.getElem?_set_ne e,if_neg e]
theorem SimSt.step (S:SimSt n s L A O) {e:Evt} {i:Nat} (hi:i<n) (he:e.lp=(i:Int)) {g:Nat} {f:Bool} (rest:List Evt) (hf:f=true→(qa1 c (K.lpAt s i) e).lp.procs=[]) :
  SimSt n (s.step c e rest) (L.set i ((qa1 c (K.lpAt s i) e).lp,f)) ((A.set (i+1) (.row 6 ((qiu s i++[e]).map Evt.r) (g+1))).set 0 (.row 4 ((L.set i ((qa1 c (K.lpAt s i) e).lp,f)).map lpF) 1)) (O.set i [.sl (i+1) (g+1) 0 ((qiu s i).length+1) false]):=by
 have hin:e.lp.toNat=i:=by omega
 have c1:i+1<n+1:=by omega
 refine⟨by rw[List.length_set,List.length_set];exact S.len,?_,by rw[List.length_set];exact S.lpl,?_,?_,?_,by rw[List.length_set];exact S.ol,?_,?_,?_⟩
 ·rw[List.getElem?_set_self (by rw[List.length_set,S.len];omega)]
 ·rw[List.map_set,S.lpf];show _=s.lps.set e.lp.toNat (qa1 c (K.lpAt s e.lp) e).lp;rw[hin,he]
 ·intro x hx
  rcases List.mem_or_eq_of_mem_set hx with hx|rfl
  ·exact S.flag x hx
  ·exact hf
 ·show (s.trace.set _ _).length=n;rw[List.length_set];exact S.trl
 ·intro j hj
  obtain⟨g',h1,h2⟩:=S.tr j hj
  have ht:=trAt_set (s:=s) (T':=(s.step c e rest).trace) (L':=(s.step c e rest).lps) (P:=(s.step c e rest).pend) (m:=(s.step c e rest).n) (o:=(s.step c e rest).over) i j (qiu s i++[e]) (by show s.trace.set e.lp.toNat (qiu s e.lp++[e]) = _;rw[hin,he]) (by rw[S.trl];exact hi)
  change qiu (s.step c e rest) (j:Int) = _ at ht
  rw[ht]
  by_cases e1:i=j
  ·subst e1
   refine⟨g+1,?_,?_⟩
   ·rw[if_pos rfl,List.getElem?_set_ne (by omega),List.getElem?_set_self (by rw[S.len];omega)]
   ·rw[if_pos rfl,List.getElem?_set_self (by rw[S.ol];omega),List.length_append];rfl
  ·refine⟨g',?_,?_⟩
   ·rw[if_neg e1,List.getElem?_set_ne (by omega),List.getElem?_set_ne (by omega)];exact h1
   ·rw[if_neg e1,List.getElem?_set_ne e1];exact h2
 ·exact qpa (qpa S.alo _ (by rw[q26];exact qq _ _)) _ (by rw[q26];exact qgu _ _)
 ·have:=S.olo
  have hl : ∀ {n:Nat} {O:List (List AV)} (i:Nat) (x:List AV),qc5 n O=true→los n x=true→qc5 n (O.set i x)=true:=by
   intro n O
   induction O with
   |nil=>intro i x h _;exact h
   |cons a O ih=>
    intro i x h hx
    simp only[qhn,Bool.and_eq_true]at h
    cases i with
    |zero=>rw[List.set_cons_zero,qhn,hx,h.2];rfl
    |succ i=>rw[List.set_cons_succ,qhn,h.1,ih i x h.2 hx];rfl
  refine hl i _ this ?_
  simp only[qtr,qyr,qaeu,c1,zgv,zfc]
theorem qalb (H:SInv c s h) (hn:c.lps.length=n) (S:SimSt n s L A O) {e:Evt} {rest:List Evt} (hp:s.pend=e::rest) (hh:h.length≤3000) :
  ∃(L':List (Lp×Bool)) (A':qf) (O':List (List AV)),SimSt n (s.step c e rest) L' A' O' ∧
   (evL T).call qda [(.ptr (n+2) 0 0 0)] (A++[.row 1 O 0,(.row 10 [[(.fsl ((c.lps).map lpC) false),(.fsl ((c.progs).map qaz) false),(ii c.look),(ii c.fin),(ii c.cap),.sl (n+1) 0 0 n false,.sl 0 1 0 n false,(.fsl ((s.pend).map Evt.r) false),(ii s.n),(bb s.over)]] 0)])=some (.tup [],(A'++[.row 1 O' 0,(.row 10 [[(.fsl ((c.lps).map lpC) false),(.fsl ((c.progs).map qaz) false),(ii c.look),(ii c.fin),(ii c.cap),.sl (n+1) 0 0 n false,.sl 0 1 0 n false,(.fsl (((s.step c e rest).pend).map Evt.r) false),(ii ((s.step c e rest).n)),(bb ((s.step c e rest).over))]] 0)])):=by
 obtain⟨x,hx,hlx,R⟩:=H.head hp (by omega)
 have ge:=H.ev e (by rw[hp];simp)
 obtain⟨i,hi⟩ : ∃i:Nat,e.lp=i:=⟨_,(Int.toNat_of_nonneg ge.lp.1).symm⟩
 have hin:i<n:=by have:=ge.lp;omega
 obtain⟨f,hL,hf⟩:=S.lpAt hin
 obtain⟨g,t1,t2⟩:=S.tr i hin
 have hsz:=R.sizes
 have hkn:=H.keyNe hp (by omega)
 rw[hi]at hlx hkn
 rw[hlx]at hL hf hkn
 obtain⟨z1,_,z3,z4,z5,z6⟩:=hsz
 have hlen:=H.len
 rw[hp]at hlen
 have htl:(qiu s i).length≤10000:=by
  have h1:=H.tr i (by omega)
  have:qiu s i=qbc h i:=by unfold qiu;rw[Int.toNat_natCast,h1];rfl
  rw[this]
  have:=List.length_filter_le (fun e:Evt=>decide (e.lp=i)) h
  unfold qbc;omega
 have hE:=qahe R f hf
 have hkr:qlo (rest++(qa1 c x e).out):=by
  have:=(List.pairwise_append.1 hkn).2.1;exact this
 have hko:qc4 (rest++(qa1 c x e).out):=by
  intro y hy
  rcases List.mem_append.1 hy with hy|hy
  ·have:=(H.ev y (by rw[hp];simp[hy])).key;omega
  ·have:=z4 y hy;omega
 have st:=S.step (c:=c) (e:=e) hin hi (g:=g) (f:=f) rest (by rw[hlx];exact fun k=>q9l (hf k))
 rw[hlx]at st
 refine⟨_,_,_,st,?_⟩
 have hstep:s.step c e rest=⟨s.trace.set i (qiu s i++[e]),s.lps.set i (qa1 c x e).lp,sortL ((rest++(qa1 c x e).out).filter (qd4 (qa1 c x e).gone)),s.n+1,s.over||(qa1 c x e).over⟩:=by
  unfold Sim.step;rw[hi,hlx,Int.toNat_natCast]
 rw[hstep,hp]
 have alo2:=st.alo
 have olo2:=st.olo
 have hA:=S.len
 have hA0:=S.lps
 have lo3:(SObj.row 6 [e.r] 0).lo (n+1)=true:=by simp only[q26,qhn,qqz,qagj,zfc]
 have hw:IntKind.i64.wrap ((s.n:Int)+1)=((s.n+1:Nat):Int):=by
  have:=H.n;rw[qi (by omega) (by omega)];simp
 simp only
 generalize hr:qa1 c x e=r at *
 obtain⟨et,ek,el,ei,ep,ea⟩:=e
 simp only at hi
 subst hi
 have hA1:(A.set (i+1) (SObj.row 6 ((qiu s i++[(⟨et,ek,(i:Int),ei,ep,ea⟩:Evt)]).map Evt.r) (g+1))).length=n+1:=by rw[List.length_set];exact hA
 have hA2:((A.set (i+1) (SObj.row 6 ((qiu s i++[(⟨et,ek,(i:Int),ei,ep,ea⟩:Evt)]).map Evt.r) (g+1))).set 0 (SObj.row 4 ((L.set i (r.lp,f)).map lpF) 1)).length=n+1:=by rw[List.length_set];exact hA1
 have hA10:(A.set (i+1) (SObj.row 6 ((qiu s i++[(⟨et,ek,(i:Int),ei,ep,ea⟩:Evt)]).map Evt.r) (g+1)))[0]? = some (.row 4 (L.map lpF) 1):=by rw[List.getElem?_set_ne (by omega)];exact hA0
 have lo5:(SObj.row 4 [lpF (r.lp,f)] 0).lo (n+1)=true:=by simp only[q26,qhn,qqz,qagn,zfc]
 obtain⟨e1,r1,m1,a10,a12⟩:=qakn c n A O hA rest ⟨et,ek,i,ei,ep,ea⟩ s.n s.over ⟨qwn 0 [(.ptr (n+2) 0 0 0)],[]⟩ rfl
 obtain⟨e2,r2,m2,a20,a22⟩:=qak1 c n A O hA rest ⟨et,ek,i,ei,ep,ea⟩ s.n s.over [.row 6 [Evt.r ⟨et,ek,i,ei,ep,ea⟩] 0,.hole] e1 a10 a12
 obtain⟨e3,r3,m3,a30,a32⟩:=qaj9 c n A O hA rest et ei ep ea ek i s.n s.over hin (qiu s i) g htl t2 t1 [.hole] e2 a20 a22
 obtain⟨e4,r4,m4,a40,a42⟩:=qami c n _ (O.set i [.sl (i+1) (g+1) 0 ((qiu s i).length+1) false]) hA1 rest s.n s.over [(.row 6 [[(ii et),(.fsl ((ek).map qa0) false),(ii i),(ii ei),(ii ep),(ii ea)]] 0),.hole] e3 a30 a32
 rw[hw]at r4
 obtain⟨e5,r5,m5,a50,a52,a53,a54,a55,a56⟩:=qamn c n _ (O.set i [.sl (i+1) (g+1) 0 ((qiu s i).length+1) false]) hA1 rest et ei ep ea ek i (s.n+1:Nat) s.over hin L x f hL hA10 r hE e4 a40 a42
 obtain⟨e6,r6,m6,a60,a64,a65,a66⟩:=qakf c n _ (O.set i [.sl (i+1) (g+1) 0 ((qiu s i).length+1) false]) hA1 rest et ei ep ea ek i (s.n+1:Nat) s.over hin L (x,f) (r.lp,f) hL hA10 (.row 1 [[(.fsl ((r.gone).map qna) false)]] 1) e5 a50 a52 a53 _ _ _ a54 a55 a56
 obtain⟨e7,r7,m7,a70,a74,a75⟩:=qamm c n _ (O.set i [.sl (i+1) (g+1) 0 ((qiu s i).length+1) false]) hA2 rest (s.n+1:Nat) s.over [(.row 6 [[(ii et),(.fsl ((ek).map qa0) false),(ii i),(ii ei),(ii ep),(ii ea)]] 0),.row 1 [[(.fsl ((r.gone).map qna) false)]] 1,.row 4 [lpF (r.lp,f)] 0] e6 a60 _ _ r.over a64 a65 a66
 obtain⟨e8,r8,m8,a80,a84,a87⟩:=qak4 n _ hA2 (((A.set (i+1) (SObj.row 6 ((qiu s i++[(⟨et,ek,(i:Int),ei,ep,ea⟩:Evt)]).map Evt.r) (g+1))).set 0 (SObj.row 4 ((L.set i (r.lp,f)).map lpF) 1))++[.row 1 (O.set i [.sl (i+1) (g+1) 0 ((qiu s i).length+1) false]) 0,(.row 10 [[(.fsl ((c.lps).map lpC) false),(.fsl ((c.progs).map qaz) false),(ii c.look),(ii c.fin),(ii c.cap),.sl (n+1) 0 0 n false,.sl 0 1 0 n false,(.fsl ((rest).map Evt.r) false),(ii (((s.n+1:Nat):Int))),(bb ((s.over||r.over)))]] 0),(.row 6 [[(ii et),(.fsl ((ek).map qa0) false),(ii i),(ii ei),(ii ep),(ii ea)]] 0),.row 1 [[(.fsl ((r.gone).map qna) false)]] 1,.row 4 [lpF (r.lp,f)] 0]) e7 a70 _ _ a74 a75
 obtain⟨e9,r9,m9⟩:=qajk c n _ (O.set i [.sl (i+1) (g+1) 0 ((qiu s i).length+1) false]) hA2 rest (s.n+1:Nat) (s.over||r.over) alo2 olo2 (.row 6 [[(ii et),(.fsl ((ek).map qa0) false),(ii i),(ii ei),(ii ep),(ii ea)]] 0) (.row 4 [lpF (r.lp,f)] 0) lo3 lo5 r.gone r.out r.nil (by omega) (fun k hk=>by have:=z5 k hk;omega) (by simp only[zgp,zga]at hlen ⊢;omega) hko hkr.dist e8 a80 a84 a87
 have hm:e9.marks=[]:=by rw[m9,m8,m7,m6,m5,m4,m3,m2,m1]
 simp only[Evt.r]at r1 r2
 have hb:=qage
 rw[qe qr1 qri]
 unfold qv8
 rw[hb]
 have hcut:=fun(B:qf)=>qaa9 hA2 B
 have lo1:qct (n+3) ((A.set (i+1) (SObj.row 6 ((qiu s i++[(⟨et,ek,(i:Int),ei,ep,ea⟩:Evt)]).map Evt.r) (g+1))).set 0 (SObj.row 4 ((L.set i (r.lp,f)).map lpF) 1))=true:=qk1 (by omega) alo2
 have lo2:qc5 (n+3) (O.set i [.sl (i+1) (g+1) 0 ((qiu s i).length+1) false])=true:=ql5 (by omega) _ olo2
 have d1:n+1<n+3:=by omega
 have d0:0<n+3:=by omega
 have hnl:(A++[SObj.row 1 O 0,(.row 10 [[(.fsl ((c.lps).map lpC) false),(.fsl ((c.progs).map qaz) false),(ii c.look),(ii c.fin),(ii c.cap),.sl (n+1) 0 0 n false,.sl 0 1 0 n false,(.fsl ((({ time:=et,key:=ek,lp:=↑i,kind:=ei,proc:=ep,arg:=ea }::rest)).map Evt.r) false),(ii s.n),(bb s.over)]] 0)]).length=n+3:=by simp[hA]
 have hna:qx.nargs=1:=rfl
 have hres:qx.results=[]:=rfl
 generalize ((A.set (i+1) (SObj.row 6 ((qiu s i++[(⟨et,ek,(i:Int),ei,ep,ea⟩:Evt)]).map Evt.r) (g+1))).set 0 (SObj.row 4 ((L.set i (r.lp,f)).map lpF) 1))=A2 at *
 generalize (O.set i [.sl (i+1) (g+1) 0 ((qiu s i).length+1) false])=O2 at *
 generalize qwn 0 [(.ptr (n+2) 0 0 0)]=av at *
 simp only[Ev.exec,r1,r2,r3,r4,r5,r6,r7,r8,r9,hm,hna,hres,hnl,hcut,Ev.kill,qqo,qh,qxp,qmm,qct,q26,lo1,lo2,qhn,qqz,qtr,qyr,qag5,lo_v,qaeu,lo_tup,qq,qa2,qu,d1,d0,zgv,zfc,↓qc,↓reduceIte,zga,zgb,zfd,zgc,zgo,zgx]
 done
end
set_option maxRecDepth 10000
section
variable {c:Cfg} {s:Sim} {h:List Evt} {n:Nat} {L:List (Lp×Bool)} {A:qf} {O:List (List AV)}
theorem qag3 (hA:A.length=n+1):(evL T).call qcw [(.ptr (n+2) 0 0 0)] (A++[.row 1 O 0,(.row 10 [[(.fsl ((c.lps).map lpC) false),(.fsl ((c.progs).map qaz) false),(ii c.look),(ii c.fin),(ii c.cap),.sl (n+1) 0 0 n false,.sl 0 1 0 n false,(.fsl ((s.pend).map Evt.r) false),(ii s.n),(bb s.over)]] 0)])=some ((bb (s.ready c)),(A++[.row 1 O 0,(.row 10 [[(.fsl ((c.lps).map lpC) false),(.fsl ((c.progs).map qaz) false),(ii c.look),(ii c.fin),(ii c.cap),.sl (n+1) 0 0 n false,.sl 0 1 0 n false,(.fsl ((s.pend).map Evt.r) false),(ii s.n),(bb s.over)]] 0)])):=by
 rw[qe qsw qrv]
 unfold Sim.ready
 cases hp:s.pend with
 |nil=>
  simp only[qf9,qaa9 hA,qod hA,hA,Nat.add_assoc,List.map_nil,gt_iff_lt,Int.lt_irrefl,ite_self,Ev.ev1,qb,qh,zgy,↓qc,↓reduceIte,Nat.reduceAdd,Nat.reduceEqDiff,reduceCtorEq]
  done
 |cons e rest=>
  have c1:((rest.length+1:Nat):Int)>0:=by omega
  obtain⟨et,ek,el,ei,ep,ea⟩:=e
  simp only[qf9,qaa9 hA,qod hA,hA,Nat.add_assoc,List.map_cons,Evt.r,c1,Int.le_refl,Int.toNat_zero,ite_self,Ev.ev1,qb,qh,zgy,↓qc,↓reduceIte,Nat.reduceAdd,Nat.reduceEqDiff,reduceCtorEq]
  done
theorem SimSt.lo (S:SimSt n s L A O):qct (n+3) (A++[.row 1 O 0,(.row 10 [[(.fsl ((c.lps).map lpC) false),(.fsl ((c.progs).map qaz) false),(ii c.look),(ii c.fin),(ii c.cap),.sl (n+1) 0 0 n false,.sl 0 1 0 n false,(.fsl ((s.pend).map Evt.r) false),(ii s.n),(bb s.over)]] 0)])=true:=by
 have lo1:qct (n+3) A=true:=qk1 (by omega) S.alo
 have lo2:qc5 (n+3) O=true:=ql5 (by omega) _ S.olo
 have d1:n+1<n+3:=by omega
 have d0:0<n+3:=by omega
 simp only[qmm,qct,q26,lo1,lo2,qhn,qqz,qtr,qyr,qag5,lo_v,qaeu,qq,qa2,qu,d1,d0,zgv,zfc]
theorem run_L (hn:c.lps.length=n) (lim:Nat) (hlim:lim≤3000) : ∀(k:Nat) {s:Sim} {h:List Evt} {L:List (Lp×Bool)} {A:qf} {O:List (List AV)},s.n+k=lim→SInv c s h→SimSt n s L A O →
  ∃y,itB (exec (evL T) itL none qc8) (qai [0,1] true (n+3)) ⟨[(0,(.ptr (n+2) 0 0 0)),(1,(ii lim))],[]⟩ (A++[.row 1 O 0,(.row 10 [[(.fsl ((c.lps).map lpC) false),(.fsl ((c.progs).map qaz) false),(ii c.look),(ii c.fin),(ii c.cap),.sl (n+1) 0 0 n false,.sl 0 1 0 n false,(.fsl ((s.pend).map Evt.r) false),(ii s.n),(bb s.over)]] 0)])=some y ∧
   ∃(L':List (Lp×Bool)) (A':qf) (O':List (List AV)),SimSt n (Sim.run c k s) L' A' O'∧y.1 = .exit 0∧y.2.1.marks=[]∧y.2.2=(A'++[.row 1 O' 0,(.row 10 [[(.fsl ((c.lps).map lpC) false),(.fsl ((c.progs).map qaz) false),(ii c.look),(ii c.fin),(ii c.cap),.sl (n+1) 0 0 n false,.sl 0 1 0 n false,(.fsl (((Sim.run c k s).pend).map Evt.r) false),(ii ((Sim.run c k s).n)),(bb ((Sim.run c k s).over))]] 0)]):=by
 intro k
 induction k with
 |zero=>
  intro s h L A O hk H S
  have c1:¬(s.n:Int)<(lim:Int):=by omega
  have hx : ∃y,it1 (exec (evL T) itL none qc8) (qai [0,1] true (n+3)) ⟨[(0,(.ptr (n+2) 0 0 0)),(1,(ii lim))],[]⟩ (A++[.row 1 O 0,(.row 10 [[(.fsl ((c.lps).map lpC) false),(.fsl ((c.progs).map qaz) false),(ii c.look),(ii c.fin),(ii c.cap),.sl (n+1) 0 0 n false,.sl 0 1 0 n false,(.fsl ((s.pend).map Evt.r) false),(ii s.n),(bb s.over)]] 0)])=some (.inr y)∧y.1 = .exit 0∧y.2.1.marks=[]∧y.2.2=(A++[.row 1 O 0,(.row 10 [[(.fsl ((c.lps).map lpC) false),(.fsl ((c.progs).map qaz) false),(ii c.look),(ii c.fin),(ii c.cap),.sl (n+1) 0 0 n false,.sl 0 1 0 n false,(.fsl ((s.pend).map Evt.r) false),(ii s.n),(bb s.over)]] 0)]):=by
   simp only[qc8,qod S.len,c1,Ev.ev1,qb,zgy,↓qc,↓reduceIte,Nat.reduceEqDiff,reduceCtorEq]
   exact⟨_,rfl,rfl,rfl,rfl⟩
  obtain⟨y,h1,h2,h3,h4⟩:=hx
  exact⟨y,qnq h1,L,A,O,S,h2,h3,h4⟩
 |succ k ih=>
  intro s h L A O hk H S
  have c1:(s.n:Int)<(lim:Int):=by omega
  have hr:=qag3 (c:=c) (s:=s) (O:=O) S.len
  by_cases hb:s.ready c=true
  ·obtain⟨e,rest,hp,hf⟩:=qaip hb
   have hhl:h.length≤3000:=by have:=H.n;omega
   obtain⟨L1,A1,O1,S1,hc⟩:=qalb H hn S hp hhl
   have hlo:=S1.lo (c:=c)
   have hcut:=qaa9 S1.len [.row 1 O1 0,(.row 10 [[(.fsl ((c.lps).map lpC) false),(.fsl ((c.progs).map qaz) false),(ii c.look),(ii c.fin),(ii c.cap),.sl (n+1) 0 0 n false,.sl 0 1 0 n false,(.fsl (((s.step c e rest).pend).map Evt.r) false),(ii ((s.step c e rest).n)),(bb ((s.step c e rest).over))]] 0)]
   obtain⟨y,g1,g2⟩:=ih (s:=s.step c e rest) (h:=h++[e]) (by show s.n+1+k=lim;omega) (H.step hp (by omega) hf) S1
   rw[hb]at hr
   refine⟨y,qm3 ?_ g1,?_⟩
   ·have d2:n+2<n+3:=by omega
    simp only[zgc,zgo]at hcut
    simp only[qc8,qod S.len,c1,hr,hc,hlo,hcut,d2,Ev.ev1,qb,zgy,↓qc,↓reduceIte,Nat.reduceEqDiff,reduceCtorEq]
   ·have:Sim.run c (k+1) s=Sim.run c k (s.step c e rest):=by rw[Sim.run,if_pos hb,go_eq hp]
    rw[this];exact g2
  ·have hb':s.ready c=false:=by simpa using hb
   rw[hb']at hr
   have:Sim.run c (k+1) s=s:=by rw[Sim.run,if_neg hb]
   rw[this]
   have hx : ∃y,it1 (exec (evL T) itL none qc8) (qai [0,1] true (n+3)) ⟨[(0,(.ptr (n+2) 0 0 0)),(1,(ii lim))],[]⟩ (A++[.row 1 O 0,(.row 10 [[(.fsl ((c.lps).map lpC) false),(.fsl ((c.progs).map qaz) false),(ii c.look),(ii c.fin),(ii c.cap),.sl (n+1) 0 0 n false,.sl 0 1 0 n false,(.fsl ((s.pend).map Evt.r) false),(ii s.n),(bb s.over)]] 0)])=some (.inr y)∧y.1 = .exit 0∧y.2.1.marks=[]∧y.2.2=(A++[.row 1 O 0,(.row 10 [[(.fsl ((c.lps).map lpC) false),(.fsl ((c.progs).map qaz) false),(ii c.look),(ii c.fin),(ii c.cap),.sl (n+1) 0 0 n false,.sl 0 1 0 n false,(.fsl ((s.pend).map Evt.r) false),(ii s.n),(bb s.over)]] 0)]):=by
    simp only[qc8,qod S.len,c1,hr,Ev.ev1,qb,zgy,↓qc,↓reduceIte,Nat.reduceEqDiff,reduceCtorEq]
    exact⟨_,rfl,rfl,rfl,rfl⟩
   obtain⟨y,h1,h2,h3,h4⟩:=hx
   exact⟨y,qnq h1,L,A,O,S,h2,h3,h4⟩
end
set_option maxRecDepth 10000
def qcp (n l m:Int):Bool:=decide (n≥l)&&decide (n≤m)
theorem qga (n l m:Int):qac (evL T) qa4 [(ii n),(ii l),(ii m)]=some (bb (qcp n l m)):=by
 rw[qac,qe q2u q05]
 by_cases h1:n≥l<;>simp only[qcp,qnu,h1,Ev.ev1,qh,zgy,↓qc,↓reduceIte,Nat.reduceAdd,Nat.reduceEqDiff,reduceCtorEq]
def operP (x:OpI) (n ps:Int):Bool:=
 if x.code=1 then qcp x.a 1 1099511627776&&(decide (x.b=0)&&decide (x.c=0))
 else if x.code=2 then decide (x.a≥0)&&(qcp x.b (-1073741824) 1073741824&&qcp x.c 1 1099511627776)
 else if x.code=3 then qcp x.a 1 1099511627776&&(qcp x.b 0 (n-1)&&decide (x.c=0))
 else if x.code=5 then qcp x.a 0 (ps-1)&&(qcp x.b 1 1099511627776&&decide (x.c=0))
 else if x.code=6 then qcp x.a 0 1&&(qcp x.b (-1073741824) 1073741824&&decide (x.c=0))
 else if x.code=7 then qcp x.a 0 1&&(qcp x.b (-1073741824) 1073741824&&qcp x.c 0 (n-1))
 else decide (x.a=0)&&(decide (x.b=0)&&decide (x.c=0))
theorem operP_eq (x:OpI) (n ps:Int):operP x n ps=q0v x n ps:=by
 obtain⟨k,a,b,c⟩:=x
 have e1 : ∀a m:Int,qcp a 0 (m-1)=(decide (a≥0)&&decide (a<m)):=fun a m=>by
  unfold qcp;congr 1;exact decide_eq_decide.2 (by omega)
 have e2 : ∀a:Int,qcp a 0 1=(decide (a≥0)&&decide (a<2)):=fun a=>e1 a 2
 have e3 : ∀a:Int,qcp a 1 1099511627776=qxh a:=fun a=>rfl
 have e4 : ∀a:Int,qcp a (-1073741824) 1073741824=q2q a:=fun a=>rfl
 simp only[operP,q0v,e1,e2,e3,e4,Bool.and_assoc]
section
variable (n ps lps look:Int) (x:OpI)
def okZ (b:Bool) (e:Int):Int:=if b=true then 0 else e
theorem q84:(evL T).call qan [(.agg [(ii n),(ii ps),(ii lps),(ii look)]),(.agg [(ii x.code),(ii x.a),(ii x.b),(ii x.c)])] [.row 4 [[(ii n),(ii ps),(ii lps),(ii look)]] 0,.row 4 [[(ii x.code),(ii x.a),(ii x.b),(ii x.c)]] 0]=some ((ii (okZ (q7a x) 22)),[.row 4 [[(ii n),(ii ps),(ii lps),(ii look)]] 0,.row 4 [[(ii x.code),(ii x.a),(ii x.b),(ii x.c)]] 0]):=by
 rw[qe qu5 qup]
 have e:q7a x=qcp x.code 1 8:=rfl
 rw[e]
 cases h:qcp x.code 1 8<;>simp only[qja,qga,h,okZ,Ev.ev1,qb,Ev.AV.cells,Ev.AV.plain,qh,Ev.SObj.lo,ne_eq,zgy,↓qc,↓reduceIte,Nat.reduceAdd,Nat.reduceEqDiff,reduceCtorEq]
theorem q42:(evL T).call qab [(.agg [(ii n),(ii ps),(ii lps),(ii look)]),(.agg [(ii x.code),(ii x.a),(ii x.b),(ii x.c)])] [.row 4 [[(ii n),(ii ps),(ii lps),(ii look)]] 0,.row 4 [[(ii x.code),(ii x.a),(ii x.b),(ii x.c)]] 0]=some ((ii (okZ (qagc lps x) 23)),[.row 4 [[(ii n),(ii ps),(ii lps),(ii look)]] 0,.row 4 [[(ii x.code),(ii x.a),(ii x.b),(ii x.c)]] 0]):=by
 rw[qe qs7 qsj]
 by_cases h1:x.code=2<;>by_cases h2:x.a≥lps<;>simp only[qhy,qagc,h1,h2,okZ,Ev.ev1,qb,Ev.AV.cells,Ev.AV.plain,qh,Ev.SObj.lo,ne_eq,zgy,↓qc,↓reduceIte,Nat.reduceAdd,Nat.reduceEqDiff,reduceCtorEq]
theorem q6e:(evL T).call qaf [(.agg [(ii n),(ii ps),(ii lps),(ii look)]),(.agg [(ii x.code),(ii x.a),(ii x.b),(ii x.c)])] [.row 4 [[(ii n),(ii ps),(ii lps),(ii look)]] 0,.row 4 [[(ii x.code),(ii x.a),(ii x.b),(ii x.c)]] 0]=some ((ii (okZ (qry look x) 21)),[.row 4 [[(ii n),(ii ps),(ii lps),(ii look)]] 0,.row 4 [[(ii x.code),(ii x.a),(ii x.b),(ii x.c)]] 0]):=by
 rw[qe qt6 qsp]
 by_cases h1:x.code=2<;>by_cases h2:x.c<look<;>simp only[qih,qry,h1,h2,okZ,Ev.ev1,qb,Ev.AV.cells,Ev.AV.plain,qh,Ev.SObj.lo,ne_eq,zgy,↓qc,↓reduceIte,Nat.reduceAdd,Nat.reduceEqDiff,reduceCtorEq]
theorem q07 (hn:IntKind.i64.wrap (n-1)=n-1) (hp:IntKind.i64.wrap (ps-1)=ps-1) :
  (evL T).call qy [(.agg [(ii n),(ii ps),(ii lps),(ii look)]),(.agg [(ii x.code),(ii x.a),(ii x.b),(ii x.c)])] [.row 4 [[(ii n),(ii ps),(ii lps),(ii look)]] 0,.row 4 [[(ii x.code),(ii x.a),(ii x.b),(ii x.c)]] 0]=some ((ii (okZ (q0v x n ps) 22)),[.row 4 [[(ii n),(ii ps),(ii lps),(ii look)]] 0,.row 4 [[(ii x.code),(ii x.a),(ii x.b),(ii x.c)]] 0]):=by
 rw[qe qrh qqm,←operP_eq]
 obtain⟨k,a,b,c⟩:=x
 simp only[operP]
 have e0 : ∀z:Int,((0:Int)==z)=decide (z=0):=fun z=>by rw[Bool.eq_iff_iff,beq_iff_eq,decide_eq_true_eq];exact eq_comm
 by_cases k1:k=1
 ·subst k1
  cases h1:qcp a 1 1099511627776<;>by_cases h2:b=0<;>by_cases h3:c=0<;>simp only[qbb,qga,h1,h2,h3,e0,okZ,Ev.ev1,Ev.stP,qb,Ev.AV.cells,Ev.AV.uc,Ev.AV.plain,qg4,qh,Ev.SObj.lo,ne_eq,zgy,↓qc,↓reduceIte,Nat.reduceAdd,Nat.reduceEqDiff,Nat.reduceLeDiff,Int.reduceNeg,reduceCtorEq]
 by_cases k2:k=2
 ·subst k2
  by_cases h1:a≥0<;>cases h2:qcp b (-1073741824) 1073741824<;>cases h3:qcp c 1 1099511627776<;>simp only[qbb,qga,h1,h2,h3,okZ,Ev.ev1,Ev.stP,qb,Ev.AV.cells,Ev.AV.uc,Ev.AV.plain,qg4,qh,Ev.SObj.lo,ne_eq,zgy,↓qc,↓reduceIte,Nat.reduceAdd,Nat.reduceEqDiff,Nat.reduceLeDiff,Int.reduceEq,Int.reduceNeg,reduceCtorEq]
 by_cases k3:k=3
 ·subst k3
  cases h1:qcp a 1 1099511627776<;>cases h2:qcp b 0 (n-1)<;>by_cases h3:c=0<;>simp only[qbb,qga,hn,h1,h2,h3,e0,okZ,Ev.ev1,Ev.stP,qb,Ev.AV.cells,Ev.AV.uc,Ev.AV.plain,qg4,qh,Ev.SObj.lo,ne_eq,zgy,↓qc,↓reduceIte,Nat.reduceAdd,Nat.reduceEqDiff,Nat.reduceLeDiff,Int.reduceEq,Int.reduceNeg,reduceCtorEq]
 by_cases k5:k=5
 ·subst k5
  cases h1:qcp a 0 (ps-1)<;>cases h2:qcp b 1 1099511627776<;>by_cases h3:c=0<;>simp only[qbb,qga,hp,h1,h2,h3,e0,okZ,Ev.ev1,Ev.stP,qb,Ev.AV.cells,Ev.AV.uc,Ev.AV.plain,qg4,qh,Ev.SObj.lo,ne_eq,zgy,↓qc,↓reduceIte,Nat.reduceAdd,Nat.reduceEqDiff,Nat.reduceLeDiff,Int.reduceEq,Int.reduceNeg,reduceCtorEq]
 by_cases k6:k=6
 ·subst k6
  cases h1:qcp a 0 1<;>cases h2:qcp b (-1073741824) 1073741824<;>by_cases h3:c=0<;>simp only[qbb,qga,h1,h2,h3,e0,okZ,Ev.ev1,Ev.stP,qb,Ev.AV.cells,Ev.AV.uc,Ev.AV.plain,qg4,qh,Ev.SObj.lo,ne_eq,zgy,↓qc,↓reduceIte,Nat.reduceAdd,Nat.reduceEqDiff,Nat.reduceLeDiff,Int.reduceEq,Int.reduceNeg,reduceCtorEq]
 by_cases k7:k=7
 ·subst k7
  cases h1:qcp a 0 1<;>cases h2:qcp b (-1073741824) 1073741824<;>cases h3:qcp c 0 (n-1)<;>simp only[qbb,qga,hn,h1,h2,h3,okZ,Ev.ev1,Ev.stP,qb,Ev.AV.cells,Ev.AV.uc,Ev.AV.plain,qg4,qh,Ev.SObj.lo,ne_eq,zgy,↓qc,↓reduceIte,Nat.reduceAdd,Nat.reduceEqDiff,Nat.reduceLeDiff,Int.reduceEq,Int.reduceNeg,reduceCtorEq]
 by_cases h1:a=0<;>by_cases h2:b=0<;>by_cases h3:c=0<;>simp only[qbb,k1,k2,k3,k5,k6,k7,h1,h2,h3,e0,okZ,Ev.ev1,Ev.stP,qb,Ev.AV.cells,Ev.AV.uc,Ev.AV.plain,qg4,qh,Ev.SObj.lo,ne_eq,zgy,↓qc,↓reduceIte,Nat.reduceAdd,Nat.reduceEqDiff,Nat.reduceLeDiff,Int.reduceNeg,reduceCtorEq]
end
section
variable (p:List OpI) (c:Bool) (n ps lps look:Int)
def rulesL (n ps lps look:Int):List (List AV):=[[.fn (.func qan) [(.agg [(ii n),(ii ps),(ii lps),(ii look)])] []],[.fn (.func qy) [(.agg [(ii n),(ii ps),(ii lps),(ii look)])] []],[.fn (.func qab) [(.agg [(ii n),(ii ps),(ii lps),(ii look)])] []],[.fn (.func qaf) [(.agg [(ii n),(ii ps),(ii lps),(ii look)])] []]]
theorem qad1 (k:Nat) (j:Int) (f:OpI→Bool) (err:Int) (herr:err≠0) (hl:p.length≤16) (hr : ∀x,(evL T).call k [(.agg [(ii n),(ii ps),(ii lps),(ii look)]),(.agg [(ii x.code),(ii x.a),(ii x.b),(ii x.c)])] [.row 4 [[(ii n),(ii ps),(ii lps),(ii look)]] 0,.row 4 [[(ii x.code),(ii x.a),(ii x.b),(ii x.c)]] 0]=some ((ii (okZ (f x) err)),[.row 4 [[(ii n),(ii ps),(ii lps),(ii look)]] 0,.row 4 [[(ii x.code),(ii x.a),(ii x.b),(ii x.c)]] 0])) :
  ∃y,itB (exec (evL T) itL none qjj) (qai [0,11,33,34,35,39,40,41] true 1) ⟨[(0,(.fsl ((p).map OpI.r) c)),(11,.fn (.func k) [(.agg [(ii n),(ii ps),(ii lps),(ii look)])] []),(33,(.fsl [[.fn (.func qan) [(.agg [(ii n),(ii ps),(ii lps),(ii look)])] []],[.fn (.func qy) [(.agg [(ii n),(ii ps),(ii lps),(ii look)])] []],[.fn (.func qab) [(.agg [(ii n),(ii ps),(ii lps),(ii look)])] []],[.fn (.func qaf) [(.agg [(ii n),(ii ps),(ii lps),(ii look)])] []]] true)),(34,(ii 4)),(35,(ii j)),(39,(.fsl ((p).map OpI.r) c)),(40,(ii p.length)),(41,(ii 0))],[]⟩ [.row 4 [[(ii n),(ii ps),(ii lps),(ii look)]] 0]=some y ∧
   (p.all f=true∧(y.1 = .exit 2∧y.2.1.marks=[]∧y.2.2=[.row 4 [[(ii n),(ii ps),(ii lps),(ii look)]] 0]∧Ev.look y.2.1.vars 0=some (.fsl ((p).map OpI.r) c)∧Ev.look y.2.1.vars 33=some (.fsl [[.fn (.func qan) [(.agg [(ii n),(ii ps),(ii lps),(ii look)])] []],[.fn (.func qy) [(.agg [(ii n),(ii ps),(ii lps),(ii look)])] []],[.fn (.func qab) [(.agg [(ii n),(ii ps),(ii lps),(ii look)])] []],[.fn (.func qaf) [(.agg [(ii n),(ii ps),(ii lps),(ii look)])] []]] true)∧Ev.look y.2.1.vars 34=some (ii 4)∧Ev.look y.2.1.vars 35=some (ii j)) ∨
   p.all f=false ∧ ∃x,p.find? (fun x => !f x)=some x∧(y.1 = .ret∧y.2.1.marks=[]∧y.2.2=[.row 4 [[(ii n),(ii ps),(ii lps),(ii look)]] 0,.row 4 [[(ii x.code),(ii x.a),(ii x.b),(ii x.c)]] 0]∧Ev.look y.2.1.vars 8=some (ii err))):=by
 refine qgl p (fun i=>⟨[(0,(.fsl ((p).map OpI.r) c)),(11,.fn (.func k) [(.agg [(ii n),(ii ps),(ii lps),(ii look)])] []),(33,(.fsl [[.fn (.func qan) [(.agg [(ii n),(ii ps),(ii lps),(ii look)])] []],[.fn (.func qy) [(.agg [(ii n),(ii ps),(ii lps),(ii look)])] []],[.fn (.func qab) [(.agg [(ii n),(ii ps),(ii lps),(ii look)])] []],[.fn (.func qaf) [(.agg [(ii n),(ii ps),(ii lps),(ii look)])] []]] true)),(34,(ii 4)),(35,(ii j)),(39,(.fsl ((p).map OpI.r) c)),(40,(ii p.length)),(41,(ii i))],[]⟩) [.row 4 [[(ii n),(ii ps),(ii lps),(ii look)]] 0] f _ (fun x y => _) ?_ ?_ ?_
 ·intro i x hi hx hp
  have hi':(i:Int)<(p.length:Int):=by omega
  have hw:IntKind.i64.wrap ((i:Int)+1)=((i+1:Nat):Int):=by rw[qi (by omega) (by omega)];simp
  have h1:=hr x
  rw[hp]at h1
  simp only[okZ,if_true]at h1
  simp only[qjj,zgs,zgr,zgq,zgt,OpI.r,hx,hi',hw,h1,qia,Ev.ev1,Ev.stP,qb,Ev.AV.cells,Ev.AV.plain,Ev.SObj.lo,ne_eq,zgy,↓qc,↓reduceIte,Nat.reduceAdd,Nat.reduceEqDiff,reduceCtorEq]
 ·intro i x hi hx hp
  have hi':(i:Int)<(p.length:Int):=by omega
  have h1:=hr x
  rw[hp]at h1
  simp only[okZ,zfa,if_false]at h1
  simp only[qjj,zgs,zgr,zgq,zgt,OpI.r,hx,hi',h1,herr,Ev.ev1,Ev.stP,qb,Ev.AV.cells,Ev.AV.plain,ne_eq,zgy,↓qc,↓reduceIte,Nat.reduceAdd,Nat.reduceEqDiff,reduceCtorEq]
  exact⟨_,rfl,rfl,rfl,rfl,rfl⟩
 ·simp only[qjj,Int.lt_irrefl,Ev.ev1,zgy,↓qc,↓reduceIte,Nat.reduceEqDiff,reduceCtorEq]
  exact⟨_,rfl,rfl,rfl,rfl,rfl,rfl,rfl,rfl⟩
theorem qw8 (hl:p.length≤16) (j:Nat) (k:Nat) (f:OpI→Bool) (err:Int) (herr:err≠0) (hj:(rulesL n ps lps look)[j]? = some [.fn (.func k) [(.agg [(ii n),(ii ps),(ii lps),(ii look)])] []]) (hr : ∀x,(evL T).call k [(.agg [(ii n),(ii ps),(ii lps),(ii look)]),(.agg [(ii x.code),(ii x.a),(ii x.b),(ii x.c)])] [.row 4 [[(ii n),(ii ps),(ii lps),(ii look)]] 0,.row 4 [[(ii x.code),(ii x.a),(ii x.b),(ii x.c)]] 0]=some ((ii (okZ (f x) err)),[.row 4 [[(ii n),(ii ps),(ii lps),(ii look)]] 0,.row 4 [[(ii x.code),(ii x.a),(ii x.b),(ii x.c)]] 0])) :
  (p.all f=true∧it1 (exec (evL T) itL none qfb) (qai [0,33,34,35] true 1) ⟨[(0,(.fsl ((p).map OpI.r) c)),(33,(.fsl [[.fn (.func qan) [(.agg [(ii n),(ii ps),(ii lps),(ii look)])] []],[.fn (.func qy) [(.agg [(ii n),(ii ps),(ii lps),(ii look)])] []],[.fn (.func qab) [(.agg [(ii n),(ii ps),(ii lps),(ii look)])] []],[.fn (.func qaf) [(.agg [(ii n),(ii ps),(ii lps),(ii look)])] []]] true)),(34,(ii 4)),(35,(ii ((j:Int))))],[]⟩ [.row 4 [[(ii n),(ii ps),(ii lps),(ii look)]] 0]=some (.inl (⟨[(0,(.fsl ((p).map OpI.r) c)),(33,(.fsl [[.fn (.func qan) [(.agg [(ii n),(ii ps),(ii lps),(ii look)])] []],[.fn (.func qy) [(.agg [(ii n),(ii ps),(ii lps),(ii look)])] []],[.fn (.func qab) [(.agg [(ii n),(ii ps),(ii lps),(ii look)])] []],[.fn (.func qaf) [(.agg [(ii n),(ii ps),(ii lps),(ii look)])] []]] true)),(34,(ii 4)),(35,(ii (((j+1:Nat):Int))))],[]⟩,[.row 4 [[(ii n),(ii ps),(ii lps),(ii look)]] 0]))) ∨
  (p.all f=false ∧ ∃y,it1 (exec (evL T) itL none qfb) (qai [0,33,34,35] true 1) ⟨[(0,(.fsl ((p).map OpI.r) c)),(33,(.fsl [[.fn (.func qan) [(.agg [(ii n),(ii ps),(ii lps),(ii look)])] []],[.fn (.func qy) [(.agg [(ii n),(ii ps),(ii lps),(ii look)])] []],[.fn (.func qab) [(.agg [(ii n),(ii ps),(ii lps),(ii look)])] []],[.fn (.func qaf) [(.agg [(ii n),(ii ps),(ii lps),(ii look)])] []]] true)),(34,(ii 4)),(35,(ii ((j:Int))))],[]⟩ [.row 4 [[(ii n),(ii ps),(ii lps),(ii look)]] 0]=some (.inr y)∧y.1 = .ret∧y.2.1.marks=[]∧(∃x:OpI,y.2.2=[.row 4 [[(ii n),(ii ps),(ii lps),(ii look)]] 0,.row 4 [[(ii x.code),(ii x.a),(ii x.b),(ii x.c)]] 0])∧Ev.look y.2.1.vars 8=some (ii err)):=by
 obtain⟨⟨y,e,σ⟩,k1,k2⟩:=qad1 p c n ps lps look k j f err herr hl hr
 have hj4:j<4:=(zei.1 hj).1
 have hi':(j:Int)<4:=by omega
 have hw:IntKind.i64.wrap ((j:Int)+1)=((j+1:Nat):Int):=by rw[qi (by omega) (by omega)];simp
 simp only[rulesL]at hj
 simp only at k2
 rcases k2 with ⟨q1,rfl,q2,rfl,q3,q4,q5,q6⟩|⟨q1,x,_,rfl,q2,rfl,q3⟩
 ·refine .inl ⟨q1,?_⟩
  simp only[qfb,zgs,zgr,hi',hw,hj,k1,q2,q3,q4,q5,q6,qia,Ev.ev1,qb,Ev.SObj.lo,zgy,↓qc,↓qv,↓reduceIte,Nat.reduceEqDiff,reduceCtorEq]
 ·refine .inr ⟨q1,?_⟩
  simp only[qfb,zgs,zgr,hi',hj,k1,qia,Ev.ev1,qb,Ev.SObj.lo,zgy,↓qc,↓qv,↓reduceIte,Nat.reduceEqDiff,reduceCtorEq]
  exact⟨_,rfl,rfl,q2,⟨x,rfl⟩,q3⟩
def qall:Int:=if p.all q7a=false then 22 else if p.all (fun x=>q0v x n ps)=false then 22 else if p.all (qagc lps)=false then 23 else if p.all (qry look)=false then 21 else 0
theorem qaei (hl:p.length≤16) (hn:IntKind.i64.wrap (n-1)=n-1) (hp:IntKind.i64.wrap (ps-1)=ps-1) :
  ∃y,itB (exec (evL T) itL none qfb) (qai [0,33,34,35] true 1) ⟨[(0,(.fsl ((p).map OpI.r) c)),(33,(.fsl [[.fn (.func qan) [(.agg [(ii n),(ii ps),(ii lps),(ii look)])] []],[.fn (.func qy) [(.agg [(ii n),(ii ps),(ii lps),(ii look)])] []],[.fn (.func qab) [(.agg [(ii n),(ii ps),(ii lps),(ii look)])] []],[.fn (.func qaf) [(.agg [(ii n),(ii ps),(ii lps),(ii look)])] []]] true)),(34,(ii 4)),(35,(ii 0))],[]⟩ [.row 4 [[(ii n),(ii ps),(ii lps),(ii look)]] 0]=some y ∧
   (qall p n ps lps look=0∧(y.1 = .exit 0∧y.2.1.marks=[]∧y.2.2=[.row 4 [[(ii n),(ii ps),(ii lps),(ii look)]] 0])∨(y.1 = .ret∧y.2.1.marks=[]∧(∃x:OpI,y.2.2=[.row 4 [[(ii n),(ii ps),(ii lps),(ii look)]] 0,.row 4 [[(ii x.code),(ii x.a),(ii x.b),(ii x.c)]] 0])∧Ev.look y.2.1.vars 8=some (ii (qall p n ps lps look)))):=by
 have s0:=qw8 p c n ps lps look hl 0 qan q7a 22 (by decide) rfl (q84 n ps lps look)
 have s1:=qw8 p c n ps lps look hl 1 qy (fun x=>q0v x n ps) 22 (by decide) rfl (fun x=>q07 n ps lps look x hn hp)
 have s2:=qw8 p c n ps lps look hl 2 qab (qagc lps) 23 (by decide) rfl (q42 n ps lps look)
 have s3:=qw8 p c n ps lps look hl 3 qaf (qry look) 21 (by decide) rfl (q6e n ps lps look)
 have last : ∃y,it1 (exec (evL T) itL none qfb) (qai [0,33,34,35] true 1) ⟨[(0,(.fsl ((p).map OpI.r) c)),(33,(.fsl [[.fn (.func qan) [(.agg [(ii n),(ii ps),(ii lps),(ii look)])] []],[.fn (.func qy) [(.agg [(ii n),(ii ps),(ii lps),(ii look)])] []],[.fn (.func qab) [(.agg [(ii n),(ii ps),(ii lps),(ii look)])] []],[.fn (.func qaf) [(.agg [(ii n),(ii ps),(ii lps),(ii look)])] []]] true)),(34,(ii 4)),(35,(ii 4))],[]⟩ [.row 4 [[(ii n),(ii ps),(ii lps),(ii look)]] 0]=some (.inr y)∧y.1 = .exit 0∧y.2.1.marks=[]∧y.2.2=[.row 4 [[(ii n),(ii ps),(ii lps),(ii look)]] 0]:=by
  simp only[qfb,Int.lt_irrefl,Ev.ev1,zgy,↓qc,↓reduceIte,Nat.reduceEqDiff,reduceCtorEq]
  exact⟨_,rfl,rfl,rfl,rfl⟩
 unfold qall
 rcases s0 with ⟨a0,b0⟩|⟨a0,y,b0,b1,b2,b3,b4⟩
 ·rcases s1 with ⟨a1,c0⟩|⟨a1,y,c0,c1,c2,c3,c4⟩
  ·rcases s2 with ⟨a2,d0⟩|⟨a2,y,d0,d1,d2,d3,d4⟩
   ·rcases s3 with ⟨a3,f0⟩|⟨a3,y,f0,f1,f2,f3,f4⟩
    ·obtain⟨y,l0,l1,l2,l3⟩:=last
     refine⟨y,?_,.inl ⟨by rw[a0,a1,a2,a3];rfl,l1,l2,l3⟩⟩
     exact qm3 b0 (qm3 c0 (qm3 d0 (qm3 f0 (qnq l0))))
    ·refine⟨y,?_,.inr ⟨f1,f2,f3,by rw[a0,a1,a2,a3];exact f4⟩⟩
     exact qm3 b0 (qm3 c0 (qm3 d0 (qnq f0)))
   ·refine⟨y,?_,.inr ⟨d1,d2,d3,by rw[a0,a1,a2];exact d4⟩⟩
    exact qm3 b0 (qm3 c0 (qnq d0))
  ·refine⟨y,?_,.inr ⟨c1,c2,c3,by rw[a0,a1];exact c4⟩⟩
   exact qm3 b0 (qnq c0)
 ·refine⟨y,?_,.inr ⟨b1,b2,b3,by rw[a0];exact b4⟩⟩
  exact qnq b0
end
theorem q66 (p:List OpI) (c:Bool) (ps lps look:Int) (hl62:p.length<2^62) (hp:IntKind.i64.wrap (ps-1)=ps-1):qac (evL T) qi3 [(.fsl ((p).map OpI.r) c),(ii ps),(ii lps),(ii look)]=some (ii (qqp p ps lps look)):=by
 have h0:=qga p.length 1 16
 rw[qac,qe q5b q3l]
 have hz:qqp p ps lps look=if 1≤p.length∧p.length≤16 then qall p p.length ps lps look else 22:=by
  unfold qqp qall qxc
  by_cases h:1≤p.length∧p.length≤16
  ·simp only[h,zgx,zgv,Bool.true_and,if_true]
  ·simp only[h,zgw,Bool.false_and,if_true,if_false]
 have hw:qcp p.length 1 16=decide (1≤p.length∧p.length≤16):=by
  unfold qcp
  rw[←Bool.decide_and]
  exact decide_eq_decide.2 (by omega)
 rw[hw]at h0
 rw[hz]
 have hrep:List.replicate 4 ([.v .nilFunc]:List AV)=[[.v .nilFunc],[.v .nilFunc],[.v .nilFunc],[.v .nilFunc]]:=rfl
 by_cases h:1≤p.length∧p.length≤16
 ·have hn:IntKind.i64.wrap ((p.length:Int)-1)=(p.length:Int)-1:=qi (by omega) (by omega)
  obtain⟨⟨y,e,σ⟩,k1,k2⟩:=qaei p c p.length ps lps look h.2 hn hp
  simp only at k2
  simp only[h,zgx,zgv]at h0
  rcases k2 with ⟨q1,rfl,q2,rfl⟩|⟨rfl,q2,⟨x,rfl⟩,q3⟩
  ·simp only[h,zgx,if_true,q1]
   simp only[qki,hrep,h0,k1,q2,qia,Ev.ev1,Ev.stP,qb,Ev.AV.cells,Ev.AV.uc,Ev.AV.plain,qh,Ev.SObj.lo,ne_eq,zgy,↓qc,↓qv,↓reduceIte,Nat.reduceAdd,Nat.reduceEqDiff,Nat.reduceMul,Nat.reduceLT,Nat.reduceLeDiff,Nat.reducePow,reduceCtorEq]
  ·simp only[h,zgx,if_true]
   simp only[qki,hrep,h0,k1,q2,q3,qia,Ev.ev1,Ev.stP,qb,Ev.AV.cells,Ev.AV.uc,Ev.AV.plain,qh,Ev.SObj.lo,ne_eq,zgy,↓qc,↓qv,↓reduceIte,Nat.reduceAdd,Nat.reduceEqDiff,Nat.reduceMul,Nat.reduceLT,Nat.reduceLeDiff,Nat.reducePow,reduceCtorEq]
 ·simp only[h,zgw]at h0
  simp only[h,if_false]
  simp only[qki,h0,Ev.ev1,qh,zgy,↓qc,↓reduceIte,Nat.reduceAdd,reduceCtorEq]
set_option maxRecDepth 10000
def qhz {τ:Type} (g:τ→Int) (l:List τ):Int:=match l.find? (fun x => !decide (g x=0))with
 |none=>0
 |some x=>g x
theorem qzr {τ:Type} {g:τ→Int} {l:List τ} (h:l.all (fun x=>decide (g x=0))=true):qhz g l=0:=by
 have:l.find? (fun x => !decide (g x=0))=none:=by
  rw[List.find?_eq_none]
  intro x hx
  have:=List.all_eq_true.1 h x hx
  simpa using this
 unfold qhz;rw[this]
theorem qwi {τ:Type} {g:τ→Int} {l:List τ} {x:τ} (h:l.find? (fun x => !decide (g x=0))=some x):qhz g l=g x:=by
 unfold qhz;rw[h]
theorem qlv (n l m:Int):qac (evL T) qex [(ii n),(ii l),(ii m)]=some (bb (qcp n l m)):=by
 rw[qac,qe q46 q28]
 by_cases h1:n≥l<;>simp only[qcp,qor,h1,Ev.ev1,qh,zgy,↓qc,↓reduceIte,Nat.reduceAdd,Nat.reduceEqDiff,reduceCtorEq]
theorem qpf (b:Bool) (e:Int):qac (evL T) qfu [(bb b),(ii e)]=some (ii (okZ b e)):=by
 rw[qac,qe q3b q0x]
 cases b<;>simp only[okZ,qnw,Ev.ev1,qh,zgy,↓qc,↓reduceIte,Nat.reduceAdd,Nat.reduceEqDiff,reduceCtorEq]
section
variable (k:Nat) (cap:List AV) (hcap:los 0 cap=true)
include hcap
theorem qacd (l:List (List OpI)) (g:List OpI→Int) (hl:l.length<2^62) (hf : ∀p∈l,(evL T).call k ((.fsl ((p).map OpI.r) false)::cap) []=some ((ii (g p)),[])) :
  qac (evL T) qeb [(.fsl ((l).map qaz) false),.fn (.func k) [] cap]=some (ii (qhz g l)):=by
 have hL : ∃y,itB (exec (evL T) itL none qfp) (qai [1,8,9,10] true 0) ⟨[(1,.fn (.func k) [] cap),(8,(.fsl ((l).map qaz) false)),(9,(ii l.length)),(10,(ii 0))],[]⟩ []=some y∧(l.all (fun x=>decide (g x=0))=true∧(y.1 = .exit 0∧y.2.1.marks=[]∧y.2.2=[]) ∨
   l.all (fun x=>decide (g x=0))=false ∧ ∃x,l.find? (fun x => !decide (g x=0))=some x∧(y.1 = .ret∧y.2.1.marks=[]∧y.2.2=[]∧Ev.look y.2.1.vars 4=some (ii (g x)))):=by
  refine qgl l (fun i=>⟨[(1,.fn (.func k) [] cap),(8,(.fsl ((l).map qaz) false)),(9,(ii l.length)),(10,(ii i))],[]⟩) [] (fun x=>decide (g x=0)) _ (fun x y => _) ?_ ?_ ?_
  ·intro i x hi hx hp
   have hi':(i:Int)<(l.length:Int):=by omega
   have hw:IntKind.i64.wrap ((i:Int)+1)=((i+1:Nat):Int):=by rw[qi (by omega) (by omega)];simp
   have h1:=hf x (zmg hx)
   rw[of_decide_eq_true hp]at h1
   simp only[qfp,zgs,zgr,zgq,zgt,hx,hi',hw,h1,hcap,qu,qaz,Ev.ev1,qb,ne_eq,zgy,↓qc,↓reduceIte,Nat.reduceEqDiff]
  ·intro i x hi hx hp
   have hi':(i:Int)<(l.length:Int):=by omega
   have h1:=hf x (zmg hx)
   have h2:¬g x=0:=of_decide_eq_false hp
   simp only[qfp,zgs,zgr,zgq,zgt,hx,hi',h1,h2,qaz,Ev.ev1,qb,ne_eq,zgy,↓qc,↓reduceIte,Nat.reduceEqDiff]
   exact⟨_,rfl,rfl,rfl,rfl,rfl⟩
  ·simp only[qfp,Int.lt_irrefl,Ev.ev1,zgy,↓qc,↓reduceIte,Nat.reduceEqDiff]
   exact⟨_,rfl,rfl,rfl,rfl⟩
 obtain⟨⟨y,e,σ⟩,k1,k2⟩:=hL
 simp only at k2
 rw[qac,qe qvw qut]
 rcases k2 with ⟨k3,rfl,k4,rfl⟩|⟨k3,x,k5,rfl,k4,rfl,k6⟩
 ·rw[qzr k3]
  simp only[qg7,k1,k4,hcap,qu,Ev.ev1,qh,zgy,↓qc,↓qv,↓reduceIte,Nat.reduceAdd,Nat.reduceEqDiff,reduceCtorEq]
 ·rw[qwi k5]
  simp only[qg7,k1,k4,k6,hcap,qu,Ev.ev1,qh,zgy,↓qc,↓qv,↓reduceIte,Nat.reduceAdd,Nat.reduceEqDiff,reduceCtorEq]
theorem q8p (l:List (List Start)) (g:List Start→Int) (hl:l.length<2^62) (hf : ∀p∈l,(evL T).call k ((.fsl ((p).map Start.r) false)::cap) []=some ((ii (g p)),[])) :
  qac (evL T) qdb [(.fsl ((l).map lpC) false),.fn (.func k) [] cap]=some (ii (qhz g l)):=by
 have hL : ∃y,itB (exec (evL T) itL none qeh) (qai [1,8,9,10] true 0) ⟨[(1,.fn (.func k) [] cap),(8,(.fsl ((l).map lpC) false)),(9,(ii l.length)),(10,(ii 0))],[]⟩ []=some y∧(l.all (fun x=>decide (g x=0))=true∧(y.1 = .exit 0∧y.2.1.marks=[]∧y.2.2=[]) ∨
   l.all (fun x=>decide (g x=0))=false ∧ ∃x,l.find? (fun x => !decide (g x=0))=some x∧(y.1 = .ret∧y.2.1.marks=[]∧y.2.2=[]∧Ev.look y.2.1.vars 4=some (ii (g x)))):=by
  refine qgl l (fun i=>⟨[(1,.fn (.func k) [] cap),(8,(.fsl ((l).map lpC) false)),(9,(ii l.length)),(10,(ii i))],[]⟩) [] (fun x=>decide (g x=0)) _ (fun x y => _) ?_ ?_ ?_
  ·intro i x hi hx hp
   have hi':(i:Int)<(l.length:Int):=by omega
   have hw:IntKind.i64.wrap ((i:Int)+1)=((i+1:Nat):Int):=by rw[qi (by omega) (by omega)];simp
   have h1:=hf x (zmg hx)
   rw[of_decide_eq_true hp]at h1
   simp only[qeh,zgs,zgr,zgq,zgt,hx,hi',hw,h1,hcap,qa2,lpC,Ev.ev1,qb,ne_eq,zgy,↓qc,↓reduceIte,Nat.reduceEqDiff]
  ·intro i x hi hx hp
   have hi':(i:Int)<(l.length:Int):=by omega
   have h1:=hf x (zmg hx)
   have h2:¬g x=0:=of_decide_eq_false hp
   simp only[qeh,zgs,zgr,zgq,zgt,hx,hi',h1,h2,lpC,Ev.ev1,qb,ne_eq,zgy,↓qc,↓reduceIte,Nat.reduceEqDiff]
   exact⟨_,rfl,rfl,rfl,rfl,rfl⟩
  ·simp only[qeh,Int.lt_irrefl,Ev.ev1,zgy,↓qc,↓reduceIte,Nat.reduceEqDiff]
   exact⟨_,rfl,rfl,rfl,rfl⟩
 obtain⟨⟨y,e,σ⟩,k1,k2⟩:=hL
 simp only at k2
 rw[qac,qe qsd qrd]
 rcases k2 with ⟨k3,rfl,k4,rfl⟩|⟨k3,x,k5,rfl,k4,rfl,k6⟩
 ·rw[qzr k3]
  simp only[qfi,k1,k4,hcap,qa2,Ev.ev1,qh,zgy,↓qc,↓qv,↓reduceIte,Nat.reduceAdd,Nat.reduceEqDiff,reduceCtorEq]
 ·rw[qwi k5]
  simp only[qfi,k1,k4,k6,hcap,qa2,Ev.ev1,qh,zgy,↓qc,↓qv,↓reduceIte,Nat.reduceAdd,Nat.reduceEqDiff,reduceCtorEq]
theorem qaaq (l:List Start) (g:Start→Int) (hl:l.length<2^62) (hf : ∀x∈l,(evL T).call k (.agg [(ii x.prog),(ii x.time)]::cap) [.row 2 [[(ii x.prog),(ii x.time)]] 0]=some ((ii (g x)),[.row 2 [[(ii x.prog),(ii x.time)]] 0])) :
  qac (evL T) qdn [(.fsl ((l).map Start.r) false),.fn (.func k) [] cap]=some (ii (qhz g l)):=by
 have hL : ∃y,itB (exec (evL T) itL none qey) (qai [1,8,9,10] true 0) ⟨[(1,.fn (.func k) [] cap),(8,(.fsl ((l).map Start.r) false)),(9,(ii l.length)),(10,(ii 0))],[]⟩ []=some y∧(l.all (fun x=>decide (g x=0))=true∧(y.1 = .exit 0∧y.2.1.marks=[]∧y.2.2=[]) ∨
   l.all (fun x=>decide (g x=0))=false ∧ ∃x,l.find? (fun x => !decide (g x=0))=some x∧(y.1 = .ret∧y.2.1.marks=[]∧y.2.2=[.row 2 [[(ii x.prog),(ii x.time)]] 0]∧Ev.look y.2.1.vars 4=some (ii (g x)))):=by
  refine qgl l (fun i=>⟨[(1,.fn (.func k) [] cap),(8,(.fsl ((l).map Start.r) false)),(9,(ii l.length)),(10,(ii i))],[]⟩) [] (fun x=>decide (g x=0)) _ (fun x y => _) ?_ ?_ ?_
  ·intro i x hi hx hp
   have hi':(i:Int)<(l.length:Int):=by omega
   have hw:IntKind.i64.wrap ((i:Int)+1)=((i+1:Nat):Int):=by rw[qi (by omega) (by omega)];simp
   have h1:=hf x (zmg hx)
   rw[of_decide_eq_true hp]at h1
   simp only[qey,zgs,zgr,zgq,zgt,hx,hi',hw,h1,hcap,qsh,Start.r,Ev.ev1,Ev.stP,qb,Ev.AV.cells,Ev.AV.plain,ne_eq,zgy,↓qc,↓reduceIte,Nat.reduceAdd,Nat.reduceEqDiff]
  ·intro i x hi hx hp
   have hi':(i:Int)<(l.length:Int):=by omega
   have h1:=hf x (zmg hx)
   have h2:¬g x=0:=of_decide_eq_false hp
   simp only[qey,zgs,zgr,zgq,zgt,hx,hi',h1,h2,Start.r,Ev.ev1,Ev.stP,qb,Ev.AV.cells,Ev.AV.plain,ne_eq,zgy,↓qc,↓reduceIte,Nat.reduceAdd,Nat.reduceEqDiff]
   exact⟨_,rfl,rfl,rfl,rfl,rfl⟩
  ·simp only[qey,Int.lt_irrefl,Ev.ev1,zgy,↓qc,↓reduceIte,Nat.reduceEqDiff]
   exact⟨_,rfl,rfl,rfl,rfl⟩
 obtain⟨⟨y,e,σ⟩,k1,k2⟩:=hL
 simp only at k2
 rw[qac,qe qs5 qsk]
 rcases k2 with ⟨k3,rfl,k4,rfl⟩|⟨k3,x,k5,rfl,k4,rfl,k6⟩
 ·rw[qzr k3]
  simp only[qf7,k1,k4,hcap,qsh,Ev.ev1,qh,zgy,↓qc,↓qv,↓reduceIte,Nat.reduceAdd,Nat.reduceEqDiff,reduceCtorEq]
 ·rw[qwi k5]
  simp only[qf7,k1,k4,k6,hcap,qsh,Ev.ev1,qh,zgy,↓qc,↓qv,↓reduceIte,Nat.reduceAdd,Nat.reduceEqDiff,reduceCtorEq]
end
set_option maxRecDepth 10000
section
variable (c:Cfg)
def qaev (c:Cfg):Bool:=qcp c.lps.length 1 8&&(decide ((c.progs.length:Int)≤8)&&(qcp c.cap 1 64&&qcp c.fin 0 1152921504606846976))
def lenB (l:List Start):Bool:=decide ((l.length:Int)≤8)
def qxf (c:Cfg):Bool:=qaev c&&c.lps.all lenB
structure CfgOk (c:Cfg):Prop where
 lps:c.lps.length<2^62
 progs:c.progs.length<2^62
 prog : ∀p∈c.progs,p.length<2^62
 lp : ∀l∈c.lps,l.length<2^62
theorem qait (h:CfgOk c) (b:Bool) :
  ∃y,itB (exec (evL T) itL none qfk) (qai [3,32,33,34] true 0) ⟨[(3,(bb b)),(32,(.fsl ((c.lps).map lpC) false)),(33,(ii c.lps.length)),(34,(ii 0))],[]⟩ []=some y∧y.1 = .exit 0∧y.2.1.marks=[]∧y.2.2=[]∧Ev.look y.2.1.vars 3=some (bb (b&&c.lps.all lenB)):=by
 have hlp:=h.lps
 have:=qg5 (f:=exec (evL T) itL none qfk) (s:=qai [3,32,33,34] true 0) (α:=Bool) (fun i b=>⟨[(3,(bb b)),(32,(.fsl ((c.lps).map lpC) false)),(33,(ii c.lps.length)),(34,(ii ((i:Int))))],[]⟩) (fun _ _=>[])
  (fun i r=>r=(b&&(c.lps.take i).all lenB)) c.lps.length (fun y=>y.1 = .exit 0∧y.2.1.marks=[]∧y.2.2=[]∧Ev.look y.2.1.vars 3=some (bb (b&&c.lps.all lenB))) ?_ ?_ 0 b (Nat.zero_le _) (by simp)
 ·exact this
 ·rintro i r hi hr
  obtain⟨x,hx⟩ : ∃x,c.lps[i]? = some x:=⟨_,zgE hi⟩
  have hi':(i:Int)<(c.lps.length:Int):=by omega
  have hw:IntKind.i64.wrap ((i:Int)+1)=((i+1:Nat):Int):=by rw[qi (by omega) (by omega)];simp
  have hn:(b&&(c.lps.take (i+1)).all lenB)=(r&&lenB x):=by rw[hr,qhq hx,List.all_append,←Bool.and_assoc];simp
  refine .inl ⟨r&&lenB x,?_,hn.symm⟩
  cases r<;>simp only[qfk,zgs,zgr,zgq,zgt,hx,hi',hw,qa2,lpC,lenB,Ev.ev1,qb,zgy,↓qc,↓reduceIte,Nat.reduceEqDiff]
 ·rintro r hr
  rw[List.take_length]at hr
  simp only[qfk,Int.lt_irrefl,Ev.ev1,zgy,↓qc,↓reduceIte,Nat.reduceEqDiff]
  exact⟨_,rfl,rfl,rfl,rfl,by rw[←hr];rfl⟩
theorem q6s (h:CfgOk c):(evL T).call qdk [(.agg [(.fsl ((c.lps).map lpC) false),(.fsl ((c.progs).map qaz) false),(ii c.look),(ii c.fin),(ii c.cap)])] []=some ((ii (okZ (qxf c) 1)),[]):=by
 obtain⟨⟨y,e,σ⟩,k1,k2,k3,k4,k5⟩:=qait c h (qaev c)
 simp only at k2 k3 k4 k5
 subst k2;subst k4
 have v:=qpf (qxf c) 1
 rw[show qxf c=(qaev c&&c.lps.all lenB) from rfl]at v⊢
 rw[qe qvf que]
 unfold qaev at k1 k5 v⊢
 cases h1:qcp c.lps.length 1 8<;>simp only[h1,Bool.false_and,Bool.true_and]at k1 k5 v⊢
 ·simp only[qeg,qlv,h1,k1,k3,k5,v,qa2,okZ,Ev.ev1,qb,Ev.AV.cells,Ev.AV.plain,qh,ne_eq,zgy,↓qc,↓qv,↓reduceIte,Nat.reduceEqDiff]
 by_cases h2:(c.progs.length:Int)≤8<;>simp only[h2,zgv,zgw,Bool.false_and,Bool.true_and]at k1 k5 v⊢
 ·cases h3:qcp c.cap 1 64<;>simp only[h3,Bool.false_and,Bool.true_and]at k1 k5 v⊢
  ·simp only[qeg,qlv,h1,h2,h3,k1,k3,k5,v,qa2,okZ,Ev.ev1,qb,Ev.AV.cells,Ev.AV.plain,qh,ne_eq,zgy,↓qc,↓qv,↓reduceIte,Nat.reduceEqDiff]
  ·simp only[qeg,qlv,h1,h2,h3,k1,k3,k5,v,qa2,okZ,Ev.ev1,qb,Ev.AV.cells,Ev.AV.plain,qh,ne_eq,zgy,↓qc,↓qv,↓reduceIte,Nat.reduceEqDiff]
 ·simp only[qeg,qlv,h1,h2,k1,k3,k5,v,qa2,okZ,Ev.ev1,qb,Ev.AV.cells,Ev.AV.plain,qh,ne_eq,zgy,↓qc,↓qv,↓reduceIte,Nat.reduceEqDiff]
theorem q0f:(evL T).call qb9 [(.agg [(.fsl ((c.lps).map lpC) false),(.fsl ((c.progs).map qaz) false),(ii c.look),(ii c.fin),(ii c.cap)])] []=some ((ii (okZ (decide (c.look≥1)) 20)),[]):=by
 rw[qe qrb qqi]
 have v:=qpf (decide (c.look≥1)) 20
 simp only[qg6,v,Ev.ev1,qb,Ev.AV.cells,Ev.AV.plain,qh,ne_eq,zgy,↓qc,↓reduceIte,Nat.reduceEqDiff]
def q7x (c:Cfg) (p:List OpI):Int:=qqp p c.progs.length c.lps.length c.look
theorem qac4 (h:CfgOk c) (p:List OpI) (hp:p∈c.progs):(evL T).call qbw [(.fsl ((p).map OpI.r) false),(.fptr [(.fsl ((c.lps).map lpC) false),(.fsl ((c.progs).map qaz) false),(ii c.look),(ii c.fin),(ii c.cap)])] []=some ((ii (q7x c p)),[]):=by
 rw[qe qqe qp1]
 have:=h.progs
 have v:=q66 p false c.progs.length c.lps.length c.look (h.prog p hp) (qi (by omega) (by omega))
 simp only[qgm,v,q7x,qia,Ev.ev1,qb,qh,zgy,↓qc,↓reduceIte,Nat.reduceAdd,Nat.reduceEqDiff,reduceCtorEq]
theorem q1v (h:CfgOk c):(evL T).call qcl [(.agg [(.fsl ((c.lps).map lpC) false),(.fsl ((c.progs).map qaz) false),(ii c.look),(ii c.fin),(ii c.cap)])] []=some ((ii (qhz (q7x c) c.progs)),[]):=by
 have v:=qacd qbw [(.fptr [(.fsl ((c.lps).map lpC) false),(.fsl ((c.progs).map qaz) false),(ii c.look),(ii c.fin),(ii c.cap)])] (by simp only[qa2,qu,Ev.ev1,zgy]) c.progs (q7x c) h.progs fun p hp=>qac4 c h p hp
 rw[qe qr6 qq0]
 simp only[qhh,v,qa2,qu,Ev.ev1,qb,Ev.AV.cells,Ev.AV.plain,qh,ne_eq,zgy,↓qc,↓reduceIte,Nat.reduceEqDiff]
def qvg (c:Cfg) (s:Start):Int:=if qcp s.prog 0 ((c.progs.length:Int)-1)=false then 22 else okZ (qcp s.time 0 1152921504606846976) 11
theorem qact (h:CfgOk c) (s:Start):(evL T).call qbv [.agg [(ii s.prog),(ii s.time)],(.fptr [(.fsl ((c.lps).map lpC) false),(.fsl ((c.progs).map qaz) false),(ii c.look),(ii c.fin),(ii c.cap)])] [.row 2 [[(ii s.prog),(ii s.time)]] 0]=some ((ii (qvg c s)),[.row 2 [[(ii s.prog),(ii s.time)]] 0]):=by
 rw[qe qqh qp3]
 have:=h.progs
 have hw:IntKind.i64.wrap ((c.progs.length:Int)-1)=(c.progs.length:Int)-1:=qi (by omega) (by omega)
 have v:=qpf (qcp s.time 0 1152921504606846976) 11
 cases h1:qcp s.prog 0 ((c.progs.length:Int)-1)<;>simp only[qgn,qlv,v,hw,h1,qvg,Ev.ev1,qb,Ev.AV.cells,Ev.AV.plain,qh,Ev.SObj.lo,ne_eq,zgy,↓qc,↓reduceIte,Nat.reduceAdd,Nat.reduceEqDiff,reduceCtorEq]
theorem qaez (h:CfgOk c) (l:List Start) (hl:l∈c.lps):(evL T).call qcn [(.fsl ((l).map Start.r) false),(.fptr [(.fsl ((c.lps).map lpC) false),(.fsl ((c.progs).map qaz) false),(ii c.look),(ii c.fin),(ii c.cap)])] []=some ((ii (qhz (qvg c) l)),[]):=by
 have v:=qaaq qbv [(.fptr [(.fsl ((c.lps).map lpC) false),(.fsl ((c.progs).map qaz) false),(ii c.look),(ii c.fin),(ii c.cap)])] (by simp only[qa2,qu,Ev.ev1,zgy]) l (qvg c) (h.lp l hl) fun s _=>qact c h s
 rw[qe qsl qrj]
 simp only[qhf,v,qsh,qa2,qu,Ev.ev1,qh,zgy,↓qc,↓reduceIte,Nat.reduceAdd,Nat.reduceEqDiff,reduceCtorEq]
theorem q49 (h:CfgOk c):(evL T).call qc3 [(.agg [(.fsl ((c.lps).map lpC) false),(.fsl ((c.progs).map qaz) false),(ii c.look),(ii c.fin),(ii c.cap)])] []=some ((ii (qhz (qhz (qvg c)) c.lps)),[]):=by
 have v:=q8p qcn [(.fptr [(.fsl ((c.lps).map lpC) false),(.fsl ((c.progs).map qaz) false),(ii c.look),(ii c.fin),(ii c.cap)])] (by simp only[qa2,qu,Ev.ev1,zgy]) c.lps (qhz (qvg c)) h.lps fun l hl=>qaez c h l hl
 rw[qe qt2 qsz]
 simp only[qif,v,qa2,qu,Ev.ev1,qb,Ev.AV.cells,Ev.AV.plain,qh,ne_eq,zgy,↓qc,↓reduceIte,Nat.reduceEqDiff]
def qacg (c:Cfg) (p:Nat×Int):List AV:=[.fn (.func p.1) [(.agg [(.fsl ((c.lps).map lpC) false),(.fsl ((c.progs).map qaz) false),(ii c.look),(ii c.fin),(ii c.cap)])] []]
theorem rule_lo (n:Nat) (p:Nat×Int):los n (qacg c p)=true:=by simp only[qacg,qa2,qu,Ev.ev1,zgy]
theorem qac7 (n:Nat) (l:List (Nat×Int)):qc5 n (l.map (qacg c))=true:=qjy (rule_lo c n) l
theorem qach (l:List (Nat×Int)) (b:Bool) (hl:l.length<2^62) (hf : ∀p∈l,(evL T).call p.1 [(.agg [(.fsl ((c.lps).map lpC) false),(.fsl ((c.progs).map qaz) false),(ii c.look),(ii c.fin),(ii c.cap)])] []=some ((ii p.2),[])) :
  qac (evL T) qb5 [.fsl (l.map (qacg c)) b,.fn (.func qe0) [] []]=some (ii (qhz Prod.snd l)):=by
 have h1 : ∀p∈l,(evL T).call qe0 [.fn (.func p.1) [(.agg [(.fsl ((c.lps).map lpC) false),(.fsl ((c.progs).map qaz) false),(ii c.look),(ii c.fin),(ii c.cap)])] []] []=some ((ii p.2),[]):=fun p hp=>by
  have:=hf p hp
  rw[qe q2a q1s]
  simp only[qn0,this,Ev.ev1,qh,zgy,↓qc,↓reduceIte,reduceCtorEq]
 have hL : ∃y,itB (exec (evL T) itL none qdg) (qai [1,8,9,10] true 0) ⟨[(1,.fn (.func qe0) [] []),(8,.fsl (l.map (qacg c)) b),(9,(ii l.length)),(10,(ii 0))],[]⟩ []=some y∧(l.all (fun x=>decide (x.2=0))=true∧(y.1 = .exit 0∧y.2.1.marks=[]∧y.2.2=[]) ∨
   l.all (fun x=>decide (x.2=0))=false ∧ ∃x,l.find? (fun x => !decide (x.2=0))=some x∧(y.1 = .ret∧y.2.1.marks=[]∧y.2.2=[]∧Ev.look y.2.1.vars 4=some (ii x.2))):=by
  refine qgl l (fun i=>⟨[(1,.fn (.func qe0) [] []),(8,.fsl (l.map (qacg c)) b),(9,(ii l.length)),(10,(ii i))],[]⟩) [] (fun x=>decide (x.2=0)) _ (fun x y => _) ?_ ?_ ?_
  ·intro i x hi hx hp
   have hi':(i:Int)<(l.length:Int):=by omega
   have hw:IntKind.i64.wrap ((i:Int)+1)=((i+1:Nat):Int):=by rw[qi (by omega) (by omega)];simp
   have h2:=h1 x (zmg hx)
   rw[of_decide_eq_true hp]at h2
   simp only[qdg,zgs,zgr,zgq,zgt,hx,hi',hw,h2,qac7,qacg,Ev.ev1,qb,ne_eq,zgy,↓qc,↓reduceIte,Nat.reduceEqDiff]
  ·intro i x hi hx hp
   have hi':(i:Int)<(l.length:Int):=by omega
   have h2:=h1 x (zmg hx)
   have h3:¬x.2=0:=of_decide_eq_false hp
   simp only[qdg,zgs,zgr,zgq,zgt,hx,hi',h2,h3,qacg,Ev.ev1,qb,ne_eq,zgy,↓qc,↓reduceIte,Nat.reduceEqDiff]
   exact⟨_,rfl,rfl,rfl,rfl,rfl⟩
  ·simp only[qdg,Int.lt_irrefl,Ev.ev1,zgy,↓qc,↓reduceIte,Nat.reduceEqDiff]
   exact⟨_,rfl,rfl,rfl,rfl⟩
 obtain⟨⟨y,e,σ⟩,k1,k2⟩:=hL
 simp only at k2
 rw[qac,qe qpe qo4]
 rcases k2 with ⟨k3,rfl,k4,rfl⟩|⟨k3,x,k5,rfl,k4,rfl,k6⟩
 ·rw[qzr k3]
  simp only[qd7,k1,k4,qac7,Ev.ev1,qh,zgy,↓qc,↓qv,↓reduceIte,Nat.reduceAdd,Nat.reduceEqDiff,reduceCtorEq]
 ·rw[qwi k5]
  simp only[qd7,k1,k4,k6,qac7,Ev.ev1,qh,zgy,↓qc,↓qv,↓reduceIte,Nat.reduceAdd,Nat.reduceEqDiff,reduceCtorEq]
def cfgL (c:Cfg):List (Nat×Int):=[(qdk,okZ (qxf c) 1),(qb9,okZ (decide (c.look≥1)) 20),(qcl,qhz (q7x c) c.progs),(qc3,qhz (qhz (qvg c)) c.lps)]
def qaiq (c:Cfg):Int:=qhz Prod.snd (cfgL c)
theorem qyb (h:CfgOk c):qac (evL T) qdr [(.agg [(.fsl ((c.lps).map lpC) false),(.fsl ((c.progs).map qaz) false),(ii c.look),(ii c.fin),(ii c.cap)])]=some (ii (qaiq c)):=by
 have v:=qach c (cfgL c) true (by simp[cfgL]) (by
  intro p hp
  simp only[cfgL,List.mem_cons,List.not_mem_nil,or_false]at hp
  rcases hp with rfl|rfl|rfl|rfl
  ·exact q6s c h
  ·exact q0f c
  ·exact q1v c h
  ·exact q49 c h)
 rw[show qhz Prod.snd (cfgL c)=qaiq c from rfl]at v
 have hrep:List.replicate 4 ([.v .nilFunc]:List AV)=[[.v .nilFunc],[.v .nilFunc],[.v .nilFunc],[.v .nilFunc]]:=rfl
 simp only[cfgL,List.map_cons,List.map_nil,qacg]at v
 rw[qac,qe q6k q4o]
 simp only[qps,hrep,v,qa2,qu,Ev.ev1,Ev.stP,qb,Ev.AV.cells,Ev.AV.uc,Ev.AV.plain,qh,ne_eq,zgy,↓qc,↓reduceIte,Nat.reduceAdd,Nat.reduceEqDiff,Nat.reduceMul,Nat.reduceLT,Nat.reduceLeDiff,Nat.reducePow]
end
set_option maxRecDepth 10000
theorem qajc {c:Cfg} (h:qxf c=false):qaiq c=1:=by
 unfold qaiq cfgL qhz;rw[h];rfl
theorem qak8 {c:Cfg} (h1:qxf c=true) (h2:¬c.look≥1):qaiq c=20:=by
 unfold qaiq cfgL qhz;rw[h1];simp[h2,okZ]
theorem qai9 {c:Cfg} (h1:qxf c=true) (h2:c.look≥1) (h3:qhz (q7x c) c.progs≠0):qaiq c=qhz (q7x c) c.progs:=by
 unfold qaiq
 generalize hz:qhz (q7x c) c.progs=z at h3
 unfold cfgL
 rw[hz,h1]
 unfold qhz;simp[h2,okZ,h3]
theorem qafk {c:Cfg} (h1:qxf c=true) (h2:c.look≥1) (h3:qhz (q7x c) c.progs=0):qaiq c=qhz (qhz (qvg c)) c.lps:=by
 unfold qaiq
 generalize hz:qhz (qhz (qvg c)) c.lps=z
 unfold cfgL
 rw[hz,h3,h1]
 by_cases h:z=0<;>(unfold qhz;simp[h2,okZ,h])
theorem qacu {τ:Type} (f:τ→Int) (l:List τ):qhz f l=qvl f l:=by
 unfold qhz qvl
 cases l.find? (fun x => !decide (f x=0))<;>rfl
theorem qakj (c:Cfg):qqk c=qxf c:=by
 rw[Bool.eq_iff_iff]
 simp only[qqk,qxf,qaev,qcp,lenB,len8,Bool.and_eq_true,decide_eq_true_eq,List.all_eq_true,Bool.not_eq_true',decide_eq_false_iff_not]
 constructor
 ·rintro⟨⟨h1,h2,h3⟩,h4,h5,h6,h7,h8⟩
  exact⟨⟨⟨by omega,by omega⟩,by omega,⟨by omega,by omega⟩,by omega,by omega⟩,fun x hx=>by have:=h4 x hx;omega⟩
 ·rintro⟨⟨⟨h1,h2⟩,h3,⟨h4,h5⟩,h6,h7⟩,h8⟩
  exact⟨⟨by omega,by omega,by omega⟩,fun x hx=>by have:=h8 x hx;omega,by omega,by omega,by omega,by omega⟩
theorem qamg (c:Cfg) (s:Start):qml c s=qvg c s:=by
 unfold qml qvg okZ qcp
 by_cases h1:s.prog<0∨s.prog≥c.progs.length
 ·have:(decide (s.prog≥0)&&decide (s.prog≤(c.progs.length:Int)-1))=false:=by
   rw[Bool.and_eq_false_iff];simp only[decide_eq_false_iff_not];omega
  rw[if_pos h1,if_pos this]
 ·have:¬(decide (s.prog≥0)&&decide (s.prog≤(c.progs.length:Int)-1))=false:=by
   rw[Bool.and_eq_false_iff];simp only[decide_eq_false_iff_not];omega
  rw[if_neg h1,if_neg this]
  by_cases h2:s.time<0∨s.time>1152921504606846976
  ·have:¬(decide (s.time≥0)&&decide (s.time≤1152921504606846976))=true:=by
    rw[Bool.and_eq_true];simp only[decide_eq_true_eq];omega
   rw[if_pos h2,if_neg this]
  ·have:(decide (s.time≥0)&&decide (s.time≤1152921504606846976))=true:=by
    rw[Bool.and_eq_true];simp only[decide_eq_true_eq];omega
   rw[if_neg h2,if_pos this]
theorem qaco (c:Cfg):q8o c=qaiq c:=by
 have e1:qajf c=qhz (qvg c):=by
  funext l;show qvl (qml c) l = _
  rw[qacu,show qml c=qvg c from funext (qamg c)]
 have e2:qxa c=q7x c:=rfl
 unfold q8o
 rw[qakj,e1,e2,←qacu,←qacu]
 by_cases h1:qxf c=false
 ·rw[if_pos h1,qajc h1]
 have h1':qxf c=true:=by simpa using h1
 rw[if_neg h1]
 by_cases h2:c.look<1
 ·rw[if_pos h2,qak8 h1' (by omega)]
 rw[if_neg h2]
 by_cases h3:qhz (q7x c) c.progs≠0
 ·rw[if_pos h3,qai9 h1' (by omega) h3]
 ·rw[if_neg h3,qafk h1' (by omega) (by simpa using h3)]
set_option maxRecDepth 10000
section
variable {c:Cfg} {s:Sim} {h:List Evt} {n:Nat} {L:List (Lp×Bool)} {A:qf} {O:List (List AV)}
theorem run_ev (hn:c.lps.length=n) (lim k:Nat) (hlim:lim≤3000) (hk:s.n+k=lim) (H:SInv c s h) (S:SimSt n s L A O) :
  ∃(L':List (Lp×Bool)) (A':qf) (O':List (List AV)),SimSt n (Sim.run c k s) L' A' O'∧(evL T).call qee [(.ptr (n+2) 0 0 0),(ii lim)] (A++[.row 1 O 0,(.row 10 [[(.fsl ((c.lps).map lpC) false),(.fsl ((c.progs).map qaz) false),(ii c.look),(ii c.fin),(ii c.cap),.sl (n+1) 0 0 n false,.sl 0 1 0 n false,(.fsl ((s.pend).map Evt.r) false),(ii s.n),(bb s.over)]] 0)])=some (.tup [],(A'++[.row 1 O' 0,(.row 10 [[(.fsl ((c.lps).map lpC) false),(.fsl ((c.progs).map qaz) false),(ii c.look),(ii c.fin),(ii c.cap),.sl (n+1) 0 0 n false,.sl 0 1 0 n false,(.fsl (((Sim.run c k s).pend).map Evt.r) false),(ii ((Sim.run c k s).n)),(bb ((Sim.run c k s).over))]] 0)])):=by
 obtain⟨⟨y,e,σ⟩,k1,L',A',O',S',k2,k3,k4⟩:=run_L hn lim hlim k hk H S
 simp only at k2 k3 k4
 subst k2;subst k4
 refine⟨L',A',O',S',?_⟩
 have hlo:=S.lo (c:=c)
 have hcut:=qaa9 S.len [.row 1 O 0,(.row 10 [[(.fsl ((c.lps).map lpC) false),(.fsl ((c.progs).map qaz) false),(ii c.look),(ii c.fin),(ii c.cap),.sl (n+1) 0 0 n false,.sl 0 1 0 n false,(.fsl ((s.pend).map Evt.r) false),(ii s.n),(bb s.over)]] 0)]
 have hlo':=S'.lo (c:=c)
 have hcut':=qaa9 S'.len [.row 1 O' 0,(.row 10 [[(.fsl ((c.lps).map lpC) false),(.fsl ((c.progs).map qaz) false),(ii c.look),(ii c.fin),(ii c.cap),.sl (n+1) 0 0 n false,.sl 0 1 0 n false,(.fsl (((Sim.run c k s).pend).map Evt.r) false),(ii ((Sim.run c k s).n)),(bb ((Sim.run c k s).over))]] 0)]
 have d2:n+2<n+3:=by omega
 simp only[zgc,zgo]at hcut hcut'
 rw[qe qvt qt1]
 simp only[qjc,S.len,Nat.add_assoc,hlo,hcut,hlo',hcut',d2,k1,k3,Ev.ev1,qh,zgy,↓qc,↓qv,↓reduceIte,Nat.reduceAdd,reduceCtorEq]
theorem qaf2 (h:Small12 c) : ∃(R:List (List AV)) (τ:qf),(evL T).call qgv [(.agg [(.fsl ((c.lps).map lpC) false),(.fsl ((c.progs).map qaz) false),(ii c.look),(ii c.fin),(ii c.cap)])] []=some (.sl 0 0 0 c.lps.length true,.row 4 R 0::τ)∧qio (qio (Ev.frz (.dead::τ) 5)) R=some ((qib c.lps).map lpF):=by
 obtain⟨⟨y,e,σ⟩,k1,R,τ,k2,k3,k4,k5,k6⟩:=q50 c h
 simp only at k1 k2 k3 k4 k5 k6
 subst k2;subst k4
 have hlps:=h.lps
 have b1:(c.lps.length:Int)*48≤140737488355328:=by omega
 have b1':48*(c.lps.length:Int)≤140737488355328:=by omega
 have b2:(c.lps.length:Int)≤4611686018427387904:=by omega
 refine⟨R,τ,?_,?_⟩
 ·rw[qe qvz qty]
  simp only[qms,zgs,zgr,b1',b2,k1,k3,k6,Int.le_refl,Ev.ev1,qb,Ev.AV.cells,Ev.AV.plain,qh,ne_eq,zgy,↓qc,↓qv,↓reduceIte,Nat.reduceAdd,Nat.reduceEqDiff,Nat.reduceLT,Int.reducePow]
 ·exact(k5.mono (σ':=.dead::τ) (Nat.le_refl _) (fun o h1 h2=>by
   obtain⟨o,rfl⟩ : ∃p,o=p+1:=⟨o-1,by omega⟩
   rw[List.getElem?_cons_succ,List.getElem?_cons_succ])).frz (d:=4)
theorem start_ev (hn:c.lps.length=n) (h:Small12 c) :
  ∃(A:qf) (O:List (List AV)),SimSt n (start c) (qib c.lps) A O∧(evL T).call qj9 [(.agg [(.fsl ((c.lps).map lpC) false),(.fsl ((c.progs).map qaz) false),(ii c.look),(ii c.fin),(ii c.cap)])] []=some ((.ptr (n+2) 0 0 0),(A++[.row 1 O 0,(.row 10 [[(.fsl ((c.lps).map lpC) false),(.fsl ((c.progs).map qaz) false),(ii c.look),(ii c.fin),(ii c.cap),.sl (n+1) 0 0 n false,.sl 0 1 0 n false,(.fsl (((start c).pend).map Evt.r) false),(ii ((start c).n)),(bb ((start c).over))]] 0)])):=by
 obtain⟨R,τ,hs,hf⟩:=qaf2 (c:=c) h
 have hi:=qv2 c h
 have hlps:=h.lps
 have hlo:qct (n+1) (.row 4 ((qib c.lps).map lpF) 1::List.replicate n (.row 6 [] 0))=true:=by
  rw[qmh]
  intro x hx
  rcases List.mem_cons.1 hx with rfl|hx
  ·rw[q26];exact qgu _ _
  ·rw[List.eq_of_mem_replicate hx,q26,qqz]
 have hO:qc5 (n+1) ((List.range n).map fun i=>[(.sl (1+i) 0 0 0 false:AV)])=true:=by
  have : ∀(l:List Nat),(∀i∈l,i<n)→qc5 (n+1) (l.map fun i=>[(.sl (1+i) 0 0 0 false:AV)])=true:=by
   intro l
   induction l with
   |nil=>intro _;exact qqz _
   |cons a l ih=>
    intro hl
    have ha:=hl a (by simp)
    have d:1+a<n+1:=by omega
    rw[List.map_cons,qhn,ih (fun i hi=>hl i (by simp[hi]))]
    simp only[qtr,qyr,qaeu,d,zgv,zfc]
  exact this _ (fun i hi=>List.mem_range.1 hi)
 refine⟨.row 4 ((qib c.lps).map lpF) 1::List.replicate n (.row 6 [] 0),(List.range n).map fun i=>[.sl (1+i) 0 0 0 false],⟨by simp,rfl,by simp[qib,qadb,hn],rfl,?_,by simp[K.start,hn],by simp,?_,hlo,hO⟩,?_⟩
 ·intro x hx hf
  simp only[qib,qadb,List.mem_map]at hx
  obtain⟨ps,⟨l,_,rfl⟩,rfl⟩:=hx
  simpa[stLp]using hf
 ·intro i hi
  have:qiu (start c) i=[]:=by unfold qiu;simp[K.start,hn,hi]
  refine⟨0,?_,?_⟩
  ·rw[this,List.getElem?_cons_succ,List.getElem?_replicate,if_pos hi];rfl
  ·rw[this,List.getElem?_map,List.getElem?_range hi,Option.map_some,Nat.add_comm];rfl
 ·have b1:24*(n:Int)≤140737488355328:=by omega
  have b2:(n:Int)≤4611686018427387904:=by omega
  have b3:(n:Int)*24≤140737488355328:=by omega
  rw[hn]at hs
  have e1:(start c).pend=sortL (ql7 c.lps):=rfl
  have e2:(start c).n=0:=rfl
  have e3:(start c).over=false:=rfl
  rw[e1,e2,e3]
  have d1:n+1+1=n+2:=rfl
  rw[qe q6b q5c]
  simp only[qpv,zgs,zgr,hn,hs,hf,hi,b1,b2,d1,zgj,List.append_assoc,Nat.not_lt_zero,qa2,qu,Ev.ev1,qb,Ev.AV.cells,Ev.AV.uc,Ev.AV.plain,qh,ne_eq,zgy,↓qc,↓reduceIte,Nat.reduceAdd,Nat.reduceEqDiff,Nat.reduceLT,Nat.reduceLeDiff,Int.reducePow]
  rw[Nat.add_comm 1 n]
mutual
theorem qaic : ∀(a:AV),a.shift 0=a
 | .v _=>by simp only[AV.shift]
 | .agg cs=>by simp only[AV.shift,qn4 cs]
 | .tup cs=>by simp only[AV.shift,qn4 cs]
 | .fsl es c=>by simp only[AV.shift,qyu es]
 | .fptr cs=>by simp only[AV.shift,qn4 cs]
 | .sl o g off len c=>by simp only[AV.shift,Nat.add_zero]
 | .ptr o g i off=>by simp only[AV.shift,Nat.add_zero]
 | .fn f a b=>by simp only[AV.shift,qn4 a,qn4 b]
 | .yld o=>by simp only[AV.shift,Nat.add_zero]
 | .mp o=>by simp only[AV.shift,Nat.add_zero]
theorem qn4 : ∀(l:List AV),qic 0 l=l
 | []=>by simp only[qic]
 |a::l=>by simp only[qic,qaic a,qn4 l]
theorem qyu : ∀(l:List (List AV)),qiz 0 l=l
 | []=>by simp only[qiz]
 |a::l=>by simp only[qiz,qn4 a,qyu l]
end
theorem qaf5 {α β:Type} {f:α→Option β} : ∀ {l:List α} {t:List β},l.length=t.length→(∀(i:Nat) (a:α) (b:β),l[i]? = some a→t[i]? = some b→f a=some b)→qio f l=some t
 | [],[],_,_=>rfl
 |a::l,b::t,hl,h=>by
  rw[qu4,h 0 a b rfl rfl,qaf5 (by simpa using hl) (fun i a b h1 h2=>h (i+1) a b h1 h2)];rfl
 | [],_ :: _,h,_=>by simp at h
 | _ :: _,[],h,_=>by simp at h
theorem SimSt.frzO (S:SimSt n s L A O) (d:Nat) (B:qf):qio (qio (Ev.frz (A++B) (d+1))) O=some (s.trace.map qn):=by
 refine qaf5 (by rw[List.length_map,S.ol,S.trl]) (fun i a b h1 h2 => ?_)
 have hi:i<n:=by have:=(zei.1 h1).1;rw[S.ol]at this;exact this
 obtain⟨g,t1,t2⟩:=S.tr i hi
 rw[t2]at h1;cases h1
 have t3:s.trace[i]? = some (qiu s i):=by
  unfold qiu;rw[Int.toNat_natCast,zgE (by rw[S.trl];exact hi)];rfl
 rw[List.getElem?_map,t3]at h2;cases h2
 have hs:(A++B)[i+1]? = some (.row 6 ((qiu s i).map Evt.r) g):=by rw[List.getElem?_append_left (by rw[S.len];omega)];exact t1
 have tk:List.take (qiu s i).length (List.drop 0 ((qiu s i).map Evt.r))=(qiu s i).map Evt.r:=by rw[List.drop_zero];exact ztl (by simp)
 rw[qu4,q7t,frz_sl hs (by simp) (by rw[tk];exact qq _ _),tk]
 rfl
def isRow:SObj→Bool
 | .row .. => true
 | _=>false
theorem imp_zero {σ:qf} (h : ∀x∈σ,isRow x=true):qio (q1x 0) σ=some σ:=by
 refine qaf5 rfl (fun i a b h1 h2 => ?_)
 rw[h1]at h2;cases h2
 have:=h a (zmg h1)
 cases a<;>simp only[isRow,zfa]at this
 simp only[q1x,qyu]
theorem SimSt.imp (S:SimSt n s L A O):qio (q1x 0) (A++[.row 1 O 0,(.row 10 [[(.fsl ((c.lps).map lpC) false),(.fsl ((c.progs).map qaz) false),(ii c.look),(ii c.fin),(ii c.cap),.sl (n+1) 0 0 n false,.sl 0 1 0 n false,(.fsl ((s.pend).map Evt.r) false),(ii s.n),(bb s.over)]] 0)])=some (A++[.row 1 O 0,(.row 10 [[(.fsl ((c.lps).map lpC) false),(.fsl ((c.progs).map qaz) false),(ii c.look),(ii c.fin),(ii c.cap),.sl (n+1) 0 0 n false,.sl 0 1 0 n false,(.fsl ((s.pend).map Evt.r) false),(ii s.n),(bb s.over)]] 0)]):=by
 refine imp_zero (fun x hx => ?_)
 rcases List.mem_append.1 hx with hx|hx
 ·obtain⟨i,hi⟩:=List.mem_iff_getElem?.1 hx
  have hl:=(zei.1 hi).1
  rw[S.len]at hl
  cases i with
  |zero=>rw[S.lps]at hi;cases hi;rfl
  |succ i=>obtain⟨g,t1,_⟩:=S.tr i (by omega);rw[t1]at hi;cases hi;rfl
 ·simp only[List.mem_cons,List.not_mem_nil,or_false]at hx
  rcases hx with rfl|rfl<;>rfl
def errZ (c:Cfg) (s:Sim):Int:=if s.ready c=true then 10 else if s.over=true then 11 else 0
theorem Run_ev (hn:c.lps.length=n) (h12:Small12 c) (hok:CfgOk c) (hz:qaiq c=0) (hv:Valid c) (lim:Nat) (hlim:lim≤3000) :
  ∃L:List (Lp×Bool),L.map Prod.fst=(Sim.run c lim (start c)).lps∧(∀x∈L,x.2=true→x.1.procs=[]) ∧
   qac (evL T) qjo [(.agg [(.fsl ((c.lps).map lpC) false),(.fsl ((c.progs).map qaz) false),(ii c.look),(ii c.fin),(ii c.cap)]),(ii lim)]=some (.tup [(.fsl (((Sim.run c lim (start c)).trace).map qn) false),(.fsl ((L).map lpF) false),(ii (errZ c (Sim.run c lim (start c))))]):=by
 have hk:=qyb c hok
 rw[hz]at hk
 obtain⟨A0,O0,S0,h0⟩:=start_ev (c:=c) hn h12
 obtain⟨L,A,O,S,h1⟩:=run_ev hn lim lim hlim (by show 0+lim=lim;omega) (SInv.start hv) S0
 have h2:=qag3 (c:=c) (s:=Sim.run c lim (start c)) (O:=O) S.len
 refine⟨L,S.lpf,S.flag,?_⟩
 have i1:=S0.imp (c:=c)
 have fO:=fun d B=>S.frzO d B
 have tO:O.take n=O:=ztl (by rw[S.ol];omega)
 have tL:(L.map lpF).take n=L.map lpF:=ztl (by rw[List.length_map,S.lpl];omega)
 have hA0:=S.lps
 have p1:=fun B=>q70 S.len B 0 (by omega)
 have hOl:=S.ol
 have hLl:=S.lpl
 have hle:n≤n:=Nat.le_refl _
 rw[qac,qe qaac q8s]
 unfold errZ
 cases hr:(Sim.run c lim (start c)).ready c with
 |true=>
  rw[hr]at h2
  simp only[qoc,q7z S.len,qod S.len,hk,h0,i1,h1,h2,p1,hA0,fO,tO,tL,hOl,hLl,hle,qgu,qa2,qu,Ev.ev1,qb,Ev.AV.cells,Ev.AV.plain,qh,ne_eq,zgy,↓qc,↓reduceIte,Nat.reduceAdd,Nat.reduceEqDiff,Nat.reduceLT,reduceCtorEq]
  done
 |false=>
  rw[hr]at h2
  cases ho:(Sim.run c lim (start c)).over with
  |true=>
   rw[ho]at h1 h2
   simp only[qoc,q7z S.len,qod S.len,hk,h0,i1,h1,h2,p1,hA0,fO,tO,tL,hOl,hLl,hle,qgu,qa2,qu,Ev.ev1,qb,Ev.AV.cells,Ev.AV.plain,qh,ne_eq,zgy,↓qc,↓reduceIte,Nat.reduceAdd,Nat.reduceEqDiff,Nat.reduceLT,reduceCtorEq]
   done
  |false=>
   rw[ho]at h1 h2
   simp only[qoc,q7z S.len,qod S.len,hk,h0,i1,h1,h2,p1,hA0,fO,tO,tL,hOl,hLl,hle,qgu,qa2,qu,Ev.ev1,qb,Ev.AV.cells,Ev.AV.plain,qh,ne_eq,zgy,↓qc,↓reduceIte,Nat.reduceAdd,Nat.reduceEqDiff,Nat.reduceLT,reduceCtorEq]
   done
end
set_option maxRecDepth 10000
theorem qaeq (h:List Evt) : ∀n:Nat,((List.range n).map fun i=>qbc h i).flatten.Perm (h.filter fun e=>decide (0≤e.lp∧e.lp<(n:Int)))
 | 0=>by
  have:h.filter (fun e=>decide (0≤e.lp∧e.lp<((0:Nat):Int)))=[]:=List.filter_eq_nil_iff.2 (fun e _=>by simp only[decide_eq_true_eq];omega)
  rw[this];exact .refl _
 |n+1=>by
  rw[List.range_succ,List.map_append,List.flatten_append]
  refine(List.Perm.append (qaeq h n) (.refl _)).trans ?_
  have e1:h.filter (fun e=>decide (0≤e.lp∧e.lp<(n:Int)))=(h.filter fun e=>decide (0≤e.lp∧e.lp<((n+1:Nat):Int))).filter (fun e=>decide (e.lp<(n:Int))):=by
   rw[List.filter_filter]
   refine List.filter_congr (fun e _ => ?_)
   rw[←Bool.decide_and]
   refine decide_eq_decide.2 ?_
   omega
  have e2:([qbc h n].flatten:List Evt)=(h.filter fun e=>decide (0≤e.lp∧e.lp<((n+1:Nat):Int))).filter (fun e => !decide (e.lp<(n:Int))):=by
   rw[List.filter_filter,List.flatten_cons,List.flatten_nil,List.append_nil]
   refine List.filter_congr (fun e _ => ?_)
   rw[←decide_not,←Bool.decide_and]
   refine decide_eq_decide.2 ?_
   omega
  rw[e1,List.map_cons,List.map_nil,e2]
  exact List.filter_append_perm _ _
theorem q7g {h:List Evt} {n:Nat} (hl : ∀e∈h,0≤e.lp∧e.lp<(n:Int)):((List.range n).map fun i=>qbc h i).flatten.Perm h:=by
 have:=qaeq h n
 rwa[List.filter_eq_self.2 (fun e he=>by simpa using hl e he)]at this
section
variable {c:Cfg} {s:Sim} {h:List Evt}
theorem SInvK.traces (H:SInvK c s h):s.trace=(List.range c.lps.length).map fun i=>qbc h i:=by
 refine List.ext_getElem? (fun i => ?_)
 by_cases hi:i<c.lps.length
 ·rw[H.tr i hi,List.getElem?_map,List.getElem?_range hi];rfl
 ·rw[List.getElem?_eq_none (by rw[H.trl];omega),List.getElem?_eq_none (by simp;omega)]
theorem SInvK.perm (H:SInvK c s h):s.trace.flatten.Perm h:=by
 rw[H.traces]
 exact q7g (fun e he=>(H.ev e (List.mem_append_left _ he)).lp)
theorem SInvK.count (H:SInvK c s h):s.trace.flatten.length=h.length:=H.perm.length_eq
theorem SInvK.mem (H:SInvK c s h) {i:Nat} {x:List Evt} (hx:s.trace[i]? = some x) : ∀e∈x,e∈h∧e.lp=i:=by
 have hi:=(zei.1 hx).1
 rw[H.trl]at hi
 rw[H.tr i hi]at hx;cases hx
 intro e he
 unfold qbc at he
 rw[List.mem_filter]at he
 exact⟨he.1,by simpa using he.2⟩
theorem run_stop {d:Nat} (hr:s.ready c=false):Sim.run c d s=s:=by
 cases d with
 |zero=>rfl
 |succ d=>rw[Sim.run,if_neg (by rw[hr];exact Bool.false_ne_true)]
end
set_option maxRecDepth 10000
theorem qabg (xs:List (List Evt)) (cl:Bool) (hx:xs.length≤1000000) (hT:xs.flatten.length≤1000000):qac (evL T) qgy [(.fsl ((xs).map qn) cl)]=some (ii xs.flatten.length):=by
 by_cases hne:xs=[]
 ·subst hne
  have h:=qabo cl
  rw[qac,qe qtw qr0]
  simp only[qlt,List.map_nil,h,Ev.ev1,qh,zgy,↓qc,↓reduceIte,reduceCtorEq]
  rfl
 ·obtain⟨g,h⟩:=qvu xs cl hx hT hne
  rw[qac,qe qtw qr0]
  simp only[qlt,h,qkn,qq,qcb,Ev.ev1,q1x,qh,zgy,↓qc,↓reduceIte,reduceCtorEq]
theorem qakl (a b:List (List Evt)) (ca cb:Bool) (hl:a.length=b.length) (hal:a.length≤1000000) (hp : ∀(i:Nat) x y,a[i]? = some x→b[i]? = some y → ∃t,y=x++t) (hs : ∀x∈b,x.length≤1000000) (hk : ∀x∈b,∀e∈x,e.key.length≤9223372036854775807) :
  qac (evL T) qhi [(.fsl ((a).map qn) ca),(.fsl ((b).map qn) cb)]=some (bb true):=by
 have hL : ∃y,itB (exec (evL T) itL none qm1) (qai [0,1,5] true 0) ⟨[(0,(.fsl ((a).map qn) ca)),(1,(.fsl ((b).map qn) cb)),(5,(ii ((0:Nat))))],[]⟩ []=some y∧(y.1 = .exit 0∧y.2.1.marks=[]∧y.2.2=[]):=by
  refine q25 a (fun i=>⟨[(0,(.fsl ((a).map qn) ca)),(1,(.fsl ((b).map qn) cb)),(5,(ii i))],[]⟩) [] _ ?_ ?_
  ·intro i x hi hx
   obtain⟨y,hy⟩ : ∃y,b[i]? = some y:=⟨_,zgE (by omega)⟩
   obtain⟨t,rfl⟩:=hp i x y hx hy
   have hi':(i:Int)<(a.length:Int):=by omega
   have hw:IntKind.i64.wrap ((i:Int)+1)=((i+1:Nat):Int):=by rw[qi (by omega) (by omega)];simp
   have hyl:=hs _ (zmg hy)
   have hyk:=hk _ (zmg hy)
   rw[List.length_append]at hyl
   have hxk : ∀e∈x,e.key.length≤9223372036854775807:=fun e he=>hyk e (List.mem_append_left _ he)
   have he:=q2c x x false false (by omega) (by omega) hxk hxk
   rw[decide_eq_true rfl]at he
   have c1:¬(x.length:Int)>((x.length+t.length:Nat):Int):=by omega
   have c2:(x.length:Int)≤((x.length+t.length:Nat):Int):=by omega
   have tk:List.take x.length (x.map Evt.r++t.map Evt.r)=x.map Evt.r:=List.take_left' (by simp)
   have ok:qcy 6 (x.map Evt.r++t.map Evt.r)=true:=by rw[←List.map_append];exact qow _
   have d1:decide (((x.length:Nat):Int)=((x.length+t.length:Nat):Int))=decide (t.length=0):=by
    refine decide_eq_decide.2 ?_;omega
   simp only[qm1,zgs,zgr,zgq,zgt,hx,hy,hi',hw,c1,c2,tk,ok,he,qn,qcb,qq,List.map_append,Int.le_refl,Nat.sub_zero,Ev.ev1,qb,zgy,implies_true,↓qc,↓reduceIte,Nat.reduceEqDiff,Int.reduceToNat,reduceCtorEq]
  ·simp only[qm1,Int.lt_irrefl,Ev.ev1,zgy,↓qc,↓reduceIte,Nat.reduceEqDiff,reduceCtorEq]
   exact⟨_,rfl,rfl,rfl,rfl⟩
 obtain⟨⟨y,e,σ⟩,k1,k2,k3,k4⟩:=hL
 simp only[Int.ofNat_zero]at k1 k2 k3 k4
 subst k2;subst k4
 have hl':(a.length:Int)=(b.length:Int):=by omega
 rw[qac,qe q6h q3s]
 simp only[qpq,hl',k1,k3,qcb,Ev.ev1,qh,ne_eq,zgy,↓qc,↓qv,↓reduceIte,Nat.reduceAdd,Nat.reduceEqDiff,reduceCtorEq]
structure Good (c:Cfg):Prop where
 h12:Small12 c
 ok:CfgOk c
 z:qaiq c=0
 v:Valid c
theorem good_of {c:Cfg} (h:okB c=true):Good c:=by
 simp only[okB,Bool.and_eq_true,Bool.not_eq_true',decide_eq_true_eq]at h
 obtain⟨h1,h2⟩:=h
 obtain⟨g1,g2,g3,g4⟩:=q8q c h1
 exact⟨⟨g1,g3⟩,⟨by omega,by omega,fun p hp=>by have:=g4 p hp;omega,fun l hl=>by have:=g3 l hl;omega⟩,by rw[←qaco];exact h2,qag7 h2⟩
def qagw (c:Cfg) (lim:Nat):Sim:=Sim.run c lim (start c)
theorem Good.run {c:Cfg} (h:Good c) (lim:Nat) (hl:lim≤3000) : ∃L:List (Lp×Bool),L.map Prod.fst=(qagw c lim).lps∧(∀x∈L,x.2=true→x.1.procs=[]) ∧
   qac (evL T) qjo [(.agg [(.fsl ((c.lps).map lpC) false),(.fsl ((c.progs).map qaz) false),(ii c.look),(ii c.fin),(ii c.cap)]),(ii lim)]=some (.tup [(.fsl (((qagw c lim).trace).map qn) false),(.fsl ((L).map lpF) false),(ii (errZ c (qagw c lim)))]):=
 Run_ev rfl h.h12 h.ok h.z h.v lim hl
structure RunF (c:Cfg) (s:Sim) (h:List Evt):Prop where
 inv:SInv c s h
 len:h.length≤3000
theorem RunF.n {c:Cfg} {s:Sim} {h:List Evt} (H:RunF c s h):s.trace.length=c.lps.length∧c.lps.length≤8:=⟨H.inv.trl,H.inv.valid.lps.2⟩
theorem RunF.key {c:Cfg} {s:Sim} {h:List Evt} (H:RunF c s h) {i:Nat} {x:List Evt} (hx:s.trace[i]? = some x) : ∀e∈x,e.key.length≤9223372036854775807:=by
 intro e he
 have:=(H.inv.ev e (List.mem_append_left _ (H.inv.mem hx e he).1)).key
 have:=H.len;omega
set_option maxRecDepth 10000
section
variable (l:List Evt) (cl:Bool)
end
set_option maxRecDepth 10000
section
variable (c:Cfg)
end
set_option maxRecDepth 10000
section
variable (D:List Evt) (G:List (List Int)) (cd cg:Bool)
end
theorem qwa (a:List (List Evt)) (ca cb:Bool) (hal:a.length≤1000000) (hs : ∀x∈a,x.length≤1000000) (hk : ∀x∈a,∀e∈x,e.key.length≤9223372036854775807) :
  qac (evL T) qdt [(.fsl ((a).map qn) ca),(.fsl ((a).map qn) cb)]=some (bb true):=by
 have hL : ∃y,itB (exec (evL T) itL none qjv) (qai [0,1,5] true 0) ⟨[(0,(.fsl ((a).map qn) ca)),(1,(.fsl ((a).map qn) cb)),(5,(ii ((0:Nat))))],[]⟩ []=some y∧(y.1 = .exit 0∧y.2.1.marks=[]∧y.2.2=[]):=by
  refine q25 a (fun i=>⟨[(0,(.fsl ((a).map qn) ca)),(1,(.fsl ((a).map qn) cb)),(5,(ii i))],[]⟩) [] _ ?_ ?_
  ·intro i x hi hx
   have hi':(i:Int)<(a.length:Int):=by omega
   have hw:IntKind.i64.wrap ((i:Int)+1)=((i+1:Nat):Int):=by rw[qi (by omega) (by omega)];simp
   have hxl:=hs _ (zmg hx)
   have hxk:=hk _ (zmg hx)
   have he:=q2c x x false false (by omega) (by omega) hxk hxk
   rw[decide_eq_true rfl]at he
   simp only[qjv,zgs,zgr,zgq,zgt,hx,hi',hw,he,qn,qcb,qq,Ev.ev1,qb,zgy,↓qc,↓reduceIte,Nat.reduceEqDiff,reduceCtorEq]
  ·simp only[qjv,Int.lt_irrefl,Ev.ev1,zgy,↓qc,↓reduceIte,Nat.reduceEqDiff,reduceCtorEq]
   exact⟨_,rfl,rfl,rfl,rfl⟩
 obtain⟨⟨y,e,σ⟩,k1,k2,k3,k4⟩:=hL
 simp only[Int.ofNat_zero]at k1 k2 k3 k4
 subst k2;subst k4
 rw[qac,qe q0g qya]
 simp only[qmb,k1,k3,qcb,Ev.ev1,qh,ne_eq,zgy,↓qc,↓qv,↓reduceIte,Nat.reduceAdd,Nat.reduceEqDiff,reduceCtorEq]
set_option maxRecDepth 10000
section
variable {c:Cfg} {s:Sim} {h:List Evt}
end
set_option maxRecDepth 10000
section
variable {c:Cfg} {s:Sim} {h:List Evt}
def LOk (L:List (Lp×Bool)) (s:Sim):Prop:=L.map Prod.fst=s.lps ∧ ∀x∈L,x.2=true→x.1.procs=[]
end
set_option maxRecDepth 10000
def qca (n:Nat) (l:List Evt):List (List Evt):=(List.range n).map fun i=>sortL (qbc l i)
theorem qaht {l:List Evt} (h:q3p l) (i:Nat):q3p (qbc l i):=h.sub List.filter_sublist
section
variable (l:List Evt) (cl:Bool)
end
theorem Quick_ev (c:Cfg) : ∃b:Bool,qac (evL T) qk8 [(.agg [(.fsl ((c.lps).map lpC) false),(.fsl ((c.progs).map qaz) false),(ii c.look),(ii c.fin),(ii c.cap)])]=some (bb b)∧(b=true→okB c=true∧c.look≤8∧c.lps.length≤4):=by
 have hg:=qaao c
 have hr:=qaad c
 rw[qac,qe q71 q6u]
 by_cases h1:q0q c=true
 ·rw[h1]at hg
  exact⟨false,by simp only[qie,hg,qa2,qu,Ev.ev1,qb,Ev.AV.cells,Ev.AV.plain,qh,ne_eq,zgy,↓qc,↓reduceIte,Nat.reduceAdd,Nat.reduceEqDiff],fun h=>by cases h⟩
 simp only[Bool.not_eq_true]at h1
 rw[h1]at hg
 by_cases h2:q8o c=0
 case neg=>exact⟨false,by simp only[qie,hg,hr,h2,qa2,qu,Ev.ev1,qb,Ev.AV.cells,Ev.AV.plain,qh,ne_eq,zgy,↓qc,↓reduceIte,Nat.reduceAdd,Nat.reduceEqDiff],fun h=>by cases h⟩
 rw[h2]at hr
 by_cases h3:c.look>8
 ·exact⟨false,by simp only[qie,hg,hr,h3,qa2,qu,Ev.ev1,qb,Ev.AV.cells,Ev.AV.plain,qh,ne_eq,zgy,↓qc,↓reduceIte,Nat.reduceAdd,Nat.reduceEqDiff],fun h=>by cases h⟩
 by_cases h4:(c.lps.length:Int)>4
 ·exact⟨false,by simp only[qie,hg,hr,h3,h4,qa2,qu,Ev.ev1,qb,Ev.AV.cells,Ev.AV.plain,qh,ne_eq,zgy,↓qc,↓reduceIte,Nat.reduceAdd,Nat.reduceEqDiff],fun h=>by cases h⟩
 have hok:okB c=true∧c.look≤8∧c.lps.length≤4:=⟨by unfold okB;rw[h1,h2];rfl,by omega,by omega⟩
 obtain⟨s1,s2,s3,s4⟩:=q8q c h1
 have hL1 : ∃y,itB (exec (evL T) itL none qly) (qai [1,3,4,5] true 0) ⟨[(1,(.fptr [(.fsl ((c.lps).map lpC) false),(.fsl ((c.progs).map qaz) false),(ii c.look),(ii c.fin),(ii c.cap)])),(3,(ii 0)),(4,(ii 0)),(5,(ii ((0:Nat))))],[]⟩ []=some y ∧ ∃a:Int,y.1 = .exit 0∧y.2.1.marks=[]∧y.2.2=[]∧Ev.look y.2.1.vars 1=some (.fptr [(.fsl ((c.lps).map lpC) false),(.fsl ((c.progs).map qaz) false),(ii c.look),(ii c.fin),(ii c.cap)])∧Ev.look y.2.1.vars 3=some (ii a)∧Ev.look y.2.1.vars 4=some (ii 0):=by
  have key:=qg5 (f:=exec (evL T) itL none qly) (s:=qai [1,3,4,5] true 0) (α:=Int) (fun i a=>⟨[(1,(.fptr [(.fsl ((c.lps).map lpC) false),(.fsl ((c.progs).map qaz) false),(ii c.look),(ii c.fin),(ii c.cap)])),(3,(ii a)),(4,(ii 0)),(5,(ii i))],[]⟩) (fun _ _=>[]) (fun _ _=>True) c.lps.length
   (fun y => ∃a:Int,y.1 = .exit 0∧y.2.1.marks=[]∧y.2.2=[]∧Ev.look y.2.1.vars 1=some (.fptr [(.fsl ((c.lps).map lpC) false),(.fsl ((c.progs).map qaz) false),(ii c.look),(ii c.fin),(ii c.cap)])∧Ev.look y.2.1.vars 3=some (ii a)∧Ev.look y.2.1.vars 4=some (ii 0)) ?_ ?_ 0 0 (Nat.zero_le _) trivial
  ·exact key
  ·rintro i a hi _
   obtain⟨x,hx⟩ : ∃x,c.lps[i]? = some x:=⟨_,zgE hi⟩
   have hi':(i:Int)<(c.lps.length:Int):=by omega
   have hw:IntKind.i64.wrap ((i:Int)+1)=((i+1:Nat):Int):=by rw[qi (by omega) (by omega)];simp
   refine .inl ⟨IntKind.i64.wrap (a+(x.length:Int)),?_,trivial⟩
   simp only[qly,zgs,zgr,zgq,zgt,hx,hi',hw,lpC,qa2,qu,Ev.ev1,qb,zgy,↓qc,↓reduceIte,Nat.reduceEqDiff]
  ·rintro a _
   simp only[qly,Int.lt_irrefl,Ev.ev1,qb,zgy,↓qc,↓reduceIte,Nat.reduceEqDiff]
   exact⟨_,rfl,a,rfl,rfl,rfl,rfl,rfl,rfl⟩
 have hL3 : ∀(i:Nat) (p:List OpI) (a b:Int),c.progs[i]? = some p → ∃y,itB (exec (evL T) itL none qjh) (qai [1,3,4,6,7] true 0) ⟨[(1,(.fptr [(.fsl ((c.lps).map lpC) false),(.fsl ((c.progs).map qaz) false),(ii c.look),(ii c.fin),(ii c.cap)])),(3,(ii a)),(4,(ii b)),(6,(ii i)),(7,(ii ((0:Nat))))],[]⟩ []=some y ∧ ∃b:Int,y.1 = .exit 4∧y.2.1.marks=[]∧y.2.2=[]∧Ev.look y.2.1.vars 1=some (.fptr [(.fsl ((c.lps).map lpC) false),(.fsl ((c.progs).map qaz) false),(ii c.look),(ii c.fin),(ii c.cap)])∧Ev.look y.2.1.vars 3=some (ii a)∧Ev.look y.2.1.vars 4=some (ii b)∧Ev.look y.2.1.vars 6=some (ii i):=by
  intro i p a b hp
  have key:=qg5 (f:=exec (evL T) itL none qjh) (s:=qai [1,3,4,6,7] true 0) (α:=Int) (fun k b=>⟨[(1,(.fptr [(.fsl ((c.lps).map lpC) false),(.fsl ((c.progs).map qaz) false),(ii c.look),(ii c.fin),(ii c.cap)])),(3,(ii a)),(4,(ii b)),(6,(ii i)),(7,(ii k))],[]⟩) (fun _ _=>[]) (fun _ _=>True) p.length
   (fun y => ∃b:Int,y.1 = .exit 4∧y.2.1.marks=[]∧y.2.2=[]∧Ev.look y.2.1.vars 1=some (.fptr [(.fsl ((c.lps).map lpC) false),(.fsl ((c.progs).map qaz) false),(ii c.look),(ii c.fin),(ii c.cap)])∧Ev.look y.2.1.vars 3=some (ii a)∧Ev.look y.2.1.vars 4=some (ii b)∧Ev.look y.2.1.vars 6=some (ii i)) ?_ ?_ 0 b (Nat.zero_le _) trivial
  ·exact key
  ·rintro k b hk _
   obtain⟨x,hx⟩ : ∃x,p[k]? = some x:=⟨_,zgE hk⟩
   have:=s4 p (zmg hp)
   have hk':(k:Int)<(p.length:Int):=by omega
   have hw:IntKind.i64.wrap ((k:Int)+1)=((k+1:Nat):Int):=by rw[qi (by omega) (by omega)];simp
   obtain⟨xc,xa,xb,xd⟩:=x
   by_cases h:xc=2
   ·exact .inl ⟨IntKind.i64.wrap (b+1),by simp only[qjh,zgs,zgr,zgq,zgt,hp,hx,hk',hw,h,qaz,OpI.r,qa2,qu,Ev.ev1,qb,zgy,↓qc,↓reduceIte,Nat.reduceAdd,Nat.reduceEqDiff],trivial⟩
   ·exact .inl ⟨b,by simp only[qjh,zgs,zgr,zgq,zgt,hp,hx,hk',hw,h,qaz,OpI.r,qa2,qu,Ev.ev1,qb,zgy,↓qc,↓reduceIte,Nat.reduceAdd,Nat.reduceEqDiff],trivial⟩
  ·rintro b _
   simp only[qjh,zgs,zgr,zgq,zgt,hp,Int.lt_irrefl,qaz,Ev.ev1,qb,zgy,↓qc,↓reduceIte,Nat.reduceEqDiff]
   exact⟨_,rfl,b,rfl,rfl,rfl,rfl,rfl,rfl,rfl⟩
 have hL2 : ∀a:Int,∃y,itB (exec (evL T) itL none qlu) (qai [1,3,4,6] true 0) ⟨[(1,(.fptr [(.fsl ((c.lps).map lpC) false),(.fsl ((c.progs).map qaz) false),(ii c.look),(ii c.fin),(ii c.cap)])),(3,(ii a)),(4,(ii 0)),(6,(ii ((0:Nat))))],[]⟩ []=some y ∧ ∃b:Int,y.1 = .exit 2∧y.2.1.marks=[]∧y.2.2=[]∧Ev.look y.2.1.vars 3=some (ii a)∧Ev.look y.2.1.vars 4=some (ii b):=by
  intro a
  have key:=qg5 (f:=exec (evL T) itL none qlu) (s:=qai [1,3,4,6] true 0) (α:=Int) (fun i b=>⟨[(1,(.fptr [(.fsl ((c.lps).map lpC) false),(.fsl ((c.progs).map qaz) false),(ii c.look),(ii c.fin),(ii c.cap)])),(3,(ii a)),(4,(ii b)),(6,(ii i))],[]⟩) (fun _ _=>[]) (fun _ _=>True) c.progs.length
   (fun y => ∃b:Int,y.1 = .exit 2∧y.2.1.marks=[]∧y.2.2=[]∧Ev.look y.2.1.vars 3=some (ii a)∧Ev.look y.2.1.vars 4=some (ii b)) ?_ ?_ 0 0 (Nat.zero_le _) trivial
  ·exact key
  ·rintro i b hi _
   obtain⟨x,hx⟩ : ∃x,c.progs[i]? = some x:=⟨_,zgE hi⟩
   have hi':(i:Int)<(c.progs.length:Int):=by omega
   have hw:IntKind.i64.wrap ((i:Int)+1)=((i+1:Nat):Int):=by rw[qi (by omega) (by omega)];simp
   obtain⟨⟨y,e,σ⟩,k1,b',k2,k3,k4,k5,k6,k7,k8⟩:=hL3 i x a b hx
   simp only[Int.ofNat_zero]at k1 k2 k3 k4 k5 k6 k7 k8
   subst k2;subst k4
   refine .inl ⟨b',?_,trivial⟩
   simp only[qlu,hi',hw,k1,k3,k5,k6,k7,k8,qa2,qu,Ev.ev1,qb,zgy,↓qc,↓qv,↓reduceIte,Nat.reduceEqDiff]
  ·rintro b _
   simp only[qlu,Int.lt_irrefl,Ev.ev1,qb,zgy,↓qc,↓reduceIte,Nat.reduceEqDiff]
   exact⟨_,rfl,b,rfl,rfl,rfl,rfl,rfl⟩
 obtain⟨⟨y,e,σ⟩,k1,a,k2,k3,k4,k5,k6,k7⟩:=hL1
 obtain⟨⟨y',e',σ'⟩,m1,b,m2,m3,m4,m5,m6⟩:=hL2 a
 simp only[Int.ofNat_zero]at k1 k2 k3 k4 k5 k6 k7 m1 m2 m3 m4 m5 m6
 subst k2;subst k4;subst m2;subst m4
 by_cases h5:a≤6
 ·exact⟨decide (b≤6),by simp only[qie,hg,hr,h3,h4,h5,k1,k3,k5,k6,k7,m1,m3,m5,m6,qa2,qu,Ev.ev1,qb,Ev.AV.cells,Ev.AV.plain,qh,ne_eq,zgy,↓qc,↓qv,↓reduceIte,Nat.reduceAdd,Nat.reduceEqDiff],fun _=>hok⟩
 ·exact⟨false,by simp only[qie,hg,hr,h3,h4,h5,k1,k3,k5,k6,k7,m1,m3,m5,qa2,qu,Ev.ev1,qb,Ev.AV.cells,Ev.AV.plain,qh,ne_eq,zgy,↓qc,↓qv,↓reduceIte,Nat.reduceAdd,Nat.reduceEqDiff],fun _=>hok⟩
set_option maxRecDepth 10000
section
variable {c:Cfg} {i:Nat} {w:WSt} {O:List Evt} {S:Sim} {H:List Evt} {f hor:Int}
structure WTime (c:Cfg) (i:Nat) (f hor:Int) (w:WSt):Prop where
 box : ∀e∈w.box,f≤e.time
 done : ∀e∈w.done,f≤e.time∧e.time<hor∧e.lp=i
 sent : ∀e∈w.sent,f+c.look≤e.time∧e.lp≠i∧0≤e.lp∧e.lp<c.lps.length
theorem qaik (j:Int) : ∀(l:List Evt) (p:List Evt×List Evt),∀e∈(qfw j p l).1,e∈p.1∨e∈l:=fun l p e he=>by
 have h:=(qsm j l p []).mem_iff (a:=e)
 have hs:=qwq j l p
 rw[List.append_nil,List.append_nil]at h
 have:=h.1 (List.mem_append_left _ he)
 simp only[List.mem_append]at this
 rcases this with h1|h1|h1
 ·exact .inl h1
 ·-- an element of p.2: counted on the right already
  exact(placeB_mem_aux j l p e he).elim .inl .inr
 ·exact .inr h1
where
 placeB_mem_aux (j:Int) : ∀(l:List Evt) (p:List Evt×List Evt) (e:Evt),e∈(qfw j p l).1→e∈p.1∨e∈l
  | [],p,e,h => .inl h
  |n::l,p,e,h=>by
   rcases placeB_mem_aux j l (qqq j p n) e h with h|h
   ·unfold qqq at h
    split at h
    ·rcases List.mem_cons.1 ((qdd _).mem_iff.1 h)with h|h
     ·exact .inr (by simp[h])
     ·exact .inl h
    ·exact .inl h
   ·exact .inr (List.mem_cons_of_mem _ h)
theorem WTime.step (h:WTime c i f hor w) {e:Evt} {rest:List Evt} (hb:w.box=e::rest) (ht:e.time<hor) (hl:e.lp=i) (R:Ready c w.lp e):WTime c i f hor (w.step c e rest):=by
 obtain⟨X,_,o1,_⟩:=R.outs
 have fe:=h.box e (by rw[hb];simp)
 have out : ∀n∈(qa1 c w.lp e).out,∃k,EvOk c e X k n:=fun n hn=>by
  obtain⟨k,hk⟩:=List.mem_iff_getElem?.1 hn
  exact⟨k,o1 k n hk⟩
 refine⟨fun n hn => ?_,fun n hn => ?_,fun n hn => ?_⟩
 ·have:=(qol _ _).subset hn
  rcases qaik _ _ _ n this with h1|h1
  ·exact h.box n (by rw[hb];exact List.mem_cons_of_mem _ h1)
  ·obtain⟨k,hk⟩:=out n h1;have:=hk.time;omega
 ·rcases List.mem_append.1 hn with hn|hn
  ·exact h.done n hn
  ·rw[List.mem_singleton]at hn;subst hn;exact⟨fe,ht,hl⟩
 ·change n∈(qfw e.lp (rest,w.sent) (qa1 c w.lp e).out).2 at hn
  rw[qwq]at hn
  rcases List.mem_append.1 hn with hn|hn
  ·exact h.sent n hn
  ·rw[List.mem_filter]at hn
   obtain⟨h1,h2⟩:=hn
   simp only[Bool.not_eq_true',decide_eq_false_iff_not]at h2
   obtain⟨k,a1,a2,a3,a4⟩:=out n h1
   have k3:n.kind=3:=Classical.byContradiction fun k3=>h2 (a4 k3).1
   obtain⟨m1,m2,m3,m4⟩:=a3 k3
   exact⟨by omega,by rw[←hl];exact h2,m1,m2⟩
theorem WTime.run : ∀(k:Nat) {w:WSt} {S:Sim} {H:List Evt},WTime c i f hor w→WInv c i w O S H→H.length+k≤20000→WTime c i f hor (WSt.run c hor k w)
 | 0,w,S,H,h,_,_=>h
 |k+1,w,S,H,h,hI,hk=>by
  unfold WSt.run
  split
  ·exact h
  next e rest hb=>
   split
   next ht=>
    obtain⟨h1,R,_⟩:=hI.ready (by omega) hb
    obtain⟨S',g1,_⟩:=hI.step (by omega) hb
    exact WTime.run k (h.step hb ht h1 R) g1 (by simp;omega)
   ·exact h
theorem qajn (c:Cfg) (hor:Int) : ∀(k:Nat) (w:WSt),(WSt.run c hor k w).done.length=w.done.length+k∨((WSt.run c hor k w).done.length≤w.done.length+k∧((WSt.run c hor k w).box=[] ∨ ∃e r,(WSt.run c hor k w).box=e::r∧hor≤e.time))
 | 0,w => .inl rfl
 |k+1,w=>by
  unfold WSt.run
  split
  next hb=>exact .inr ⟨by omega,.inl hb⟩
  next e rest hb=>
   split
   ·have hl:(w.step c e rest).done.length=w.done.length+1:=by simp[WSt.step]
    rcases qajn c hor k (w.step c e rest)with h|⟨h1,h2⟩
    ·exact .inl (by omega)
    ·exact .inr ⟨by omega,h2⟩
   next ht=>exact .inr ⟨by omega,.inr ⟨e,rest,hb,by omega⟩⟩
end
theorem qajm (r:List Int) (x:Int):r.foldl q1w x≤x∧(∀y∈r,r.foldl q1w x≤y)∧(r.foldl q1w x=x∨r.foldl q1w x∈r):=by
 induction r generalizing x with
 |nil=>exact⟨Int.le_refl _,fun y hy=>by simp at hy,.inl rfl⟩
 |cons a r ih=>
  obtain⟨h1,h2,h3⟩:=ih (q1w x a)
  have hm:q1w x a≤x∧q1w x a≤a∧(q1w x a=x∨q1w x a=a):=by unfold q1w;split<;>omega
  simp only[List.foldl_cons]
  refine⟨by omega,fun y hy => ?_,?_⟩
  ·rcases List.mem_cons.1 hy with rfl|hy
   ·omega
   ·exact h2 y hy
  ·rcases h3 with h3|h3
   ·rcases hm.2.2 with h4|h4
    ·exact .inl (by omega)
    ·exact .inr (by rw[h3,h4];simp)
   ·exact .inr (List.mem_cons_of_mem _ h3)
theorem q4z {bs:List (List Evt)} {t:Int}:t∈qp0 bs ↔ ∃b∈bs,∃e r,b=e::r∧e.time=t:=by
 unfold qp0
 simp only[List.mem_map,List.mem_filterMap]
 constructor
 ·rintro⟨e,⟨b,hb,hh⟩,rfl⟩
  cases b with
  |nil=>simp at hh
  |cons x r=>simp only[zgh,Option.some.injEq]at hh;subst hh;exact⟨_,hb,x,r,rfl,rfl⟩
 ·rintro⟨b,hb,e,r,rfl,rfl⟩
  exact⟨e,⟨_,hb,rfl⟩,rfl⟩
theorem q00 {bs:List (List Evt)} {f:Int} (h:qx7 bs=some f) (hs : ∀b∈bs,b.Pairwise leE):(∀b∈bs,∀e∈b,f≤e.time) ∧ ∃b∈bs,∃e r,b=e::r∧e.time=f:=by
 unfold qx7 at h
 split at h
 ·cases h
 next x r hf=>
  cases h
  obtain⟨h1,h2,h3⟩:=qajm r x
  have all : ∀t∈qp0 bs,r.foldl q1w x≤t:=fun t ht=>by
   rw[hf]at ht
   rcases List.mem_cons.1 ht with rfl|ht
   ·exact h1
   ·exact h2 t ht
  refine⟨fun b hb e he => ?_,?_⟩
  ·cases b with
   |nil=>simp at he
   |cons y q=>
    have:=all y.time (q4z.2 ⟨_,hb,y,q,rfl,rfl⟩)
    rcases List.mem_cons.1 he with rfl|he
    ·exact this
    ·have:=q08 ((List.pairwise_cons.1 (hs _ hb)).1 e he);omega
  ·refine q4z.1 ?_
   rw[hf]
   rcases h3 with h3|h3
   ·rw[h3];simp
   ·exact List.mem_cons_of_mem _ h3
theorem qafm {bs:List (List Evt)} (h:qx7 bs=none) : ∀b∈bs,b=[]:=by
 intro b hb
 cases b with
 |nil=>rfl
 |cons e r=>
  have:=q4z.2 ⟨_,hb,e,r,rfl,rfl⟩
  unfold qx7 at h
  split at h
  ·rename_i hf;rw[hf]at this;simp at this
  ·cases h
structure StF (c:Cfg) (s:Sim) (h:List Evt) (L:List (Lp×Bool)):Prop where
 inv:SInvK c s h
 len:h.length≤30
 lok:LOk L s
section
variable {c:Cfg} {s:Sim} {h:List Evt} {L:List (Lp×Bool)}
theorem StF.lL (F:StF c s h L):L.length=c.lps.length:=by
 have:=congrArg List.length F.lok.1
 rw[List.length_map,F.inv.lpl]at this;exact this
theorem StF.at (F:StF c s h L) {i:Nat} (hi:i<c.lps.length) : ∃x f,L[i]? = some (x,f)∧s.lps[i]? = some x∧(f=true→x.procs=[]):=by
 obtain⟨z,hz⟩ : ∃z,L[i]? = some z:=⟨_,zgE (by rw[F.lL];exact hi)⟩
 refine⟨z.1,z.2,hz,by rw[←F.lok.1,List.getElem?_map,hz];rfl,F.lok.2 z (zmg hz)⟩
theorem StF.plen (F:StF c s h L):s.pend.length≤1000:=by have:=F.inv.len;have:=F.len;omega
theorem qako (n:Nat) (l:List Evt) {i:Nat} (hi:i<n):(qca n l)[i]? = some (sortL (qbc l i)):=by unfold qca;rw[List.getElem?_map,List.getElem?_range hi];rfl
theorem qzh (n:Nat) (l:List Evt) : ∀b∈qca n l,b.Pairwise leE:=fun b hb=>by
 simp only[qca,List.mem_map]at hb
 obtain⟨i,_,rfl⟩:=hb
 exact qhm _
theorem q27 : ∀(l:List Nat) (g k:Nat→List Evt),(∀i,(g i).Perm (k i))→(l.map g).flatten.Perm (l.map k).flatten
 | [],_,_,_ => .refl _
 |a::l,g,k,h=>by
  simp only[List.map_cons,List.flatten_cons]
  exact(h a).append (q27 l g k h)
theorem StF.flat (F:StF c s h L):(qca c.lps.length s.pend).flatten.Perm s.pend:=
 (q27 _ _ (fun i=>qbc s.pend i) fun i=>qdd _).trans (q7g fun e he=>(F.inv.ev e (List.mem_append_right _ he)).lp)
theorem StF.winv (F:StF c s h L) {i:Nat} (hi:i<c.lps.length) {x:Lp} (hx:s.lps[i]? = some x):WInv c i ⟨x,sortL (qbc s.pend i),[],[],false⟩ [] s h:=by
 refine⟨F.inv,hi,hx,⟨s.pend.filter fun e => !decide (e.lp=i),?_⟩,qhm _,fun b hb=>by
  have:=(qdd _).mem_iff.1 hb
  unfold qbc at this
  rw[List.mem_filter]at this;simpa using this.2⟩
 simp only[zgl]
 exact((qdd _).append_right _).trans (List.filter_append_perm _ _)
end
set_option maxRecDepth 100000
set_option maxRecDepth 10000
def WSt.pre (d s:List Evt) (o:Bool) (w:WSt):WSt:=⟨w.lp,w.box,d++w.done,s++w.sent,o||w.over⟩
set_option maxRecDepth 10000
def wAt (c:Cfg) (s:Sim) (hor:Int) (i:Nat):WSt:=WSt.run c hor 2000 ⟨lpAt s i,sortL (qbc s.pend i),[],[],false⟩
def qen (c:Cfg) (s:Sim) (hor:Int) (n:Nat):List (List Evt):=(List.range n).map fun i=>(wAt c s hor i).box
def qhe (c:Cfg) (s:Sim) (hor:Int) (n:Nat):List (List Evt):=(List.range n).map fun i=>(wAt c s hor i).sent
def qafl (s:Sim) (n:Nat):List Evt:=s.pend.filter fun e=>decide ((n:Int)≤e.lp)
theorem q1c (c:Cfg) (s:Sim) (hor:Int) (n:Nat):qen c s hor (n+1)=qen c s hor n++[(wAt c s hor n).box]:=by unfold qen;rw[List.range_succ,List.map_append];rfl
theorem q8i (c:Cfg) (s:Sim) (hor:Int) (n:Nat):qhe c s hor (n+1)=qhe c s hor n++[(wAt c s hor n).sent]:=by unfold qhe;rw[List.range_succ,List.map_append];rfl
theorem qad0 (s:Sim) (n:Nat):(qbc s.pend n++qafl s (n+1)).Perm (qafl s n):=by
 have e1:qbc s.pend n=(qafl s n).filter (fun e:Evt=>decide (e.lp=(n:Int))):=by
  unfold qbc qafl
  rw[List.filter_filter]
  refine List.filter_congr fun e _ => ?_
  rw[←Bool.decide_and];refine decide_eq_decide.2 ?_;omega
 have e2:qafl s (n+1)=(qafl s n).filter (fun e:Evt => !decide (e.lp=(n:Int))):=by
  unfold qafl
  rw[List.filter_filter]
  refine List.filter_congr fun e _ => ?_
  rw[←decide_not,←Bool.decide_and];refine decide_eq_decide.2 ?_;omega
 rw[e1,e2];exact List.filter_append_perm _ _
section
variable {c:Cfg} {s:Sim} {h:List Evt} {L:List (Lp×Bool)} (hor:Int)
structure Comb (c:Cfg) (s:Sim) (hor:Int) (n m:Nat) (S:Sim) (H:List Evt):Prop where
 K:SInvK c S H
 len:H.length≤m+2000*n
 lps : ∀j,n≤j→S.lps[j]? = s.lps[j]?
 sub : ∃T,((qen c s hor n).flatten++((qhe c s hor n).flatten++(qafl s n++T))).Perm S.pend
theorem StF.comb (F:StF c s h L) : ∀n,n≤c.lps.length → ∃S H,Comb c s hor n 30 S H
 | 0,_=>⟨s,h,F.inv,by have:=F.len;omega,fun _ _=>rfl,[],by
  have:qafl s 0=s.pend:=List.filter_eq_self.2 fun e he=>by have:=(F.inv.ev e (List.mem_append_right _ he)).lp;simpa using this.1
  simp[qen,qhe,this]⟩
 |n+1,hn=>by
  obtain⟨S,H,C⟩:=F.comb n (by omega)
  obtain⟨T,hT⟩:=C.sub
  have hv8:=F.inv.valid.lps.2
  obtain⟨x,xf,_,hx,_⟩:=F.at (i:=n) (by omega)
  have hlp:lpAt s n=x:=by unfold lpAt;rw[Int.toNat_natCast,hx];rfl
  have W:WInv c n ⟨lpAt s n,sortL (qbc s.pend n),[],[],false⟩ ((qen c s hor n).flatten++((qhe c s hor n).flatten++qafl s (n+1))) S H:=by
   refine⟨C.K,by omega,by rw[C.lps n (Nat.le_refl _),hx,hlp],⟨T,?_⟩,qhm _,fun b hb=>by
    have:=(qdd _).mem_iff.1 hb
    unfold qbc at this;rw[List.mem_filter]at this;simpa using this.2⟩
   refine List.Perm.trans ?_ hT
   have p1:=qdd (qbc s.pend n)
   have p2:=qad0 s n
   refine List.perm_iff_count.2 fun a => ?_
   have q1:=p1.count_eq a
   have q2:=p2.count_eq a
   simp only[List.count_append,List.count_nil]at q1 q2⊢
   omega
  obtain⟨S',es,W',hd,hl,hel⟩:=WInv.run hor 2000 W (by have:=C.len;omega)
  change WInv c n (wAt c s hor n) _ S' (H++es)at W'
  change S'.lps=S.lps.set n (wAt c s hor n).lp at hl
  obtain⟨T',hT'⟩:=W'.sub
  refine⟨S',H++es,W'.K,by have:=C.len;simp;omega,fun j hj=>by rw[hl,List.getElem?_set_ne (by omega)];exact C.lps j (by omega),T',?_⟩
  refine List.Perm.trans ?_ hT'
  rw[q1c,q8i]
  refine List.perm_iff_count.2 fun a => ?_
  simp only[List.flatten_append,List.flatten_cons,List.flatten_nil,zgn,List.count_append]
  omega
structure WinF (c:Cfg) (s:Sim) (hor:Int):Prop where
 keys:qlo ((qen c s hor c.lps.length).flatten++(qhe c s hor c.lps.length).flatten)
 len:((qen c s hor c.lps.length).flatten++(qhe c s hor c.lps.length).flatten).length≤300000
 kok:qc4 ((qen c s hor c.lps.length).flatten++(qhe c s hor c.lps.length).flatten)
 rng : ∀e∈(qen c s hor c.lps.length).flatten++(qhe c s hor c.lps.length).flatten,0≤e.lp∧e.lp<c.lps.length
theorem StF.winF (F:StF c s h L):WinF c s hor:=by
 obtain⟨S,H,C⟩:=F.comb hor c.lps.length (Nat.le_refl _)
 obtain⟨T,hT⟩:=C.sub
 have hv8:=F.inv.valid.lps.2
 have hH:H.length≤16030:=by have:=C.len;omega
 have sub:((qen c s hor c.lps.length).flatten++(qhe c s hor c.lps.length).flatten).Sublist ((qen c s hor c.lps.length).flatten++((qhe c s hor c.lps.length).flatten++(qafl s c.lps.length++T))):=
  List.Sublist.append_left (List.sublist_append_left _ _) _
 have mem : ∀e∈(qen c s hor c.lps.length).flatten++(qhe c s hor c.lps.length).flatten,e∈S.pend:=fun e he=>hT.mem_iff.1 (sub.subset he)
 refine⟨List.Pairwise.sublist sub (qlo.perm (List.pairwise_append.1 C.K.keys).2.1 hT),?_,fun e he => ?_,fun e he=>(C.K.ev e (List.mem_append_right _ (mem e he))).lp⟩
 ·have:=sub.length_le
  rw[hT.length_eq]at this
  have:=C.K.len;omega
 ·have:=(C.K.ev e (List.mem_append_right _ (mem e he))).key;omega
theorem qaly (c:Cfg) (s:Sim) (hor:Int) {n i:Nat} (hi:i<n):(qen c s hor n)[i]? = some (wAt c s hor i).box:=by unfold qen;rw[List.getElem?_map,List.getElem?_range hi];rfl
theorem WinF.dist {hor:Int} (W:WinF c s hor) (l:List Evt) (hl:l.Perm (qhe c s hor c.lps.length).flatten) : ∀i b,(qen c s hor c.lps.length)[i]? = some b→q3p (b++qbc l i):=by
 intro i b hb
 have h1:qlo ((qen c s hor c.lps.length).flatten++l):=qlo.perm W.keys (hl.append_left _)
 refine qlo.dist (List.Pairwise.sublist ?_ h1)
 exact List.Sublist.append (List.sublist_flatten_of_mem (zmg hb)) List.filter_sublist
theorem StF.wAt_inv (F:StF c s h L) {i:Nat} (hi:i<c.lps.length) : ∃(S':Sim) (es:List Evt),WInv c i (wAt c s hor i) [] S' (h++es)∧(wAt c s hor i).done=es∧es.length≤2000:=by
 obtain⟨x,xf,_,hx,_⟩:=F.at hi
 have hlp:lpAt s i=x:=by unfold lpAt;rw[Int.toNat_natCast,hx];rfl
 have W:=F.winv hi hx
 obtain⟨S',es,W',hd,_,hel⟩:=WInv.run hor 2000 W (by have:=F.len;omega)
 rw[←hlp]at W' hd
 rw[List.nil_append]at hd
 exact⟨S',es,W',hd,hel⟩
theorem StF.lefts_sorted (F:StF c s h L) : ∀b∈qen c s hor c.lps.length,b.Pairwise leE:=by
 intro b hb
 simp only[qen,List.mem_map,List.mem_range]at hb
 obtain⟨i,hi,rfl⟩:=hb
 obtain⟨S',es,W',_⟩:=F.wAt_inv hor hi
 exact W'.sorted
theorem qame (c:Cfg) (hor:Int) : ∀(k:Nat) (w:WSt),∃es,(WSt.run c hor k w).done=w.done++es
 | 0,w=>⟨[],(List.append_nil _).symm⟩
 |k+1,w=>by
  unfold WSt.run
  split
  ·exact⟨[],(List.append_nil _).symm⟩
  next e rest hb=>
   split
   ·obtain⟨es,h⟩:=qame c hor k (w.step c e rest)
    exact⟨e::es,by rw[h];simp[WSt.step]⟩
   ·exact⟨[],(List.append_nil _).symm⟩
theorem run_head (c:Cfg) (hor:Int) (k:Nat) (x:Lp) (e:Evt) (r:List Evt) (ht:e.time<hor) : ∃es,(WSt.run c hor (k+1) ⟨x,e::r,[],[],false⟩).done=e::es:=by
 have:WSt.run c hor (k+1) ⟨x,e::r,[],[],false⟩=WSt.run c hor k ((⟨x,e::r,[],[],false⟩:WSt).step c e r):=by rw[WSt.run];simp only[ht,if_true]
 rw[this]
 obtain⟨es,h⟩:=qame c hor k ((⟨x,e::r,[],[],false⟩:WSt).step c e r)
 exact⟨es,by rw[h];rfl⟩
end
set_option maxRecDepth 10000
section
variable {c:Cfg} {s:Sim} {h:List Evt} {L:List (Lp×Bool)} {f:Int} (hor:Int)
def q5a (c:Cfg) (s:Sim) (hor:Int) (n:Nat):Nat:=((List.range n).map fun i=>(wAt c s hor i).done.length).sum
theorem qzi (n:Nat):q5a c s hor (n+1)=q5a c s hor n+(wAt c s hor n).done.length:=by
 unfold q5a;rw[List.range_succ,List.map_append,List.sum_append];simp
theorem qal7 {n i:Nat} (hi:i<n) (h:0<(wAt c s hor i).done.length):0<q5a c s hor n:=by
 induction n with
 |zero=>omega
 |succ n ih=>
  rw[qzi]
  by_cases e:i=n
  ·subst e;omega
  ·have:=ih (by omega);omega
theorem qagp {n i:Nat} (hi:i<n):(wAt c s hor i).done.length≤q5a c s hor n:=by
 induction n with
 |zero=>omega
 |succ n ih=>
  rw[qzi]
  by_cases e:i=n
  ·subst e;omega
  ·have:=ih (by omega);omega
def qkh (c:Cfg) (s:Sim) (hor:Int):Sim:=
 ⟨(List.range c.lps.length).map fun i:Nat=>qiu s i++(wAt c s hor i).done,(List.range c.lps.length).map fun i=>(wAt c s hor i).lp,
  (qen c s hor c.lps.length).flatten++(qhe c s hor c.lps.length).flatten,s.n+q5a c s hor c.lps.length,s.over||(List.range c.lps.length).any fun i=>(wAt c s hor i).over⟩
structure Comb2 (c:Cfg) (s:Sim) (h:List Evt) (hor:Int) (n:Nat) (S:Sim) (H:List Evt):Prop where
 K:SInvK c S H
 len:H.length=h.length+q5a c s hor n∧q5a c s hor n≤2000*n
 lps : ∀j,n≤j→S.lps[j]? = s.lps[j]?
 lps2 : ∀j,j<n→S.lps[j]? = some (wAt c s hor j).lp
 own : ∀j,n≤j→qbc H j=qbc h j
 own2 : ∀j,j<n→qbc H j=qbc h j++(wAt c s hor j).done
 sub : ∃T,((qen c s hor n).flatten++((qhe c s hor n).flatten++(qafl s n++T))).Perm S.pend
theorem qtl (a b:List Evt) (i:Nat):qbc (a++b) i=qbc a i++qbc b i:=List.filter_append ..
theorem qadx {l:List Evt} {i:Nat} (h : ∀e∈l,e.lp=i):qbc l i=l:=List.filter_eq_self.2 fun e he=>by simpa using h e he
theorem q45 {l:List Evt} {i j:Nat} (h : ∀e∈l,e.lp=i) (hj:j≠i):qbc l j=[]:=List.filter_eq_nil_iff.2 fun e he=>by have:=h e he;simp;omega
theorem StF.comb2 (F:StF c s h L) : ∀n,n≤c.lps.length → ∃S H,Comb2 c s h hor n S H
 | 0,_=>⟨s,h,F.inv,⟨rfl,Nat.zero_le _⟩,fun _ _=>rfl,fun j hj=>by omega,fun _ _=>rfl,fun j hj=>by omega,[],by
  have:qafl s 0=s.pend:=List.filter_eq_self.2 fun e he=>by have:=(F.inv.ev e (List.mem_append_right _ he)).lp;simpa using this.1
  simp[qen,qhe,this]⟩
 |n+1,hn=>by
  obtain⟨S,H,C⟩:=F.comb2 n (by omega)
  obtain⟨T,hT⟩:=C.sub
  have hv8:=F.inv.valid.lps.2
  obtain⟨x,xf,_,hx,_⟩:=F.at (i:=n) (by omega)
  have hlp:lpAt s n=x:=by unfold lpAt;rw[Int.toNat_natCast,hx];rfl
  have W:WInv c n ⟨lpAt s n,sortL (qbc s.pend n),[],[],false⟩ ((qen c s hor n).flatten++((qhe c s hor n).flatten++qafl s (n+1))) S H:=by
   refine⟨C.K,by omega,by rw[C.lps n (Nat.le_refl _),hx,hlp],⟨T,?_⟩,qhm _,fun b hb=>by
    have:=(qdd _).mem_iff.1 hb
    unfold qbc at this;rw[List.mem_filter]at this;simpa using this.2⟩
   refine List.Perm.trans ?_ hT
   have p1:=qdd (qbc s.pend n)
   have p2:=qad0 s n
   refine List.perm_iff_count.2 fun a => ?_
   have q1:=p1.count_eq a
   have q2:=p2.count_eq a
   simp only[List.count_append,List.count_nil]at q1 q2⊢
   omega
  have hWT:WTime c n 0 hor ⟨lpAt s n,sortL (qbc s.pend n),[],[],false⟩:=⟨fun e he=>(W.K.ev e (List.mem_append_right _ (W.mem (.inl he)))).time.1,fun e he=>(by cases he),fun e he=>(by cases he)⟩
  have hH:H.length+2000≤20000:=by have:=C.len;have:=F.len;omega
  have hWT':=hWT.run 2000 W hH
  obtain⟨S',es,W',hd,hl,hel⟩:=WInv.run hor 2000 W hH
  change WInv c n (wAt c s hor n) _ S' (H++es)at W'
  change S'.lps=S.lps.set n (wAt c s hor n).lp at hl
  change WTime c n 0 hor (wAt c s hor n)at hWT'
  change (wAt c s hor n).done=[]++es at hd
  rw[List.nil_append]at hd
  have heo : ∀e∈es,e.lp=n:=fun e he=>(hWT'.done e (by rw[hd];exact he)).2.2
  obtain⟨T',hT'⟩:=W'.sub
  refine⟨S',H++es,W'.K,⟨by rw[qzi,hd,List.length_append];have:=C.len;omega,by rw[qzi,hd];have:=C.len;omega⟩,fun j hj=>by rw[hl,List.getElem?_set_ne (by omega)];exact C.lps j (by omega),fun j hj => ?_,fun j hj => ?_,fun j hj => ?_,T',?_⟩
  ·by_cases hjn:j=n
   ·subst hjn
    rw[hl,List.getElem?_set_self (by rw[C.K.lpl];omega)]
   ·rw[hl,List.getElem?_set_ne (by omega)];exact C.lps2 j (by omega)
  ·rw[qtl,q45 heo (by omega),List.append_nil];exact C.own j (by omega)
  ·rw[qtl]
   by_cases hjn:j=n
   ·subst hjn;rw[qadx heo,C.own j (Nat.le_refl _),hd]
   ·rw[q45 heo hjn,List.append_nil];exact C.own2 j (by omega)
  refine List.Perm.trans ?_ hT'
  rw[q1c,q8i]
  refine List.perm_iff_count.2 fun a => ?_
  simp only[List.flatten_append,List.flatten_cons,List.flatten_nil,zgn,List.count_append]
  omega
theorem SInvK.drop {S:Sim} {H:List Evt} (K:SInvK c S H) {P T:List Evt} (hp:(P++T).Perm S.pend) (ov:Bool):SInvK c ⟨S.trace,S.lps,P,S.n,ov⟩ H:=by
 have mem : ∀e∈P,e∈S.pend:=fun e he=>hp.mem_iff.1 (List.mem_append_left _ he)
 have mem2 : ∀e∈H++P,e∈H++S.pend:=fun e he=>(List.mem_append.1 he).elim (fun h=>List.mem_append_left _ h) (fun h=>List.mem_append_right _ (mem e h))
 refine⟨K.valid,K.n,K.trl,K.tr,K.lpl,K.lp,?_,fun e he=>K.ev e (mem2 e he),fun e he=>K.tim e (mem e he),fun e he=>K.par e (mem2 e he),?_,K.rep,K.rdy⟩
 ·have:=qlo.perm K.keys (hp.append_left H)
  exact List.Pairwise.sublist ((List.sublist_append_left P T).append_left H) this
 ·have h1:=hp.length_eq
  have h2:=K.len
  rw[List.length_append]at h1
  show P.length ≤ _
  omega
structure NextF (c:Cfg) (s:Sim) (h:List Evt) (hor:Int) (h':List Evt):Prop where
 inv:SInvK c (qkh c s hor) h'
 len:h'.length=h.length+q5a c s hor c.lps.length
 bnd:q5a c s hor c.lps.length≤2000*c.lps.length
 own : ∀i,i<c.lps.length→qbc h' i=qbc h i++(wAt c s hor i).done
theorem StF.next (F:StF c s h L) : ∃h',NextF c s h hor h':=by
 obtain⟨S,H,C⟩:=F.comb2 hor c.lps.length (Nat.le_refl _)
 obtain⟨T,hT⟩:=C.sub
 have h0:=C.K.drop (P:=(qen c s hor c.lps.length).flatten++(qhe c s hor c.lps.length).flatten) (T:=qafl s c.lps.length++T) (by rw[List.append_assoc];exact hT) (s.over||(List.range c.lps.length).any fun i=>(wAt c s hor i).over)
 have e1:S.trace=(List.range c.lps.length).map fun i:Nat=>qiu s i++(wAt c s hor i).done:=by
  refine List.ext_getElem? fun i => ?_
  rw[List.getElem?_map]
  by_cases hi:i<c.lps.length
  ·rw[List.getElem?_range hi,C.K.tr i hi,C.own2 i hi]
   have:qiu s i=qbc h i:=by unfold qiu;rw[Int.toNat_natCast,F.inv.tr i hi];rfl
   simp only[zgt,this]
  ·rw[List.getElem?_eq_none (by rw[C.K.trl];omega),List.getElem?_eq_none (by simp;omega)];rfl
 have e2:S.lps=(List.range c.lps.length).map fun i=>(wAt c s hor i).lp:=by
  refine List.ext_getElem? fun i => ?_
  rw[List.getElem?_map]
  by_cases hi:i<c.lps.length
  ·rw[List.getElem?_range hi,C.lps2 i hi];rfl
  ·rw[List.getElem?_eq_none (by rw[C.K.lpl];omega),List.getElem?_eq_none (by simp;omega)];rfl
 have e3:S.n=s.n+q5a c s hor c.lps.length:=by rw[C.K.n,C.len.1,F.inv.n]
 rw[e1,e2,e3]at h0
 exact⟨H,h0,C.len.1,C.len.2,C.own2⟩
theorem qadd (hl : ∀i,i<c.lps.length → ∀e∈(wAt c s hor i).box,e.lp=i) (hd:q3p ((qen c s hor c.lps.length).flatten++(qhe c s hor c.lps.length).flatten)) :
  qjz (qen c s hor c.lps.length) (qhe c s hor c.lps.length).flatten=qca c.lps.length (qkh c s hor).pend:=by
 have key : ∀n i,qbc (qen c s hor n).flatten i=if i<n∧n≤c.lps.length then (wAt c s hor i).box else if i<n then qbc (qen c s hor n).flatten i else qbc (qen c s hor n).flatten i:=by
  intro n i
  split
  next hin=>
   obtain⟨h1,h2⟩:=hin
   induction n with
   |zero=>omega
   |succ n ih=>
    rw[q1c,List.flatten_append,qtl]
    simp only[List.flatten_cons,List.flatten_nil,zgn]
    by_cases e:i=n
    ·subst e
     rw[qadx (hl i (by omega))]
     have:qbc (qen c s hor i).flatten i=[]:=by
      refine List.filter_eq_nil_iff.2 fun e he => ?_
      obtain⟨b,hb,heb⟩:=List.mem_flatten.1 he
      simp only[qen,List.mem_map,List.mem_range]at hb
      obtain⟨j,hj,rfl⟩:=hb
      have:=hl j (by omega) e heb
      simp;omega
     rw[this,List.nil_append]
    ·rw[ih (by omega) (by omega),q45 (hl n (by omega)) e,List.append_nil]
  ·split<;>rfl
 unfold qjz qca
 refine List.ext_getElem? fun i => ?_
 rw[List.getElem?_mapIdx,List.getElem?_map]
 by_cases hi:i<c.lps.length
 ·rw[qaly c s hor hi,List.getElem?_range hi]
  simp only[zgt,qkh]
  rw[qtl,key,if_pos ⟨hi,Nat.le_refl _⟩]
 ·rw[List.getElem?_eq_none (by simp[qen];omega),List.getElem?_eq_none (by simp;omega)];rfl
theorem StF.lefts_own (F:StF c s h L) : ∀i,i<c.lps.length → ∀e∈(wAt c s hor i).box,e.lp=i:=fun i hi=>by
 obtain⟨S',es,W',_⟩:=F.wAt_inv hor hi
 exact W'.own
theorem StF.wtime (F:StF c s h L) (fa : ∀e∈s.pend,f≤e.time) : ∀i,i<c.lps.length→WTime c i f hor (wAt c s hor i):=fun i hi=>by
 obtain⟨x,xf,_,hsx,_⟩:=F.at hi
 have hlp:lpAt s i=x:=by unfold lpAt;rw[Int.toNat_natCast,hsx];rfl
 have W0:=F.winv hi hsx
 have hT0:WTime c i f hor ⟨x,sortL (qbc s.pend i),[],[],false⟩:=⟨fun e he=>fa e (List.mem_filter.1 ((qdd _).mem_iff.1 he)).1,fun e he=>(by cases he),fun e he=>(by cases he)⟩
 unfold wAt;rw[hlp]
 exact hT0.run 2000 W0 (by have:=F.len;omega)
theorem StF.floor (F:StF c s h L) (hf:qx7 (qca c.lps.length s.pend)=some f):(∀e∈s.pend,f≤e.time) ∧ ∃e∈s.pend,e.time=f:=by
 obtain⟨fa,fb,hfb,fe,fr,rfl,hfe⟩:=q00 hf (qzh _ _)
 refine⟨fun e he => ?_,fe,F.flat.mem_iff.1 (List.mem_flatten.2 ⟨_,hfb,by simp⟩),hfe⟩
 obtain⟨b,hb,heb⟩:=List.mem_flatten.1 (F.flat.mem_iff.2 he)
 exact fa b hb e heb
theorem StF.some_done (F:StF c s h L) (hf:qx7 (qca c.lps.length s.pend)=some f) (fh:f<hor):0<q5a c s hor c.lps.length:=by
 obtain⟨fa,fb,hfb,fe,fr,rfl,hfe⟩:=q00 hf (qzh _ _)
 simp only[qca,List.mem_map,List.mem_range]at hfb
 obtain⟨i,hi,hb⟩:=hfb
 obtain⟨es,hes⟩:=run_head c hor 1999 (lpAt s i) fe fr (by omega)
 have:0<(wAt c s hor i).done.length:=by unfold wAt;rw[hb,hes];simp
 exact qal7 hor hi this
theorem StF.after (F:StF c s h L) (fa : ∀e∈s.pend,f≤e.time) (hh:hor≤f+c.look) (hA : ∀i,i<c.lps.length→(wAt c s hor i).done.length<2000) : ∀e∈(qkh c s hor).pend,hor≤e.time:=by
 intro e he
 rcases List.mem_append.1 he with h1|h1
 ·obtain⟨b,hb,heb⟩:=List.mem_flatten.1 h1
  simp only[qen,List.mem_map,List.mem_range]at hb
  obtain⟨i,hi,rfl⟩:=hb
  have hend:=qajn c hor 2000 ⟨lpAt s i,sortL (qbc s.pend i),[],[],false⟩
  change (wAt c s hor i).done.length = _ ∨ _ at hend
  have hdi:=hA i hi
  rcases hend with h3|⟨_,h3|⟨e',r',h3,h4⟩⟩
  ·simp at h3;omega
  ·change (wAt c s hor i).box=[]at h3
   rw[h3]at heb;cases heb
  ·change (wAt c s hor i).box = _ at h3
   obtain⟨S',es,W',_⟩:=F.wAt_inv hor hi
   have hs:=W'.sorted
   rw[h3]at heb hs
   rcases List.mem_cons.1 heb with rfl|heb
   ·exact h4
   ·have:=q08 ((List.pairwise_cons.1 hs).1 e heb);omega
 ·obtain⟨l,hl,hel⟩:=List.mem_flatten.1 h1
  simp only[qhe,List.mem_map,List.mem_range]at hl
  obtain⟨j,hj,rfl⟩:=hl
  have:=(F.wtime hor fa j hj).sent e hel
  omega
end
inductive WS where
 |claim|work (t:Nat)|arrive|wait|done
 deriving DecidableEq
structure Pool where
 w0:Nat
 w1:Nat
 st:List WS
 pairs:List (Nat×Nat)
def qqs:WS→Bool
 | .done=>true
 | _=>false
def qnc (st:List WS):Nat:=st.countP fun x => !qqs x
def Pool.step (T:Nat) (p:Pool) (w:Nat):Pool:=match p.st[w]? with
 |some .claim=>if p.w0+1≤T then ⟨p.w0+1,p.w1,p.st.set w (.work p.w0),p.pairs⟩else ⟨p.w0+1,p.w1,p.st.set w .arrive,p.pairs⟩
 |some (.work t)=>⟨p.w0,p.w1,p.st.set w .claim,p.pairs++[(t,w)]⟩
 |some .arrive=>⟨p.w0,p.w1+1,p.st.set w .wait,p.pairs⟩
 |some .wait=>if p.w1=p.st.length then ⟨p.w0,p.w1,p.st.set w .done,p.pairs⟩else p
 | _=>p
def Pool.start (W:Nat):Pool:=⟨0,0,List.replicate W .claim,[]⟩
def wt:WS→Nat
 | .claim=>3 | .work _=>4 | .arrive=>2 | .wait=>1 | .done=>0
def sumW (st:List WS):Nat:=(st.map wt).sum
def Pool.M (T:Nat) (p:Pool):Nat:=2*(T-p.w0)+sumW p.st
def inW:WS→Bool
 | .wait=>true | .done=>true | _=>false
def qaar:WS→Bool
 | .claim=>false | .work _=>false | _=>true
def qmp (st:List WS):List Nat:=st.filterMap fun | .work t=>some t | _=>none
structure PInv (T W:Nat) (p:Pool):Prop where
 len:p.st.length=W
 w1:p.w1=p.st.countP inW
 w0:p.w0≤T+p.st.countP qaar
 late:0<p.st.countP qaar→T≤p.w0
 dn:(∃x∈p.st,qqs x=true)→p.w1=W
 perm:(p.pairs.map Prod.fst++qmp p.st).Perm (List.range (min p.w0 T))
 wk : ∀x∈p.pairs,x.2<W
theorem qajx (st:List WS) (w:Nat) (y:WS) (h:w<st.length):sumW (st.set w y)+wt st[w]=sumW st+wt y:=by
 induction st generalizing w with
 |nil=>simp at h
 |cons a r ih=>
  cases w with
  |zero=>simp[sumW];omega
  |succ w=>have:=ih w (by simpa using h);simp[sumW]at this ⊢;omega
theorem q0t (p:WS→Bool) (st:List WS) (w:Nat) (y:WS) (h:w<st.length):(st.set w y).countP p+(if p st[w]then 1 else 0)=st.countP p+(if p y then 1 else 0):=by
 induction st generalizing w with
 |nil=>simp at h
 |cons a r ih=>
  cases w with
  |zero=>simp only[zgj,List.countP_cons,List.getElem_cons_zero];omega
  |succ w=>have:=ih w (by simpa using h);simp only[zgk,List.countP_cons,List.getElem_cons_succ]at this ⊢;omega
theorem q4y {st:List WS} {w:Nat} (h:w<st.length) {y:WS} (hx : ∀t,st[w] ≠ .work t) (hy : ∀t,y ≠ .work t):qmp (st.set w y)=qmp st:=by
 induction st generalizing w with
 |nil=>simp at h
 |cons a r ih=>
  cases w with
  |zero=>
   simp only[List.getElem_cons_zero]at hx
   cases a<;>cases y<;>simp_all [qmp]
  |succ w=>have:=ih (w:=w) (by simpa using h) (by simpa using hx);simp only[qmp,zgk,List.filterMap_cons]at this ⊢;rw[this]
theorem qahm {st:List WS} {w:Nat} (h:w<st.length) {t:Nat} (hx : ∀t,st[w] ≠ .work t):(qmp (st.set w (.work t))).Perm (t::qmp st):=by
 induction st generalizing w with
 |nil=>simp at h
 |cons a r ih=>
  cases w with
  |zero=>
   simp only[List.getElem_cons_zero]at hx
   cases a<;>simp_all [qmp]
  |succ w=>
   have:=ih (w:=w) (by simpa using h) (by simpa using hx)
   simp only[qmp,zgk,List.filterMap_cons]at this⊢
   cases a<;>simp only
   all_goals first|exact this|exact(this.cons _).trans (.swap ..)
theorem qal2 {st:List WS} {w:Nat} (h:w<st.length) {t:Nat} {y:WS} (hx:st[w] = .work t) (hy : ∀t,y ≠ .work t):(t::qmp (st.set w y)).Perm (qmp st):=by
 induction st generalizing w with
 |nil=>simp at h
 |cons a r ih=>
  cases w with
  |zero=>
   simp only[List.getElem_cons_zero]at hx
   subst hx
   cases y<;>simp_all [qmp]
  |succ w=>
   have:=ih (w:=w) (by simpa using h) (by simpa using hx)
   simp only[qmp,zgk,List.filterMap_cons]at this⊢
   cases a<;>simp only
   all_goals first|exact this|exact(List.Perm.swap ..).trans (this.cons _)
section
variable {T W:Nat} {p:Pool}
theorem PInv.start (hW:1≤W):PInv T W (Pool.start W):=by
 refine⟨by simp[Pool.start],?_,by simp[Pool.start],?_,?_,?_,?_⟩
 ·show 0 = _
  rw[eq_comm,List.countP_eq_zero];intro a ha;rw[List.eq_of_mem_replicate ha];simp[inW]
 ·show 0 < _ → _
  rw[List.countP_pos_iff]
  rintro⟨a,ha,hd⟩
  rw[List.eq_of_mem_replicate ha]at hd;cases hd
 ·rintro⟨x,hx,hd⟩
  simp only[Pool.start]at hx
  rw[List.eq_of_mem_replicate hx]at hd;simp[qqs]at hd
 ·have:qmp (List.replicate W WS.claim)=[]:=by
   unfold qmp;rw[List.filterMap_eq_nil_iff];intro a ha;rw[List.eq_of_mem_replicate ha]
  simp[Pool.start,this]
 ·simp[Pool.start]
theorem PInv.step (h:PInv T W p) (w:Nat):PInv T W (p.step T w):=by
 obtain⟨w0,w1,st,pairs⟩:=p
 obtain⟨h1,h2,h3,h4,h5,h6,h7⟩:=h
 simp only at h1 h2 h3 h4 h5 h6 h7
 unfold Pool.step
 simp only
 by_cases hw:w<st.length
 case neg=>rw[List.getElem?_eq_none (by omega)];exact⟨h1,h2,h3,h4,h5,h6,h7⟩
 have hg:st[w]? = some st[w]:=List.getElem?_eq_getElem hw
 have c1:=fun y=>q0t inW st w y hw
 have c2:=fun y=>q0t qaar st w y hw
 have hdn : ∀y,qqs y=false→(∃x∈st.set w y,qqs x=true) → ∃x∈st,qqs x=true:=fun y hy ⟨x,hx,hd⟩=>by
  rcases List.mem_or_eq_of_mem_set hx with hx|rfl
  ·exact⟨x,hx,hd⟩
  ·rw[hy]at hd;cases hd
 rw[hg]
 cases hs:st[w]with
 |claim=>
  simp only
  split
  next hle=>
   have k1:=c1 (.work w0);have k2:=c2 (.work w0)
   rw[hs]at k1 k2
   simp only[inW,qaar,zfa,if_false,Nat.add_zero]at k1 k2
   refine⟨by simpa using h1,by simp only;omega,by simp only;omega,fun hp=>by simp only at hp ⊢;have:=h4 (by omega);omega,fun hx=>h5 (hdn _ rfl hx),?_,h7⟩
   simp only
   have e1:min (w0+1) T=w0+1:=by omega
   have e2:min w0 T=w0:=by omega
   rw[e1,List.range_succ]
   rw[e2]at h6
   refine((qahm hw (by rw[hs];simp)).append_left _).trans ?_
   exact(List.perm_middle).trans ((h6.cons w0).trans (List.perm_append_singleton w0 _).symm)
  next hle=>
   have k1:=c1 .arrive;have k2:=c2 .arrive
   rw[hs]at k1 k2
   simp only[inW,qaar,zfa,if_false,if_true,Nat.add_zero]at k1 k2
   refine⟨by simpa using h1,by simp only;omega,by simp only;omega,fun hp=>by simp only at hp ⊢;omega,fun hx=>h5 (hdn _ rfl hx),?_,h7⟩
   simp only
   have e1:min (w0+1) T=T:=by omega
   have e2:min w0 T=T:=by omega
   rw[e1,q4y hw (by rw[hs];simp) (by simp)]
   rw[e2]at h6;exact h6
 |work t=>
  simp only
  have k1:=c1 .claim;have k2:=c2 .claim
  rw[hs]at k1 k2
  simp only[inW,qaar,zfa,if_false,Nat.add_zero]at k1 k2
  refine⟨by simpa using h1,by simp only;omega,by simp only;omega,fun hp=>by simp only at hp ⊢;exact h4 (by omega),fun hx=>h5 (hdn _ rfl hx),?_,?_⟩
  ·simp only[List.map_append,List.map_cons,List.map_nil,List.append_assoc,zgm,zgl]
   exact((qal2 hw hs (by simp)).append_left _).trans h6
  ·intro x hx
   rcases List.mem_append.1 hx with hx|hx
   ·exact h7 x hx
   ·rw[List.mem_singleton]at hx;subst hx;simp only;omega
 |arrive=>
  simp only
  have k1:=c1 .wait;have k2:=c2 .wait
  rw[hs]at k1 k2
  simp only[inW,qaar,zfa,if_false,if_true,Nat.add_zero]at k1 k2
  refine⟨by simpa using h1,by simp only;omega,by simp only;omega,fun hp=>by simp only at hp ⊢;exact h4 (by omega),fun hx => ?_,?_,h7⟩
  ·have:=h5 (hdn _ rfl hx)
   have hle:=List.countP_le_length (p:=inW) (l:=st.set w .wait)
   rw[List.length_set]at hle
   simp only;omega
  ·rw[q4y hw (by rw[hs];simp) (by simp)];exact h6
 |wait=>
  simp only
  split
  next he=>
   have k1:=c1 .done;have k2:=c2 .done
   rw[hs]at k1 k2
   simp only[inW,qaar,if_true]at k1 k2
   refine⟨by simpa using h1,by simp only;omega,by simp only;omega,fun hp=>by simp only at hp ⊢;exact h4 (by omega),fun _=>by simp only;omega,?_,h7⟩
   rw[q4y hw (by rw[hs];simp) (by simp)];exact h6
  next he=>exact⟨h1,h2,h3,h4,h5,h6,h7⟩
 |done=>exact⟨h1,h2,h3,h4,h5,h6,h7⟩
theorem qags (p:Pool) (w:Nat):p.step T w=p∨(p.step T w).M T<p.M T:=by
 obtain⟨w0,w1,st,pairs⟩:=p
 unfold Pool.step Pool.M
 simp only
 by_cases hw:w<st.length
 case neg=>rw[List.getElem?_eq_none (by omega)];exact .inl rfl
 rw[List.getElem?_eq_getElem hw]
 have c1:=fun y=>qajx st w y hw
 cases hs:st[w]with
 |claim=>
  simp only
  split
  ·have:=c1 (.work w0);rw[hs]at this;simp only[wt]at this;right;simp only;omega
  ·have:=c1 .arrive;rw[hs]at this;simp only[wt]at this;right;simp only;omega
 |work t=>have:=c1 .claim;rw[hs]at this;simp only[wt]at this;right;simp only;omega
 |arrive=>have:=c1 .wait;rw[hs]at this;simp only[wt]at this;right;simp only;omega
 |wait=>
  simp only
  split
  ·have:=c1 .done;rw[hs]at this;simp only[wt]at this;right;simp only;omega
  ·exact .inl rfl
 |done=>exact .inl rfl
theorem q3o (st:List WS):0<qnc st ↔ ∃w,∃h:w<st.length,st[w] ≠ .done:=by
 unfold qnc
 rw[List.countP_pos_iff]
 constructor
 ·rintro⟨a,ha,hd⟩
  obtain⟨w,hw,rfl⟩:=List.mem_iff_getElem.1 ha
  exact⟨w,hw,fun h=>by rw[h]at hd;simp[qqs]at hd⟩
 ·rintro⟨w,hw,hd⟩
  refine⟨_,List.getElem_mem hw,?_⟩
  cases h:st[w]<;>simp_all [qqs]
theorem PInv.moves (h:PInv T W p) (hl:0<qnc p.st) : ∃w,w<W∧(p.step T w).M T<p.M T:=by
 obtain⟨w0,w1,st,pairs⟩:=p
 obtain⟨h1,h2,h3,h4,h5,h6,h7⟩:=h
 simp only at h1 h2 hl
 by_cases hb : ∃w,∃h:w<st.length,inW st[w]=false
 ·obtain⟨w,hw,hi⟩:=hb
  refine⟨w,by omega,(qags ⟨w0,w1,st,pairs⟩ w).resolve_left fun he => ?_⟩
  have:=congrArg Pool.st he
  unfold Pool.step at this
  simp only[List.getElem?_eq_getElem hw]at this
  have hst : ∀y,st.set w y=st→y=st[w]:=fun y hy=>by
   have:=List.getElem_set_self (l:=st) (i:=w) (a:=y) (by simpa using hw)
   rw[←this];simp only[hy]
  cases hs:st[w]with
  |claim=>rw[hs]at this;simp only at this;split at this<;>(have:=hst _ this;rw[hs]at this;cases this)
  |work t=>rw[hs]at this;have:=hst _ this;rw[hs]at this;cases this
  |arrive=>rw[hs]at this;have:=hst _ this;rw[hs]at this;cases this
  |wait=>rw[hs]at hi;cases hi
  |done=>rw[hs]at hi;cases hi
 ·have hall : ∀x∈st,inW x=true:=fun x hx=>by
   obtain⟨w,hw,rfl⟩:=List.mem_iff_getElem.1 hx
   cases hh:inW st[w]with
   |true=>rfl
   |false=>exact absurd ⟨w,hw,hh⟩ hb
  have hc:st.countP inW=st.length:=List.countP_eq_length.2 hall
  obtain⟨w,hw,hd⟩:=(q3o st).1 hl
  refine⟨w,by omega,(qags ⟨w0,w1,st,pairs⟩ w).resolve_left fun he => ?_⟩
  have hi:=hall _ (List.getElem_mem hw)
  have:=congrArg Pool.st he
  unfold Pool.step at this
  simp only[List.getElem?_eq_getElem hw]at this
  cases hs:st[w]with
  |wait=>
   rw[hs]at this
   simp only[show w1=st.length by omega,if_true]at this
   have h2:=List.getElem_set_self (l:=st) (i:=w) (a:=WS.done) (by simpa using hw)
   simp only[this]at h2
   rw[hs]at h2;cases h2
  |done=>exact hd hs
  |claim=>rw[hs]at hi;cases hi
  |work t=>rw[hs]at hi;cases hi
  |arrive=>rw[hs]at hi;cases hi
end
def qoq (picks:List Nat) (W i:Nat):Nat:=if i<picks.length then picks.getD i 0 else (i-picks.length)%W
def qmg (T W:Nat) (picks:List Nat):Nat→Pool
 | 0=>Pool.start W
 |i+1=>(qmg T W picks i).step T (qoq picks W i)
section
variable {T W:Nat} {picks:List Nat}
theorem q7m (hW:1≤W) : ∀i,PInv T W (qmg T W picks i)
 | 0=>PInv.start hW
 |i+1=>(q7m hW i).step _
theorem qafa (i d:Nat):(qmg T W picks (i+d)).M T≤(qmg T W picks i).M T:=by
 induction d with
 |zero=>exact Nat.le_refl _
 |succ d ih=>
  rw[show i+(d+1)=(i+d)+1 by omega,qmg]
  rcases qags (T:=T) (qmg T W picks (i+d)) (qoq picks W (i+d))with h|h
  ·rw[h];exact ih
  ·omega
theorem qaho (hW:1≤W) {i:Nat} (hi:picks.length≤i) (hl:0<qnc (qmg T W picks i).st):(qmg T W picks (i+W)).M T<(qmg T W picks i).M T:=by
 refine Classical.byContradiction fun hn => ?_
 have hM:(qmg T W picks (i+W)).M T=(qmg T W picks i).M T:=by have:=qafa (T:=T) (W:=W) (picks:=picks) i W;omega
 have same : ∀d,d≤W→qmg T W picks (i+d)=qmg T W picks i:=by
  intro d hd
  induction d with
  |zero=>rfl
  |succ d ih=>
   have e:=ih (by omega)
   rw[show i+(d+1)=(i+d)+1 by omega,qmg]
   rcases qags (T:=T) (qmg T W picks (i+d)) (qoq picks W (i+d))with h|h
   ·rw[h,e]
   ·have h1:=qafa (T:=T) (W:=W) (picks:=picks) (i+(d+1)) (W-(d+1))
    rw[show i+(d+1)+(W-(d+1))=i+W by omega,show i+(d+1)=(i+d)+1 by omega,qmg]at h1
    rw[e]at h h1
    omega
 obtain⟨w,hw,hm⟩:=(q7m hW i).moves hl
 -- the pick of w among these
 obtain⟨d,hd,hp⟩ : ∃d,d<W∧qoq picks W (i+d)=w:=by
  unfold qoq
  have hk:(i-picks.length)%W<W:=Nat.mod_lt _ (by omega)
  refine⟨(w+W-(i-picks.length)%W)%W,Nat.mod_lt _ (by omega),?_⟩
  rw[if_neg (by omega)]
  have e1:i+(w+W-(i-picks.length)%W)%W-picks.length=(i-picks.length)+(w+W-(i-picks.length)%W)%W:=by omega
  rw[e1]
  have hdm:=Nat.div_add_mod (i-picks.length) W
  generalize (i-picks.length)%W=k at *
  generalize (i-picks.length) / W=q at *
  rw[←hdm]
  rw[Nat.add_assoc,Nat.mul_add_mod,Nat.add_mod,Nat.mod_mod,←Nat.add_mod]
  rw[show k+(w+W-k)=w+W by omega,Nat.add_mod_right,Nat.mod_eq_of_lt hw]
 have e1:=same (d+1) (by omega)
 rw[show i+(d+1)=(i+d)+1 by omega,qmg,same d (by omega),hp]at e1
 rw[e1]at hm
 omega
theorem M_zero {p:Pool} (h:p.M T=0):qnc p.st=0:=by
 refine Classical.byContradiction fun hn => ?_
 obtain⟨w,hw,hd⟩:=(q3o p.st).1 (by omega)
 unfold Pool.M at h
 have:=qajx p.st w .done hw
 simp only[wt]at this
 cases hs:p.st[w]<;>rw[hs]at this<;>simp only[]at this<;>first|omega|exact hd hs
theorem ends (hW:1≤W) : ∀k i,picks.length≤i→(qmg T W picks i).M T≤k → ∃n,i≤n∧n≤i+W*k∧qnc (qmg T W picks n).st=0
 | 0,i,hi,hk=>⟨i,Nat.le_refl _,by omega,M_zero (T:=T) (by omega)⟩
 |k+1,i,hi,hk=>by
  by_cases hl:0<qnc (qmg T W picks i).st
  ·have:=qaho (T:=T) hW hi hl
   obtain⟨n,h1,h2,h3⟩:=ends hW k (i+W) (by omega) (by omega)
   exact⟨n,by omega,by rw[Nat.mul_succ];omega,h3⟩
  ·exact⟨i,Nat.le_refl _,by omega,by omega⟩
theorem least {P:Nat→Prop} [DecidablePred P] : ∀n,P n → ∃m,m≤n∧P m ∧ ∀j,j<m→¬P j
 | 0,h=>⟨0,Nat.le_refl _,h,fun j hj=>by omega⟩
 |n+1,h=>by
  by_cases hx : ∃j,j≤n∧P j
  ·obtain⟨j,hj,hp⟩:=hx
   have : ∀(d:Nat) j,j≤d→P j → ∃m,m≤j∧P m ∧ ∀i,i<m→¬P i:=by
    intro d
    induction d with
    |zero=>intro j hj hp;exact⟨j,Nat.le_refl _,hp,fun i hi=>by omega⟩
    |succ d ih=>
     intro j hj hp
     by_cases hy : ∃i,i<j∧P i
     ·obtain⟨i,hi,hq⟩:=hy
      obtain⟨m,a,b,c⟩:=ih i (by omega) hq
      exact⟨m,by omega,b,c⟩
     ·exact⟨j,Nat.le_refl _,hp,fun i hi hq=>hy ⟨i,hi,hq⟩⟩
   obtain⟨m,a,b,c⟩:=this n j hj hp
   exact⟨m,by omega,b,c⟩
  ·exact⟨n+1,Nat.le_refl _,h,fun j hj hp=>hx ⟨j,by omega,hp⟩⟩
structure Fin (T W:Nat) (picks:List Nat) (n:Nat):Prop where
 bound:n≤picks.length+W*(2*T+3*W)
 stop:qnc (qmg T W picks n).st=0
 first : ∀j,j<n→0<qnc (qmg T W picks j).st
theorem start_M:(Pool.start W).M T=2*T+3*W:=by
 simp only[Pool.M,Pool.start,sumW,List.map_replicate,wt,List.sum_replicate_nat];omega
theorem fin_ex (hW:1≤W) : ∃n,Fin T W picks n:=by
 have h0:=qafa (T:=T) (W:=W) (picks:=picks) 0 picks.length
 rw[Nat.zero_add,qmg,start_M]at h0
 obtain⟨n,h1,h2,h3⟩:=ends (T:=T) hW (2*T+3*W) picks.length (Nat.le_refl _) h0
 obtain⟨m,a,b,c⟩:=least (P:=fun n=>qnc (qmg T W picks n).st=0) n h3
 exact⟨m,by omega,b,fun j hj=>Nat.pos_of_ne_zero (c j hj)⟩
theorem Fin.perm (hW:1≤W) {n:Nat} (h:Fin T W picks n):((qmg T W picks n).pairs.map Prod.fst).Perm (List.range T):=by
 have I:=q7m (T:=T) (picks:=picks) hW n
 have hall : ∀x∈(qmg T W picks n).st,x = .done:=fun x hx=>by
  obtain⟨w,hw,rfl⟩:=List.mem_iff_getElem.1 hx
  exact Classical.byContradiction fun hd=>by have:=(q3o _).2 ⟨w,hw,hd⟩;have:=h.stop;omega
 have ht:qmp (qmg T W picks n).st=[]:=by
  unfold qmp;rw[List.filterMap_eq_nil_iff];intro a ha;rw[hall a ha]
 have hl:0<(qmg T W picks n).st.countP qaar:=by
  have hn:0<(qmg T W picks n).st.length:=by have:=I.len;omega
  rw[List.countP_pos_iff]
  exact⟨_,List.getElem_mem hn,by rw[hall _ (List.getElem_mem hn)];rfl⟩
 have:=I.perm
 rw[ht,List.append_nil,show min (qmg T W picks n).w0 T=T by have:=I.late hl;omega]at this
 exact this
theorem leftN_le (st:List WS):qnc st≤st.length:=List.countP_le_length
end
set_option maxRecDepth 10000
def wsA:WS→List AV
 | .claim=>[.fn (.func qcx) [.ptr 5 0 0 0] []]
 | .work t=>[.fn (.func qcm) [] [.fptr [.ptr 5 0 0 0],.fptr [(ii t)]]]
 | .arrive=>[.fn (.func qc1) [.ptr 5 0 0 0] []]
 | .wait=>[.fn (.func qb6) [.ptr 5 0 0 0] []]
 | .done=>[.v .nilFunc]
def prC (x:Nat×Nat):List AV:=[(ii x.1),(ii x.2)]
theorem qalr (x:WS):los 6 (wsA x)=true:=by cases x<;>simp only[wsA,Ev.ev1,zgy]
theorem qka (l:List WS):qc5 6 (l.map wsA)=true:=qjy qalr l
theorem prC_lo (n:Nat) (x:Nat×Nat):los n (prC x)=true:=rfl
theorem qht (n:Nat) (l:List (Nat×Nat)):qc5 n (l.map prC)=true:=qjy (prC_lo n) l
theorem sNew_ev:(evL T).call qn8 [(ii 2),(ii 0)] []=some (.ptr 2 0 0 0,[.row 1 [[(ii 0)],[(ii 0)]] 0,.row 6 [] 0,.row 4 [[.sl 1 0 0 0 false,(ii 0),.sl 0 0 0 2 false,.fsl [] false]] 0]):=q7c 6 (by kernel_rfl)
theorem qalv (tk W:Nat) (h1:1≤W) (h2:W≤64):(evL T).call qi7 [(ii tk),(ii W)] []=some (.ptr 5 0 0 0,[.row 1 (((List.replicate W WS.claim)).map wsA) 1,.row 1 [[(ii 0)],[(ii 0)]] 0,.row 6 ([]:List (List AV)) 0,.row 4 [[.sl 2 0 0 (([]:List (List AV))).length false,(ii 0),.sl 1 0 0 2 false,.fsl [] false]] 0,.row 2 ((([]:List (Nat×Nat))).map prC) 0,.row 6 [[.ptr 3 0 0 0,(ii tk),.sl 0 1 0 W false,.sl 4 0 0 (([]:List (Nat×Nat))).length false,(ii W),(ii 0)]] 0]):=by
 have hL : ∃y,itB (exec (evL T) itL none qji) (qai [5,18,19] true 6) ⟨[(5,.ptr 5 0 0 0),(18,(ii W)),(19,(ii ((0:Nat))))],[]⟩
   [.row 1 (List.replicate W [.v .nilFunc]) 1,.row 1 [[(ii 0)],[(ii 0)]] 0,.row 6 [] 0,.row 4 [[.sl 2 0 0 0 false,(ii 0),.sl 1 0 0 2 false,.fsl [] false]] 0,.row 2 [] 0,.row 6 [[.ptr 3 0 0 0,(ii tk),.sl 0 1 0 W false,.sl 4 0 0 0 false,(ii W),(ii 0)]] 0]=some y ∧
   y.1 = .exit 0∧y.2.1.marks=[]∧y.2.2=[.row 1 (((List.replicate W WS.claim)).map wsA) 1,.row 1 [[(ii 0)],[(ii 0)]] 0,.row 6 ([]:List (List AV)) 0,.row 4 [[.sl 2 0 0 (([]:List (List AV))).length false,(ii 0),.sl 1 0 0 2 false,.fsl [] false]] 0,.row 2 ((([]:List (Nat×Nat))).map prC) 0,.row 6 [[.ptr 3 0 0 0,(ii tk),.sl 0 1 0 W false,.sl 4 0 0 (([]:List (Nat×Nat))).length false,(ii W),(ii 0)]] 0]∧Ev.look y.2.1.vars 5=some (.ptr 5 0 0 0):=by
  have key:=qg5 (f:=exec (evL T) itL none qji) (s:=qai [5,18,19] true 6) (α:=Unit)
   (fun i _=>⟨[(5,.ptr 5 0 0 0),(18,(ii W)),(19,(ii i))],[]⟩) (fun i _=>[.row 1 (List.replicate i (wsA .claim)++List.replicate (W-i) [.v .nilFunc]) 1,.row 1 [[(ii 0)],[(ii 0)]] 0,.row 6 [] 0,.row 4 [[.sl 2 0 0 0 false,(ii 0),.sl 1 0 0 2 false,.fsl [] false]] 0,.row 2 [] 0,.row 6 [[.ptr 3 0 0 0,(ii tk),.sl 0 1 0 W false,.sl 4 0 0 0 false,(ii W),(ii 0)]] 0]) (fun _ _=>True) W
   (fun y=>y.1 = .exit 0∧y.2.1.marks=[]∧y.2.2=[.row 1 (((List.replicate W WS.claim)).map wsA) 1,.row 1 [[(ii 0)],[(ii 0)]] 0,.row 6 ([]:List (List AV)) 0,.row 4 [[.sl 2 0 0 (([]:List (List AV))).length false,(ii 0),.sl 1 0 0 2 false,.fsl [] false]] 0,.row 2 ((([]:List (Nat×Nat))).map prC) 0,.row 6 [[.ptr 3 0 0 0,(ii tk),.sl 0 1 0 W false,.sl 4 0 0 (([]:List (Nat×Nat))).length false,(ii W),(ii 0)]] 0]∧Ev.look y.2.1.vars 5=some (.ptr 5 0 0 0)) ?_ ?_ 0 () (Nat.zero_le _) trivial
  ·simp only[List.replicate_zero,zgl,Nat.sub_zero]at key;exact key
  ·rintro i _ hi _
   have hi':(i:Int)<(W:Int):=by omega
   have hw:IntKind.i64.wrap ((i:Int)+1)=((i+1:Nat):Int):=by rw[qi (by omega) (by omega)];simp
   have hg:(List.replicate i (wsA .claim)++List.replicate (W-i) [AV.v .nilFunc])[i]? = some [AV.v .nilFunc]:=by
    rw[List.getElem?_append_right (by simp),List.length_replicate,Nat.sub_self,List.getElem?_replicate,if_pos (by omega)]
   have hset:(List.replicate i (wsA .claim)++List.replicate (W-i) [AV.v .nilFunc]).set i (wsA .claim)=List.replicate (i+1) (wsA .claim)++List.replicate (W-(i+1)) [.v .nilFunc]:=by
    rw[List.set_append,if_neg (by simp),List.length_replicate,Nat.sub_self]
    obtain⟨m,hm⟩ : ∃m,W-i=m+1:=⟨W-i-1,by omega⟩
    rw[hm,List.replicate_succ,List.set_cons_zero,show W-(i+1)=m by omega,List.replicate_succ',List.append_assoc];rfl
   have lo : ∀a b,qc5 6 (List.replicate a (wsA .claim)++List.replicate b [AV.v .nilFunc])=true:=fun a b=>by
    rw[q0w,qip _ _ _ (qalr _),qip _ _ _ (by simp only[Ev.ev1,zgy])];rfl
   have lo2:=lo (i+1) (W-(i+1))
   refine .inl ⟨(),?_,trivial⟩
   rw[←hset]at lo2⊢
   generalize List.replicate i (wsA .claim)++List.replicate (W-i) [AV.v .nilFunc]=R at *
   simp only[wsA]at hg hset lo2⊢
   simp only[qji,hi',hi,hw,hg,lo2,zgs,zgr,zfd,Ev.ev1,Ev.stP,qb,Ev.AV.cells,Ev.AV.uc,Ev.AV.plain,Ev.SObj.lo,zgy,↓qc,↓reduceIte,Nat.reduceEqDiff,Nat.reduceLT]
  ·rintro _ _
   rw[Nat.sub_self,List.replicate_zero,List.append_nil]
   have lo:=qip 6 W _ (qalr .claim)
   simp only[qji,Int.lt_irrefl,Ev.ev1,zgy,↓qc,↓reduceIte,Nat.reduceEqDiff]
   exact⟨_,rfl,rfl,rfl,by simp[wsA],rfl⟩
 obtain⟨⟨y,e,σ⟩,k1,k2,k3,k4,k5⟩:=hL
 simp only[Int.ofNat_zero]at k1 k2 k3 k4 k5
 subst k2;subst k4
 have lo:=qka (List.replicate W WS.claim)
 have b1:8*(W:Int)≤140737488355328:=by omega
 have b2:(W:Int)≤4611686018427387904:=by omega
 have lr:qc5 6 (List.replicate W [AV.v .nilFunc])=true:=qip _ _ _ (by simp only[Ev.ev1,zgy])
 rw[qe q5k q3a]
 simp only[qom,sNew_ev,k1,k3,k5,lr,b1,b2,AV.shift,qic,qiz,zgs,zgr,Int.le_refl,Ev.ev1,q1x,qb,Ev.AV.cells,Ev.AV.uc,Ev.AV.plain,qh,Ev.SObj.lo,ne_eq,zgy,↓qc,↓qv,↓reduceIte,Nat.reduceAdd,Nat.reduceEqDiff,Nat.reduceLT,Nat.reduceLeDiff,Int.reducePow,reduceCtorEq]
end Go.Proofs.YtpgdfkciinankaaGreat.K
