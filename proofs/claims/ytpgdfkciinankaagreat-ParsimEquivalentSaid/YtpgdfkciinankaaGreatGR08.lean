/- For every input the statement of this claim returns true: texts of its proof, joined (part 9). -/
import Derived.Test.YtpgdfkciinankaaGreatGR04
import Derived.Test.YtpgdfkciinankaaGreatGR06
import Derived.Test.YtpgdfkciinankaaGreatGR07
set_option linter.unusedSectionVars false
set_option linter.unusedSimpArgs false
set_option linter.unusedVariables false
namespace Go.Proofs.YtpgdfkciinankaaGreat.K
open Go.Ev
set_option maxRecDepth 10000
def stP (s:Start):Pr:=⟨s.prog,0,true,[]⟩
def stLp (ps:List Pr):Lp×Bool:=(⟨0,0,ps,0⟩,decide (ps=[]))
def qac1 (σ:qf) (lim:Nat) (row:List AV) (ps:List Pr):Prop:=
 ps=[]∧row=[(ii 0),(ii 0),.fsl [] true,(ii 0)]∨ps ≠ [] ∧ ∃o g,0<o∧o<lim∧row=[(ii 0),(ii 0),.sl o g 0 ps.length false,(ii 0)]∧σ[o]? = some (.row 4 (ps.map Pr.r) g)
theorem qac1.frz {σ:qf} {lim d:Nat} {row:List AV} {ps:List Pr} (h:qac1 σ lim row ps):qio (Ev.frz σ (d+1)) row=some (lpF (stLp ps)):=by
 rcases h with ⟨rfl,rfl⟩|⟨h1,o,g,_,_,rfl,h2⟩
 ·rfl
 ·have t1:List.take ps.length (ps.map Pr.r)=ps.map Pr.r:=ztl (by simp)
  simp only[qu4,q7t,qaj2,h2,t1,q7n,qa3,lpF,stLp,h1,Ev.ev1,zgy,↓qc,↓reduceIte]
def qo2 (σ:qf) (lim:Nat):List (List AV)→List (List Pr)→Prop
 | [],[]=>True
 |r::rs,p::ps=>qac1 σ lim r p∧qo2 σ lim rs ps
 | _,_=>False
theorem qac1.mono {σ σ':qf} {lim lim':Nat} {row:List AV} {ps:List Pr} (h:qac1 σ lim row ps) (hl:lim≤lim') (hσ : ∀o,0<o→o<lim→σ'[o]? = σ[o]?):qac1 σ' lim' row ps:=by
 rcases h with h|⟨h1,o,g,h2,h3,h4,h5⟩
 ·exact .inl h
 ·exact .inr ⟨h1,o,g,h2,by omega,h4,by rw[hσ o h2 h3];exact h5⟩
theorem qo2.mono {σ σ':qf} {lim lim':Nat} (hl:lim≤lim') (hσ : ∀o,0<o→o<lim→σ'[o]? = σ[o]?) : ∀ {rs:List (List AV)} {ps:List (List Pr)},qo2 σ lim rs ps→qo2 σ' lim' rs ps
 | [],[],h=>trivial
 |r::rs,p::ps,h=>⟨h.1.mono hl hσ,qo2.mono hl hσ h.2⟩
 | [],_ :: _,h=>h.elim
 | _ :: _,[],h=>h.elim
theorem qo2.snoc {σ:qf} {lim:Nat} {r:List AV} {p:List Pr} (hr:qac1 σ lim r p) : ∀ {rs:List (List AV)} {ps:List (List Pr)},qo2 σ lim rs ps→qo2 σ lim (rs++[r]) (ps++[p])
 | [],[],h=>⟨hr,trivial⟩
 |r'::rs,p'::ps,h=>⟨h.1,qo2.snoc hr h.2⟩
 | [],_ :: _,h=>h.elim
 | _ :: _,[],h=>h.elim
theorem qo2.frz {σ:qf} {lim d:Nat} : ∀ {rs:List (List AV)} {ps:List (List Pr)},qo2 σ lim rs ps→qio (qio (Ev.frz σ (d+1))) rs=some ((ps.map stLp).map lpF)
 | [],[],h=>rfl
 |r::rs,p::ps,h=>by rw[qu4,h.1.frz,qo2.frz h.2];rfl
 | [],_ :: _,h=>h.elim
 | _ :: _,[],h=>h.elim
theorem qo2.len {σ:qf} {lim:Nat} : ∀ {rs:List (List AV)} {ps:List (List Pr)},qo2 σ lim rs ps→rs.length=ps.length
 | [],[],h=>rfl
 |r::rs,p::ps,h=>by rw[List.length_cons,List.length_cons,qo2.len h.2]
 | [],_ :: _,h=>h.elim
 | _ :: _,[],h=>h.elim
section
variable (c:Cfg)
def Part (τ0 τ:qf) (i:Nat) (l:List Start) (rk:List AV):Prop:=
 τ0.length≤τ.length∧(∀j,j<τ0.length→τ[j]? = τ0[j]?) ∧
 (i=0∧rk=[(ii 0),(ii 0),.fsl [] true,(ii 0)]∨0<i ∧ ∃o g,τ0.length≤o∧o<τ.length∧rk=[(ii 0),(ii 0),.sl (o+1) g 0 i false,(ii 0)]∧τ[o]? = some (.row 4 (((l.take i).map stP).map Pr.r) g))
theorem Part.rowOk {τ0 τ:qf} {l:List Start} {rk:List AV} (h:Part τ0 τ l.length l rk) (x:SObj):qac1 (x::τ) (τ.length+1) rk (l.map stP):=by
 obtain⟨_,_,h⟩:=h
 rcases h with ⟨h1,h2⟩|⟨h1,o,g,h2,h3,h4,h5⟩
 ·exact .inl ⟨by rw[List.eq_nil_of_length_eq_zero h1];rfl,h2⟩
 ·refine .inr ⟨fun e=>by rw[List.map_eq_nil_iff]at e;subst e;simp at h1,o+1,g,by omega,by omega,by rw[h4,List.length_map],?_⟩
  rw[List.take_length]at h5
  rw[List.getElem?_cons_succ];exact h5
theorem qaeb (k n:Nat) (l:List Start) (R1 R2:List (List AV)) (hk:k=R1.length) (hn:n=R1.length+1+R2.length) (hl:l.length≤12) (τ0:qf) :
  ∃y,itB (exec (evL T) itL none qh4) (qai [3,4,13,14,15,20,21,22] false (τ0.length+1)) ⟨[(3,.sl 0 0 0 n true),(4,(ii k)),(13,(.fsl ((c.lps).map lpC) false)),(14,(ii n)),(15,(ii k)),(20,(.fsl ((l).map Start.r) false)),(21,(ii l.length)),(22,(ii 0))],[]⟩ (.row 4 (R1++[(ii 0),(ii 0),.fsl [] true,(ii 0)]::R2) 0::τ0)=some y ∧
   ∃(rk:List AV) (τ:qf),y.1 = .exit 2∧y.2.1.marks=[]∧y.2.2 = .row 4 (R1++rk::R2) 0::τ∧Part τ0 τ l.length l rk∧Ev.look y.2.1.vars 3=some (.sl 0 0 0 n true)∧Ev.look y.2.1.vars 13=some (.fsl ((c.lps).map lpC) false)∧Ev.look y.2.1.vars 14=some (ii n)∧Ev.look y.2.1.vars 15=some (ii k):=by
 have key:=qg5 (f:=exec (evL T) itL none qh4) (s:=qai [3,4,13,14,15,20,21,22] false (τ0.length+1)) (α:=List AV×qf)
  (fun i a=>⟨[(3,.sl 0 0 0 n true),(4,(ii k)),(13,(.fsl ((c.lps).map lpC) false)),(14,(ii n)),(15,(ii k)),(20,(.fsl ((l).map Start.r) false)),(21,(ii l.length)),(22,(ii i))],[]⟩) (fun i a => .row 4 (R1++a.1::R2) 0::a.2)
  (fun i a=>Part τ0 a.2 i l a.1) l.length
  (fun y => ∃(rk:List AV) (τ:qf),y.1 = .exit 2∧y.2.1.marks=[]∧y.2.2 = .row 4 (R1++rk::R2) 0::τ∧Part τ0 τ l.length l rk∧Ev.look y.2.1.vars 3=some (.sl 0 0 0 n true)∧Ev.look y.2.1.vars 13=some (.fsl ((c.lps).map lpC) false)∧Ev.look y.2.1.vars 14=some (ii n)∧Ev.look y.2.1.vars 15=some (ii k)) ?_ ?_ 0 ([(ii 0),(ii 0),.fsl [] true,(ii 0)],τ0) (Nat.zero_le _) ⟨Nat.le_refl _,fun _ _=>rfl,.inl ⟨rfl,rfl⟩⟩
 ·exact key
 ·rintro i ⟨rk,τ⟩ hi ⟨h1,h2,h3⟩
  simp only at h1 h2 h3⊢
  obtain⟨x,hx⟩ : ∃x,l[i]? = some x:=⟨_,zgE hi⟩
  have hi':(i:Int)<(l.length:Int):=by omega
  have hw:IntKind.i64.wrap ((i:Int)+1)=((i+1:Nat):Int):=by rw[qi (by omega) (by omega)];simp
  have rg : ∀r:List AV,(R1++r::R2)[k]? = some r:=fun r=>by rw[hk];simp
  have rs : ∀r v:List AV,(R1++r::R2).set k v=R1++v::R2:=fun r v=>by rw[hk];simp[]
  have rk':k<n:=by omega
  have tg : ∀v:SObj,(τ++[v])[τ.length]? = some v:=fun v=>by simp
  have ts : ∀v w:SObj,(τ++[v]).set τ.length w=τ++[w]:=fun v w=>by simp[]
  obtain⟨xp,xt⟩:=x
  rcases h3 with ⟨hi0,rfl⟩|⟨h3,o,g,h4,h5,rfl,h6⟩
  ·refine .inl ⟨([(ii 0),(ii 0),.sl (τ.length+1+1) 0 0 1 false,(ii 0)],τ++[.row 2 [[(ii xp),(ii xt)]] 0,.row 4 [(stP ⟨xp,xt⟩).r] 0]),?_,?_⟩
   ·simp only[qh4,zgs,zgr,zgq,zgt,hx,hi',hw,rg,rs,rk',tg,ts,List.append_assoc,List.map_nil,Start.r,stP,Pr.r,Ev.ev1,Ev.stP,q3t,qb,qdj,Ev.AV.cells,Ev.AV.uc,Ev.AV.plain,ne_eq,zgy,↓qc,↓reduceIte,Nat.reduceAdd,Nat.reduceEqDiff,Nat.reduceMul,Nat.reduceLT,Nat.reduceLeDiff,Nat.reducePow]
   ·refine⟨by simp;omega,fun j hj=>by rw[List.getElem?_append_left (by omega)];exact h2 j hj,.inr ⟨by omega,τ.length+1,0,by omega,by simp,by rw[hi0],?_⟩⟩
    rw[qhq hx,hi0]
    simp
  ·have og : ∀v:SObj,(τ++[v])[o]? = some (.row 4 (((l.take i).map stP).map Pr.r) g):=fun v=>by rw[List.getElem?_append_left h5];exact h6
   have ln:(((l.take i).map stP).map Pr.r).length=i:=by simp;omega
   have tk:List.take i (((l.take i).map stP).map Pr.r)=((l.take i).map stP).map Pr.r:=ztl (by simp;omega)
   have bd:(i+1)*48≤140737488355328:=by omega
   have il:i≤i:=Nat.le_refl _
   have nx:((l.take (i+1)).map stP).map Pr.r=((l.take i).map stP).map Pr.r++[(stP ⟨xp,xt⟩).r]:=by rw[qhq hx];simp
   refine .inl ⟨([(ii 0),(ii 0),.sl (o+1) (g+1) 0 (i+1) false,(ii 0)],(τ++[SObj.row 2 [[(ii xp),(ii xt)]] 0]:List SObj).set o (.row 4 (((l.take (i+1)).map stP).map Pr.r) (g+1))),?_,?_⟩
   ·simp only
    rw[nx]
    generalize ((l.take i).map stP).map Pr.r=PR at og ln tk⊢
    simp only[qh4,zgs,zgr,zgq,zgt,hx,hi',hw,rg,rs,rk',tg,ts,og,ln,tk,bd,il,List.map_nil,Start.r,stP,Pr.r,Ev.ev1,Ev.stP,q3t,qb,qdj,Ev.AV.cells,Ev.AV.uc,Ev.AV.plain,ne_eq,zgy,↓qc,↓reduceIte,Nat.reduceAdd,Nat.reduceEqDiff,Nat.reduceMul,Nat.reduceLeDiff,Nat.reducePow]
   ·refine⟨by simp;omega,fun j hj => ?_,.inr ⟨by omega,o,g+1,h4,by simp;omega,rfl,?_⟩⟩
    ·rw[List.getElem?_set_ne (by omega),List.getElem?_append_left (by omega)];exact h2 j hj
    ·rw[List.getElem?_set_self (by simp;omega)]
 ·rintro⟨rk,τ⟩ hP
  simp only at hP⊢
  simp only[qh4,Int.lt_irrefl,Ev.ev1,zgy,↓qc,↓reduceIte,Nat.reduceEqDiff]
  exact⟨_,rfl,rk,τ,rfl,rfl,rfl,hP,rfl,rfl,rfl,rfl⟩
end
set_option maxRecDepth 10000
def qadb (lps:List (List Start)):List (List Pr):=lps.map fun l=>l.map stP
def qib (lps:List (List Start)):List (Lp×Bool):=(qadb lps).map stLp
section
variable (c:Cfg)
theorem q50 (h:Small12 c) :
  ∃y,itB (exec (evL T) itL none qjn) (qai [3,13,14,15] false 1) ⟨[(3,.sl 0 0 0 c.lps.length true),(13,(.fsl ((c.lps).map lpC) false)),(14,(ii c.lps.length)),(15,(ii 0))],[]⟩ [.row 4 (List.replicate c.lps.length [(ii 0),(ii 0),.fsl [] true,(ii 0)]) 0]=some y ∧
   ∃(R:List (List AV)) (τ:qf),y.1 = .exit 0∧y.2.1.marks=[]∧y.2.2 = .row 4 R 0::τ∧qo2 y.2.2 (τ.length+1) R (qadb c.lps)∧Ev.look y.2.1.vars 3=some (.sl 0 0 0 c.lps.length true):=by
 have key:=qg5 (f:=exec (evL T) itL none qjn) (s:=qai [3,13,14,15] false 1) (α:=List (List AV)×qf)
  (fun i a=>⟨[(3,.sl 0 0 0 c.lps.length true),(13,(.fsl ((c.lps).map lpC) false)),(14,(ii c.lps.length)),(15,(ii i))],[]⟩) (fun i a => .row 4 (a.1++List.replicate (c.lps.length-i) [(ii 0),(ii 0),.fsl [] true,(ii 0)]) 0::a.2)
  (fun i a => ∀x:SObj,qo2 (x::a.2) (a.2.length+1) a.1 (qadb (c.lps.take i))) c.lps.length
  (fun y => ∃(R:List (List AV)) (τ:qf),y.1 = .exit 0∧y.2.1.marks=[]∧y.2.2 = .row 4 R 0::τ∧qo2 y.2.2 (τ.length+1) R (qadb c.lps)∧Ev.look y.2.1.vars 3=some (.sl 0 0 0 c.lps.length true)) ?_ ?_ 0 ([],[]) (Nat.zero_le _) (fun _=>trivial)
 ·exact key
 ·rintro i ⟨R,τ⟩ hi hR
  simp only at hR⊢
  obtain⟨x,hx⟩ : ∃x,c.lps[i]? = some x:=⟨_,zgE hi⟩
  have hlps:=h.lps
  have hi':(i:Int)<(c.lps.length:Int):=by omega
  have hw:IntKind.i64.wrap ((i:Int)+1)=((i+1:Nat):Int):=by rw[qi (by omega) (by omega)];simp
  have hRl:i=R.length:=by rw[(hR .dead).len];simp[qadb];omega
  have hrep:List.replicate (c.lps.length-i) ([(ii 0),(ii 0),.fsl [] true,(ii 0)]:List AV)=([(ii 0),(ii 0),.fsl [] true,(ii 0)]:List AV)::List.replicate (c.lps.length-(i+1)) ([(ii 0),(ii 0),.fsl [] true,(ii 0)]:List AV):=by
   rw[show c.lps.length-i=(c.lps.length-(i+1))+1 by omega];rfl
  obtain⟨⟨y,e,σ⟩,k1,rk,τ',k2,k3,k4,k5,k6,k7,k8,k9⟩:=qaeb c i c.lps.length x R (List.replicate (c.lps.length-(i+1)) [(ii 0),(ii 0),.fsl [] true,(ii 0)]) hRl (by simp;omega) (h.lp _ (zmg hx)) τ
  simp only at k1 k2 k3 k4 k6 k7 k8 k9
  subst k2;subst k4
  refine .inl ⟨(R++[rk],τ'),?_,fun z => ?_⟩
  ·simp only[List.append_assoc,zgm,zgl]
   rw[hrep]
   generalize List.replicate (c.lps.length-(i+1)) ([(ii 0),(ii 0),.fsl [] true,(ii 0)]:List AV)=RR at k1⊢
   simp only[qjn,zgs,zgr,zgq,zgt,hx,hi',hw,k1,k3,k6,k7,k8,k9,lpC,Ev.ev1,qb,zgy,↓qc,↓qv,↓reduceIte,Nat.reduceEqDiff]
  ·have:qadb (c.lps.take (i+1))=qadb (c.lps.take i)++[x.map stP]:=by rw[qhq hx];simp[qadb]
   simp only
   rw[this]
   refine qo2.snoc (k5.rowOk z) ((hR z).mono (by have:=k5.1;omega) (fun o h1 h2 => ?_))
   obtain⟨o,rfl⟩ : ∃p,o=p+1:=⟨o-1,by omega⟩
   rw[List.getElem?_cons_succ,List.getElem?_cons_succ]
   exact k5.2.1 o (by omega)
 ·rintro⟨R,τ⟩ hR
  rw[List.take_length]at hR
  simp only at hR⊢
  rw[Nat.sub_self,List.replicate_zero,List.append_nil]
  simp only[qjn,Int.lt_irrefl,Ev.ev1,zgy,↓qc,↓reduceIte,Nat.reduceEqDiff]
  exact⟨_,rfl,R,τ,rfl,rfl,rfl,hR _,rfl⟩
theorem q55 (h:Small12 c):qac (evL T) qgv [(.agg [(.fsl ((c.lps).map lpC) false),(.fsl ((c.progs).map qaz) false),(ii c.look),(ii c.fin),(ii c.cap)])]=some (.fsl ((qib c.lps).map lpF) false):=by
 obtain⟨⟨y,e,σ⟩,k1,R,τ,k2,k3,k4,k5,k6⟩:=q50 c h
 simp only at k1 k2 k3 k4 k5 k6
 subst k2;subst k4
 have hlps:=h.lps
 have b1:(c.lps.length:Int)*48≤140737488355328:=by omega
 have b1':48*(c.lps.length:Int)≤140737488355328:=by omega
 have b2:(c.lps.length:Int)≤4611686018427387904:=by omega
 have hR:=k5.len
 have hRl:R.length=c.lps.length:=by rw[hR];simp[qadb]
 have tk:List.take c.lps.length R=R:=ztl (by omega)
 have hf:=fun d=>k5.frz (d:=d)
 have hle:c.lps.length≤c.lps.length:=Nat.le_refl _
 rw[qac,qe qvz qty]
 simp only[qms,zgs,zgr,b1',b2,k1,k3,k6,Int.le_refl,hRl,hle,tk,Ev.ev1,qb,Ev.AV.cells,Ev.AV.plain,qh,ne_eq,zgy,↓qc,↓qv,↓reduceIte,Nat.reduceAdd,Nat.reduceEqDiff,Nat.reduceLT,Int.reducePow]
 rw[show (5:Nat)=4+1 from rfl,hf 4]
 rfl
end
set_option maxRecDepth 10000
section
variable (c:Cfg)
def RPart (b i:Nat) (l:List Start) (W:qf):Prop:=
 i=0∧W=[.row 4 [[(ii 0),(ii 0),.fsl [] true,(ii 0)]] 0]∨0<i ∧ ∃g,W=[.row 4 [[(ii 0),(ii 0),.sl (b+1+1) g 0 i false,(ii 0)]] 0,.row 4 (((l.take i).map stP).map Pr.r) g]
theorem RPart.row {b:Nat} {l:List Start} {τ0 W:qf} (hb:b=τ0.length) (h:RPart b l.length l W) :
  ∃rk,(∃w:List SObj,W = .row 4 [rk] 0::w)∧rk.length=4∧qfx rk=true ∧ ∀x:SObj,qac1 (x::(τ0++W)) ((τ0++W).length+1) rk (l.map stP):=by
 rcases h with ⟨h1,rfl⟩|⟨h1,g,rfl⟩
 ·refine⟨[(ii 0),(ii 0),.fsl [] true,(ii 0)],⟨[],rfl⟩,rfl,rfl,fun x => .inl ⟨?_,rfl⟩⟩
  rw[List.eq_nil_of_length_eq_zero h1];rfl
 ·refine⟨_,⟨_,rfl⟩,rfl,rfl,fun x => .inr ⟨fun e=>by rw[List.map_eq_nil_iff]at e;subst e;simp at h1,b+1+1,g,by omega,by simp;omega,by rw[List.length_map],?_⟩⟩
  rw[List.take_length,List.getElem?_cons_succ,hb,List.getElem?_append_right (by omega)]
  simp
end
set_option maxRecDepth 10000
structure Sim where
 trace:List (List Evt)
 lps:List Lp
 pend:List Evt
 n:Nat
 over:Bool
def lpAt (s:Sim) (i:Int):Lp:=(s.lps[i.toNat]?).getD ⟨0,0,[],0⟩
def qiu (s:Sim) (i:Int):List Evt:=(s.trace[i.toNat]?).getD []
def qd4 (gone:List (List Int)) (x:Evt):Bool:=!(gone.any fun g=>decide (g=x.key))
def Sim.step (c:Cfg) (s:Sim) (e:Evt) (rest:List Evt):Sim:=
 ⟨s.trace.set e.lp.toNat (qiu s e.lp++[e]),s.lps.set e.lp.toNat (qa1 c (lpAt s e.lp) e).lp,sortL ((rest++(qa1 c (lpAt s e.lp) e).out).filter (qd4 (qa1 c (lpAt s e.lp) e).gone)),s.n+1,s.over||(qa1 c (lpAt s e.lp) e).over⟩
def Sim.ready (c:Cfg) (s:Sim):Bool:=match s.pend with
 | []=>false
 |e :: _=>decide (e.time<c.fin)
def Sim.go (c:Cfg) (s:Sim):Sim:=match s.pend with
 | []=>s
 |e::rest=>s.step c e rest
def Sim.run (c:Cfg):Nat→Sim→Sim
 | 0,s=>s
 |k+1,s=>if s.ready c=true then Sim.run c k (s.go c)else s
def start (c:Cfg):Sim:=⟨List.replicate c.lps.length [],(qib c.lps).map Prod.fst,sortL (ql7 c.lps),0,false⟩
structure EvG (c:Cfg) (n:Nat) (e:Evt):Prop where
 lp:0≤e.lp∧e.lp<c.lps.length
 time:0≤e.time∧e.time≤1152921504606846976
 key:2≤e.key.length∧e.key.length≤2+n
 proc:0≤e.proc∧e.proc<8
 arg:e.kind=2→0≤e.arg∧e.arg<16
theorem EvG.mono {c:Cfg} {n m:Nat} {e:Evt} (h:EvG c n e) (hm:n≤m):EvG c m e:=⟨h.lp,h.time,⟨h.key.1,by have:=h.key.2;omega⟩,h.proc,h.arg⟩
def LpG (c:Cfg) (n:Nat) (x:Lp):Prop:=x.procs.length≤8 ∧ ∀q∈x.procs,0≤q.prog∧q.prog<c.progs.length∧0≤q.pc∧q.pc≤((c.progs[q.prog.toNat]?).getD []).length∧q.timer.length≤2+n
def qlo (l:List Evt):Prop:=l.Pairwise (fun a b=>¬a.key=b.key)
def qakr (c:Cfg) (x:Lp) (l:List Evt):Lp:=l.foldl (fun x e=>(qa1 c x e).lp) x
def qbc (h:List Evt) (i:Nat):List Evt:=h.filter fun e=>decide (e.lp=i)
structure SInvK (c:Cfg) (s:Sim) (h:List Evt):Prop where
 valid:Valid c
 n:s.n=h.length
 trl:s.trace.length=c.lps.length
 tr : ∀i,i<c.lps.length→s.trace[i]? = some (qbc h i)
 lpl:s.lps.length=c.lps.length
 lp : ∀x∈s.lps,LpG c h.length x
 keys:qlo (h++s.pend)
 ev : ∀e∈h++s.pend,EvG c h.length e
 tim : ∀e∈s.pend,e.kind=2 → ∃x q p,s.lps[e.lp.toNat]? = some x∧x.procs[e.proc.toNat]? = some q∧c.progs[q.prog.toNat]? = some p∧0≤e.arg∧e.arg<p.length
 par : ∀e∈h++s.pend,e.key.length=2 ∨ ∃p∈h,∃m,e.key=p.key++[m]∧p.time<e.time
 len:s.pend.length≤64+16*h.length
 rep : ∀i,i<c.lps.length→s.lps[i]? = some (qakr c ((((qib c.lps).map Prod.fst)[i]?).getD ⟨0,0,[],0⟩) (qbc h i))
 rdy : ∀i,i<c.lps.length → ∀k e,(qbc h i)[k]? = some e→Ready c (qakr c ((((qib c.lps).map Prod.fst)[i]?).getD ⟨0,0,[],0⟩) ((qbc h i).take k)) e
structure SInv (c:Cfg) (s:Sim) (h:List Evt):Prop extends SInvK c s h where
 sorted:s.pend.Pairwise leE
 ord:h.Pairwise leE
 ord2 : ∀a∈h,∀b∈s.pend,leE a b
 fin : ∀e∈h,e.time<c.fin
theorem qlo.dist {l:List Evt} (h:qlo l):q3p l:=h.imp fun hk hc=>hk ((q9t _ _).1 hc).2
theorem qlo.perm {l l':List Evt} (h:qlo l) (p:l'.Perm l):qlo l':=(p.pairwise_iff (fun {x y} hxy hyx=>hxy hyx.symm)).2 h
theorem leE_time {a b:Evt} (h:a.time<b.time):leE a b:=by
 have:=qm2 a.time b.time
 unfold leE qx5
 rw[if_neg (by omega)];omega
theorem q08 {a b:Evt} (h:leE a b):a.time≤b.time:=by
 have:=qm2 a.time b.time
 unfold leE qx5 at h
 by_cases e:qv6 a.time b.time=0
 ·omega
 ·rw[if_neg e]at h;omega
section
variable {c:Cfg} {s:Sim} {h:List Evt}
theorem SInvK.headM (H:SInvK c s h) {e:Evt} (hm:e∈s.pend) (hn:h.length≤20000) : ∃x,s.lps[e.lp.toNat]? = some x∧lpAt s e.lp=x∧Ready c x e:=by
 have he:e∈h++s.pend:=List.mem_append_right _ hm
 have g:=H.ev e he
 obtain⟨x,hx⟩ : ∃x,s.lps[e.lp.toNat]? = some x:=⟨_,zgE (by rw[H.lpl];have:=g.lp;omega)⟩
 have hl:=H.lp x (zmg hx)
 refine⟨x,hx,by unfold lpAt;rw[hx];rfl,H.valid,hl.1,fun q hq => ?_,g.time,by have:=g.key;omega,fun q ha hk => ?_⟩
 ·obtain⟨a,b,d,f,k⟩:=hl.2 q hq;exact⟨a,b,d,f,by omega⟩
 ·obtain⟨_,_,hq,_⟩:=q91 ha
  obtain⟨x',q',p,h1,h2,h3,h4,h5⟩:=H.tim e hm hk
  rw[hx]at h1;cases h1
  rw[hq]at h2;cases h2
  rw[h3];exact⟨h4,by show e.arg≤(p.length:Int);omega⟩
theorem SInv.head (H:SInv c s h) {e:Evt} {rest:List Evt} (hp:s.pend=e::rest) (hn:h.length≤20000) : ∃x,s.lps[e.lp.toNat]? = some x∧lpAt s e.lp=x∧Ready c x e:=
 H.toSInvK.headM (by rw[hp];simp) hn
theorem qahc {e:Evt} {out:List Evt} (h : ∀k ev ev',out[k]? = some ev→out[k+1]? = some ev' → ∃m m':Int,ev.key=e.key++[m]∧ev'.key=e.key++[m']∧m<m') :
  ∀(d i:Nat) (a b:Evt),out[i]? = some a→out[i+d+1]? = some b → ∃m m':Int,a.key=e.key++[m]∧b.key=e.key++[m']∧m<m'
 | 0,i,a,b,ha,hb=>h i a b ha hb
 |d+1,i,a,b,ha,hb=>by
  have hlt:=(zei.1 hb).1
  obtain⟨x,hx⟩ : ∃x,out[i+d+1]? = some x:=⟨_,zgE (by omega)⟩
  obtain⟨m,m1,h1,h2,h3⟩:=qahc h d i a x ha hx
  obtain⟨m2,m3,h4,h5,h6⟩:=h (i+d+1) x b hx hb
  rw[h2]at h4
  have:=List.append_cancel_left h4
  simp only[List.cons.injEq,and_true]at this
  exact⟨m,m3,h1,h5,by omega⟩
theorem qaiv {e:Evt} {out:List Evt} (h : ∀k ev ev',out[k]? = some ev→out[k+1]? = some ev' → ∃m m':Int,ev.key=e.key++[m]∧ev'.key=e.key++[m']∧m<m'):qlo out:=by
 unfold qlo
 rw[List.pairwise_iff_getElem]
 intro i j hi hj hij hk
 obtain⟨m,m',h1,h2,h3⟩:=qahc h (j-i-1) i out[i] out[j] (zgE hi) (by rw[show i+(j-i-1)+1=j by omega];exact zgE hj)
 rw[hk,h2]at h1
 have:=List.append_cancel_left h1
 simp only[List.cons.injEq,and_true]at this
 omega
theorem SInvK.keyNeP (H:SInvK c s h) {e:Evt} {rest:List Evt} (hp:s.pend.Perm (e::rest)) (hn:h.length≤20000):qlo ((h++[e])++(rest++(qa1 c (lpAt s e.lp) e).out)):=by
 have hme:e∈s.pend:=hp.mem_iff.2 (by simp)
 obtain⟨x,hx,hlx,R⟩:=H.headM hme hn
 rw[hlx]
 obtain⟨X,_,o1,o2⟩:=R.outs
 have hk:qlo (h++e::rest):=qlo.perm H.keys (hp.symm.append_left h)
 have e1:(h++[e])++(rest++(qa1 c x e).out)=(h++e::rest)++(qa1 c x e).out:=by simp
 rw[e1]
 unfold qlo at hk⊢
 rw[List.pairwise_append]
 refine⟨hk,qaiv o2,fun a ha b hb hab => ?_⟩
 obtain⟨k,hkb⟩:=List.mem_iff_getElem?.1 hb
 obtain⟨m,hm,_⟩:=(o1 k b hkb).key
 have ha':a∈h++s.pend:=by
  rcases List.mem_append.1 ha with ha|ha
  ·exact List.mem_append_left _ ha
  ·exact List.mem_append_right _ (hp.mem_iff.2 ha)
 have ge:=H.ev e (List.mem_append_right _ hme)
 rw[hm]at hab
 rcases H.par a ha' with h2|⟨p,hp1,m',h2,_⟩
 ·rw[hab]at h2;simp at h2;have:=ge.key;omega
 ·rw[hab]at h2
  have hlen:=congrArg List.length h2
  simp at hlen
  have:=(List.append_inj h2 hlen).1
  rw[List.pairwise_append]at hk
  exact hk.2.2 p hp1 e (by simp) this.symm
theorem SInv.keyNe (H:SInv c s h) {e:Evt} {rest:List Evt} (hp:s.pend=e::rest) (hn:h.length≤20000):qlo ((h++[e])++(rest++(qa1 c (lpAt s e.lp) e).out)):=
 H.toSInvK.keyNeP (by rw[hp]) hn
end
set_option maxRecDepth 10000
theorem qag6 (k:List Int) (x:Evt) (hk:k.length≤9223372036854775807) (hx:x.key.length≤9223372036854775807) :
  (evL T).call qaw [(.fsl ((k).map qa0) false),.fptr x.r] []=some ((bb (decide (k=x.key))),[]):=by
 have h:=qrt k x.key false false hk hx
 rw[qe qo8 qo7]
 simp only[qfs,h,Evt.r,qm,Ev.ev1,qb,qh,zgy,↓qc,↓reduceIte,Nat.reduceAdd,Nat.reduceEqDiff,reduceCtorEq]
section
variable (G:List (List Int)) (c:Bool) (x:Evt)
theorem qafs (hG:G.length≤1000) (hk : ∀k∈G,k.length≤9223372036854775807) (hx:x.key.length≤9223372036854775807) :
  ∃y,itB (exec (evL T) itL none qdh) (qai [0,1,7,8] true 0) ⟨[(0,(.fsl ((G).map qna) c)),(1,.fn (.func qaw) [] [.fptr x.r]),(7,(ii G.length)),(8,(ii 0))],[]⟩ []=some y ∧
   (G.all (fun k => !decide (k=x.key))=true∧(y.1 = .exit 0∧y.2.1.marks=[]∧y.2.2=[]) ∨
   G.all (fun k => !decide (k=x.key))=false ∧ ∃z,G.find? (fun k => !(!decide (k=x.key)))=some z∧(y.1 = .ret∧y.2.1.marks=[]∧y.2.2=[] ∧ ∃i:Nat,Ev.look y.2.1.vars 4=some (ii i))):=by
 have hr:los 0 x.r=true:=qagj 0 x
 refine qgl G (fun i=>⟨[(0,(.fsl ((G).map qna) c)),(1,.fn (.func qaw) [] [.fptr x.r]),(7,(ii G.length)),(8,(ii i))],[]⟩) [] (fun k => !decide (k=x.key)) _ (fun _ y => _) ?_ ?_ ?_
 ·intro i z hi hz hp
  have hi':(i:Int)<(G.length:Int):=by omega
  have hw:IntKind.i64.wrap ((i:Int)+1)=((i+1:Nat):Int):=by rw[qi (by omega) (by omega)];simp
  have he:=qag6 z x (hk z (zmg hz)) hx
  simp only[Bool.not_eq_true',decide_eq_false_iff_not]at hp
  simp only[hp,zgw]at he
  simp only[qdh,zgs,zgr,zgq,zgt,hz,hi',hw,he,hr,qna,qew,Ev.ev1,qb,zgy,↓qc,↓reduceIte,Nat.reduceEqDiff,reduceCtorEq]
 ·intro i z hi hz hp
  have hi':(i:Int)<(G.length:Int):=by omega
  have he:=qag6 z x (hk z (zmg hz)) hx
  simp only[Bool.not_eq_false',decide_eq_true_eq]at hp
  simp only[hp,zgv]at he
  simp only[qdh,zgs,zgr,zgq,zgt,hz,hi',hp,he,qna,Ev.ev1,qb,zgy,↓qc,↓reduceIte,Nat.reduceEqDiff,reduceCtorEq]
  exact⟨_,rfl,rfl,rfl,rfl,i,rfl⟩
 ·simp only[qdh,Int.lt_irrefl,Ev.ev1,zgy,↓qc,↓reduceIte,Nat.reduceEqDiff,reduceCtorEq]
  exact⟨_,rfl,rfl,rfl,rfl⟩
theorem qajz:qd4 G x=G.all (fun k => !decide (k=x.key)):=by
 unfold qd4
 induction G with
 |nil=>rfl
 |cons a G ih=>rw[List.any_cons,List.all_cons,Bool.not_or,ih]
theorem gone_ev (hG:G.length≤1000) (hk : ∀k∈G,k.length≤9223372036854775807) (hx:x.key.length≤9223372036854775807) :
  qac (evL T) qbm [(.fsl ((G).map qna) c),.fn (.func qaw) [] [.fptr x.r]]=some (bb (!qd4 G x)):=by
 have hr:los 0 x.r=true:=qagj 0 x
 have hI : ∃i:Int,qac (evL T) qb8 [(.fsl ((G).map qna) c),.fn (.func qaw) [] [.fptr x.r]]=some (ii i)∧(decide (i≥0) = !qd4 G x):=by
  rw[qajz]
  obtain⟨⟨y,e,σ⟩,k1,k2⟩:=qafs G c x hG hk hx
  simp only at k2
  rw[qac,qe qpl qo6]
  rcases k2 with ⟨k3,rfl,k4,rfl⟩|⟨k3,z,_,rfl,k4,rfl,i,k5⟩
  ·refine⟨-1,?_,by rw[k3];rfl⟩
   simp only[qd6,k1,k4,hr,qew,Ev.ev1,qh,zgy,↓qc,↓qv,↓reduceIte,Nat.reduceAdd,Nat.reduceEqDiff,Int.reduceNeg,reduceCtorEq]
  ·refine⟨i,?_,by rw[k3];simp⟩
   simp only[qd6,k1,k4,k5,hr,qew,Ev.ev1,qh,zgy,↓qc,↓qv,↓reduceIte,Nat.reduceAdd,Nat.reduceEqDiff,Int.reduceNeg,reduceCtorEq]
 obtain⟨i,h1,h2⟩:=hI
 rw[qac,qe qof qn3]
 simp only[qeo,h1,h2,hr,qew,Ev.ev1,qh,zgy,↓qc,↓reduceIte,Nat.reduceAdd,Nat.reduceEqDiff,reduceCtorEq]
theorem qahi (σ:qf) (p:Nat) (hp:σ[p]? = some (.row 1 [[(.fsl ((G).map qna) false)]] 1)) (hG:G.length≤1000) (hk : ∀k∈G,k.length≤9223372036854775807) (hx:x.key.length≤9223372036854775807) :
  (evL T).call qaa [(.agg [(ii x.time),(.fsl ((x.key).map qa0) false),(ii x.lp),(ii x.kind),(ii x.proc),(ii x.arg)]),.ptr p 1 0 0] σ=some ((bb (!qd4 G x)),σ):=by
 have h:=gone_ev G false x hG hk hx
 simp only[Evt.r]at h
 rw[qe qqg qpx]
 simp only[qgo,h,hp,qew,qm,ite_self,Ev.ev1,qb,Ev.AV.cells,Ev.AV.plain,qh,ne_eq,zgy,↓qc,↓reduceIte,Nat.reduceAdd,Nat.reduceEqDiff,reduceCtorEq]
end
set_option maxRecDepth 10000
structure GoneAt (σ:qf) (p:Nat) (G:List (List Int)):Prop where
 at_:σ[p]? = some (.row 1 [[(.fsl ((G).map qna) false)]] 1)
 len:G.length≤1000
 key : ∀k∈G,k.length≤9223372036854775807
section
variable (σ:qf) (p o g:Nat) (G:List (List Int)) (D:List Evt)
theorem qai8 (H:GoneAt σ p G) (hl:qct σ.length σ=true) (hp:p<σ.length) (ho:σ[o]? = some (.row 6 (D.map Evt.r) g)) (hol:o<σ.length) (hD:D.length≤1000000) (hk : ∀x∈D,x.key.length≤9223372036854775807) :
  ∃y,itB (exec (evL T) itL none qk) (qai [0,1,7,8] true σ.length) ⟨[(0,.sl o g 0 D.length false),(1,(.fn (.func qaa) [] [.ptr p 1 0 0])),(7,(ii D.length)),(8,(ii 0))],[]⟩ σ=some y ∧
   ((D.all (qd4 G)=true∧(y.1 = .exit 0∧y.2.1.marks=[]∧y.2.2=σ)) ∨
   ∃(i:Nat) (z:Evt),D[i]? = some z∧qd4 G z=false∧(D.take i).all (qd4 G)=true∧y.1 = .ret∧y.2.1.marks=[]∧y.2.2=σ∧Ev.look y.2.1.vars 4=some (ii i)):=by
 have tl:List.take σ.length σ=σ:=List.take_length
 have key:=qg5 (f:=exec (evL T) itL none qk) (s:=qai [0,1,7,8] true σ.length) (α:=Unit)
  (fun i _=>⟨[(0,.sl o g 0 D.length false),(1,(.fn (.func qaa) [] [.ptr p 1 0 0])),(7,(ii D.length)),(8,(ii i))],[]⟩) (fun i _=>σ)
  (fun i _=>(D.take i).all (qd4 G)=true) D.length
  (fun y=>((D.all (qd4 G)=true∧(y.1 = .exit 0∧y.2.1.marks=[]∧y.2.2=σ)) ∨
   ∃(i:Nat) (z:Evt),D[i]? = some z∧qd4 G z=false∧(D.take i).all (qd4 G)=true∧y.1 = .ret∧y.2.1.marks=[]∧y.2.2=σ∧Ev.look y.2.1.vars 4=some (ii i))) ?_ ?_ 0 () (Nat.zero_le _) (by simp)
 ·exact key
 ·rintro i _ hi hall
  obtain⟨z,hz⟩ : ∃x,D[i]? = some x:=⟨_,zgE hi⟩
  have hi':(i:Int)<(D.length:Int):=by omega
  have hw:IntKind.i64.wrap ((i:Int)+1)=((i+1:Nat):Int):=by rw[qi (by omega) (by omega)];simp
  have he:=qahi G z σ p H.at_ H.len H.key (hk z (zmg hz))
  cases hb:qd4 G z with
  |true=>
   rw[hb]at he
   refine .inl ⟨(),?_,by rw[qhq hz,List.all_append,hall];simp[hb]⟩
   simp only[qk,zgs,zgr,zgq,zgt,ho,hz,hi,hi',hw,he,hl,tl,hp,hol,Evt.r,Ev.ev1,qb,zgy,↓qc,↓reduceIte,Nat.reduceAdd,Nat.reduceEqDiff,reduceCtorEq]
  |false=>
   rw[hb]at he
   right
   simp only[qk,zgs,zgr,zgq,zgt,ho,hz,hi,hi',he,Evt.r,Ev.ev1,qb,zgy,↓qc,↓reduceIte,Nat.reduceAdd,Nat.reduceEqDiff,reduceCtorEq]
   exact⟨_,rfl,.inr ⟨i,z,hz,hb,hall,rfl,rfl,rfl,rfl⟩⟩
 ·rintro _ hall
  rw[List.take_length]at hall
  simp only[qk,Int.lt_irrefl,Ev.ev1,zgy,↓qc,↓reduceIte,Nat.reduceEqDiff,reduceCtorEq]
  exact⟨_,rfl,.inl ⟨hall,rfl,rfl,rfl⟩⟩
theorem qae0 (H:GoneAt σ p G) (hl:qct σ.length σ=true) (hp:p<σ.length) (ho:σ[o]? = some (.row 6 (D.map Evt.r) g)) (hol:o<σ.length) (hD:D.length≤1000000) (hk : ∀x∈D,x.key.length≤9223372036854775807) :
  ∃i:Int,(evL T).call qw [.sl o g 0 D.length false,(.fn (.func qaa) [] [.ptr p 1 0 0])] σ=some ((ii i),σ) ∧
   (i = -1∧D.all (qd4 G)=true ∨ ∃(j:Nat) (z:Evt),i=j∧D[j]? = some z∧qd4 G z=false∧(D.take j).all (qd4 G)=true):=by
 have tl:List.take σ.length σ=σ:=List.take_length
 obtain⟨⟨y,e,τ⟩,k1,k2⟩:=qai8 σ p o g G D H hl hp ho hol hD hk
 simp only at k2
 rw[qe qfn qfa]
 rcases k2 with ⟨k3,rfl,k4,rfl⟩|⟨j,z,k3,k5,k6,rfl,k4,rfl,k7⟩
 ·refine⟨-1,?_,.inl ⟨rfl,k3⟩⟩
  simp only[qar,k1,k4,hl,tl,hp,hol,Ev.ev1,qh,zgy,↓qc,↓qv,↓reduceIte,Nat.reduceAdd,Nat.reduceEqDiff,Int.reduceNeg,reduceCtorEq]
 ·refine⟨j,?_,.inr ⟨j,z,rfl,k3,k5,k6⟩⟩
  simp only[qar,k1,k4,k7,hl,tl,hp,hol,Ev.ev1,qh,zgy,↓qc,↓qv,↓reduceIte,Nat.reduceAdd,Nat.reduceEqDiff,Int.reduceNeg,reduceCtorEq]
def zEvt:Evt:=⟨0,[],0,0,0,0⟩
theorem zEvt_r:zEvt.r=[(ii 0),.fsl [] false,(ii 0),(ii 0),(ii 0),(ii 0)]:=rfl
structure DelInv (G:List (List Int)) (D:List Evt) (j:Nat) (E:List Evt):Prop where
 len:E.length=D.length
 kept:E.take ((D.take j).filter (qd4 G)).length=(D.take j).filter (qd4 G)
 rest:E.drop j=D.drop j
 lt:((D.take j).filter (qd4 G)).length<j
theorem DelInv.mem {G:List (List Int)} {D E:List Evt} {j:Nat} (h:DelInv G D j E) (hj:j<D.length):E[j]? = D[j]?:=by
 have:=congrArg (fun l=>l[0]?) h.rest
 simpa[List.getElem?_drop]using this
theorem DelInv.keep {G:List (List Int)} {D E:List Evt} {j:Nat} {z:Evt} (h:DelInv G D j E) (hz:D[j]? = some z) (hb:qd4 G z=true):DelInv G D (j+1) (E.set ((D.take j).filter (qd4 G)).length z):=by
 have hlt:=(zei.1 hz).1
 have hl:=h.lt
 have e1:(D.take (j+1)).filter (qd4 G)=(D.take j).filter (qd4 G)++[z]:=by rw[qhq hz,List.filter_append];simp[hb]
 refine⟨by rw[List.length_set];exact h.len,?_,?_,?_⟩
 ·rw[e1,List.length_append,List.length_singleton,qhq (x:=z) (by rw[List.getElem?_set_self (by rw[h.len];omega)]),List.take_set_of_le (Nat.le_refl _),h.kept]
 ·rw[List.drop_set_of_lt (by omega)]
  have:=congrArg (List.drop 1) h.rest
  rw[List.drop_drop,List.drop_drop]at this
  exact this
 ·rw[e1,List.length_append,List.length_singleton];omega
theorem DelInv.drop {G:List (List Int)} {D E:List Evt} {j:Nat} {z:Evt} (h:DelInv G D j E) (hz:D[j]? = some z) (hb:qd4 G z=false):DelInv G D (j+1) E:=by
 have e1:(D.take (j+1)).filter (qd4 G)=(D.take j).filter (qd4 G):=by rw[qhq hz,List.filter_append];simp[hb]
 refine⟨h.len,by rw[e1];exact h.kept,?_,by rw[e1];have:=h.lt;omega⟩
 have:=congrArg (List.drop 1) h.rest
 rw[List.drop_drop,List.drop_drop]at this
 exact this
theorem DelInv.first {G:List (List Int)} {D:List Evt} {j:Nat} {z:Evt} (hz:D[j]? = some z) (hb:qd4 G z=false) (ha:(D.take j).all (qd4 G)=true):DelInv G D (j+1) D∧((D.take (j+1)).filter (qd4 G)).length=j:=by
 have hlt:=(zei.1 hz).1
 have e0:(D.take j).filter (qd4 G)=D.take j:=List.filter_eq_self.2 (fun x hx=>List.all_eq_true.1 ha x hx)
 have e1:(D.take (j+1)).filter (qd4 G)=D.take j:=by rw[qhq hz,List.filter_append,e0];simp[hb]
 have e2:(D.take j).length=j:=by rw[List.length_take];omega
 exact⟨⟨rfl,by rw[e1,e2],rfl,by rw[e1,e2];omega⟩,by rw[e1,e2]⟩
end
set_option maxRecDepth 10000
section
variable (σ:qf) (p o g n:Nat) (G:List (List Int)) (D:List Evt)
structure Grown (τ:qf) (n o:Nat) (R:List (List AV)) (g:Nat):Prop where
 len:τ.length=n
 lt:o<n
 at_:τ[o]? = some (.row 6 R g)
 lo:qct n τ=true
theorem Grown.new {τ:qf} {R:List (List AV)} (h:Grown τ n o R g) (x:SObj):(τ++[x])[n]? = some x:=by rw[←h.len];simp
theorem Grown.setNew {τ:qf} {R:List (List AV)} (h:Grown τ n o R g) (x y:SObj):(τ++[x]).set n y=τ++[y]:=by rw[←h.len];simp
theorem Grown.old {τ:qf} {R:List (List AV)} (h:Grown τ n o R g) (x:SObj):(τ++[x])[o]? = some (.row 6 R g):=by rw[List.getElem?_append_left (by rw[h.len];exact h.lt)];exact h.at_
theorem Grown.setOld {τ:qf} {R:List (List AV)} (h:Grown τ n o R g) (x y:SObj):(τ++[x]).set o y=τ.set o y++[x]:=by rw[List.set_append,if_pos (by rw[h.len];exact h.lt)]
theorem Grown.cut {τ:qf} {R:List (List AV)} (h:Grown τ n o R g) (x:SObj):(τ++[x]).take n=τ:=by rw[←h.len];simp
theorem Grown.cut2 {τ:qf} {R:List (List AV)} (h:Grown τ n o R g) (x y:SObj):(τ.set o y++[x]).take n=τ.set o y:=by
 have e:(τ.set o y).length=n:=by rw[List.length_set];exact h.len
 rw[←e,List.take_left]
theorem Grown.of {τ:qf} (hn:σ.length=n) (ho:o<n) (hl:qct n σ=true) (E:List Evt):Grown (σ.set o (.row 6 ((E).map Evt.r) g)) n o (E.map Evt.r) g:=
 ⟨by rw[List.length_set];exact hn,ho,by rw[List.getElem?_set_self (by omega)],qpa hl o (by simp only[SObj.lo,qq])⟩
theorem delete_L (H:GoneAt σ p G) (hn:σ.length=n) (hl:qct n σ=true) (hp:p<n) (hol:o<n) (hpo:¬p=o) (hD:D.length≤1000000) (hk : ∀x∈D,x.key.length≤9223372036854775807) :
  ∀(j:Nat) (E:List Evt),j≤D.length→DelInv G D j E →
  ∃y,itB (exec (evL T) itL none qau) (qai [0,1,5,6] true n) ⟨[(0,.sl o g 0 D.length false),(1,(.fn (.func qaa) [] [.ptr p 1 0 0])),(5,(ii (((D.take j).filter (qd4 G)).length))),(6,(ii j))],[]⟩ (σ.set o (.row 6 ((E).map Evt.r) g))=some y ∧
   ∃E':List Evt,E'.length=D.length∧E'.take (D.filter (qd4 G)).length=D.filter (qd4 G)∧(D.filter (qd4 G)).length≤D.length∧y.1 = .exit 0∧y.2.1.marks=[]∧y.2.2=(σ.set o (.row 6 ((E').map Evt.r) g))∧Ev.look y.2.1.vars 0=some (.sl o g 0 D.length false)∧Ev.look y.2.1.vars 5=some (ii ((D.filter (qd4 G)).length)):=by
 refine qg5 (f:=exec (evL T) itL none qau) (s:=qai [0,1,5,6] true n) (α:=List Evt)
  (fun j E=>⟨[(0,.sl o g 0 D.length false),(1,(.fn (.func qaa) [] [.ptr p 1 0 0])),(5,(ii (((D.take j).filter (qd4 G)).length))),(6,(ii j))],[]⟩) (fun j E=>(σ.set o (.row 6 ((E).map Evt.r) g)))
  (fun j E=>DelInv G D j E) D.length _ ?_ ?_
 ·intro j E hj hE
  obtain⟨z,hz⟩ : ∃x,D[j]? = some x:=⟨_,zgE hj⟩
  have hzE:=hE.mem hj
  rw[hz]at hzE
  have hj':(j:Int)<(D.length:Int):=by omega
  have hw:IntKind.i64.wrap ((j:Int)+1)=((j+1:Nat):Int):=by rw[qi (by omega) (by omega)];simp
  obtain⟨m,hm⟩ : ∃m,m=((D.take j).filter (qd4 G)).length:=⟨_,rfl⟩
  have hml:=hE.lt
  rw[←hm]at hml
  have hmD:m<D.length:=by omega
  have hwm:IntKind.i64.wrap ((m:Int)+1)=((m+1:Nat):Int):=by rw[qi (by omega) (by omega)];simp
  have gr:=Grown.of (τ:=(σ.set o (.row 6 ((E).map Evt.r) g))) σ o g n hn hol hl E
  have hpE:(σ.set o (.row 6 ((E).map Evt.r) g))[p]? = some (.row 1 [[(.fsl ((G).map qna) false)]] 1):=by rw[List.getElem?_set_ne (fun h=>hpo h.symm)];exact H.at_
  have hpEx : ∀x,((σ.set o (.row 6 ((E).map Evt.r) g))++[x])[p]? = some (.row 1 [[(.fsl ((G).map qna) false)]] 1):=fun x=>by rw[List.getElem?_append_left (by rw[gr.len];exact hp)];exact hpE
  have he:=fun x=>qahi G z ((σ.set o (.row 6 ((E).map Evt.r) g))++[x]) p (hpEx x) H.len H.key (hk z (zmg hz))
  have hEl:E.length=D.length:=hE.len
  obtain⟨w,hem⟩ : ∃w,E[m]? = some w:=⟨_,zgE (by omega)⟩
  have gset : ∀v:Evt,(σ.set o (.row 6 ((E).map Evt.r) g)).set o (.row 6 ((E.map Evt.r).set m v.r) g)=(σ.set o (.row 6 ((E.set m v).map Evt.r) g)):=fun v=>by rw[List.set_set,List.map_set]
  have gs:=Grown.of (τ:=(σ.set o (.row 6 ((E.set m z).map Evt.r) g))) σ o g n hn hol hl (E.set m z)
  have n1:=gr.new;have n2:=gr.setNew;have n3:=gr.old;have n4:=gr.setOld;have n5:=gr.cut;have n6:=gr.cut2;have n7:=gr.lo;have n8:=gr.at_;have n9:=gr.len
  have lo1:=gs.lo
  have cases_:=hE.keep hz
  have cased:=hE.drop hz
  rw[←hm]at cases_
  rw[←hm]
  generalize hτ:(σ.set o (.row 6 ((E).map Evt.r) g))=τ at he n1 n2 n3 n4 n5 n6 n7 n8 n9 gset hpE
  cases hb:qd4 G z with
  |true=>
   have e1:((D.take (j+1)).filter (qd4 G)).length=m+1:=by rw[qhq hz,List.filter_append,List.length_append,←hm];simp[hb]
   rw[hb]at he
   have gz:=gset z
   refine .inl ⟨E.set m z,?_,cases_ hb⟩
   rw[e1,←gz]
   rw[←gz]at lo1
   obtain⟨zt,zk,zl,zi,zp,za⟩:=z
   simp only[Evt.r]at lo1 he⊢
   simp only[qau,zgs,zgr,zgq,zgt,hzE,hem,hj,hj',hw,hwm,hmD,he,n1,n2,n3,n4,n6,n8,n9,lo1,hp,hol,Evt.r,Ev.ev1,Ev.stP,qb,Ev.AV.cells,Ev.AV.plain,ne_eq,zgy,↓qc,↓reduceIte,Nat.reduceAdd,Nat.reduceEqDiff,reduceCtorEq]
  |false=>
   have e1:((D.take (j+1)).filter (qd4 G)).length=m:=by rw[qhq hz,List.filter_append,List.length_append,←hm];simp[hb]
   rw[hb]at he
   refine .inl ⟨E,?_,cased hb⟩
   rw[e1,hτ]
   obtain⟨zt,zk,zl,zi,zp,za⟩:=z
   simp only[]at he⊢
   simp only[qau,zgs,zgr,zgq,zgt,hzE,hj,hj',hw,he,n1,n2,n5,n7,n8,n9,hp,hol,Evt.r,Ev.ev1,Ev.stP,qb,Ev.AV.cells,Ev.AV.plain,ne_eq,zgy,↓qc,↓reduceIte,Nat.reduceAdd,Nat.reduceEqDiff,reduceCtorEq]
 ·intro E hE
  have hk:=hE.kept
  have hle:=List.length_filter_le (qd4 G) D
  rw[List.take_length]at hk
  rw[List.take_length]
  simp only[qau,Int.lt_irrefl,Ev.ev1,zgy,↓qc,↓reduceIte,Nat.reduceEqDiff,reduceCtorEq]
  exact⟨_,rfl,E,hE.len,hk,hle,rfl,rfl,rfl,rfl,rfl⟩
theorem qak7 (H:GoneAt σ p G) (hn:σ.length=n) (hl:qct n σ=true) (hp:p<n) (hol:o<n) (hpo:¬p=o) (ho:σ[o]? = some (.row 6 (D.map Evt.r) g)) (hD:D.length≤1000000) (hk : ∀x∈D,x.key.length≤9223372036854775807) :
  ∃E:List Evt,(D.filter (qd4 G)).length≤E.length∧E.take (D.filter (qd4 G)).length=D.filter (qd4 G) ∧
   (evL T).call qam [.sl o g 0 D.length false,(.fn (.func qaa) [] [.ptr p 1 0 0])] σ=some (.sl o g 0 (D.filter (qd4 G)).length false,(σ.set o (.row 6 ((E).map Evt.r) g))):=by
 obtain⟨i,h1,h2⟩:=qae0 σ p o g G D H (by rw[hn];exact hl) (by omega) ho (by omega) hD hk
 have tl:List.take n σ=σ:=by rw[←hn];exact List.take_length
 have hset:σ.set o (.row 6 (D.map Evt.r) g)=σ:=by
  obtain⟨_,hx⟩:=zei.1 ho
  rw[←hx,List.set_getElem_self]
 rw[qe qjp qjd]
 rcases h2 with ⟨rfl,ha⟩|⟨j,z,rfl,hz,hb,ha⟩
 ·have e0:D.filter (qd4 G)=D:=List.filter_eq_self.2 (fun x hx=>List.all_eq_true.1 ha x hx)
  refine⟨D,by rw[e0];exact Nat.le_refl _,by rw[e0,List.take_length],?_⟩
  rw[e0,hset]
  simp only[qa8,h1,hl,hn,tl,ite_self,Ev.ev1,qh,zgy,↓qc,↓reduceIte,Nat.reduceAdd,Nat.reduceEqDiff,Int.reduceNeg,reduceCtorEq]
 ·have hlt:=(zei.1 hz).1
  obtain⟨d1,d2⟩:=DelInv.first hz hb ha
  obtain⟨⟨y,e,τ⟩,k1,E,k2,k3,k4,k5,k6,k7,k8,k9⟩:=delete_L σ p o g n G D H hn hl hp hol hpo hD hk (j+1) D (by omega) d1
  simp only at k5 k6 k7 k8 k9
  rw[d2,hset]at k1
  subst k5;subst k7
  have gr:=Grown.of (τ:=(σ.set o (.row 6 ((E).map Evt.r) g))) σ o g n hn hol hl E
  have hw:IntKind.i64.wrap ((j:Int)+1)=((j+1:Nat):Int):=by rw[qi (by omega) (by omega)];simp
  have hne:¬(j:Int) = -1:=by omega
  obtain⟨m,hm⟩ : ∃m,m=(D.filter (qd4 G)).length:=⟨_,rfl⟩
  rw[←hm]at k3 k4 k9⊢
  have c1:(0:Int)≤(m:Int):=Int.natCast_nonneg _
  have c2:(m:Int)≤(D.length:Int):=by omega
  have c3:m+(D.length-m)≤D.length:=by omega
  have hs:=gr.at_
  have hlen:(E.map Evt.r).length=D.length:=by rw[List.length_map];exact k2
  have c4:(0:Int)≤(D.length:Int):=Int.natCast_nonneg _
  have dn:List.drop (m+(D.length-m)) (E.map Evt.r)=[]:=List.drop_eq_nil_of_le (by omega)
  have hE2:(E.map Evt.r).take m++List.replicate (D.length-m) zEvt.r=(E.take m++List.replicate (D.length-m) zEvt).map Evt.r:=by rw[List.map_append,List.map_take,List.map_replicate]
  have n7:=gr.lo;have n9:=gr.len
  refine⟨E.take m++List.replicate (D.length-m) zEvt,by rw[List.length_append,List.length_take,List.length_replicate];omega,by rw[List.take_append_of_le_length (by rw[List.length_take];omega),List.take_take,Nat.min_self];exact k3,?_⟩
  rw[←hE2]
  have gset : ∀v:SObj,(σ.set o (.row 6 ((E).map Evt.r) g)).set o v=σ.set o v:=fun v=>by rw[List.set_set]
  have hss : ∀v:SObj,(σ.set o v)[o]? = some v:=fun v=>List.getElem?_set_self (by omega)
  have hts : ∀v:SObj,(σ.set o v).take n=σ.set o v:=fun v=>by rw[ztl (by rw[List.length_set];omega)]
  generalize (σ.set o (.row 6 ((E).map Evt.r) g))=τ at *
  simp only[zEvt_r]
  simp only[qa8,zgr,h1,hl,hn,tl,hne,hw,k1,k6,k8,k9,c1,c2,c3,hs,hlen,dn,gset,hss,hts,hp,hol,Int.le_refl,imp_self,Nat.sub_zero,ite_self,Ev.ev1,Ev.AV.plain,qh,zgy,implies_true,↓qc,↓qv,↓reduceIte,Nat.reduceAdd,Nat.reduceEqDiff,Int.reduceToNat,Int.reduceNeg,reduceCtorEq]
  done
end
set_option maxRecDepth 10000
def qn (l:List Evt):List AV:=[(.fsl ((l).map Evt.r) false)]
theorem qq9 (n:Nat) (l:List Evt):los n (qn l)=true:=by simp only[qn,los,AV.lo,qq,zfc]
theorem evtsC_pl (l:List Evt):(qn l).length=1∧qfx (qn l)=true:=⟨rfl,rfl⟩
theorem qcb (n:Nat) (l:List (List Evt)):qc5 n (l.map qn)=true:=qjy (qq9 n) l
theorem qalj (l:List (List Evt)):qcy 1 (l.map qn)=true:=qo9 evtsC_pl l
theorem grow_ev (n:Nat) (h:n≤1000000):(evL T).call qas [.fsl [] true,(ii n)] [] =
  if n=0 then some (.fsl [] true,[])else some (.sl 0 0 0 0 false,[.row 6 ((List.replicate n zEvt).map Evt.r) 0]):=by
 have c1:¬(n:Int)<0:=by omega
 have w:IntKind.i64.wrap ((n:Int)-((0:Nat):Int))=n:=by rw[qi (by omega) (by omega)];omega
 have w0:IntKind.i64.wrap 0=0:=rfl
 have w1:IntKind.i64.wrap ((n:Int)-0)=n:=by rw[qi (by omega) (by omega)];omega
 have ok:=qow (List.replicate n zEvt)
 rw[List.map_replicate]at ok⊢
 have b:n*64≤140737488355328:=by omega
 rw[qe qlr qln]
 by_cases h0:n=0
 ·subst h0
  rw[if_pos rfl]
  simp only[qbr,Int.lt_irrefl,w0,Int.sub_zero,gt_iff_lt,Ev.ev1,qh,zgy,↓qc,↓reduceIte,Nat.reduceAdd,Nat.reduceEqDiff,reduceCtorEq]
 ·have c2:(n:Int)>0:=by omega
  rw[if_neg h0]
  simp only[zEvt_r]at ok⊢
  simp only[qbr,zgr,c1,c2,w0,w1,ok,b,zgs,Nat.sub_zero,Int.le_refl,Ev.ev1,qh,zgy,implies_true,↓qc,↓reduceIte,Nat.reduceAdd,Nat.reduceEqDiff,Nat.reduceLT,Nat.reducePow,Int.reduceSub,Int.reduceToNat,reduceCtorEq]
set_option maxRecDepth 10000
section
variable (xs:List (List Evt)) (cl:Bool)
theorem q8y {xs:List (List Evt)} {i:Nat} {x:List Evt} (h:xs[i]? = some x):(xs.take (i+1)).flatten=(xs.take i).flatten++x:=by rw[qhq h,List.flatten_append];simp
theorem qals (xs:List (List Evt)) (i:Nat):(xs.take i).flatten.length≤xs.flatten.length:=by
 have:xs.flatten=(xs.take i).flatten++(xs.drop i).flatten:=by rw[←List.flatten_append,List.take_append_drop]
 rw[this,List.length_append];omega
theorem qalc (hx:xs.length≤1000000) (hT:xs.flatten.length≤1000000) :
  ∃y,itB (exec (evL T) itL none qbf) (qai [0,3,9,10,11] true 0) ⟨[(0,(.fsl ((xs).map qn) cl)),(3,(ii 0)),(9,(.fsl ((xs).map qn) cl)),(10,(ii xs.length)),(11,(ii 0))],[]⟩ []=some y ∧
   y.1 = .exit 0∧y.2.1.marks=[]∧y.2.2=[]∧Ev.look y.2.1.vars 0=some (.fsl ((xs).map qn) cl)∧Ev.look y.2.1.vars 3=some (ii xs.flatten.length):=by
 have key:=qg5 (f:=exec (evL T) itL none qbf) (s:=qai [0,3,9,10,11] true 0) (α:=Unit)
  (fun i _=>⟨[(0,(.fsl ((xs).map qn) cl)),(3,(ii ((xs.take i).flatten.length))),(9,(.fsl ((xs).map qn) cl)),(10,(ii xs.length)),(11,(ii i))],[]⟩) (fun _ _=>[])
  (fun _ _=>True) xs.length (fun y=>y.1 = .exit 0∧y.2.1.marks=[]∧y.2.2=[]∧Ev.look y.2.1.vars 0=some (.fsl ((xs).map qn) cl)∧Ev.look y.2.1.vars 3=some (ii xs.flatten.length)) ?_ ?_ 0 () (Nat.zero_le _) trivial
 ·exact key
 ·rintro i _ hi _
  obtain⟨x,hx'⟩ : ∃x,xs[i]? = some x:=⟨_,zgE hi⟩
  have hi':(i:Int)<(xs.length:Int):=by omega
  have hw:IntKind.i64.wrap ((i:Int)+1)=((i+1:Nat):Int):=by rw[qi (by omega) (by omega)];simp
  have h1:=qals xs (i+1)
  rw[q8y hx',List.length_append]at h1
  have h2:IntKind.i64.wrap (((xs.take i).flatten.length:Int)+(x.length:Int))=(((xs.take i).flatten.length+x.length:Nat):Int):=qoy (by omega)
  refine .inl ⟨(),?_,trivial⟩
  rw[q8y hx',List.length_append]
  generalize (xs.take i).flatten.length=m at h2 h1⊢
  have h3:¬((m+x.length:Nat):Int)<0:=by omega
  simp only[qbf,zgs,zgr,zgq,zgt,hx',hi',hw,h2,h3,qn,qcb,Ev.ev1,qb,zgy,↓qc,↓reduceIte,Nat.reduceEqDiff,reduceCtorEq]
 ·rintro _ _
  simp only[qbf,Int.lt_irrefl,List.take_length,Ev.ev1,zgy,↓qc,↓reduceIte,Nat.reduceEqDiff,reduceCtorEq]
  exact⟨_,rfl,rfl,rfl,rfl,rfl,rfl⟩
def CInv (xs:List (List Evt)) (i:Nat) (a:AV×qf):Prop:=
 (i=0∧xs.flatten.length=0∧a=(.fsl [] true,[])) ∨
 ∃(g:Nat) (W:List Evt),a=(.sl 0 g 0 (xs.take i).flatten.length false,[.row 6 (W.map Evt.r) g])∧(W=(xs.take i).flatten∨(xs.take i).flatten=[]∧0<xs.flatten.length)
theorem qakh (hx:xs.length≤1000000) (hT:xs.flatten.length≤1000000) (a:AV×qf) (ha:CInv xs 0 a) (n:Nat) :
  ∃y,itB (exec (evL T) itL none qaq) (qai [6,25,26,27] false n) ⟨[(6,a.1),(25,(.fsl ((xs).map qn) cl)),(26,(ii xs.length)),(27,(ii 0))],[]⟩ a.2=some y ∧
   ∃b,CInv xs xs.length b∧y.1 = .exit 2∧y.2.1.marks=[]∧y.2.2=b.2∧Ev.look y.2.1.vars 6=some b.1:=by
 have key:=qg5 (f:=exec (evL T) itL none qaq) (s:=qai [6,25,26,27] false n) (α:=AV×qf)
  (fun i a=>⟨[(6,a.1),(25,(.fsl ((xs).map qn) cl)),(26,(ii xs.length)),(27,(ii i))],[]⟩) (fun _ a=>a.2)
  (fun i a=>CInv xs i a) xs.length (fun y => ∃b,CInv xs xs.length b∧y.1 = .exit 2∧y.2.1.marks=[]∧y.2.2=b.2∧Ev.look y.2.1.vars 6=some b.1) ?_ ?_ 0 a (Nat.zero_le _) ha
 ·exact key
 ·rintro i a hi ha
  obtain⟨x,hx'⟩ : ∃x,xs[i]? = some x:=⟨_,zgE hi⟩
  have hi':(i:Int)<(xs.length:Int):=by omega
  have hw:IntKind.i64.wrap ((i:Int)+1)=((i+1:Nat):Int):=by rw[qi (by omega) (by omega)];simp
  have h1:=qals xs (i+1)
  have hfl:=q8y hx'
  rw[hfl,List.length_append]at h1
  have ok:=qow x
  rcases ha with ⟨hi0,h0,rfl⟩|⟨g,W,rfl,hW⟩
  ·have hfi:(xs.take i).flatten=[]:=by rw[hi0];rfl
   have hx0:x=[]:=List.eq_nil_of_length_eq_zero (by omega)
   subst hx0
   refine .inl ⟨(.sl 0 0 0 0 false,[.row 6 [] 0]),?_,.inr ⟨0,[],?_,.inl ?_⟩⟩
   ·simp only[qaq,zgs,zgr,zgq,zgt,hx',hi',hw,qn,List.map_nil,Nat.zero_mul,Nat.zero_le,Ev.ev1,q3t,qb,qdj,ne_eq,zgy,↓qc,↓reduceIte,Nat.reduceEqDiff,Nat.reduceLT,Nat.reducePow]
   ·rw[hfl,hfi];simp
   ·rw[hfl,hfi];simp
  ·by_cases hx0:x=[]
   ·subst hx0
    rw[List.append_nil]at hfl
    refine .inl ⟨(.sl 0 g 0 (xs.take i).flatten.length false,[.row 6 (W.map Evt.r) g]),?_,.inr ⟨g,W,by rw[hfl],by rw[hfl];exact hW⟩⟩
    have hWl:(xs.take i).flatten.length≤W.length:=by
     rcases hW with rfl|⟨h,_⟩
     ·exact Nat.le_refl _
     ·rw[h];exact Nat.zero_le _
    have b:(xs.take i).flatten.length*64≤140737488355328:=by have:=h1;simp at this;omega
    simp only[qaq,zgs,zgr,zgq,zgt,hx',hi',hw,qn,List.map_nil,hWl,b,Ev.ev1,q3t,qb,qdj,zgy,↓qc,↓reduceIte,Nat.reduceEqDiff,Nat.reducePow]
   ·have hWl:(xs.take i).flatten.length≤W.length∧W.take (xs.take i).flatten.length=(xs.take i).flatten:=by
     rcases hW with rfl|⟨h,_⟩
     ·exact⟨Nat.le_refl _,List.take_length⟩
     ·rw[h];exact⟨Nat.zero_le _,rfl⟩
    obtain⟨w1,w2⟩:=hWl
    have hm:x.map Evt.r ≠ []:=by simpa using hx0
    have w3:(W.map Evt.r).take (xs.take i).flatten.length=((xs.take i).flatten).map Evt.r:=by rw[←List.map_take,w2]
    have b:((xs.take i).flatten.length+x.length)*64≤140737488355328:=by omega
    refine .inl ⟨(.sl 0 (g+1) 0 ((xs.take i).flatten.length+x.length) false,[.row 6 (((xs.take i).flatten++x).map Evt.r) (g+1)]),?_,.inr ⟨g+1,_,by rw[hfl,List.length_append],.inl hfl.symm⟩⟩
    rw[List.map_append]
    generalize (xs.take i).flatten=F at *
    simp only[qaq,zgs,zgr,zgq,zgt,hx',hi',hw,qn,ok,hm,w1,w3,b,Ev.ev1,q3t,qb,qdj,zgy,↓qc,↓reduceIte,Nat.reduceEqDiff,Nat.reducePow]
 ·rintro a ha
  simp only[qaq,Int.lt_irrefl,Ev.ev1,zgy,↓qc,↓reduceIte,Nat.reduceEqDiff]
  exact⟨_,rfl,a,ha,rfl,rfl,rfl,rfl⟩
theorem qvu (hx:xs.length≤1000000) (hT:xs.flatten.length≤1000000) (hne:xs ≠ []) :
  ∃g:Nat,(evL T).call qg [(.fsl ((xs).map qn) cl)] []=some (.sl 0 g 0 xs.flatten.length false,[.row 6 (xs.flatten.map Evt.r) g]):=by
 obtain⟨⟨y,e,σ⟩,k1,k2,k3,k4,k5,k6⟩:=qalc xs cl hx hT
 simp only at k1 k2 k3 k4 k5 k6
 subst k2;subst k4
 have hg:=grow_ev xs.flatten.length hT
 obtain⟨a,n,ha,hc,hn⟩ : ∃(a:AV×qf) (n:Nat),CInv xs 0 a∧(evL T).call qas [.fsl [] true,(ii xs.flatten.length)] []=some a∧a.2.length=n:=by
  by_cases h0:xs.flatten.length=0
  ·exact⟨_,_,.inl ⟨rfl,h0,rfl⟩,by rw[hg,if_pos h0],rfl⟩
  ·exact⟨(.sl 0 0 0 0 false,[.row 6 ((List.replicate xs.flatten.length zEvt).map Evt.r) 0]),_,.inr ⟨0,_,rfl,.inr ⟨rfl,by omega⟩⟩,by rw[hg,if_neg h0],rfl⟩
 obtain⟨⟨y',e',σ'⟩,l1,b,hb,l2,l3,l4,l5⟩:=qakh xs cl hx hT a ha n
 simp only at l1 l2 l3 l4 l5
 subst l2;subst l4
 have hb' : ∃g:Nat,b=(.sl 0 g 0 xs.flatten.length false,[.row 6 (xs.flatten.map Evt.r) g]):=by
  rcases hb with ⟨h,_⟩|⟨g,W,rfl,hW⟩
  ·exact absurd (List.eq_nil_of_length_eq_zero h) hne
  ·rw[List.take_length]at hW⊢
   rcases hW with rfl|⟨h,h2⟩
   ·exact⟨g,rfl⟩
   ·rw[h]at h2;simp at h2
 obtain⟨g,rfl⟩:=hb'
 refine⟨g,?_⟩
 have himp:qio (q1x 0) a.2=some a.2∧a.1.shift 0=a.1:=by
  rcases ha with ⟨_,_,rfl⟩|⟨g,W,rfl,_⟩
  ·exact⟨rfl,rfl⟩
  ·refine⟨?_,rfl⟩
   simp only[q1x,qu4,q7t,qkn,qq,q1x,zgy,↓qc]
 obtain⟨i1,i2⟩:=himp
 rw[qe qky qkp]
 simp only[qcq,k1,k3,k5,k6,hc,hn,i1,i2,l1,l3,l5,qcb,Ev.ev1,qh,zgy,↓qc,↓qv,↓reduceIte,Nat.reduceEqDiff,Nat.reduceLT,reduceCtorEq]
theorem qabo (cl:Bool):(evL T).call qg [.fsl [] cl] []=some (.fsl [] true,[]):=by
 cases cl
 ·exact q7c 6 (by kernel_rfl)
 ·exact q7c 6 (by kernel_rfl)
end
set_option maxRecDepth 10000
section
variable (l:List Evt) (c:Bool) (k:List Int) (d:Bool)
theorem qaih (x:Evt) (kx:x.key.length≤9223372036854775807) (kk:k.length≤9223372036854775807):(evL T).call qdv [(.agg [(ii x.time),(.fsl ((x.key).map qa0) false),(ii x.lp),(ii x.kind),(ii x.proc),(ii x.arg)]),(.fptr [(.fsl ((k).map qa0) d)])] []=some ((bb (decide (x.key=k))),[]):=by
 have h:=qrt x.key k false d kx kk
 obtain⟨xt,xk,xl,xi,xp,xa⟩:=x
 simp only at h
 rw[qe qz5 qx6]
 simp only[qmc,h,qm,Ev.ev1,qb,Ev.AV.cells,Ev.AV.plain,qh,ne_eq,zgy,↓qc,↓reduceIte,Nat.reduceAdd,Nat.reduceEqDiff,reduceCtorEq]
theorem canIdx_L (hl:l.length≤1000000) (hk:qc4 l) (kk:k.length≤9223372036854775807) :
  ∃y,itB (exec (evL T) itL none qk) (qai [0,1,7,8] true 0) ⟨[(0,(.fsl ((l).map Evt.r) c)),(1,(.fn (.func qdv) [] [(.fptr [(.fsl ((k).map qa0) d)])])),(7,(ii l.length)),(8,(ii 0))],[]⟩ []=some y ∧
   ((y.1 = .exit 0∧y.2.1.marks=[]∧y.2.2=[]∧qiw l k=(l,false)) ∨
    ∃(i:Nat) (x:Evt),y.1 = .ret∧y.2.1.marks=[]∧y.2.2=[]∧Ev.look y.2.1.vars 4=some (ii i)∧l[i]? = some x∧qiw l k=(l.take i++l.drop (i+1),true)):=by
 have key:=qg5 (f:=exec (evL T) itL none qk) (s:=qai [0,1,7,8] true 0) (α:=Unit)
  (fun i a=>⟨[(0,(.fsl ((l).map Evt.r) c)),(1,(.fn (.func qdv) [] [(.fptr [(.fsl ((k).map qa0) d)])])),(7,(ii l.length)),(8,(ii i))],[]⟩) (fun i a=>[])
  (fun i a => ∀(j:Nat) (z:Evt),j<i→l[j]? = some z→¬z.key=k) l.length
  (fun y=>((y.1 = .exit 0∧y.2.1.marks=[]∧y.2.2=[]∧qiw l k=(l,false)) ∨
    ∃(i:Nat) (x:Evt),y.1 = .ret∧y.2.1.marks=[]∧y.2.2=[]∧Ev.look y.2.1.vars 4=some (ii i)∧l[i]? = some x∧qiw l k=(l.take i++l.drop (i+1),true))) ?_ ?_ 0 () (Nat.zero_le _) (fun j z h=>by omega)
 ·exact key
 ·rintro i _ hi hinv
  obtain⟨x,hx⟩ : ∃x,l[i]? = some x:=⟨_,zgE hi⟩
  have hi':(i:Int)<(l.length:Int):=by omega
  have hw:IntKind.i64.wrap ((i:Int)+1)=((i+1:Nat):Int):=qpo (by omega)
  have hc:=qaih k d x (hk x (zmg hx)) kk
  by_cases hxk:x.key=k
  ·have hE:=qaku l k hx hxk hinv
   rw[decide_eq_true hxk]at hc
   refine .inr ?_
   generalize qiw l k=R at *
   have hx':=hx
   clear hinv hxk
   obtain⟨xt,xk,xl,xi,xp,xa⟩:=x
   simp only at hc
   simp only[qk,zgs,zgr,zgq,zgt,hx,hi',hc,Evt.r,Ev.ev1,qb,zgy,↓qc,↓reduceIte,Nat.reduceAdd,Nat.reduceEqDiff,reduceCtorEq]
   exact⟨_,rfl,.inr ⟨i,_,rfl,rfl,rfl,rfl,hx',hE⟩⟩
  ·refine .inl ⟨(),?_,fun j z hj hz => ?_⟩
   ·rw[decide_eq_false hxk]at hc
    clear hinv
    obtain⟨xt,xk,xl,xi,xp,xa⟩:=x
    simp only at hc
    simp only[qk,zgs,zgr,zgq,zgt,hx,hi',hw,hc,Evt.r,qq,qm,Ev.ev1,qb,zgy,↓qc,↓reduceIte,Nat.reduceAdd,Nat.reduceEqDiff,reduceCtorEq]
   ·rcases Nat.lt_or_ge j i with h1|h1
    ·exact hinv j z h1 hz
    ·have:j=i:=by omega
     subst this
     rw[hx]at hz;cases hz;exact hxk
 ·rintro _ hinv
  have hE:=qaf8 l k fun x hx=>by
   obtain⟨j,hj⟩:=List.mem_iff_getElem?.1 hx
   exact hinv j x (zei.1 hj).1 hj
  generalize qiw l k=R at *
  simp only[qk,Int.lt_irrefl,Ev.ev1,zgy,↓qc,↓reduceIte,Nat.reduceEqDiff,reduceCtorEq]
  exact⟨_,rfl,.inl ⟨rfl,rfl,rfl,hE⟩⟩
theorem qakp (hl:l.length≤1000000) (hk:qc4 l) (kk:k.length≤9223372036854775807) :
  ∃z:Int,(evL T).call qw [(.fsl ((l).map Evt.r) c),(.fn (.func qdv) [] [(.fptr [(.fsl ((k).map qa0) d)])])] []=some ((ii z),[])∧((z = -1∧qiw l k=(l,false)) ∨ ∃(i:Nat) (x:Evt),z=i∧l[i]? = some x∧qiw l k=(l.take i++l.drop (i+1),true)):=by
 obtain⟨⟨y,e,σ⟩,h1,h⟩:=canIdx_L l c k d hl hk kk
 rw[qe qfn qfa]
 rcases h with ⟨h2,h3,h4,h5⟩|⟨i,x,h2,h3,h4,h5,h6,h7⟩<;>simp only at h2 h3 h4<;>subst h2<;>subst h4
 ·refine⟨-1,?_,.inl ⟨rfl,h5⟩⟩
  simp only[qar,h1,h3,qq,qm,Ev.ev1,qh,zgy,↓qc,↓qv,↓reduceIte,Nat.reduceAdd,Nat.reduceEqDiff,Int.reduceNeg,reduceCtorEq]
 ·refine⟨i,?_,.inr ⟨i,x,rfl,h6,h7⟩⟩
  simp only at h5
  simp only[qar,h1,h3,h5,qq,qm,Ev.ev1,qh,zgy,↓qc,↓qv,↓reduceIte,Nat.reduceAdd,Nat.reduceEqDiff,Int.reduceNeg,reduceCtorEq]
theorem q4m (hl:l.length≤1000000) (hk:qc4 l) (kk:k.length≤9223372036854775807) (hc0:l ≠ []→c=false) :
  ∃cf:Bool,((qiw l k).1 ≠ []→cf=false)∧qac (evL T) qh7 [(.fsl ((l).map Evt.r) c),(.fsl ((k).map qa0) d)]=some (.tup [(.fsl (((qiw l k).1).map Evt.r) cf),(bb ((qiw l k).2))]):=by
 obtain⟨z,h1,h⟩:=qakp l c k false hl hk kk
 rcases h with ⟨rfl,h2⟩|⟨i,x,rfl,hx,h2⟩
 ·rw[h2]
  refine⟨c,hc0,?_⟩
  rw[qac,qe qtx qrs]
  simp only[qls,h1,qq,Ev.ev1,Ev.AV.cells,Ev.AV.uc,Ev.AV.plain,qh,ne_eq,zgy,↓qc,↓reduceIte,Nat.reduceAdd,Nat.reduceEqDiff,Int.reduceLT,Int.reduceNeg,reduceCtorEq]
 ·rw[h2]
  obtain⟨hi,_⟩:=zei.1 hx
  obtain rfl:c=false:=hc0 (by intro h;subst h;simp at hi)
  refine⟨false,fun _=>rfl,?_⟩
  have c0:¬(i:Int)<0:=by omega
  have c1:(i:Int)≤(l.length:Int):=by omega
  have c2:(0:Int)≤(i:Int):=by omega
  have c3:((i+1:Nat):Int)≤(l.length:Int):=by omega
  have c4:(0:Int)≤((i+1:Nat):Int):=by omega
  have hw:IntKind.i64.wrap ((i:Int)+1)=((i+1:Nat):Int):=qpo (by omega)
  obtain⟨g,hcc⟩:=qvu [l.take i,l.drop (i+1)] true (by simp) (by simp;omega) (by simp)
  simp only[List.flatten_cons,List.flatten_nil,zgn,List.map_cons,List.map_nil,qn]at hcc
  have tk:List.take i (l.map Evt.r)=(l.take i).map Evt.r:=by rw[List.map_take]
  have dr:List.drop (i+1) (l.map Evt.r)=(l.drop (i+1)).map Evt.r:=by rw[List.map_drop]
  have tb:List.take (l.length-(i+1)) ((l.drop (i+1)).map Evt.r)=(l.drop (i+1)).map Evt.r:=ztl (by simp)
  have okl:=qow l
  have htk : ∀R:List Evt,(R.map Evt.r).take R.length=R.map Evt.r:=fun R=>ztl (by simp)
  have htk2:List.take ((l.take i).length+(l.drop (i+1)).length) ((l.take i++l.drop (i+1)).map Evt.r)=(l.take i++l.drop (i+1)).map Evt.r:=ztl (by rw[List.length_map,List.length_append];exact Nat.le_refl _)
  rw[qac,qe qtx qrs]
  simp only[qls,zgr,h1,htk2,c0,c1,c2,c3,c4,hw,hcc,tk,dr,tb,okl,Int.le_refl,Nat.sub_zero,zgg,imp_self,show ∀v:List AV,List.replicate 2 v=[v,v] from fun _=>rfl,Int.toNat_zero,qq,Ev.ev1,q1x,Ev.AV.cells,Ev.AV.uc,Ev.AV.plain,qh,ne_eq,zgy,implies_true,↓qc,↓reduceIte,Nat.reduceAdd,Nat.reduceEqDiff,Nat.reduceMul,Nat.reduceLT,Nat.reduceLeDiff,Nat.reducePow,reduceCtorEq]
end
set_option maxRecDepth 10000
section
variable {c:Cfg} {s:Sim} {h:List Evt}
theorem q43 (h:List Evt) (e:Evt) (i:Nat):qbc (h++[e]) i=if e.lp=i then qbc h i++[e]else qbc h i:=by
 unfold qbc
 rw[List.filter_append,List.filter_cons,List.filter_nil]
 by_cases k:e.lp=i
 ·rw[if_pos k,if_pos (by simpa using k)]
 ·rw[if_neg k,if_neg (by simpa using k),List.append_nil]
theorem badP_iff {c:Cfg} {q:Pr} (h:badP c q=false):0≤q.prog∧q.prog<c.progs.length∧0≤q.pc∧q.pc≤((c.progs[q.prog.toNat]?).getD []).length:=by
 simp only[badP,Bool.not_eq_false',Bool.and_eq_true,decide_eq_true_eq]at h
 omega
theorem SInvK.stepP (H:SInvK c s h) {e:Evt} {rest P T:List Evt} (ov:Bool) (hp:s.pend.Perm (e::rest)) (hn:h.length≤20000) (hP:(P++T).Perm (rest++(qa1 c (lpAt s e.lp) e).out)) :
  SInvK c ⟨s.trace.set e.lp.toNat (qiu s e.lp++[e]),s.lps.set e.lp.toNat (qa1 c (lpAt s e.lp) e).lp,P,s.n+1,ov⟩ (h++[e]):=by
 have hme:e∈s.pend:=hp.mem_iff.2 (by simp)
 obtain⟨x,hx,hlx,R⟩:=H.headM hme hn
 have hkn:=H.keyNeP hp hn
 have ge:=H.ev e (List.mem_append_right _ hme)
 have hxl:=H.lp x (zmg hx)
 obtain⟨X,oX,o1,o2⟩:=R.outs
 obtain⟨z1,_,z3,_,_,_⟩:=R.sizes
 obtain⟨t1,t2⟩:=R.tims (B:=2+(h.length+1)) (by have:=ge.key;omega) (fun q hq=>by have:=(hxl.2 q hq).2.2.2.2;omega)
 obtain⟨st1,st2⟩:=R.state
 rw[hlx]at hkn hP
 have hmem : ∀b,b∈P→b∈rest∨b∈(qa1 c x e).out:=fun b hb=>List.mem_append.1 (hP.mem_iff.1 (List.mem_append_left _ hb))
 have hlpn:e.lp.toNat<c.lps.length:=by have:=ge.lp;omega
 have hout : ∀b∈(qa1 c x e).out,∃k,EvOk c e X k b:=fun b hb=>by
  obtain⟨k,hk⟩:=List.mem_iff_getElem?.1 hb
  exact⟨k,o1 k b hk⟩
 have rpe : ∀b∈rest,b∈s.pend:=fun b hb=>hp.mem_iff.2 (List.mem_cons_of_mem _ hb)
 have rev : ∀b∈rest,b∈h++s.pend:=fun b hb=>List.mem_append_right _ (rpe b hb)
 have evOut : ∀b∈(qa1 c x e).out,EvG c (h.length+1) b:=fun b hb=>by
  obtain⟨k,a1,⟨m,hm,_⟩,a3,a4⟩:=hout b hb
  obtain⟨u1,u2⟩:=t1 b hb
  have hkl:b.key.length=e.key.length+1:=by rw[hm];simp
  by_cases k3:b.kind=3
  ·obtain⟨c1,c2,_⟩:=a3 k3
   exact⟨⟨c1,c2⟩,by have:=ge.time;omega,by have:=ge.key;omega,by rw[u1 k3];omega,fun k2=>by omega⟩
  ·obtain⟨c1,c2,c3,c4⟩:=a4 k3
   rw[oX]at c3
   refine⟨by rw[c1];exact ge.lp,by have:=ge.time;omega,by have:=ge.key;omega,by omega,fun k2 => ?_⟩
   obtain⟨q,p,_,hpp,_,d1,d2⟩:=u2 k2
   have:=(H.valid.prog p (zmg hpp)).2.1
   omega
 have newProg : ∀(j:Nat) (q:Pr),x.procs[j]? = some q → ∃q',(qa1 c x e).lp.procs[j]? = some q'∧q'.prog=q.prog:=fun j q hq=>by
  have hj:=(zei.1 hq).1
  obtain⟨q',hq'⟩ : ∃q',(qa1 c x e).lp.procs[j]? = some q':=⟨_,zgE (by omega)⟩
  exact⟨q',hq',((st2 j q' hq').2.2 q hq).1⟩
 have setSelf:(s.lps.set e.lp.toNat (qa1 c x e).lp)[e.lp.toNat]? = some (qa1 c x e).lp:=List.getElem?_set_self (by rw[H.lpl];exact hlpn)
 rw[hlx]
 refine⟨H.valid,by show s.n+1 = _;rw[H.n];simp,by show (s.trace.set _ _).length = _;rw[List.length_set];exact H.trl,?_,by show (s.lps.set _ _).length = _;rw[List.length_set];exact H.lpl,?_,?_,?_,?_,?_,?_,?_,?_⟩
 ·intro i hi
  show (s.trace.set e.lp.toNat (qiu s e.lp++[e]))[i]? = _
  rw[q43]
  by_cases k:e.lp=i
  ·have:e.lp.toNat=i:=by omega
   rw[if_pos k,this,List.getElem?_set_self (by rw[H.trl];exact hi)]
   unfold qiu
   rw[this,H.tr i hi];rfl
  ·rw[if_neg k,List.getElem?_set_ne (by have:=ge.lp;omega)];exact H.tr i hi
 ·intro y hy
  rw[List.length_append]
  rcases List.mem_or_eq_of_mem_set hy with hy|rfl
  ·have:=H.lp y hy
   exact⟨this.1,fun q hq=>by obtain⟨a,b,d,f,g⟩:=this.2 q hq;exact⟨a,b,d,f,by omega⟩⟩
  ·refine⟨z1,fun q hq => ?_⟩
   obtain⟨j,hj⟩:=List.mem_iff_getElem?.1 hq
   obtain⟨a,b,d,f⟩:=badP_iff (st2 j q hj).1
   exact⟨a,b,d,f,t2 q hq⟩
 ·show qlo ((h++[e])++P)
  have:=qlo.perm hkn (hP.append_left (h++[e]))
  exact List.Pairwise.sublist ((List.sublist_append_left P T).append_left _) this
 ·intro b hb
  rw[List.length_append]
  rcases List.mem_append.1 hb with hb|hb
  ·refine(H.ev b ?_).mono (by simp)
   rcases List.mem_append.1 hb with hb|hb
   ·exact List.mem_append_left _ hb
   ·rw[List.mem_singleton]at hb;subst hb;exact List.mem_append_right _ hme
  ·rcases hmem b hb with hb|hb
   ·exact(H.ev b (rev b hb)).mono (by simp)
   ·exact evOut b hb
 ·intro b hb hk
  show ∃x' q p,(s.lps.set e.lp.toNat (qa1 c x e).lp)[b.lp.toNat]? = some x' ∧ _
  rcases hmem b hb with hb|hb
  ·obtain⟨x',q,p,h1,h2,h3,h4⟩:=H.tim b (rpe b hb) hk
   by_cases k:e.lp.toNat=b.lp.toNat
   ·rw[←k]at h1;rw[hx]at h1;cases h1
    obtain⟨q',g1,g2⟩:=newProg _ q h2
    exact⟨_,q',p,by rw[←k];exact setSelf,g1,by rw[g2];exact h3,h4⟩
   ·exact⟨x',q,p,by rw[List.getElem?_set_ne k];exact h1,h2,h3,h4⟩
  ·obtain⟨k,_,_,_,a4⟩:=hout b hb
   obtain⟨c1,_⟩:=a4 (by omega)
   obtain⟨q,p,g1,g2,g3,g4⟩:=(t1 b hb).2 hk
   obtain⟨q',g5,g6⟩:=newProg _ q g1
   exact⟨_,q',p,by rw[c1];exact setSelf,by rw[g3];exact g5,by rw[g6];exact g2,g4⟩
 ·intro b hb
  have old:b∈h++s.pend→b.key.length=2 ∨ ∃p∈h++[e],∃m,b.key=p.key++[m]∧p.time<b.time:=fun hb=>by
   rcases H.par b hb with g|⟨p,g1,g2⟩
   ·exact .inl g
   ·exact .inr ⟨p,List.mem_append_left _ g1,g2⟩
  rcases List.mem_append.1 hb with hb|hb
  ·refine old ?_
   rcases List.mem_append.1 hb with hb|hb
   ·exact List.mem_append_left _ hb
   ·rw[List.mem_singleton]at hb;subst hb;exact List.mem_append_right _ hme
  ·rcases hmem b hb with hb|hb
   ·exact old (rev b hb)
   ·obtain⟨k,a1,⟨m,hm,_⟩,_⟩:=hout b hb
    exact .inr ⟨e,by simp,m,hm,a1.1⟩
 ·show P.length ≤ _
  have h1:=hP.length_eq
  have h2:=H.len
  rw[hp.length_eq]at h2
  simp only[zgp,zga,zgb]at h1 h2⊢
  omega
 ·intro i hi
  show (s.lps.set e.lp.toNat (qa1 c x e).lp)[i]? = _
  rw[q43]
  by_cases k:e.lp=i
  ·have hki:e.lp.toNat=i:=by omega
   have hr:=H.rep i hi
   rw[←hki,hx,hki]at hr
   rw[if_pos k]
   unfold qakr at hr⊢
   rw[List.foldl_append,List.foldl_cons,List.foldl_nil,←Option.some.inj hr]
   have:=setSelf;rw[hki]at this ⊢;exact this
  ·rw[if_neg k,List.getElem?_set_ne (by have:=ge.lp;omega)];exact H.rep i hi
 ·intro i hi k b hb
  rw[q43]at hb⊢
  by_cases hl:e.lp=i
  ·rw[if_pos hl]at hb⊢
   by_cases hk:k<(qbc h i).length
   ·rw[List.getElem?_append_left hk]at hb
    rw[List.take_append_of_le_length (by omega)]
    exact H.rdy i hi k b hb
   ·have hk2:=(zei.1 hb).1
    simp at hk2
    obtain rfl:k=(qbc h i).length:=by omega
    simp at hb
    subst hb
    rw[List.take_append_of_le_length (Nat.le_refl _),List.take_length]
    have hr:=H.rep i hi
    have hki:e.lp.toNat=i:=by omega
    rw[←hki,hx,hki]at hr
    rw[←Option.some.inj hr]
    exact R
  ·rw[if_neg hl]at hb⊢
   exact H.rdy i hi k b hb
theorem SInv.step (H:SInv c s h) {e:Evt} {rest:List Evt} (hp:s.pend=e::rest) (hn:h.length≤20000) (hf:e.time<c.fin):SInv c (s.step c e rest) (h++[e]):=by
 obtain⟨x,hx,hlx,R⟩:=H.head hp hn
 obtain⟨X,oX,o1,o2⟩:=R.outs
 have hP : ∃T,(sortL ((rest++(qa1 c (lpAt s e.lp) e).out).filter (qd4 (qa1 c (lpAt s e.lp) e).gone))++T).Perm (rest++(qa1 c (lpAt s e.lp) e).out):=
  ⟨_,((qdd _).append_right _).trans (List.filter_append_perm _ _)⟩
 obtain⟨T,hT⟩:=hP
 refine⟨H.toSInvK.stepP _ (by rw[hp]) hn hT,qhm _,?_,?_,?_⟩
 ·rw[List.pairwise_append]
  exact⟨H.ord,List.pairwise_singleton _ _,fun a ha b hb=>by rw[List.mem_singleton]at hb;subst hb;exact H.ord2 a ha b (by rw[hp];simp)⟩
 ·intro a ha b hb
  have hb':b∈rest∨b∈(qa1 c x e).out:=by
   rw[←hlx];exact List.mem_append.1 (hT.mem_iff.1 (List.mem_append_left _ hb))
  have lee:leE e b:=by
   rcases hb' with hb|hb
   ·have:=H.sorted;rw[hp,List.pairwise_cons]at this;exact this.1 b hb
   ·obtain⟨k,hk⟩:=List.mem_iff_getElem?.1 hb;exact leE_time (o1 k b hk).1.1
  rcases List.mem_append.1 ha with ha|ha
  ·exact qox a e b (H.ord2 a ha e (by rw[hp];simp)) lee
  ·rw[List.mem_singleton]at ha;subst ha;exact lee
 ·intro a ha
  rcases List.mem_append.1 ha with ha|ha
  ·exact H.fin a ha
  ·rw[List.mem_singleton]at ha;subst ha;exact hf
end
set_option maxRecDepth 10000
theorem qae8 (lps:List (List Start)):qlo (ql7 lps):=by
 have ne : ∀ {k k' i i':Nat} {s s':Start},(qme k i s).key=(qme k' i' s').key→k=k'∧i=i':=by
  intro k k' i i' s s' h
  simp only[qme,List.cons.injEq,and_true]at h
  omega
 unfold qlo ql7
 rw[List.pairwise_flatten]
 constructor
 ·intro r hr
  obtain⟨k,hk⟩:=List.mem_iff_getElem?.1 hr
  rw[List.getElem?_mapIdx]at hk
  cases hl:lps[k]? with
  |none=>rw[hl]at hk;cases hk
  |some l=>
   rw[hl]at hk;cases hk
   rw[List.pairwise_iff_getElem]
   intro i j hi hj hij h
   simp only[qnj,List.getElem_mapIdx]at h
   have:=(ne h).2;omega
 ·rw[List.pairwise_iff_getElem]
  intro k k' hk hk' hkk x hx y hy h
  simp only[List.getElem_mapIdx]at hx hy
  obtain⟨i,s,_,rfl⟩:=qu0 hx
  obtain⟨i',s',_,rfl⟩:=qu0 hy
  have:=(ne h).1;omega
section
variable {c:Cfg}
theorem q8d (c:Cfg):(start c).lps=(qadb c.lps).map fun ps=>(⟨0,0,ps,0⟩:Lp):=by
 simp only[start,qib,List.map_map];rfl
theorem SInv.start (hv:Valid c):SInv c (start c) []:=by
 have hm : ∀e∈sortL (ql7 c.lps),e∈ql7 c.lps:=fun e he=>(qdd _).mem_iff.1 he
 have hv1:=hv.lps
 refine⟨⟨hv,rfl,by simp[K.start],fun i hi => ?_,by rw[q8d];simp[qadb],?_,?_,?_,?_,?_,?_,?_,fun i hi k e he=>by simp[qbc]at he⟩,qhm _,.nil,fun a ha=>by simp at ha,fun e he=>by simp at he⟩
 ·simp[K.start,qbc,hi]
 ·intro x hx
  rw[q8d,List.mem_map]at hx
  obtain⟨ps,hps,rfl⟩:=hx
  simp only[qadb,List.mem_map]at hps
  obtain⟨l,hl,rfl⟩:=hps
  refine⟨by have:=hv.lp l hl;simp;omega,fun q hq => ?_⟩
  simp only[List.mem_map]at hq
  obtain⟨st,hst,rfl⟩:=hq
  obtain⟨a,b,_⟩:=hv.start l hl st hst
  exact⟨a,b,by simp[stP],by simp[stP],by simp[stP]⟩
 ·rw[List.nil_append];exact qlo.perm (qae8 _) (qdd _)
 ·intro e he
  rw[List.nil_append]at he
  obtain⟨k,l,i,s,h1,h2,rfl⟩:=q3f (hm e he)
  have k1:=(zei.1 h1).1
  have k2:=(zei.1 h2).1
  have k3:=hv.lp l (zmg h1)
  obtain⟨a,b,d,f⟩:=hv.start l (zmg h1) s (zmg h2)
  exact⟨by simp only[qme];omega,⟨d,f⟩,by simp[qme],by simp only[qme];omega,fun hk=>by simp[qme]at hk⟩
 ·intro e he hk
  obtain⟨k,l,i,s,h1,h2,rfl⟩:=q3f (hm e he)
  simp[qme]at hk
 ·intro e he
  rw[List.nil_append]at he
  obtain⟨k,l,i,s,h1,h2,rfl⟩:=q3f (hm e he)
  exact .inl (by simp[qme])
 ·show (sortL _).length ≤ _
  rw[(qdd _).length_eq]
  have:=qad2 (lps:=c.lps) (m:=8) (fun l hl=>hv.lp l hl)
  simp only[zgb];omega
 ·intro i hi
  show ((qib c.lps).map Prod.fst)[i]? = _
  have:i<((qib c.lps).map Prod.fst).length:=by simp[qib,qadb];exact hi
  rw[zgE this];rfl
variable {s:Sim} {h:List Evt}
theorem qaip (hr:s.ready c=true) : ∃e rest,s.pend=e::rest∧e.time<c.fin:=by
 unfold Sim.ready at hr
 split at hr
 ·cases hr
 next e rest hp=>exact⟨e,rest,hp,of_decide_eq_true hr⟩
theorem go_eq {e:Evt} {rest:List Evt} (hp:s.pend=e::rest):s.go c=s.step c e rest:=by unfold Sim.go;rw[hp]
theorem qaff (c:Cfg) : ∀(m d:Nat) (s:Sim),Sim.run c (m+d) s=Sim.run c d (Sim.run c m s)
 | 0,d,s=>by rw[Nat.zero_add];rfl
 |m+1,d,s=>by
  rw[show m+1+d=(m+d)+1 by omega]
  by_cases hr:s.ready c=true
  ·rw[Sim.run,if_pos hr,qaff c m d,Sim.run,if_pos hr]
  ·have h1:Sim.run c (m+1) s=s:=by rw[Sim.run,if_neg hr]
   rw[h1,Sim.run,if_neg hr]
   cases d with
   |zero=>rfl
   |succ d=>rw[Sim.run,if_neg hr]
end
set_option maxRecDepth 10000
structure WSt where
 lp:Lp
 box:List Evt
 done:List Evt
 sent:List Evt
 over:Bool
def qqq (i:Int) (p:List Evt×List Evt) (n:Evt):List Evt×List Evt:=if n.lp=i then (sortL (n::p.1),p.2)else (p.1,p.2++[n])
def qfw (i:Int) (p:List Evt×List Evt) (l:List Evt):List Evt×List Evt:=l.foldl (qqq i) p
def qxu (b:List Evt) (g:List (List Int)):List Evt:=g.foldl (fun b k=>(qiw b k).1) b
def WSt.step (c:Cfg) (w:WSt) (e:Evt) (rest:List Evt):WSt:=
 ⟨(qa1 c w.lp e).lp,qxu (qfw e.lp (rest,w.sent) (qa1 c w.lp e).out).1 (qa1 c w.lp e).gone,w.done++[e],(qfw e.lp (rest,w.sent) (qa1 c w.lp e).out).2,w.over||(qa1 c w.lp e).over⟩
def WSt.run (c:Cfg) (hor:Int):Nat→WSt→WSt
 | 0,w=>w
 |k+1,w=>match w.box with
  | []=>w
  |e::rest=>if e.time<hor then WSt.run c hor k (w.step c e rest)else w
theorem qafu (l:List Evt) (k:List Int):(qiw l k).1.Sublist l:=List.eraseP_sublist
theorem qaba (b:List Evt) (k:List Int) (g:List (List Int)):qxu b (k::g)=qxu (qiw b k).1 g:=rfl
theorem qahp (b:List Evt) (k:List Int) (g:List (List Int)):qxu b (g++[k])=(qiw (qxu b g) k).1:=by unfold qxu;rw[List.foldl_append];rfl
theorem qol : ∀(g:List (List Int)) (b:List Evt),(qxu b g).Sublist b
 | [],b=>List.Sublist.refl _
 |k::g,b=>by rw[qaba];exact(qol g _).trans (qafu b k)
theorem qafb (i:Int) (p:List Evt×List Evt) (n:Evt) (l:List Evt):qfw i p (n::l)=qfw i (qqq i p n) l:=rfl
theorem qae9 (i:Int) (p:List Evt×List Evt) (n:Evt) (l:List Evt):qfw i p (l++[n])=qqq i (qfw i p l) n:=by unfold qfw;rw[List.foldl_append];rfl
theorem q87 (i:Int) (p:List Evt×List Evt) (n:Evt) (l:List Evt):((qqq i p n).1++((qqq i p n).2++l)).Perm (p.1++(p.2++n::l)):=by
 unfold qqq
 split
 ·refine((qdd (n::p.1)).append_right _).trans ?_
  have h:=(List.perm_middle (a:=n) (l₁:=p.1++p.2) (l₂:=l)).symm
  rw[List.append_assoc,List.append_assoc]at h
  rw[List.cons_append];exact h
 ·show (p.1++((p.2++[n])++l)).Perm _
  rw[List.append_assoc];exact .refl _
theorem qsm (i:Int) : ∀(l:List Evt) (p:List Evt×List Evt) (m:List Evt),((qfw i p l).1++((qfw i p l).2++m)).Perm (p.1++(p.2++(l++m)))
 | [],p,m => .refl _
 |n::l,p,m=>(qsm i l (qqq i p n) m).trans (q87 i p n (l++m))
theorem qw3 (i:Int) : ∀(l:List Evt) (p:List Evt×List Evt),p.1.Pairwise leE→(qfw i p l).1.Pairwise leE
 | [],p,h=>h
 |n::l,p,h=>qw3 i l _ (by unfold qqq;split;exact qhm _;exact h)
theorem q4t (i:Int) : ∀(l:List Evt) (p:List Evt×List Evt),(∀b∈p.1,b.lp=i) → ∀b∈(qfw i p l).1,b.lp=i
 | [],p,h=>h
 |n::l,p,h=>q4t i l _ (by
  unfold qqq;split
  ·intro b hb
   rcases List.mem_cons.1 ((qdd _).mem_iff.1 hb)with rfl|hb
   ·assumption
   ·exact h b hb
  ·exact h)
theorem qwq (i:Int) : ∀(l:List Evt) (p:List Evt×List Evt),(qfw i p l).2=p.2++l.filter (fun n => !decide (n.lp=i))
 | [],p=>by simp[qfw]
 |n::l,p=>by
  rw[qafb,qwq i l]
  unfold qqq
  by_cases h:n.lp=i
  ·rw[if_pos h,List.filter_cons,if_neg (by simp[h])]
  ·rw[if_neg h,List.filter_cons,if_pos (by simp[h])];simp
structure PlOk (p:List Evt×List Evt) (l:List Evt):Prop where
 sorted:p.1.Pairwise leE
 keys:qlo (p.1++(p.2++l))
 len:(p.1++(p.2++l)).length≤1000000
 ok:qc4 (p.1++(p.2++l))
theorem PlOk.next {p:List Evt×List Evt} {n:Evt} {l:List Evt} (i:Int) (h:PlOk p (n::l)):PlOk (qqq i p n) l:=by
 have hp:=q87 i p n l
 refine⟨?_,qlo.perm h.keys hp,by rw[hp.length_eq];exact h.len,fun x hx=>h.ok x (hp.mem_iff.1 hx)⟩
 unfold qqq;split
 ·exact qhm _
 ·exact h.sorted
theorem PlOk.at (i:Int) : ∀ {l:List Evt} {p:List Evt×List Evt} (h:PlOk p l) (j:Nat),PlOk (qfw i p (l.take j)) (l.drop j)
 | [],p,h,j=>by simpa[qfw]using h
 |n::l,p,h,0=>h
 |n::l,p,h,j+1=>PlOk.at i (h.next i) j
theorem PlOk.ins {p:List Evt×List Evt} {n:Evt} {l:List Evt} (h:PlOk p (n::l)):p.1.length≤1000000∧qc4 p.1∧n.key.length≤9223372036854775807∧p.1.Pairwise leE∧q3p (n::p.1):=by
 refine⟨by have:=h.len;rw[List.length_append]at this;omega,fun x hx=>h.ok x (by simp[hx]),h.ok n (by simp),h.sorted,?_⟩
 have hs:(p.1++[n]).Sublist (p.1++(p.2++n::l)):=List.Sublist.append_left ((List.singleton_sublist.2 (by simp))) p.1
 exact(qlo.dist (List.Pairwise.sublist hs h.keys)).perm (List.perm_append_singleton n p.1).symm
structure WInv (c:Cfg) (i:Nat) (w:WSt) (O:List Evt) (S:Sim) (H:List Evt):Prop where
 K:SInvK c S H
 il:i<c.lps.length
 lp:S.lps[i]? = some w.lp
 sub : ∃T,(w.box++(w.sent++(O++T))).Perm S.pend
 sorted:w.box.Pairwise leE
 own : ∀b∈w.box,b.lp=i
section
variable {c:Cfg} {i:Nat} {w:WSt} {O:List Evt} {S:Sim} {H:List Evt}
theorem WInv.mem (h:WInv c i w O S H) {e:Evt} (he:e∈w.box∨e∈w.sent∨e∈O):e∈S.pend:=by
 obtain⟨T,hT⟩:=h.sub
 refine hT.mem_iff.1 ?_
 rcases he with he|he|he<;>simp[he]
theorem WInv.ready (h:WInv c i w O S H) (hn:H.length≤20000) {e:Evt} {rest:List Evt} (hb:w.box=e::rest):e.lp=i∧Ready c w.lp e∧lpAt S e.lp=w.lp:=by
 have h1:=h.own e (by rw[hb];simp)
 obtain⟨x,hx,hl,R⟩:=h.K.headM (h.mem (e:=e) (.inl (by rw[hb];simp))) hn
 rw[h1,Int.toNat_natCast,h.lp]at hx
 cases hx
 exact⟨h1,R,hl⟩
theorem WInv.len (h:WInv c i w O S H):w.box.length+(w.sent.length+O.length)≤64+16*H.length:=by
 obtain⟨T,hT⟩:=h.sub
 have:=hT.length_eq
 have:=h.K.len
 simp only[zgp]at *
 omega
theorem WInv.keyLen (h:WInv c i w O S H) {e:Evt} (he:e∈w.box∨e∈w.sent∨e∈O):e.key.length≤2+H.length:=(h.K.ev e (List.mem_append_right _ (h.mem he))).key.2
theorem WInv.plOk (h:WInv c i w O S H) (hn:H.length≤20000) {e:Evt} {rest:List Evt} (hb:w.box=e::rest):PlOk (rest,w.sent) (qa1 c w.lp e).out:=by
 obtain⟨h1,R,hl⟩:=h.ready hn hb
 obtain⟨T,hT⟩:=h.sub
 rw[hb]at hT
 have hk:=h.K.keyNeP hT.symm hn
 rw[hl]at hk
 have hk2:=(List.pairwise_append.1 hk).2.1
 have hsub:(rest++(w.sent++(qa1 c w.lp e).out)).Sublist (rest++(w.sent++(O++T))++(qa1 c w.lp e).out):=by
  rw[List.append_assoc]
  refine List.Sublist.append_left ?_ rest
  rw[List.append_assoc]
  exact List.Sublist.append_left (List.sublist_append_right _ _) _
 have hl1:=h.len
 have hz:=R.sizes
 rw[hb]at hl1
 refine⟨?_,List.Pairwise.sublist hsub hk2,?_,?_⟩
 ·have:=h.sorted;rw[hb,List.pairwise_cons]at this;exact this.2
 ·simp only[zgp,zga]at hl1 ⊢;omega
 ·intro x hx
  simp only[List.mem_append]at hx
  rcases hx with hx|hx|hx
  ·have:=h.keyLen (e:=x) (.inl (by rw[hb];simp[hx]));omega
  ·have:=h.keyLen (e:=x) (.inr (.inl hx));omega
  ·have:=hz.2.2.2.1 x hx;omega
theorem WInv.step2 (h:WInv c i w O S H) (hn:H.length≤20000) {e:Evt} {rest:List Evt} (hb:w.box=e::rest) {T:List Evt} (hp:S.pend.Perm (e::(rest++(w.sent++(O++T))))) :
  ∃S':Sim,WInv c i (w.step c e rest) O S' (H++[e])∧S'.lps=S.lps.set i (w.step c e rest).lp∧S'.pend=rest++(w.sent++(O++T))++(qa1 c w.lp e).out:=by
 obtain⟨h1,R,hl⟩:=h.ready hn hb
 have hK:=h.K.stepP (P:=rest++(w.sent++(O++T))++(qa1 c w.lp e).out) (T:=[]) false hp hn (by rw[hl,List.append_nil])
 rw[hl]at hK
 have hi:e.lp.toNat=i:=by omega
 refine⟨_,⟨hK,h.il,?_,?_,?_,?_⟩,by rw[hi];rfl,rfl⟩
 ·show (S.lps.set e.lp.toNat (qa1 c w.lp e).lp)[i]? = _
  rw[hi,List.getElem?_set_self (by rw[h.K.lpl];exact h.il)];rfl
 ·show ∃T',(qxu (qfw e.lp (rest,w.sent) (qa1 c w.lp e).out).1 (qa1 c w.lp e).gone++((qfw e.lp (rest,w.sent) (qa1 c w.lp e).out).2++(O++T'))).Perm (rest++(w.sent++(O++T))++(qa1 c w.lp e).out)
  have hs:=qol (qa1 c w.lp e).gone (qfw e.lp (rest,w.sent) (qa1 c w.lp e).out).1
  have hpl:=qsm e.lp (qa1 c w.lp e).out (rest,w.sent) (O++T)
  generalize (qfw e.lp (rest,w.sent) (qa1 c w.lp e).out).1=B at *
  generalize (qfw e.lp (rest,w.sent) (qa1 c w.lp e).out).2=Z at *
  generalize qxu B (qa1 c w.lp e).gone=B' at *
  obtain⟨D,hD⟩ : ∃D,(B'++D).Perm B:=by
   clear hpl hK
   induction hs with
   |slnil=>exact⟨[],.refl _⟩
   |cons a _ ih=>obtain⟨D,hD⟩:=ih;exact⟨a::D,List.perm_middle.trans (hD.cons a)⟩
   |cons_cons a _ ih=>obtain⟨D,hD⟩:=ih;exact⟨D,hD.cons a⟩
  refine⟨D++T,?_⟩
  have e1:(B'++(Z++(O++(D++T)))).Perm ((B'++D)++(Z++(O++T))):=by
   rw[List.append_assoc]
   refine List.Perm.append_left B' ?_
   have:(Z++(O++(D++T)))=(Z++O)++(D++T):=by simp
   rw[this]
   refine(List.perm_append_comm_assoc (Z++O) D T).trans ?_
   simp
  refine e1.trans ((hD.append_right _).trans (hpl.trans ?_))
  simp only[List.append_assoc]
  refine List.Perm.append_left rest (List.Perm.append_left w.sent ?_)
  refine(List.perm_append_comm (l₁:=(qa1 c w.lp e).out) (l₂:=O++T)).trans ?_
  simp
 ·have hs:=qol (qa1 c w.lp e).gone (qfw e.lp (rest,w.sent) (qa1 c w.lp e).out).1
  refine List.Pairwise.sublist hs (qw3 _ _ _ ?_)
  have:=h.sorted;rw[hb,List.pairwise_cons]at this;exact this.2
 ·intro b hbm
  have hs:=qol (qa1 c w.lp e).gone (qfw e.lp (rest,w.sent) (qa1 c w.lp e).out).1
  have:=q4t e.lp (qa1 c w.lp e).out (rest,w.sent) (fun b hb'=>by rw[h1];exact h.own b (by rw[hb];simp[hb'])) b (hs.subset hbm)
  rw[this,h1]
theorem WInv.step (h:WInv c i w O S H) (hn:H.length≤20000) {e:Evt} {rest:List Evt} (hb:w.box=e::rest) :
  ∃S':Sim,WInv c i (w.step c e rest) O S' (H++[e])∧S'.lps=S.lps.set i (w.step c e rest).lp:=by
 obtain⟨T,hT⟩:=h.sub
 obtain⟨S',g1,g2,_⟩:=h.step2 hn hb (T:=T) (by rw[hb]at hT;exact hT.symm)
 exact⟨S',g1,g2⟩
end
set_option maxRecDepth 10000
def q1w (a b:Int):Int:=if b<a then b else a
def qp0 (bs:List (List Evt)):List Int:=(bs.filterMap List.head?).map Evt.time
def qx7 (bs:List (List Evt)):Option Int:=match qp0 bs with
 | []=>none
 |x::r=>some (r.foldl q1w x)
theorem qae3 (bs:List (List Evt)) (b:List Evt):qp0 (bs++[b])=qp0 bs++(b.head?.map Evt.time).toList:=by
 unfold qp0
 rw[List.filterMap_append,List.map_append]
 cases b<;>simp
theorem qabr (bs:List (List Evt)):(qp0 bs).length≤bs.length:=by
 unfold qp0;rw[List.length_map];exact List.length_filterMap_le _ _
theorem min_ev (x:Int) (r:List Int) (c:Bool) (h:r.length≤1000):qac (evL T) qes [(.fsl ((x::r).map qa0) c)]=some (ii (r.foldl q1w x)):=by
 have hL : ∃y,itB (exec (evL T) itL none qgg) (qai [0,3,4] true 0) ⟨[(0,(.fsl ((x::r).map qa0) c)),(3,(ii x)),(4,(ii ((1:Nat))))],[]⟩ []=some y∧(y.1 = .exit 0∧y.2.1.marks=[]∧y.2.2=[]∧Ev.look y.2.1.vars 3=some (ii (r.foldl q1w x))):=by
  have key:=qg5 (f:=exec (evL T) itL none qgg) (s:=qai [0,3,4] true 0) (α:=Int)
   (fun i a=>⟨[(0,(.fsl ((x::r).map qa0) c)),(3,(ii a)),(4,(ii (i+1:Nat)))],[]⟩) (fun _ _=>[]) (fun i a=>a=(r.take i).foldl q1w x) r.length
   (fun y=>y.1 = .exit 0∧y.2.1.marks=[]∧y.2.2=[]∧Ev.look y.2.1.vars 3=some (ii (r.foldl q1w x))) ?_ ?_ 0 x (Nat.zero_le _) rfl
  ·exact key
  ·rintro i a hi rfl
   obtain⟨v,hv⟩ : ∃v,r[i]? = some v:=⟨_,zgE hi⟩
   have hi':((i+1:Nat):Int)<((r.length+1:Nat):Int):=by omega
   have hw:IntKind.i64.wrap (((i+1:Nat):Int)+1)=((i+1+1:Nat):Int):=by rw[qi (by omega) (by omega)];simp
   refine .inl ⟨q1w ((r.take i).foldl q1w x) v,?_,?_⟩
   ·simp only[qgg,zgs,zgr,zgq,zgt,q1w,qa0,List.map_cons,hv,hi',hw,qm,Ev.ev1,qb,zgy,↓qc,↓reduceIte,Nat.reduceEqDiff,reduceCtorEq]
   ·rw[List.take_add_one,hv,List.foldl_append];rfl
  ·rintro a rfl
   rw[List.take_length]
   simp only[qgg,qa0,List.map_cons,Int.lt_irrefl,Ev.ev1,zgy,↓qc,↓reduceIte,Nat.reduceEqDiff,reduceCtorEq]
   exact⟨_,rfl,rfl,rfl,rfl,rfl⟩
 obtain⟨⟨y,e,σ⟩,k1,k2,k3,k4,k5⟩:=hL
 simp only at k2 k3 k4 k5
 subst k2;subst k4
 simp only[List.map_cons,qa0]at k1
 have c0:¬((r.length+1:Nat):Int)<1:=by omega
 have e1:((1:Nat):Int)=1:=rfl
 rw[e1]at k1
 rw[qac,qe qwo qvn]
 simp only[qju,qa0,List.map_cons,c0,k1,k3,k5,qm,Int.le_refl,Int.toNat_zero,Ev.ev1,qb,qh,zgy,↓qc,↓qv,↓reduceIte,Nat.reduceEqDiff,reduceCtorEq]
theorem qagr (bs:List (List Evt)) (c:Bool) (h:bs.length≤1000):qac (evL T) qj3 [(.fsl ((bs).map qn) c)]=some (.tup [(ii (((qx7 bs).getD 0))),(bb (((qx7 bs).isSome)))]):=by
 have hL : ∃y,itB (exec (evL T) itL none qiv) (qai [4,7,8,9] true 1) ⟨[(4,.sl 0 0 0 0 false),(7,(.fsl ((bs).map qn) c)),(8,(ii bs.length)),(9,(ii ((0:Nat))))],[]⟩ [.row 1 [] 0]=some y ∧
   ∃g:Nat,y.1 = .exit 0∧y.2.1.marks=[]∧y.2.2=[.row 1 ((qp0 bs).map qa0) g]∧Ev.look y.2.1.vars 4=some (.sl 0 g 0 (qp0 bs).length false):=by
  have key:=qg5 (f:=exec (evL T) itL none qiv) (s:=qai [4,7,8,9] true 1) (α:=List Int×Nat)
   (fun i a=>⟨[(4,.sl 0 a.2 0 a.1.length false),(7,(.fsl ((bs).map qn) c)),(8,(ii bs.length)),(9,(ii i))],[]⟩) (fun _ a=>[.row 1 (a.1.map qa0) a.2]) (fun i a=>a.1=qp0 (bs.take i)) bs.length
   (fun y => ∃g:Nat,y.1 = .exit 0∧y.2.1.marks=[]∧y.2.2=[.row 1 ((qp0 bs).map qa0) g]∧Ev.look y.2.1.vars 4=some (.sl 0 g 0 (qp0 bs).length false)) ?_ ?_ 0 ([],0) (Nat.zero_le _) rfl
  ·exact key
  ·rintro i ⟨l,g⟩ hi hl
   simp only at hl⊢
   obtain⟨v,hv⟩ : ∃v,bs[i]? = some v:=⟨_,zgE hi⟩
   have hi':(i:Int)<(bs.length:Int):=by omega
   have hw:IntKind.i64.wrap ((i:Int)+1)=((i+1:Nat):Int):=by rw[qi (by omega) (by omega)];simp
   have hf:qp0 (bs.take (i+1))=qp0 (bs.take i)++(v.head?.map Evt.time).toList:=by rw[List.take_add_one,hv];exact qae3 _ _
   have hll:l.length≤1000:=by rw[hl];have:=qabr (bs.take i);have:=List.length_take_le i bs;omega
   cases v with
   |nil=>
    refine .inl ⟨(l,g),?_,by simp only;rw[hf,hl];exact(List.append_nil _).symm⟩
    simp only[qiv,zgs,zgr,zgq,zgt,hv,hi',hw,qn,List.map_nil,gt_iff_lt,Int.lt_irrefl,qcb,qm,Ev.ev1,qb,Ev.SObj.lo,zgy,↓qc,↓reduceIte,Nat.reduceEqDiff]
   |cons e r=>
    refine .inl ⟨(l++[e.time],g+1),?_,by simp only;rw[hf,hl];rfl⟩
    have c1:((r.length+1:Nat):Int)>0:=by omega
    have b:(l.length+1)*8≤140737488355328:=by omega
    have tk:List.take l.length (l.map qa0)=l.map qa0:=ztl (by simp)
    have lo:=qm 1 (l++[e.time])
    have hle:l.length≤l.length:=Nat.le_refl _
    rw[List.map_append]at lo
    simp only[List.map_cons,List.map_nil,qa0]at lo
    obtain⟨et,ek,el,ei,ep,ea⟩:=e
    simp only[List.map_append,zgp,List.map_cons,List.map_nil,qa0]at lo⊢
    simp only[qiv,zgs,zgr,zgq,zgt,hv,hi',hw,c1,b,tk,lo,hle,qn,Evt.r,List.map_cons,Int.le_refl,Int.toNat_zero,qcb,Ev.ev1,q3t,qb,qdj,Ev.AV.cells,Ev.AV.uc,Ev.AV.plain,Ev.SObj.lo,ne_eq,zgy,↓qc,↓reduceIte,Nat.reduceAdd,Nat.reduceEqDiff,Nat.reduceMul,Nat.reduceLeDiff,Nat.reducePow]
  ·rintro⟨l,g⟩ hl
   rw[List.take_length]at hl
   simp only at hl⊢
   simp only[qiv,Int.lt_irrefl,Ev.ev1,zgy,↓qc,↓reduceIte,Nat.reduceEqDiff]
   exact⟨_,rfl,g,rfl,rfl,by rw[hl],by rw[hl];rfl⟩
 obtain⟨⟨y,e,σ⟩,k1,g,k2,k3,k4,k5⟩:=hL
 simp only[Int.ofNat_zero]at k1 k2 k3 k4 k5
 subst k2;subst k4
 have hfl:=qabr bs
 unfold qx7
 rw[qac,qe q6a q33]
 cases hf:qp0 bs with
 |nil=>
  rw[hf]at k1 k5
  simp only[List.map_nil,zgb]at k1 k5
  simp only[qnp,k1,k3,k5,qcb,Option.getD_none,Ev.ev1,qh,Ev.SObj.lo,zgy,↓qc,↓qv,↓reduceIte,Nat.reduceEqDiff,reduceCtorEq]
 |cons x r=>
  rw[hf]at k1 k5 hfl
  have hm:=min_ev x r false (by simp at hfl;omega)
  have c0:¬((r.length+1:Nat):Int)=0:=by omega
  have tk:List.take (r.length+1) ((x::r).map qa0)=(x::r).map qa0:=ztl (by simp)
  have hln:((x::r).map qa0).length=r.length+1:=by simp
  have hlo:qc5 0 ((x::r).map qa0)=true:=qm _ _
  simp only[zga]at k1 k5
  generalize (x::r).map qa0=R at *
  simp only[qnp,k1,k3,k5,c0,tk,hln,hlo,hm,qcb,Option.getD_some,Ev.ev1,qh,Ev.SObj.lo,zgy,↓qc,↓qv,↓reduceIte,Nat.reduceEqDiff,reduceCtorEq]
theorem qahz (c:Cfg) (f:Int) (hf:0≤f∧f≤1152921504606846976) (hl:0≤c.look∧c.look≤9223372036854775807) (hF:0≤c.fin∧c.fin≤1152921504606846976):qac (evL T) qgz [(.agg [(.fsl ((c.lps).map lpC) false),(.fsl ((c.progs).map qaz) false),(ii c.look),(ii c.fin),(ii c.cap)]),(ii f)]=some (ii (f+q1w c.look (c.fin-f))):=by
 have w1:IntKind.i64.wrap (c.fin-f)=c.fin-f:=qi (by omega) (by omega)
 have w2:IntKind.i64.wrap (f+q1w c.look (c.fin-f))=f+q1w c.look (c.fin-f):=by
  unfold q1w;split<;>exact qi (by omega) (by omega)
 unfold q1w at w2⊢
 rw[qac,qe q2s q1f]
 simp only[qns,w1,w2,Ev.ev1,qb,Ev.AV.cells,Ev.AV.plain,qh,ne_eq,zgy,↓qc,↓reduceIte,Nat.reduceAdd,Nat.reduceEqDiff,reduceCtorEq]
set_option maxRecDepth 10000
section
variable {c:Cfg} {x:Lp} {e:Evt}
theorem qagk (hp:x.procs=[]):qwd x e=none:=by
 unfold qwd
 rw[hp];simp
theorem q9l (hp:x.procs=[]):(qa1 c x e).lp.procs=[]:=by
 unfold qa1
 split
 ·exact hp
 ·rw[qagk hp];exact hp
theorem qahe (h:Ready c x e) (f:Bool) (hf:f=true→x.procs=[]):qac (evL T) qd8 [(.agg [(.fsl ((c.lps).map lpC) false),(.fsl ((c.progs).map qaz) false),(ii c.look),(ii c.fin),(ii c.cap)]),(.agg [(ii x.r0),(ii x.r1),(.fsl ((x.procs).map Pr.r) f),(ii x.sum)]),(.agg [(ii e.time),(.fsl ((e.key).map qa0) false),(ii e.lp),(ii e.kind),(ii e.proc),(ii e.arg)])]=some (.tup [(.agg [(ii ((qa1 c x e).lp.r0)),(ii ((qa1 c x e).lp.r1)),(.fsl (((qa1 c x e).lp.procs).map Pr.r) f),(ii ((qa1 c x e).lp.sum))]),(.fsl (((qa1 c x e).out).map Evt.r) (qa1 c x e).nil),(.fsl (((qa1 c x e).gone).map qna) (qa1 c x e).nil),(bb ((qa1 c x e).over))]):=by
 cases f with
 |false=>exact Exec_ev h
 |true=>
  have hp:=hf rfl
  unfold qa1
  rw[qac,qe qnz qmz]
  rw[qagk hp]
  by_cases hk:e.kind=3
  ·rw[if_pos hk]
   simp only[qbk,hk,hp,List.map_nil,Ev.ev1,Ev.stP,qb,Ev.AV.cells,Ev.AV.uc,Ev.AV.plain,qh,ne_eq,zgy,↓qc,↓reduceIte,Nat.reduceAdd,Nat.reduceEqDiff,reduceCtorEq]
  rw[if_neg hk]
  by_cases h1:e.proc<0
  ·by_cases k1:e.kind=1
   ·simp only[qbk,k1,h1,hp,List.map_nil,Ev.ev1,Ev.stP,qb,Ev.AV.cells,Ev.AV.plain,qh,ne_eq,zgy,↓qc,↓reduceIte,Nat.reduceAdd,Nat.reduceEqDiff,Int.reduceEq,reduceCtorEq]
   by_cases k2:e.kind=2
   ·simp only[qbk,k2,h1,hp,List.map_nil,Ev.ev1,Ev.stP,qb,Ev.AV.cells,Ev.AV.plain,qh,ne_eq,zgy,↓qc,↓reduceIte,Nat.reduceAdd,Nat.reduceEqDiff,Int.reduceEq,reduceCtorEq]
   ·simp only[qbk,hk,k1,k2,hp,List.map_nil,Ev.ev1,Ev.stP,qb,Ev.AV.cells,Ev.AV.plain,qh,ne_eq,zgy,↓qc,↓reduceIte,Nat.reduceAdd,Nat.reduceEqDiff,reduceCtorEq]
  have h2:e.proc≥((0:Nat):Int):=by omega
  have h2':e.proc≥0:=by omega
  ·by_cases k1:e.kind=1
   ·simp only[qbk,k1,h1,h2',hp,List.map_nil,Ev.ev1,Ev.stP,qb,Ev.AV.cells,Ev.AV.plain,qh,ne_eq,zgy,↓qc,↓reduceIte,Nat.reduceAdd,Nat.reduceEqDiff,Int.reduceEq,reduceCtorEq]
   by_cases k2:e.kind=2
   ·simp only[qbk,k2,h1,h2',hp,List.map_nil,Ev.ev1,Ev.stP,qb,Ev.AV.cells,Ev.AV.plain,qh,ne_eq,zgy,↓qc,↓reduceIte,Nat.reduceAdd,Nat.reduceEqDiff,Int.reduceEq,reduceCtorEq]
   ·simp only[qbk,hk,k1,k2,hp,List.map_nil,Ev.ev1,Ev.stP,qb,Ev.AV.cells,Ev.AV.plain,qh,ne_eq,zgy,↓qc,↓reduceIte,Nat.reduceAdd,Nat.reduceEqDiff,reduceCtorEq]
end
set_option maxRecDepth 10000
section
variable {c:Cfg} {e:Evt} (R0 X4 X5 X6 X7 X8 X9:SObj) (dn:List Evt) (g1:Nat) (x:Lp) (o f:Bool)
theorem exec_l1 (h0:R0.lo 10=true) (h4:X4.lo 10=true) (h5:X5.lo 10=true) (h6:X6.lo 10=true) (h7:X7.lo 10=true) (h8:X8.lo 10=true) (h9:X9.lo 10=true) (out:List Evt) (co:Bool) (p:List Evt×List Evt) (g2:Nat) (hP:PlOk p out) (v8:AV) (hv8:v8.lo 10=true) :
  ∃y,itB (exec (evL T) itL none qdp) (qai [0,5,8,50,51,52] true 10) ⟨[(0,.ptr 3 0 0 0),(5,(.fptr [(ii e.time),(.fsl ((e.key).map qa0) false),(ii e.lp),(ii e.kind),(ii e.proc),(ii e.arg)])),(8,v8),(50,(.fsl ((out).map Evt.r) co)),(51,(ii out.length)),(52,(ii ((0:Nat))))],[]⟩ (R0 :: .row 6 ((dn).map Evt.r) g1 :: .row 6 ((p.2).map Evt.r) g2 :: .row 8 [[(ii ((x).r0)),(ii ((x).r1)),(.fsl (((x).procs).map Pr.r) f),(ii ((x).sum)),(.fsl ((p.1).map Evt.r) false),.sl 1 g1 0 (dn).length false,.sl 2 g2 0 (p.2).length false,(bb o)]] 0::[X4,X5,X6,X7,X8,X9])=some y ∧
   ∃g2':Nat,y.1 = .exit 0∧y.2.1.marks=[]∧y.2.2=(R0 :: .row 6 ((dn).map Evt.r) g1 :: .row 6 (((qfw e.lp p out).2).map Evt.r) g2' :: .row 8 [[(ii ((x).r0)),(ii ((x).r1)),(.fsl (((x).procs).map Pr.r) f),(ii ((x).sum)),(.fsl (((qfw e.lp p out).1).map Evt.r) false),.sl 1 g1 0 (dn).length false,.sl 2 g2' 0 ((qfw e.lp p out).2).length false,(bb o)]] 0::[X4,X5,X6,X7,X8,X9])∧Ev.look y.2.1.vars 0=some (.ptr 3 0 0 0)∧Ev.look y.2.1.vars 8=some v8:=by
 simp only[SObj.lo]at h0 h4 h5 h6 h7 h8 h9
 have key:=qg5 (f:=exec (evL T) itL none qdp) (s:=qai [0,5,8,50,51,52] true 10) (α:=(List Evt×List Evt)×Nat)
  (fun i a=>⟨[(0,.ptr 3 0 0 0),(5,(.fptr [(ii e.time),(.fsl ((e.key).map qa0) false),(ii e.lp),(ii e.kind),(ii e.proc),(ii e.arg)])),(8,v8),(50,(.fsl ((out).map Evt.r) co)),(51,(ii out.length)),(52,(ii i))],[]⟩) (fun _ a=>(R0 :: .row 6 ((dn).map Evt.r) g1 :: .row 6 ((a.1.2).map Evt.r) a.2 :: .row 8 [[(ii ((x).r0)),(ii ((x).r1)),(.fsl (((x).procs).map Pr.r) f),(ii ((x).sum)),(.fsl ((a.1.1).map Evt.r) false),.sl 1 g1 0 (dn).length false,.sl 2 a.2 0 (a.1.2).length false,(bb o)]] 0::[X4,X5,X6,X7,X8,X9])) (fun i a=>a.1=qfw e.lp p (out.take i)) out.length
  (fun y => ∃g2':Nat,y.1 = .exit 0∧y.2.1.marks=[]∧y.2.2=(R0 :: .row 6 ((dn).map Evt.r) g1 :: .row 6 (((qfw e.lp p out).2).map Evt.r) g2' :: .row 8 [[(ii ((x).r0)),(ii ((x).r1)),(.fsl (((x).procs).map Pr.r) f),(ii ((x).sum)),(.fsl (((qfw e.lp p out).1).map Evt.r) false),.sl 1 g1 0 (dn).length false,.sl 2 g2' 0 ((qfw e.lp p out).2).length false,(bb o)]] 0::[X4,X5,X6,X7,X8,X9])∧Ev.look y.2.1.vars 0=some (.ptr 3 0 0 0)∧Ev.look y.2.1.vars 8=some v8) ?_ ?_ 0 (p,g2) (Nat.zero_le _) rfl
 ·exact key
 ·rintro i ⟨⟨b,s⟩,g⟩ hi hbs
  simp only at hbs⊢
  obtain⟨n,hn⟩ : ∃n,out[i]? = some n:=⟨_,zgE hi⟩
  have hA:=PlOk.at e.lp hP i
  rw[←hbs,show out.drop i=n::out.drop (i+1) by rw[List.drop_eq_getElem_cons hi];rw[zgE hi]at hn;cases hn;rfl]at hA
  have hlen:=hP.len
  simp only[zgp]at hlen
  have hi':(i:Int)<(out.length:Int):=by omega
  have hw:IntKind.i64.wrap ((i:Int)+1)=((i+1:Nat):Int):=by rw[qi (by omega) (by omega)];simp
  have hnx:qfw e.lp p (out.take (i+1))=qqq e.lp (b,s) n:=by rw[List.take_add_one,hn,hbs];exact qae9 _ _ _ _
  obtain⟨i1,i2,i3,i4,i5⟩:=hA.ins
  have hsl:=hA.len
  simp only[zgp]at hsl
  obtain⟨et,ek,el,ei,ep,ea⟩:=e
  unfold qqq at hnx
  by_cases hlp:n.lp=el
  ·refine .inl ⟨((sortL (n::b),s),g),?_,by simp only;rw[hnx,if_pos hlp]⟩
   have hI:=q6z b false n i1 i2 i3 i4 i5
   obtain⟨nt,nk,nl,ni,np,na⟩:=n
   simp only at hlp
   subst hlp
   generalize sortL (⟨nt,nk,nl,ni,np,na⟩::b)=B at *
   simp only at hI
   simp only[qdp,zgs,zgr,zgq,zgt,hn,hi',hw,hI,h0,h4,h5,h6,h7,h8,h9,hv8,Evt.r,qq,qm,qa3,Ev.ev1,Ev.stP,qb,Ev.AV.cells,Ev.AV.uc,Ev.AV.plain,Ev.SObj.lo,ne_eq,zgy,↓qc,↓reduceIte,Nat.reduceAdd,Nat.reduceEqDiff,Nat.reduceLT,Nat.reduceLeDiff,reduceCtorEq]
  ·refine .inl ⟨((b,s++[n]),g+1),?_,by simp only;rw[hnx,if_neg hlp]⟩
   have bd:(s.length+1)*64≤140737488355328:=by omega
   have tk:List.take s.length (s.map Evt.r)=s.map Evt.r:=ztl (by simp)
   have lo:=qq 10 (s++[n])
   have hle:s.length≤s.length:=Nat.le_refl _
   obtain⟨nt,nk,nl,ni,np,na⟩:=n
   simp only at hlp
   rw[List.map_append]at lo
   simp only[List.map_append,zgp,List.map_cons,List.map_nil,Evt.r]at lo⊢
   simp only[qdp,zgs,zgr,zgq,zgt,hn,hi',hw,hlp,bd,tk,lo,hle,h0,h4,h5,h6,h7,h8,h9,hv8,Evt.r,qq,qm,qa3,Ev.ev1,Ev.stP,q3t,qb,qdj,Ev.AV.cells,Ev.AV.uc,Ev.AV.plain,Ev.SObj.lo,ne_eq,zgy,↓qc,↓reduceIte,Nat.reduceAdd,Nat.reduceEqDiff,Nat.reduceMul,Nat.reduceLT,Nat.reduceLeDiff,Nat.reducePow,reduceCtorEq]
 ·rintro⟨⟨b,s⟩,g⟩ hbs
  rw[List.take_length]at hbs
  simp only at hbs⊢
  rw[←hbs]
  simp only[qdp,Int.lt_irrefl,Ev.ev1,zgy,↓qc,↓reduceIte,Nat.reduceEqDiff,reduceCtorEq]
  exact⟨_,rfl,g,rfl,rfl,rfl,rfl,rfl⟩
theorem exec_l2 (h0:R0.lo 10=true) (h4:X4.lo 10=true) (h5:X5.lo 10=true) (h6:X6.lo 10=true) (h7:X7.lo 10=true) (h8:X8.lo 10=true) (h9:X9.lo 10=true) (G:List (List Int)) (cg:Bool) (b:List Evt) (s:List Evt) (g2:Nat) (hb:b.length≤1000000) (hk:qc4 b) (hG:G.length≤1000000) (hGk : ∀k∈G,k.length≤9223372036854775807) :
  ∃y,itB (exec (evL T) itL none qer) (qai [0,81,82,83] true 10) ⟨[(0,.ptr 3 0 0 0),(81,(.fsl ((G).map qna) cg)),(82,(ii G.length)),(83,(ii ((0:Nat))))],[]⟩ (R0 :: .row 6 ((dn).map Evt.r) g1 :: .row 6 ((s).map Evt.r) g2 :: .row 8 [[(ii ((x).r0)),(ii ((x).r1)),(.fsl (((x).procs).map Pr.r) f),(ii ((x).sum)),(.fsl ((b).map Evt.r) false),.sl 1 g1 0 (dn).length false,.sl 2 g2 0 (s).length false,(bb o)]] 0::[X4,X5,X6,X7,X8,X9])=some y ∧
   (y.1 = .exit 2∧y.2.1.marks=[]∧y.2.2=(R0 :: .row 6 ((dn).map Evt.r) g1 :: .row 6 ((s).map Evt.r) g2 :: .row 8 [[(ii ((x).r0)),(ii ((x).r1)),(.fsl (((x).procs).map Pr.r) f),(ii ((x).sum)),(.fsl (((qxu b G)).map Evt.r) false),.sl 1 g1 0 (dn).length false,.sl 2 g2 0 (s).length false,(bb o)]] 0::[X4,X5,X6,X7,X8,X9])):=by
 simp only[SObj.lo]at h0 h4 h5 h6 h7 h8 h9
 have key:=qg5 (f:=exec (evL T) itL none qer) (s:=qai [0,81,82,83] true 10) (α:=List Evt)
  (fun i a=>⟨[(0,.ptr 3 0 0 0),(81,(.fsl ((G).map qna) cg)),(82,(ii G.length)),(83,(ii i))],[]⟩) (fun _ a=>(R0 :: .row 6 ((dn).map Evt.r) g1 :: .row 6 ((s).map Evt.r) g2 :: .row 8 [[(ii ((x).r0)),(ii ((x).r1)),(.fsl (((x).procs).map Pr.r) f),(ii ((x).sum)),(.fsl ((a).map Evt.r) false),.sl 1 g1 0 (dn).length false,.sl 2 g2 0 (s).length false,(bb o)]] 0::[X4,X5,X6,X7,X8,X9])) (fun i a=>a=qxu b (G.take i)) G.length
  (fun y=>y.1 = .exit 2∧y.2.1.marks=[]∧y.2.2=(R0 :: .row 6 ((dn).map Evt.r) g1 :: .row 6 ((s).map Evt.r) g2 :: .row 8 [[(ii ((x).r0)),(ii ((x).r1)),(.fsl (((x).procs).map Pr.r) f),(ii ((x).sum)),(.fsl (((qxu b G)).map Evt.r) false),.sl 1 g1 0 (dn).length false,.sl 2 g2 0 (s).length false,(bb o)]] 0::[X4,X5,X6,X7,X8,X9])) ?_ ?_ 0 b (Nat.zero_le _) rfl
 ·exact key
 ·rintro i a hi ha
  obtain⟨k,hkk⟩ : ∃k,G[i]? = some k:=⟨_,zgE hi⟩
  have hi':(i:Int)<(G.length:Int):=by omega
  have hw:IntKind.i64.wrap ((i:Int)+1)=((i+1:Nat):Int):=by rw[qi (by omega) (by omega)];simp
  have hs:a.Sublist b:=by rw[ha];exact qol _ _
  obtain⟨cf,_,hC⟩:=q4m a false k false (by have:=hs.length_le;omega) (fun z hz=>hk z (hs.subset hz)) (hGk k (zmg hkk)) (fun _=>rfl)
  refine .inl ⟨(qiw a k).1,?_,by rw[List.take_add_one,hkk,ha];exact(qahp _ _ _).symm⟩
  generalize qiw a k=ck at *
  obtain⟨cl,cb⟩:=ck
  simp only at hC⊢
  simp only[qer,zgs,zgr,zgq,zgt,hkk,hi',hw,hC,qna,h0,h4,h5,h6,h7,h8,h9,qq,qm,qew,qa3,Ev.ev1,Ev.stP,qb,Ev.AV.cells,Ev.AV.uc,Ev.AV.plain,Ev.SObj.lo,zgy,↓qc,↓reduceIte,Nat.reduceAdd,Nat.reduceEqDiff,Nat.reduceLT,Nat.reduceLeDiff,reduceCtorEq]
 ·rintro a ha
  rw[List.take_length]at ha
  rw[←ha]
  simp only[qer,Int.lt_irrefl,Ev.ev1,zgy,↓qc,↓reduceIte,Nat.reduceEqDiff,reduceCtorEq]
  exact⟨_,rfl,rfl,rfl,rfl⟩
theorem qah4 (h0:R0.lo 9=true) (h4:X4.lo 9=true) (h5:X5.lo 9=true) (h6:X6.lo 9=true) (h7:X7.lo 9=true) (h8:X8.lo 9=true) (w:WSt) (rest:List Evt) (g2:Nat) (R:Ready c w.lp e) (hf:f=true→w.lp.procs=[]) (hP:PlOk (rest,w.sent) (qa1 c w.lp e).out) (hd:w.done.length≤100000) :
  ∃g1' g2':Nat,(evL T).call qdm [.ptr 3 0 0 0,(.agg [(.fsl ((c.lps).map lpC) false),(.fsl ((c.progs).map qaz) false),(ii c.look),(ii c.fin),(ii c.cap)]),(.agg [(ii e.time),(.fsl ((e.key).map qa0) false),(ii e.lp),(ii e.kind),(ii e.proc),(ii e.arg)])] (R0 :: .row 6 ((w.done).map Evt.r) g1 :: .row 6 ((w.sent).map Evt.r) g2 :: .row 8 [[(ii ((w.lp).r0)),(ii ((w.lp).r1)),(.fsl (((w.lp).procs).map Pr.r) f),(ii ((w.lp).sum)),(.fsl ((rest).map Evt.r) false),.sl 1 g1 0 (w.done).length false,.sl 2 g2 0 (w.sent).length false,(bb w.over)]] 0::[X4,X5,X6,X7,X8]) =
   some (.tup [],(R0 :: .row 6 (((w.step c e rest).done).map Evt.r) g1' :: .row 6 (((w.step c e rest).sent).map Evt.r) g2' :: .row 8 [[(ii (((w.step c e rest).lp).r0)),(ii (((w.step c e rest).lp).r1)),(.fsl ((((w.step c e rest).lp).procs).map Pr.r) f),(ii (((w.step c e rest).lp).sum)),(.fsl (((w.step c e rest).box).map Evt.r) false),.sl 1 g1' 0 ((w.step c e rest).done).length false,.sl 2 g2' 0 ((w.step c e rest).sent).length false,(bb ((w.step c e rest).over))]] 0::[X4,X5,X6,X7,X8])):=by
 have mono : ∀ {X:SObj},X.lo 9=true→X.lo 10=true:=fun h=>qws (by omega) _ h
 have hz:=R.sizes
 have hE:=qahe R f hf
 obtain⟨wl,wb,wd,ws,wo⟩:=w
 simp only at R hP hz hE hd hf⊢
 unfold WSt.step
 simp only
 generalize hr:qa1 c wl e=r at *
 obtain⟨⟨y1,f1,σ1⟩,k1,g2',k2,k3,k4,k5,k6⟩:=exec_l1 (e:=e) R0 X4 X5 X6 X7 X8 (.row 4 [[(ii r.lp.r0),(ii r.lp.r1),(.fsl ((r.lp.procs).map Pr.r) f),(ii r.lp.sum)]] 0) (wd++[e]) (g1+1) r.lp (wo||r.over) f (mono h0) (mono h4) (mono h5) (mono h6) (mono h7) (mono h8) (by simp only[qa3,Ev.ev1,Ev.SObj.lo,zgy]) r.out r.nil (rest,ws) g2 hP ((.fsl ((r.gone).map qna) r.nil)) (by simp only[qew,Ev.ev1,zgy])
 have hpl:=qsm e.lp r.out (rest,ws) []
 have hln:=hP.len
 have hkk:=hP.ok
 rw[List.append_nil,List.append_nil]at hpl
 obtain⟨⟨y2,f2,σ2⟩,m1,m2,m3,m4⟩:=exec_l2 R0 X4 X5 X6 X7 X8 (.row 4 [[(ii r.lp.r0),(ii r.lp.r1),(.fsl ((r.lp.procs).map Pr.r) f),(ii r.lp.sum)]] 0) (wd++[e]) (g1+1) r.lp (wo||r.over) f (mono h0) (mono h4) (mono h5) (mono h6) (mono h7) (mono h8) (by simp only[qa3,Ev.ev1,Ev.SObj.lo,zgy]) r.gone r.nil (qfw e.lp (rest,ws) r.out).1 (qfw e.lp (rest,ws) r.out).2 g2'
  (by have:=hpl.length_eq;simp only[zgp]at this hln;omega) (fun z hz'=>hkk z (hpl.mem_iff.1 (List.mem_append_left _ hz'))) (by omega) (fun k hk'=>by have:=hz.2.2.2.2.1 k hk';omega)
 simp only[Int.ofNat_zero]at k1 k2 k3 k4 k5 k6 m1 m2 m3 m4
 subst k2;subst k4;subst m2;subst m4
 refine⟨g1+1,g2',?_⟩
 have bd:(wd.length+1)*64≤140737488355328:=by omega
 have tk:List.take wd.length (wd.map Evt.r)=wd.map Evt.r:=ztl (by simp)
 have hle:wd.length≤wd.length:=Nat.le_refl _
 have j0:=mono h0
 have j4:=mono h4
 have j5:=mono h5
 have j6:=mono h6
 have j7:=mono h7
 have j8:=mono h8
 simp only[SObj.lo]at h0 h4 h5 h6 h7 h8 j0 j4 j5 j6 j7 j8
 generalize (qfw e.lp (rest,ws) r.out).2=Z at *
 generalize (qfw e.lp (rest,ws) r.out).1=B at *
 generalize qxu B r.gone=B' at *
 obtain⟨et,ek,el,ei,ep,ea⟩:=e
 obtain⟨a0,a1,ap,as'⟩:=wl
 have lo:=qq 9 (wd++[⟨et,ek,el,ei,ep,ea⟩])
 have lo10:=qq 10 (wd++[⟨et,ek,el,ei,ep,ea⟩])
 rw[List.map_append]at lo lo10 k1 m1
 simp only[List.map_append,zgp,List.map_cons,List.map_nil,zga,zgb,zfd,Evt.r]at lo lo10 k1 m1⊢
 rw[qe qs6 qrp]
 cases wo with
 |true=>
  simp only[Bool.true_or]at k1 m1⊢
  simp only[qgf,hE,k1,k3,k5,k6,m1,m3,bd,tk,hle,lo,lo10,h0,h4,h5,h6,h7,h8,j0,j4,j5,j6,j7,j8,qq,qm,qew,qa3,qa2,qu,Ev.ev1,Ev.stP,q3t,qb,qdj,Ev.AV.cells,Ev.AV.uc,Ev.AV.plain,qh,Ev.SObj.lo,ne_eq,zgy,↓qc,↓qv,↓reduceIte,Nat.reduceAdd,Nat.reduceEqDiff,Nat.reduceMul,Nat.reduceLT,Nat.reduceLeDiff,Nat.reducePow,reduceCtorEq]
 |false=>
  simp only[Bool.false_or]at k1 m1⊢
  simp only[qgf,hE,k1,k3,k5,k6,m1,m3,bd,tk,hle,lo,lo10,h0,h4,h5,h6,h7,h8,j0,j4,j5,j6,j7,j8,qq,qm,qew,qa3,qa2,qu,Ev.ev1,Ev.stP,q3t,qb,qdj,Ev.AV.cells,Ev.AV.uc,Ev.AV.plain,qh,Ev.SObj.lo,ne_eq,zgy,↓qc,↓qv,↓reduceIte,Nat.reduceAdd,Nat.reduceEqDiff,Nat.reduceMul,Nat.reduceLT,Nat.reduceLeDiff,Nat.reducePow,reduceCtorEq]
end
set_option maxRecDepth 10000
theorem WInv.run {c:Cfg} {i:Nat} {O:List Evt} (hor:Int) : ∀(k:Nat) {w:WSt} {S:Sim} {H:List Evt},WInv c i w O S H→H.length+k≤20000 →
  ∃(S':Sim) (es:List Evt),WInv c i (WSt.run c hor k w) O S' (H++es)∧(WSt.run c hor k w).done=w.done++es∧S'.lps=S.lps.set i (WSt.run c hor k w).lp∧es.length≤k
 | 0,w,S,H,h,_=>⟨S,[],by rw[List.append_nil];exact h,(List.append_nil _).symm,(by
   have:S.lps.set i w.lp=S.lps:=List.ext_getElem? fun j=>by
    by_cases e:i=j
    ·subst e;rw[List.getElem?_set_self (by rw[h.K.lpl];exact h.il),h.lp]
    ·rw[List.getElem?_set_ne e]
   exact this.symm),Nat.le_refl _⟩
 |k+1,w,S,H,h,hk=>by
  unfold WSt.run
  split
  ·obtain⟨S',es,h1,h2,h3,h4⟩:=WInv.run hor 0 h (by omega)
   exact⟨S',es,h1,h2,h3,by omega⟩
  next e rest hb=>
   split
   ·obtain⟨S1,g1,g2⟩:=h.step (by omega) hb
    obtain⟨S',es,h1,h2,h3,h4⟩:=WInv.run hor k g1 (by simp;omega)
    refine⟨S',e::es,by simpa using h1,by rw[h2];simp[WSt.step],?_,by simp;omega⟩
    rw[h3,g2,List.set_set]
   ·obtain⟨S',es,h1,h2,h3,h4⟩:=WInv.run hor 0 h (by omega)
    exact⟨S',es,h1,h2,h3,by omega⟩
def pL (c:Cfg):SObj:=.loop ⟨[(4,(.fptr [(.fsl ((c.lps).map lpC) false),(.fsl ((c.progs).map qaz) false),(ii c.look),(ii c.fin),(ii c.cap)])),(13,.ptr 4 0 0 0)],[]⟩ [22] qfy qf2 .ready none
def pLb (c:Cfg):SObj:=.loop ⟨[(4,(.fptr [(.fsl ((c.lps).map lpC) false),(.fsl ((c.progs).map qaz) false),(ii c.look),(ii c.fin),(ii c.cap)])),(13,.ptr 4 0 0 0)],[]⟩ [22] qfy qf2 .busy none
def pS (c:Cfg) (f:Bool) (w:WSt) (b:List Evt) (g1 g2:Nat):qf:=((.row 4 [[(ii 0),(ii 0),.fsl [] false,(ii 0)]] 0) :: .row 6 ((w.done).map Evt.r) g1 :: .row 6 ((w.sent).map Evt.r) g2 :: .row 8 [[(ii ((w.lp).r0)),(ii ((w.lp).r1)),(.fsl (((w.lp).procs).map Pr.r) f),(ii ((w.lp).sum)),(.fsl ((b).map Evt.r) false),.sl 1 g1 0 (w.done).length false,.sl 2 g2 0 (w.sent).length false,(bb w.over)]] 0::[.row 1 [[.ptr 3 0 0 0]] 0,.defr,(pL c)])
section
variable {c:Cfg} {f:Bool}
theorem w_round {e:Evt} (w:WSt) (rest:List Evt) (g1 g2:Nat) (R:Ready c w.lp e) (hf:f=true→w.lp.procs=[]) (hP:PlOk (rest,w.sent) (qa1 c w.lp e).out) (hd:w.done.length≤100000) :
  ∃g1' g2':Nat,(evL T).round 6 [(.agg [(ii e.time),(.fsl ((e.key).map qa0) false),(ii e.lp),(ii e.kind),(ii e.proc),(ii e.arg)])] (pS c f w rest g1 g2++[.row 6 [e.r] 0])=some ((bb true),pS c f (w.step c e rest) (w.step c e rest).box g1' g2'++[.row 6 [e.r] 0]):=by
 obtain⟨g1',g2',h⟩:=qah4 (e:=e) (.row 4 [[(ii 0),(ii 0),.fsl [] false,(ii 0)]] 0) (.row 1 [[.ptr 3 0 0 0]] 0) .defr (pLb c) (.row 6 [e.r] 0) (.row 6 [e.r] 0) g1 f (by simp only[Ev.ev1,Ev.SObj.lo,zgy]) (by simp only[Ev.ev1,Ev.SObj.lo,zgy,Nat.reduceLT]) (by simp only[Ev.SObj.lo,zgy]) (by simp only[pLb,qa2,qu,Ev.ev1,Ev.SObj.lo,zgy,Nat.reduceLT]) (by simp only[Evt.r,qm,Ev.ev1,Ev.SObj.lo,zgy]) (by simp only[Evt.r,qm,Ev.ev1,Ev.SObj.lo,zgy]) w rest g2 R hf hP hd
 refine⟨g1',g2',?_⟩
 rw[qaek]
 generalize w.step c e rest=w' at *
 obtain⟨et,ek,el,ei,ep,ea⟩:=e
 simp only[pLb,Evt.r,qfy,qf2]at h
 simp only[pS,pL,qfy,qf2,zgm,zgl,Evt.r,h,qq,qm,qa3,qa2,qu,Ev.ev1,Ev.stP,qog,qb,Ev.AV.cells,Ev.AV.plain,Ev.SObj.lo,ne_eq,zgy,↓qc,↓reduceIte,Nat.reduceAdd,Nat.reduceEqDiff,Nat.reduceLT]
theorem events_L (hor:Int) : ∀(k:Nat) {w:WSt} {i:Nat} {O:List Evt} {S:Sim} {H:List Evt} (g1 g2:Nat),w.done.length+k=2000→WInv c i w O S H→(f=true→w.lp.procs=[])→H.length+k≤20000 →
  ∃y,itB (exec (evL T) itL none qbh) (qai [0,1,2] true 7) ⟨[(0,.yld 6),(1,.fptr [.ptr 3 0 0 0]),(2,.fptr [(ii hor)])],[]⟩ (pS c f w w.box g1 g2)=some y ∧
   ∃g1' g2':Nat,(y.1 = .exit 0∨y.1 = .ret)∧y.2.1.marks=[] ∧ ∃X:qf,y.2.2=pS c f (WSt.run c hor k w) (WSt.run c hor k w).box g1' g2'++X:=by
 intro k
 induction k with
 |zero=>
  intro w i O S H g1 g2 hk h hf hn
  have c1:¬(w.done.length:Int)<2000:=by omega
  have hx : ∃y,it1 (exec (evL T) itL none qbh) (qai [0,1,2] true 7) ⟨[(0,.yld 6),(1,.fptr [.ptr 3 0 0 0]),(2,.fptr [(ii hor)])],[]⟩ (pS c f w w.box g1 g2)=some (.inr y)∧(y.1 = .exit 0∨y.1 = .ret)∧y.2.1.marks=[]∧y.2.2=pS c f w w.box g1 g2:=by
   simp only[qbh,pS,pL,c1,Ev.ev1,qb,zgy,↓qc,↓reduceIte,reduceCtorEq]
   exact⟨_,rfl,by simp,rfl,rfl⟩
  obtain⟨y,h1,h2,h3,h4⟩:=hx
  exact⟨y,qnq h1,g1,g2,h2,h3,[],by rw[List.append_nil];exact h4⟩
 |succ k ih=>
  intro w i O S H g1 g2 hk h hf hn
  have c1:(w.done.length:Int)<2000:=by omega
  have hl:=h.len
  obtain⟨cf,hT⟩:=q8g w.box false hor (by omega)
  cases hb:w.box with
  |nil=>
   have hrun:WSt.run c hor (k+1) w=w:=by rw[WSt.run,hb]
   rw[hrun]
   rw[hb]at hT
   have hx : ∃y,it1 (exec (evL T) itL none qbh) (qai [0,1,2] true 7) ⟨[(0,.yld 6),(1,.fptr [.ptr 3 0 0 0]),(2,.fptr [(ii hor)])],[]⟩ (pS c f w [] g1 g2)=some (.inr y)∧(y.1 = .exit 0∨y.1 = .ret)∧y.2.1.marks=[] ∧ ∃X,y.2.2=pS c f w w.box g1 g2++X:=by
    rw[hb]
    simp only[q3g,qaia,List.map_nil]at hT
    simp only[qbh,pS,pL,c1,hT,List.map_nil,Ev.ev1,Ev.stP,qb,Ev.AV.cells,Ev.AV.plain,ne_eq,zgy,↓qc,↓reduceIte,Nat.reduceAdd,Nat.reduceEqDiff,reduceCtorEq]
    exact⟨_,rfl,by simp,rfl,_,rfl⟩
   obtain⟨y,h1,h2,h3,h4⟩:=hx
   exact⟨y,qnq h1,g1,g2,h2,h3,h4⟩
  |cons e rest=>
   rw[hb]at hT
   by_cases ht:e.time<hor
   ·have hrun:WSt.run c hor (k+1) w=WSt.run c hor k (w.step c e rest):=by rw[WSt.run,hb];simp only[ht,if_true]
    rw[hrun]
    obtain⟨_,R,_⟩:=h.ready (by omega) hb
    have hP:=h.plOk (by omega) hb
    obtain⟨S',hS,_⟩:=h.step (by omega) hb
    obtain⟨g1',g2',hr⟩:=w_round w rest g1 g2 R hf hP (by omega)
    obtain⟨y,k1,k2⟩:=ih (w:=w.step c e rest) (S:=S') (H:=H++[e]) g1' g2' (by simp[WSt.step];omega) hS (fun k=>q9l (hf k)) (by simp;omega)
    refine⟨y,qm3 ?_ k1,k2⟩
    clear k1 k2 ih hP R hS hrun
    generalize w.step c e rest=w' at *
    obtain⟨et,ek,el,ei,ep,ea⟩:=e
    simp only at ht
    simp only[q3g,ht,if_true,List.map_cons,Evt.r]at hT
    simp only[pS,pL,zgm,zgl,Evt.r]at hr
    have hlo':=fun(w:WSt)=>qa3 7 w.lp.procs
    simp only[qbh,pS,pL,c1,hT,hr,List.map_cons,Evt.r,zgm,qq,qm,qa3,qa2,qu,Ev.ev1,Ev.stP,qb,Ev.AV.cells,Ev.AV.uc,Ev.AV.plain,Ev.SObj.lo,ne_eq,zgy,↓qc,↓reduceIte,Nat.reduceAdd,Nat.reduceEqDiff,Nat.reduceLT,Nat.reduceLeDiff,reduceCtorEq]
   ·have hrun:WSt.run c hor (k+1) w=w:=by rw[WSt.run,hb];simp only[ht,if_false]
    rw[hrun]
    have hx : ∃y,it1 (exec (evL T) itL none qbh) (qai [0,1,2] true 7) ⟨[(0,.yld 6),(1,.fptr [.ptr 3 0 0 0]),(2,.fptr [(ii hor)])],[]⟩ (pS c f w (e::rest) g1 g2)=some (.inr y)∧(y.1 = .exit 0∨y.1 = .ret)∧y.2.1.marks=[] ∧ ∃X,y.2.2=pS c f w w.box g1 g2++X:=by
     rw[hb]
     obtain⟨et,ek,el,ei,ep,ea⟩:=e
     simp only at ht
     simp only[q3g,ht,if_false,qaia,List.map_cons,List.map_nil,Evt.r]at hT
     simp only[qbh,pS,pL,c1,hT,List.map_cons,Evt.r,qq,qm,Ev.ev1,Ev.stP,qb,Ev.AV.cells,Ev.AV.plain,ne_eq,zgy,↓qc,↓reduceIte,Nat.reduceAdd,Nat.reduceEqDiff,reduceCtorEq]
     exact⟨_,rfl,by simp,rfl,_,rfl⟩
    obtain⟨y,h1,h2,h3,h4⟩:=hx
    exact⟨y,qnq h1,g1,g2,h2,h3,h4⟩
theorem qak5 (hor:Int) {x:Lp} {b:List Evt} {i:Nat} {O:List Evt} {S:Sim} {H:List Evt} (h:WInv c i ⟨x,b,[],[],false⟩ O S H) (hf:f=true→x.procs=[]) (hn:H.length≤18000) :
  ∃g1 g2:Nat,(evL T).call qck [.yld 6,.fptr [.ptr 3 0 0 0],.fptr [(ii hor)]] (pS c f ⟨x,b,[],[],false⟩ b 0 0)=some (.tup [],pS c f (WSt.run c hor 2000 ⟨x,b,[],[],false⟩) (WSt.run c hor 2000 ⟨x,b,[],[],false⟩).box g1 g2):=by
 obtain⟨⟨y,e,σ⟩,k1,g1,g2,k2,k3,X,k4⟩:=events_L hor 2000 0 0 rfl h hf (by omega)
 simp only at k1 k2 k3 k4
 subst k4
 refine⟨g1,g2,?_⟩
 rw[qe qmj qrf]
 generalize WSt.run c hor 2000 ⟨x,b,[],[],false⟩=w at *
 have hn1 : ∀(w:WSt) (b:List Evt) (g1 g2:Nat),(pS c f w b g1 g2).length=7:=fun _ _ _ _=>rfl
 have ht : ∀(w:WSt) (b:List Evt) (g1 g2:Nat) (X:qf),(pS c f w b g1 g2++X).take 7=pS c f w b g1 g2:=fun _ _ _ _ _=>List.take_left' rfl
 have hlo : ∀(w:WSt) (b:List Evt) (g1 g2:Nat),qct 7 (pS c f w b g1 g2)=true:=fun w b g1 g2=>by simp only[pS,pL,qq,qa3,qa2,qu,Ev.ev1,Ev.SObj.lo,zgy,Nat.reduceLT]
 have ht0 : ∀(w:WSt) (b:List Evt) (g1 g2:Nat),(pS c f w b g1 g2).take 7=pS c f w b g1 g2:=fun _ _ _ _=>rfl
 rcases k2 with rfl|rfl
 ·simp only[qfl,hn1,ht,ht0,hlo,k1,k3,Ev.ev1,qh,zgy,↓qc,↓qv,↓reduceIte,Nat.reduceAdd,Nat.reduceEqDiff,Nat.reduceLT,reduceCtorEq]
 ·simp only[qfl,hn1,ht,ht0,hlo,k1,k3,Ev.ev1,qh,zgy,↓qc,↓qv,↓reduceIte,Nat.reduceAdd,Nat.reduceEqDiff,Nat.reduceLT,reduceCtorEq]
theorem qad8 (f:Bool) (w:WSt) (g1 g2:Nat) (R0 X4 X5 X6:SObj) (h0:R0.lo 7=true) (h4:X4.lo 7=true) (h5:X5.lo 7=true) (h6:X6.lo 7=true):(evL T).call qdy [.ptr 3 0 0 0] (R0 :: .row 6 ((w.done).map Evt.r) g1 :: .row 6 ((w.sent).map Evt.r) g2 :: .row 8 [[(ii ((w.lp).r0)),(ii ((w.lp).r1)),(.fsl (((w.lp).procs).map Pr.r) f),(ii ((w.lp).sum)),(.fsl ((w.box).map Evt.r) false),.sl 1 g1 0 (w.done).length false,.sl 2 g2 0 (w.sent).length false,(bb w.over)]] 0::[X4,X5,X6]) =
  some (.tup [.agg [(ii w.lp.r0),(ii w.lp.r1),(.fsl ((w.lp.procs).map Pr.r) f),(ii w.lp.sum)],(.fsl ((w.box).map Evt.r) false),.sl 1 g1 0 w.done.length false,.sl 2 g2 0 w.sent.length false,(bb w.over)],(R0 :: .row 6 ((w.done).map Evt.r) g1 :: .row 6 ((w.sent).map Evt.r) g2 :: .row 8 [[(ii ((w.lp).r0)),(ii ((w.lp).r1)),(.fsl (((w.lp).procs).map Pr.r) f),(ii ((w.lp).sum)),(.fsl ((w.box).map Evt.r) false),.sl 1 g1 0 (w.done).length false,.sl 2 g2 0 (w.sent).length false,(bb w.over)]] 0::[X4,X5,X6])):=by
 simp only[SObj.lo]at h0 h4 h5 h6
 rw[qe qur qsy]
 simp only[qii,h0,h4,h5,h6,qq,qa3,Ev.ev1,Ev.stP,qb,Ev.AV.cells,Ev.AV.plain,qh,Ev.SObj.lo,Ev.AV.obj?,ne_eq,zgy,↓qc,↓reduceIte,Nat.reduceAdd,Nat.reduceEqDiff,Nat.reduceBEq,Nat.reduceLT,Nat.reduceLeDiff,reduceCtorEq]
 try rfl
theorem qaij (hor:Int) {x:Lp} {b:List Evt} {cb:Bool} {i:Nat} {O:List Evt} {S:Sim} {H:List Evt} (h:WInv c i ⟨x,b,[],[],false⟩ O S H) (hf:f=true→x.procs=[]) (hn:H.length≤18000) :
  qac (evL T) qg1 [(.agg [(.fsl ((c.lps).map lpC) false),(.fsl ((c.progs).map qaz) false),(ii c.look),(ii c.fin),(ii c.cap)]),(.agg [(ii x.r0),(ii x.r1),(.fsl ((x.procs).map Pr.r) f),(ii x.sum)]),(.fsl ((b).map Evt.r) cb),(ii hor)]=some (.tup [(.agg [(ii ((WSt.run c hor 2000 ⟨x,b,[],[],false⟩).lp.r0)),(ii ((WSt.run c hor 2000 ⟨x,b,[],[],false⟩).lp.r1)),(.fsl (((WSt.run c hor 2000 ⟨x,b,[],[],false⟩).lp.procs).map Pr.r) f),(ii ((WSt.run c hor 2000 ⟨x,b,[],[],false⟩).lp.sum))]),(.fsl (((WSt.run c hor 2000 ⟨x,b,[],[],false⟩).box).map Evt.r) false),(.fsl (((WSt.run c hor 2000 ⟨x,b,[],[],false⟩).done).map Evt.r) false),(.fsl (((WSt.run c hor 2000 ⟨x,b,[],[],false⟩).sent).map Evt.r) false),(bb ((WSt.run c hor 2000 ⟨x,b,[],[],false⟩).over))]):=by
 obtain⟨g1,g2,h1⟩:=qak5 hor h hf hn
 generalize WSt.run c hor 2000 ⟨x,b,[],[],false⟩=w at *
 have h2:=qad8 f w g1 g2 (.row 4 [[(ii 0),(ii 0),.fsl [] false,(ii 0)]] 0) (.row 1 [[.ptr 3 0 0 0]] 0) .dead (.loop ⟨[(4,(.fptr [(.fsl ((c.lps).map lpC) false),(.fsl ((c.progs).map qaz) false),(ii c.look),(ii c.fin),(ii c.cap)])),(13,.ptr 4 0 0 0)],[]⟩ [22] qfy qf2 .exhausted none) (by simp only[Ev.ev1,Ev.SObj.lo,zgy]) (by simp only[Ev.ev1,Ev.SObj.lo,zgy,Nat.reduceLT]) (by simp only[Ev.SObj.lo,zgy]) (by simp only[qa2,qu,Ev.ev1,Ev.SObj.lo,zgy,Nat.reduceLT])
 have h2':=qad8 f w g1 g2 (.row 4 [[(ii 0),(ii 0),.fsl [] false,(ii 0)]] 0) (.row 1 [[.ptr 3 0 0 0]] 0) .defr (.loop ⟨[(4,(.fptr [(.fsl ((c.lps).map lpC) false),(.fsl ((c.progs).map qaz) false),(ii c.look),(ii c.fin),(ii c.cap)])),(13,.ptr 4 0 0 0)],[]⟩ [22] qfy qf2 .exhausted none) (by simp only[Ev.ev1,Ev.SObj.lo,zgy]) (by simp only[Ev.ev1,Ev.SObj.lo,zgy,Nat.reduceLT]) (by simp only[Ev.SObj.lo,zgy]) (by simp only[qa2,qu,Ev.ev1,Ev.SObj.lo,zgy,Nat.reduceLT])
 have hev : ∀ σ:qf,(evL T).call qd3 [.ptr 3 0 0 0,(ii hor)] σ=some (.fn (.func qck) [] [.fptr [.ptr 3 0 0 0],.fptr [(ii hor)]],σ):=fun σ=>by
  rw[qe qt0 qsr]
  simp only[qig,ite_self,List.take_length,Ev.ev1,Ev.AV.cells,Ev.AV.uc,Ev.AV.plain,qh,ne_eq,zgy,↓qc,↓reduceIte,Nat.reduceAdd,Nat.reduceEqDiff,reduceCtorEq]
 have tk1:List.take w.done.length (w.done.map Evt.r)=w.done.map Evt.r:=ztl (by simp)
 have tk2:List.take w.sent.length (w.sent.map Evt.r)=w.sent.map Evt.r:=ztl (by simp)
 have hle : ∀n:Nat,n≤n:=fun n=>Nat.le_refl n
 simp only[pS,pL,List.map_nil,zgb]at h1
 rw[qac,qe q2y q1n]
 simp only[qnr,hev,h1,h2',tk1,tk2,hle,qamc qmj,qq,qa3,Ev.ev1,Ev.stP,qb,Ev.AV.cells,Ev.AV.uc,Ev.AV.plain,qh,ne_eq,zgy,↓qc,↓reduceIte,Nat.reduceAdd,Nat.reduceEqDiff,Nat.reduceLT,Nat.reduceLeDiff,reduceCtorEq]
end
set_option maxRecDepth 10000
structure SimSt (n:Nat) (s:Sim) (L:List (Lp×Bool)) (A:qf) (O:List (List AV)):Prop where
 len:A.length=n+1
 lps:A[0]? = some (.row 4 (L.map lpF) 1)
 lpl:L.length=n
 lpf:L.map Prod.fst=s.lps
 flag : ∀x∈L,x.2=true→x.1.procs=[]
 trl:s.trace.length=n
 ol:O.length=n
 tr : ∀i:Nat,i<n → ∃g,A[i+1]? = some (.row 6 ((qiu s i).map Evt.r) g)∧O[i]? = some [.sl (i+1) g 0 (qiu s i).length false]
 alo:qct (n+1) A=true
 olo:qc5 (n+1) O=true
def qy4:CCode→CCode
 | .seq a _=>a
 |c=>c
def qyq:CCode→CCode
 | .seq _ b=>b
 |c=>c
def cm1:CCode:=qy4 qx.body
def qakm:CCode:=qyq qx.body
def cm2:CCode:=qy4 qakm
def cm2':CCode:=qyq qakm
def cm3:CCode:=qy4 cm2'
def cm3':CCode:=qyq cm2'
def cm4:CCode:=qy4 cm3'
def cm4':CCode:=qyq cm3'
def cm5:CCode:=qy4 cm4'
def cm5':CCode:=qyq cm4'
def cm6:CCode:=qy4 cm5'
def cm6':CCode:=qyq cm5'
def cm7:CCode:=qy4 cm6'
def cm7':CCode:=qyq cm6'
def cm8:CCode:=qy4 cm7'
def cm9:CCode:=qyq cm7'
theorem qage:qx.body = .seq cm1 (.seq cm2 (.seq cm3 (.seq cm4 (.seq cm5 (.seq cm6 (.seq cm7 (.seq cm8 cm9))))))):=rfl
section
variable {A:qf} {n:Nat} (h:A.length=n+1) (B:qf) (x:SObj)
include h
theorem q7z:(A++B)[n+1]? = B[0]?:=by rw[←h,List.getElem?_append_right (Nat.le_refl _),Nat.sub_self]
theorem qod:(A++B)[n+2]? = B[1]?:=by rw[List.getElem?_append_right (by omega)];congr 1;omega
theorem qadu:(A++B)[n+3]? = B[2]?:=by rw[List.getElem?_append_right (by omega)];congr 1;omega
theorem pre_g4:(A++B)[n+4]? = B[3]?:=by rw[List.getElem?_append_right (by omega)];congr 1;omega
theorem pre_g5:(A++B)[n+5]? = B[4]?:=by rw[List.getElem?_append_right (by omega)];congr 1;omega
theorem pre_g6:(A++B)[n+6]? = B[5]?:=by rw[List.getElem?_append_right (by omega)];congr 1;omega
theorem pre_s1:(A++B).set (n+1) x=A++B.set 0 x:=by rw[List.set_append,if_neg (by omega)];congr 2;omega
theorem qabj:(A++B).set (n+2) x=A++B.set 1 x:=by rw[List.set_append,if_neg (by omega)];congr 2;omega
theorem pre_s3:(A++B).set (n+3) x=A++B.set 2 x:=by rw[List.set_append,if_neg (by omega)];congr 2;omega
theorem pre_s4:(A++B).set (n+4) x=A++B.set 3 x:=by rw[List.set_append,if_neg (by omega)];congr 2;omega
theorem pre_s5:(A++B).set (n+5) x=A++B.set 4 x:=by rw[List.set_append,if_neg (by omega)];congr 2;omega
theorem pre_s6:(A++B).set (n+6) x=A++B.set 5 x:=by rw[List.set_append,if_neg (by omega)];congr 2;omega
theorem q70 (i:Nat) (hi:i<n+1):(A++B)[i]? = A[i]?:=List.getElem?_append_left (by omega)
theorem qaca (i:Nat) (hi:i<n+1):(A++B).set i x=A.set i x++B:=by rw[List.set_append,if_pos (by omega)]
theorem qaa9:(A++B).take (n+3)=A++B.take 2:=by rw[List.take_append,ztl (by omega)];congr 2;omega
end
section
variable (c:Cfg) (n:Nat) (A:qf) (O:List (List AV)) (hA:A.length=n+1) (rest:List Evt) (e:Evt) (k:Int) (ov:Bool)
include hA
theorem qakn (env:Env) (h0:Ev.look env.vars 0=some (.ptr (n+2) 0 0 0)) :
  ∃env',exec (evL T) itL none cm1 env (A++[.row 1 O 0,(.row 10 [[(.fsl ((c.lps).map lpC) false),(.fsl ((c.progs).map qaz) false),(ii c.look),(ii c.fin),(ii c.cap),.sl (n+1) 0 0 n false,.sl 0 1 0 n false,(.fsl ((e::rest).map Evt.r) false),(ii k),(bb ov)]] 0)])=some (.normal,env',A++[.row 1 O 0,(.row 10 [[(.fsl ((c.lps).map lpC) false),(.fsl ((c.progs).map qaz) false),(ii c.look),(ii c.fin),(ii c.cap),.sl (n+1) 0 0 n false,.sl 0 1 0 n false,(.fsl ((e::rest).map Evt.r) false),(ii k),(bb ov)]] 0),.row 6 [e.r] 0,.hole]) ∧
   env'.marks=env.marks∧Ev.look env'.vars 0=some (.ptr (n+2) 0 0 0)∧Ev.look env'.vars 2=some (.ptr (n+3) 0 0 0):=by
 simp only[cm1,qy4,qx,h0,qod hA,qadu hA,pre_s3 hA,hA,Nat.add_assoc,List.append_assoc,List.map_cons,Evt.r,Int.toNat_zero,Int.le_refl,Ev.ev1,Ev.stP,qb,Ev.AV.cells,Ev.AV.plain,ne_eq,zgy,↓qc,↓reduceIte,Nat.reduceAdd,Nat.reduceEqDiff]
 refine⟨_,rfl,?_,?_,?_⟩
 ·rfl
 ·exact h0
 ·rfl
theorem qak1 (X:qf) (env:Env) (h0:Ev.look env.vars 0=some (.ptr (n+2) 0 0 0)) (h2:Ev.look env.vars 2=some (.ptr (n+3) 0 0 0)) :
  ∃env',exec (evL T) itL none cm2 env (A ++ .row 1 O 0::(.row 10 [[(.fsl ((c.lps).map lpC) false),(.fsl ((c.progs).map qaz) false),(ii c.look),(ii c.fin),(ii c.cap),.sl (n+1) 0 0 n false,.sl 0 1 0 n false,(.fsl ((e::rest).map Evt.r) false),(ii k),(bb ov)]] 0)::X)=some (.normal,env',A ++ .row 1 O 0::(.row 10 [[(.fsl ((c.lps).map lpC) false),(.fsl ((c.progs).map qaz) false),(ii c.look),(ii c.fin),(ii c.cap),.sl (n+1) 0 0 n false,.sl 0 1 0 n false,(.fsl ((rest).map Evt.r) false),(ii k),(bb ov)]] 0)::X) ∧
   env'.marks=env.marks∧Ev.look env'.vars 0=some (.ptr (n+2) 0 0 0)∧Ev.look env'.vars 2=some (.ptr (n+3) 0 0 0):=by
 have ok:=qow (e::rest)
 have c1:(1:Int)≤((rest.length+1:Nat):Int):=by omega
 have c2:(((rest.length+1:Nat):Int)).toNat-1=rest.length:=by omega
 have tk:List.take rest.length (rest.map Evt.r)=rest.map Evt.r:=ztl (by simp)
 simp only[List.map_cons]at ok⊢
 simp only[qakm,cm2,qy4,qyq,qx,h0,qod hA,qabj hA,ok,c1,c2,tk,Int.le_refl,imp_self,Int.toNat_one,Ev.ev1,Ev.stP,qb,Ev.AV.cells,Ev.AV.uc,Ev.AV.plain,zgy,↓qc,↓reduceIte,Nat.reduceAdd,Nat.reduceEqDiff,Nat.reduceLeDiff,Int.reduceLE,reduceCtorEq]
 refine⟨_,rfl,?_,?_,?_⟩
 ·rfl
 ·exact h0
 ·exact h2
end
set_option maxRecDepth 10000
def qkv:List Evt→List Evt→List Evt
 | [],b=>b
 |x::ax,[]=>x::ax
 |x::ax,y::bs=>if qx5 y x<0 then y::qkv (x::ax) bs else x::qkv ax (y::bs)
termination_by a b=>a.length+b.length
theorem qabt (b:List Evt):qkv [] b=b:=by rw[qkv]
theorem qaey (a:List Evt):qkv a []=a:=by cases a<;>rw[qkv]
theorem qrw : ∀(a b:List Evt),(qkv a b).Perm (a++b)
 | [],b=>by rw[qkv];exact List.Perm.refl _
 |x::ax,[]=>by rw[qkv,List.append_nil]
 |x::ax,y::bs=>by
  rw[qkv]
  split
  ·exact(List.Perm.cons y (qrw (x::ax) bs)).trans List.perm_middle.symm
  ·exact List.Perm.cons x (qrw ax (y::bs))
termination_by a b=>a.length+b.length
theorem qwk : ∀(a b:List Evt),a.Pairwise leE→b.Pairwise leE→(qkv a b).Pairwise leE
 | [],b,_,hb=>by rw[qkv];exact hb
 |x::ax,[],ha,_=>by rw[qkv];exact ha
 |x::ax,y::bs,ha,hb=>by
  rw[qkv]
  have ha':=List.pairwise_cons.1 ha
  have hb':=List.pairwise_cons.1 hb
  split
  ·rename_i h
   refine List.pairwise_cons.2 ⟨fun z hz => ?_,qwk (x::ax) bs ha hb'.2⟩
   rcases List.mem_append.1 ((qrw _ _).mem_iff.1 hz)with hz|hz
   ·rcases List.mem_cons.1 hz with rfl|hz
    ·exact q9s y _ h
    ·exact qox y x z (q9s y x h) (ha'.1 z hz)
   ·exact hb'.1 z hz
  ·rename_i h
   have hxy:=qvh y x h
   refine List.pairwise_cons.2 ⟨fun z hz => ?_,qwk ax (y::bs) ha'.2 hb⟩
   rcases List.mem_append.1 ((qrw _ _).mem_iff.1 hz)with hz|hz
   ·exact ha'.1 z hz
   ·rcases List.mem_cons.1 hz with rfl|hz
    ·exact hxy
    ·exact qox x y z hxy (hb'.1 z hz)
termination_by a b=>a.length+b.length
def mS (a b out:List Evt) (g:Nat):qf:=[.row 1 [[(.fsl ((a).map Evt.r) false)]] 0,.row 1 [[(.fsl ((b).map Evt.r) false)]] 0,.row 6 (out.map Evt.r) g,.row 1 [[.sl 2 g 0 out.length false]] 0,.defr,.loop ⟨[(2,.ptr 3 0 0 0)],[]⟩ [7] qbp qbo .ready none]
theorem q7q (a b out:List Evt) (g:Nat) (x:Evt) (h:out.length≤1000000):(evL T).round 5 [(.agg [(ii x.time),(.fsl ((x.key).map qa0) false),(ii x.lp),(ii x.kind),(ii x.proc),(ii x.arg)])] (mS a b out g)=some ((bb true),mS a b (out++[x]) (g+1)):=by
 rw[qaek]
 have hb:(out.length+1)*64≤140737488355328:=by omega
 have htk:(out.map Evt.r).take out.length=out.map Evt.r:=ztl (by simp)
 have hr:(out++[x]).map Evt.r=out.map Evt.r++[x.r]:=by rw[List.map_append];rfl
 have hl:(out++[x]).length=out.length+1:=by simp
 rw[mS,mS,hr,hl]
 obtain⟨xt,xk,xl,xi,xp,xa⟩:=x
 simp only[qbp,qbo,hb,htk,q2v,Evt.r,qq,qm,Ev.ev1,Ev.stP,qog,q3t,qb,qdj,Ev.AV.cells,Ev.AV.uc,Ev.AV.plain,Ev.SObj.lo,ne_eq,zgy,↓qc,↓reduceIte,Nat.reduceAdd,Nat.reduceEqDiff,Nat.reduceMul,Nat.reduceLT,Nat.reduceLeDiff,Nat.reducePow]
section
variable (a0 b0:List Evt)
structure MgInv (s:(List Evt×List Evt)×(List Evt×Nat)):Prop where
 sum:s.2.1++qkv s.1.1 s.1.2=qkv a0 b0
 len:s.2.1.length+(s.1.1.length+s.1.2.length)≤1000000
 ka:qc4 s.1.1
 kb:qc4 s.1.2
theorem mg_L (hl:(a0++b0).length≤1000000) (ha:qc4 a0) (hb:qc4 b0) :
  ∃y,itB (exec (evL T) itL none qdx) (qai [0,1,2] true 6) ⟨[(0,.yld 5),(1,.ptr 0 0 0 0),(2,.ptr 1 0 0 0)],[]⟩ (mS a0 b0 [] 0)=some y ∧ ∃g:Nat,y.1 = .exit 0∧y.2.1.marks=[]∧y.2.2=mS [] [] (qkv a0 b0) g:=by
 have key:=qku (f:=exec (evL T) itL none qdx) (s:=qai [0,1,2] true 6) (τ:=(List Evt×List Evt)×(List Evt×Nat)) (fun _=>⟨[(0,.yld 5),(1,.ptr 0 0 0 0),(2,.ptr 1 0 0 0)],[]⟩) (fun s=>mS s.1.1 s.1.2 s.2.1 s.2.2) (fun s=>s.1.1.length+s.1.2.length)
  (MgInv a0 b0) (fun y => ∃g:Nat,y.1 = .exit 0∧y.2.1.marks=[]∧y.2.2=mS [] [] (qkv a0 b0) g) ?_ ((a0,b0),([],0)) ⟨rfl,by simpa using hl,ha,hb⟩
 ·exact key
 rintro⟨⟨a,b⟩,⟨out,g⟩⟩ ⟨h1,h2,h3,h4⟩
 simp only at h1 h2 h3 h4⊢
 have w00:IntKind.i64.wrap 0=0:=rfl
 rcases a with _|⟨x,ax⟩<;>rcases b with _|⟨y,bs⟩
 ·right
  rw[qabt,List.append_nil]at h1
  rw[←h1]
  simp only[qdx,mS,List.map_nil,Int.add_zero,w00,Int.lt_irrefl,gt_iff_lt,Ev.ev1,qb,zgy,↓qc,↓reduceIte,Nat.reduceEqDiff,reduceCtorEq]
  exact⟨_,rfl,g,rfl,rfl,rfl⟩
 ·left
  have hr:=q7q [] (y::bs) out g y (by omega)
  refine⟨(([],bs),(out++[y],g+1)),?_,⟨?_,by simp at h2 ⊢;omega,h3,fun z hz=>h4 z (List.mem_cons_of_mem _ hz)⟩,by simp⟩
  ·have w1:IntKind.i64.wrap ((0:Int)+((bs.length+1:Nat):Int))=((bs.length+1:Nat):Int):=by simp at h2;rw[qi (by omega) (by omega)];omega
   have w2:((bs.length+1:Nat):Int)>0:=by omega
   have w3:(1:Int)≤((bs.length+1:Nat):Int):=by omega
   have tk:(bs.map Evt.r).take bs.length=bs.map Evt.r:=ztl (by simp)
   have ok:=qow bs
   clear h1 h4
   obtain⟨yt,yk,yl,yi,yp,ya⟩:=y
   simp only[mS,List.map_cons,List.map_nil,Evt.r,zgp,zga,zgb,zfd]at hr
   simp only[qdx,mS,List.map_cons,List.map_nil,Evt.r,zgr,hr,w1,w2,w3,tk,ok,Int.le_refl,Nat.add_sub_cancel,imp_self,qq,Ev.ev1,Ev.stP,qb,Ev.AV.cells,Ev.AV.uc,Ev.AV.plain,Ev.SObj.lo,zgy,↓qc,↓reduceIte,Nat.reduceAdd,Nat.reduceEqDiff,Nat.reduceLT,Int.reduceLE,Int.reduceToNat,reduceCtorEq]
  ·rw[qabt]at h1 ⊢;rw[←h1];simp
 ·left
  have hr:=q7q (x::ax) [] out g x (by omega)
  refine⟨((ax,[]),(out++[x],g+1)),?_,⟨?_,by simp at h2 ⊢;omega,fun z hz=>h3 z (List.mem_cons_of_mem _ hz),h4⟩,by simp⟩
  ·have w1:IntKind.i64.wrap (((ax.length+1:Nat):Int)+(0:Int))=((ax.length+1:Nat):Int):=by simp at h2;rw[qi (by omega) (by omega)];omega
   have w2:((ax.length+1:Nat):Int)>0:=by omega
   have w3:(1:Int)≤((ax.length+1:Nat):Int):=by omega
   have w4:¬((ax.length+1:Nat):Int)=0:=by omega
   have tk:(ax.map Evt.r).take ax.length=ax.map Evt.r:=ztl (by simp)
   have ok:=qow ax
   clear h1 h3
   obtain⟨xt,xk,xl,xi,xp,xa⟩:=x
   simp only[mS,List.map_cons,List.map_nil,Evt.r,zgp,zga,zgb,zfd]at hr
   simp only[qdx,mS,List.map_cons,List.map_nil,Evt.r,zgr,hr,w1,w2,w3,w4,tk,ok,Int.lt_irrefl,gt_iff_lt,Int.le_refl,Nat.add_sub_cancel,imp_self,qq,Ev.ev1,Ev.stP,qb,Ev.AV.cells,Ev.AV.uc,Ev.AV.plain,Ev.SObj.lo,zgy,↓qc,↓reduceIte,Nat.reduceAdd,Nat.reduceEqDiff,Nat.reduceLT,Int.reduceLE,Int.reduceToNat,reduceCtorEq]
  ·rw[qaey]at h1 ⊢;rw[←h1];simp
 ·left
  have w1:IntKind.i64.wrap (((ax.length+1:Nat):Int)+((bs.length+1:Nat):Int))=((ax.length+1+(bs.length+1):Nat):Int):=qoy (by simp at h2;omega)
  have w2:((ax.length+1+(bs.length+1):Nat):Int)>0:=by omega
  have w3:(1:Int)≤((ax.length+1:Nat):Int):=by omega
  have w4:¬((ax.length+1:Nat):Int)=0:=by omega
  have w5:((bs.length+1:Nat):Int)>0:=by omega
  have w6:(1:Int)≤((bs.length+1:Nat):Int):=by omega
  have hc:=qxo y x (h4 y (by simp)) (h3 x (by simp))
  by_cases hlt:qx5 y x<0
  ·have hr:=q7q (x::ax) (y::bs) out g y (by omega)
   refine⟨((x::ax,bs),(out++[y],g+1)),?_,⟨?_,by simp at h2 ⊢;omega,h3,fun z hz=>h4 z (List.mem_cons_of_mem _ hz)⟩,by simp⟩
   ·have tk:(bs.map Evt.r).take bs.length=bs.map Evt.r:=ztl (by simp)
    have ok:=qow bs
    clear h1 h3 h4
    obtain⟨xt,xk,xl,xi,xp,xa⟩:=x
    obtain⟨yt,yk,yl,yi,yp,ya⟩:=y
    simp only at hc
    simp only[mS,List.map_cons,Evt.r,zgp,zga,zgb,zfd]at hr
    simp only[qdx,mS,List.map_cons,Evt.r,zgr,hr,hc,hlt,w1,w2,w4,w5,w6,tk,ok,Int.le_refl,Nat.add_sub_cancel,imp_self,qq,qm,Ev.ev1,Ev.stP,qb,Ev.AV.cells,Ev.AV.uc,Ev.AV.plain,Ev.SObj.lo,zgy,↓qc,↓reduceIte,Nat.reduceAdd,Nat.reduceEqDiff,Nat.reduceLT,Int.reduceLE,Int.reduceToNat,reduceCtorEq]
   ·rw[qkv,if_pos hlt]at h1;rw[←h1];simp
  ·have hr:=q7q (x::ax) (y::bs) out g x (by omega)
   refine⟨((ax,y::bs),(out++[x],g+1)),?_,⟨?_,by simp at h2 ⊢;omega,fun z hz=>h3 z (List.mem_cons_of_mem _ hz),h4⟩,by simp⟩
   ·have tk:(ax.map Evt.r).take ax.length=ax.map Evt.r:=ztl (by simp)
    have ok:=qow ax
    clear h1 h3 h4
    obtain⟨xt,xk,xl,xi,xp,xa⟩:=x
    obtain⟨yt,yk,yl,yi,yp,ya⟩:=y
    simp only at hc
    simp only[mS,List.map_cons,Evt.r,zgp,zga,zgb,zfd]at hr
    simp only[qdx,mS,List.map_cons,Evt.r,zgr,hr,hc,hlt,w1,w2,w3,w4,w5,tk,ok,Int.le_refl,Nat.add_sub_cancel,imp_self,qq,qm,Ev.ev1,Ev.stP,qb,Ev.AV.cells,Ev.AV.uc,Ev.AV.plain,Ev.SObj.lo,zgy,↓qc,↓reduceIte,Nat.reduceAdd,Nat.reduceEqDiff,Nat.reduceLT,Int.reduceLE,Int.reduceToNat,reduceCtorEq]
   ·rw[qkv,if_neg hlt]at h1;rw[←h1];simp
theorem qafx (hl:(a0++b0).length≤1000000) (ha:qc4 a0) (hb:qc4 b0) : ∃g:Nat,(evL T).call qdu [.yld 5,.ptr 0 0 0 0,.ptr 1 0 0 0] (mS a0 b0 [] 0)=some (.tup [],mS [] [] (qkv a0 b0) g):=by
 obtain⟨⟨y,e,σ⟩,h1,g,h2,h3,h4⟩:=mg_L a0 b0 hl ha hb
 simp only at h2 h3 h4
 subst h2;subst h4
 refine⟨g,?_⟩
 rw[qe qqr qyx]
 have hn : ∀(a b out:List Evt) (g:Nat),(mS a b out g).length=6:=fun _ _ _ _=>rfl
 have ht : ∀(a b out:List Evt) (g:Nat),(mS a b out g).take 6=mS a b out g:=fun _ _ _ _=>rfl
 have hlo : ∀(a b out:List Evt) (g:Nat),qct 6 (mS a b out g)=true:=fun a b out g=>by simp only[mS,qq,Ev.ev1,Ev.SObj.lo,zgy,Nat.reduceLT]
 simp only[qmd,hn,ht,hlo,h1,h3,Ev.ev1,qh,zgy,↓qc,↓qv,↓reduceIte,Nat.reduceAdd,Nat.reduceEqDiff,Nat.reduceLT,reduceCtorEq]
theorem qadr (hl:(a0++b0).length≤1000000) (ha:qc4 a0) (hb:qc4 b0) : ∃(g:Nat) (τ:qf),(evL T).call qap [.fsl [] true,.fn (.func qdu) [] [.ptr 0 0 0 0,.ptr 1 0 0 0]] [.row 1 [[(.fsl ((a0).map Evt.r) false)]] 0,.row 1 [[(.fsl ((b0).map Evt.r) false)]] 0] =
  some (.sl 2 g 0 (qkv a0 b0).length false,[.row 1 [[(.fsl (([]).map Evt.r) false)]] 0,.row 1 [[(.fsl (([]).map Evt.r) false)]] 0,.row 6 ((qkv a0 b0).map Evt.r) g]++τ):=by
 obtain⟨g,h⟩:=qafx a0 b0 hl ha hb
 simp only[mS,List.map_nil,zgb]at h
 refine⟨g,[.row 1 [[.sl 2 g 0 (qkv a0 b0).length false]] 0,.dead,.loop ⟨[(2,.ptr 3 0 0 0)],[]⟩ [7] qbp qbo .exhausted none],?_⟩
 rw[qe qj2 qj0]
 simp only[qb3,h,qamc qqr,List.map_nil,Ev.ev1,qb,qh,Ev.SObj.lo,ne_eq,zgy,↓qc,↓reduceIte,Nat.reduceAdd,Nat.reduceEqDiff,Nat.reduceLT,reduceCtorEq]
theorem q5h (c d:Bool):(evL T).call qh9 [(.fsl ((a0).map Evt.r) c),(.fsl ((b0).map Evt.r) d)] []=some (.fn (.func qdu) [] [.ptr 0 0 0 0,.ptr 1 0 0 0],[.row 1 [[(.fsl ((a0).map Evt.r) false)]] 0,.row 1 [[(.fsl ((b0).map Evt.r) false)]] 0]):=by
 rw[qe q2t q1r]
 simp only[qnx,Ev.ev1,Ev.AV.cells,Ev.AV.uc,Ev.AV.plain,qh,ne_eq,zgy,↓qc,↓reduceIte,Nat.reduceAdd,Nat.reduceEqDiff,Nat.reduceLT,reduceCtorEq]
theorem qahw (hl:(a0++b0).length≤1000000) (ha:qc4 a0) (hb:qc4 b0) : ∃(g:Nat) (τ:qf),(evL T).call qb7 [.fn (.func qdu) [] [.ptr 0 0 0 0,.ptr 1 0 0 0]] [.row 1 [[(.fsl ((a0).map Evt.r) false)]] 0,.row 1 [[(.fsl ((b0).map Evt.r) false)]] 0] =
  some (.sl 2 g 0 (qkv a0 b0).length false,[.row 1 [[.fsl [] false]] 0,.row 1 [[.fsl [] false]] 0,.row 6 ((qkv a0 b0).map Evt.r) g]++τ):=by
 obtain⟨g,τ,h⟩:=qadr a0 b0 hl ha hb
 refine⟨g,τ,?_⟩
 simp only[List.map_nil,zgm,zgl]at h⊢
 rw[qe qpm qo3]
 simp only[qfv,h,Ev.ev1,qh,Ev.SObj.lo,zgy,↓qc,↓reduceIte,Nat.reduceAdd,Nat.reduceLT,reduceCtorEq]
theorem q6x (c d:Bool) (hl:(a0++b0).length≤1000000) (hk:qc4 (a0++b0)) (hs:a0.Pairwise leE) (hd:q3p (a0++b0)):qac (evL T) qi8 [(.fsl ((a0).map Evt.r) c),(.fsl ((b0).map Evt.r) d)]=some (.fsl ((sortL (a0++b0)).map Evt.r) false):=by
 have ka:qc4 a0:=fun z hz=>hk z (List.mem_append_left _ hz)
 have kb:qc4 b0:=fun z hz=>hk z (List.mem_append_right _ hz)
 have hlb:b0.length≤1000000:=by rw[List.length_append]at hl;omega
 have h1:=qng b0 d hlb kb (hd.sub (List.sublist_append_right a0 b0))
 have h2:=q5h a0 (sortL b0) c false
 obtain⟨g,τ,h3⟩:=qahw a0 (sortL b0) (by rw[List.length_append,qaep,←List.length_append];exact hl) ka kb.sortL
 have hp:(qkv a0 (sortL b0)).Perm (a0++b0):=(qrw _ _).trans (List.Perm.append_left a0 (qdd b0))
 have he:=qtn hd hp (qwk _ _ hs (qhm b0))
 rw[he]at h3
 generalize sortL (a0++b0)=R at *
 have htk:(R.map Evt.r).take R.length=R.map Evt.r:=ztl (by simp)
 simp only[zgm,zgl]at h3
 have s1:qic 0 ([]:List AV)=[]:=by simp only[qic]
 have s2:qic 0 [AV.ptr 0 0 0 0,AV.ptr 1 0 0 0]=[AV.ptr 0 0 0 0,AV.ptr 1 0 0 0]:=by simp only[qic,AV.shift,Nat.add_zero]
 rw[qac,qe q48 q23]
 simp only[qon,s1,s2,h1,h2,h3,htk,qq,Ev.ev1,q1x,qh,zgy,↓qc,↓reduceIte,Nat.reduceAdd,Nat.reduceEqDiff,Nat.reduceLT,reduceCtorEq]
end
set_option maxRecDepth 10000
def qjz (bs:List (List Evt)) (l:List Evt):List (List Evt):=bs.mapIdx fun i b=>sortL (b++qbc l i)
structure DSt (n:Nat) (B:List (List AV)) (t:Nat→List Evt) (A:qf) (O:List (List AV)):Prop where
 len:A.length=n+1
 box:A[0]? = some (.row 1 B 0)
 ol:O.length=n
 tr : ∀i:Nat,i<n → ∃g,A[i+1]? = some (.row 6 ((t i).map Evt.r) g)∧O[i]? = some [.sl (i+1) g 0 (t i).length false]
 alo:qct (n+1) A=true
 olo:qc5 (n+1) O=true
theorem qag0 {n:Nat} : ∀ {O:List (List AV)} (i:Nat) (x:List AV),qc5 n O=true→los n x=true→qc5 n (O.set i x)=true
 | [],i,x,h,_=>h
 |a::O,0,x,h,hx=>by
  simp only[qhn,Bool.and_eq_true]at h
  rw[List.set_cons_zero,qhn,hx,h.2];rfl
 |a::O,i+1,x,h,hx=>by
  simp only[qhn,Bool.and_eq_true]at h
  rw[List.set_cons_succ,qhn,h.1,qag0 i x h.2 hx];rfl
theorem DSt.step {n:Nat} {B:List (List AV)} {t:Nat→List Evt} {A:qf} {O:List (List AV)} (S:DSt n B t A O) {i:Nat} (hi:i<n) (e:Evt) {g:Nat} :
  DSt n B (fun j=>if i=j then t i++[e]else t j) (A.set (i+1) (.row 6 ((t i++[e]).map Evt.r) (g+1))) (O.set i [.sl (i+1) (g+1) 0 ((t i).length+1) false]):=by
 have c1:i+1<n+1:=by omega
 refine⟨by rw[List.length_set];exact S.len,by rw[List.getElem?_set_ne (by omega)];exact S.box,by rw[List.length_set];exact S.ol,fun j hj => ?_,qpa S.alo _ (show qc5 (n+1) _=true from qq _ _),qag0 i _ S.olo (by simp only[qtr,qyr,qaeu,c1,zgv,zfc])⟩
 by_cases e1:i=j
 ·subst e1
  exact⟨g+1,by rw[if_pos rfl,List.getElem?_set_self (by rw[S.len];omega)],by rw[if_pos rfl,List.getElem?_set_self (by rw[S.ol];omega),List.length_append];rfl⟩
 ·obtain⟨g',h1,h2⟩:=S.tr j hj
  exact⟨g',by rw[if_neg e1,List.getElem?_set_ne (by omega)];exact h1,by rw[if_neg e1,List.getElem?_set_ne e1];exact h2⟩
section
variable (n:Nat) (B:List (List AV)) (D:List Evt) (cd:Bool)
theorem qaiu (hD:D.length≤1000000) (hl : ∀e∈D,0≤e.lp∧e.lp<(n:Int)) (cb:Bool) {A:qf} {O:List (List AV)} (S:DSt n B (fun _=>[]) A O) :
  ∃y,itB (exec (evL T) itL none qix) (qai [5,6,17,18,19] true (n+2)) ⟨[(5,.sl 0 0 0 n cb),(6,.sl (n+1) 0 0 n true),(17,(.fsl ((D).map Evt.r) cd)),(18,(ii D.length)),(19,(ii ((0:Nat))))],[]⟩ (A++[.row 1 O 0])=some y ∧
   ∃(A':qf) (O':List (List AV)),DSt n B (fun i=>qbc D i) A' O'∧y.1 = .exit 0∧y.2.1.marks=[]∧y.2.2=A'++[.row 1 O' 0]∧Ev.look y.2.1.vars 5=some (.sl 0 0 0 n cb)∧Ev.look y.2.1.vars 6=some (.sl (n+1) 0 0 n true):=by
 have key:=qg5 (f:=exec (evL T) itL none qix) (s:=qai [5,6,17,18,19] true (n+2)) (α:=qf×List (List AV))
  (fun i a=>⟨[(5,.sl 0 0 0 n cb),(6,.sl (n+1) 0 0 n true),(17,(.fsl ((D).map Evt.r) cd)),(18,(ii D.length)),(19,(ii i))],[]⟩) (fun _ a=>a.1++[.row 1 a.2 0]) (fun i a=>DSt n B (fun j=>qbc (D.take i) j) a.1 a.2) D.length
  (fun y => ∃(A':qf) (O':List (List AV)),DSt n B (fun i=>qbc D i) A' O'∧y.1 = .exit 0∧y.2.1.marks=[]∧y.2.2=A'++[.row 1 O' 0]∧Ev.look y.2.1.vars 5=some (.sl 0 0 0 n cb)∧Ev.look y.2.1.vars 6=some (.sl (n+1) 0 0 n true)) ?_ ?_ 0 (A,O) (Nat.zero_le _) S
 ·exact key
 ·rintro k ⟨A,O⟩ hk S
  simp only at S⊢
  obtain⟨e,he⟩ : ∃e,D[k]? = some e:=⟨_,zgE hk⟩
  have hk':(k:Int)<(D.length:Int):=by omega
  have hw:IntKind.i64.wrap ((k:Int)+1)=((k+1:Nat):Int):=by rw[qi (by omega) (by omega)];simp
  obtain⟨l1,l2⟩:=hl e (zmg he)
  obtain⟨i,hi⟩ : ∃i:Nat,e.lp=i:=⟨_,(Int.toNat_of_nonneg l1).symm⟩
  have hin:i<n:=by omega
  obtain⟨g,t1,t2⟩:=S.tr i hin
  have hS:=S.step hin e (g:=g)
  have ht:(fun j=>if i=j then qbc (D.take k) i++[e]else qbc (D.take k) j)=(fun j=>qbc (D.take (k+1)) j):=by
   funext j
   rw[List.take_add_one,he]
   show _=qbc (D.take k++[e]) j
   unfold qbc
   rw[List.filter_append,List.filter_cons,List.filter_nil]
   by_cases e1:i=j
   ·subst e1;rw[if_pos rfl,if_pos (by simpa using hi)]
   ·rw[if_neg e1,if_neg (by simp only[decide_eq_true_eq];omega),List.append_nil]
  rw[ht]at hS
  refine .inl ⟨(A.set (i+1) (.row 6 ((qbc (D.take k) i++[e]).map Evt.r) (g+1)),O.set i [.sl (i+1) (g+1) 0 ((qbc (D.take k) i).length+1) false]),?_,hS⟩
  simp only
  have hA:=S.len
  have hown:(qbc (D.take k) i).length≤1000000:=by
   unfold qbc
   have:=List.length_filter_le (fun e:Evt=>decide (e.lp=i)) (D.take k)
   have:=List.length_take_le' k D;omega
  generalize qbc (D.take k) i=t at *
  have p1:=fun B=>q70 hA B (i+1) (by omega)
  have p2:=fun B x=>qaca hA B x (i+1) (by omega)
  have b1:((n+1)==(i+1))=false:=by rw[beq_eq_false_iff_ne];omega
  have b2:((n+2)==(i+1))=false:=by rw[beq_eq_false_iff_ne];omega
  have b3:((n+2)==n+2)=true:=by simp
  have tk:List.take t.length (t.map Evt.r)=t.map Evt.r:=ztl (by simp)
  have bd:(t.length+1)*64≤140737488355328:=by omega
  have hA2 : ∀v,(A.set (i+1) v).length=n+1:=fun v=>by rw[List.length_set];exact hA
  have q1:=fun v B=>q7z (hA2 v) B
  have q2:=fun v B=>qod (hA2 v) B
  have q4:=fun v B x=>pre_s1 (hA2 v) B x
  have hle:t.length≤t.length:=Nat.le_refl _
  have lo1:qct (n+2) (A.set (i+1) (.row 6 ((t++[e]).map Evt.r) (g+1)))=true:=qk1 (by omega) hS.alo
  have lo2:qc5 (n+2) (O.set i [.sl (i+1) (g+1) 0 (t.length+1) false])=true:=ql5 (by omega) _ hS.olo
  have t3 : ∀v (B:qf),(A.set (i+1) v++B).take (n+2)=A.set (i+1) v++B.take 1:=fun v B=>by
   rw[List.take_append,ztl (by rw[hA2];omega),hA2];congr 2;omega
  have d0:0<n+2:=by omega
  have d1:n+1<n+2:=by omega
  rw[List.map_append]at lo1⊢
  obtain⟨et,ek,el,ei,ep,ea⟩:=e
  simp only at hi
  subst hi
  simp only[List.map_cons,List.map_nil,Evt.r]at lo1⊢
  simp only[qix,zgs,zgr,zgq,zgt,he,hk',hw,q7z hA,qod hA,qabj hA,hA,Nat.add_assoc,List.append_assoc,p1,p2,q1,q4,t1,t2,b2,b3,tk,bd,hle,hin,lo1,lo2,t3,d0,d1,qmm,Evt.r,qq,Ev.ev1,Ev.stP,q3t,qb,qdj,Ev.AV.cells,Ev.AV.uc,Ev.AV.plain,Ev.SObj.lo,Ev.AV.obj?,ne_eq,zgy,↓qc,↓reduceIte,Nat.reduceAdd,Nat.reduceEqDiff,Nat.reduceMul,Nat.reduceLeDiff,Nat.reducePow]
 ·rintro⟨A,O⟩ S
  simp only[List.take_length]at S
  have hA:=S.len
  have lo1:qct (n+2) A=true:=qk1 (by omega) S.alo
  have lo2:qc5 (n+2) O=true:=ql5 (by omega) _ S.olo
  have t3 : ∀(B:qf),(A++B).take (n+2)=A++B.take 1:=fun B=>by
   rw[List.take_append,ztl (by omega)];congr 2;omega
  have d0:0<n+2:=by omega
  have d1:n+1<n+2:=by omega
  simp only[qix,Int.lt_irrefl,Ev.ev1,zgy,↓qc,↓reduceIte,Nat.reduceEqDiff]
  exact⟨_,rfl,A,O,S,rfl,rfl,rfl,rfl,rfl⟩
theorem qain (D:List Evt) (bs:List (List Evt)) (hbn:bs.length=n) (hn:n≤1000) (hD:(bs.flatten++D).length≤1000000) (hk:qc4 (bs.flatten++D)) (hs : ∀b∈bs,b.Pairwise leE) (hd : ∀i b,bs[i]? = some b→q3p (b++qbc D i)) (cb:Bool) {A:qf} {O:List (List AV)} (S:DSt n (bs.map qn) (fun i=>qbc D i) A O) :
  ∃y,itB (exec (evL T) itL none qhd) (qai [5,36,37,38] true (n+2)) ⟨[(5,.sl 0 0 0 n cb),(36,.sl (n+1) 0 0 n true),(37,(ii n)),(38,(ii ((0:Nat))))],[]⟩ (A++[.row 1 O 0])=some y ∧
   (y.1 = .exit 2∧y.2.1.marks=[] ∧ ∃X:qf,y.2.2 = .row 1 ((qjz bs D).map qn) 0::X)∧Ev.look y.2.1.vars 5=some (.sl 0 0 0 n cb):=by
 have mem : ∀ {i:Nat} {b:List Evt},bs[i]? = some b → ∀e∈b,e∈bs.flatten:=fun h e he=>List.mem_flatten.2 ⟨_,zmg h,he⟩
 have bl : ∀ {i:Nat} {b:List Evt},bs[i]? = some b→b.length≤bs.flatten.length:=fun h=>(List.sublist_flatten_of_mem (zmg h)).length_le
 have hDl:=hD
 rw[List.length_append]at hDl
 have key:=qg5 (f:=exec (evL T) itL none qhd) (s:=qai [5,36,37,38] true (n+2)) (α:=qf×List (List Evt))
  (fun i a=>⟨[(5,.sl 0 0 0 n cb),(36,.sl (n+1) 0 0 n true),(37,(ii n)),(38,(ii i))],[]⟩) (fun _ a => .row 1 (a.2.map qn) 0::a.1++[.row 1 O 0])
  (fun i a=>a.2.length=n∧(∀j,j<n→a.2[j]? = if j<i then (qjz bs D)[j]? else bs[j]?)∧a.1.length=n∧qct (n+1) a.1=true ∧ ∀j,i≤j→j<n → ∃g,a.1[j]? = some (.row 6 ((qbc D j).map Evt.r) g)∧O[j]? = some [.sl (j+1) g 0 (qbc D j).length false]) n
  (fun y=>(y.1 = .exit 2∧y.2.1.marks=[] ∧ ∃X:qf,y.2.2 = .row 1 ((qjz bs D).map qn) 0::X)∧Ev.look y.2.1.vars 5=some (.sl 0 0 0 n cb)) ?_ ?_
 ·obtain⟨A0,hA0,hAl⟩ : ∃A0:qf,A = .row 1 (bs.map qn) 0::A0∧A0.length=n:=by
   have hb:=S.box;have hl:=S.len
   cases A with
   |nil=>simp at hb
   |cons a A0=>simp only[zgd,Option.some.injEq]at hb;exact⟨A0,by rw[hb],by simpa using hl⟩
  rw[hA0]
  refine key 0 (A0,bs) (Nat.zero_le _) ⟨hbn,fun j hj=>by rw[if_neg (by omega)],hAl,?_,fun j _ hj => ?_⟩
  ·have:=S.alo;rw[hA0,qmh]at this;rw[qmh];exact fun x hx=>this x (List.mem_cons_of_mem _ hx)
  ·have:=S.tr j hj;rw[hA0,List.getElem?_cons_succ]at this;exact this
 ·rintro i ⟨A1,L⟩ hi ⟨h1,h2,h3,h4,h5⟩
  simp only at h1 h2 h3 h4 h5⊢
  obtain⟨g,t1,t2⟩:=h5 i (Nat.le_refl _) hi
  obtain⟨b,hb⟩ : ∃b,bs[i]? = some b:=⟨_,zgE (by omega)⟩
  have hLi:L[i]? = some b:=by rw[h2 i hi,if_neg (by omega),hb]
  have hdl:(qjz bs D)[i]? = some (sortL (b++qbc D i)):=by unfold qjz;rw[List.getElem?_mapIdx,hb];rfl
  have hi':(i:Int)<(n:Int):=by omega
  have hw:IntKind.i64.wrap ((i:Int)+1)=((i+1:Nat):Int):=by rw[qi (by omega) (by omega)];simp
  have lo1:qct (n+2) A1=true:=qk1 (by omega) h4
  have lo2:qc5 (n+2) O=true:=ql5 (by omega) _ S.olo
  have loL:=qcb (n+2) L
  have d0:0<n+2:=by omega
  have d1:n+1<n+2:=by omega
  have g1 : ∀x:SObj,(x::(A1++[.row 1 O 0]))[n+1]? = some (.row 1 O 0):=fun x=>by
   rw[List.getElem?_cons_succ,List.getElem?_append_right (by omega),h3];simp
  have tk0 : ∀x:SObj,List.take (n+2) (x::(A1++[.row 1 O 0]))=x::(A1++[.row 1 O 0]):=fun x=>ztl (by simp;omega)
  have hnl : ∀x:SObj,(x::(A1++[.row 1 O 0])).length=n+2:=fun x=>by simp[h3]
  by_cases ho:(qbc D i).length=0
  ·have ho':=List.eq_nil_of_length_eq_zero ho
   have hds:sortL (b++qbc D i)=b:=by
    rw[ho',List.append_nil]
    have:=hd i b hb
    rw[ho',List.append_nil]at this
    exact(qah6 this (hs b (zmg hb))).symm
   refine .inl ⟨(A1,L),?_,h1,fun j hj => ?_,h3,h4,fun j hj1 hj2=>h5 j (by omega) hj2⟩
   ·have c0:¬((0:Nat):Int)>0:=by omega
    rw[ho]at t2
    simp only[qhd,zgs,zgr,hi',hi,hw,g1,t2,lo1,lo2,loL,d0,d1,tk0,qmm,zgm,gt_iff_lt,Int.lt_irrefl,Ev.ev1,qb,Ev.SObj.lo,zgy,↓qc,↓reduceIte,Nat.reduceEqDiff]
   ·rw[h2 j hj]
    by_cases e1:j=i
    ·subst e1;rw[if_neg (by omega),if_pos (by omega),hb,hdl,hds]
    ·by_cases e2:j<i
     ·rw[if_pos e2,if_pos (by omega)]
     ·rw[if_neg e2,if_neg (by omega)]
  ·have c0:((qbc D i).length:Int)>0:=by omega
   have sb:(b++qbc D i).length≤1000000:=by
    have:=bl hb
    have:=List.length_filter_le (fun e:Evt=>decide (e.lp=i)) D
    rw[List.length_append];unfold qbc;omega
   have hM:=q6x (a0:=b) (b0:=qbc D i) false false sb (fun z hz=>by
    rcases List.mem_append.1 hz with hz|hz
    ·exact hk z (List.mem_append_left _ (mem hb z hz))
    ·exact hk z (List.mem_append_right _ (List.mem_filter.1 hz).1)) (hs b (zmg hb)) (hd i b hb)
   have tk:List.take (qbc D i).length ((qbc D i).map Evt.r)=(qbc D i).map Evt.r:=ztl (by simp)
   have ok:=qow (qbc D i)
   have a1 : ∀x:SObj,(x::(A1++[.row 1 O 0]))[i+1]? = some (.row 6 ((qbc D i).map Evt.r) g):=fun x=>by
    rw[List.getElem?_cons_succ,List.getElem?_append_left (by omega)];exact t1
   have a2 : ∀x y:SObj,(x::(A1++[.row 1 O 0])).set (i+1) y=x::(A1.set i y++[.row 1 O 0]):=fun x y=>by
    rw[List.set_cons_succ,List.set_append,if_pos (by omega)]
   have hLm:(L.map qn)[i]? = some (qn b):=by rw[List.getElem?_map,hLi];rfl
   have hset:(L.map qn).set i [(.fsl (((sortL (b++qbc D i))).map Evt.r) false)]=(L.set i (sortL (b++qbc D i))).map qn:=by rw[List.map_set];rfl
   have loL':=qcb (n+2) (L.set i (sortL (b++qbc D i)))
   have lo1':qct (n+2) (A1.set i .dead)=true:=qpa lo1 _ rfl
   have tk1 : ∀x:SObj,List.take (n+2) (x::(A1.set i .dead++[.row 1 O 0]))=x::(A1.set i .dead++[.row 1 O 0]):=fun x=>ztl (by simp;omega)
   refine .inl ⟨(A1.set i .dead,L.set i (sortL (b++qbc D i))),?_,by rw[List.length_set];exact h1,fun j hj => ?_,by rw[List.length_set];exact h3,qpa h4 _ rfl,fun j hj1 hj2=>by rw[List.getElem?_set_ne (by omega)];exact h5 j (by omega) hj2⟩
   ·have hle:(qbc D i).length≤(qbc D i).length:=Nat.le_refl _
    have hll:((qbc D i).map Evt.r).length=(qbc D i).length:=List.length_map ..
    have lob:qc5 0 (b.map Evt.r)=true:=qq _ _
    have loo:qc5 0 ((qbc D i).map Evt.r)=true:=qq _ _
    simp only
    rw[←hset]at loL'⊢
    have hLl:(L.map qn).length=n:=by rw[List.length_map];exact h1
    clear hb hdl hd hs hk h2 h5 bl mem hset
    generalize sortL (b++qbc D i)=R at *
    generalize (qbc D i).map Evt.r=OR at *
    generalize (qbc D i).length=ol at *
    generalize L.map qn=LM at *
    simp only[qn]at hLm
    simp only[qhd,zgs,zgr,hi',hi,hw,g1,t2,c0,a1,a2,hM,tk,hle,hll,hLm,lob,loo,lo1',lo2,loL',d0,d1,tk1,qmm,zgm,Ev.ev1,Ev.stP,qae6,q9d,qb,Ev.AV.cells,Ev.AV.uc,Ev.AV.plain,Ev.SObj.lo,zgy,↓qc,↓reduceIte,Nat.reduceEqDiff]
   ·by_cases e1:j=i
    ·subst e1;rw[List.getElem?_set_self (by omega),if_pos (by omega),hdl]
    ·rw[List.getElem?_set_ne (by omega),h2 j hj]
     by_cases e2:j<i
     ·rw[if_pos e2,if_pos (by omega)]
     ·rw[if_neg e2,if_neg (by omega)]
 ·rintro⟨A1,L⟩ ⟨h1,h2,h3,h4,h5⟩
  simp only at h1 h2 h3 h4 h5⊢
  have hL:L=qjz bs D:=List.ext_getElem? fun j=>by
   by_cases hj:j<n
   ·rw[h2 j hj,if_pos hj]
   ·rw[List.getElem?_eq_none (by omega),List.getElem?_eq_none (by unfold qjz;rw[List.length_mapIdx];omega)]
  rw[hL]
  have lo1:qct (n+2) A1=true:=qk1 (by omega) h4
  have lo2:qc5 (n+2) O=true:=ql5 (by omega) _ S.olo
  have d0:0<n+2:=by omega
  have d1:n+1<n+2:=by omega
  have tk0 : ∀x:SObj,List.take (n+2) (x::(A1++[.row 1 O 0]))=x::(A1++[.row 1 O 0]):=fun x=>ztl (by simp;omega)
  simp only[qhd,Int.lt_irrefl,zgm,Ev.ev1,zgy,↓qc,↓reduceIte,Nat.reduceEqDiff]
  exact⟨_,rfl,⟨rfl,rfl,_,rfl⟩,rfl⟩
theorem DSt.start (bs:List (List Evt)) (n:Nat) (hn:bs.length=n):DSt n (bs.map qn) (fun i=>qbc [] i) (.row 1 (bs.map qn) 0::List.replicate n (.row 6 [] 0)) ((List.range n).map fun i=>[(.sl (1+i) 0 0 0 false:AV)]):=by
 refine⟨by simp,rfl,by simp,fun i hi=>⟨0,?_,?_⟩,?_,?_⟩
 ·rw[List.getElem?_cons_succ,List.getElem?_replicate,if_pos hi];rfl
 ·rw[List.getElem?_map,List.getElem?_range hi]
  simp only[zgt,Nat.add_comm 1 i];rfl
 ·rw[qmh]
  intro x hx
  rcases List.mem_cons.1 hx with rfl|hx
  ·exact qcb _ _
  ·rw[List.eq_of_mem_replicate hx];rfl
 ·have : ∀(l:List Nat),(∀i∈l,i<n)→qc5 (n+1) (l.map fun i=>[(.sl (1+i) 0 0 0 false:AV)])=true:=by
   intro l
   induction l with
   |nil=>intro _;rfl
   |cons a l ih=>
    intro h
    have h1:1+a<n+1:=by have:=h a (by simp);omega
    simp only[List.map_cons,qhn,qtr,qyr,qaeu,h1,zgv,zfc,Bool.true_and]
    exact ih fun i hi=>h i (by simp[hi])
  exact this _ fun i hi=>List.mem_range.1 hi
theorem qai1 (ss:List (List Evt)) (cs:Bool) (h1:ss.length≤1000000) (h2:ss.flatten.length≤1000000) : ∃cf:Bool,qac (evL T) qg [(.fsl ((ss).map qn) cs)]=some (.fsl ((ss.flatten).map Evt.r) cf):=by
 by_cases h:ss=[]
 ·subst h
  refine⟨true,?_⟩
  have:=qabo cs
  simp only[List.map_nil]at this⊢
  rw[qac,this];rfl
 ·obtain⟨g,hc⟩:=qvu ss cs h1 h2 h
  refine⟨false,?_⟩
  have tk:List.take ss.flatten.length (ss.flatten.map Evt.r)=ss.flatten.map Evt.r:=ztl (by rw[List.length_map];exact Nat.le_refl _)
  rw[qac,hc]
  have hl:ss.flatten.length≤(ss.flatten.map Evt.r).length:=by rw[List.length_map];exact Nat.le_refl _
  simp only[tk,qq,Ev.ev1,zgy,↓qc,↓reduceIte]
theorem qaa8 (bs ss:List (List Evt)) (c1 c2:Bool) (hn:bs.length≤1000) (hs1:ss.length≤1000000) (hD:(bs.flatten++ss.flatten).length≤1000000) (hk:qc4 (bs.flatten++ss.flatten)) (hs : ∀b∈bs,b.Pairwise leE) (hd : ∀i b,bs[i]? = some b→q3p (b++qbc ss.flatten i)) (hl : ∀e∈ss.flatten,0≤e.lp∧e.lp<(bs.length:Int)) :
  qac (evL T) qfr [(.fsl ((bs).map qn) c1),(.fsl ((ss).map qn) c2)]=some (.fsl (((qjz bs ss.flatten)).map qn) false):=by
 have hDl:=hD
 rw[List.length_append]at hDl
 obtain⟨cf,hc⟩:=qai1 ss c2 hs1 (by omega)
 obtain⟨n,hbn⟩ : ∃n,bs.length=n:=⟨_,rfl⟩
 rw[hbn]at hl hn
 obtain⟨⟨y,e,σ⟩,k1,A',O',S',k2,k3,k4,k5,k6⟩:=qaiu n (bs.map qn) ss.flatten cf (by omega) hl false (DSt.start bs n hbn)
 obtain⟨⟨y2,e2,σ2⟩,m1,⟨m2,m3,X,m4⟩,m5⟩:=qain n ss.flatten bs hbn hn hD hk hs hd false S'
 simp only[Int.ofNat_zero]at k1 k2 k3 k4 k5 k6 m1 m2 m3 m4 m5
 subst k2;subst k4;subst m2;subst m4
 have hcl:(evL T).call qag [(.fsl ((bs).map qn) c1)] []=some (.sl 0 0 0 bs.length false,[.row 1 (bs.map qn) 0]):=by
  have h':bs.length*24≤140737488355328:=by omega
  rw[q35 qgh]
  simp only[qts,qcb,qalj,h',Ev.ev1,zgy,↓reduceIte,Nat.reducePow]
 rw[hbn]at hcl
 have b1:24*(n:Int)≤140737488355328:=by omega
 have b2:(n:Int)≤4611686018427387904:=by omega
 have hdl:(qjz bs ss.flatten).length=n:=by unfold qjz;rw[List.length_mapIdx];exact hbn
 have tk:List.take n ((qjz bs ss.flatten).map qn)=(qjz bs ss.flatten).map qn:=ztl (by simp[hdl])
 have hle:n≤n:=Nat.le_refl _
 have lo:=qcb 0 (qjz bs ss.flatten)
 simp only[zgm]at k1
 have hA:=S'.len
 have S0:=DSt.start bs n hbn
 have lo1:qct (n+2) (List.replicate n (.row 6 [] 0))=true:=by
  rw[qmh];intro x hx;rw[List.eq_of_mem_replicate hx];rfl
 have lo2:qc5 (n+2) ((List.range n).map fun i=>[(.sl (1+i) 0 0 0 false:AV)])=true:=ql5 (by omega) _ S0.olo
 have lo3:qct (n+2) A'=true:=qk1 (by omega) S'.alo
 have lo4:qc5 (n+2) O'=true:=ql5 (by omega) _ S'.olo
 have t1 : ∀x:SObj,List.take (n+1) (List.replicate n (.row 6 [] 0)++[x])=List.replicate n (.row 6 [] 0)++[x]:=fun x=>ztl (by simp)
 have t2 : ∀x:SObj,List.take (n+2) (A'++[x])=A'++[x]:=fun x=>ztl (by simp[hA])
 have e1:n+1+1=n+2:=rfl
 have d0:0<n+2:=by omega
 have d1:n+1<n+2:=by omega
 have e2:1+n=n+1:=Nat.add_comm 1 n
 rw[qac,qe q3j q03]
 simp only[qn1,zgs,zgr,hA,lo1,lo2,lo3,lo4,t1,t2,e1,e2,d0,d1,qmm,hcl,hc,b1,b2,k1,k3,k5,k6,m1,m3,m5,hdl,tk,hle,lo,qkn,zgm,qcb,qq,Ev.ev1,q1x,qh,Ev.SObj.lo,zgy,↓qc,↓qv,↓reduceIte,Nat.reduceAdd,Nat.reduceEqDiff,Nat.reduceLT,Int.reducePow,reduceCtorEq]
end
end Go.Proofs.YtpgdfkciinankaaGreat.K
