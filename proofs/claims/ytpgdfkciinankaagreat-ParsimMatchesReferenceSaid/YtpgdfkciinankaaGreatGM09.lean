/- For every input the statement of this claim returns true: texts of its proof, joined (part 10). -/
import Derived.Test.YtpgdfkciinankaaGreatGM04
import Derived.Test.YtpgdfkciinankaaGreatGM06
import Derived.Test.YtpgdfkciinankaaGreatGM07
import Derived.Test.YtpgdfkciinankaaGreatGM08
set_option linter.unusedSectionVars false
set_option linter.unusedSimpArgs false
set_option linter.unusedVariables false
open Nat renaming reduceEqDiff → wa, reduceAdd → we, reduceLeDiff → wj, reduceLT → wm, reducePow → ww, reduceMul → wx, zero_le → wC, le_refl → wD, add_sub_cancel → wO, add_zero → wW
open _root_ renaming reduceIte → wc, reduceCtorEq → wf
open Go.Ev renaming ev1 → wg, look → wp, stP → wu
open Go.Ev.AV renaming cells → wh, plain → wi, uc → wv
open Go.Ev.SObj renaming lo → wk
open List renaming map_nil → wn, length_append → wr, map_cons → wt, take_length → wy, map_append → wz, append_nil → wA, take → wB, getElem?_set_ne → wG, getElem?_append_right → wH, mem_append_left → wI, mem_cons_of_mem → wJ, getElem?_cons_succ → wL, replicate → wM, getElem?_set_self → wN, getElem?_eq_none → wR, perm_append_singleton → wS, length_set → wT, pairwise_cons → wU
open Int renaming lt_irrefl → wq, reduceEq → wE, ofNat_zero → wF, reduceToNat → wP, reduceNeg → wQ, le_refl → wV
open Bool renaming and_eq_true → wK
namespace Go.Proofs.YtpgdfkciinankaaGreat.K
open Go.Ev
set_option maxRecDepth 10000
section
variable {c:Cfg} {x:Lp} {e:Evt}
theorem qags (hp:x.procs=[]):qr6 x e=none:=by
 unfold qr6
 rw[hp];simp
theorem qaao (hp:x.procs=[]):(qa4 c x e).lp.procs=[]:=by
 unfold qa4
 split
 ·exact hp
 ·rw[qags hp];exact hp
theorem Exec_evF (h:Ready c x e) (f:Bool) (hf:f=true→x.procs=[]):qm (evL T) qfl [(.agg [(.fsl ((c.lps).map lpC) false),(.fsl ((c.progs).map qau) false),(ii c.look),(ii c.fin),(ii c.cap)]),(.agg [(ii x.r0),(ii x.r1),(.fsl ((x.procs).map Pr.r) f),(ii x.sum)]),(.agg [(ii e.time),(.fsl ((e.key).map qy) false),(ii e.lp),(ii e.kind),(ii e.proc),(ii e.arg)])]=some (.tup [(.agg [(ii ((qa4 c x e).lp.r0)),(ii ((qa4 c x e).lp.r1)),(.fsl (((qa4 c x e).lp.procs).map Pr.r) f),(ii ((qa4 c x e).lp.sum))]),(.fsl (((qa4 c x e).out).map Evt.r) (qa4 c x e).nil),(.fsl (((qa4 c x e).gone).map qh7) (qa4 c x e).nil),(bb ((qa4 c x e).over))]):=by
 cases f with
 |false=>exact Exec_ev h
 |true=>
  have hp:=hf rfl
  unfold qa4
  rw[qm,qd qox qn9]
  rw[qags hp]
  by_cases hk:e.kind=3
  ·rw[if_pos hk]
   simp only[qbi,hk,hp,wn,wg,wu,qb,wh,wv,wi,qk,ne_eq,zgy,↓qc,↓wc,we,wa,wf]
  rw[if_neg hk]
  by_cases h1:e.proc<0
  ·by_cases k1:e.kind=1
   ·simp only[qbi,k1,h1,hp,wn,wg,wu,qb,wh,wi,qk,ne_eq,zgy,↓qc,↓wc,we,wa,wE,wf]
   by_cases k2:e.kind=2
   ·simp only[qbi,k2,h1,hp,wn,wg,wu,qb,wh,wi,qk,ne_eq,zgy,↓qc,↓wc,we,wa,wE,wf]
   ·simp only[qbi,hk,k1,k2,hp,wn,wg,wu,qb,wh,wi,qk,ne_eq,zgy,↓qc,↓wc,we,wa,wf]
  have h2:e.proc≥((0:Nat):Int):=by omega
  have h2':e.proc≥0:=by omega
  ·by_cases k1:e.kind=1
   ·simp only[qbi,k1,h1,h2',hp,wn,wg,wu,qb,wh,wi,qk,ne_eq,zgy,↓qc,↓wc,we,wa,wE,wf]
   by_cases k2:e.kind=2
   ·simp only[qbi,k2,h1,h2',hp,wn,wg,wu,qb,wh,wi,qk,ne_eq,zgy,↓qc,↓wc,we,wa,wE,wf]
   ·simp only[qbi,hk,k1,k2,hp,wn,wg,wu,qb,wh,wi,qk,ne_eq,zgy,↓qc,↓wc,we,wa,wf]
theorem qam9 (h:Ready c x e) (f:Bool) (hf:f=true→x.procs=[]):qm (evL T) qhw [(.agg [(.fsl ((c.lps).map lpC) false),(.fsl ((c.progs).map qau) false),(ii c.look),(ii c.fin),(ii c.cap)]),(.agg [(ii x.r0),(ii x.r1),(.fsl ((x.procs).map Pr.r) f),(ii x.sum)]),(.agg [(ii e.time),(.fsl ((e.key).map qy) false),(ii e.lp),(ii e.kind),(ii e.proc),(ii e.arg)])]=some (.tup [(.agg [(ii ((qa4 c x e).lp.r0)),(ii ((qa4 c x e).lp.r1)),(.fsl (((qa4 c x e).lp.procs).map Pr.r) f),(ii ((qa4 c x e).lp.sum))]),(.fsl (((qa4 c x e).out).map Evt.r) (qa4 c x e).nil),(.fsl (((qa4 c x e).gone).map qh7) (qa4 c x e).nil),(bb ((qa4 c x e).over))]):=by
 cases f with
 |false=>exact RExec_ev h
 |true=>
  have hp:=hf rfl
  unfold qa4
  rw[qm,qd qrf qp9]
  rw[qags hp]
  by_cases hk:e.kind=3
  ·rw[if_pos hk]
   simp only[qbz,hk,hp,wn,wj,wg,wu,qb,wh,wv,wi,qk,ne_eq,zgy,↓qc,↓wc,we,wa,wj,wf]
  rw[if_neg hk]
  by_cases h1:e.proc<0
  ·by_cases k1:e.kind=1
   ·simp only[qbz,k1,h1,hp,wn,wj,wg,wu,qb,wh,wi,qk,ne_eq,zgy,↓qc,↓wc,we,wa,wj,wE,wf]
   by_cases k2:e.kind=2
   ·simp only[qbz,k2,h1,hp,wn,wj,wg,wu,qb,wh,wi,qk,ne_eq,zgy,↓qc,↓wc,we,wa,wj,wE,wf]
   ·simp only[qbz,hk,k1,k2,hp,wn,wj,wg,wu,qb,wh,wi,qk,ne_eq,zgy,↓qc,↓wc,we,wa,wj,wf]
  have h2:e.proc≥((0:Nat):Int):=by omega
  have h2':e.proc≥0:=by omega
  ·by_cases k1:e.kind=1
   ·simp only[qbz,k1,h1,h2',hp,wn,wj,wg,wu,qb,wh,wi,qk,ne_eq,zgy,↓qc,↓wc,we,wa,wj,wE,wf]
   by_cases k2:e.kind=2
   ·simp only[qbz,k2,h1,h2',hp,wn,wj,wg,wu,qb,wh,wi,qk,ne_eq,zgy,↓qc,↓wc,we,wa,wj,wE,wf]
   ·simp only[qbz,hk,k1,k2,hp,wn,wj,wg,wu,qb,wh,wi,qk,ne_eq,zgy,↓qc,↓wc,we,wa,wj,wf]
end
set_option maxRecDepth 10000
section
variable {c:Cfg} {e:Evt} (R0 X4 X5 X6 X7 X8 X9:SObj) (dn:List Evt) (g1:Nat) (x:Lp) (o f:Bool)
theorem exec_l1 (h0:R0.lo 10=true) (h4:X4.lo 10=true) (h5:X5.lo 10=true) (h6:X6.lo 10=true) (h7:X7.lo 10=true) (h8:X8.lo 10=true) (h9:X9.lo 10=true) (out:List Evt) (co:Bool) (p:List Evt×List Evt) (g2:Nat) (hP:PlOk p out) (v8:AV) (hv8:v8.lo 10=true) :
  ∃y,itB (exec (evL T) itL none qdk) (qu [0,5,8,50,51,52] true 10) ⟨[(0,.ptr 3 0 0 0),(5,(.fptr [(ii e.time),(.fsl ((e.key).map qy) false),(ii e.lp),(ii e.kind),(ii e.proc),(ii e.arg)])),(8,v8),(50,(.fsl ((out).map Evt.r) co)),(51,(ii out.length)),(52,(ii ((0:Nat))))],[]⟩ (R0 :: .row 6 ((dn).map Evt.r) g1 :: .row 6 ((p.2).map Evt.r) g2 :: .row 8 [[(ii ((x).r0)),(ii ((x).r1)),(.fsl (((x).procs).map Pr.r) f),(ii ((x).sum)),(.fsl ((p.1).map Evt.r) false),.sl 1 g1 0 (dn).length false,.sl 2 g2 0 (p.2).length false,(bb o)]] 0::[X4,X5,X6,X7,X8,X9])=some y ∧
   ∃g2':Nat,y.1 = .exit 0∧y.2.1.marks=[]∧y.2.2=(R0 :: .row 6 ((dn).map Evt.r) g1 :: .row 6 (((qdq e.lp p out).2).map Evt.r) g2' :: .row 8 [[(ii ((x).r0)),(ii ((x).r1)),(.fsl (((x).procs).map Pr.r) f),(ii ((x).sum)),(.fsl (((qdq e.lp p out).1).map Evt.r) false),.sl 1 g1 0 (dn).length false,.sl 2 g2' 0 ((qdq e.lp p out).2).length false,(bb o)]] 0::[X4,X5,X6,X7,X8,X9])∧wp y.2.1.vars 0=some (.ptr 3 0 0 0)∧wp y.2.1.vars 8=some v8:=by
 simp only[SObj.lo]at h0 h4 h5 h6 h7 h8 h9
 have key:=qcq (f:=exec (evL T) itL none qdk) (s:=qu [0,5,8,50,51,52] true 10) (α:=(List Evt×List Evt)×Nat)
  (fun i a=>⟨[(0,.ptr 3 0 0 0),(5,(.fptr [(ii e.time),(.fsl ((e.key).map qy) false),(ii e.lp),(ii e.kind),(ii e.proc),(ii e.arg)])),(8,v8),(50,(.fsl ((out).map Evt.r) co)),(51,(ii out.length)),(52,(ii i))],[]⟩) (fun _ a=>(R0 :: .row 6 ((dn).map Evt.r) g1 :: .row 6 ((a.1.2).map Evt.r) a.2 :: .row 8 [[(ii ((x).r0)),(ii ((x).r1)),(.fsl (((x).procs).map Pr.r) f),(ii ((x).sum)),(.fsl ((a.1.1).map Evt.r) false),.sl 1 g1 0 (dn).length false,.sl 2 a.2 0 (a.1.2).length false,(bb o)]] 0::[X4,X5,X6,X7,X8,X9])) (fun i a=>a.1=qdq e.lp p (out.take i)) out.length
  (fun y => ∃g2':Nat,y.1 = .exit 0∧y.2.1.marks=[]∧y.2.2=(R0 :: .row 6 ((dn).map Evt.r) g1 :: .row 6 (((qdq e.lp p out).2).map Evt.r) g2' :: .row 8 [[(ii ((x).r0)),(ii ((x).r1)),(.fsl (((x).procs).map Pr.r) f),(ii ((x).sum)),(.fsl (((qdq e.lp p out).1).map Evt.r) false),.sl 1 g1 0 (dn).length false,.sl 2 g2' 0 ((qdq e.lp p out).2).length false,(bb o)]] 0::[X4,X5,X6,X7,X8,X9])∧wp y.2.1.vars 0=some (.ptr 3 0 0 0)∧wp y.2.1.vars 8=some v8) ?_ ?_ 0 (p,g2) (wC _) rfl
 ·exact key
 ·rintro i ⟨⟨b,s⟩,g⟩ hi hbs
  simp only at hbs⊢
  obtain⟨n,hn⟩ : ∃n,out[i]? = some n:=⟨_,zgE hi⟩
  have hA:=PlOk.at e.lp hP i
  rw[←hbs,show out.drop i=n::out.drop (i+1) by rw[List.drop_eq_getElem_cons hi];rw[zgE hi]at hn;cases hn;rfl]at hA
  have hlen:=hP.len
  simp only[zgp]at hlen
  have hi':(i:Int)<(out.length:Int):=by omega
  have hw:IntKind.i64.wrap ((i:Int)+1)=((i+1:Nat):Int):=by rw[qi (by omega) (by omega)];simp
  have hnx:qdq e.lp p (out.take (i+1))=qqu e.lp (b,s) n:=by rw[List.take_add_one,hn,hbs];exact qacd _ _ _ _
  obtain⟨i1,i2,i3,i4,i5⟩:=hA.ins
  have hsl:=hA.len
  simp only[zgp]at hsl
  obtain⟨et,ek,el,ei,ep,ea⟩:=e
  unfold qqu at hnx
  by_cases hlp:n.lp=el
  ·refine .inl ⟨((sortL (n::b),s),g),?_,by simp only;rw[hnx,if_pos hlp]⟩
   have hI:=q9d b false n i1 i2 i3 i4 i5
   obtain⟨nt,nk,nl,ni,np,na⟩:=n
   simp only at hlp
   subst hlp
   generalize sortL (⟨nt,nk,nl,ni,np,na⟩::b)=B at *
   simp only at hI
   simp only[qdk,zgs,zgr,zgq,zgt,hn,hi',hw,hI,h0,h4,h5,h6,h7,h8,h9,hv8,Evt.r,qh,qg,qr,wg,wu,qb,wh,wv,wi,wk,ne_eq,zgy,↓qc,↓wc,we,wa,wm,wj,wf]
  ·refine .inl ⟨((b,s++[n]),g+1),?_,by simp only;rw[hnx,if_neg hlp]⟩
   have bd:(s.length+1)*64≤140737488355328:=by omega
   have tk:wB s.length (s.map Evt.r)=s.map Evt.r:=ztl (by simp)
   have lo:=qh 10 (s++[n])
   have hle:s.length≤s.length:=wD _
   obtain⟨nt,nk,nl,ni,np,na⟩:=n
   simp only at hlp
   rw[wz]at lo
   simp only[wz,zgp,wt,wn,Evt.r]at lo⊢
   simp only[qdk,zgs,zgr,zgq,zgt,hn,hi',hw,hlp,bd,tk,lo,hle,h0,h4,h5,h6,h7,h8,h9,hv8,Evt.r,qh,qg,qr,wg,wu,qqk,qb,qaw,wh,wv,wi,wk,ne_eq,zgy,↓qc,↓wc,we,wa,wx,wm,wj,ww,wf]
 ·rintro⟨⟨b,s⟩,g⟩ hbs
  rw[wy]at hbs
  simp only at hbs⊢
  rw[←hbs]
  simp only[qdk,wq,wg,zgy,↓qc,↓wc,wa,wf]
  exact⟨_,rfl,g,rfl,rfl,rfl,rfl,rfl⟩
theorem exec_l2 (h0:R0.lo 10=true) (h4:X4.lo 10=true) (h5:X5.lo 10=true) (h6:X6.lo 10=true) (h7:X7.lo 10=true) (h8:X8.lo 10=true) (h9:X9.lo 10=true) (G:List (List Int)) (cg:Bool) (b:List Evt) (s:List Evt) (g2:Nat) (hb:b.length≤1000000) (hk:qb0 b) (hG:G.length≤1000000) (hGk : ∀k∈G,k.length≤9223372036854775807) :
  ∃y,itB (exec (evL T) itL none qeo) (qu [0,81,82,83] true 10) ⟨[(0,.ptr 3 0 0 0),(81,(.fsl ((G).map qh7) cg)),(82,(ii G.length)),(83,(ii ((0:Nat))))],[]⟩ (R0 :: .row 6 ((dn).map Evt.r) g1 :: .row 6 ((s).map Evt.r) g2 :: .row 8 [[(ii ((x).r0)),(ii ((x).r1)),(.fsl (((x).procs).map Pr.r) f),(ii ((x).sum)),(.fsl ((b).map Evt.r) false),.sl 1 g1 0 (dn).length false,.sl 2 g2 0 (s).length false,(bb o)]] 0::[X4,X5,X6,X7,X8,X9])=some y ∧
   (y.1 = .exit 2∧y.2.1.marks=[]∧y.2.2=(R0 :: .row 6 ((dn).map Evt.r) g1 :: .row 6 ((s).map Evt.r) g2 :: .row 8 [[(ii ((x).r0)),(ii ((x).r1)),(.fsl (((x).procs).map Pr.r) f),(ii ((x).sum)),(.fsl (((q0r b G)).map Evt.r) false),.sl 1 g1 0 (dn).length false,.sl 2 g2 0 (s).length false,(bb o)]] 0::[X4,X5,X6,X7,X8,X9])):=by
 simp only[SObj.lo]at h0 h4 h5 h6 h7 h8 h9
 have key:=qcq (f:=exec (evL T) itL none qeo) (s:=qu [0,81,82,83] true 10) (α:=List Evt)
  (fun i a=>⟨[(0,.ptr 3 0 0 0),(81,(.fsl ((G).map qh7) cg)),(82,(ii G.length)),(83,(ii i))],[]⟩) (fun _ a=>(R0 :: .row 6 ((dn).map Evt.r) g1 :: .row 6 ((s).map Evt.r) g2 :: .row 8 [[(ii ((x).r0)),(ii ((x).r1)),(.fsl (((x).procs).map Pr.r) f),(ii ((x).sum)),(.fsl ((a).map Evt.r) false),.sl 1 g1 0 (dn).length false,.sl 2 g2 0 (s).length false,(bb o)]] 0::[X4,X5,X6,X7,X8,X9])) (fun i a=>a=q0r b (G.take i)) G.length
  (fun y=>y.1 = .exit 2∧y.2.1.marks=[]∧y.2.2=(R0 :: .row 6 ((dn).map Evt.r) g1 :: .row 6 ((s).map Evt.r) g2 :: .row 8 [[(ii ((x).r0)),(ii ((x).r1)),(.fsl (((x).procs).map Pr.r) f),(ii ((x).sum)),(.fsl (((q0r b G)).map Evt.r) false),.sl 1 g1 0 (dn).length false,.sl 2 g2 0 (s).length false,(bb o)]] 0::[X4,X5,X6,X7,X8,X9])) ?_ ?_ 0 b (wC _) rfl
 ·exact key
 ·rintro i a hi ha
  obtain⟨k,hkk⟩ : ∃k,G[i]? = some k:=⟨_,zgE hi⟩
  have hi':(i:Int)<(G.length:Int):=by omega
  have hw:IntKind.i64.wrap ((i:Int)+1)=((i+1:Nat):Int):=by rw[qi (by omega) (by omega)];simp
  have hs:a.Sublist b:=by rw[ha];exact qtg _ _
  obtain⟨cf,_,hC⟩:=q7m a false k false (by have:=hs.length_le;omega) (fun z hz=>hk z (hs.subset hz)) (hGk k (zmg hkk)) (fun _=>rfl)
  refine .inl ⟨(qem a k).1,?_,by rw[List.take_add_one,hkk,ha];exact(qaew _ _ _).symm⟩
  generalize qem a k=ck at *
  obtain⟨cl,cb⟩:=ck
  simp only at hC⊢
  simp only[qeo,zgs,zgr,zgq,zgt,hkk,hi',hw,hC,qh7,h0,h4,h5,h6,h7,h8,h9,qh,qg,qbj,qr,wg,wu,qb,wh,wv,wi,wk,zgy,↓qc,↓wc,we,wa,wm,wj,wf]
 ·rintro a ha
  rw[wy]at ha
  rw[←ha]
  simp only[qeo,wq,wg,zgy,↓qc,↓wc,wa,wf]
  exact⟨_,rfl,rfl,rfl,rfl⟩
theorem qalw (h0:R0.lo 9=true) (h4:X4.lo 9=true) (h5:X5.lo 9=true) (h6:X6.lo 9=true) (h7:X7.lo 9=true) (h8:X8.lo 9=true) (w:WSt) (rest:List Evt) (g2:Nat) (R:Ready c w.lp e) (hf:f=true→w.lp.procs=[]) (hP:PlOk (rest,w.sent) (qa4 c w.lp e).out) (hd:w.done.length≤100000) :
  ∃g1' g2':Nat,(evL T).call qdh [.ptr 3 0 0 0,(.agg [(.fsl ((c.lps).map lpC) false),(.fsl ((c.progs).map qau) false),(ii c.look),(ii c.fin),(ii c.cap)]),(.agg [(ii e.time),(.fsl ((e.key).map qy) false),(ii e.lp),(ii e.kind),(ii e.proc),(ii e.arg)])] (R0 :: .row 6 ((w.done).map Evt.r) g1 :: .row 6 ((w.sent).map Evt.r) g2 :: .row 8 [[(ii ((w.lp).r0)),(ii ((w.lp).r1)),(.fsl (((w.lp).procs).map Pr.r) f),(ii ((w.lp).sum)),(.fsl ((rest).map Evt.r) false),.sl 1 g1 0 (w.done).length false,.sl 2 g2 0 (w.sent).length false,(bb w.over)]] 0::[X4,X5,X6,X7,X8]) =
   some (.tup [],(R0 :: .row 6 (((w.step c e rest).done).map Evt.r) g1' :: .row 6 (((w.step c e rest).sent).map Evt.r) g2' :: .row 8 [[(ii (((w.step c e rest).lp).r0)),(ii (((w.step c e rest).lp).r1)),(.fsl ((((w.step c e rest).lp).procs).map Pr.r) f),(ii (((w.step c e rest).lp).sum)),(.fsl (((w.step c e rest).box).map Evt.r) false),.sl 1 g1' 0 ((w.step c e rest).done).length false,.sl 2 g2' 0 ((w.step c e rest).sent).length false,(bb ((w.step c e rest).over))]] 0::[X4,X5,X6,X7,X8])):=by
 have mono : ∀ {X:SObj},X.lo 9=true→X.lo 10=true:=fun h=>q27 (by omega) _ h
 have hz:=R.sizes
 have hE:=Exec_evF R f hf
 obtain⟨wl,wb,wd,ws,wo⟩:=w
 simp only at R hP hz hE hd hf⊢
 unfold WSt.step
 simp only
 generalize hr:qa4 c wl e=r at *
 obtain⟨⟨y1,f1,σ1⟩,k1,g2',k2,k3,k4,k5,k6⟩:=exec_l1 (e:=e) R0 X4 X5 X6 X7 X8 (.row 4 [[(ii r.lp.r0),(ii r.lp.r1),(.fsl ((r.lp.procs).map Pr.r) f),(ii r.lp.sum)]] 0) (wd++[e]) (g1+1) r.lp (wo||r.over) f (mono h0) (mono h4) (mono h5) (mono h6) (mono h7) (mono h8) (by simp only[qr,wg,wk,zgy]) r.out r.nil (rest,ws) g2 hP ((.fsl ((r.gone).map qh7) r.nil)) (by simp only[qbj,wg,zgy])
 have hpl:=qt6 e.lp r.out (rest,ws) []
 have hln:=hP.len
 have hkk:=hP.ok
 rw[wA,wA]at hpl
 obtain⟨⟨y2,f2,σ2⟩,m1,m2,m3,m4⟩:=exec_l2 R0 X4 X5 X6 X7 X8 (.row 4 [[(ii r.lp.r0),(ii r.lp.r1),(.fsl ((r.lp.procs).map Pr.r) f),(ii r.lp.sum)]] 0) (wd++[e]) (g1+1) r.lp (wo||r.over) f (mono h0) (mono h4) (mono h5) (mono h6) (mono h7) (mono h8) (by simp only[qr,wg,wk,zgy]) r.gone r.nil (qdq e.lp (rest,ws) r.out).1 (qdq e.lp (rest,ws) r.out).2 g2'
  (by have:=hpl.length_eq;simp only[zgp]at this hln;omega) (fun z hz'=>hkk z (hpl.mem_iff.1 (wI _ hz'))) (by omega) (fun k hk'=>by have:=hz.2.2.2.2.1 k hk';omega)
 simp only[wF]at k1 k2 k3 k4 k5 k6 m1 m2 m3 m4
 subst k2;subst k4;subst m2;subst m4
 refine⟨g1+1,g2',?_⟩
 have bd:(wd.length+1)*64≤140737488355328:=by omega
 have tk:wB wd.length (wd.map Evt.r)=wd.map Evt.r:=ztl (by simp)
 have hle:wd.length≤wd.length:=wD _
 have j0:=mono h0
 have j4:=mono h4
 have j5:=mono h5
 have j6:=mono h6
 have j7:=mono h7
 have j8:=mono h8
 simp only[SObj.lo]at h0 h4 h5 h6 h7 h8 j0 j4 j5 j6 j7 j8
 generalize (qdq e.lp (rest,ws) r.out).2=Z at *
 generalize (qdq e.lp (rest,ws) r.out).1=B at *
 generalize q0r B r.gone=B' at *
 obtain⟨et,ek,el,ei,ep,ea⟩:=e
 obtain⟨a0,a1,ap,as'⟩:=wl
 have lo:=qh 9 (wd++[⟨et,ek,el,ei,ep,ea⟩])
 have lo10:=qh 10 (wd++[⟨et,ek,el,ei,ep,ea⟩])
 rw[wz]at lo lo10 k1 m1
 simp only[wz,zgp,wt,wn,zga,zgb,zfd,Evt.r]at lo lo10 k1 m1⊢
 rw[qd qun qtn]
 cases wo with
 |true=>
  simp only[Bool.true_or]at k1 m1⊢
  simp only[qf5,hE,k1,k3,k5,k6,m1,m3,bd,tk,hle,lo,lo10,h0,h4,h5,h6,h7,h8,j0,j4,j5,j6,j7,j8,qh,qg,qbj,qr,qax,qv,wg,wu,qqk,qb,qaw,wh,wv,wi,qk,wk,ne_eq,zgy,↓qc,↓qq,↓wc,we,wa,wx,wm,wj,ww,wf]
 |false=>
  simp only[Bool.false_or]at k1 m1⊢
  simp only[qf5,hE,k1,k3,k5,k6,m1,m3,bd,tk,hle,lo,lo10,h0,h4,h5,h6,h7,h8,j0,j4,j5,j6,j7,j8,qh,qg,qbj,qr,qax,qv,wg,wu,qqk,qb,qaw,wh,wv,wi,qk,wk,ne_eq,zgy,↓qc,↓qq,↓wc,we,wa,wx,wm,wj,ww,wf]
end
set_option maxRecDepth 10000
theorem WInv.run {c:Cfg} {i:Nat} {O:List Evt} (hor:Int) : ∀(k:Nat) {w:WSt} {S:Sim} {H:List Evt},WInv c i w O S H→H.length+k≤20000 →
  ∃(S':Sim) (es:List Evt),WInv c i (WSt.run c hor k w) O S' (H++es)∧(WSt.run c hor k w).done=w.done++es∧S'.lps=S.lps.set i (WSt.run c hor k w).lp∧es.length≤k
 | 0,w,S,H,h,_=>⟨S,[],by rw[wA];exact h,(wA _).symm,(by
   have:S.lps.set i w.lp=S.lps:=List.ext_getElem? fun j=>by
    by_cases e:i=j
    ·subst e;rw[wN (by rw[h.K.lpl];exact h.il),h.lp]
    ·rw[wG e]
   exact this.symm),wD _⟩
 |k+1,w,S,H,h,hk=>by
  unfold WSt.run
  split
  ·obtain⟨S',es,h1,h2,h3,h4⟩:=WInv.run hor 0 h (by omega)
   exact⟨S',es,h1,h2,h3,by omega⟩
  next e rest hb=>
   split
   ·obtain⟨S1,g1,g2⟩:=h.step (by omega) hb
    obtain⟨S',es,h1,h2,h3,h4⟩:=WInv.run hor k g1 (by simp;omega)
    refine⟨S',e::es,by simpa using h1,by rw[h2];simp[WSt.step],?_,by simp;omega⟩
    rw[h3,g2,List.set_set]
   ·obtain⟨S',es,h1,h2,h3,h4⟩:=WInv.run hor 0 h (by omega)
    exact⟨S',es,h1,h2,h3,by omega⟩
def pL (c:Cfg):SObj:=.loop ⟨[(4,(.fptr [(.fsl ((c.lps).map lpC) false),(.fsl ((c.progs).map qau) false),(ii c.look),(ii c.fin),(ii c.cap)])),(13,.ptr 4 0 0 0)],[]⟩ [22] qf1 qfu .ready none
def pLb (c:Cfg):SObj:=.loop ⟨[(4,(.fptr [(.fsl ((c.lps).map lpC) false),(.fsl ((c.progs).map qau) false),(ii c.look),(ii c.fin),(ii c.cap)])),(13,.ptr 4 0 0 0)],[]⟩ [22] qf1 qfu .busy none
def pS (c:Cfg) (f:Bool) (w:WSt) (b:List Evt) (g1 g2:Nat):qj:=((.row 4 [[(ii 0),(ii 0),.fsl [] false,(ii 0)]] 0) :: .row 6 ((w.done).map Evt.r) g1 :: .row 6 ((w.sent).map Evt.r) g2 :: .row 8 [[(ii ((w.lp).r0)),(ii ((w.lp).r1)),(.fsl (((w.lp).procs).map Pr.r) f),(ii ((w.lp).sum)),(.fsl ((b).map Evt.r) false),.sl 1 g1 0 (w.done).length false,.sl 2 g2 0 (w.sent).length false,(bb w.over)]] 0::[.row 1 [[.ptr 3 0 0 0]] 0,.defr,(pL c)])
section
variable {c:Cfg} {f:Bool}
theorem w_round {e:Evt} (w:WSt) (rest:List Evt) (g1 g2:Nat) (R:Ready c w.lp e) (hf:f=true→w.lp.procs=[]) (hP:PlOk (rest,w.sent) (qa4 c w.lp e).out) (hd:w.done.length≤100000) :
  ∃g1' g2':Nat,(evL T).round 6 [(.agg [(ii e.time),(.fsl ((e.key).map qy) false),(ii e.lp),(ii e.kind),(ii e.proc),(ii e.arg)])] (pS c f w rest g1 g2++[.row 6 [e.r] 0])=some ((bb true),pS c f (w.step c e rest) (w.step c e rest).box g1' g2'++[.row 6 [e.r] 0]):=by
 obtain⟨g1',g2',h⟩:=qalw (e:=e) (.row 4 [[(ii 0),(ii 0),.fsl [] false,(ii 0)]] 0) (.row 1 [[.ptr 3 0 0 0]] 0) .defr (pLb c) (.row 6 [e.r] 0) (.row 6 [e.r] 0) g1 f (by simp only[wg,wk,zgy]) (by simp only[wg,wk,zgy,wm]) (by simp only[wk,zgy]) (by simp only[pLb,qax,qv,wg,wk,zgy,wm]) (by simp only[Evt.r,qg,wg,wk,zgy]) (by simp only[Evt.r,qg,wg,wk,zgy]) w rest g2 R hf hP hd
 refine⟨g1',g2',?_⟩
 rw[qahr]
 generalize w.step c e rest=w' at *
 obtain⟨et,ek,el,ei,ep,ea⟩:=e
 simp only[pLb,Evt.r,qf1,qfu]at h
 simp only[pS,pL,qf1,qfu,zgm,zgl,Evt.r,h,qh,qg,qr,qax,qv,wg,wu,qpw,qb,wh,wi,wk,ne_eq,zgy,↓qc,↓wc,we,wa,wm]
theorem events_L (hor:Int) : ∀(k:Nat) {w:WSt} {i:Nat} {O:List Evt} {S:Sim} {H:List Evt} (g1 g2:Nat),w.done.length+k=2000→WInv c i w O S H→(f=true→w.lp.procs=[])→H.length+k≤20000 →
  ∃y,itB (exec (evL T) itL none qbe) (qu [0,1,2] true 7) ⟨[(0,.yld 6),(1,.fptr [.ptr 3 0 0 0]),(2,.fptr [(ii hor)])],[]⟩ (pS c f w w.box g1 g2)=some y ∧
   ∃g1' g2':Nat,(y.1 = .exit 0∨y.1 = .ret)∧y.2.1.marks=[] ∧ ∃X:qj,y.2.2=pS c f (WSt.run c hor k w) (WSt.run c hor k w).box g1' g2'++X:=by
 intro k
 induction k with
 |zero=>
  intro w i O S H g1 g2 hk h hf hn
  have c1:¬(w.done.length:Int)<2000:=by omega
  have hx : ∃y,it1 (exec (evL T) itL none qbe) (qu [0,1,2] true 7) ⟨[(0,.yld 6),(1,.fptr [.ptr 3 0 0 0]),(2,.fptr [(ii hor)])],[]⟩ (pS c f w w.box g1 g2)=some (.inr y)∧(y.1 = .exit 0∨y.1 = .ret)∧y.2.1.marks=[]∧y.2.2=pS c f w w.box g1 g2:=by
   simp only[qbe,pS,pL,c1,wg,qb,zgy,↓qc,↓wc,wf]
   exact⟨_,rfl,by simp,rfl,rfl⟩
  obtain⟨y,h1,h2,h3,h4⟩:=hx
  exact⟨y,qn8 h1,g1,g2,h2,h3,[],by rw[wA];exact h4⟩
 |succ k ih=>
  intro w i O S H g1 g2 hk h hf hn
  have c1:(w.done.length:Int)<2000:=by omega
  have hl:=h.len
  obtain⟨cf,hT⟩:=qaa2 w.box false hor (by omega)
  cases hb:w.box with
  |nil=>
   have hrun:WSt.run c hor (k+1) w=w:=by rw[WSt.run,hb]
   rw[hrun]
   rw[hb]at hT
   have hx : ∃y,it1 (exec (evL T) itL none qbe) (qu [0,1,2] true 7) ⟨[(0,.yld 6),(1,.fptr [.ptr 3 0 0 0]),(2,.fptr [(ii hor)])],[]⟩ (pS c f w [] g1 g2)=some (.inr y)∧(y.1 = .exit 0∨y.1 = .ret)∧y.2.1.marks=[] ∧ ∃X,y.2.2=pS c f w w.box g1 g2++X:=by
    rw[hb]
    simp only[qqn,qac6,wn]at hT
    simp only[qbe,pS,pL,c1,hT,wn,wg,wu,qb,wh,wi,ne_eq,zgy,↓qc,↓wc,we,wa,wf]
    exact⟨_,rfl,by simp,rfl,_,rfl⟩
   obtain⟨y,h1,h2,h3,h4⟩:=hx
   exact⟨y,qn8 h1,g1,g2,h2,h3,h4⟩
  |cons e rest=>
   rw[hb]at hT
   by_cases ht:e.time<hor
   ·have hrun:WSt.run c hor (k+1) w=WSt.run c hor k (w.step c e rest):=by rw[WSt.run,hb];simp only[ht,if_true]
    rw[hrun]
    obtain⟨_,R,_⟩:=h.ready (by omega) hb
    have hP:=h.plOk (by omega) hb
    obtain⟨S',hS,_⟩:=h.step (by omega) hb
    obtain⟨g1',g2',hr⟩:=w_round w rest g1 g2 R hf hP (by omega)
    obtain⟨y,k1,k2⟩:=ih (w:=w.step c e rest) (S:=S') (H:=H++[e]) g1' g2' (by simp[WSt.step];omega) hS (fun k=>qaao (hf k)) (by simp;omega)
    refine⟨y,qm7 ?_ k1,k2⟩
    clear k1 k2 ih hP R hS hrun
    generalize w.step c e rest=w' at *
    obtain⟨et,ek,el,ei,ep,ea⟩:=e
    simp only at ht
    simp only[qqn,ht,if_true,wt,Evt.r]at hT
    simp only[pS,pL,zgm,zgl,Evt.r]at hr
    have hlo':=fun(w:WSt)=>qr 7 w.lp.procs
    simp only[qbe,pS,pL,c1,hT,hr,wt,Evt.r,zgm,qh,qg,qr,qax,qv,wg,wu,qb,wh,wv,wi,wk,ne_eq,zgy,↓qc,↓wc,we,wa,wm,wj,wf]
   ·have hrun:WSt.run c hor (k+1) w=w:=by rw[WSt.run,hb];simp only[ht,if_false]
    rw[hrun]
    have hx : ∃y,it1 (exec (evL T) itL none qbe) (qu [0,1,2] true 7) ⟨[(0,.yld 6),(1,.fptr [.ptr 3 0 0 0]),(2,.fptr [(ii hor)])],[]⟩ (pS c f w (e::rest) g1 g2)=some (.inr y)∧(y.1 = .exit 0∨y.1 = .ret)∧y.2.1.marks=[] ∧ ∃X,y.2.2=pS c f w w.box g1 g2++X:=by
     rw[hb]
     obtain⟨et,ek,el,ei,ep,ea⟩:=e
     simp only at ht
     simp only[qqn,ht,if_false,qac6,wt,wn,Evt.r]at hT
     simp only[qbe,pS,pL,c1,hT,wt,Evt.r,qh,qg,wg,wu,qb,wh,wi,ne_eq,zgy,↓qc,↓wc,we,wa,wf]
     exact⟨_,rfl,by simp,rfl,_,rfl⟩
    obtain⟨y,h1,h2,h3,h4⟩:=hx
    exact⟨y,qn8 h1,g1,g2,h2,h3,h4⟩
theorem qanw (hor:Int) {x:Lp} {b:List Evt} {i:Nat} {O:List Evt} {S:Sim} {H:List Evt} (h:WInv c i ⟨x,b,[],[],false⟩ O S H) (hf:f=true→x.procs=[]) (hn:H.length≤18000) :
  ∃g1 g2:Nat,(evL T).call qcl [.yld 6,.fptr [.ptr 3 0 0 0],.fptr [(ii hor)]] (pS c f ⟨x,b,[],[],false⟩ b 0 0)=some (.tup [],pS c f (WSt.run c hor 2000 ⟨x,b,[],[],false⟩) (WSt.run c hor 2000 ⟨x,b,[],[],false⟩).box g1 g2):=by
 obtain⟨⟨y,e,σ⟩,k1,g1,g2,k2,k3,X,k4⟩:=events_L hor 2000 0 0 rfl h hf (by omega)
 simp only at k1 k2 k3 k4
 subst k4
 refine⟨g1,g2,?_⟩
 rw[qd qnm qsu]
 generalize WSt.run c hor 2000 ⟨x,b,[],[],false⟩=w at *
 have hn1 : ∀(w:WSt) (b:List Evt) (g1 g2:Nat),(pS c f w b g1 g2).length=7:=fun _ _ _ _=>rfl
 have ht : ∀(w:WSt) (b:List Evt) (g1 g2:Nat) (X:qj),(pS c f w b g1 g2++X).take 7=pS c f w b g1 g2:=fun _ _ _ _ _=>List.take_left' rfl
 have hlo : ∀(w:WSt) (b:List Evt) (g1 g2:Nat),qel 7 (pS c f w b g1 g2)=true:=fun w b g1 g2=>by simp only[pS,pL,qh,qr,qax,qv,wg,wk,zgy,wm]
 have ht0 : ∀(w:WSt) (b:List Evt) (g1 g2:Nat),(pS c f w b g1 g2).take 7=pS c f w b g1 g2:=fun _ _ _ _=>rfl
 rcases k2 with rfl|rfl
 ·simp only[qfa,hn1,ht,ht0,hlo,k1,k3,wg,qk,zgy,↓qc,↓qq,↓wc,we,wa,wm,wf]
 ·simp only[qfa,hn1,ht,ht0,hlo,k1,k3,wg,qk,zgy,↓qc,↓qq,↓wc,we,wa,wm,wf]
theorem qahz (f:Bool) (w:WSt) (g1 g2:Nat) (R0 X4 X5 X6:SObj) (h0:R0.lo 7=true) (h4:X4.lo 7=true) (h5:X5.lo 7=true) (h6:X6.lo 7=true):(evL T).call qdz [.ptr 3 0 0 0] (R0 :: .row 6 ((w.done).map Evt.r) g1 :: .row 6 ((w.sent).map Evt.r) g2 :: .row 8 [[(ii ((w.lp).r0)),(ii ((w.lp).r1)),(.fsl (((w.lp).procs).map Pr.r) f),(ii ((w.lp).sum)),(.fsl ((w.box).map Evt.r) false),.sl 1 g1 0 (w.done).length false,.sl 2 g2 0 (w.sent).length false,(bb w.over)]] 0::[X4,X5,X6]) =
  some (.tup [.agg [(ii w.lp.r0),(ii w.lp.r1),(.fsl ((w.lp.procs).map Pr.r) f),(ii w.lp.sum)],(.fsl ((w.box).map Evt.r) false),.sl 1 g1 0 w.done.length false,.sl 2 g2 0 w.sent.length false,(bb w.over)],(R0 :: .row 6 ((w.done).map Evt.r) g1 :: .row 6 ((w.sent).map Evt.r) g2 :: .row 8 [[(ii ((w.lp).r0)),(ii ((w.lp).r1)),(.fsl (((w.lp).procs).map Pr.r) f),(ii ((w.lp).sum)),(.fsl ((w.box).map Evt.r) false),.sl 1 g1 0 (w.done).length false,.sl 2 g2 0 (w.sent).length false,(bb w.over)]] 0::[X4,X5,X6])):=by
 simp only[SObj.lo]at h0 h4 h5 h6
 rw[qd qvk qua]
 simp only[qir,h0,h4,h5,h6,qh,qr,wg,wu,qb,wh,wi,qk,wk,Ev.AV.obj?,ne_eq,zgy,↓qc,↓wc,we,wa,Nat.reduceBEq,wm,wj,wf]
 try rfl
theorem qak6 (hor:Int) {x:Lp} {b:List Evt} {cb:Bool} {i:Nat} {O:List Evt} {S:Sim} {H:List Evt} (h:WInv c i ⟨x,b,[],[],false⟩ O S H) (hf:f=true→x.procs=[]) (hn:H.length≤18000) :
  qm (evL T) qg1 [(.agg [(.fsl ((c.lps).map lpC) false),(.fsl ((c.progs).map qau) false),(ii c.look),(ii c.fin),(ii c.cap)]),(.agg [(ii x.r0),(ii x.r1),(.fsl ((x.procs).map Pr.r) f),(ii x.sum)]),(.fsl ((b).map Evt.r) cb),(ii hor)]=some (.tup [(.agg [(ii ((WSt.run c hor 2000 ⟨x,b,[],[],false⟩).lp.r0)),(ii ((WSt.run c hor 2000 ⟨x,b,[],[],false⟩).lp.r1)),(.fsl (((WSt.run c hor 2000 ⟨x,b,[],[],false⟩).lp.procs).map Pr.r) f),(ii ((WSt.run c hor 2000 ⟨x,b,[],[],false⟩).lp.sum))]),(.fsl (((WSt.run c hor 2000 ⟨x,b,[],[],false⟩).box).map Evt.r) false),(.fsl (((WSt.run c hor 2000 ⟨x,b,[],[],false⟩).done).map Evt.r) false),(.fsl (((WSt.run c hor 2000 ⟨x,b,[],[],false⟩).sent).map Evt.r) false),(bb ((WSt.run c hor 2000 ⟨x,b,[],[],false⟩).over))]):=by
 obtain⟨g1,g2,h1⟩:=qanw hor h hf hn
 generalize WSt.run c hor 2000 ⟨x,b,[],[],false⟩=w at *
 have h2:=qahz f w g1 g2 (.row 4 [[(ii 0),(ii 0),.fsl [] false,(ii 0)]] 0) (.row 1 [[.ptr 3 0 0 0]] 0) .dead (.loop ⟨[(4,(.fptr [(.fsl ((c.lps).map lpC) false),(.fsl ((c.progs).map qau) false),(ii c.look),(ii c.fin),(ii c.cap)])),(13,.ptr 4 0 0 0)],[]⟩ [22] qf1 qfu .exhausted none) (by simp only[wg,wk,zgy]) (by simp only[wg,wk,zgy,wm]) (by simp only[wk,zgy]) (by simp only[qax,qv,wg,wk,zgy,wm])
 have h2':=qahz f w g1 g2 (.row 4 [[(ii 0),(ii 0),.fsl [] false,(ii 0)]] 0) (.row 1 [[.ptr 3 0 0 0]] 0) .defr (.loop ⟨[(4,(.fptr [(.fsl ((c.lps).map lpC) false),(.fsl ((c.progs).map qau) false),(ii c.look),(ii c.fin),(ii c.cap)])),(13,.ptr 4 0 0 0)],[]⟩ [22] qf1 qfu .exhausted none) (by simp only[wg,wk,zgy]) (by simp only[wg,wk,zgy,wm]) (by simp only[wk,zgy]) (by simp only[qax,qv,wg,wk,zgy,wm])
 have hev : ∀ σ:qj,(evL T).call qd2 [.ptr 3 0 0 0,(ii hor)] σ=some (.fn (.func qcl) [] [.fptr [.ptr 3 0 0 0],.fptr [(ii hor)]],σ):=fun σ=>by
  rw[qd qwg quc]
  simp only[qiq,ite_self,wy,wg,wh,wv,wi,qk,ne_eq,zgy,↓qc,↓wc,we,wa,wf]
 have tk1:wB w.done.length (w.done.map Evt.r)=w.done.map Evt.r:=ztl (by simp)
 have tk2:wB w.sent.length (w.sent.map Evt.r)=w.sent.map Evt.r:=ztl (by simp)
 have hle : ∀n:Nat,n≤n:=fun n=>wD n
 simp only[pS,pL,wn,zgb]at h1
 rw[qm,qd q5b q25]
 simp only[qo6,hev,h1,h2',tk1,tk2,hle,qapf qnm,qh,qr,wg,wu,qb,wh,wv,wi,qk,ne_eq,zgy,↓qc,↓wc,we,wa,wm,wj,wf]
end
set_option maxRecDepth 10000
structure SimSt (n:Nat) (s:Sim) (L:List (Lp×Bool)) (A:qj) (O:List (List AV)):Prop where
 len:A.length=n+1
 lps:A[0]? = some (.row 4 (L.map lpF) 1)
 lpl:L.length=n
 lpf:L.map Prod.fst=s.lps
 flag : ∀x∈L,x.2=true→x.1.procs=[]
 trl:s.trace.length=n
 ol:O.length=n
 tr : ∀i:Nat,i<n → ∃g,A[i+1]? = some (.row 6 ((qjx s i).map Evt.r) g)∧O[i]? = some [.sl (i+1) g 0 (qjx s i).length false]
 alo:qel (n+1) A=true
 olo:qb4 (n+1) O=true
section
variable {A:qj} {n:Nat} (h:A.length=n+1) (B:qj) (x:SObj)
include h
theorem pre_g1:(A++B)[n+1]? = B[0]?:=by rw[←h,wH (wD _),Nat.sub_self]
theorem pre_g2:(A++B)[n+2]? = B[1]?:=by rw[wH (by omega)];congr 1;omega
theorem pre_s1:(A++B).set (n+1) x=A++B.set 0 x:=by rw[List.set_append,if_neg (by omega)];congr 2;omega
theorem pre_s2:(A++B).set (n+2) x=A++B.set 1 x:=by rw[List.set_append,if_neg (by omega)];congr 2;omega
theorem pre_old (i:Nat) (hi:i<n+1):(A++B)[i]? = A[i]?:=List.getElem?_append_left (by omega)
theorem pre_oldS (i:Nat) (hi:i<n+1):(A++B).set i x=A.set i x++B:=by rw[List.set_append,if_pos (by omega)]
end
section
variable (c:Cfg) (n:Nat) (A:qj) (O:List (List AV)) (hA:A.length=n+1) (rest:List Evt) (e:Evt) (k:Int) (ov:Bool)
include hA
end
set_option maxRecDepth 10000
def qlm:List Evt→List Evt→List Evt
 | [],b=>b
 |x::ax,[]=>x::ax
 |x::ax,y::bs=>if qxm y x<0 then y::qlm (x::ax) bs else x::qlm ax (y::bs)
termination_by a b=>a.length+b.length
theorem qaea (b:List Evt):qlm [] b=b:=by rw[qlm]
theorem qajr (a:List Evt):qlm a []=a:=by cases a<;>rw[qlm]
theorem qtw : ∀(a b:List Evt),(qlm a b).Perm (a++b)
 | [],b=>by rw[qlm];exact List.Perm.refl _
 |x::ax,[]=>by rw[qlm,wA]
 |x::ax,y::bs=>by
  rw[qlm]
  split
  ·exact(List.Perm.cons y (qtw (x::ax) bs)).trans List.perm_middle.symm
  ·exact List.Perm.cons x (qtw ax (y::bs))
termination_by a b=>a.length+b.length
theorem qxp : ∀(a b:List Evt),a.Pairwise leE→b.Pairwise leE→(qlm a b).Pairwise leE
 | [],b,_,hb=>by rw[qlm];exact hb
 |x::ax,[],ha,_=>by rw[qlm];exact ha
 |x::ax,y::bs,ha,hb=>by
  rw[qlm]
  have ha':=wU.1 ha
  have hb':=wU.1 hb
  split
  ·rename_i h
   refine wU.2 ⟨fun z hz => ?_,qxp (x::ax) bs ha hb'.2⟩
   rcases List.mem_append.1 ((qtw _ _).mem_iff.1 hz)with hz|hz
   ·rcases List.mem_cons.1 hz with rfl|hz
    ·exact qabi y _ h
    ·exact qqi y x z (qabi y x h) (ha'.1 z hz)
   ·exact hb'.1 z hz
  ·rename_i h
   have hxy:=qw7 y x h
   refine wU.2 ⟨fun z hz => ?_,qxp ax (y::bs) ha'.2 hb⟩
   rcases List.mem_append.1 ((qtw _ _).mem_iff.1 hz)with hz|hz
   ·exact ha'.1 z hz
   ·rcases List.mem_cons.1 hz with rfl|hz
    ·exact hxy
    ·exact qqi x y z hxy (hb'.1 z hz)
termination_by a b=>a.length+b.length
def mS (a b out:List Evt) (g:Nat):qj:=[.row 1 [[(.fsl ((a).map Evt.r) false)]] 0,.row 1 [[(.fsl ((b).map Evt.r) false)]] 0,.row 6 (out.map Evt.r) g,.row 1 [[.sl 2 g 0 out.length false]] 0,.defr,.loop ⟨[(2,.ptr 3 0 0 0)],[]⟩ [7] qbo qbn .ready none]
theorem q91 (a b out:List Evt) (g:Nat) (x:Evt) (h:out.length≤1000000):(evL T).round 5 [(.agg [(ii x.time),(.fsl ((x.key).map qy) false),(ii x.lp),(ii x.kind),(ii x.proc),(ii x.arg)])] (mS a b out g)=some ((bb true),mS a b (out++[x]) (g+1)):=by
 rw[qahr]
 have hb:(out.length+1)*64≤140737488355328:=by omega
 have htk:(out.map Evt.r).take out.length=out.map Evt.r:=ztl (by simp)
 have hr:(out++[x]).map Evt.r=out.map Evt.r++[x.r]:=by rw[wz];rfl
 have hl:(out++[x]).length=out.length+1:=by simp
 rw[mS,mS,hr,hl]
 obtain⟨xt,xk,xl,xi,xp,xa⟩:=x
 simp only[qbo,qbn,hb,htk,qn5,Evt.r,qh,qg,wg,wu,qpw,qqk,qb,qaw,wh,wv,wi,wk,ne_eq,zgy,↓qc,↓wc,we,wa,wx,wm,wj,ww]
section
variable (a0 b0:List Evt)
structure MgInv (s:(List Evt×List Evt)×(List Evt×Nat)):Prop where
 sum:s.2.1++qlm s.1.1 s.1.2=qlm a0 b0
 len:s.2.1.length+(s.1.1.length+s.1.2.length)≤1000000
 ka:qb0 s.1.1
 kb:qb0 s.1.2
theorem mg_L (hl:(a0++b0).length≤1000000) (ha:qb0 a0) (hb:qb0 b0) :
  ∃y,itB (exec (evL T) itL none qdu) (qu [0,1,2] true 6) ⟨[(0,.yld 5),(1,.ptr 0 0 0 0),(2,.ptr 1 0 0 0)],[]⟩ (mS a0 b0 [] 0)=some y ∧ ∃g:Nat,y.1 = .exit 0∧y.2.1.marks=[]∧y.2.2=mS [] [] (qlm a0 b0) g:=by
 have key:=qjo (f:=exec (evL T) itL none qdu) (s:=qu [0,1,2] true 6) (τ:=(List Evt×List Evt)×(List Evt×Nat)) (fun _=>⟨[(0,.yld 5),(1,.ptr 0 0 0 0),(2,.ptr 1 0 0 0)],[]⟩) (fun s=>mS s.1.1 s.1.2 s.2.1 s.2.2) (fun s=>s.1.1.length+s.1.2.length)
  (MgInv a0 b0) (fun y => ∃g:Nat,y.1 = .exit 0∧y.2.1.marks=[]∧y.2.2=mS [] [] (qlm a0 b0) g) ?_ ((a0,b0),([],0)) ⟨rfl,by simpa using hl,ha,hb⟩
 ·exact key
 rintro⟨⟨a,b⟩,⟨out,g⟩⟩ ⟨h1,h2,h3,h4⟩
 simp only at h1 h2 h3 h4⊢
 have w00:IntKind.i64.wrap 0=0:=rfl
 rcases a with _|⟨x,ax⟩<;>rcases b with _|⟨y,bs⟩
 ·right
  rw[qaea,wA]at h1
  rw[←h1]
  simp only[qdu,mS,wn,Int.add_zero,w00,wq,gt_iff_lt,wg,qb,zgy,↓qc,↓wc,wa,wf]
  exact⟨_,rfl,g,rfl,rfl,rfl⟩
 ·left
  have hr:=q91 [] (y::bs) out g y (by omega)
  refine⟨(([],bs),(out++[y],g+1)),?_,⟨?_,by simp at h2 ⊢;omega,h3,fun z hz=>h4 z (wJ _ hz)⟩,by simp⟩
  ·have w1:IntKind.i64.wrap ((0:Int)+((bs.length+1:Nat):Int))=((bs.length+1:Nat):Int):=by simp at h2;rw[qi (by omega) (by omega)];omega
   have w2:((bs.length+1:Nat):Int)>0:=by omega
   have w3:(1:Int)≤((bs.length+1:Nat):Int):=by omega
   have tk:(bs.map Evt.r).take bs.length=bs.map Evt.r:=ztl (by simp)
   have ok:=qgi bs
   clear h1 h4
   obtain⟨yt,yk,yl,yi,yp,ya⟩:=y
   simp only[mS,wt,wn,Evt.r,zgp,zga,zgb,zfd]at hr
   simp only[qdu,mS,wt,wn,Evt.r,zgr,hr,w1,w2,w3,tk,ok,wV,wO,imp_self,qh,wg,wu,qb,wh,wv,wi,wk,zgy,↓qc,↓wc,we,wa,wm,Int.reduceLE,wP,wf]
  ·rw[qaea]at h1 ⊢;rw[←h1];simp
 ·left
  have hr:=q91 (x::ax) [] out g x (by omega)
  refine⟨((ax,[]),(out++[x],g+1)),?_,⟨?_,by simp at h2 ⊢;omega,fun z hz=>h3 z (wJ _ hz),h4⟩,by simp⟩
  ·have w1:IntKind.i64.wrap (((ax.length+1:Nat):Int)+(0:Int))=((ax.length+1:Nat):Int):=by simp at h2;rw[qi (by omega) (by omega)];omega
   have w2:((ax.length+1:Nat):Int)>0:=by omega
   have w3:(1:Int)≤((ax.length+1:Nat):Int):=by omega
   have w4:¬((ax.length+1:Nat):Int)=0:=by omega
   have tk:(ax.map Evt.r).take ax.length=ax.map Evt.r:=ztl (by simp)
   have ok:=qgi ax
   clear h1 h3
   obtain⟨xt,xk,xl,xi,xp,xa⟩:=x
   simp only[mS,wt,wn,Evt.r,zgp,zga,zgb,zfd]at hr
   simp only[qdu,mS,wt,wn,Evt.r,zgr,hr,w1,w2,w3,w4,tk,ok,wq,gt_iff_lt,wV,wO,imp_self,qh,wg,wu,qb,wh,wv,wi,wk,zgy,↓qc,↓wc,we,wa,wm,Int.reduceLE,wP,wf]
  ·rw[qajr]at h1 ⊢;rw[←h1];simp
 ·left
  have w1:IntKind.i64.wrap (((ax.length+1:Nat):Int)+((bs.length+1:Nat):Int))=((ax.length+1+(bs.length+1):Nat):Int):=qph (by simp at h2;omega)
  have w2:((ax.length+1+(bs.length+1):Nat):Int)>0:=by omega
  have w3:(1:Int)≤((ax.length+1:Nat):Int):=by omega
  have w4:¬((ax.length+1:Nat):Int)=0:=by omega
  have w5:((bs.length+1:Nat):Int)>0:=by omega
  have w6:(1:Int)≤((bs.length+1:Nat):Int):=by omega
  have hc:=qyv y x (h4 y (by simp)) (h3 x (by simp))
  by_cases hlt:qxm y x<0
  ·have hr:=q91 (x::ax) (y::bs) out g y (by omega)
   refine⟨((x::ax,bs),(out++[y],g+1)),?_,⟨?_,by simp at h2 ⊢;omega,h3,fun z hz=>h4 z (wJ _ hz)⟩,by simp⟩
   ·have tk:(bs.map Evt.r).take bs.length=bs.map Evt.r:=ztl (by simp)
    have ok:=qgi bs
    clear h1 h3 h4
    obtain⟨xt,xk,xl,xi,xp,xa⟩:=x
    obtain⟨yt,yk,yl,yi,yp,ya⟩:=y
    simp only at hc
    simp only[mS,wt,Evt.r,zgp,zga,zgb,zfd]at hr
    simp only[qdu,mS,wt,Evt.r,zgr,hr,hc,hlt,w1,w2,w4,w5,w6,tk,ok,wV,wO,imp_self,qh,qg,wg,wu,qb,wh,wv,wi,wk,zgy,↓qc,↓wc,we,wa,wm,Int.reduceLE,wP,wf]
   ·rw[qlm,if_pos hlt]at h1;rw[←h1];simp
  ·have hr:=q91 (x::ax) (y::bs) out g x (by omega)
   refine⟨((ax,y::bs),(out++[x],g+1)),?_,⟨?_,by simp at h2 ⊢;omega,fun z hz=>h3 z (wJ _ hz),h4⟩,by simp⟩
   ·have tk:(ax.map Evt.r).take ax.length=ax.map Evt.r:=ztl (by simp)
    have ok:=qgi ax
    clear h1 h3 h4
    obtain⟨xt,xk,xl,xi,xp,xa⟩:=x
    obtain⟨yt,yk,yl,yi,yp,ya⟩:=y
    simp only at hc
    simp only[mS,wt,Evt.r,zgp,zga,zgb,zfd]at hr
    simp only[qdu,mS,wt,Evt.r,zgr,hr,hc,hlt,w1,w2,w3,w4,w5,tk,ok,wV,wO,imp_self,qh,qg,wg,wu,qb,wh,wv,wi,wk,zgy,↓qc,↓wc,we,wa,wm,Int.reduceLE,wP,wf]
   ·rw[qlm,if_neg hlt]at h1;rw[←h1];simp
theorem qaiv (hl:(a0++b0).length≤1000000) (ha:qb0 a0) (hb:qb0 b0) : ∃g:Nat,(evL T).call qdp [.yld 5,.ptr 0 0 0 0,.ptr 1 0 0 0] (mS a0 b0 [] 0)=some (.tup [],mS [] [] (qlm a0 b0) g):=by
 obtain⟨⟨y,e,σ⟩,h1,g,h2,h3,h4⟩:=mg_L a0 b0 hl ha hb
 simp only at h2 h3 h4
 subst h2;subst h4
 refine⟨g,?_⟩
 rw[qd qsb q0q]
 have hn : ∀(a b out:List Evt) (g:Nat),(mS a b out g).length=6:=fun _ _ _ _=>rfl
 have ht : ∀(a b out:List Evt) (g:Nat),(mS a b out g).take 6=mS a b out g:=fun _ _ _ _=>rfl
 have hlo : ∀(a b out:List Evt) (g:Nat),qel 6 (mS a b out g)=true:=fun a b out g=>by simp only[mS,qh,wg,wk,zgy,wm]
 simp only[qm9,hn,ht,hlo,h1,h3,wg,qk,zgy,↓qc,↓qq,↓wc,we,wa,wm,wf]
theorem qah2 (hl:(a0++b0).length≤1000000) (ha:qb0 a0) (hb:qb0 b0) : ∃(g:Nat) (τ:qj),(evL T).call qar [.fsl [] true,.fn (.func qdp) [] [.ptr 0 0 0 0,.ptr 1 0 0 0]] [.row 1 [[(.fsl ((a0).map Evt.r) false)]] 0,.row 1 [[(.fsl ((b0).map Evt.r) false)]] 0] =
  some (.sl 2 g 0 (qlm a0 b0).length false,[.row 1 [[(.fsl (([]).map Evt.r) false)]] 0,.row 1 [[(.fsl (([]).map Evt.r) false)]] 0,.row 6 ((qlm a0 b0).map Evt.r) g]++τ):=by
 obtain⟨g,h⟩:=qaiv a0 b0 hl ha hb
 simp only[mS,wn,zgb]at h
 refine⟨g,[.row 1 [[.sl 2 g 0 (qlm a0 b0).length false]] 0,.dead,.loop ⟨[(2,.ptr 3 0 0 0)],[]⟩ [7] qbo qbn .exhausted none],?_⟩
 rw[qd qk6 qkg]
 simp only[qb2,h,qapf qsb,wn,wg,qb,qk,wk,ne_eq,zgy,↓qc,↓wc,we,wa,wm,wf]
theorem q51 (c d:Bool):(evL T).call qii [(.fsl ((a0).map Evt.r) c),(.fsl ((b0).map Evt.r) d)] []=some (.fn (.func qdp) [] [.ptr 0 0 0 0,.ptr 1 0 0 0],[.row 1 [[(.fsl ((a0).map Evt.r) false)]] 0,.row 1 [[(.fsl ((b0).map Evt.r) false)]] 0]):=by
 rw[qd q4k q3k]
 simp only[qoy,wg,wh,wv,wi,qk,ne_eq,zgy,↓qc,↓wc,we,wa,wm,wf]
theorem qak7 (hl:(a0++b0).length≤1000000) (ha:qb0 a0) (hb:qb0 b0) : ∃(g:Nat) (τ:qj),(evL T).call qca [.fn (.func qdp) [] [.ptr 0 0 0 0,.ptr 1 0 0 0]] [.row 1 [[(.fsl ((a0).map Evt.r) false)]] 0,.row 1 [[(.fsl ((b0).map Evt.r) false)]] 0] =
  some (.sl 2 g 0 (qlm a0 b0).length false,[.row 1 [[.fsl [] false]] 0,.row 1 [[.fsl [] false]] 0,.row 6 ((qlm a0 b0).map Evt.r) g]++τ):=by
 obtain⟨g,τ,h⟩:=qah2 a0 b0 hl ha hb
 refine⟨g,τ,?_⟩
 simp only[wn,zgm,zgl]at h⊢
 rw[qd qq7 qql]
 simp only[qfn,h,wg,qk,wk,zgy,↓qc,↓wc,we,wm,wf]
theorem q9l (c d:Bool) (hl:(a0++b0).length≤1000000) (hk:qb0 (a0++b0)) (hs:a0.Pairwise leE) (hd:qys (a0++b0)):qm (evL T) qjm [(.fsl ((a0).map Evt.r) c),(.fsl ((b0).map Evt.r) d)]=some (.fsl ((sortL (a0++b0)).map Evt.r) false):=by
 have ka:qb0 a0:=fun z hz=>hk z (wI _ hz)
 have kb:qb0 b0:=fun z hz=>hk z (List.mem_append_right _ hz)
 have hlb:b0.length≤1000000:=by rw[wr]at hl;omega
 have h1:=qsa b0 d hlb kb (hd.sub (List.sublist_append_right a0 b0))
 have h2:=q51 a0 (sortL b0) c false
 obtain⟨g,τ,h3⟩:=qak7 a0 (sortL b0) (by rw[wr,qz7,←wr];exact hl) ka kb.sortL
 have hp:(qlm a0 (sortL b0)).Perm (a0++b0):=(qtw _ _).trans (List.Perm.append_left a0 (qc8 b0))
 have he:=qpp hd hp (qxp _ _ hs (qg5 b0))
 rw[he]at h3
 generalize sortL (a0++b0)=R at *
 have htk:(R.map Evt.r).take R.length=R.map Evt.r:=ztl (by simp)
 simp only[zgm,zgl]at h3
 have s1:qhy 0 ([]:List AV)=[]:=by simp only[qhy]
 have s2:qhy 0 [AV.ptr 0 0 0 0,AV.ptr 1 0 0 0]=[AV.ptr 0 0 0 0,AV.ptr 1 0 0 0]:=by simp only[qhy,AV.shift,wW]
 rw[qm,qd q6m q4m]
 simp only[qp2,s1,s2,h1,h2,h3,htk,qh,wg,q3y,qk,zgy,↓qc,↓wc,we,wa,wm,wf]
end
set_option maxRecDepth 10000
def qbl (bs:List (List Evt)) (l:List Evt):List (List Evt):=bs.mapIdx fun i b=>sortL (b++qao l i)
structure DSt (n:Nat) (B:List (List AV)) (t:Nat→List Evt) (A:qj) (O:List (List AV)):Prop where
 len:A.length=n+1
 box:A[0]? = some (.row 1 B 0)
 ol:O.length=n
 tr : ∀i:Nat,i<n → ∃g,A[i+1]? = some (.row 6 ((t i).map Evt.r) g)∧O[i]? = some [.sl (i+1) g 0 (t i).length false]
 alo:qel (n+1) A=true
 olo:qb4 (n+1) O=true
theorem qakb {n:Nat} : ∀ {O:List (List AV)} (i:Nat) (x:List AV),qb4 n O=true→los n x=true→qb4 n (O.set i x)=true
 | [],i,x,h,_=>h
 |a::O,0,x,h,hx=>by
  simp only[qqb,wK]at h
  rw[List.set_cons_zero,qqb,hx,h.2];rfl
 |a::O,i+1,x,h,hx=>by
  simp only[qqb,wK]at h
  rw[List.set_cons_succ,qqb,h.1,qakb i x h.2 hx];rfl
theorem DSt.step {n:Nat} {B:List (List AV)} {t:Nat→List Evt} {A:qj} {O:List (List AV)} (S:DSt n B t A O) {i:Nat} (hi:i<n) (e:Evt) {g:Nat} :
  DSt n B (fun j=>if i=j then t i++[e]else t j) (A.set (i+1) (.row 6 ((t i++[e]).map Evt.r) (g+1))) (O.set i [.sl (i+1) (g+1) 0 ((t i).length+1) false]):=by
 have c1:i+1<n+1:=by omega
 refine⟨by rw[wT];exact S.len,by rw[wG (by omega)];exact S.box,by rw[wT];exact S.ol,fun j hj => ?_,q28 S.alo _ (show qb4 (n+1) _=true from qh _ _),qakb i _ S.olo (by simp only[q90,qagi,lo_sl,c1,zgv,zfc])⟩
 by_cases e1:i=j
 ·subst e1
  exact⟨g+1,by rw[if_pos rfl,wN (by rw[S.len];omega)],by rw[if_pos rfl,wN (by rw[S.ol];omega),wr];rfl⟩
 ·obtain⟨g',h1,h2⟩:=S.tr j hj
  exact⟨g',by rw[if_neg e1,wG (by omega)];exact h1,by rw[if_neg e1,wG e1];exact h2⟩
section
variable (n:Nat) (B:List (List AV)) (D:List Evt) (cd:Bool)
theorem qams (hD:D.length≤1000000) (hl : ∀e∈D,0≤e.lp∧e.lp<(n:Int)) (cb:Bool) {A:qj} {O:List (List AV)} (S:DSt n B (fun _=>[]) A O) :
  ∃y,itB (exec (evL T) itL none qjd) (qu [5,6,17,18,19] true (n+2)) ⟨[(5,.sl 0 0 0 n cb),(6,.sl (n+1) 0 0 n true),(17,(.fsl ((D).map Evt.r) cd)),(18,(ii D.length)),(19,(ii ((0:Nat))))],[]⟩ (A++[.row 1 O 0])=some y ∧
   ∃(A':qj) (O':List (List AV)),DSt n B (fun i=>qao D i) A' O'∧y.1 = .exit 0∧y.2.1.marks=[]∧y.2.2=A'++[.row 1 O' 0]∧wp y.2.1.vars 5=some (.sl 0 0 0 n cb)∧wp y.2.1.vars 6=some (.sl (n+1) 0 0 n true):=by
 have key:=qcq (f:=exec (evL T) itL none qjd) (s:=qu [5,6,17,18,19] true (n+2)) (α:=qj×List (List AV))
  (fun i a=>⟨[(5,.sl 0 0 0 n cb),(6,.sl (n+1) 0 0 n true),(17,(.fsl ((D).map Evt.r) cd)),(18,(ii D.length)),(19,(ii i))],[]⟩) (fun _ a=>a.1++[.row 1 a.2 0]) (fun i a=>DSt n B (fun j=>qao (D.take i) j) a.1 a.2) D.length
  (fun y => ∃(A':qj) (O':List (List AV)),DSt n B (fun i=>qao D i) A' O'∧y.1 = .exit 0∧y.2.1.marks=[]∧y.2.2=A'++[.row 1 O' 0]∧wp y.2.1.vars 5=some (.sl 0 0 0 n cb)∧wp y.2.1.vars 6=some (.sl (n+1) 0 0 n true)) ?_ ?_ 0 (A,O) (wC _) S
 ·exact key
 ·rintro k ⟨A,O⟩ hk S
  simp only at S⊢
  obtain⟨e,he⟩ : ∃e,D[k]? = some e:=⟨_,zgE hk⟩
  have hk':(k:Int)<(D.length:Int):=by omega
  have hw:IntKind.i64.wrap ((k:Int)+1)=((k+1:Nat):Int):=by rw[qi (by omega) (by omega)];simp
  obtain⟨l1,l2⟩:=hl e (zmg he)
  obtain⟨i,hi⟩ : ∃i:Nat,e.lp=i:=⟨_,(Int.toNat_of_nonneg l1).symm⟩
  have hin:i<n:=by omega
  obtain⟨g,t1,t2⟩:=S.tr i hin
  have hS:=S.step hin e (g:=g)
  have ht:(fun j=>if i=j then qao (D.take k) i++[e]else qao (D.take k) j)=(fun j=>qao (D.take (k+1)) j):=by
   funext j
   rw[List.take_add_one,he]
   show _=qao (D.take k++[e]) j
   unfold qao
   rw[List.filter_append,List.filter_cons,List.filter_nil]
   by_cases e1:i=j
   ·subst e1;rw[if_pos rfl,if_pos (by simpa using hi)]
   ·rw[if_neg e1,if_neg (by simp only[decide_eq_true_eq];omega),wA]
  rw[ht]at hS
  refine .inl ⟨(A.set (i+1) (.row 6 ((qao (D.take k) i++[e]).map Evt.r) (g+1)),O.set i [.sl (i+1) (g+1) 0 ((qao (D.take k) i).length+1) false]),?_,hS⟩
  simp only
  have hA:=S.len
  have hown:(qao (D.take k) i).length≤1000000:=by
   unfold qao
   have:=List.length_filter_le (fun e:Evt=>decide (e.lp=i)) (D.take k)
   have:=List.length_take_le' k D;omega
  generalize qao (D.take k) i=t at *
  have p1:=fun B=>pre_old hA B (i+1) (by omega)
  have p2:=fun B x=>pre_oldS hA B x (i+1) (by omega)
  have b1:((n+1)==(i+1))=false:=by rw[beq_eq_false_iff_ne];omega
  have b2:((n+2)==(i+1))=false:=by rw[beq_eq_false_iff_ne];omega
  have b3:((n+2)==n+2)=true:=by simp
  have tk:wB t.length (t.map Evt.r)=t.map Evt.r:=ztl (by simp)
  have bd:(t.length+1)*64≤140737488355328:=by omega
  have hA2 : ∀v,(A.set (i+1) v).length=n+1:=fun v=>by rw[wT];exact hA
  have q1:=fun v B=>pre_g1 (hA2 v) B
  have q2:=fun v B=>pre_g2 (hA2 v) B
  have q4:=fun v B x=>pre_s1 (hA2 v) B x
  have hle:t.length≤t.length:=wD _
  have lo1:qel (n+2) (A.set (i+1) (.row 6 ((t++[e]).map Evt.r) (g+1)))=true:=qps (by omega) hS.alo
  have lo2:qb4 (n+2) (O.set i [.sl (i+1) (g+1) 0 (t.length+1) false])=true:=qon (by omega) _ hS.olo
  have t3 : ∀v (B:qj),(A.set (i+1) v++B).take (n+2)=A.set (i+1) v++B.take 1:=fun v B=>by
   rw[List.take_append,ztl (by rw[hA2];omega),hA2];congr 2;omega
  have d0:0<n+2:=by omega
  have d1:n+1<n+2:=by omega
  rw[wz]at lo1⊢
  obtain⟨et,ek,el,ei,ep,ea⟩:=e
  simp only at hi
  subst hi
  simp only[wt,wn,Evt.r]at lo1⊢
  simp only[qjd,zgs,zgr,zgq,zgt,he,hk',hw,pre_g1 hA,pre_g2 hA,pre_s2 hA,hA,Nat.add_assoc,List.append_assoc,p1,p2,q1,q4,t1,t2,b2,b3,tk,bd,hle,hin,lo1,lo2,t3,d0,d1,qq9,Evt.r,qh,wg,wu,qqk,qb,qaw,wh,wv,wi,wk,Ev.AV.obj?,ne_eq,zgy,↓qc,↓wc,we,wa,wx,wj,ww]
 ·rintro⟨A,O⟩ S
  simp only[wy]at S
  have hA:=S.len
  have lo1:qel (n+2) A=true:=qps (by omega) S.alo
  have lo2:qb4 (n+2) O=true:=qon (by omega) _ S.olo
  have t3 : ∀(B:qj),(A++B).take (n+2)=A++B.take 1:=fun B=>by
   rw[List.take_append,ztl (by omega)];congr 2;omega
  have d0:0<n+2:=by omega
  have d1:n+1<n+2:=by omega
  simp only[qjd,wq,wg,zgy,↓qc,↓wc,wa]
  exact⟨_,rfl,A,O,S,rfl,rfl,rfl,rfl,rfl⟩
theorem qak1 (D:List Evt) (bs:List (List Evt)) (hbn:bs.length=n) (hn:n≤1000) (hD:(bs.flatten++D).length≤1000000) (hk:qb0 (bs.flatten++D)) (hs : ∀b∈bs,b.Pairwise leE) (hd : ∀i b,bs[i]? = some b→qys (b++qao D i)) (cb:Bool) {A:qj} {O:List (List AV)} (S:DSt n (bs.map qf) (fun i=>qao D i) A O) :
  ∃y,itB (exec (evL T) itL none qhh) (qu [5,36,37,38] true (n+2)) ⟨[(5,.sl 0 0 0 n cb),(36,.sl (n+1) 0 0 n true),(37,(ii n)),(38,(ii ((0:Nat))))],[]⟩ (A++[.row 1 O 0])=some y ∧
   (y.1 = .exit 2∧y.2.1.marks=[] ∧ ∃X:qj,y.2.2 = .row 1 ((qbl bs D).map qf) 0::X)∧wp y.2.1.vars 5=some (.sl 0 0 0 n cb):=by
 have mem : ∀ {i:Nat} {b:List Evt},bs[i]? = some b → ∀e∈b,e∈bs.flatten:=fun h e he=>List.mem_flatten.2 ⟨_,zmg h,he⟩
 have bl : ∀ {i:Nat} {b:List Evt},bs[i]? = some b→b.length≤bs.flatten.length:=fun h=>(List.sublist_flatten_of_mem (zmg h)).length_le
 have hDl:=hD
 rw[wr]at hDl
 have key:=qcq (f:=exec (evL T) itL none qhh) (s:=qu [5,36,37,38] true (n+2)) (α:=qj×List (List Evt))
  (fun i a=>⟨[(5,.sl 0 0 0 n cb),(36,.sl (n+1) 0 0 n true),(37,(ii n)),(38,(ii i))],[]⟩) (fun _ a => .row 1 (a.2.map qf) 0::a.1++[.row 1 O 0])
  (fun i a=>a.2.length=n∧(∀j,j<n→a.2[j]? = if j<i then (qbl bs D)[j]? else bs[j]?)∧a.1.length=n∧qel (n+1) a.1=true ∧ ∀j,i≤j→j<n → ∃g,a.1[j]? = some (.row 6 ((qao D j).map Evt.r) g)∧O[j]? = some [.sl (j+1) g 0 (qao D j).length false]) n
  (fun y=>(y.1 = .exit 2∧y.2.1.marks=[] ∧ ∃X:qj,y.2.2 = .row 1 ((qbl bs D).map qf) 0::X)∧wp y.2.1.vars 5=some (.sl 0 0 0 n cb)) ?_ ?_
 ·obtain⟨A0,hA0,hAl⟩ : ∃A0:qj,A = .row 1 (bs.map qf) 0::A0∧A0.length=n:=by
   have hb:=S.box;have hl:=S.len
   cases A with
   |nil=>simp at hb
   |cons a A0=>simp only[zgd,Option.some.injEq]at hb;exact⟨A0,by rw[hb],by simpa using hl⟩
  rw[hA0]
  refine key 0 (A0,bs) (wC _) ⟨hbn,fun j hj=>by rw[if_neg (by omega)],hAl,?_,fun j _ hj => ?_⟩
  ·have:=S.alo;rw[hA0,qpd]at this;rw[qpd];exact fun x hx=>this x (wJ _ hx)
  ·have:=S.tr j hj;rw[hA0,wL]at this;exact this
 ·rintro i ⟨A1,L⟩ hi ⟨h1,h2,h3,h4,h5⟩
  simp only at h1 h2 h3 h4 h5⊢
  obtain⟨g,t1,t2⟩:=h5 i (wD _) hi
  obtain⟨b,hb⟩ : ∃b,bs[i]? = some b:=⟨_,zgE (by omega)⟩
  have hLi:L[i]? = some b:=by rw[h2 i hi,if_neg (by omega),hb]
  have hdl:(qbl bs D)[i]? = some (sortL (b++qao D i)):=by unfold qbl;rw[List.getElem?_mapIdx,hb];rfl
  have hi':(i:Int)<(n:Int):=by omega
  have hw:IntKind.i64.wrap ((i:Int)+1)=((i+1:Nat):Int):=by rw[qi (by omega) (by omega)];simp
  have lo1:qel (n+2) A1=true:=qps (by omega) h4
  have lo2:qb4 (n+2) O=true:=qon (by omega) _ S.olo
  have loL:=qan (n+2) L
  have d0:0<n+2:=by omega
  have d1:n+1<n+2:=by omega
  have g1 : ∀x:SObj,(x::(A1++[.row 1 O 0]))[n+1]? = some (.row 1 O 0):=fun x=>by
   rw[wL,wH (by omega),h3];simp
  have tk0 : ∀x:SObj,wB (n+2) (x::(A1++[.row 1 O 0]))=x::(A1++[.row 1 O 0]):=fun x=>ztl (by simp;omega)
  have hnl : ∀x:SObj,(x::(A1++[.row 1 O 0])).length=n+2:=fun x=>by simp[h3]
  by_cases ho:(qao D i).length=0
  ·have ho':=List.eq_nil_of_length_eq_zero ho
   have hds:sortL (b++qao D i)=b:=by
    rw[ho',wA]
    have:=hd i b hb
    rw[ho',wA]at this
    exact(qaem this (hs b (zmg hb))).symm
   refine .inl ⟨(A1,L),?_,h1,fun j hj => ?_,h3,h4,fun j hj1 hj2=>h5 j (by omega) hj2⟩
   ·have c0:¬((0:Nat):Int)>0:=by omega
    rw[ho]at t2
    simp only[qhh,zgs,zgr,hi',hi,hw,g1,t2,lo1,lo2,loL,d0,d1,tk0,qq9,zgm,gt_iff_lt,wq,wg,qb,wk,zgy,↓qc,↓wc,wa]
   ·rw[h2 j hj]
    by_cases e1:j=i
    ·subst e1;rw[if_neg (by omega),if_pos (by omega),hb,hdl,hds]
    ·by_cases e2:j<i
     ·rw[if_pos e2,if_pos (by omega)]
     ·rw[if_neg e2,if_neg (by omega)]
  ·have c0:((qao D i).length:Int)>0:=by omega
   have sb:(b++qao D i).length≤1000000:=by
    have:=bl hb
    have:=List.length_filter_le (fun e:Evt=>decide (e.lp=i)) D
    rw[wr];unfold qao;omega
   have hM:=q9l (a0:=b) (b0:=qao D i) false false sb (fun z hz=>by
    rcases List.mem_append.1 hz with hz|hz
    ·exact hk z (wI _ (mem hb z hz))
    ·exact hk z (List.mem_append_right _ (List.mem_filter.1 hz).1)) (hs b (zmg hb)) (hd i b hb)
   have tk:wB (qao D i).length ((qao D i).map Evt.r)=(qao D i).map Evt.r:=ztl (by simp)
   have ok:=qgi (qao D i)
   have a1 : ∀x:SObj,(x::(A1++[.row 1 O 0]))[i+1]? = some (.row 6 ((qao D i).map Evt.r) g):=fun x=>by
    rw[wL,List.getElem?_append_left (by omega)];exact t1
   have a2 : ∀x y:SObj,(x::(A1++[.row 1 O 0])).set (i+1) y=x::(A1.set i y++[.row 1 O 0]):=fun x y=>by
    rw[List.set_cons_succ,List.set_append,if_pos (by omega)]
   have hLm:(L.map qf)[i]? = some (qf b):=by rw[List.getElem?_map,hLi];rfl
   have hset:(L.map qf).set i [(.fsl (((sortL (b++qao D i))).map Evt.r) false)]=(L.set i (sortL (b++qao D i))).map qf:=by rw[List.map_set];rfl
   have loL':=qan (n+2) (L.set i (sortL (b++qao D i)))
   have lo1':qel (n+2) (A1.set i .dead)=true:=q28 lo1 _ rfl
   have tk1 : ∀x:SObj,wB (n+2) (x::(A1.set i .dead++[.row 1 O 0]))=x::(A1.set i .dead++[.row 1 O 0]):=fun x=>ztl (by simp;omega)
   refine .inl ⟨(A1.set i .dead,L.set i (sortL (b++qao D i))),?_,by rw[wT];exact h1,fun j hj => ?_,by rw[wT];exact h3,q28 h4 _ rfl,fun j hj1 hj2=>by rw[wG (by omega)];exact h5 j (by omega) hj2⟩
   ·have hle:(qao D i).length≤(qao D i).length:=wD _
    have hll:((qao D i).map Evt.r).length=(qao D i).length:=List.length_map ..
    have lob:qb4 0 (b.map Evt.r)=true:=qh _ _
    have loo:qb4 0 ((qao D i).map Evt.r)=true:=qh _ _
    simp only
    rw[←hset]at loL'⊢
    have hLl:(L.map qf).length=n:=by rw[List.length_map];exact h1
    clear hb hdl hd hs hk h2 h5 bl mem hset
    generalize sortL (b++qao D i)=R at *
    generalize (qao D i).map Evt.r=OR at *
    generalize (qao D i).length=ol at *
    generalize L.map qf=LM at *
    simp only[qf]at hLm
    simp only[qhh,zgs,zgr,hi',hi,hw,g1,t2,c0,a1,a2,hM,tk,hle,hll,hLm,lob,loo,lo1',lo2,loL',d0,d1,tk1,qq9,zgm,wg,wu,qalv,q6c,qb,wh,wv,wi,wk,zgy,↓qc,↓wc,wa]
   ·by_cases e1:j=i
    ·subst e1;rw[wN (by omega),if_pos (by omega),hdl]
    ·rw[wG (by omega),h2 j hj]
     by_cases e2:j<i
     ·rw[if_pos e2,if_pos (by omega)]
     ·rw[if_neg e2,if_neg (by omega)]
 ·rintro⟨A1,L⟩ ⟨h1,h2,h3,h4,h5⟩
  simp only at h1 h2 h3 h4 h5⊢
  have hL:L=qbl bs D:=List.ext_getElem? fun j=>by
   by_cases hj:j<n
   ·rw[h2 j hj,if_pos hj]
   ·rw[wR (by omega),wR (by unfold qbl;rw[List.length_mapIdx];omega)]
  rw[hL]
  have lo1:qel (n+2) A1=true:=qps (by omega) h4
  have lo2:qb4 (n+2) O=true:=qon (by omega) _ S.olo
  have d0:0<n+2:=by omega
  have d1:n+1<n+2:=by omega
  have tk0 : ∀x:SObj,wB (n+2) (x::(A1++[.row 1 O 0]))=x::(A1++[.row 1 O 0]):=fun x=>ztl (by simp;omega)
  simp only[qhh,wq,zgm,wg,zgy,↓qc,↓wc,wa]
  exact⟨_,rfl,⟨rfl,rfl,_,rfl⟩,rfl⟩
theorem DSt.start (bs:List (List Evt)) (n:Nat) (hn:bs.length=n):DSt n (bs.map qf) (fun i=>qao [] i) (.row 1 (bs.map qf) 0::wM n (.row 6 [] 0)) ((List.range n).map fun i=>[(.sl (1+i) 0 0 0 false:AV)]):=by
 refine⟨by simp,rfl,by simp,fun i hi=>⟨0,?_,?_⟩,?_,?_⟩
 ·rw[wL,List.getElem?_replicate,if_pos hi];rfl
 ·rw[List.getElem?_map,List.getElem?_range hi]
  simp only[zgt,Nat.add_comm 1 i];rfl
 ·rw[qpd]
  intro x hx
  rcases List.mem_cons.1 hx with rfl|hx
  ·exact qan _ _
  ·rw[List.eq_of_mem_replicate hx];rfl
 ·have : ∀(l:List Nat),(∀i∈l,i<n)→qb4 (n+1) (l.map fun i=>[(.sl (1+i) 0 0 0 false:AV)])=true:=by
   intro l
   induction l with
   |nil=>intro _;rfl
   |cons a l ih=>
    intro h
    have h1:1+a<n+1:=by have:=h a (by simp);omega
    simp only[wt,qqb,q90,qagi,lo_sl,h1,zgv,zfc,Bool.true_and]
    exact ih fun i hi=>h i (by simp[hi])
  exact this _ fun i hi=>List.mem_range.1 hi
theorem qalm (ss:List (List Evt)) (cs:Bool) (h1:ss.length≤1000000) (h2:ss.flatten.length≤1000000) : ∃cf:Bool,qm (evL T) qn [(.fsl ((ss).map qf) cs)]=some (.fsl ((ss.flatten).map Evt.r) cf):=by
 by_cases h:ss=[]
 ·subst h
  refine⟨true,?_⟩
  have:=qami cs
  simp only[wn]at this⊢
  rw[qm,this];rfl
 ·obtain⟨g,hc⟩:=q5q ss cs h1 h2 h
  refine⟨false,?_⟩
  have tk:wB ss.flatten.length (ss.flatten.map Evt.r)=ss.flatten.map Evt.r:=ztl (by rw[List.length_map];exact wD _)
  rw[qm,hc]
  have hl:ss.flatten.length≤(ss.flatten.map Evt.r).length:=by rw[List.length_map];exact wD _
  simp only[tk,qh,wg,zgy,↓qc,↓wc]
theorem qael (bs ss:List (List Evt)) (c1 c2:Bool) (hn:bs.length≤1000) (hs1:ss.length≤1000000) (hD:(bs.flatten++ss.flatten).length≤1000000) (hk:qb0 (bs.flatten++ss.flatten)) (hs : ∀b∈bs,b.Pairwise leE) (hd : ∀i b,bs[i]? = some b→qys (b++qao ss.flatten i)) (hl : ∀e∈ss.flatten,0≤e.lp∧e.lp<(bs.length:Int)) :
  qm (evL T) qfp [(.fsl ((bs).map qf) c1),(.fsl ((ss).map qf) c2)]=some (.fsl (((qbl bs ss.flatten)).map qf) false):=by
 have hDl:=hD
 rw[wr]at hDl
 obtain⟨cf,hc⟩:=qalm ss c2 hs1 (by omega)
 obtain⟨n,hbn⟩ : ∃n,bs.length=n:=⟨_,rfl⟩
 rw[hbn]at hl hn
 obtain⟨⟨y,e,σ⟩,k1,A',O',S',k2,k3,k4,k5,k6⟩:=qams n (bs.map qf) ss.flatten cf (by omega) hl false (DSt.start bs n hbn)
 obtain⟨⟨y2,e2,σ2⟩,m1,⟨m2,m3,X,m4⟩,m5⟩:=qak1 n ss.flatten bs hbn hn hD hk hs hd false S'
 simp only[wF]at k1 k2 k3 k4 k5 k6 m1 m2 m3 m4 m5
 subst k2;subst k4;subst m2;subst m4
 have hcl:(evL T).call qaf [(.fsl ((bs).map qf) c1)] []=some (.sl 0 0 0 bs.length false,[.row 1 (bs.map qf) 0]):=by
  have h':bs.length*24≤140737488355328:=by omega
  rw[q6q qgd]
  simp only[qu0,qan,qaaj,h',wg,zgy,↓wc,ww]
 rw[hbn]at hcl
 have b1:24*(n:Int)≤140737488355328:=by omega
 have b2:(n:Int)≤4611686018427387904:=by omega
 have hdl:(qbl bs ss.flatten).length=n:=by unfold qbl;rw[List.length_mapIdx];exact hbn
 have tk:wB n ((qbl bs ss.flatten).map qf)=(qbl bs ss.flatten).map qf:=ztl (by simp[hdl])
 have hle:n≤n:=wD _
 have lo:=qan 0 (qbl bs ss.flatten)
 simp only[zgm]at k1
 have hA:=S'.len
 have S0:=DSt.start bs n hbn
 have lo1:qel (n+2) (wM n (.row 6 [] 0))=true:=by
  rw[qpd];intro x hx;rw[List.eq_of_mem_replicate hx];rfl
 have lo2:qb4 (n+2) ((List.range n).map fun i=>[(.sl (1+i) 0 0 0 false:AV)])=true:=qon (by omega) _ S0.olo
 have lo3:qel (n+2) A'=true:=qps (by omega) S'.alo
 have lo4:qb4 (n+2) O'=true:=qon (by omega) _ S'.olo
 have t1 : ∀x:SObj,wB (n+1) (wM n (.row 6 [] 0)++[x])=wM n (.row 6 [] 0)++[x]:=fun x=>ztl (by simp)
 have t2 : ∀x:SObj,wB (n+2) (A'++[x])=A'++[x]:=fun x=>ztl (by simp[hA])
 have e1:n+1+1=n+2:=rfl
 have d0:0<n+2:=by omega
 have d1:n+1<n+2:=by omega
 have e2:1+n=n+1:=Nat.add_comm 1 n
 rw[qm,qd q4s q3c]
 simp only[qo5,zgs,zgr,hA,lo1,lo2,lo3,lo4,t1,t2,e1,e2,d0,d1,qq9,hcl,hc,b1,b2,k1,k3,k5,k6,m1,m3,m5,hdl,tk,hle,lo,qle,zgm,qan,qh,wg,q3y,qk,wk,zgy,↓qc,↓qq,↓wc,we,wa,wm,Int.reducePow,wf]
end
set_option maxRecDepth 10000
section
variable (c:Cfg) (n:Nat) (A:qj) (O:List (List AV)) (hA:A.length=n+1) (rest:List Evt) (et ei ep ea:Int) (ek:List Int) (i:Nat) (hi:i<n) (k:Int) (ov:Bool)
include hA
end
set_option maxRecDepth 10000
theorem lo_row (n sz:Nat) (es:List (List AV)) (g:Nat):SObj.lo n (.row sz es g)=qb4 n es:=by simp only[SObj.lo]
section
variable (c:Cfg) (n:Nat) (A:qj) (O:List (List AV)) (hA:A.length=n+1) (rest:List Evt) (et ei ep ea:Int) (ek:List Int) (i:Nat) (hi:i<n) (k:Int) (ov:Bool)
include hA
end
set_option maxRecDepth 10000
section
variable {c:Cfg} {s:Sim} {h:List Evt} {n:Nat} {L:List (Lp×Bool)} {A:qj} {O:List (List AV)}
end
set_option maxRecDepth 10000
section
variable {c:Cfg} {s:Sim} {h:List Evt} {n:Nat} {L:List (Lp×Bool)} {A:qj} {O:List (List AV)}
theorem SimSt.lo (S:SimSt n s L A O):qel (n+3) (A++[.row 1 O 0,(.row 10 [[(.fsl ((c.lps).map lpC) false),(.fsl ((c.progs).map qau) false),(ii c.look),(ii c.fin),(ii c.cap),.sl (n+1) 0 0 n false,.sl 0 1 0 n false,(.fsl ((s.pend).map Evt.r) false),(ii s.n),(bb s.over)]] 0)])=true:=by
 have lo1:qel (n+3) A=true:=qps (by omega) S.alo
 have lo2:qb4 (n+3) O=true:=qon (by omega) _ S.olo
 have d1:n+1<n+3:=by omega
 have d0:0<n+3:=by omega
 simp only[qq9,qel,lo_row,lo1,lo2,qqb,qaf3,q90,qagi,lo_fsl,lo_v,lo_sl,qh,qax,qv,d1,d0,zgv,zfc]
end
set_option maxRecDepth 10000
def qcn (n l m:Int):Bool:=decide (n≥l)&&decide (n≤m)
theorem qge (n l m:Int):qm (evL T) qa1 [(ii n),(ii l),(ii m)]=some (bb (qcn n l m)):=by
 rw[qm,qd q35 q3i]
 by_cases h1:n≥l<;>simp only[qcn,qo2,h1,wg,qk,zgy,↓qc,↓wc,we,wa,wf]
def operP (x:OpI) (n ps:Int):Bool:=
 if x.code=1 then qcn x.a 1 1099511627776&&(decide (x.b=0)&&decide (x.c=0))
 else if x.code=2 then decide (x.a≥0)&&(qcn x.b (-1073741824) 1073741824&&qcn x.c 1 1099511627776)
 else if x.code=3 then qcn x.a 1 1099511627776&&(qcn x.b 0 (n-1)&&decide (x.c=0))
 else if x.code=5 then qcn x.a 0 (ps-1)&&(qcn x.b 1 1099511627776&&decide (x.c=0))
 else if x.code=6 then qcn x.a 0 1&&(qcn x.b (-1073741824) 1073741824&&decide (x.c=0))
 else if x.code=7 then qcn x.a 0 1&&(qcn x.b (-1073741824) 1073741824&&qcn x.c 0 (n-1))
 else decide (x.a=0)&&(decide (x.b=0)&&decide (x.c=0))
theorem operP_eq (x:OpI) (n ps:Int):operP x n ps=q3n x n ps:=by
 obtain⟨k,a,b,c⟩:=x
 have e1 : ∀a m:Int,qcn a 0 (m-1)=(decide (a≥0)&&decide (a<m)):=fun a m=>by
  unfold qcn;congr 1;exact decide_eq_decide.2 (by omega)
 have e2 : ∀a:Int,qcn a 0 1=(decide (a≥0)&&decide (a<2)):=fun a=>e1 a 2
 have e3 : ∀a:Int,qcn a 1 1099511627776=qyk a:=fun a=>rfl
 have e4 : ∀a:Int,qcn a (-1073741824) 1073741824=q31 a:=fun a=>rfl
 simp only[operP,q3n,e1,e2,e3,e4,Bool.and_assoc]
section
variable (n ps lps look:Int) (x:OpI)
def okZ (b:Bool) (e:Int):Int:=if b=true then 0 else e
theorem qaaw:(evL T).call qal [(.agg [(ii n),(ii ps),(ii lps),(ii look)]),(.agg [(ii x.code),(ii x.a),(ii x.b),(ii x.c)])] [.row 4 [[(ii n),(ii ps),(ii lps),(ii look)]] 0,.row 4 [[(ii x.code),(ii x.a),(ii x.b),(ii x.c)]] 0]=some ((ii (okZ (q87 x) 22)),[.row 4 [[(ii n),(ii ps),(ii lps),(ii look)]] 0,.row 4 [[(ii x.code),(ii x.a),(ii x.b),(ii x.c)]] 0]):=by
 rw[qd qxl qv7]
 have e:q87 x=qcn x.code 1 8:=rfl
 rw[e]
 cases h:qcn x.code 1 8<;>simp only[qju,qge,h,okZ,wg,qb,wh,wi,qk,wk,ne_eq,zgy,↓qc,↓wc,we,wa,wf]
theorem q53:(evL T).call qac [(.agg [(ii n),(ii ps),(ii lps),(ii look)]),(.agg [(ii x.code),(ii x.a),(ii x.b),(ii x.c)])] [.row 4 [[(ii n),(ii ps),(ii lps),(ii look)]] 0,.row 4 [[(ii x.code),(ii x.a),(ii x.b),(ii x.c)]] 0]=some ((ii (okZ (qair lps x) 23)),[.row 4 [[(ii n),(ii ps),(ii lps),(ii look)]] 0,.row 4 [[(ii x.code),(ii x.a),(ii x.b),(ii x.c)]] 0]):=by
 rw[qd qul qtc]
 by_cases h1:x.code=2<;>by_cases h2:x.a≥lps<;>simp only[qid,qair,h1,h2,okZ,wg,qb,wh,wi,qk,wk,ne_eq,zgy,↓qc,↓wc,we,wa,wf]
theorem q9f:(evL T).call qag [(.agg [(ii n),(ii ps),(ii lps),(ii look)]),(.agg [(ii x.code),(ii x.a),(ii x.b),(ii x.c)])] [.row 4 [[(ii n),(ii ps),(ii lps),(ii look)]] 0,.row 4 [[(ii x.code),(ii x.a),(ii x.b),(ii x.c)]] 0]=some ((ii (okZ (qtp look x) 21)),[.row 4 [[(ii n),(ii ps),(ii lps),(ii look)]] 0,.row 4 [[(ii x.code),(ii x.a),(ii x.b),(ii x.c)]] 0]):=by
 rw[qd qvm que]
 by_cases h1:x.code=2<;>by_cases h2:x.c<look<;>simp only[qis,qtp,h1,h2,okZ,wg,qb,wh,wi,qk,wk,ne_eq,zgy,↓qc,↓wc,we,wa,wf]
theorem q2k (hn:IntKind.i64.wrap (n-1)=n-1) (hp:IntKind.i64.wrap (ps-1)=ps-1) :
  (evL T).call qaa [(.agg [(ii n),(ii ps),(ii lps),(ii look)]),(.agg [(ii x.code),(ii x.a),(ii x.b),(ii x.c)])] [.row 4 [[(ii n),(ii ps),(ii lps),(ii look)]] 0,.row 4 [[(ii x.code),(ii x.a),(ii x.b),(ii x.c)]] 0]=some ((ii (okZ (q3n x n ps) 22)),[.row 4 [[(ii n),(ii ps),(ii lps),(ii look)]] 0,.row 4 [[(ii x.code),(ii x.a),(ii x.b),(ii x.c)]] 0]):=by
 rw[qd qsw qr8,←operP_eq]
 obtain⟨k,a,b,c⟩:=x
 simp only[operP]
 have e0 : ∀z:Int,((0:Int)==z)=decide (z=0):=fun z=>by rw[Bool.eq_iff_iff,beq_iff_eq,decide_eq_true_eq];exact eq_comm
 by_cases k1:k=1
 ·subst k1
  cases h1:qcn a 1 1099511627776<;>by_cases h2:b=0<;>by_cases h3:c=0<;>simp only[qa7,qge,h1,h2,h3,e0,okZ,wg,wu,qb,wh,wv,wi,qg7,qk,wk,ne_eq,zgy,↓qc,↓wc,we,wa,wj,wQ,wf]
 by_cases k2:k=2
 ·subst k2
  by_cases h1:a≥0<;>cases h2:qcn b (-1073741824) 1073741824<;>cases h3:qcn c 1 1099511627776<;>simp only[qa7,qge,h1,h2,h3,okZ,wg,wu,qb,wh,wv,wi,qg7,qk,wk,ne_eq,zgy,↓qc,↓wc,we,wa,wj,wE,wQ,wf]
 by_cases k3:k=3
 ·subst k3
  cases h1:qcn a 1 1099511627776<;>cases h2:qcn b 0 (n-1)<;>by_cases h3:c=0<;>simp only[qa7,qge,hn,h1,h2,h3,e0,okZ,wg,wu,qb,wh,wv,wi,qg7,qk,wk,ne_eq,zgy,↓qc,↓wc,we,wa,wj,wE,wQ,wf]
 by_cases k5:k=5
 ·subst k5
  cases h1:qcn a 0 (ps-1)<;>cases h2:qcn b 1 1099511627776<;>by_cases h3:c=0<;>simp only[qa7,qge,hp,h1,h2,h3,e0,okZ,wg,wu,qb,wh,wv,wi,qg7,qk,wk,ne_eq,zgy,↓qc,↓wc,we,wa,wj,wE,wQ,wf]
 by_cases k6:k=6
 ·subst k6
  cases h1:qcn a 0 1<;>cases h2:qcn b (-1073741824) 1073741824<;>by_cases h3:c=0<;>simp only[qa7,qge,h1,h2,h3,e0,okZ,wg,wu,qb,wh,wv,wi,qg7,qk,wk,ne_eq,zgy,↓qc,↓wc,we,wa,wj,wE,wQ,wf]
 by_cases k7:k=7
 ·subst k7
  cases h1:qcn a 0 1<;>cases h2:qcn b (-1073741824) 1073741824<;>cases h3:qcn c 0 (n-1)<;>simp only[qa7,qge,hn,h1,h2,h3,okZ,wg,wu,qb,wh,wv,wi,qg7,qk,wk,ne_eq,zgy,↓qc,↓wc,we,wa,wj,wE,wQ,wf]
 by_cases h1:a=0<;>by_cases h2:b=0<;>by_cases h3:c=0<;>simp only[qa7,k1,k2,k3,k5,k6,k7,h1,h2,h3,e0,okZ,wg,wu,qb,wh,wv,wi,qg7,qk,wk,ne_eq,zgy,↓qc,↓wc,we,wa,wj,wQ,wf]
end
section
variable (p:List OpI) (c:Bool) (n ps lps look:Int)
def rulesL (n ps lps look:Int):List (List AV):=[[.fn (.func qal) [(.agg [(ii n),(ii ps),(ii lps),(ii look)])] []],[.fn (.func qaa) [(.agg [(ii n),(ii ps),(ii lps),(ii look)])] []],[.fn (.func qac) [(.agg [(ii n),(ii ps),(ii lps),(ii look)])] []],[.fn (.func qag) [(.agg [(ii n),(ii ps),(ii lps),(ii look)])] []]]
theorem qah9 (k:Nat) (j:Int) (f:OpI→Bool) (err:Int) (herr:err≠0) (hl:p.length≤16) (hr : ∀x,(evL T).call k [(.agg [(ii n),(ii ps),(ii lps),(ii look)]),(.agg [(ii x.code),(ii x.a),(ii x.b),(ii x.c)])] [.row 4 [[(ii n),(ii ps),(ii lps),(ii look)]] 0,.row 4 [[(ii x.code),(ii x.a),(ii x.b),(ii x.c)]] 0]=some ((ii (okZ (f x) err)),[.row 4 [[(ii n),(ii ps),(ii lps),(ii look)]] 0,.row 4 [[(ii x.code),(ii x.a),(ii x.b),(ii x.c)]] 0])) :
  ∃y,itB (exec (evL T) itL none qkh) (qu [0,11,33,34,35,39,40,41] true 1) ⟨[(0,(.fsl ((p).map OpI.r) c)),(11,.fn (.func k) [(.agg [(ii n),(ii ps),(ii lps),(ii look)])] []),(33,(.fsl [[.fn (.func qal) [(.agg [(ii n),(ii ps),(ii lps),(ii look)])] []],[.fn (.func qaa) [(.agg [(ii n),(ii ps),(ii lps),(ii look)])] []],[.fn (.func qac) [(.agg [(ii n),(ii ps),(ii lps),(ii look)])] []],[.fn (.func qag) [(.agg [(ii n),(ii ps),(ii lps),(ii look)])] []]] true)),(34,(ii 4)),(35,(ii j)),(39,(.fsl ((p).map OpI.r) c)),(40,(ii p.length)),(41,(ii 0))],[]⟩ [.row 4 [[(ii n),(ii ps),(ii lps),(ii look)]] 0]=some y ∧
   (p.all f=true∧(y.1 = .exit 2∧y.2.1.marks=[]∧y.2.2=[.row 4 [[(ii n),(ii ps),(ii lps),(ii look)]] 0]∧wp y.2.1.vars 0=some (.fsl ((p).map OpI.r) c)∧wp y.2.1.vars 33=some (.fsl [[.fn (.func qal) [(.agg [(ii n),(ii ps),(ii lps),(ii look)])] []],[.fn (.func qaa) [(.agg [(ii n),(ii ps),(ii lps),(ii look)])] []],[.fn (.func qac) [(.agg [(ii n),(ii ps),(ii lps),(ii look)])] []],[.fn (.func qag) [(.agg [(ii n),(ii ps),(ii lps),(ii look)])] []]] true)∧wp y.2.1.vars 34=some (ii 4)∧wp y.2.1.vars 35=some (ii j)) ∨
   p.all f=false ∧ ∃x,p.find? (fun x => !f x)=some x∧(y.1 = .ret∧y.2.1.marks=[]∧y.2.2=[.row 4 [[(ii n),(ii ps),(ii lps),(ii look)]] 0,.row 4 [[(ii x.code),(ii x.a),(ii x.b),(ii x.c)]] 0]∧wp y.2.1.vars 8=some (ii err))):=by
 refine qgo p (fun i=>⟨[(0,(.fsl ((p).map OpI.r) c)),(11,.fn (.func k) [(.agg [(ii n),(ii ps),(ii lps),(ii look)])] []),(33,(.fsl [[.fn (.func qal) [(.agg [(ii n),(ii ps),(ii lps),(ii look)])] []],[.fn (.func qaa) [(.agg [(ii n),(ii ps),(ii lps),(ii look)])] []],[.fn (.func qac) [(.agg [(ii n),(ii ps),(ii lps),(ii look)])] []],[.fn (.func qag) [(.agg [(ii n),(ii ps),(ii lps),(ii look)])] []]] true)),(34,(ii 4)),(35,(ii j)),(39,(.fsl ((p).map OpI.r) c)),(40,(ii p.length)),(41,(ii i))],[]⟩) [.row 4 [[(ii n),(ii ps),(ii lps),(ii look)]] 0] f _ (fun x y => _) ?_ ?_ ?_
 ·intro i x hi hx hp
  have hi':(i:Int)<(p.length:Int):=by omega
  have hw:IntKind.i64.wrap ((i:Int)+1)=((i+1:Nat):Int):=by rw[qi (by omega) (by omega)];simp
  have h1:=hr x
  rw[hp]at h1
  simp only[okZ,if_true]at h1
  simp only[qkh,zgs,zgr,zgq,zgt,OpI.r,hx,hi',hw,h1,qij,wg,wu,qb,wh,wi,wk,ne_eq,zgy,↓qc,↓wc,we,wa,wf]
 ·intro i x hi hx hp
  have hi':(i:Int)<(p.length:Int):=by omega
  have h1:=hr x
  rw[hp]at h1
  simp only[okZ,zfa,if_false]at h1
  simp only[qkh,zgs,zgr,zgq,zgt,OpI.r,hx,hi',h1,herr,wg,wu,qb,wh,wi,ne_eq,zgy,↓qc,↓wc,we,wa,wf]
  exact⟨_,rfl,rfl,rfl,rfl,rfl⟩
 ·simp only[qkh,wq,wg,zgy,↓qc,↓wc,wa,wf]
  exact⟨_,rfl,rfl,rfl,rfl,rfl,rfl,rfl,rfl⟩
theorem qx2 (hl:p.length≤16) (j:Nat) (k:Nat) (f:OpI→Bool) (err:Int) (herr:err≠0) (hj:(rulesL n ps lps look)[j]? = some [.fn (.func k) [(.agg [(ii n),(ii ps),(ii lps),(ii look)])] []]) (hr : ∀x,(evL T).call k [(.agg [(ii n),(ii ps),(ii lps),(ii look)]),(.agg [(ii x.code),(ii x.a),(ii x.b),(ii x.c)])] [.row 4 [[(ii n),(ii ps),(ii lps),(ii look)]] 0,.row 4 [[(ii x.code),(ii x.a),(ii x.b),(ii x.c)]] 0]=some ((ii (okZ (f x) err)),[.row 4 [[(ii n),(ii ps),(ii lps),(ii look)]] 0,.row 4 [[(ii x.code),(ii x.a),(ii x.b),(ii x.c)]] 0])) :
  (p.all f=true∧it1 (exec (evL T) itL none qe5) (qu [0,33,34,35] true 1) ⟨[(0,(.fsl ((p).map OpI.r) c)),(33,(.fsl [[.fn (.func qal) [(.agg [(ii n),(ii ps),(ii lps),(ii look)])] []],[.fn (.func qaa) [(.agg [(ii n),(ii ps),(ii lps),(ii look)])] []],[.fn (.func qac) [(.agg [(ii n),(ii ps),(ii lps),(ii look)])] []],[.fn (.func qag) [(.agg [(ii n),(ii ps),(ii lps),(ii look)])] []]] true)),(34,(ii 4)),(35,(ii ((j:Int))))],[]⟩ [.row 4 [[(ii n),(ii ps),(ii lps),(ii look)]] 0]=some (.inl (⟨[(0,(.fsl ((p).map OpI.r) c)),(33,(.fsl [[.fn (.func qal) [(.agg [(ii n),(ii ps),(ii lps),(ii look)])] []],[.fn (.func qaa) [(.agg [(ii n),(ii ps),(ii lps),(ii look)])] []],[.fn (.func qac) [(.agg [(ii n),(ii ps),(ii lps),(ii look)])] []],[.fn (.func qag) [(.agg [(ii n),(ii ps),(ii lps),(ii look)])] []]] true)),(34,(ii 4)),(35,(ii (((j+1:Nat):Int))))],[]⟩,[.row 4 [[(ii n),(ii ps),(ii lps),(ii look)]] 0]))) ∨
  (p.all f=false ∧ ∃y,it1 (exec (evL T) itL none qe5) (qu [0,33,34,35] true 1) ⟨[(0,(.fsl ((p).map OpI.r) c)),(33,(.fsl [[.fn (.func qal) [(.agg [(ii n),(ii ps),(ii lps),(ii look)])] []],[.fn (.func qaa) [(.agg [(ii n),(ii ps),(ii lps),(ii look)])] []],[.fn (.func qac) [(.agg [(ii n),(ii ps),(ii lps),(ii look)])] []],[.fn (.func qag) [(.agg [(ii n),(ii ps),(ii lps),(ii look)])] []]] true)),(34,(ii 4)),(35,(ii ((j:Int))))],[]⟩ [.row 4 [[(ii n),(ii ps),(ii lps),(ii look)]] 0]=some (.inr y)∧y.1 = .ret∧y.2.1.marks=[]∧(∃x:OpI,y.2.2=[.row 4 [[(ii n),(ii ps),(ii lps),(ii look)]] 0,.row 4 [[(ii x.code),(ii x.a),(ii x.b),(ii x.c)]] 0])∧wp y.2.1.vars 8=some (ii err)):=by
 obtain⟨⟨y,e,σ⟩,k1,k2⟩:=qah9 p c n ps lps look k j f err herr hl hr
 have hj4:j<4:=(zei.1 hj).1
 have hi':(j:Int)<4:=by omega
 have hw:IntKind.i64.wrap ((j:Int)+1)=((j+1:Nat):Int):=by rw[qi (by omega) (by omega)];simp
 simp only[rulesL]at hj
 simp only at k2
 rcases k2 with ⟨q1,rfl,q2,rfl,q3,q4,q5,q6⟩|⟨q1,x,_,rfl,q2,rfl,q3⟩
 ·refine .inl ⟨q1,?_⟩
  simp only[qe5,zgs,zgr,hi',hw,hj,k1,q2,q3,q4,q5,q6,qij,wg,qb,wk,zgy,↓qc,↓qq,↓wc,wa,wf]
 ·refine .inr ⟨q1,?_⟩
  simp only[qe5,zgs,zgr,hi',hj,k1,qij,wg,qb,wk,zgy,↓qc,↓qq,↓wc,wa,wf]
  exact⟨_,rfl,rfl,q2,⟨x,rfl⟩,q3⟩
def qanl:Int:=if p.all q87=false then 22 else if p.all (fun x=>q3n x n ps)=false then 22 else if p.all (qair lps)=false then 23 else if p.all (qtp look)=false then 21 else 0
theorem qagx (hl:p.length≤16) (hn:IntKind.i64.wrap (n-1)=n-1) (hp:IntKind.i64.wrap (ps-1)=ps-1) :
  ∃y,itB (exec (evL T) itL none qe5) (qu [0,33,34,35] true 1) ⟨[(0,(.fsl ((p).map OpI.r) c)),(33,(.fsl [[.fn (.func qal) [(.agg [(ii n),(ii ps),(ii lps),(ii look)])] []],[.fn (.func qaa) [(.agg [(ii n),(ii ps),(ii lps),(ii look)])] []],[.fn (.func qac) [(.agg [(ii n),(ii ps),(ii lps),(ii look)])] []],[.fn (.func qag) [(.agg [(ii n),(ii ps),(ii lps),(ii look)])] []]] true)),(34,(ii 4)),(35,(ii 0))],[]⟩ [.row 4 [[(ii n),(ii ps),(ii lps),(ii look)]] 0]=some y ∧
   (qanl p n ps lps look=0∧(y.1 = .exit 0∧y.2.1.marks=[]∧y.2.2=[.row 4 [[(ii n),(ii ps),(ii lps),(ii look)]] 0])∨(y.1 = .ret∧y.2.1.marks=[]∧(∃x:OpI,y.2.2=[.row 4 [[(ii n),(ii ps),(ii lps),(ii look)]] 0,.row 4 [[(ii x.code),(ii x.a),(ii x.b),(ii x.c)]] 0])∧wp y.2.1.vars 8=some (ii (qanl p n ps lps look)))):=by
 have s0:=qx2 p c n ps lps look hl 0 qal q87 22 (by decide) rfl (qaaw n ps lps look)
 have s1:=qx2 p c n ps lps look hl 1 qaa (fun x=>q3n x n ps) 22 (by decide) rfl (fun x=>q2k n ps lps look x hn hp)
 have s2:=qx2 p c n ps lps look hl 2 qac (qair lps) 23 (by decide) rfl (q53 n ps lps look)
 have s3:=qx2 p c n ps lps look hl 3 qag (qtp look) 21 (by decide) rfl (q9f n ps lps look)
 have last : ∃y,it1 (exec (evL T) itL none qe5) (qu [0,33,34,35] true 1) ⟨[(0,(.fsl ((p).map OpI.r) c)),(33,(.fsl [[.fn (.func qal) [(.agg [(ii n),(ii ps),(ii lps),(ii look)])] []],[.fn (.func qaa) [(.agg [(ii n),(ii ps),(ii lps),(ii look)])] []],[.fn (.func qac) [(.agg [(ii n),(ii ps),(ii lps),(ii look)])] []],[.fn (.func qag) [(.agg [(ii n),(ii ps),(ii lps),(ii look)])] []]] true)),(34,(ii 4)),(35,(ii 4))],[]⟩ [.row 4 [[(ii n),(ii ps),(ii lps),(ii look)]] 0]=some (.inr y)∧y.1 = .exit 0∧y.2.1.marks=[]∧y.2.2=[.row 4 [[(ii n),(ii ps),(ii lps),(ii look)]] 0]:=by
  simp only[qe5,wq,wg,zgy,↓qc,↓wc,wa,wf]
  exact⟨_,rfl,rfl,rfl,rfl⟩
 unfold qanl
 rcases s0 with ⟨a0,b0⟩|⟨a0,y,b0,b1,b2,b3,b4⟩
 ·rcases s1 with ⟨a1,c0⟩|⟨a1,y,c0,c1,c2,c3,c4⟩
  ·rcases s2 with ⟨a2,d0⟩|⟨a2,y,d0,d1,d2,d3,d4⟩
   ·rcases s3 with ⟨a3,f0⟩|⟨a3,y,f0,f1,f2,f3,f4⟩
    ·obtain⟨y,l0,l1,l2,l3⟩:=last
     refine⟨y,?_,.inl ⟨by rw[a0,a1,a2,a3];rfl,l1,l2,l3⟩⟩
     exact qm7 b0 (qm7 c0 (qm7 d0 (qm7 f0 (qn8 l0))))
    ·refine⟨y,?_,.inr ⟨f1,f2,f3,by rw[a0,a1,a2,a3];exact f4⟩⟩
     exact qm7 b0 (qm7 c0 (qm7 d0 (qn8 f0)))
   ·refine⟨y,?_,.inr ⟨d1,d2,d3,by rw[a0,a1,a2];exact d4⟩⟩
    exact qm7 b0 (qm7 c0 (qn8 d0))
  ·refine⟨y,?_,.inr ⟨c1,c2,c3,by rw[a0,a1];exact c4⟩⟩
   exact qm7 b0 (qn8 c0)
 ·refine⟨y,?_,.inr ⟨b1,b2,b3,by rw[a0];exact b4⟩⟩
  exact qn8 b0
end
theorem q89 (p:List OpI) (c:Bool) (ps lps look:Int) (hl62:p.length<2^62) (hp:IntKind.i64.wrap (ps-1)=ps-1):qm (evL T) qjc [(.fsl ((p).map OpI.r) c),(ii ps),(ii lps),(ii look)]=some (ii (qsc p ps lps look)):=by
 have h0:=qge p.length 1 16
 rw[qm,qd q5t q5h]
 have hz:qsc p ps lps look=if 1≤p.length∧p.length≤16 then qanl p p.length ps lps look else 22:=by
  unfold qsc qanl qyj
  by_cases h:1≤p.length∧p.length≤16
  ·simp only[h,zgx,zgv,Bool.true_and,if_true]
  ·simp only[h,zgw,Bool.false_and,if_true,if_false]
 have hw:qcn p.length 1 16=decide (1≤p.length∧p.length≤16):=by
  unfold qcn
  rw[←Bool.decide_and]
  exact decide_eq_decide.2 (by omega)
 rw[hw]at h0
 rw[hz]
 have hrep:wM 4 ([.v .nilFunc]:List AV)=[[.v .nilFunc],[.v .nilFunc],[.v .nilFunc],[.v .nilFunc]]:=rfl
 by_cases h:1≤p.length∧p.length≤16
 ·have hn:IntKind.i64.wrap ((p.length:Int)-1)=(p.length:Int)-1:=qi (by omega) (by omega)
  obtain⟨⟨y,e,σ⟩,k1,k2⟩:=qagx p c p.length ps lps look h.2 hn hp
  simp only at k2
  simp only[h,zgx,zgv]at h0
  rcases k2 with ⟨q1,rfl,q2,rfl⟩|⟨rfl,q2,⟨x,rfl⟩,q3⟩
  ·simp only[h,zgx,if_true,q1]
   simp only[qlk,hrep,h0,k1,q2,qij,wg,wu,qb,wh,wv,wi,qk,wk,ne_eq,zgy,↓qc,↓qq,↓wc,we,wa,wx,wm,wj,ww,wf]
  ·simp only[h,zgx,if_true]
   simp only[qlk,hrep,h0,k1,q2,q3,qij,wg,wu,qb,wh,wv,wi,qk,wk,ne_eq,zgy,↓qc,↓qq,↓wc,we,wa,wx,wm,wj,ww,wf]
 ·simp only[h,zgw]at h0
  simp only[h,if_false]
  simp only[qlk,h0,wg,qk,zgy,↓qc,↓wc,we,wf]
set_option maxRecDepth 10000
def qh6 {τ:Type} (g:τ→Int) (l:List τ):Int:=match l.find? (fun x => !decide (g x=0))with
 |none=>0
 |some x=>g x
theorem q0u {τ:Type} {g:τ→Int} {l:List τ} (h:l.all (fun x=>decide (g x=0))=true):qh6 g l=0:=by
 have:l.find? (fun x => !decide (g x=0))=none:=by
  rw[List.find?_eq_none]
  intro x hx
  have:=List.all_eq_true.1 h x hx
  simpa using this
 unfold qh6;rw[this]
theorem qxy {τ:Type} {g:τ→Int} {l:List τ} {x:τ} (h:l.find? (fun x => !decide (g x=0))=some x):qh6 g l=g x:=by
 unfold qh6;rw[h]
theorem qmu (n l m:Int):qm (evL T) qen [(ii n),(ii l),(ii m)]=some (bb (qcn n l m)):=by
 rw[qm,qd q69 q5a]
 by_cases h1:n≥l<;>simp only[qcn,qp7,h1,wg,qk,zgy,↓qc,↓wc,we,wa,wf]
theorem qq6 (b:Bool) (e:Int):qm (evL T) qfm [(bb b),(ii e)]=some (ii (okZ b e)):=by
 rw[qm,qd q4o q3h]
 cases b<;>simp only[okZ,qo8,wg,qk,zgy,↓qc,↓wc,we,wa,wf]
section
variable (k:Nat) (cap:List AV) (hcap:los 0 cap=true)
include hcap
theorem qaf0 (l:List (List OpI)) (g:List OpI→Int) (hl:l.length<2^62) (hf : ∀p∈l,(evL T).call k ((.fsl ((p).map OpI.r) false)::cap) []=some ((ii (g p)),[])) :
  qm (evL T) qec [(.fsl ((l).map qau) false),.fn (.func k) [] cap]=some (ii (qh6 g l)):=by
 have hL : ∃y,itB (exec (evL T) itL none qfd) (qu [1,8,9,10] true 0) ⟨[(1,.fn (.func k) [] cap),(8,(.fsl ((l).map qau) false)),(9,(ii l.length)),(10,(ii 0))],[]⟩ []=some y∧(l.all (fun x=>decide (g x=0))=true∧(y.1 = .exit 0∧y.2.1.marks=[]∧y.2.2=[]) ∨
   l.all (fun x=>decide (g x=0))=false ∧ ∃x,l.find? (fun x => !decide (g x=0))=some x∧(y.1 = .ret∧y.2.1.marks=[]∧y.2.2=[]∧wp y.2.1.vars 4=some (ii (g x)))):=by
  refine qgo l (fun i=>⟨[(1,.fn (.func k) [] cap),(8,(.fsl ((l).map qau) false)),(9,(ii l.length)),(10,(ii i))],[]⟩) [] (fun x=>decide (g x=0)) _ (fun x y => _) ?_ ?_ ?_
  ·intro i x hi hx hp
   have hi':(i:Int)<(l.length:Int):=by omega
   have hw:IntKind.i64.wrap ((i:Int)+1)=((i+1:Nat):Int):=by rw[qi (by omega) (by omega)];simp
   have h1:=hf x (zmg hx)
   rw[of_decide_eq_true hp]at h1
   simp only[qfd,zgs,zgr,zgq,zgt,hx,hi',hw,h1,hcap,qv,qau,wg,qb,ne_eq,zgy,↓qc,↓wc,wa]
  ·intro i x hi hx hp
   have hi':(i:Int)<(l.length:Int):=by omega
   have h1:=hf x (zmg hx)
   have h2:¬g x=0:=of_decide_eq_false hp
   simp only[qfd,zgs,zgr,zgq,zgt,hx,hi',h1,h2,qau,wg,qb,ne_eq,zgy,↓qc,↓wc,wa]
   exact⟨_,rfl,rfl,rfl,rfl,rfl⟩
  ·simp only[qfd,wq,wg,zgy,↓qc,↓wc,wa]
   exact⟨_,rfl,rfl,rfl,rfl⟩
 obtain⟨⟨y,e,σ⟩,k1,k2⟩:=hL
 simp only at k2
 rw[qm,qd qxk qwf]
 rcases k2 with ⟨k3,rfl,k4,rfl⟩|⟨k3,x,k5,rfl,k4,rfl,k6⟩
 ·rw[q0u k3]
  simp only[qhd,k1,k4,hcap,qv,wg,qk,zgy,↓qc,↓qq,↓wc,we,wa,wf]
 ·rw[qxy k5]
  simp only[qhd,k1,k4,k6,hcap,qv,wg,qk,zgy,↓qc,↓qq,↓wc,we,wa,wf]
theorem qacy (l:List (List Start)) (g:List Start→Int) (hl:l.length<2^62) (hf : ∀p∈l,(evL T).call k ((.fsl ((p).map Start.r) false)::cap) []=some ((ii (g p)),[])) :
  qm (evL T) qc2 [(.fsl ((l).map lpC) false),.fn (.func k) [] cap]=some (ii (qh6 g l)):=by
 have hL : ∃y,itB (exec (evL T) itL none qej) (qu [1,8,9,10] true 0) ⟨[(1,.fn (.func k) [] cap),(8,(.fsl ((l).map lpC) false)),(9,(ii l.length)),(10,(ii 0))],[]⟩ []=some y∧(l.all (fun x=>decide (g x=0))=true∧(y.1 = .exit 0∧y.2.1.marks=[]∧y.2.2=[]) ∨
   l.all (fun x=>decide (g x=0))=false ∧ ∃x,l.find? (fun x => !decide (g x=0))=some x∧(y.1 = .ret∧y.2.1.marks=[]∧y.2.2=[]∧wp y.2.1.vars 4=some (ii (g x)))):=by
  refine qgo l (fun i=>⟨[(1,.fn (.func k) [] cap),(8,(.fsl ((l).map lpC) false)),(9,(ii l.length)),(10,(ii i))],[]⟩) [] (fun x=>decide (g x=0)) _ (fun x y => _) ?_ ?_ ?_
  ·intro i x hi hx hp
   have hi':(i:Int)<(l.length:Int):=by omega
   have hw:IntKind.i64.wrap ((i:Int)+1)=((i+1:Nat):Int):=by rw[qi (by omega) (by omega)];simp
   have h1:=hf x (zmg hx)
   rw[of_decide_eq_true hp]at h1
   simp only[qej,zgs,zgr,zgq,zgt,hx,hi',hw,h1,hcap,qax,lpC,wg,qb,ne_eq,zgy,↓qc,↓wc,wa]
  ·intro i x hi hx hp
   have hi':(i:Int)<(l.length:Int):=by omega
   have h1:=hf x (zmg hx)
   have h2:¬g x=0:=of_decide_eq_false hp
   simp only[qej,zgs,zgr,zgq,zgt,hx,hi',h1,h2,lpC,wg,qb,ne_eq,zgy,↓qc,↓wc,wa]
   exact⟨_,rfl,rfl,rfl,rfl,rfl⟩
  ·simp only[qej,wq,wg,zgy,↓qc,↓wc,wa]
   exact⟨_,rfl,rfl,rfl,rfl⟩
 obtain⟨⟨y,e,σ⟩,k1,k2⟩:=hL
 simp only at k2
 rw[qm,qd qt2 qs0]
 rcases k2 with ⟨k3,rfl,k4,rfl⟩|⟨k3,x,k5,rfl,k4,rfl,k6⟩
 ·rw[q0u k3]
  simp only[qfk,k1,k4,hcap,qax,wg,qk,zgy,↓qc,↓qq,↓wc,we,wa,wf]
 ·rw[qxy k5]
  simp only[qfk,k1,k4,k6,hcap,qax,wg,qk,zgy,↓qc,↓qq,↓wc,we,wa,wf]
theorem qade (l:List Start) (g:Start→Int) (hl:l.length<2^62) (hf : ∀x∈l,(evL T).call k (.agg [(ii x.prog),(ii x.time)]::cap) [.row 2 [[(ii x.prog),(ii x.time)]] 0]=some ((ii (g x)),[.row 2 [[(ii x.prog),(ii x.time)]] 0])) :
  qm (evL T) qdi [(.fsl ((l).map Start.r) false),.fn (.func k) [] cap]=some (ii (qh6 g l)):=by
 have hL : ∃y,itB (exec (evL T) itL none qet) (qu [1,8,9,10] true 0) ⟨[(1,.fn (.func k) [] cap),(8,(.fsl ((l).map Start.r) false)),(9,(ii l.length)),(10,(ii 0))],[]⟩ []=some y∧(l.all (fun x=>decide (g x=0))=true∧(y.1 = .exit 0∧y.2.1.marks=[]∧y.2.2=[]) ∨
   l.all (fun x=>decide (g x=0))=false ∧ ∃x,l.find? (fun x => !decide (g x=0))=some x∧(y.1 = .ret∧y.2.1.marks=[]∧y.2.2=[.row 2 [[(ii x.prog),(ii x.time)]] 0]∧wp y.2.1.vars 4=some (ii (g x)))):=by
  refine qgo l (fun i=>⟨[(1,.fn (.func k) [] cap),(8,(.fsl ((l).map Start.r) false)),(9,(ii l.length)),(10,(ii i))],[]⟩) [] (fun x=>decide (g x=0)) _ (fun x y => _) ?_ ?_ ?_
  ·intro i x hi hx hp
   have hi':(i:Int)<(l.length:Int):=by omega
   have hw:IntKind.i64.wrap ((i:Int)+1)=((i+1:Nat):Int):=by rw[qi (by omega) (by omega)];simp
   have h1:=hf x (zmg hx)
   rw[of_decide_eq_true hp]at h1
   simp only[qet,zgs,zgr,zgq,zgt,hx,hi',hw,h1,hcap,qt0,Start.r,wg,wu,qb,wh,wi,ne_eq,zgy,↓qc,↓wc,we,wa]
  ·intro i x hi hx hp
   have hi':(i:Int)<(l.length:Int):=by omega
   have h1:=hf x (zmg hx)
   have h2:¬g x=0:=of_decide_eq_false hp
   simp only[qet,zgs,zgr,zgq,zgt,hx,hi',h1,h2,Start.r,wg,wu,qb,wh,wi,ne_eq,zgy,↓qc,↓wc,we,wa]
   exact⟨_,rfl,rfl,rfl,rfl,rfl⟩
  ·simp only[qet,wq,wg,zgy,↓qc,↓wc,wa]
   exact⟨_,rfl,rfl,rfl,rfl⟩
 obtain⟨⟨y,e,σ⟩,k1,k2⟩:=hL
 simp only at k2
 rw[qm,qd qum qt5]
 rcases k2 with ⟨k3,rfl,k4,rfl⟩|⟨k3,x,k5,rfl,k4,rfl,k6⟩
 ·rw[q0u k3]
  simp only[qf7,k1,k4,hcap,qt0,wg,qk,zgy,↓qc,↓qq,↓wc,we,wa,wf]
 ·rw[qxy k5]
  simp only[qf7,k1,k4,k6,hcap,qt0,wg,qk,zgy,↓qc,↓qq,↓wc,we,wa,wf]
end
set_option maxRecDepth 10000
section
variable (c:Cfg)
def qahl (c:Cfg):Bool:=qcn c.lps.length 1 8&&(decide ((c.progs.length:Int)≤8)&&(qcn c.cap 1 64&&qcn c.fin 0 1152921504606846976))
def lenB (l:List Start):Bool:=decide ((l.length:Int)≤8)
def qyl (c:Cfg):Bool:=qahl c&&c.lps.all lenB
structure CfgOk (c:Cfg):Prop where
 lps:c.lps.length<2^62
 progs:c.progs.length<2^62
 prog : ∀p∈c.progs,p.length<2^62
 lp : ∀l∈c.lps,l.length<2^62
theorem qamt (h:CfgOk c) (b:Bool) :
  ∃y,itB (exec (evL T) itL none qff) (qu [3,32,33,34] true 0) ⟨[(3,(bb b)),(32,(.fsl ((c.lps).map lpC) false)),(33,(ii c.lps.length)),(34,(ii 0))],[]⟩ []=some y∧y.1 = .exit 0∧y.2.1.marks=[]∧y.2.2=[]∧wp y.2.1.vars 3=some (bb (b&&c.lps.all lenB)):=by
 have hlp:=h.lps
 have:=qcq (f:=exec (evL T) itL none qff) (s:=qu [3,32,33,34] true 0) (α:=Bool) (fun i b=>⟨[(3,(bb b)),(32,(.fsl ((c.lps).map lpC) false)),(33,(ii c.lps.length)),(34,(ii ((i:Int))))],[]⟩) (fun _ _=>[])
  (fun i r=>r=(b&&(c.lps.take i).all lenB)) c.lps.length (fun y=>y.1 = .exit 0∧y.2.1.marks=[]∧y.2.2=[]∧wp y.2.1.vars 3=some (bb (b&&c.lps.all lenB))) ?_ ?_ 0 b (wC _) (by simp)
 ·exact this
 ·rintro i r hi hr
  obtain⟨x,hx⟩ : ∃x,c.lps[i]? = some x:=⟨_,zgE hi⟩
  have hi':(i:Int)<(c.lps.length:Int):=by omega
  have hw:IntKind.i64.wrap ((i:Int)+1)=((i+1:Nat):Int):=by rw[qi (by omega) (by omega)];simp
  have hn:(b&&(c.lps.take (i+1)).all lenB)=(r&&lenB x):=by rw[hr,qjg hx,List.all_append,←Bool.and_assoc];simp
  refine .inl ⟨r&&lenB x,?_,hn.symm⟩
  cases r<;>simp only[qff,zgs,zgr,zgq,zgt,hx,hi',hw,qax,lpC,lenB,wg,qb,zgy,↓qc,↓wc,wa]
 ·rintro r hr
  rw[wy]at hr
  simp only[qff,wq,wg,zgy,↓qc,↓wc,wa]
  exact⟨_,rfl,rfl,rfl,rfl,by rw[←hr];rfl⟩
theorem q9m (h:CfgOk c):(evL T).call qde [(.agg [(.fsl ((c.lps).map lpC) false),(.fsl ((c.progs).map qau) false),(ii c.look),(ii c.fin),(ii c.cap)])] []=some ((ii (okZ (qyl c) 1)),[]):=by
 obtain⟨⟨y,e,σ⟩,k1,k2,k3,k4,k5⟩:=qamt c h (qahl c)
 simp only at k2 k3 k4 k5
 subst k2;subst k4
 have v:=qq6 (qyl c) 1
 rw[show qyl c=(qahl c&&c.lps.all lenB) from rfl]at v⊢
 rw[qd qwt qv8]
 unfold qahl at k1 k5 v⊢
 cases h1:qcn c.lps.length 1 8<;>simp only[h1,Bool.false_and,Bool.true_and]at k1 k5 v⊢
 ·simp only[qed,qmu,h1,k1,k3,k5,v,qax,okZ,wg,qb,wh,wi,qk,ne_eq,zgy,↓qc,↓qq,↓wc,wa]
 by_cases h2:(c.progs.length:Int)≤8<;>simp only[h2,zgv,zgw,Bool.false_and,Bool.true_and]at k1 k5 v⊢
 ·cases h3:qcn c.cap 1 64<;>simp only[h3,Bool.false_and,Bool.true_and]at k1 k5 v⊢
  ·simp only[qed,qmu,h1,h2,h3,k1,k3,k5,v,qax,okZ,wg,qb,wh,wi,qk,ne_eq,zgy,↓qc,↓qq,↓wc,wa]
  ·simp only[qed,qmu,h1,h2,h3,k1,k3,k5,v,qax,okZ,wg,qb,wh,wi,qk,ne_eq,zgy,↓qc,↓qq,↓wc,wa]
 ·simp only[qed,qmu,h1,h2,k1,k3,k5,v,qax,okZ,wg,qb,wh,wi,qk,ne_eq,zgy,↓qc,↓qq,↓wc,wa]
theorem q1u:(evL T).call qcd [(.agg [(.fsl ((c.lps).map lpC) false),(.fsl ((c.progs).map qau) false),(ii c.look),(ii c.fin),(ii c.cap)])] []=some ((ii (okZ (decide (c.look≥1)) 20)),[]):=by
 rw[qd qsz qr9]
 have v:=qq6 (decide (c.look≥1)) 20
 simp only[qg8,v,wg,qb,wh,wi,qk,ne_eq,zgy,↓qc,↓wc,wa]
def qaca (c:Cfg) (p:List OpI):Int:=qsc p c.progs.length c.lps.length c.look
theorem qafu (h:CfgOk c) (p:List OpI) (hp:p∈c.progs):(evL T).call qbw [(.fsl ((p).map OpI.r) false),(.fptr [(.fsl ((c.lps).map lpC) false),(.fsl ((c.progs).map qau) false),(ii c.look),(ii c.fin),(ii c.cap)])] []=some ((ii (qaca c p)),[]):=by
 rw[qd qr1 qrw]
 have:=h.progs
 have v:=q89 p false c.progs.length c.lps.length c.look (h.prog p hp) (qi (by omega) (by omega))
 simp only[qgr,v,qaca,qij,wg,qb,qk,zgy,↓qc,↓wc,we,wa,wf]
theorem q3m (h:CfgOk c):(evL T).call qci [(.agg [(.fsl ((c.lps).map lpC) false),(.fsl ((c.progs).map qau) false),(ii c.look),(ii c.fin),(ii c.cap)])] []=some ((ii (qh6 (qaca c) c.progs)),[]):=by
 have v:=qaf0 qbw [(.fptr [(.fsl ((c.lps).map lpC) false),(.fsl ((c.progs).map qau) false),(ii c.look),(ii c.fin),(ii c.cap)])] (by simp only[qax,qv,wg,zgy]) c.progs (qaca c) h.progs fun p hp=>qafu c h p hp
 rw[qd qtu qsr]
 simp only[qho,v,qax,qv,wg,qb,wh,wi,qk,ne_eq,zgy,↓qc,↓wc,wa]
def qxg (c:Cfg) (s:Start):Int:=if qcn s.prog 0 ((c.progs.length:Int)-1)=false then 22 else okZ (qcn s.time 0 1152921504606846976) 11
theorem qaf9 (h:CfgOk c) (s:Start):(evL T).call qby [.agg [(ii s.prog),(ii s.time)],(.fptr [(.fsl ((c.lps).map lpC) false),(.fsl ((c.progs).map qau) false),(ii c.look),(ii c.fin),(ii c.cap)])] [.row 2 [[(ii s.prog),(ii s.time)]] 0]=some ((ii (qxg c s)),[.row 2 [[(ii s.prog),(ii s.time)]] 0]):=by
 rw[qd qr4 qrk]
 have:=h.progs
 have hw:IntKind.i64.wrap ((c.progs.length:Int)-1)=(c.progs.length:Int)-1:=qi (by omega) (by omega)
 have v:=qq6 (qcn s.time 0 1152921504606846976) 11
 cases h1:qcn s.prog 0 ((c.progs.length:Int)-1)<;>simp only[qgp,qmu,v,hw,h1,qxg,wg,qb,wh,wi,qk,wk,ne_eq,zgy,↓qc,↓wc,we,wa,wf]
theorem qaiu (h:CfgOk c) (l:List Start) (hl:l∈c.lps):(evL T).call qcm [(.fsl ((l).map Start.r) false),(.fptr [(.fsl ((c.lps).map lpC) false),(.fsl ((c.progs).map qau) false),(ii c.look),(ii c.fin),(ii c.cap)])] []=some ((ii (qh6 (qxg c) l)),[]):=by
 have v:=qade qby [(.fptr [(.fsl ((c.lps).map lpC) false),(.fsl ((c.progs).map qau) false),(ii c.look),(ii c.fin),(ii c.cap)])] (by simp only[qax,qv,wg,zgy]) l (qxg c) (h.lp l hl) fun s _=>qaf9 c h s
 rw[qd qto qsp]
 simp only[qhn,v,qt0,qax,qv,wg,qk,zgy,↓qc,↓wc,we,wa,wf]
theorem q57 (h:CfgOk c):(evL T).call qc0 [(.agg [(.fsl ((c.lps).map lpC) false),(.fsl ((c.progs).map qau) false),(ii c.look),(ii c.fin),(ii c.cap)])] []=some ((ii (qh6 (qh6 (qxg c)) c.lps)),[]):=by
 have v:=qacy qcm [(.fptr [(.fsl ((c.lps).map lpC) false),(.fsl ((c.progs).map qau) false),(ii c.look),(ii c.fin),(ii c.cap)])] (by simp only[qax,qv,wg,zgy]) c.lps (qh6 (qxg c)) h.lps fun l hl=>qaiu c h l hl
 rw[qd qvw qud]
 simp only[qiw,v,qax,qv,wg,qb,wh,wi,qk,ne_eq,zgy,↓qc,↓wc,wa]
def qafg (c:Cfg) (p:Nat×Int):List AV:=[.fn (.func p.1) [(.agg [(.fsl ((c.lps).map lpC) false),(.fsl ((c.progs).map qau) false),(ii c.look),(ii c.fin),(ii c.cap)])] []]
theorem rule_lo (n:Nat) (p:Nat×Int):los n (qafg c p)=true:=by simp only[qafg,qax,qv,wg,zgy]
theorem qafs (n:Nat) (l:List (Nat×Int)):qb4 n (l.map (qafg c))=true:=qjs (rule_lo c n) l
theorem qafh (l:List (Nat×Int)) (b:Bool) (hl:l.length<2^62) (hf : ∀p∈l,(evL T).call p.1 [(.agg [(.fsl ((c.lps).map lpC) false),(.fsl ((c.progs).map qau) false),(ii c.look),(ii c.fin),(ii c.cap)])] []=some ((ii p.2),[])) :
  qm (evL T) qcc [.fsl (l.map (qafg c)) b,.fn (.func qex) [] []]=some (ii (qh6 Prod.snd l)):=by
 have h1 : ∀p∈l,(evL T).call qex [.fn (.func p.1) [(.agg [(.fsl ((c.lps).map lpC) false),(.fsl ((c.progs).map qau) false),(ii c.look),(ii c.fin),(ii c.cap)])] []] []=some ((ii p.2),[]):=fun p hp=>by
  have:=hf p hp
  rw[qd q5i q2u]
  simp only[qo0,this,wg,qk,zgy,↓qc,↓wc,wf]
 have hL : ∃y,itB (exec (evL T) itL none qdb) (qu [1,8,9,10] true 0) ⟨[(1,.fn (.func qex) [] []),(8,.fsl (l.map (qafg c)) b),(9,(ii l.length)),(10,(ii 0))],[]⟩ []=some y∧(l.all (fun x=>decide (x.2=0))=true∧(y.1 = .exit 0∧y.2.1.marks=[]∧y.2.2=[]) ∨
   l.all (fun x=>decide (x.2=0))=false ∧ ∃x,l.find? (fun x => !decide (x.2=0))=some x∧(y.1 = .ret∧y.2.1.marks=[]∧y.2.2=[]∧wp y.2.1.vars 4=some (ii x.2))):=by
  refine qgo l (fun i=>⟨[(1,.fn (.func qex) [] []),(8,.fsl (l.map (qafg c)) b),(9,(ii l.length)),(10,(ii i))],[]⟩) [] (fun x=>decide (x.2=0)) _ (fun x y => _) ?_ ?_ ?_
  ·intro i x hi hx hp
   have hi':(i:Int)<(l.length:Int):=by omega
   have hw:IntKind.i64.wrap ((i:Int)+1)=((i+1:Nat):Int):=by rw[qi (by omega) (by omega)];simp
   have h2:=h1 x (zmg hx)
   rw[of_decide_eq_true hp]at h2
   simp only[qdb,zgs,zgr,zgq,zgt,hx,hi',hw,h2,qafs,qafg,wg,qb,ne_eq,zgy,↓qc,↓wc,wa]
  ·intro i x hi hx hp
   have hi':(i:Int)<(l.length:Int):=by omega
   have h2:=h1 x (zmg hx)
   have h3:¬x.2=0:=of_decide_eq_false hp
   simp only[qdb,zgs,zgr,zgq,zgt,hx,hi',h2,h3,qafg,wg,qb,ne_eq,zgy,↓qc,↓wc,wa]
   exact⟨_,rfl,rfl,rfl,rfl,rfl⟩
  ·simp only[qdb,wq,wg,zgy,↓qc,↓wc,wa]
   exact⟨_,rfl,rfl,rfl,rfl⟩
 obtain⟨⟨y,e,σ⟩,k1,k2⟩:=hL
 simp only at k2
 rw[qm,qd qqv qqq]
 rcases k2 with ⟨k3,rfl,k4,rfl⟩|⟨k3,x,k5,rfl,k4,rfl,k6⟩
 ·rw[q0u k3]
  simp only[qd3,k1,k4,qafs,wg,qk,zgy,↓qc,↓qq,↓wc,we,wa,wf]
 ·rw[qxy k5]
  simp only[qd3,k1,k4,k6,qafs,wg,qk,zgy,↓qc,↓qq,↓wc,we,wa,wf]
def cfgL (c:Cfg):List (Nat×Int):=[(qde,okZ (qyl c) 1),(qcd,okZ (decide (c.look≥1)) 20),(qci,qh6 (qaca c) c.progs),(qc0,qh6 (qh6 (qxg c)) c.lps)]
def qamw (c:Cfg):Int:=qh6 Prod.snd (cfgL c)
theorem qzv (h:CfgOk c):qm (evL T) qdn [(.agg [(.fsl ((c.lps).map lpC) false),(.fsl ((c.progs).map qau) false),(ii c.look),(ii c.fin),(ii c.cap)])]=some (ii (qamw c)):=by
 have v:=qafh c (cfgL c) true (by simp[cfgL]) (by
  intro p hp
  simp only[cfgL,List.mem_cons,List.not_mem_nil,or_false]at hp
  rcases hp with rfl|rfl|rfl|rfl
  ·exact q9m c h
  ·exact q1u c
  ·exact q3m c h
  ·exact q57 c h)
 rw[show qh6 Prod.snd (cfgL c)=qamw c from rfl]at v
 have hrep:wM 4 ([.v .nilFunc]:List AV)=[[.v .nilFunc],[.v .nilFunc],[.v .nilFunc],[.v .nilFunc]]:=rfl
 simp only[cfgL,wt,wn,qafg]at v
 rw[qm,qd q8v q6r]
 simp only[qrg,hrep,v,qax,qv,wg,wu,qb,wh,wv,wi,qk,ne_eq,zgy,↓qc,↓wc,we,wa,wx,wm,wj,ww]
end
set_option maxRecDepth 10000
theorem qala {c:Cfg} (h:qyl c=false):qamw c=1:=by
 unfold qamw cfgL qh6;rw[h];rfl
theorem qao1 {c:Cfg} (h1:qyl c=true) (h2:¬c.look≥1):qamw c=20:=by
 unfold qamw cfgL qh6;rw[h1];simp[h2,okZ]
theorem qal5 {c:Cfg} (h1:qyl c=true) (h2:c.look≥1) (h3:qh6 (qaca c) c.progs≠0):qamw c=qh6 (qaca c) c.progs:=by
 unfold qamw
 generalize hz:qh6 (qaca c) c.progs=z at h3
 unfold cfgL
 rw[hz,h1]
 unfold qh6;simp[h2,okZ,h3]
theorem qajz {c:Cfg} (h1:qyl c=true) (h2:c.look≥1) (h3:qh6 (qaca c) c.progs=0):qamw c=qh6 (qh6 (qxg c)) c.lps:=by
 unfold qamw
 generalize hz:qh6 (qh6 (qxg c)) c.lps=z
 unfold cfgL
 rw[hz,h3,h1]
 by_cases h:z=0<;>(unfold qh6;simp[h2,okZ,h])
theorem qae9 {τ:Type} (f:τ→Int) (l:List τ):qh6 f l=qxe f l:=by
 unfold qh6 qxe
 cases l.find? (fun x => !decide (f x=0))<;>rfl
theorem qans (c:Cfg):qx0 c=qyl c:=by
 rw[Bool.eq_iff_iff]
 simp only[qx0,qyl,qahl,qcn,lenB,len8,wK,decide_eq_true_eq,List.all_eq_true,Bool.not_eq_true',decide_eq_false_iff_not]
 constructor
 ·rintro⟨⟨h1,h2,h3⟩,h4,h5,h6,h7,h8⟩
  exact⟨⟨⟨by omega,by omega⟩,by omega,⟨by omega,by omega⟩,by omega,by omega⟩,fun x hx=>by have:=h4 x hx;omega⟩
 ·rintro⟨⟨⟨h1,h2⟩,h3,⟨h4,h5⟩,h6,h7⟩,h8⟩
  exact⟨⟨by omega,by omega,by omega⟩,fun x hx=>by have:=h8 x hx;omega,by omega,by omega,by omega,by omega⟩
theorem qao5 (c:Cfg) (s:Start):qnw c s=qxg c s:=by
 unfold qnw qxg okZ qcn
 by_cases h1:s.prog<0∨s.prog≥c.progs.length
 ·have:(decide (s.prog≥0)&&decide (s.prog≤(c.progs.length:Int)-1))=false:=by
   rw[Bool.and_eq_false_iff];simp only[decide_eq_false_iff_not];omega
  rw[if_pos h1,if_pos this]
 ·have:¬(decide (s.prog≥0)&&decide (s.prog≤(c.progs.length:Int)-1))=false:=by
   rw[Bool.and_eq_false_iff];simp only[decide_eq_false_iff_not];omega
  rw[if_neg h1,if_neg this]
  by_cases h2:s.time<0∨s.time>1152921504606846976
  ·have:¬(decide (s.time≥0)&&decide (s.time≤1152921504606846976))=true:=by
    rw[wK];simp only[decide_eq_true_eq];omega
   rw[if_pos h2,if_neg this]
  ·have:(decide (s.time≥0)&&decide (s.time≤1152921504606846976))=true:=by
    rw[wK];simp only[decide_eq_true_eq];omega
   rw[if_neg h2,if_pos this]
theorem qaku (c:Cfg):q9e c=qamw c:=by
 have e1:rlpZ c=qh6 (qxg c):=by
  funext l;show qxe (qnw c) l = _
  rw[qae9,show qnw c=qxg c from funext (qao5 c)]
 have e2:q2e c=qaca c:=rfl
 unfold q9e
 rw[qans,e1,e2,←qae9,←qae9]
 by_cases h1:qyl c=false
 ·rw[if_pos h1,qala h1]
 have h1':qyl c=true:=by simpa using h1
 rw[if_neg h1]
 by_cases h2:c.look<1
 ·rw[if_pos h2,qao1 h1' (by omega)]
 rw[if_neg h2]
 by_cases h3:qh6 (qaca c) c.progs≠0
 ·rw[if_pos h3,qal5 h1' (by omega) h3]
 ·rw[if_neg h3,qajz h1' (by omega) (by simpa using h3)]
set_option maxRecDepth 10000
section
variable {c:Cfg} {s:Sim} {h:List Evt} {n:Nat} {L:List (Lp×Bool)} {A:qj} {O:List (List AV)}
mutual
theorem qalg : ∀(a:AV),a.shift 0=a
 | .v _=>by simp only[AV.shift]
 | .agg cs=>by simp only[AV.shift,qpb cs]
 | .tup cs=>by simp only[AV.shift,qpb cs]
 | .fsl es c=>by simp only[AV.shift,qzz es]
 | .fptr cs=>by simp only[AV.shift,qpb cs]
 | .sl o g off len c=>by simp only[AV.shift,wW]
 | .ptr o g i off=>by simp only[AV.shift,wW]
 | .fn f a b=>by simp only[AV.shift,qpb a,qpb b]
 | .yld o=>by simp only[AV.shift,wW]
 | .mp o=>by simp only[AV.shift,wW]
theorem qpb : ∀(l:List AV),qhy 0 l=l
 | []=>by simp only[qhy]
 |a::l=>by simp only[qhy,qalg a,qpb l]
theorem qzz : ∀(l:List (List AV)),qhj 0 l=l
 | []=>by simp only[qhj]
 |a::l=>by simp only[qhj,qpb a,qzz l]
end
theorem qaob {α β:Type} {f:α→Option β} : ∀ {l:List α} {t:List β},l.length=t.length→(∀(i:Nat) (a:α) (b:β),l[i]? = some a→t[i]? = some b→f a=some b)→qjv f l=some t
 | [],[],_,_=>rfl
 |a::l,b::t,hl,h=>by
  rw[q0o,h 0 a b rfl rfl,qaob (by simpa using hl) (fun i a b h1 h2=>h (i+1) a b h1 h2)];rfl
 | [],_ :: _,h,_=>by simp at h
 | _ :: _,[],h,_=>by simp at h
def isRow:SObj→Bool
 | .row .. => true
 | _=>false
theorem imp_zero {σ:qj} (h : ∀x∈σ,isRow x=true):qjv (q3y 0) σ=some σ:=by
 refine qaob rfl (fun i a b h1 h2 => ?_)
 rw[h1]at h2;cases h2
 have:=h a (zmg h1)
 cases a<;>simp only[isRow,zfa]at this
 simp only[q3y,qzz]
theorem SimSt.imp (S:SimSt n s L A O):qjv (q3y 0) (A++[.row 1 O 0,(.row 10 [[(.fsl ((c.lps).map lpC) false),(.fsl ((c.progs).map qau) false),(ii c.look),(ii c.fin),(ii c.cap),.sl (n+1) 0 0 n false,.sl 0 1 0 n false,(.fsl ((s.pend).map Evt.r) false),(ii s.n),(bb s.over)]] 0)])=some (A++[.row 1 O 0,(.row 10 [[(.fsl ((c.lps).map lpC) false),(.fsl ((c.progs).map qau) false),(ii c.look),(ii c.fin),(ii c.cap),.sl (n+1) 0 0 n false,.sl 0 1 0 n false,(.fsl ((s.pend).map Evt.r) false),(ii s.n),(bb s.over)]] 0)]):=by
 refine imp_zero (fun x hx => ?_)
 rcases List.mem_append.1 hx with hx|hx
 ·obtain⟨i,hi⟩:=List.mem_iff_getElem?.1 hx
  have hl:=(zei.1 hi).1
  rw[S.len]at hl
  cases i with
  |zero=>rw[S.lps]at hi;cases hi;rfl
  |succ i=>obtain⟨g,t1,_⟩:=S.tr i (by omega);rw[t1]at hi;cases hi;rfl
 ·simp only[List.mem_cons,List.not_mem_nil,or_false]at hx
  rcases hx with rfl|rfl<;>rfl
end
set_option maxRecDepth 10000
theorem qah4 (h:List Evt) : ∀n:Nat,((List.range n).map fun i=>qao h i).flatten.Perm (h.filter fun e=>decide (0≤e.lp∧e.lp<(n:Int)))
 | 0=>by
  have:h.filter (fun e=>decide (0≤e.lp∧e.lp<((0:Nat):Int)))=[]:=List.filter_eq_nil_iff.2 (fun e _=>by simp only[decide_eq_true_eq];omega)
  rw[this];exact .refl _
 |n+1=>by
  rw[List.range_succ,wz,List.flatten_append]
  refine(List.Perm.append (qah4 h n) (.refl _)).trans ?_
  have e1:h.filter (fun e=>decide (0≤e.lp∧e.lp<(n:Int)))=(h.filter fun e=>decide (0≤e.lp∧e.lp<((n+1:Nat):Int))).filter (fun e=>decide (e.lp<(n:Int))):=by
   rw[List.filter_filter]
   refine List.filter_congr (fun e _ => ?_)
   rw[←Bool.decide_and]
   refine decide_eq_decide.2 ?_
   omega
  have e2:([qao h n].flatten:List Evt)=(h.filter fun e=>decide (0≤e.lp∧e.lp<((n+1:Nat):Int))).filter (fun e => !decide (e.lp<(n:Int))):=by
   rw[List.filter_filter,List.flatten_cons,List.flatten_nil,wA]
   refine List.filter_congr (fun e _ => ?_)
   rw[←decide_not,←Bool.decide_and]
   refine decide_eq_decide.2 ?_
   omega
  rw[e1,wt,wn,e2]
  exact List.filter_append_perm _ _
theorem q9z {h:List Evt} {n:Nat} (hl : ∀e∈h,0≤e.lp∧e.lp<(n:Int)):((List.range n).map fun i=>qao h i).flatten.Perm h:=by
 have:=qah4 h n
 rwa[List.filter_eq_self.2 (fun e he=>by simpa using hl e he)]at this
section
variable {c:Cfg} {s:Sim} {h:List Evt}
theorem SInvK.traces (H:SInvK c s h):s.trace=(List.range c.lps.length).map fun i=>qao h i:=by
 refine List.ext_getElem? (fun i => ?_)
 by_cases hi:i<c.lps.length
 ·rw[H.tr i hi,List.getElem?_map,List.getElem?_range hi];rfl
 ·rw[wR (by rw[H.trl];omega),wR (by simp;omega)]
theorem SInvK.perm (H:SInvK c s h):s.trace.flatten.Perm h:=by
 rw[H.traces]
 exact q9z (fun e he=>(H.ev e (wI _ he)).lp)
theorem SInvK.count (H:SInvK c s h):s.trace.flatten.length=h.length:=H.perm.length_eq
theorem SInvK.mem (H:SInvK c s h) {i:Nat} {x:List Evt} (hx:s.trace[i]? = some x) : ∀e∈x,e∈h∧e.lp=i:=by
 have hi:=(zei.1 hx).1
 rw[H.trl]at hi
 rw[H.tr i hi]at hx;cases hx
 intro e he
 unfold qao at he
 rw[List.mem_filter]at he
 exact⟨he.1,by simpa using he.2⟩
end
set_option maxRecDepth 10000
structure Good (c:Cfg):Prop where
 h12:Small12 c
 ok:CfgOk c
 z:qamw c=0
 v:Valid c
theorem good_of {c:Cfg} (h:okB c=true):Good c:=by
 simp only[okB,wK,Bool.not_eq_true',decide_eq_true_eq]at h
 obtain⟨h1,h2⟩:=h
 obtain⟨g1,g2,g3,g4⟩:=q3j c h1
 exact⟨⟨g1,g3⟩,⟨by omega,by omega,fun p hp=>by have:=g4 p hp;omega,fun l hl=>by have:=g3 l hl;omega⟩,by rw[←qaku];exact h2,valid_of h2⟩
structure RunF (c:Cfg) (s:Sim) (h:List Evt):Prop where
 inv:SInv c s h
 len:h.length≤3000
theorem RunF.n {c:Cfg} {s:Sim} {h:List Evt} (H:RunF c s h):s.trace.length=c.lps.length∧c.lps.length≤8:=⟨H.inv.trl,H.inv.valid.lps.2⟩
theorem RunF.key {c:Cfg} {s:Sim} {h:List Evt} (H:RunF c s h) {i:Nat} {x:List Evt} (hx:s.trace[i]? = some x) : ∀e∈x,e.key.length≤9223372036854775807:=by
 intro e he
 have:=(H.inv.ev e (wI _ (H.inv.mem hx e he).1)).key
 have:=H.len;omega
set_option maxRecDepth 10000
section
variable (l:List Evt) (cl:Bool)
theorem qajh (out:List Evt) (x:Evt) (i:Nat) (cf:Bool) (hx:l[i]? = some x) (ho:out.length≤1000000) (hk:qb0 out) (hkx:x.key.length≤9223372036854775807) :
  ∃y,itB (exec (evL T) itL none qh2) (qu [0,3,4,5] true 0) ⟨[(0,(.fsl ((l).map Evt.r) cl)),(3,(.fsl ((out).map Evt.r) cf)),(4,(ii i)),(5,(ii out.length))],[]⟩ []=some y ∧
   ∃k:Nat,y.1 = .exit 2∧y.2.1.marks=[]∧y.2.2=[]∧wp y.2.1.vars 0=some (.fsl ((l).map Evt.r) cl)∧wp y.2.1.vars 3=some (.fsl ((out).map Evt.r) cf)∧wp y.2.1.vars 4=some (ii i)∧wp y.2.1.vars 5=some (ii k) ∧
    k≤out.length∧(∀u,0<k→out[k-1]? = some u→leE u x)∧(∀v,out[k]? = some v→leE x v):=by
 refine qjo (τ:=Nat) (fun k=>⟨[(0,(.fsl ((l).map Evt.r) cl)),(3,(.fsl ((out).map Evt.r) cf)),(4,(ii i)),(5,(ii k))],[]⟩) (fun _=>[]) (fun k=>k)
  (fun k=>k≤out.length∧(∀v,out[k]? = some v→leE x v)) _ ?_ out.length ⟨wD _,fun v hv=>by simp at hv⟩
 rintro k ⟨h1,h2⟩
 cases k with
 |zero=>
  right
  simp only[qh2,wq,wg,zgy,↓qc,↓wc,wa,wf]
  exact⟨_,rfl,0,rfl,rfl,rfl,rfl,rfl,rfl,rfl,wC _,fun u h=>by omega,h2⟩
 |succ j=>
  obtain⟨y,hy⟩ : ∃y,out[j]? = some y:=⟨_,zgE (by omega)⟩
  obtain⟨k,hk1⟩ : ∃k,k=j+1:=⟨_,rfl⟩
  rw[←hk1]at h1 h2⊢
  have c1:(k:Int)>0:=by omega
  have w1:IntKind.i64.wrap ((k:Int)-1)=(j:Int):=q09 hk1 (by omega)
  have hc:=qqt y x (hk y (zmg hy)) hkx
  by_cases hlt:qxm y x>0
  ·left
   refine⟨j,?_,⟨by omega,fun v hv=>by rw[hy]at hv;cases hv;exact(by have:=qu6 y x;unfold leE;omega)⟩,by omega⟩
   obtain⟨xt,xk,xl,xi,xp,xa⟩:=x
   obtain⟨yt,yk,yl,yi,yp,ya⟩:=y
   simp only at hc
   simp only[qh2,zgs,zgr,zgq,zgt,hx,hy,c1,w1,hc,hlt,Evt.r,qh,qg,wg,qb,zgy,↓qc,↓wc,we,wa,wf]
  ·right
   have hle:leE y x:=by unfold leE;omega
   have h3 : ∀u,0<k→out[k-1]? = some u→leE u x:=fun u _ hu=>by
    rw[hk1,wO,hy]at hu;cases hu;exact hle
   clear hle
   obtain⟨xt,xk,xl,xi,xp,xa⟩:=x
   obtain⟨yt,yk,yl,yi,yp,ya⟩:=y
   simp only at hc
   simp only[qh2,zgs,zgr,zgq,zgt,hx,hy,c1,w1,hc,hlt,Evt.r,qg,wg,qb,zgy,↓qc,↓wc,we,wa,wf]
   exact⟨_,rfl,k,rfl,rfl,rfl,rfl,rfl,rfl,rfl,h1,h3,h2⟩
theorem qai5 (hl:l.length≤1000000) (hk:qb0 l) :
  ∃y,itB (exec (evL T) itL none qds) (qu [0,3,4] true 0) ⟨[(0,(.fsl ((l).map Evt.r) cl)),(3,.fsl [] true),(4,(ii 0))],[]⟩ []=some y ∧
   ∃(l':List Evt) (cf:Bool),y.1 = .exit 0∧y.2.1.marks=[]∧y.2.2=[]∧wp y.2.1.vars 3=some (.fsl ((l').map Evt.r) cf)∧l'.Perm l∧l'.Pairwise leE∧(l ≠ []→cf=false):=by
 have key:=qcq (f:=exec (evL T) itL none qds) (s:=qu [0,3,4] true 0) (α:=List Evt×Bool)
  (fun i a=>⟨[(0,(.fsl ((l).map Evt.r) cl)),(3,(.fsl ((a.1).map Evt.r) a.2)),(4,(ii i))],[]⟩) (fun i a=>[])
  (fun i a=>a.1.Perm (l.take i)∧a.1.Pairwise leE∧(i≠0→a.2=false)) l.length
  (fun y => ∃(l':List Evt) (cf:Bool),y.1 = .exit 0∧y.2.1.marks=[]∧y.2.2=[]∧wp y.2.1.vars 3=some (.fsl ((l').map Evt.r) cf)∧l'.Perm l∧l'.Pairwise leE∧(l ≠ []→cf=false)) ?_ ?_ 0 ([],true) (wC _) ⟨by simp,.nil,fun h=>absurd rfl h⟩
 ·exact key
 ·rintro i ⟨out,cf⟩ hi ⟨hp,hs,_⟩
  simp only at hp hs⊢
  obtain⟨x,hx⟩ : ∃x,l[i]? = some x:=⟨_,zgE hi⟩
  have hi':(i:Int)<(l.length:Int):=by omega
  have hw:IntKind.i64.wrap ((i:Int)+1)=((i+1:Nat):Int):=by rw[qi (by omega) (by omega)];simp
  have hol:out.length≤1000000:=by have:=hp.length_eq;rw[List.length_take]at this;omega
  obtain⟨⟨y,e,σ⟩,k1,k,k2,k3,k4,k5,k6,k7,k8,k9,k10,k11⟩:=qajh l cl out x i cf hx hol (fun z hz=>hk z (List.mem_of_mem_take (hp.mem_iff.1 hz))) (hk x (zmg hx))
  simp only at k1 k2 k3 k4 k5 k6 k7 k8
  subst k2;subst k4
  obtain⟨A,B,rfl,hA⟩ : ∃A B,out=A++B∧A.length=k:=⟨out.take k,out.drop k,(List.take_append_drop _ _).symm,by simp;omega⟩
  subst hA
  have c1:(A.length:Int)≤((A++B).length:Int):=by rw[wr];omega
  have c2:(0:Int)≤(A.length:Int):=by omega
  have tk:wB A.length ((A++B).map Evt.r)=A.map Evt.r:=by rw[wz];exact List.take_left' (by simp)
  have dr:List.drop A.length ((A++B).map Evt.r)=B.map Evt.r:=by rw[wz];exact List.drop_left' (by simp)
  have hlen:A.length+B.length≤1000000:=by rw[wr]at hol;exact hol
  have new:(A++x::B).Perm (l.take (i+1))∧(A++x::B).Pairwise leE:=by
   constructor
   ·rw[qjg hx]
    exact(List.perm_middle.trans ((List.Perm.cons x hp))).trans (wS x _).symm
   ·refine qrt qqi hs (fun u hu => ?_) (fun v hv => ?_)
    ·have hlt:A.length-1<A.length:=(zei.1 hu).1
     refine k10 u (by omega) ?_
     rw[List.getElem?_append_left hlt];exact hu
    ·refine k11 v ?_
     rw[wH (wD _),Nat.sub_self];exact hv
  refine .inl ⟨(A++x::B,false),?_,new.1,new.2,fun _=>rfl⟩
  have b1:A.length*64≤140737488355328:=by omega
  have b2:(A.length+1)*64≤140737488355328:=by omega
  have b3:(A.length+1+B.length)*64≤140737488355328:=by omega
  have tb:wB ((A++B).length-A.length) (B.map Evt.r)=B.map Evt.r:=ztl (by simp)
  have ta:wB A.length (A.map Evt.r)=A.map Evt.r:=ztl (by simp)
  have ta2 : ∀e:List AV,wB (A.length+1) (A.map Evt.r++[e])=A.map Evt.r++[e]:=fun e=>ztl (by simp)
  have ta3 : ∀e:List AV,wB (A.length+1+B.length) (A.map Evt.r++e::B.map Evt.r)=A.map Evt.r++e::B.map Evt.r:=fun e=>ztl (by simp;omega)
  have okAB:qbs 6 ((A++B).map Evt.r)=true:=qgi _
  have goal':(AV.fsl ((A++x::B).map Evt.r) false)=AV.fsl (A.map Evt.r++x.r::B.map Evt.r) false:=by rw[wz,wt]
  have n1 : ∀p q:Nat,p+1+q≤p+(q+1):=fun p q=>by omega
  have n2 : ∀q:Nat,1+q≤q+1:=fun q=>by omega
  simp only
  rw[goal']
  rcases A with _|⟨a,A⟩<;>rcases B with _|⟨b,B⟩
  ·obtain⟨xt,xk,xl,xi,xp,xa⟩:=x
   simp only[zgl,zgb,wn,wF]at *
   simp only[qds,zgs,zgr,zgq,zgt,hx,hi',hw,k1,k3,k5,k6,k7,k8,c1,tk,dr,b1,b2,ta2,okAB,imp_self,Nat.sub_zero,Int.toNat_zero,Evt.r,qh,qg,wg,qqk,qb,qaw,wh,wi,ne_eq,zgy,implies_true,↓qc,↓qq,↓wc,we,wa,wx,wm,wj,ww,wf]
  ·generalize hRB:List.map Evt.r (b::B)=RB at *
   have nB:¬RB=[]:=by rw[←hRB];simp
   have lB:RB.length=(b::B).length:=by rw[←hRB];simp
   have oB:qbs 6 RB=true:=by rw[←hRB];exact qgi _
   have loB : ∀n,qb4 n RB=true:=fun n=>by rw[←hRB];exact qh n _
   obtain⟨xt,xk,xl,xi,xp,xa⟩:=x
   simp only[zgl,zgb,wn,wF,hRB,Nat.sub_zero,zgg]at *
   generalize hrb:(b::B).length=nb at *
   simp only[qds,zgs,zgr,zgq,zgt,hx,hi',hw,k1,k3,k5,k6,k7,k8,c1,c2,tk,b1,b2,b3,ta,ta2,ta3,tb,okAB,imp_self,n2,wV,Nat.sub_zero,nB,lB,loB,qs9,Int.toNat_zero,Evt.r,qh,qg,wg,qqk,qb,qaw,wh,wi,ne_eq,zgy,implies_true,↓qc,↓qq,↓wc,we,wa,wx,wm,wj,ww,wf]
  ·generalize hRA:List.map Evt.r (a::A)=RA at *
   have nA:¬RA=[]:=by rw[←hRA];simp
   have lA:RA.length=(a::A).length:=by rw[←hRA];simp
   have oA:qbs 6 RA=true:=by rw[←hRA];exact qgi _
   have loA : ∀n,qb4 n RA=true:=fun n=>by rw[←hRA];exact qh n _
   obtain⟨xt,xk,xl,xi,xp,xa⟩:=x
   simp only[zgn,zgb,wn,hRA,wW,Nat.sub_self]at *
   generalize hra:(a::A).length=na at *
   simp only[qds,zgs,zgr,zgq,zgt,hx,hi',hw,k1,k3,k5,k6,k7,k8,c1,c2,tk,dr,b1,b2,ta2,tb,okAB,imp_self,wV,Nat.sub_zero,nA,lA,loA,qs9,zfe,qn5,Evt.r,qh,qg,wg,qqk,qb,qaw,wh,wi,ne_eq,zgy,implies_true,↓qc,↓qq,↓wc,we,wa,wx,wm,wj,ww,wP,wf]
  ·generalize hRA:List.map Evt.r (a::A)=RA at *
   generalize hRB:List.map Evt.r (b::B)=RB at *
   have nA:¬RA=[]:=by rw[←hRA];simp
   have nB:¬RB=[]:=by rw[←hRB];simp
   have lA:RA.length=(a::A).length:=by rw[←hRA];simp
   have lB:RB.length=(b::B).length:=by rw[←hRB];simp
   have oA:qbs 6 RA=true:=by rw[←hRA];exact qgi _
   have oB:qbs 6 RB=true:=by rw[←hRB];exact qgi _
   have loA : ∀n,qb4 n RA=true:=fun n=>by rw[←hRA];exact qh n _
   have loB : ∀n,qb4 n RB=true:=fun n=>by rw[←hRB];exact qh n _
   generalize hra:(a::A).length=na at *
   generalize hrb:(b::B).length=nb at *
   generalize (a::A)++(b::B)=AB at *
   obtain⟨xt,xk,xl,xi,xp,xa⟩:=x
   simp only[qds,zgs,zgr,zgq,zgt,hx,hi',hw,k1,k3,k5,k6,k7,k8,c1,c2,tk,dr,b1,b2,b3,ta,ta2,ta3,tb,okAB,imp_self,n1,List.append_assoc,wV,Nat.sub_zero,nA,nB,lA,lB,oA,oB,loA,loB,qn5,Evt.r,qh,qg,wg,qqk,qb,qaw,wh,wi,ne_eq,zgy,implies_true,↓qc,↓qq,↓wc,we,wa,wx,wm,wj,ww,wP,wf]
 ·rintro⟨out,cf⟩ ⟨hp,hs,hc⟩
  rw[wy]at hp
  simp only at hp hs hc⊢
  simp only[qds,wq,wg,ne_eq,zgy,↓qc,↓wc,wa,wf]
  exact⟨_,rfl,out,cf,rfl,rfl,rfl,rfl,hp,hs,fun h=>hc (by intro e;exact h (List.eq_nil_of_length_eq_zero e))⟩
theorem q3u (hl:l.length≤1000000) (hk:qb0 l) : ∃(l':List Evt) (cf:Bool),l'.Perm l∧l'.Pairwise leE∧(l ≠ []→cf=false)∧qm (evL T) qe7 [(.fsl ((l).map Evt.r) cl)]=some (.fsl ((l').map Evt.r) cf):=by
 obtain⟨⟨y,e,σ⟩,k1,l',cf,k2,k3,k4,k5,k6,k7,k8⟩:=qai5 l cl hl hk
 simp only at k1 k2 k3 k4 k5
 subst k2;subst k4
 refine⟨l',cf,k6,k7,k8,?_⟩
 rw[qm,qd q1b qzn]
 simp only[qnb,k1,k3,k5,qh,wg,qk,zgy,↓qc,↓qq,↓wc,wa,wf]
theorem q1o (hl:l.length≤1000000) (hk:qb0 l) (hd:qys l) : ∃cf:Bool,(l ≠ []→cf=false)∧qm (evL T) qe7 [(.fsl ((l).map Evt.r) cl)]=some (.fsl ((sortL l).map Evt.r) cf):=by
 obtain⟨l',cf,h1,h2,h3,h4⟩:=q3u l cl hl hk
 rw[←qpp hd h1 h2];exact⟨cf,h3,h4⟩
end
set_option maxRecDepth 10000
section
variable (c:Cfg)
theorem qajg (k:Nat) (l:List Start) (hkl:c.lps[k]? = some l) (o0:List Evt) (g0:Nat) (hl:l.length≤12) (hk:k≤12) (ho:o0.length≤1000) :
  ∃y,itB (exec (evL T) itL none qj7) (qu [1,3,4,5] true 1) ⟨[(1,(.fptr [(.fsl ((c.lps).map lpC) false),(.fsl ((c.progs).map qau) false),(ii c.look),(ii c.fin),(ii c.cap)])),(3,.sl 0 g0 0 o0.length false),(4,(ii k)),(5,(ii 0))],[]⟩ [.row 6 (o0.map Evt.r) g0]=some y ∧
   ∃g:Nat,y.1 = .exit 2∧y.2.1.marks=[]∧y.2.2=[.row 6 ((o0++qk7 k l).map Evt.r) g]∧wp y.2.1.vars 3=some (.sl 0 g 0 (o0++qk7 k l).length false)∧wp y.2.1.vars 1=some (.fptr [(.fsl ((c.lps).map lpC) false),(.fsl ((c.progs).map qau) false),(ii c.look),(ii c.fin),(ii c.cap)])∧wp y.2.1.vars 4=some (ii k):=by
 have key:=qcq (f:=exec (evL T) itL none qj7) (s:=qu [1,3,4,5] true 1) (α:=List Evt×Nat)
  (fun i a=>⟨[(1,(.fptr [(.fsl ((c.lps).map lpC) false),(.fsl ((c.progs).map qau) false),(ii c.look),(ii c.fin),(ii c.cap)])),(3,.sl 0 a.2 0 a.1.length false),(4,(ii k)),(5,(ii i))],[]⟩) (fun i a=>[.row 6 (a.1.map Evt.r) a.2])
  (fun i a=>a.1=o0++qk7 k (l.take i)) l.length
  (fun y => ∃g:Nat,y.1 = .exit 2∧y.2.1.marks=[]∧y.2.2=[.row 6 ((o0++qk7 k l).map Evt.r) g]∧wp y.2.1.vars 3=some (.sl 0 g 0 (o0++qk7 k l).length false)∧wp y.2.1.vars 1=some (.fptr [(.fsl ((c.lps).map lpC) false),(.fsl ((c.progs).map qau) false),(ii c.look),(ii c.fin),(ii c.cap)])∧wp y.2.1.vars 4=some (ii k)) ?_ ?_ 0 (o0,g0) (wC _) (by simp[qk7])
 ·exact key
 ·rintro i ⟨out,g⟩ hi hout
  simp only at hout⊢
  obtain⟨x,hx⟩ : ∃x,l[i]? = some x:=⟨_,zgE hi⟩
  have hi':(i:Int)<(l.length:Int):=by omega
  have hw:IntKind.i64.wrap ((i:Int)+1)=((i+1:Nat):Int):=by rw[qi (by omega) (by omega)];simp
  have ho2:out.length≤1012:=by rw[hout,wr,q7q];have:=List.length_take_le i l;omega
  have hb:(out.length+1)*64≤140737488355328:=by omega
  obtain⟨t1,t2⟩:=qvh out (qjy k i x).r
  have hr:(out++[qjy k i x]).map Evt.r=out.map Evt.r++[(qjy k i x).r]:=by rw[wz];rfl
  refine .inl ⟨(out++[qjy k i x],g+1),?_,by simp only;rw[qaax hx,hout,List.append_assoc]⟩
  have hlo:=qh 1 (out++[qjy k i x])
  simp only
  rw[hr,wr]
  rw[hr]at hlo
  have hrep : ∀v:List AV,wM 2 v=[v,v]:=fun _=>rfl
  simp only[qjy,Evt.r,wt,wn,qy]at t2 hlo⊢
  simp only[qj7,zgs,zgr,zgq,zgt,hx,hkl,hi',hw,hb,t1,hlo,hrep,lpC,Start.r,qax,qv,wg,qqk,qb,qaw,wh,wv,wi,wk,ne_eq,zgy,↓qc,↓wc,we,wa,wx,wm,wj,ww]
 ·rintro⟨out,g⟩ hout
  rw[wy]at hout
  simp only at hout⊢
  simp only[qj7,zgs,zgr,zgq,zgt,hkl,lpC,wq,wg,qb,zgy,↓qc,↓wc,wa]
  exact⟨_,rfl,g,rfl,rfl,by rw[hout],by rw[hout,wr];rfl,rfl,rfl⟩
theorem qaiy (h:Small12 c) :
  ∃y,itB (exec (evL T) itL none qkm) (qu [1,3,4] true 1) ⟨[(1,(.fptr [(.fsl ((c.lps).map lpC) false),(.fsl ((c.progs).map qau) false),(ii c.look),(ii c.fin),(ii c.cap)])),(3,.sl 0 0 0 0 false),(4,(ii 0))],[]⟩ [.row 6 [] 0]=some y ∧
   ∃g:Nat,y.1 = .exit 0∧y.2.1.marks=[]∧y.2.2=[.row 6 ((qg6 c.lps).map Evt.r) g]∧wp y.2.1.vars 3=some (.sl 0 g 0 (qg6 c.lps).length false):=by
 have key:=qcq (f:=exec (evL T) itL none qkm) (s:=qu [1,3,4] true 1) (α:=List Evt×Nat)
  (fun i a=>⟨[(1,(.fptr [(.fsl ((c.lps).map lpC) false),(.fsl ((c.progs).map qau) false),(ii c.look),(ii c.fin),(ii c.cap)])),(3,.sl 0 a.2 0 a.1.length false),(4,(ii i))],[]⟩) (fun i a=>[.row 6 (a.1.map Evt.r) a.2])
  (fun i a=>a.1=qg6 (c.lps.take i)) c.lps.length
  (fun y => ∃g:Nat,y.1 = .exit 0∧y.2.1.marks=[]∧y.2.2=[.row 6 ((qg6 c.lps).map Evt.r) g]∧wp y.2.1.vars 3=some (.sl 0 g 0 (qg6 c.lps).length false)) ?_ ?_ 0 ([],0) (wC _) (by simp[qg6])
 ·exact key
 ·rintro i ⟨out,g⟩ hi hout
  simp only at hout⊢
  obtain⟨x,hx⟩ : ∃x,c.lps[i]? = some x:=⟨_,zgE hi⟩
  have hlps:=h.lps
  have hi':(i:Int)<(c.lps.length:Int):=by omega
  have hw:IntKind.i64.wrap ((i:Int)+1)=((i+1:Nat):Int):=by rw[qi (by omega) (by omega)];simp
  have hl:=h.len i
  obtain⟨⟨y,e,σ⟩,k1,g',k2,k3,k4,k5,k6,k7⟩:=qajg c i x hx out g (h.lp _ (zmg hx)) (by omega) (by rw[hout];omega)
  simp only at k1 k2 k3 k4 k5 k6 k7
  subst k2;subst k4
  refine .inl ⟨(out++qk7 i x,g'),?_,by simp only;rw[q65 hx,hout]⟩
  simp only[zgp]at k5⊢
  simp only[qkm,hi',hw,k1,k3,k5,k6,k7,qh,qax,qv,wg,qb,wk,zgy,↓qc,↓qq,↓wc,wa]
 ·rintro⟨out,g⟩ hout
  rw[wy]at hout
  simp only at hout⊢
  simp only[qkm,wq,wg,qb,zgy,↓qc,↓wc,wa]
  exact⟨_,rfl,g,rfl,rfl,by rw[hout],by rw[hout];rfl⟩
theorem q9n (h:Small12 c) : ∃cf:Bool,qm (evL T) qjf [(.agg [(.fsl ((c.lps).map lpC) false),(.fsl ((c.progs).map qau) false),(ii c.look),(ii c.fin),(ii c.cap)])]=some (.fsl ((sortL (qg6 c.lps)).map Evt.r) cf):=by
 obtain⟨⟨y,e,σ⟩,k1,g,k2,k3,k4,k5⟩:=qaiy c h
 simp only at k1 k2 k3 k4 k5
 subst k2;subst k4
 have hl:=h.len c.lps.length
 rw[wy]at hl
 obtain⟨cf,_,hs⟩:=q1o (qg6 c.lps) false (by omega) (qae4 _) (qaez _)
 refine⟨cf,?_⟩
 have t1:=(qvh (qg6 c.lps) []).1
 rw[qm,qd q56 q4u]
 simp only[qqc,k1,k3,k5,hs,t1,qh,qax,qv,wg,wh,wi,qk,wk,ne_eq,zgy,↓qc,↓qq,↓wc,wa,wm]
end
set_option maxRecDepth 10000
section
variable (D:List Evt) (G:List (List Int)) (cd cg:Bool)
end
theorem q26 (xs:List (List Evt)) (cl:Bool) (hx:xs.length≤1000000) (hT:xs.flatten.length≤1000000):qm (evL T) qhx [(.fsl ((xs).map qf) cl)]=some (ii xs.flatten.length):=by
 have hL : ∃y,itB (exec (evL T) itL none qkq) (qu [0,3,4] true 0) ⟨[(0,(.fsl ((xs).map qf) cl)),(3,(ii 0)),(4,(ii 0))],[]⟩ []=some y ∧
   (y.1 = .exit 0∧y.2.1.marks=[]∧y.2.2=[]∧wp y.2.1.vars 3=some (ii xs.flatten.length)):=by
  have key:=qcq (f:=exec (evL T) itL none qkq) (s:=qu [0,3,4] true 0) (α:=Unit)
   (fun i _=>⟨[(0,(.fsl ((xs).map qf) cl)),(3,(ii ((xs.take i).flatten.length))),(4,(ii i))],[]⟩) (fun _ _=>[])
   (fun _ _=>True) xs.length (fun y=>y.1 = .exit 0∧y.2.1.marks=[]∧y.2.2=[]∧wp y.2.1.vars 3=some (ii xs.flatten.length)) ?_ ?_ 0 () (wC _) trivial
  ·exact key
  ·rintro i _ hi _
   obtain⟨x,hx'⟩ : ∃x,xs[i]? = some x:=⟨_,zgE hi⟩
   have hi':(i:Int)<(xs.length:Int):=by omega
   have hw:IntKind.i64.wrap ((i:Int)+1)=((i+1:Nat):Int):=by rw[qi (by omega) (by omega)];simp
   have h1:=qaf7 xs (i+1)
   rw[qtk hx',wr]at h1
   have h2:IntKind.i64.wrap (((xs.take i).flatten.length:Int)+(x.length:Int))=(((xs.take i).flatten.length+x.length:Nat):Int):=qph (by omega)
   refine .inl ⟨(),?_,trivial⟩
   rw[qtk hx',wr]
   generalize (xs.take i).flatten.length=m at h2 h1⊢
   simp only[qkq,zgs,zgr,zgq,zgt,hx',hi',hw,h2,qf,qan,wg,qb,zgy,↓qc,↓wc,wa,wf]
  ·rintro _ _
   simp only[qkq,wq,wy,wg,zgy,↓qc,↓wc,wa,wf]
   exact⟨_,rfl,rfl,rfl,rfl,rfl⟩
 obtain⟨⟨y,e,σ⟩,k1,k2,k3,k4,k5⟩:=hL
 simp only at k1 k2 k3 k4 k5
 subst k2;subst k4
 rw[qm,qd q54 q5l]
 simp only[qp0,k1,k3,k5,qan,wg,qk,zgy,↓qc,↓qq,↓wc,wa,wf]
theorem q4i (a:List (List Evt)) (ca cb:Bool) (hal:a.length≤1000000) (hs : ∀x∈a,x.length≤1000000) (hk : ∀x∈a,∀e∈x,e.key.length≤9223372036854775807) :
  qm (evL T) qgu [(.fsl ((a).map qf) ca),(.fsl ((a).map qf) cb)]=some (bb true):=by
 have hL : ∃y,itB (exec (evL T) itL none qj8) (qu [0,1,5] true 0) ⟨[(0,(.fsl ((a).map qf) ca)),(1,(.fsl ((a).map qf) cb)),(5,(ii ((0:Nat))))],[]⟩ []=some y∧(y.1 = .exit 0∧y.2.1.marks=[]∧y.2.2=[]):=by
  refine q94 a (fun i=>⟨[(0,(.fsl ((a).map qf) ca)),(1,(.fsl ((a).map qf) cb)),(5,(ii i))],[]⟩) [] _ ?_ ?_
  ·intro i x hi hx
   have hi':(i:Int)<(a.length:Int):=by omega
   have hw:IntKind.i64.wrap ((i:Int)+1)=((i+1:Nat):Int):=by rw[qi (by omega) (by omega)];simp
   have hxl:=hs _ (zmg hx)
   have hxk:=hk _ (zmg hx)
   have he:=qagm x x false false (by omega) (by omega) hxk hxk
   rw[decide_eq_true rfl]at he
   simp only[qj8,zgs,zgr,zgq,zgt,hx,hi',hw,he,qf,qan,qh,wg,qb,zgy,↓qc,↓wc,wa,wf]
  ·simp only[qj8,wq,wg,zgy,↓qc,↓wc,wa,wf]
   exact⟨_,rfl,rfl,rfl,rfl⟩
 obtain⟨⟨y,e,σ⟩,k1,k2,k3,k4⟩:=hL
 simp only[wF]at k1 k2 k3 k4
 subst k2;subst k4
 rw[qm,qd q1g qz5]
 simp only[qm8,k1,k3,qan,wg,qk,ne_eq,zgy,↓qc,↓qq,↓wc,we,wa,wf]
set_option maxRecDepth 10000
section
variable {c:Cfg} {s:Sim} {h:List Evt}
end
set_option maxRecDepth 10000
section
variable {c:Cfg} {s:Sim} {h:List Evt}
def LOk (L:List (Lp×Bool)) (s:Sim):Prop:=L.map Prod.fst=s.lps ∧ ∀x∈L,x.2=true→x.1.procs=[]
end
set_option maxRecDepth 10000
def qab (n:Nat) (l:List Evt):List (List Evt):=(List.range n).map fun i=>sortL (qao l i)
theorem qal3 (l:List Evt) (k:Nat) (e:Evt) (i:Nat) (h:l[k]? = some e):qao (l.take (k+1)) i=if e.lp=i then qao (l.take k) i++[e]else qao (l.take k) i:=by
 rw[List.take_add_one,h];exact qq0 _ _ _
theorem qaey {l:List Evt} (h:qys l) (i:Nat):qys (qao l i):=h.sub List.filter_sublist
section
variable (l:List Evt) (cl:Bool)
theorem qapr (hl:l.length≤1000000) (hk:qb0 l) (hd:qys l) (i n:Nat) (R:List (List AV)) (g:Nat) (hlo:qb4 1 R=true) :
  ∃y,itB (exec (evL T) itL none qj5) (qu [0,1,5,6,7,8] true 1) ⟨[(0,(ii n)),(1,(.fsl ((l).map Evt.r) cl)),(5,.sl 0 g 0 R.length false),(6,(ii i)),(7,.fsl [] true),(8,(ii ((0:Nat))))],[]⟩ [.row 1 R g]=some y ∧
   ∃cf:Bool,y.1 = .exit 2∧y.2.1.marks=[]∧y.2.2=[.row 1 R g]∧wp y.2.1.vars 0=some (ii n)∧wp y.2.1.vars 1=some (.fsl ((l).map Evt.r) cl)∧wp y.2.1.vars 5=some (.sl 0 g 0 R.length false)∧wp y.2.1.vars 6=some (ii i)∧wp y.2.1.vars 7=some (.fsl (((sortL (qao l i))).map Evt.r) cf):=by
 have key:=qcq (f:=exec (evL T) itL none qj5) (s:=qu [0,1,5,6,7,8] true 1) (α:=List Evt×Bool)
  (fun k a=>⟨[(0,(ii n)),(1,(.fsl ((l).map Evt.r) cl)),(5,.sl 0 g 0 R.length false),(6,(ii i)),(7,(.fsl ((a.1).map Evt.r) a.2)),(8,(ii k))],[]⟩) (fun _ _=>[.row 1 R g]) (fun k a=>a.1=sortL (qao (l.take k) i)) l.length
  (fun y => ∃cf:Bool,y.1 = .exit 2∧y.2.1.marks=[]∧y.2.2=[.row 1 R g]∧wp y.2.1.vars 0=some (ii n)∧wp y.2.1.vars 1=some (.fsl ((l).map Evt.r) cl)∧wp y.2.1.vars 5=some (.sl 0 g 0 R.length false)∧wp y.2.1.vars 6=some (ii i)∧wp y.2.1.vars 7=some (.fsl (((sortL (qao l i))).map Evt.r) cf)) ?_ ?_ 0 ([],true) (wC _) (by simp[sortL,qao])
 ·exact key
 ·rintro k ⟨b,c⟩ hk' hb
  simp only at hb⊢
  obtain⟨e,he⟩ : ∃e,l[k]? = some e:=⟨_,zgE hk'⟩
  have hk1:(k:Int)<(l.length:Int):=by omega
  have hw:IntKind.i64.wrap ((k:Int)+1)=((k+1:Nat):Int):=by rw[qi (by omega) (by omega)];simp
  have ho:=qal3 l k e i he
  by_cases hi:e.lp=i
  ·rw[if_pos hi]at ho
   have sl : ∀z∈qao (l.take k) i,z∈l:=fun z hz=>List.mem_of_mem_take (List.mem_filter.1 hz).1
   have hds:qys (qao (l.take (k+1)) i):=qaey (hd.sub (List.take_sublist _ _)) i
   rw[ho]at hds
   have pb:=qc8 (qao (l.take k) i)
   have hd2:qys (e::b):=by rw[hb];exact hds.perm ((pb.cons e).trans (wS e _).symm)
   have hbl:b.length≤1000000:=by
    rw[hb,qz7]
    have:=List.length_filter_le (fun e:Evt=>decide (e.lp=i)) (l.take k)
    have:=List.length_take_le' k l
    unfold qao;omega
   have hI:=qvu b c e hbl (fun z hz=>hk z (sl z (pb.mem_iff.1 (by rw[←hb];exact hz)))) (hk e (zmg he)) (by rw[hb];exact qg5 _) hd2
   have hse:sortL (e::b)=sortL (qao (l.take k) i++[e]):=q5k hds (by rw[hb];exact(pb.cons e).trans (wS e _).symm)
   refine .inl ⟨(sortL (e::b),false),?_,by simp only;rw[ho,hse]⟩
   clear hse hd2 hds ho hb
   obtain⟨et,ek,el,ei,ep,ea⟩:=e
   simp only at hi
   subst hi
   simp only at hI
   generalize sortL (⟨et,ek,(i:Int),ei,ep,ea⟩::b)=B at *
   simp only[qj5,zgs,zgr,zgq,zgt,he,hk1,hw,hI,hlo,Evt.r,qh,qg,wg,qb,wk,zgy,↓qc,↓wc,we,wa,wf]
  ·rw[if_neg hi]at ho
   refine .inl ⟨(b,c),?_,by simp only;rw[ho,hb]⟩
   obtain⟨et,ek,el,ei,ep,ea⟩:=e
   simp only at hi
   simp only[qj5,zgs,zgr,zgq,zgt,he,hk1,hw,hi,hlo,Evt.r,qh,wg,qb,wk,zgy,↓qc,↓wc,we,wa,wf]
 ·rintro⟨b,c⟩ hb
  simp only[wy]at hb⊢
  simp only[qj5,wq,wg,zgy,↓qc,↓wc,wa,wf]
  exact⟨_,rfl,c,rfl,rfl,rfl,rfl,rfl,rfl,rfl,by rw[←hb];rfl⟩
theorem qaoj (n:Nat) (hn:n≤8) (hl:l.length≤1000000) (hk:qb0 l) (hd:qys l):qm (evL T) qmj [(ii n),(.fsl ((l).map Evt.r) cl)]=some (.fsl (((qab n l)).map qf) false):=by
 have hL : ∃y,itB (exec (evL T) itL none qmx) (qu [0,1,5,6] true 1) ⟨[(0,(ii n)),(1,(.fsl ((l).map Evt.r) cl)),(5,.sl 0 0 0 0 false),(6,(ii ((0:Nat))))],[]⟩ [.row 1 [] 0]=some y ∧
   ∃g:Nat,y.1 = .exit 0∧y.2.1.marks=[]∧y.2.2=[.row 1 ((qab n l).map qf) g]∧wp y.2.1.vars 5=some (.sl 0 g 0 n false):=by
  have key:=qcq (f:=exec (evL T) itL none qmx) (s:=qu [0,1,5,6] true 1) (α:=Nat)
   (fun i a=>⟨[(0,(ii n)),(1,(.fsl ((l).map Evt.r) cl)),(5,.sl 0 a 0 i false),(6,(ii i))],[]⟩) (fun i a=>[.row 1 ((qab i l).map qf) a]) (fun i a=>True) n
   (fun y => ∃g:Nat,y.1 = .exit 0∧y.2.1.marks=[]∧y.2.2=[.row 1 ((qab n l).map qf) g]∧wp y.2.1.vars 5=some (.sl 0 g 0 n false)) ?_ ?_ 0 0 (wC _) trivial
  ·exact key
  ·rintro i g hi _
   have hbl:((qab i l).map qf).length=i:=by simp[qab]
   obtain⟨⟨y,e,σ⟩,k1,cf,k2,k3,k4,k5,k6,k7,k8,k9⟩:=qapr l cl hl hk hd i n ((qab i l).map qf) g (qan _ _)
   simp only[wF,hbl]at k1 k2 k3 k4 k5 k6 k7 k8 k9
   subst k2;subst k4
   have hi':(i:Int)<(n:Int):=by omega
   have hi8:(i:Int)<8:=by omega
   have hw:IntKind.i64.wrap ((i:Int)+1)=((i+1:Nat):Int):=by rw[qi (by omega) (by omega)];simp
   have hnx:(qab (i+1) l).map qf=(qab i l).map qf++[[(.fsl (((sortL (qao l i))).map Evt.r) false)]]:=by unfold qab;rw[List.range_succ];simp[qf]
   have lo:=qan 1 (qab (i+1) l)
   have lo0:=qan 1 (qab i l)
   rw[hnx]at lo
   have tk:wB i ((qab i l).map qf)=(qab i l).map qf:=ztl (by omega)
   have bd:(i+1)*24≤140737488355328:=by omega
   have hle:i≤i:=wD _
   refine .inl ⟨g+1,?_,trivial⟩
   rw[hnx]
   generalize (qab i l).map qf=R at *
   simp only[qmx,hi',hi8,hw,k1,k3,k5,k6,k7,k8,k9,lo,lo0,tk,bd,hbl,hle,qh,wg,qqk,qaw,wh,wv,wi,wk,ne_eq,zgy,↓qc,↓qq,↓wc,wa,wx,wj,ww,wf]
  ·rintro g _
   simp only[qmx,wq,wg,zgy,↓qc,↓wc,wa,wf]
   exact⟨_,rfl,g,rfl,rfl,rfl,rfl⟩
 obtain⟨⟨y,e,σ⟩,k1,g,k2,k3,k4,k5⟩:=hL
 simp only[wF]at k1 k2 k3 k4 k5
 subst k2;subst k4
 have hbl:(qab n l).length=n:=by simp[qab]
 have tk:wB n ((qab n l).map qf)=(qab n l).map qf:=ztl (by simp[hbl])
 have hle:n≤n:=wD _
 rw[qm,qd qab8 q81]
 simp only[qsj,k1,k3,k5,tk,hbl,hle,qh,qan,zgi,wg,qk,wk,zgy,↓qc,↓qq,↓wc,we,wa,wm,wf]
end
theorem Quick_ev (c:Cfg) : ∃b:Bool,qm (evL T) ql7 [(.agg [(.fsl ((c.lps).map lpC) false),(.fsl ((c.progs).map qau) false),(ii c.look),(ii c.fin),(ii c.cap)])]=some (bb b)∧(b=true→okB c=true∧c.look≤8∧c.lps.length≤4):=by
 have hg:=q1z c
 have hr:=q1w c
 rw[qm,qd qacn q8i]
 by_cases h1:qyn c=true
 ·rw[h1]at hg
  exact⟨false,by simp only[qit,hg,qax,qv,wg,qb,wh,wi,qk,ne_eq,zgy,↓qc,↓wc,we,wa],fun h=>by cases h⟩
 simp only[Bool.not_eq_true]at h1
 rw[h1]at hg
 by_cases h2:q9e c=0
 case neg=>exact⟨false,by simp only[qit,hg,hr,h2,qax,qv,wg,qb,wh,wi,qk,ne_eq,zgy,↓qc,↓wc,we,wa],fun h=>by cases h⟩
 rw[h2]at hr
 by_cases h3:c.look>8
 ·exact⟨false,by simp only[qit,hg,hr,h3,qax,qv,wg,qb,wh,wi,qk,ne_eq,zgy,↓qc,↓wc,we,wa],fun h=>by cases h⟩
 by_cases h4:(c.lps.length:Int)>4
 ·exact⟨false,by simp only[qit,hg,hr,h3,h4,qax,qv,wg,qb,wh,wi,qk,ne_eq,zgy,↓qc,↓wc,we,wa],fun h=>by cases h⟩
 have hok:okB c=true∧c.look≤8∧c.lps.length≤4:=⟨by unfold okB;rw[h1,h2];rfl,by omega,by omega⟩
 obtain⟨s1,s2,s3,s4⟩:=q3j c h1
 have hL1 : ∃y,itB (exec (evL T) itL none qmv) (qu [1,3,4,5] true 0) ⟨[(1,(.fptr [(.fsl ((c.lps).map lpC) false),(.fsl ((c.progs).map qau) false),(ii c.look),(ii c.fin),(ii c.cap)])),(3,(ii 0)),(4,(ii 0)),(5,(ii ((0:Nat))))],[]⟩ []=some y ∧ ∃a:Int,y.1 = .exit 0∧y.2.1.marks=[]∧y.2.2=[]∧wp y.2.1.vars 1=some (.fptr [(.fsl ((c.lps).map lpC) false),(.fsl ((c.progs).map qau) false),(ii c.look),(ii c.fin),(ii c.cap)])∧wp y.2.1.vars 3=some (ii a)∧wp y.2.1.vars 4=some (ii 0):=by
  have key:=qcq (f:=exec (evL T) itL none qmv) (s:=qu [1,3,4,5] true 0) (α:=Int) (fun i a=>⟨[(1,(.fptr [(.fsl ((c.lps).map lpC) false),(.fsl ((c.progs).map qau) false),(ii c.look),(ii c.fin),(ii c.cap)])),(3,(ii a)),(4,(ii 0)),(5,(ii i))],[]⟩) (fun _ _=>[]) (fun _ _=>True) c.lps.length
   (fun y => ∃a:Int,y.1 = .exit 0∧y.2.1.marks=[]∧y.2.2=[]∧wp y.2.1.vars 1=some (.fptr [(.fsl ((c.lps).map lpC) false),(.fsl ((c.progs).map qau) false),(ii c.look),(ii c.fin),(ii c.cap)])∧wp y.2.1.vars 3=some (ii a)∧wp y.2.1.vars 4=some (ii 0)) ?_ ?_ 0 0 (wC _) trivial
  ·exact key
  ·rintro i a hi _
   obtain⟨x,hx⟩ : ∃x,c.lps[i]? = some x:=⟨_,zgE hi⟩
   have hi':(i:Int)<(c.lps.length:Int):=by omega
   have hw:IntKind.i64.wrap ((i:Int)+1)=((i+1:Nat):Int):=by rw[qi (by omega) (by omega)];simp
   refine .inl ⟨IntKind.i64.wrap (a+(x.length:Int)),?_,trivial⟩
   simp only[qmv,zgs,zgr,zgq,zgt,hx,hi',hw,lpC,qax,qv,wg,qb,zgy,↓qc,↓wc,wa]
  ·rintro a _
   simp only[qmv,wq,wg,qb,zgy,↓qc,↓wc,wa]
   exact⟨_,rfl,a,rfl,rfl,rfl,rfl,rfl,rfl⟩
 have hL3 : ∀(i:Nat) (p:List OpI) (a b:Int),c.progs[i]? = some p → ∃y,itB (exec (evL T) itL none qj1) (qu [1,3,4,6,7] true 0) ⟨[(1,(.fptr [(.fsl ((c.lps).map lpC) false),(.fsl ((c.progs).map qau) false),(ii c.look),(ii c.fin),(ii c.cap)])),(3,(ii a)),(4,(ii b)),(6,(ii i)),(7,(ii ((0:Nat))))],[]⟩ []=some y ∧ ∃b:Int,y.1 = .exit 4∧y.2.1.marks=[]∧y.2.2=[]∧wp y.2.1.vars 1=some (.fptr [(.fsl ((c.lps).map lpC) false),(.fsl ((c.progs).map qau) false),(ii c.look),(ii c.fin),(ii c.cap)])∧wp y.2.1.vars 3=some (ii a)∧wp y.2.1.vars 4=some (ii b)∧wp y.2.1.vars 6=some (ii i):=by
  intro i p a b hp
  have key:=qcq (f:=exec (evL T) itL none qj1) (s:=qu [1,3,4,6,7] true 0) (α:=Int) (fun k b=>⟨[(1,(.fptr [(.fsl ((c.lps).map lpC) false),(.fsl ((c.progs).map qau) false),(ii c.look),(ii c.fin),(ii c.cap)])),(3,(ii a)),(4,(ii b)),(6,(ii i)),(7,(ii k))],[]⟩) (fun _ _=>[]) (fun _ _=>True) p.length
   (fun y => ∃b:Int,y.1 = .exit 4∧y.2.1.marks=[]∧y.2.2=[]∧wp y.2.1.vars 1=some (.fptr [(.fsl ((c.lps).map lpC) false),(.fsl ((c.progs).map qau) false),(ii c.look),(ii c.fin),(ii c.cap)])∧wp y.2.1.vars 3=some (ii a)∧wp y.2.1.vars 4=some (ii b)∧wp y.2.1.vars 6=some (ii i)) ?_ ?_ 0 b (wC _) trivial
  ·exact key
  ·rintro k b hk _
   obtain⟨x,hx⟩ : ∃x,p[k]? = some x:=⟨_,zgE hk⟩
   have:=s4 p (zmg hp)
   have hk':(k:Int)<(p.length:Int):=by omega
   have hw:IntKind.i64.wrap ((k:Int)+1)=((k+1:Nat):Int):=by rw[qi (by omega) (by omega)];simp
   obtain⟨xc,xa,xb,xd⟩:=x
   by_cases h:xc=2
   ·exact .inl ⟨IntKind.i64.wrap (b+1),by simp only[qj1,zgs,zgr,zgq,zgt,hp,hx,hk',hw,h,qau,OpI.r,qax,qv,wg,qb,zgy,↓qc,↓wc,we,wa],trivial⟩
   ·exact .inl ⟨b,by simp only[qj1,zgs,zgr,zgq,zgt,hp,hx,hk',hw,h,qau,OpI.r,qax,qv,wg,qb,zgy,↓qc,↓wc,we,wa],trivial⟩
  ·rintro b _
   simp only[qj1,zgs,zgr,zgq,zgt,hp,wq,qau,wg,qb,zgy,↓qc,↓wc,wa]
   exact⟨_,rfl,b,rfl,rfl,rfl,rfl,rfl,rfl,rfl⟩
 have hL2 : ∀a:Int,∃y,itB (exec (evL T) itL none qm3) (qu [1,3,4,6] true 0) ⟨[(1,(.fptr [(.fsl ((c.lps).map lpC) false),(.fsl ((c.progs).map qau) false),(ii c.look),(ii c.fin),(ii c.cap)])),(3,(ii a)),(4,(ii 0)),(6,(ii ((0:Nat))))],[]⟩ []=some y ∧ ∃b:Int,y.1 = .exit 2∧y.2.1.marks=[]∧y.2.2=[]∧wp y.2.1.vars 3=some (ii a)∧wp y.2.1.vars 4=some (ii b):=by
  intro a
  have key:=qcq (f:=exec (evL T) itL none qm3) (s:=qu [1,3,4,6] true 0) (α:=Int) (fun i b=>⟨[(1,(.fptr [(.fsl ((c.lps).map lpC) false),(.fsl ((c.progs).map qau) false),(ii c.look),(ii c.fin),(ii c.cap)])),(3,(ii a)),(4,(ii b)),(6,(ii i))],[]⟩) (fun _ _=>[]) (fun _ _=>True) c.progs.length
   (fun y => ∃b:Int,y.1 = .exit 2∧y.2.1.marks=[]∧y.2.2=[]∧wp y.2.1.vars 3=some (ii a)∧wp y.2.1.vars 4=some (ii b)) ?_ ?_ 0 0 (wC _) trivial
  ·exact key
  ·rintro i b hi _
   obtain⟨x,hx⟩ : ∃x,c.progs[i]? = some x:=⟨_,zgE hi⟩
   have hi':(i:Int)<(c.progs.length:Int):=by omega
   have hw:IntKind.i64.wrap ((i:Int)+1)=((i+1:Nat):Int):=by rw[qi (by omega) (by omega)];simp
   obtain⟨⟨y,e,σ⟩,k1,b',k2,k3,k4,k5,k6,k7,k8⟩:=hL3 i x a b hx
   simp only[wF]at k1 k2 k3 k4 k5 k6 k7 k8
   subst k2;subst k4
   refine .inl ⟨b',?_,trivial⟩
   simp only[qm3,hi',hw,k1,k3,k5,k6,k7,k8,qax,qv,wg,qb,zgy,↓qc,↓qq,↓wc,wa]
  ·rintro b _
   simp only[qm3,wq,wg,qb,zgy,↓qc,↓wc,wa]
   exact⟨_,rfl,b,rfl,rfl,rfl,rfl,rfl⟩
 obtain⟨⟨y,e,σ⟩,k1,a,k2,k3,k4,k5,k6,k7⟩:=hL1
 obtain⟨⟨y',e',σ'⟩,m1,b,m2,m3,m4,m5,m6⟩:=hL2 a
 simp only[wF]at k1 k2 k3 k4 k5 k6 k7 m1 m2 m3 m4 m5 m6
 subst k2;subst k4;subst m2;subst m4
 by_cases h5:a≤6
 ·exact⟨decide (b≤6),by simp only[qit,hg,hr,h3,h4,h5,k1,k3,k5,k6,k7,m1,m3,m5,m6,qax,qv,wg,qb,wh,wi,qk,ne_eq,zgy,↓qc,↓qq,↓wc,we,wa],fun _=>hok⟩
 ·exact⟨false,by simp only[qit,hg,hr,h3,h4,h5,k1,k3,k5,k6,k7,m1,m3,m5,qax,qv,wg,qb,wh,wi,qk,ne_eq,zgy,↓qc,↓qq,↓wc,we,wa],fun _=>hok⟩
end Go.Proofs.YtpgdfkciinankaaGreat.K
