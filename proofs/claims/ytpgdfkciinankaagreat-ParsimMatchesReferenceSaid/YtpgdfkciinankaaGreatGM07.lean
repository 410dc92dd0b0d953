/- For every input the statement of this claim returns true: texts of its proof, joined (part 8). -/
import Derived.Test.YtpgdfkciinankaaGreatGM04
import Derived.Test.YtpgdfkciinankaaGreatGM06
set_option linter.unusedSectionVars false
set_option linter.unusedSimpArgs false
set_option linter.unusedVariables false
open Nat renaming reduceEqDiff → wa, reduceLeDiff → wb, reduceAdd → wc, reduceLT → we, reduceMul → wk, reducePow → wm, sub_zero → wA
open _root_ renaming reduceCtorEq → wd, reduceIte → wf
open Go.Ev.AV renaming cells → wg, plain → wh, uc → wl
open Go.Ev renaming ev1 → wi, stP → wo, look → wt
open List renaming getElem?_set_self → wj, take → wp, map_nil → wq, map_append → wr, getElem?_zip_eq_some → wu, map_set → wx, map_cons → wB, length_set → wC, set_set → wD
open Go.Ev.SObj renaming lo → wn
open Int renaming reduceToNat → ws, reduceLE → wv, reduceEq → ww, lt_irrefl → wz
open Bool renaming and_eq_true → wy
namespace Go.Proofs.YtpgdfkciinankaaGreat.K
open Go.Ev
set_option maxRecDepth 10000
theorem qwk (x y:Evt) (hx:x.key.length≤9223372036854775807) (hy:y.key.length≤9223372036854775807) :
  (evL T).call qe [(.agg [(ii x.time),(.fsl ((x.key).map qy) false),(ii x.lp),(ii x.kind),(ii x.proc),(ii x.arg)]),(.agg [(ii y.time),(.fsl ((y.key).map qy) false),(ii y.lp),(ii y.kind),(ii y.proc),(ii y.arg)])] []=some ((ii (qxm x y)),[]):=by
 obtain⟨xt,xk,xl,xi,xp,xa⟩:=x
 obtain⟨yt,yk,yl,yi,yp,ya⟩:=y
 have hc:=qoo xt yt
 have hk:=qoh xk yk false false hx hy
 have hf:=qvx (qwh xt yt) (qpg xk yk) true
 simp only[wB,wq,qy]at hf
 rw[qd ql2 qln]
 simp only[qga,show ∀v:List AV,List.replicate 2 v=[v,v] from fun _=>rfl,hc,hk,hf,qxm,qg,wi,qb,wg,wl,wh,qk,ne_eq,zgy,↓qc,↓wf,wc,wa,wk,we,wb,wm,wd]
section
variable (l:List Evt) (c:Bool) (x:Evt)
def At (l:List Evt) (x:Evt) (k:Nat):Prop:=k≤l.length∧(∀u,0<k→l[k-1]? = some u→qxm u x<0)∧(∀v,l[k]? = some v→0≤qxm v x)
theorem bs_L (hl:l.length≤1000000) (hk:qb0 l) (kx:x.key.length≤9223372036854775807) :
  ∃y,itB (exec (evL T) itL none qw) (qu [0,2,4,8,9,10] true 0) ⟨[(0,(.fsl ((l).map Evt.r) c)),(2,(.fn (.func qe) [] [])),(4,(.fptr [(ii x.time),(.fsl ((x.key).map qy) false),(ii x.lp),(ii x.kind),(ii x.proc),(ii x.arg)])),(8,(ii l.length)),(9,(ii 0)),(10,(ii l.length))],[]⟩ []=some y ∧
   ∃k:Nat,y.1 = .exit 0∧y.2.1.marks=[]∧y.2.2=[]∧wt y.2.1.vars 0=some (.fsl ((l).map Evt.r) c)∧wt y.2.1.vars 2=some (.fn (.func qe) [] [])∧wt y.2.1.vars 4=some (.fptr [(ii x.time),(.fsl ((x.key).map qy) false),(ii x.lp),(ii x.kind),(ii x.proc),(ii x.arg)])∧wt y.2.1.vars 8=some (ii l.length)∧wt y.2.1.vars 9=some (ii k)∧At l x k:=by
 have key:=qjo (f:=exec (evL T) itL none qw) (s:=qu [0,2,4,8,9,10] true 0) (τ:=Nat×Nat) (fun a=>⟨[(0,(.fsl ((l).map Evt.r) c)),(2,(.fn (.func qe) [] [])),(4,(.fptr [(ii x.time),(.fsl ((x.key).map qy) false),(ii x.lp),(ii x.kind),(ii x.proc),(ii x.arg)])),(8,(ii l.length)),(9,(ii a.1)),(10,(ii a.2))],[]⟩) (fun _=>[]) (fun a=>a.2-a.1)
  (fun a=>a.1≤a.2∧a.2≤l.length∧(∀u,0<a.1→l[a.1-1]? = some u→qxm u x<0)∧(∀v,l[a.2]? = some v→0≤qxm v x))
  (fun y => ∃k:Nat,y.1 = .exit 0∧y.2.1.marks=[]∧y.2.2=[]∧wt y.2.1.vars 0=some (.fsl ((l).map Evt.r) c)∧wt y.2.1.vars 2=some (.fn (.func qe) [] [])∧wt y.2.1.vars 4=some (.fptr [(ii x.time),(.fsl ((x.key).map qy) false),(ii x.lp),(ii x.kind),(ii x.proc),(ii x.arg)])∧wt y.2.1.vars 8=some (ii l.length)∧wt y.2.1.vars 9=some (ii k)∧At l x k)
  ?_ (0,l.length) ⟨Nat.zero_le _,Nat.le_refl _,fun u h=>by simp only at h;omega,fun v hv=>by simp at hv⟩
 ·exact key
 rintro⟨i,j⟩ ⟨h1,h2,h3,h4⟩
 simp only at h1 h2 h3 h4⊢
 by_cases hij:i<j
 case neg=>
  have c1:¬(i:Int)<(j:Int):=by omega
  right
  simp only[qw,c1,wi,zgy,↓qc,↓wf,wa,wd]
  obtain rfl:i=j:=by omega
  exact⟨_,rfl,i,rfl,rfl,rfl,rfl,rfl,rfl,rfl,rfl,by omega,h3,h4⟩
 obtain⟨h,hh⟩ : ∃h,h=(i+j) / 2:=⟨_,rfl⟩
 have c1:(i:Int)<(j:Int):=by omega
 obtain⟨y,hy⟩ : ∃y,l[h]? = some y:=⟨_,zgE (by omega)⟩
 have w1:IntKind.i64.wrap ((i:Int)+(j:Int))=((i+j:Nat):Int):=qph (by omega)
 have w2:IntKind.u64.wrap ((i+j:Nat):Int)=((i+j:Nat):Int):=qzw (by omega)
 have w3:=q49 (i+j) h hh
 have w4:IntKind.i64.wrap (h:Int)=(h:Int):=qzl (by omega)
 have w5:IntKind.i64.wrap ((h:Int)+1)=((h+1:Nat):Int):=qqh (by omega)
 have ky:y.key.length≤9223372036854775807:=hk y (zmg hy)
 have hc:=qwk y x ky kx
 left
 by_cases hlt:qxm y x<0
 ·refine⟨(h+1,j),?_,⟨by simp only;omega,h2,fun u _ hu => ?_,h4⟩,by simp only;omega⟩
  ·clear h3 h4
   obtain⟨xt,xk,xl,xi,xp,xa⟩:=x
   obtain⟨yt,yk,yl,yi,yp,ya⟩:=y
   simp only at hc
   simp only[qw,zgs,zgr,zgq,zgt,hy,c1,w1,w2,w3,w4,w5,hc,hlt,Evt.r,qh,qg,wi,qb,zgy,↓qc,↓wf,wc,wa,wd]
  ·simp only[Nat.add_sub_cancel]at hu
   rw[hy]at hu;cases hu;exact hlt
 ·refine⟨(i,h),?_,⟨by simp only;omega,by simp only;omega,h3,fun v hv=>by simp only at hv;rw[hy]at hv;cases hv;omega⟩,by simp only;omega⟩
  clear h3 h4
  obtain⟨xt,xk,xl,xi,xp,xa⟩:=x
  obtain⟨yt,yk,yl,yi,yp,ya⟩:=y
  simp only at hc
  simp only[qw,zgs,zgr,zgq,zgt,hy,c1,w1,w2,w3,w4,hc,hlt,Evt.r,qh,qg,wi,qb,zgy,↓qc,↓wf,wc,wa,wd]
theorem bs_ev (hl:l.length≤1000000) (hk:qb0 l) (kx:x.key.length≤9223372036854775807) : ∃(k:Nat) (b:Bool),At l x k ∧
  qm (evL T) qs [(.fsl ((l).map Evt.r) c),(.agg [(ii x.time),(.fsl ((x.key).map qy) false),(ii x.lp),(ii x.kind),(ii x.proc),(ii x.arg)]),(.fn (.func qe) [] [])]=some (.tup [(ii k),(bb b)]):=by
 obtain⟨⟨y,e,σ⟩,h1,k,h2,h3,h4,h5,h6,h7,h8,h9,hA⟩:=bs_L l c x hl hk kx
 simp only at h2 h3 h4 h5 h6 h7 h8 h9
 subst h2;subst h4
 refine⟨k,match l[k]? with|some v=>decide (qxm v x=0)|none=>false,hA,?_⟩
 rw[qm,qd qft qfq]
 by_cases hkn:k<l.length
 ·obtain⟨v,hv⟩ : ∃v,l[k]? = some v:=⟨_,zgE hkn⟩
  have c1:(k:Int)<(l.length:Int):=by omega
  have hc:=qwk v x (hk v (zmg hv)) kx
  clear hA
  obtain⟨xt,xk,xl,xi,xp,xa⟩:=x
  obtain⟨yt,yk,yl,yi,yp,ya⟩:=v
  simp only at hc h1 h7
  simp only[qae,zgs,zgr,zgq,zgt,h1,h3,h5,h6,h7,h8,h9,hv,c1,hc,Evt.r,qh,qg,wi,qb,wg,wh,qk,ne_eq,zgy,↓qc,↓qq,↓wf,wc,wa,wd]
 ·have c1:¬(k:Int)<(l.length:Int):=by omega
  have hv:l[k]? = none:=List.getElem?_eq_none (by omega)
  clear hA
  obtain⟨xt,xk,xl,xi,xp,xa⟩:=x
  simp only at h1 h7
  simp only[qae,h1,h3,h8,h9,hv,c1,qh,qg,wi,wg,wh,qk,ne_eq,zgy,↓qc,↓qq,↓wf,wc,wa,wd]
theorem q6b (hl:l.length≤1000000) (hk:qb0 l) (kx:x.key.length≤9223372036854775807) : ∃k:Nat,At l x k ∧
  qm (evL T) qg2 [(.fsl ((l).map Evt.r) c),(.agg [(ii x.time),(.fsl ((x.key).map qy) false),(ii x.lp),(ii x.kind),(ii x.proc),(ii x.arg)])]=some (.fsl ((l.take k++x::l.drop k).map Evt.r) false):=by
 obtain⟨k,b,hA,hb⟩:=bs_ev l c x hl hk kx
 refine⟨k,hA,?_⟩
 have hcl:=qxq l c hl
 have hkl:k≤l.length:=hA.1
 have ok1:=qgi [x]
 have ok2:=qgi l
 have hb2:(l.length+1)*64≤2^47:=by omega
 have hins:(evL T).call qa2 [.sl 0 0 0 l.length false,(ii k),.fsl [x.r] true] [.row 6 (l.map Evt.r) 0]=some (.sl 0 2 0 (l.length+1) false,[.row 6 ((l.take k++x::l.drop k).map Evt.r) 2]):=by
  rw[evL_ins qlh qlu]
  simp only[insF,zgd,zgr]
  rw[if_pos ⟨trivial,trivial,trivial,by omega,by omega,by simp,by omega,hkl,ok1,by rw[ztl (by simp)];exact ok2,hb2⟩]
  rw[wr,wB,List.map_take,List.map_drop,ztl (l:=l.map Evt.r) (i:=l.length) (by simp)]
  rfl
 have htk:((l.take k++x::l.drop k).map Evt.r).take (l.length+1)=(l.take k++x::l.drop k).map Evt.r:=ztl (by simp;omega)
 have hlen:l.length+1≤(l.take k++x::l.drop k).length:=by simp;omega
 rw[qm,qd q4g q2w]
 clear hA
 generalize l.take k++x::l.drop k=R at *
 obtain⟨xt,xk,xl,xi,xp,xa⟩:=x
 simp only[Evt.r]at hins
 simp only at hb
 simp only[qo1,hb,hcl,hins,htk,hlen,qh,qg,wi,q3y,qb,wg,wh,qk,ne_eq,zgy,↓qc,↓wf,wc,wa,wk,we,wb,wm,wd]
end
set_option maxRecDepth 10000
theorem qn5 (n:Nat) : ∀(a b:List (List AV)),qb4 n (a++b)=(qb4 n a&&qb4 n b)
 | [],b=>by simp[qaf3]
 |x::a,b=>by rw[List.cons_append,qqb,qqb,qn5 n a b,Bool.and_assoc]
theorem qae7 (l:List Int) (c:Bool) (h:l.length≤100000):(evL T).call qgx [(.fsl ((l).map qy) c)] []=some (.sl 0 0 0 l.length false,[.row 1 (l.map qy) 0]):=by
 have h':l.length*8≤140737488355328:=by omega
 rw[q6q qv6]
 simp only[qu0,qg,qaar,h',wi,zgy,↓wf,wm]
theorem q2c (l:List Int) (c:Bool) (n:Int) (h:l.length≤100000):qm (evL T) qkp [(.fsl ((l).map qy) c),(ii n)]=some (.fsl ((l++[n]).map qy) false):=by
 have h':(l.length+1)*8≤140737488355328:=by omega
 have htl:wp l.length (l.map qy)=l.map qy:=ztl (by simp)
 have htk : ∀e:List AV,wp (l.length+1) (l.map qy++[e])=l.map qy++[e]:=fun e=>ztl (by simp)
 have hr:(l++[n]).map qy=l.map qy++[[(ii n)]]:=by rw[wr];rfl
 rw[qm,qd qaa4 q88]
 rw[hr]
 simp only[qsk,qae7 l c h,h',htl,htk,qn5,qg,wi,q3y,qqk,qaw,wg,wl,wh,qk,ne_eq,zgy,↓qc,↓wf,wc,wa,wk,we,wb,wm,wd]
set_option maxRecDepth 10000
def Fits (l:List Evt) (x:Evt) (k:Nat):Prop:=k≤l.length∧(∀u,0<k→l[k-1]? = some u→leE u x)∧(∀v,l[k]? = some v→leE x v)
theorem At.fits {l:List Evt} {x:Evt} {k:Nat} (h:At l x k):Fits l x k:=
 ⟨h.1,fun u h0 hu=>qabi u x (h.2.1 u h0 hu),fun v hv=>by have:=h.2.2 v hv;have:=qu6 v x;unfold leE;omega⟩
theorem Fits.perm {l:List Evt} {x:Evt} {k:Nat}:(l.take k++x::l.drop k).Perm (x::l):=by
 have:=List.perm_middle (a:=x) (l₁:=l.take k) (l₂:=l.drop k)
 rwa[List.take_append_drop]at this
theorem Fits.sorted {l:List Evt} {x:Evt} {k:Nat} (h:Fits l x k) (hs:l.Pairwise leE):(l.take k++x::l.drop k).Pairwise leE:=by
 obtain⟨h1,h2,h3⟩:=h
 have hlen:(l.take k).length=k:=by rw[List.length_take];omega
 refine qrt qqi (by rwa[List.take_append_drop]) (fun u hu => ?_) (fun v hv => ?_)
 ·rw[hlen]at hu
  rw[List.getElem?_take]at hu
  split at hu
  ·exact h2 u (by omega) hu
  ·cases hu
 ·rw[List.getElem?_drop]at hv
  exact h3 v hv
theorem Fits.eq {l:List Evt} {x:Evt} {k:Nat} (h:Fits l x k) (hs:l.Pairwise leE) (hd:qys (x::l)):l.take k++x::l.drop k=sortL (x::l):=
 qpp hd Fits.perm (h.sorted hs)
section
variable (l:List Evt) (c:Bool) (x:Evt)
theorem q9d (hl:l.length≤1000000) (hk:qb0 l) (kx:x.key.length≤9223372036854775807) (hs:l.Pairwise leE) (hd:qys (x::l)):qm (evL T) qg2 [(.fsl ((l).map Evt.r) c),(.agg [(ii x.time),(.fsl ((x.key).map qy) false),(ii x.lp),(ii x.kind),(ii x.proc),(ii x.arg)])]=some (.fsl ((sortL (x::l)).map Evt.r) false):=by
 obtain⟨k,hA,h⟩:=q6b l c x hl hk kx
 rw[hA.fits.eq hs hd]at h
 exact h
theorem refIns_L (hl:l.length≤1000000) (hk:qb0 l) (hkx:x.key.length≤9223372036854775807) :
  ∃y,itB (exec (evL T) itL none qlq) (qu [0,3,5] true 0) ⟨[(0,(.fsl ((l).map Evt.r) c)),(3,(.fptr [(ii x.time),(.fsl ((x.key).map qy) false),(ii x.lp),(ii x.kind),(ii x.proc),(ii x.arg)])),(5,(ii l.length))],[]⟩ []=some y ∧
   ∃k:Nat,y.1 = .exit 0∧y.2.1.marks=[]∧y.2.2=[]∧wt y.2.1.vars 0=some (.fsl ((l).map Evt.r) c)∧wt y.2.1.vars 3=some (.fptr [(ii x.time),(.fsl ((x.key).map qy) false),(ii x.lp),(ii x.kind),(ii x.proc),(ii x.arg)])∧wt y.2.1.vars 5=some (ii k)∧Fits l x k:=by
 refine qjo (τ:=Nat) (fun k=>⟨[(0,(.fsl ((l).map Evt.r) c)),(3,(.fptr [(ii x.time),(.fsl ((x.key).map qy) false),(ii x.lp),(ii x.kind),(ii x.proc),(ii x.arg)])),(5,(ii k))],[]⟩) (fun _=>[]) (fun k=>k)
  (fun k=>k≤l.length∧(∀v,l[k]? = some v→leE x v)) _ ?_ l.length ⟨Nat.le_refl _,fun v hv=>by simp at hv⟩
 rintro k ⟨h1,h2⟩
 cases k with
 |zero=>
  right
  simp only[qlq,wz,gt_iff_lt,wi,zgy,↓qc,↓wf,wa,wd]
  exact⟨_,rfl,0,rfl,rfl,rfl,rfl,rfl,rfl,Nat.zero_le _,fun u h=>by omega,h2⟩
 |succ j=>
  obtain⟨y,hy⟩ : ∃y,l[j]? = some y:=⟨_,zgE (by omega)⟩
  obtain⟨k,hk1⟩ : ∃k,k=j+1:=⟨_,rfl⟩
  rw[←hk1]at h1 h2⊢
  have c1:(k:Int)>0:=by omega
  have w1:IntKind.i64.wrap ((k:Int)-1)=(j:Int):=q09 hk1 (by omega)
  have hc:=qqt y x (hk y (zmg hy)) hkx
  by_cases hlt:qxm y x>0
  ·left
   refine⟨j,?_,⟨by omega,fun v hv=>by rw[hy]at hv;cases hv;exact(by have:=qu6 y x;unfold leE;omega)⟩,by omega⟩
   clear h2
   obtain⟨xt,xk,xl,xi,xp,xa⟩:=x
   obtain⟨yt,yk,yl,yi,yp,ya⟩:=y
   simp only at hc
   simp only[qlq,zgs,zgr,zgq,zgt,hy,c1,w1,hc,hlt,Evt.r,qh,qg,wi,qb,zgy,↓qc,↓wf,wc,wa,wd]
  ·right
   have hle:leE y x:=by unfold leE;omega
   have h3 : ∀u,0<k→l[k-1]? = some u→leE u x:=fun u _ hu=>by
    rw[hk1,Nat.add_sub_cancel,hy]at hu;cases hu;exact hle
   have hF:Fits l x k:=⟨h1,h3,h2⟩
   clear hle h3 h2
   obtain⟨xt,xk,xl,xi,xp,xa⟩:=x
   obtain⟨yt,yk,yl,yi,yp,ya⟩:=y
   simp only at hc
   simp only[qlq,zgs,zgr,zgq,zgt,hy,c1,w1,hc,hlt,Evt.r,qg,wi,qb,zgy,↓qc,↓wf,wc,wa,wd]
   exact⟨_,rfl,k,rfl,rfl,rfl,rfl,rfl,rfl,hF⟩
theorem qaci (hl:l.length≤1000000) (hk:qb0 l) (hkx:x.key.length≤9223372036854775807) : ∃k:Nat,Fits l x k∧qm (evL T) qgk [(.fsl ((l).map Evt.r) c),(.agg [(ii x.time),(.fsl ((x.key).map qy) false),(ii x.lp),(ii x.kind),(ii x.proc),(ii x.arg)])]=some (.fsl ((l.take k++x::l.drop k).map Evt.r) false):=by
 obtain⟨⟨y,e,σ⟩,k1,k,k2,k3,k4,k5,k6,k7,hF⟩:=refIns_L l c x hl hk hkx
 simp only at k1 k2 k3 k4 k5 k6 k7
 subst k2;subst k4
 refine⟨k,hF,?_⟩
 have hkl:=hF.1
 clear hF
 obtain⟨A,B,rfl,hA⟩ : ∃A B,l=A++B∧A.length=k:=⟨l.take k,l.drop k,(List.take_append_drop _ _).symm,by simp;omega⟩
 subst hA
 rw[List.take_left' rfl,List.drop_left' rfl]
 have c1:(A.length:Int)≤((A++B).length:Int):=by rw[List.length_append];omega
 have c2:(0:Int)≤(A.length:Int):=by omega
 have tk:wp A.length ((A++B).map Evt.r)=A.map Evt.r:=by rw[wr];exact List.take_left' (by simp)
 have dr:List.drop A.length ((A++B).map Evt.r)=B.map Evt.r:=by rw[wr];exact List.drop_left' (by simp)
 have hlen:A.length+B.length≤1000000:=by rw[List.length_append]at hl;exact hl
 have b1:A.length*64≤140737488355328:=by omega
 have b2:(A.length+1)*64≤140737488355328:=by omega
 have b3:(A.length+1+B.length)*64≤140737488355328:=by omega
 have tb:wp ((A++B).length-A.length) (B.map Evt.r)=B.map Evt.r:=ztl (by simp)
 have ta:wp A.length (A.map Evt.r)=A.map Evt.r:=ztl (by simp)
 have ta2 : ∀e:List AV,wp (A.length+1) (A.map Evt.r++[e])=A.map Evt.r++[e]:=fun e=>ztl (by simp)
 have ta3 : ∀e:List AV,wp (A.length+1+B.length) (A.map Evt.r++e::B.map Evt.r)=A.map Evt.r++e::B.map Evt.r:=fun e=>ztl (by simp;omega)
 have okAB:qbs 6 ((A++B).map Evt.r)=true:=qgi _
 have goal':(AV.fsl ((A++x::B).map Evt.r) false)=AV.fsl (A.map Evt.r++x.r::B.map Evt.r) false:=by rw[wr,wB]
 have n1 : ∀p q:Nat,p+1+q≤p+(q+1):=fun p q=>by omega
 have n2 : ∀q:Nat,1+q≤q+1:=fun q=>by omega
 rw[goal']
 clear hl hk
 rw[qm,qd q8x q7s]
 rcases A with _|⟨a,A⟩<;>rcases B with _|⟨b,B⟩
 ·obtain⟨xt,xk,xl,xi,xp,xa⟩:=x
  simp only[zgl,zgb,wq,Int.ofNat_zero]at *
  simp only[qk2,k1,k3,k5,k6,k7,c1,tk,dr,b1,b2,ta2,okAB,imp_self,wA,Int.toNat_zero,Evt.r,qg,wi,qqk,qb,qaw,wg,wh,qk,ne_eq,zgy,implies_true,↓qc,↓qq,↓wf,wc,wa,wk,we,wb,wm,wd]
 ·generalize hRB:List.map Evt.r (b::B)=RB at *
  have nB:¬RB=[]:=by rw[←hRB];simp
  have lB:RB.length=(b::B).length:=by rw[←hRB];simp
  have oB:qbs 6 RB=true:=by rw[←hRB];exact qgi _
  have loB : ∀n,qb4 n RB=true:=fun n=>by rw[←hRB];exact qh n _
  obtain⟨xt,xk,xl,xi,xp,xa⟩:=x
  simp only[zgl,zgb,wq,Int.ofNat_zero,hRB,wA,zgg]at *
  generalize hrb:(b::B).length=nb at *
  simp only[qk2,zgr,k1,k3,k5,k6,k7,c1,c2,tk,b1,b2,b3,ta,ta2,ta3,tb,okAB,imp_self,n2,Int.le_refl,wA,nB,lB,loB,qs9,Int.toNat_zero,Evt.r,qg,wi,qqk,qb,qaw,wg,wh,qk,ne_eq,zgy,implies_true,↓qc,↓qq,↓wf,wc,wa,wk,we,wb,wm,wd]
 ·generalize hRA:List.map Evt.r (a::A)=RA at *
  have nA:¬RA=[]:=by rw[←hRA];simp
  have lA:RA.length=(a::A).length:=by rw[←hRA];simp
  have oA:qbs 6 RA=true:=by rw[←hRA];exact qgi _
  have loA : ∀n,qb4 n RA=true:=fun n=>by rw[←hRA];exact qh n _
  obtain⟨xt,xk,xl,xi,xp,xa⟩:=x
  simp only[zgn,zgb,wq,hRA,Nat.add_zero,Nat.sub_self]at *
  generalize hra:(a::A).length=na at *
  simp only[qk2,zgr,k1,k3,k5,k6,k7,c1,c2,tk,dr,b1,b2,ta2,tb,okAB,imp_self,Int.le_refl,wA,nA,lA,loA,qs9,zfe,qn5,Evt.r,qg,wi,qqk,qb,qaw,wg,wh,qk,ne_eq,zgy,implies_true,↓qc,↓qq,↓wf,wc,wa,wk,we,wb,wm,ws,wd]
 ·generalize hRA:List.map Evt.r (a::A)=RA at *
  generalize hRB:List.map Evt.r (b::B)=RB at *
  have nA:¬RA=[]:=by rw[←hRA];simp
  have nB:¬RB=[]:=by rw[←hRB];simp
  have lA:RA.length=(a::A).length:=by rw[←hRA];simp
  have lB:RB.length=(b::B).length:=by rw[←hRB];simp
  have oA:qbs 6 RA=true:=by rw[←hRA];exact qgi _
  have oB:qbs 6 RB=true:=by rw[←hRB];exact qgi _
  have loA : ∀n,qb4 n RA=true:=fun n=>by rw[←hRA];exact qh n _
  have loB : ∀n,qb4 n RB=true:=fun n=>by rw[←hRB];exact qh n _
  generalize hra:(a::A).length=na at *
  generalize hrb:(b::B).length=nb at *
  generalize (a::A)++(b::B)=AB at *
  obtain⟨xt,xk,xl,xi,xp,xa⟩:=x
  simp only[qk2,zgr,k1,k3,k5,k6,k7,c1,c2,tk,dr,b1,b2,b3,ta,ta2,ta3,tb,okAB,imp_self,n1,List.append_assoc,Int.le_refl,wA,nA,nB,lA,lB,oA,oB,loA,loB,qn5,Evt.r,qh,qg,wi,qqk,qb,qaw,wg,wh,qk,ne_eq,zgy,implies_true,↓qc,↓qq,↓wf,wc,wa,wk,we,wb,wm,ws,wd]
theorem qvu (hl:l.length≤1000000) (hk:qb0 l) (kx:x.key.length≤9223372036854775807) (hs:l.Pairwise leE) (hd:qys (x::l)):qm (evL T) qgk [(.fsl ((l).map Evt.r) c),(.agg [(ii x.time),(.fsl ((x.key).map qy) false),(ii x.lp),(ii x.kind),(ii x.proc),(ii x.arg)])]=some (.fsl ((sortL (x::l)).map Evt.r) false):=by
 obtain⟨k,hA,h⟩:=qaci l c x hl hk kx
 rw[hA.eq hs hd]at h
 exact h
end
set_option maxRecDepth 10000
theorem qys.sub {l m:List Evt} (h:qys m) (s:l.Sublist m):qys l:=List.Pairwise.sublist s h
theorem qaem {l:List Evt} (hd:qys l) (hs:l.Pairwise leE):l=sortL l:=qpp hd (List.Perm.refl _) hs
theorem q5k {l m:List Evt} (hd:qys m) (hp:l.Perm m):sortL l=sortL m:=qpp hd ((qc8 l).trans hp) (qg5 l)
theorem qz7 (l:List Evt):(sortL l).length=l.length:=(qc8 l).length_eq
theorem qb0.sortL {l:List Evt} (h:qb0 l):qb0 (sortL l):=fun x hx=>h x ((qc8 l).mem_iff.1 hx)
section
variable (l m:List Evt) (c d:Bool)
end
def qem (l:List Evt) (k:List Int):List Evt×Bool:=(l.eraseP (fun e=>decide (e.key=k)),l.any (fun e=>decide (e.key=k)))
section
variable (l:List Evt) (c:Bool) (k:List Int) (d:Bool)
theorem qaij {i:Nat} {x:Evt} (h:l[i]? = some x) (hx:x.key=k) (hb : ∀(j:Nat) (z:Evt),j<i→l[j]? = some z→¬z.key=k):qem l k=(l.take i++l.drop (i+1),true):=by
 unfold qem
 have hany:l.any (fun e=>decide (e.key=k))=true:=List.any_eq_true.2 ⟨x,zmg h,by simpa using hx⟩
 rw[hany]
 obtain⟨hi,hxe⟩:=zei.1 h
 have hsplit:l=l.take i++x::l.drop (i+1):=by
  rw[←hxe];simp
 congr 1
 conv=>lhs;rw[hsplit]
 rw[List.eraseP_append_right _ (fun z hz=>by
  obtain⟨j,hj⟩:=List.mem_iff_getElem?.1 hz
  rw[List.getElem?_take]at hj
  split at hj
  ·simpa using hb j z (by omega) hj
  ·cases hj)]
 rw[List.eraseP_cons_of_pos (by simpa using hx)]
theorem qac0 (h : ∀x∈l,¬x.key=k):qem l k=(l,false):=by
 unfold qem
 rw[List.eraseP_of_forall_not (fun x hx=>by simpa using h x hx)]
 congr 1
 rw[List.any_eq_false]
 exact fun x hx=>by simpa using h x hx
theorem qajo (hl:l.length≤1000000) (hk:qb0 l) (kk:k.length≤9223372036854775807) :
  ∃y,itB (exec (evL T) itL none qhg) (qu [0,1,6] true 0) ⟨[(0,(.fsl ((l).map Evt.r) c)),(1,(.fsl ((k).map qy) d)),(6,(ii 0))],[]⟩ []=some y ∧
   ((y.1 = .exit 0∧y.2.1.marks=[]∧y.2.2=[]∧wt y.2.1.vars 0=some (.fsl ((l).map Evt.r) c)∧qem l k=(l,false)) ∨
    ∃(g:Nat),y.1 = .ret∧y.2.1.marks=[]∧y.2.2=[.row 6 ((qem l k).1.map Evt.r) g]∧wt y.2.1.vars 4=some (.sl 0 g 0 (qem l k).1.length false)∧wt y.2.1.vars 5=some (bb true)∧(qem l k).2=true):=by
 have key:=qcq (f:=exec (evL T) itL none qhg) (s:=qu [0,1,6] true 0) (α:=Unit)
  (fun i a=>⟨[(0,(.fsl ((l).map Evt.r) c)),(1,(.fsl ((k).map qy) d)),(6,(ii i))],[]⟩) (fun i a=>[])
  (fun i a => ∀(j:Nat) (z:Evt),j<i→l[j]? = some z→¬z.key=k) l.length
  (fun y=>((y.1 = .exit 0∧y.2.1.marks=[]∧y.2.2=[]∧wt y.2.1.vars 0=some (.fsl ((l).map Evt.r) c)∧qem l k=(l,false)) ∨
    ∃(g:Nat),y.1 = .ret∧y.2.1.marks=[]∧y.2.2=[.row 6 ((qem l k).1.map Evt.r) g]∧wt y.2.1.vars 4=some (.sl 0 g 0 (qem l k).1.length false)∧wt y.2.1.vars 5=some (bb true)∧(qem l k).2=true)) ?_ ?_ 0 () (Nat.zero_le _) (fun j z h=>by omega)
 ·exact key
 ·rintro i _ hi hinv
  obtain⟨x,hx⟩ : ∃x,l[i]? = some x:=⟨_,zgE hi⟩
  have hi':(i:Int)<(l.length:Int):=by omega
  have hw:IntKind.i64.wrap ((i:Int)+1)=((i+1:Nat):Int):=qqh (by omega)
  have hc:=qxh x.key k false d (hk x (zmg hx)) kk
  by_cases hxk:x.key=k
  ·have hE:=qaij l k hx hxk hinv
   rw[hE]
   refine .inr ?_
   obtain⟨A,B,hAB,hA⟩ : ∃A B,l=A++x::B∧A.length=i:=⟨l.take i,l.drop (i+1),by rw[←(zei.1 hx).2];simp,by simp;omega⟩
   have e1:l.take i=A:=by rw[hAB];exact List.take_left' hA
   have e2:l.drop (i+1)=B:=by rw[hAB,←List.singleton_append,←List.append_assoc];exact List.drop_left' (by simp[hA])
   rw[e1,e2]
   have c1:(i:Int)≤(l.length:Int):=by omega
   have c2:(0:Int)≤(i:Int):=by omega
   have c3:((i+1:Nat):Int)≤(l.length:Int):=by omega
   have c4:(0:Int)≤((i+1:Nat):Int):=by omega
   have tk:wp i (l.map Evt.r)=A.map Evt.r:=by rw[←List.map_take,e1]
   have dr:List.drop (i+1) (l.map Evt.r)=B.map Evt.r:=by rw[←List.map_drop,e2]
   have hBl:l.length-(i+1)=B.length:=by rw[←e2];simp
   have hlen:i+B.length≤1000000:=by omega
   have tb:wp (l.length-(i+1)) (B.map Evt.r)=B.map Evt.r:=ztl (by simp;omega)
   have okl:=qgi l
   have okA:=qgi A
   have okB:=qgi B
   have b1:(0+A.length)*64≤140737488355328:=by omega
   have b2:(A.length+B.length)*64≤140737488355328:=by omega
   have b1':A.length*64≤140737488355328:=by omega
   have hd':x.key=k:=hxk
   subst hA
   have ta:wp A.length (A.map Evt.r)=A.map Evt.r:=ztl (by simp)
   have ta0:wp A.length (l.map Evt.r)=A.map Evt.r:=tk
   rw[decide_eq_true hxk]at hc
   clear hE hinv hAB e1 e2
   obtain⟨xt,xk,xl,xi,xp,xa⟩:=x
   simp only at hc
   by_cases hB0:B=[]
   ·subst hB0
    simp only[zgn,wq,zgb,Nat.add_zero]at *
    simp only[qhg,zgr,zgq,zgt,hx,hi',hw,hc,c1,c2,c3,c4,tk,dr,tb,okl,okA,b2,Int.le_refl,wA,imp_self,qs9,Int.toNat_zero,Evt.r,qg,wi,qqk,qb,qaw,ne_eq,zgy,implies_true,↓qc,↓wf,wc,wa,wk,we,wb,wm,wd]
    exact⟨_,rfl,.inr ⟨0,rfl,rfl,rfl,rfl,rfl⟩⟩
   ·have hm:¬B.map Evt.r=[]:=by simpa using hB0
    simp only[qhg,zgr,zgq,zgt,hx,hi',hw,hc,c1,c2,c3,c4,tk,ta,dr,tb,hm,okl,okA,okB,b2,b1',Int.le_refl,wA,imp_self,Int.toNat_zero,Evt.r,qg,wi,qqk,qb,qaw,ne_eq,zgy,implies_true,↓qc,↓wf,wc,wa,wk,we,wb,wm,wd]
    exact⟨_,rfl,.inr ⟨1,rfl,rfl,by simp only[wr],by simp only[wt,wf];try rfl,rfl⟩⟩
  ·refine .inl ⟨(),?_,fun j z hj hz => ?_⟩
   ·rw[decide_eq_false hxk]at hc
    clear hinv
    obtain⟨xt,xk,xl,xi,xp,xa⟩:=x
    simp only at hc
    simp only[qhg,zgs,zgr,zgq,zgt,hx,hi',hw,hc,Evt.r,qh,qg,wi,qb,zgy,↓qc,↓wf,wc,wa,wd]
   ·rcases Nat.lt_or_ge j i with h1|h1
    ·exact hinv j z h1 hz
    ·have:j=i:=by omega
     subst this
     rw[hx]at hz;cases hz;exact hxk
 ·rintro _ hinv
  simp only[qhg,wz,wi,zgy,↓qc,↓wf,wa,wd]
  exact⟨_,rfl,.inl ⟨rfl,rfl,rfl,rfl,qac0 l k fun x hx=>by
   obtain⟨j,hj⟩:=List.mem_iff_getElem?.1 hx
   exact hinv j x (zei.1 hj).1 hj⟩⟩
theorem qacq (hl:l.length≤1000000) (hk:qb0 l) (kk:k.length≤9223372036854775807) : ∃cf:Bool,qm (evL T) qkz [(.fsl ((l).map Evt.r) c),(.fsl ((k).map qy) d)]=some (.tup [(.fsl (((qem l k).1).map Evt.r) cf),(bb ((qem l k).2))]):=by
 obtain⟨⟨y,e,σ⟩,h1,h⟩:=qajo l c k d hl hk kk
 rcases h with ⟨h2,h3,h4,h5,h6⟩|⟨g,h2,h3,h4,h5,h6,h7⟩<;>simp only at h2 h3 h4 h5<;>subst h2<;>subst h4
 ·rw[h6]
  refine⟨c,?_⟩
  rw[qm,qd qyt qxf]
  simp only[qom,h1,h3,h5,qh,qg,wi,qk,zgy,↓qc,↓qq,↓wf,wc,wa,wd]
 ·rw[h7]
  refine⟨false,?_⟩
  rw[qm,qd qyt qxf]
  simp only at h6
  have htk:((qem l k).1.map Evt.r).take (qem l k).1.length=(qem l k).1.map Evt.r:=ztl (by simp)
  simp only[qom,h1,h3,h5,h6,htk,qh,qg,wi,qk,zgy,↓qc,↓qq,↓wf,wc,wa,we,wd]
end
set_option maxRecDepth 10000
theorem q7o {α:Type} [DecidableEq α] : ∀ {a b:List α},a.length=b.length→((a.zip b).all (fun z=>decide (z.1=z.2))=true↔a=b)
 | [],[],_=>by simp
 |x::a,y::b,h=>by
  rw[List.zip_cons_cons,List.all_cons,wy,decide_eq_true_eq,q7o (a:=a) (b:=b) (by simpa using h),List.cons.injEq]
 | [],_ :: _,h=>by simp at h
 | _ :: _,[],h=>by simp at h
section
variable (a b:List Int) (c d:Bool)
theorem qadx (hab:a.length=b.length) (hl:a.length≤9223372036854775807) :
  ∃y,itB (exec (evL T) itL none qe2) (qu [0,1,12,13] true 0) ⟨[(0,(.fsl ((a).map qy) c)),(1,(.fsl ((b).map qy) d)),(12,(ii a.length)),(13,(ii 0))],[]⟩ []=some y∧((a.zip b).all (fun z=>decide (z.1=z.2))=true∧(y.1 = .exit 0∧y.2.1.marks=[]∧y.2.2=[]) ∨
   (a.zip b).all (fun z=>decide (z.1=z.2))=false ∧ ∃x,(a.zip b).find? (fun z => !decide (z.1=z.2))=some x∧(y.1 = .ret∧y.2.1.marks=[]∧y.2.2=[]∧wt y.2.1.vars 4=some (bb false))):=by
 have hzl:(a.zip b).length=a.length:=by rw[List.length_zip,←hab,Nat.min_self]
 refine qgo (a.zip b) (fun i=>⟨[(0,(.fsl ((a).map qy) c)),(1,(.fsl ((b).map qy) d)),(12,(ii a.length)),(13,(ii i))],[]⟩) [] (fun z=>decide (z.1=z.2)) _ (fun _ y => _) ?_ ?_ ?_
 ·intro i x hi hx hp
  rw[hzl]at hi
  have hi':(i:Int)<(a.length:Int):=by omega
  have hw:IntKind.i64.wrap ((i:Int)+1)=((i+1:Nat):Int):=by rw[qi (by omega) (by omega)];simp
  obtain⟨hxa,hxb⟩:=wu.1 hx
  have hp':=of_decide_eq_true hp
  simp only[qe2,zgs,zgr,zgq,zgt,hxa,hxb,hi',hw,hp',qg,qy,wi,qb,ne_eq,zgy,↓qc,↓wf,wa,wd]
 ·intro i x hi hx hp
  rw[hzl]at hi
  have hi':(i:Int)<(a.length:Int):=by omega
  obtain⟨hxa,hxb⟩:=wu.1 hx
  have hp':¬x.1=x.2:=of_decide_eq_false hp
  simp only[qe2,zgs,zgr,zgq,zgt,hxa,hxb,hi',hp',qy,wi,qb,ne_eq,zgy,↓qc,↓wf,wa,wd]
  exact⟨_,rfl,rfl,rfl,rfl,rfl⟩
 ·rw[hzl]
  simp only[qe2,wz,wi,zgy,↓qc,↓wf,wa,wd]
  exact⟨_,rfl,rfl,rfl,rfl⟩
theorem qz4 (hl:a.length≤9223372036854775807) (hl2:b.length≤9223372036854775807):qm (evL T) qcx [(.fsl ((a).map qy) c),(.fsl ((b).map qy) d)]=some (bb (decide (a=b))):=by
 rw[qm,qd qv5 qur]
 by_cases hab:a.length=b.length
 ·have hab':(a.length:Int)=(b.length:Int):=by omega
  obtain⟨⟨y,e,σ⟩,k1,k2⟩:=qadx a b c d hab hl
  simp only at k2
  rcases k2 with ⟨k3,rfl,k4,rfl⟩|⟨k3,x,_,rfl,k4,rfl,k5⟩
  ·have:a=b:=(q7o hab).1 k3
   rw[hab']at k1
   simp only[qey,this,qg,wi,qk,ne_eq,zgy,↓qc,↓qq,↓wf,wc,wa,wd]
   subst this
   simp only[k1,k4,wi,zgy,↓wf]
  ·have:¬a=b:=fun h=>by rw[(q7o hab).2 h]at k3;cases k3
   simp only[this]
   rw[hab']at k1
   simp only[qey,hab',k1,k4,k5,qg,wi,qk,ne_eq,zgy,↓qc,↓qq,↓wf,wc,wa,wd]
 ·have hab':¬(a.length:Int)=(b.length:Int):=by omega
  have:¬a=b:=fun h=>hab (by rw[h])
  simp only[qey,hab',this,wi,qk,ne_eq,zgy,↓qc,↓wf,wc,wa,wd]
end
theorem qq9 (n:Nat) : ∀(a b:qj),qel n (a++b)=(qel n a&&qel n b)
 | [],b=>by simp[qel]
 |x::a,b=>by simp only[zgm,qel,qq9 n a b,Bool.and_assoc]
theorem qpd {n:Nat} : ∀ {σ:qj},qel n σ=true ↔ ∀x∈σ,SObj.lo n x=true
 | []=>by simp[qel]
 |x::a=>by simp only[qel,wy,qpd (σ:=a),List.mem_cons,forall_eq_or_imp]
theorem q28 {n:Nat} {σ:qj} (h:qel n σ=true) (i:Nat) {x:SObj} (hx:x.lo n=true):qel n (σ.set i x)=true:=by
 rw[qpd]at h⊢
 intro y hy
 rcases List.mem_or_eq_of_mem_set hy with hy|rfl
 ·exact h y hy
 ·exact hx
mutual
theorem qaeo {n m:Nat} (h:n≤m) : ∀(a:AV),a.lo n=true→a.lo m=true
 | .v _,_=>by simp only[AV.lo]
 | .agg cs,k=>by simp only[AV.lo]at k ⊢;exact qyc h cs k
 | .tup cs,k=>by simp only[AV.lo]at k ⊢;exact qyc h cs k
 | .fsl es _,k=>by simp only[AV.lo]at k ⊢;exact qon h es k
 | .fptr cs,k=>by simp only[AV.lo]at k ⊢;exact qyc h cs k
 | .sl o _ _ _ _,k=>by simp only[AV.lo,decide_eq_true_eq]at k ⊢;omega
 | .ptr o _ _ _,k=>by simp only[AV.lo,decide_eq_true_eq]at k ⊢;omega
 | .fn _ a b,k=>by simp only[AV.lo,wy]at k ⊢;exact⟨qyc h a k.1,qyc h b k.2⟩
 | .yld o,k=>by simp only[AV.lo,decide_eq_true_eq]at k ⊢;omega
 | .mp o,k=>by simp only[AV.lo,decide_eq_true_eq]at k ⊢;omega
theorem qyc {n m:Nat} (h:n≤m) : ∀(l:List AV),los n l=true→los m l=true
 | [],_=>by simp only[los]
 |a::l,k=>by simp only[los,wy]at k ⊢;exact⟨qaeo h a k.1,qyc h l k.2⟩
theorem qon {n m:Nat} (h:n≤m) : ∀(es:List (List AV)),qb4 n es=true→qb4 m es=true
 | [],_=>by simp only[qb4]
 |a::l,k=>by simp only[qb4,wy]at k ⊢;exact⟨qyc h a k.1,qon h l k.2⟩
end
theorem qach {n m:Nat} (h:n≤m) : ∀(l:List (Nat×AV)),q0g n l=true→q0g m l=true
 | [],_=>by simp only[q0g]
 |(_,a)::r,k=>by simp only[q0g,wy]at k ⊢;exact⟨qaeo h a k.1,qach h r k.2⟩
theorem q27 {n m:Nat} (h:n≤m) (o:SObj) (k:o.lo n=true):o.lo m=true:=by
 cases o<;>simp only[SObj.lo]at k⊢
 ·exact qon h _ k
 ·exact qach h _ k
theorem qps {n m:Nat} (h:n≤m) {σ:qj} (k:qel n σ=true):qel m σ=true:=by
 rw[qpd]at k⊢
 exact fun x hx=>q27 h x (k x hx)
set_option maxRecDepth 10000
def qh3:List (Int×AV):=[(1,.fn (.func qb5) [] []),(2,.fn (.func qb3) [] []),(3,.fn (.func qbu) [] []),(4,.fn (.func qbm) [] []),(5,.fn (.func qbv) [] []),(6,.fn (.func qce) [] []),(7,.fn (.func qb7) [] []),(8,.fn (.func qcg) [] [])]
section
variable (a0 a1 a2:Int) (am:Nat) (x:Ex) (gp gc gg:Nat)
theorem q08 (i:Nat) (hi:x.ev.proc=i) (hp:i<x.procs.length) :
  (evL T).call qah [.ptr 5 0 0 0] [.row 4 [[(ii a0),(ii a1),.sl 2 0 0 am false,(ii a2)]] 0,.row 4 [[(ii 0),(ii 0),.fsl [] false,(ii 0)]] 0,.row 4 ((x.procs).map Pr.r) gp,.row 6 ((x.out).map Evt.r) gc,.row 1 ((x.gone).map qh7) gg,.row 14 [[(ii x.r0),(ii x.r1),.sl 2 gp 0 x.procs.length false,(ii x.sum),(ii x.ev.time),(.fsl ((x.ev.key).map qy) false),(ii x.ev.lp),(ii x.ev.kind),(ii x.ev.proc),(ii x.ev.arg),.sl 3 gc 0 x.out.length false,(ii x.n),.sl 4 gg 0 x.gone.length false,(bb x.over)]] 0,.mp .i64 qh3]=some (.ptr 2 gp i 0,[.row 4 [[(ii a0),(ii a1),.sl 2 0 0 am false,(ii a2)]] 0,.row 4 [[(ii 0),(ii 0),.fsl [] false,(ii 0)]] 0,.row 4 ((x.procs).map Pr.r) gp,.row 6 ((x.out).map Evt.r) gc,.row 1 ((x.gone).map qh7) gg,.row 14 [[(ii x.r0),(ii x.r1),.sl 2 gp 0 x.procs.length false,(ii x.sum),(ii x.ev.time),(.fsl ((x.ev.key).map qy) false),(ii x.ev.lp),(ii x.ev.kind),(ii x.ev.proc),(ii x.ev.arg),.sl 3 gc 0 x.out.length false,(ii x.n),.sl 4 gg 0 x.gone.length false,(bb x.over)]] 0,.mp .i64 qh3]):=by
 rw[qd qod qni]
 simp only[qf6,hi,hp,zgs,zgr,qg,qr,qh,qbj,we,wi,qb,qk,wn,zgy,↓qc,↓wf,wc,wa,we,wd]
theorem qan9 (k p a:Int):(evL T).call qcf [.ptr 5 0 0 0,(ii k),(ii p),(ii a)] [.row 4 [[(ii a0),(ii a1),.sl 2 0 0 am false,(ii a2)]] 0,.row 4 [[(ii 0),(ii 0),.fsl [] false,(ii 0)]] 0,.row 4 ((x.procs).map Pr.r) gp,.row 6 ((x.out).map Evt.r) gc,.row 1 ((x.gone).map qh7) gg,.row 14 [[(ii x.r0),(ii x.r1),.sl 2 gp 0 x.procs.length false,(ii x.sum),(ii x.ev.time),(.fsl ((x.ev.key).map qy) false),(ii x.ev.lp),(ii x.ev.kind),(ii x.ev.proc),(ii x.ev.arg),.sl 3 gc 0 x.out.length false,(ii x.n),.sl 4 gg 0 x.gone.length false,(bb x.over)]] 0,.mp .i64 qh3]=some (.agg [(ii 0),.fsl [] false,(ii x.ev.lp),(ii k),(ii p),(ii a)],[.row 4 [[(ii a0),(ii a1),.sl 2 0 0 am false,(ii a2)]] 0,.row 4 [[(ii 0),(ii 0),.fsl [] false,(ii 0)]] 0,.row 4 ((x.procs).map Pr.r) gp,.row 6 ((x.out).map Evt.r) gc,.row 1 ((x.gone).map qh7) gg,.row 14 [[(ii x.r0),(ii x.r1),.sl 2 gp 0 x.procs.length false,(ii x.sum),(ii x.ev.time),(.fsl ((x.ev.key).map qy) false),(ii x.ev.lp),(ii x.ev.kind),(ii x.ev.proc),(ii x.ev.arg),.sl 3 gc 0 x.out.length false,(ii x.n),.sl 4 gg 0 x.gone.length false,(bb x.over)]] 0,.mp .i64 qh3]):=by
 rw[qd qv4 qui]
 simp only[qip,qg,qr,qh,qbj,we,wb,wi,wo,qb,wg,wl,wh,qk,wn,ne_eq,zgy,↓qc,↓wf,wc,wa,we,wb,wd]
def qr2 (x:Ex) (d:Int) (gc:Nat):Nat:=if w64 (x.ev.time+d)>1152921504606846976 then gc else gc+1
theorem q38 (h:x.Small) (d:Int) (t0 lp k p a:Int) (ks:List Int) :
  (evL T).call qa8 [.ptr 5 0 0 0,(ii d),.agg [(ii t0),(.fsl ((ks).map qy) false),(ii lp),(ii k),(ii p),(ii a)]] [.row 4 [[(ii a0),(ii a1),.sl 2 0 0 am false,(ii a2)]] 0,.row 4 [[(ii 0),(ii 0),.fsl [] false,(ii 0)]] 0,.row 4 ((x.procs).map Pr.r) gp,.row 6 ((x.out).map Evt.r) gc,.row 1 ((x.gone).map qh7) gg,.row 14 [[(ii x.r0),(ii x.r1),.sl 2 gp 0 x.procs.length false,(ii x.sum),(ii x.ev.time),(.fsl ((x.ev.key).map qy) false),(ii x.ev.lp),(ii x.ev.kind),(ii x.ev.proc),(ii x.ev.arg),.sl 3 gc 0 x.out.length false,(ii x.n),.sl 4 gg 0 x.gone.length false,(bb x.over)]] 0,.mp .i64 qh3]=some ((.fsl ((x.kid).map qy) false),[.row 4 [[(ii a0),(ii a1),.sl 2 0 0 am false,(ii a2)]] 0,.row 4 [[(ii 0),(ii 0),.fsl [] false,(ii 0)]] 0,.row 4 (((x.create d ⟨t0,ks,lp,k,p,a⟩).procs).map Pr.r) gp,.row 6 (((x.create d ⟨t0,ks,lp,k,p,a⟩).out).map Evt.r) (qr2 x d gc),.row 1 (((x.create d ⟨t0,ks,lp,k,p,a⟩).gone).map qh7) gg,.row 14 [[(ii ((x.create d ⟨t0,ks,lp,k,p,a⟩).r0)),(ii ((x.create d ⟨t0,ks,lp,k,p,a⟩).r1)),.sl 2 gp 0 (x.create d ⟨t0,ks,lp,k,p,a⟩).procs.length false,(ii ((x.create d ⟨t0,ks,lp,k,p,a⟩).sum)),(ii ((x.create d ⟨t0,ks,lp,k,p,a⟩).ev.time)),(.fsl (((x.create d ⟨t0,ks,lp,k,p,a⟩).ev.key).map qy) false),(ii ((x.create d ⟨t0,ks,lp,k,p,a⟩).ev.lp)),(ii ((x.create d ⟨t0,ks,lp,k,p,a⟩).ev.kind)),(ii ((x.create d ⟨t0,ks,lp,k,p,a⟩).ev.proc)),(ii ((x.create d ⟨t0,ks,lp,k,p,a⟩).ev.arg)),.sl 3 (qr2 x d gc) 0 (x.create d ⟨t0,ks,lp,k,p,a⟩).out.length false,(ii ((x.create d ⟨t0,ks,lp,k,p,a⟩).n)),.sl 4 gg 0 (x.create d ⟨t0,ks,lp,k,p,a⟩).gone.length false,(bb ((x.create d ⟨t0,ks,lp,k,p,a⟩).over))]] 0,.mp .i64 qh3]):=by
 have hk:=q2c x.ev.key false x.n h.key
 have hs:(x.out.length+1)*64≤140737488355328:=by have:=h.out;omega
 have htl:wp x.out.length (x.out.map Evt.r)=x.out.map Evt.r:=ztl (by simp)
 have hlo:los 7 ([(ii x.r0),(ii x.r1),.sl 2 gp 0 x.procs.length false,(ii x.sum),(ii x.ev.time),(.fsl ((x.ev.key).map qy) false),(ii x.ev.lp),(ii x.ev.kind),(ii x.ev.proc),(ii x.ev.arg),.sl 3 gc 0 x.out.length false,(ii x.n),.sl 4 gg 0 x.gone.length false,(bb x.over)])=true:=by simp only[qg,we,wi,zgy,we]
 rw[qd qsl qr5]
 unfold Ex.create qr2 Ex.kid
 by_cases ho:w64 (x.ev.time+d)>1152921504606846976
 ·have ho':IntKind.i64.wrap (x.ev.time+d)>1152921504606846976:=ho
  simp only[ho,if_true]
  simp only[qe0,hk,ho',qg,qr,qh,qbj,we,wb,wi,wo,qb,wg,wl,wh,qk,wn,ne_eq,zgy,↓qc,↓wf,wc,wa,we,wb,wd]
  done
 ·have ho':¬IntKind.i64.wrap (x.ev.time+d)>1152921504606846976:=ho
  simp only[ho,if_false]
  have hr : ∀e:Evt,(x.out++[e]).map Evt.r=x.out.map Evt.r++[e.r]:=fun e=>by rw[wr];rfl
  simp only[qe0,hk,ho',hs,htl,hr,qn5,Evt.r,qg,qr,qh,qbj,we,wb,wi,wo,qqk,qb,qaw,wg,wl,wh,qk,wn,ne_eq,zgy,↓qc,↓wf,wc,wa,wk,we,wb,wm,wd]
  done
end
set_option maxRecDepth 10000
theorem eq_table:eqBm qh3 qh3=true:=by
 have h:decide (eqBm qh3 qh3=true)=true:=by kernel_rfl
 exact of_decide_eq_true h
def Ex.ownE (x:Ex) (k p a:Int):Evt:=⟨0,[],x.ev.lp,k,p,a⟩
def Ex.setP (x:Ex) (i:Nat) (q:Pr):Ex:={ x with procs:=x.procs.set i q }
def Ex.stopE (x:Ex) (i:Nat) (q:Pr):Ex:=if 0<q.timer.length then { x with gone:=x.gone++[q.timer],procs:=x.procs.set i { q with timer:=[] } }else x
section
variable (a0 a1 a2:Int) (am:Nat) (x:Ex) (gp gc gg:Nat) (op:OpI)
theorem hold_ev (h:x.Small):(evL T).call qb5 [.ptr 5 0 0 0,(.agg [(ii op.code),(ii op.a),(ii op.b),(ii op.c)])] [.row 4 [[(ii a0),(ii a1),.sl 2 0 0 am false,(ii a2)]] 0,.row 4 [[(ii 0),(ii 0),.fsl [] false,(ii 0)]] 0,.row 4 ((x.procs).map Pr.r) gp,.row 6 ((x.out).map Evt.r) gc,.row 1 ((x.gone).map qh7) gg,.row 14 [[(ii x.r0),(ii x.r1),.sl 2 gp 0 x.procs.length false,(ii x.sum),(ii x.ev.time),(.fsl ((x.ev.key).map qy) false),(ii x.ev.lp),(ii x.ev.kind),(ii x.ev.proc),(ii x.ev.arg),.sl 3 gc 0 x.out.length false,(ii x.n),.sl 4 gg 0 x.gone.length false,(bb x.over)]] 0,.mp .i64 qh3]=some ((ii 1),[.row 4 [[(ii a0),(ii a1),.sl 2 0 0 am false,(ii a2)]] 0,.row 4 [[(ii 0),(ii 0),.fsl [] false,(ii 0)]] 0,.row 4 (((x.create op.a (x.ownE 1 x.ev.proc 0)).procs).map Pr.r) gp,.row 6 (((x.create op.a (x.ownE 1 x.ev.proc 0)).out).map Evt.r) (qr2 x op.a gc),.row 1 (((x.create op.a (x.ownE 1 x.ev.proc 0)).gone).map qh7) gg,.row 14 [[(ii ((x.create op.a (x.ownE 1 x.ev.proc 0)).r0)),(ii ((x.create op.a (x.ownE 1 x.ev.proc 0)).r1)),.sl 2 gp 0 (x.create op.a (x.ownE 1 x.ev.proc 0)).procs.length false,(ii ((x.create op.a (x.ownE 1 x.ev.proc 0)).sum)),(ii ((x.create op.a (x.ownE 1 x.ev.proc 0)).ev.time)),(.fsl (((x.create op.a (x.ownE 1 x.ev.proc 0)).ev.key).map qy) false),(ii ((x.create op.a (x.ownE 1 x.ev.proc 0)).ev.lp)),(ii ((x.create op.a (x.ownE 1 x.ev.proc 0)).ev.kind)),(ii ((x.create op.a (x.ownE 1 x.ev.proc 0)).ev.proc)),(ii ((x.create op.a (x.ownE 1 x.ev.proc 0)).ev.arg)),.sl 3 (qr2 x op.a gc) 0 (x.create op.a (x.ownE 1 x.ev.proc 0)).out.length false,(ii ((x.create op.a (x.ownE 1 x.ev.proc 0)).n)),.sl 4 gg 0 (x.create op.a (x.ownE 1 x.ev.proc 0)).gone.length false,(bb ((x.create op.a (x.ownE 1 x.ev.proc 0)).over))]] 0,.mp .i64 qh3]):=by
 have h1:=qan9 a0 a1 a2 am x gp gc gg 1 x.ev.proc 0
 have h2:=q38 a0 a1 a2 am x gp gc gg h op.a 0 x.ev.lp 1 x.ev.proc 0 []
 simp only[wq]at h2
 rw[qd quv qt3]
 simp only[qh4,h1,h2,Ex.ownE,qg,qr,qh,qbj,we,wi,qb,wg,wh,qk,wn,ne_eq,zgy,↓qc,↓wf,wc,wa,we,wd]
theorem send_ev (h:x.Small):(evL T).call qb3 [.ptr 5 0 0 0,(.agg [(ii op.code),(ii op.a),(ii op.b),(ii op.c)])] [.row 4 [[(ii a0),(ii a1),.sl 2 0 0 am false,(ii a2)]] 0,.row 4 [[(ii 0),(ii 0),.fsl [] false,(ii 0)]] 0,.row 4 ((x.procs).map Pr.r) gp,.row 6 ((x.out).map Evt.r) gc,.row 1 ((x.gone).map qh7) gg,.row 14 [[(ii x.r0),(ii x.r1),.sl 2 gp 0 x.procs.length false,(ii x.sum),(ii x.ev.time),(.fsl ((x.ev.key).map qy) false),(ii x.ev.lp),(ii x.ev.kind),(ii x.ev.proc),(ii x.ev.arg),.sl 3 gc 0 x.out.length false,(ii x.n),.sl 4 gg 0 x.gone.length false,(bb x.over)]] 0,.mp .i64 qh3]=some ((ii 0),[.row 4 [[(ii a0),(ii a1),.sl 2 0 0 am false,(ii a2)]] 0,.row 4 [[(ii 0),(ii 0),.fsl [] false,(ii 0)]] 0,.row 4 (((x.create op.c ⟨0,[],op.a,3,0,op.b⟩).procs).map Pr.r) gp,.row 6 (((x.create op.c ⟨0,[],op.a,3,0,op.b⟩).out).map Evt.r) (qr2 x op.c gc),.row 1 (((x.create op.c ⟨0,[],op.a,3,0,op.b⟩).gone).map qh7) gg,.row 14 [[(ii ((x.create op.c ⟨0,[],op.a,3,0,op.b⟩).r0)),(ii ((x.create op.c ⟨0,[],op.a,3,0,op.b⟩).r1)),.sl 2 gp 0 (x.create op.c ⟨0,[],op.a,3,0,op.b⟩).procs.length false,(ii ((x.create op.c ⟨0,[],op.a,3,0,op.b⟩).sum)),(ii ((x.create op.c ⟨0,[],op.a,3,0,op.b⟩).ev.time)),(.fsl (((x.create op.c ⟨0,[],op.a,3,0,op.b⟩).ev.key).map qy) false),(ii ((x.create op.c ⟨0,[],op.a,3,0,op.b⟩).ev.lp)),(ii ((x.create op.c ⟨0,[],op.a,3,0,op.b⟩).ev.kind)),(ii ((x.create op.c ⟨0,[],op.a,3,0,op.b⟩).ev.proc)),(ii ((x.create op.c ⟨0,[],op.a,3,0,op.b⟩).ev.arg)),.sl 3 (qr2 x op.c gc) 0 (x.create op.c ⟨0,[],op.a,3,0,op.b⟩).out.length false,(ii ((x.create op.c ⟨0,[],op.a,3,0,op.b⟩).n)),.sl 4 gg 0 (x.create op.c ⟨0,[],op.a,3,0,op.b⟩).gone.length false,(bb ((x.create op.c ⟨0,[],op.a,3,0,op.b⟩).over))]] 0,.mp .i64 qh3]):=by
 have h2:=q38 a0 a1 a2 am x gp gc gg h op.c 0 op.a 3 0 op.b []
 simp only[wq]at h2
 rw[qd quf qti]
 simp only[qib,h2,qg,qr,qh,qbj,we,wb,wi,qb,wg,wl,wh,qk,wn,ne_eq,zgy,↓qc,↓wf,wc,wa,we,wb,wd]
theorem end_ev:(evL T).call qcg [.ptr 5 0 0 0,(.agg [(ii op.code),(ii op.a),(ii op.b),(ii op.c)])] [.row 4 [[(ii a0),(ii a1),.sl 2 0 0 am false,(ii a2)]] 0,.row 4 [[(ii 0),(ii 0),.fsl [] false,(ii 0)]] 0,.row 4 ((x.procs).map Pr.r) gp,.row 6 ((x.out).map Evt.r) gc,.row 1 ((x.gone).map qh7) gg,.row 14 [[(ii x.r0),(ii x.r1),.sl 2 gp 0 x.procs.length false,(ii x.sum),(ii x.ev.time),(.fsl ((x.ev.key).map qy) false),(ii x.ev.lp),(ii x.ev.kind),(ii x.ev.proc),(ii x.ev.arg),.sl 3 gc 0 x.out.length false,(ii x.n),.sl 4 gg 0 x.gone.length false,(bb x.over)]] 0,.mp .i64 qh3]=some ((ii 2),[.row 4 [[(ii a0),(ii a1),.sl 2 0 0 am false,(ii a2)]] 0,.row 4 [[(ii 0),(ii 0),.fsl [] false,(ii 0)]] 0,.row 4 ((x.procs).map Pr.r) gp,.row 6 ((x.out).map Evt.r) gc,.row 1 ((x.gone).map qh7) gg,.row 14 [[(ii x.r0),(ii x.r1),.sl 2 gp 0 x.procs.length false,(ii x.sum),(ii x.ev.time),(.fsl ((x.ev.key).map qy) false),(ii x.ev.lp),(ii x.ev.kind),(ii x.ev.proc),(ii x.ev.arg),.sl 3 gc 0 x.out.length false,(ii x.n),.sl 4 gg 0 x.gone.length false,(bb x.over)]] 0,.mp .i64 qh3]):=by
 rw[qd qvp qup]
 simp only[qio,qg,qr,qh,qbj,we,wi,wg,wh,qk,wn,ne_eq,zgy,↓qc,↓wf,wc,we,wd]
def Ex.reg (x:Ex) (k:Int):Int:=if k=0 then x.r0 else x.r1
def Ex.setReg (x:Ex) (k v:Int):Ex:=if k=0 then { x with r0:=v }else { x with r1:=v }
theorem add_ev (ha:op.a=0∨op.a=1):(evL T).call qce [.ptr 5 0 0 0,(.agg [(ii op.code),(ii op.a),(ii op.b),(ii op.c)])] [.row 4 [[(ii a0),(ii a1),.sl 2 0 0 am false,(ii a2)]] 0,.row 4 [[(ii 0),(ii 0),.fsl [] false,(ii 0)]] 0,.row 4 ((x.procs).map Pr.r) gp,.row 6 ((x.out).map Evt.r) gc,.row 1 ((x.gone).map qh7) gg,.row 14 [[(ii x.r0),(ii x.r1),.sl 2 gp 0 x.procs.length false,(ii x.sum),(ii x.ev.time),(.fsl ((x.ev.key).map qy) false),(ii x.ev.lp),(ii x.ev.kind),(ii x.ev.proc),(ii x.ev.arg),.sl 3 gc 0 x.out.length false,(ii x.n),.sl 4 gg 0 x.gone.length false,(bb x.over)]] 0,.mp .i64 qh3]=some ((ii 0),[.row 4 [[(ii a0),(ii a1),.sl 2 0 0 am false,(ii a2)]] 0,.row 4 [[(ii 0),(ii 0),.fsl [] false,(ii 0)]] 0,.row 4 (((x.setReg op.a (w64 (x.reg op.a+op.b))).procs).map Pr.r) gp,.row 6 (((x.setReg op.a (w64 (x.reg op.a+op.b))).out).map Evt.r) gc,.row 1 (((x.setReg op.a (w64 (x.reg op.a+op.b))).gone).map qh7) gg,.row 14 [[(ii ((x.setReg op.a (w64 (x.reg op.a+op.b))).r0)),(ii ((x.setReg op.a (w64 (x.reg op.a+op.b))).r1)),.sl 2 gp 0 (x.setReg op.a (w64 (x.reg op.a+op.b))).procs.length false,(ii ((x.setReg op.a (w64 (x.reg op.a+op.b))).sum)),(ii ((x.setReg op.a (w64 (x.reg op.a+op.b))).ev.time)),(.fsl (((x.setReg op.a (w64 (x.reg op.a+op.b))).ev.key).map qy) false),(ii ((x.setReg op.a (w64 (x.reg op.a+op.b))).ev.lp)),(ii ((x.setReg op.a (w64 (x.reg op.a+op.b))).ev.kind)),(ii ((x.setReg op.a (w64 (x.reg op.a+op.b))).ev.proc)),(ii ((x.setReg op.a (w64 (x.reg op.a+op.b))).ev.arg)),.sl 3 gc 0 (x.setReg op.a (w64 (x.reg op.a+op.b))).out.length false,(ii ((x.setReg op.a (w64 (x.reg op.a+op.b))).n)),.sl 4 gg 0 (x.setReg op.a (w64 (x.reg op.a+op.b))).gone.length false,(bb ((x.setReg op.a (w64 (x.reg op.a+op.b))).over))]] 0,.mp .i64 qh3]):=by
 rw[qd qv9 quu]
 rcases ha with ha|ha
 ·simp only[qgv,ha,Ex.setReg,Ex.reg,qg,qr,qh,qbj,we,wb,wi,wo,qb,wg,wl,wh,qk,wn,ne_eq,zgy,↓qc,↓wf,wc,wa,wk,we,wb,wv,ws,wd]
 ·simp only[qgv,ha,Ex.setReg,Ex.reg,qg,qr,qh,qbj,we,wb,wi,wo,qb,wg,wl,wh,qk,wn,ne_eq,zgy,↓qc,↓wf,wc,wa,wk,we,wb,wv,ws,ww,wd]
section
variable (i:Nat) (q:Pr) (hi:x.ev.proc=i) (hq:x.procs[i]? = some q)
include hi hq
theorem less_ev (ha:op.a=0∨op.a=1):(evL T).call qb7 [.ptr 5 0 0 0,(.agg [(ii op.code),(ii op.a),(ii op.b),(ii op.c)])] [.row 4 [[(ii a0),(ii a1),.sl 2 0 0 am false,(ii a2)]] 0,.row 4 [[(ii 0),(ii 0),.fsl [] false,(ii 0)]] 0,.row 4 ((x.procs).map Pr.r) gp,.row 6 ((x.out).map Evt.r) gc,.row 1 ((x.gone).map qh7) gg,.row 14 [[(ii x.r0),(ii x.r1),.sl 2 gp 0 x.procs.length false,(ii x.sum),(ii x.ev.time),(.fsl ((x.ev.key).map qy) false),(ii x.ev.lp),(ii x.ev.kind),(ii x.ev.proc),(ii x.ev.arg),.sl 3 gc 0 x.out.length false,(ii x.n),.sl 4 gg 0 x.gone.length false,(bb x.over)]] 0,.mp .i64 qh3]=some ((ii 0),[.row 4 [[(ii a0),(ii a1),.sl 2 0 0 am false,(ii a2)]] 0,.row 4 [[(ii 0),(ii 0),.fsl [] false,(ii 0)]] 0,.row 4 (((if x.reg op.a<op.b then x.setP i { q with pc:=op.c }else x).procs).map Pr.r) gp,.row 6 (((if x.reg op.a<op.b then x.setP i { q with pc:=op.c }else x).out).map Evt.r) gc,.row 1 (((if x.reg op.a<op.b then x.setP i { q with pc:=op.c }else x).gone).map qh7) gg,.row 14 [[(ii ((if x.reg op.a<op.b then x.setP i { q with pc:=op.c }else x).r0)),(ii ((if x.reg op.a<op.b then x.setP i { q with pc:=op.c }else x).r1)),.sl 2 gp 0 (if x.reg op.a<op.b then x.setP i { q with pc:=op.c }else x).procs.length false,(ii ((if x.reg op.a<op.b then x.setP i { q with pc:=op.c }else x).sum)),(ii ((if x.reg op.a<op.b then x.setP i { q with pc:=op.c }else x).ev.time)),(.fsl (((if x.reg op.a<op.b then x.setP i { q with pc:=op.c }else x).ev.key).map qy) false),(ii ((if x.reg op.a<op.b then x.setP i { q with pc:=op.c }else x).ev.lp)),(ii ((if x.reg op.a<op.b then x.setP i { q with pc:=op.c }else x).ev.kind)),(ii ((if x.reg op.a<op.b then x.setP i { q with pc:=op.c }else x).ev.proc)),(ii ((if x.reg op.a<op.b then x.setP i { q with pc:=op.c }else x).ev.arg)),.sl 3 gc 0 (if x.reg op.a<op.b then x.setP i { q with pc:=op.c }else x).out.length false,(ii ((if x.reg op.a<op.b then x.setP i { q with pc:=op.c }else x).n)),.sl 4 gg 0 (if x.reg op.a<op.b then x.setP i { q with pc:=op.c }else x).gone.length false,(bb ((if x.reg op.a<op.b then x.setP i { q with pc:=op.c }else x).over))]] 0,.mp .i64 qh3]):=by
 have hp:=(zei.1 hq).1
 have h1:=q08 a0 a1 a2 am x gp gc gg i hi hp
 have hset:(x.procs.map Pr.r).set i [(ii q.prog),(ii op.c),(bb q.alive),(.fsl ((q.timer).map qy) false)]=(x.procs.set i { q with pc:=op.c }).map Pr.r:=by rw[wx];rfl
 have hl:(x.procs.set i { q with pc:=op.c }).length=x.procs.length:=by simp
 rw[qd quh qt8]
 unfold Ex.reg
 rcases ha with ha|ha
 ·by_cases hlt:x.r0<op.b
  ·simp only[qdj,ha,hlt,Ex.setP,h1,hl,zgq,zgt,hq,Pr.r,qg,qr,qh,qbj,we,wb,wi,wo,qb,wg,wl,wh,qk,wn,ne_eq,zgy,↓qc,↓wf,wc,wa,wk,we,wb,wv,ws,wd,hset]
  ·simp only[qdj,ha,hlt,qg,qr,qh,qbj,we,wi,qb,wg,wh,qk,wn,ne_eq,zgy,↓qc,↓wf,wc,wa,wk,we,wv,ws,wd]
 ·have h01:¬(1:Int)=0:=by decide
  by_cases hlt:x.r1<op.b
  ·simp only[qdj,ha,h01,hlt,Ex.setP,h1,hl,zgq,zgt,hq,Pr.r,qg,qr,qh,qbj,we,wb,wi,wo,qb,wg,wl,wh,qk,wn,ne_eq,zgy,↓qc,↓wf,wc,wa,wk,we,wb,wv,ws,wd,hset]
  ·simp only[qdj,ha,h01,hlt,qg,qr,qh,qbj,we,wi,qb,wg,wh,qk,wn,ne_eq,zgy,↓qc,↓wf,wc,wa,wk,we,wv,ws,wd]
theorem qao9 (h:x.Small):(evL T).call qbm [.ptr 5 0 0 0,(.agg [(ii op.code),(ii op.a),(ii op.b),(ii op.c)])] [.row 4 [[(ii a0),(ii a1),.sl 2 0 0 am false,(ii a2)]] 0,.row 4 [[(ii 0),(ii 0),.fsl [] false,(ii 0)]] 0,.row 4 ((x.procs).map Pr.r) gp,.row 6 ((x.out).map Evt.r) gc,.row 1 ((x.gone).map qh7) gg,.row 14 [[(ii x.r0),(ii x.r1),.sl 2 gp 0 x.procs.length false,(ii x.sum),(ii x.ev.time),(.fsl ((x.ev.key).map qy) false),(ii x.ev.lp),(ii x.ev.kind),(ii x.ev.proc),(ii x.ev.arg),.sl 3 gc 0 x.out.length false,(ii x.n),.sl 4 gg 0 x.gone.length false,(bb x.over)]] 0,.mp .i64 qh3]=some ((ii 0),[.row 4 [[(ii a0),(ii a1),.sl 2 0 0 am false,(ii a2)]] 0,.row 4 [[(ii 0),(ii 0),.fsl [] false,(ii 0)]] 0,.row 4 (((x.stopE i q).procs).map Pr.r) gp,.row 6 (((x.stopE i q).out).map Evt.r) gc,.row 1 (((x.stopE i q).gone).map qh7) (if 0<q.timer.length then gg+1 else gg),.row 14 [[(ii ((x.stopE i q).r0)),(ii ((x.stopE i q).r1)),.sl 2 gp 0 (x.stopE i q).procs.length false,(ii ((x.stopE i q).sum)),(ii ((x.stopE i q).ev.time)),(.fsl (((x.stopE i q).ev.key).map qy) false),(ii ((x.stopE i q).ev.lp)),(ii ((x.stopE i q).ev.kind)),(ii ((x.stopE i q).ev.proc)),(ii ((x.stopE i q).ev.arg)),.sl 3 gc 0 (x.stopE i q).out.length false,(ii ((x.stopE i q).n)),.sl 4 (if 0<q.timer.length then gg+1 else gg) 0 (x.stopE i q).gone.length false,(bb ((x.stopE i q).over))]] 0,.mp .i64 qh3]):=by
 have hp:=(zei.1 hq).1
 have h1:=q08 a0 a1 a2 am x gp gc gg i hi hp
 have hset:(x.procs.map Pr.r).set i [(ii q.prog),(ii q.pc),(bb q.alive),.fsl [] false]=(x.procs.set i { q with timer:=[] }).map Pr.r:=by rw[wx];rfl
 have hl:(x.procs.set i { q with timer:=[] }).length=x.procs.length:=by simp
 have hs:(x.gone.length+1)*24≤140737488355328:=by have:=h.gone;omega
 have htl:wp x.gone.length (x.gone.map qh7)=x.gone.map qh7:=ztl (by simp)
 have hr : ∀e:List Int,(x.gone++[e]).map qh7=x.gone.map qh7++[qh7 e]:=fun e=>by rw[wr];rfl
 rw[qd quw qt1]
 unfold Ex.stopE
 by_cases ht:0<q.timer.length
 ·have ht':(q.timer.length:Int)>0:=by omega
  simp only[qgb,ht,ht',h1,hl,hs,htl,hr,qn5,qh7,zgq,zgt,hq,Pr.r,qg,qr,qh,qbj,we,wb,wi,wo,qqk,qb,qaw,wg,wl,wh,qk,wn,ne_eq,zgy,↓qc,↓wf,wc,wa,wk,we,wb,wm,wd,hset]
 ·have ht':¬(q.timer.length:Int)>0:=by omega
  simp only[qgb,ht,ht',h1,zgq,zgt,hq,Pr.r,qg,qr,qh,qbj,we,wi,qb,wg,wh,qk,wn,ne_eq,zgy,↓qc,↓wf,wc,we,wd]
def Ex.spawnE (x:Ex) (op:OpI):Ex:=if x.procs.length<8 then ({ x with procs:=x.procs++[⟨op.a,0,true,[]⟩] }:Ex).create op.b (x.ownE 1 x.procs.length 0)else x
omit hi hq in
theorem spawn_ev (h:x.Small) : ∃gp' gc',(evL T).call qbv [.ptr 5 0 0 0,(.agg [(ii op.code),(ii op.a),(ii op.b),(ii op.c)])] [.row 4 [[(ii a0),(ii a1),.sl 2 0 0 am false,(ii a2)]] 0,.row 4 [[(ii 0),(ii 0),.fsl [] false,(ii 0)]] 0,.row 4 ((x.procs).map Pr.r) gp,.row 6 ((x.out).map Evt.r) gc,.row 1 ((x.gone).map qh7) gg,.row 14 [[(ii x.r0),(ii x.r1),.sl 2 gp 0 x.procs.length false,(ii x.sum),(ii x.ev.time),(.fsl ((x.ev.key).map qy) false),(ii x.ev.lp),(ii x.ev.kind),(ii x.ev.proc),(ii x.ev.arg),.sl 3 gc 0 x.out.length false,(ii x.n),.sl 4 gg 0 x.gone.length false,(bb x.over)]] 0,.mp .i64 qh3]=some ((ii 0),[.row 4 [[(ii a0),(ii a1),.sl 2 0 0 am false,(ii a2)]] 0,.row 4 [[(ii 0),(ii 0),.fsl [] false,(ii 0)]] 0,.row 4 (((x.spawnE op).procs).map Pr.r) gp',.row 6 (((x.spawnE op).out).map Evt.r) gc',.row 1 (((x.spawnE op).gone).map qh7) gg,.row 14 [[(ii ((x.spawnE op).r0)),(ii ((x.spawnE op).r1)),.sl 2 gp' 0 (x.spawnE op).procs.length false,(ii ((x.spawnE op).sum)),(ii ((x.spawnE op).ev.time)),(.fsl (((x.spawnE op).ev.key).map qy) false),(ii ((x.spawnE op).ev.lp)),(ii ((x.spawnE op).ev.kind)),(ii ((x.spawnE op).ev.proc)),(ii ((x.spawnE op).ev.arg)),.sl 3 gc' 0 (x.spawnE op).out.length false,(ii ((x.spawnE op).n)),.sl 4 gg 0 (x.spawnE op).gone.length false,(bb ((x.spawnE op).over))]] 0,.mp .i64 qh3]):=by
 rw[qd qtm qsm]
 unfold Ex.spawnE
 by_cases h8:x.procs.length<8
 ·have h8':(x.procs.length:Int)<8:=by omega
  have hs:(x.procs.length+1)*48≤140737488355328:=by omega
  have htl:wp x.procs.length (x.procs.map Pr.r)=x.procs.map Pr.r:=ztl (by simp)
  have hr : ∀e:Pr,(x.procs++[e]).map Pr.r=x.procs.map Pr.r++[e.r]:=fun e=>by rw[wr];rfl
  have hl : ∀e:Pr,(x.procs++[e]).length=x.procs.length+1:=fun e=>by simp
  have hsm:({ x with procs:=x.procs++[⟨op.a,0,true,[]⟩] }:Ex).Small:=⟨by simp;omega,h.out,h.gone,h.key⟩
  have h1:=qan9 a0 a1 a2 am { x with procs:=x.procs++[⟨op.a,0,true,[]⟩] } (gp+1) gc gg 1 x.procs.length 0
  have h2:=q38 a0 a1 a2 am { x with procs:=x.procs++[⟨op.a,0,true,[]⟩] } (gp+1) gc gg hsm op.b 0 x.ev.lp 1 x.procs.length 0 []
  refine⟨gp+1,qr2 { x with procs:=x.procs++[⟨op.a,0,true,[]⟩] } op.b gc,?_⟩
  simp only[hr,hl,Pr.r,wq]at h1 h2
  simp only[qfh,h8,h8',h1,h2,hs,htl,Ex.ownE,qg,qr,qh,qbj,we,wb,wi,wo,qqk,qb,qaw,wg,wl,wh,qk,wn,ne_eq,zgy,↓qc,↓wf,wc,wa,wk,we,wb,wm,wd]
 ·have h8':¬(x.procs.length:Int)<8:=by omega
  refine⟨gp,gc,?_⟩
  simp only[qfh,h8,h8',qg,qr,qh,qbj,we,wi,qb,wg,wh,qk,wn,ne_eq,zgy,↓qc,↓wf,wc,we,wd]
def Ex.timerE (x:Ex) (i:Nat) (q:Pr) (op:OpI):Ex:=((x.stopE i q).create op.a (x.ownE 2 x.ev.proc op.b)).setP i { q with timer:=(x.stopE i q).kid }
theorem timer_ev (h:x.Small) (hg:x.gone.length<1000) : ∃gc' gg',(evL T).call qbu [.ptr 5 0 0 0,(.agg [(ii op.code),(ii op.a),(ii op.b),(ii op.c)])] [.row 4 [[(ii a0),(ii a1),.sl 2 0 0 am false,(ii a2)]] 0,.row 4 [[(ii 0),(ii 0),.fsl [] false,(ii 0)]] 0,.row 4 ((x.procs).map Pr.r) gp,.row 6 ((x.out).map Evt.r) gc,.row 1 ((x.gone).map qh7) gg,.row 14 [[(ii x.r0),(ii x.r1),.sl 2 gp 0 x.procs.length false,(ii x.sum),(ii x.ev.time),(.fsl ((x.ev.key).map qy) false),(ii x.ev.lp),(ii x.ev.kind),(ii x.ev.proc),(ii x.ev.arg),.sl 3 gc 0 x.out.length false,(ii x.n),.sl 4 gg 0 x.gone.length false,(bb x.over)]] 0,.mp .i64 qh3]=some ((ii 0),[.row 4 [[(ii a0),(ii a1),.sl 2 0 0 am false,(ii a2)]] 0,.row 4 [[(ii 0),(ii 0),.fsl [] false,(ii 0)]] 0,.row 4 (((x.timerE i q op).procs).map Pr.r) gp,.row 6 (((x.timerE i q op).out).map Evt.r) gc',.row 1 (((x.timerE i q op).gone).map qh7) gg',.row 14 [[(ii ((x.timerE i q op).r0)),(ii ((x.timerE i q op).r1)),.sl 2 gp 0 (x.timerE i q op).procs.length false,(ii ((x.timerE i q op).sum)),(ii ((x.timerE i q op).ev.time)),(.fsl (((x.timerE i q op).ev.key).map qy) false),(ii ((x.timerE i q op).ev.lp)),(ii ((x.timerE i q op).ev.kind)),(ii ((x.timerE i q op).ev.proc)),(ii ((x.timerE i q op).ev.arg)),.sl 3 gc' 0 (x.timerE i q op).out.length false,(ii ((x.timerE i q op).n)),.sl 4 gg' 0 (x.timerE i q op).gone.length false,(bb ((x.timerE i q op).over))]] 0,.mp .i64 qh3]):=by
 have h0:=qao9 a0 a1 a2 am x gp gc gg op i q hi hq h
 have hev:(x.stopE i q).ev=x.ev:=by unfold Ex.stopE;split<;>rfl
 have hpl:(x.stopE i q).procs.length=x.procs.length:=by unfold Ex.stopE;split<;>simp
 have hp:=(zei.1 hq).1
 have hsm:(x.stopE i q).Small:=⟨by rw[hpl];exact h.procs,by unfold Ex.stopE;split<;>exact h.out,by
  unfold Ex.stopE;split
  ·simp only[zgp,zga,zgb];omega
  ·exact h.gone,by rw[hev];exact h.key⟩
 generalize (if 0<q.timer.length then gg+1 else gg)=gg' at h0
 have hset2 : ∀k:List Int,(x.stopE i q).procs.set i { q with timer:=k }=x.procs.set i { q with timer:=k }:=fun k=>by
  unfold Ex.stopE;split<;>simp
 have hq2 : ∃q2,(x.stopE i q).procs[i]? = some q2∧q2.prog=q.prog∧q2.pc=q.pc∧q2.alive=q.alive:=by
  by_cases ht:0<q.timer.length
  ·simp only[Ex.stopE,ht,if_true]
   exact⟨{ q with timer:=[] },by rw[wj hp],rfl,rfl,rfl⟩
  ·simp only[Ex.stopE,ht,if_false]
   exact⟨q,hq,rfl,rfl,rfl⟩
 unfold Ex.timerE
 generalize x.stopE i q=y at h0 hev hpl hsm hset2 hq2
 obtain⟨q2,hq2,e1,e2,e3⟩:=hq2
 have hi2:y.ev.proc=i:=by rw[hev];exact hi
 have h1:=q08 a0 a1 a2 am y gp gc gg' i hi2 (by omega)
 have h2:=qan9 a0 a1 a2 am y gp gc gg' 2 y.ev.proc op.b
 have h3:=q38 a0 a1 a2 am y gp gc gg' hsm op.a 0 y.ev.lp 2 y.ev.proc op.b []
 refine⟨qr2 y op.a gc,gg',?_⟩
 have hcp:(y.create op.a ⟨0,[],y.ev.lp,2,y.ev.proc,op.b⟩).procs=y.procs:=rfl
 simp only[Ex.ownE,Ex.setP,←hev]at h0⊢
 generalize qr2 y op.a gc=gc' at h3
 generalize y.create op.a ⟨0,[],y.ev.lp,2,y.ev.proc,op.b⟩=z at h3 hcp
 have hset:(y.procs.map Pr.r).set i [(ii q2.prog),(ii q2.pc),(bb q2.alive),(.fsl ((y.kid).map qy) false)]=(y.procs.set i { q with timer:=y.kid }).map Pr.r:=by rw[wx,e1,e2,e3];rfl
 have hl:(y.procs.set i { q with timer:=y.kid }).length=y.procs.length:=by simp
 rw[qd qtf qse]
 simp only[wq,hcp]at h3
 simp only[qhq,h0,h1,h2,h3,hcp,hl,zgq,zgt,hq2,Pr.r,eq_procs,eq_evts,eq_keys,qaft,eq_table,qg,qr,qh,qbj,we,wi,wo,qzq,Ev.SObj.eqB,qb,wg,wl,wh,qk,wn,ne_eq,zgy,↓qc,↓wf,wc,wa,we,wd,hset]
end
end
set_option maxRecDepth 10000
def qd8 (x:Ex) (i:Nat) (q:Pr) (op:OpI):Ex×Int:=
 if op.code=1 then (x.create op.a (x.ownE 1 x.ev.proc 0),1)
 else if op.code=2 then (x.create op.c ⟨0,[],op.a,3,0,op.b⟩,0)
 else if op.code=3 then (x.timerE i q op,0)
 else if op.code=4 then (x.stopE i q,0)
 else if op.code=5 then (x.spawnE op,0)
 else if op.code=6 then (x.setReg op.a (w64 (x.reg op.a+op.b)),0)
 else if op.code=7 then (if x.reg op.a<op.b then x.setP i { q with pc:=op.c }else x,0)
 else (x,2)
structure OpOk' (op:OpI):Prop where
 code:1≤op.code∧op.code≤8
 reg:op.code=6∨op.code=7→op.a=0∨op.a=1
 to:op.code=7→0≤op.c∧op.c≤1000000
section
variable (a0 a1 a2:Int) (am:Nat) (x:Ex) (gp gc gg:Nat) (op:OpI) (i:Nat) (q:Pr)
theorem step_ev (h:x.Small) (hg:x.gone.length<1000) (hi:x.ev.proc=i) (hq:x.procs[i]? = some q) (ho:OpOk' op) :
  ∃k gp' gc' gg',qanp op.code qh3=some (.fn (.func k) [] [])∧(evL T).call k [.ptr 5 0 0 0,(.agg [(ii op.code),(ii op.a),(ii op.b),(ii op.c)])] [.row 4 [[(ii a0),(ii a1),.sl 2 0 0 am false,(ii a2)]] 0,.row 4 [[(ii 0),(ii 0),.fsl [] false,(ii 0)]] 0,.row 4 ((x.procs).map Pr.r) gp,.row 6 ((x.out).map Evt.r) gc,.row 1 ((x.gone).map qh7) gg,.row 14 [[(ii x.r0),(ii x.r1),.sl 2 gp 0 x.procs.length false,(ii x.sum),(ii x.ev.time),(.fsl ((x.ev.key).map qy) false),(ii x.ev.lp),(ii x.ev.kind),(ii x.ev.proc),(ii x.ev.arg),.sl 3 gc 0 x.out.length false,(ii x.n),.sl 4 gg 0 x.gone.length false,(bb x.over)]] 0,.mp .i64 qh3]=some ((ii ((qd8 x i q op).2)),[.row 4 [[(ii a0),(ii a1),.sl 2 0 0 am false,(ii a2)]] 0,.row 4 [[(ii 0),(ii 0),.fsl [] false,(ii 0)]] 0,.row 4 (((qd8 x i q op).1.procs).map Pr.r) gp',.row 6 (((qd8 x i q op).1.out).map Evt.r) gc',.row 1 (((qd8 x i q op).1.gone).map qh7) gg',.row 14 [[(ii ((qd8 x i q op).1.r0)),(ii ((qd8 x i q op).1.r1)),.sl 2 gp' 0 (qd8 x i q op).1.procs.length false,(ii ((qd8 x i q op).1.sum)),(ii ((qd8 x i q op).1.ev.time)),(.fsl (((qd8 x i q op).1.ev.key).map qy) false),(ii ((qd8 x i q op).1.ev.lp)),(ii ((qd8 x i q op).1.ev.kind)),(ii ((qd8 x i q op).1.ev.proc)),(ii ((qd8 x i q op).1.ev.arg)),.sl 3 gc' 0 (qd8 x i q op).1.out.length false,(ii ((qd8 x i q op).1.n)),.sl 4 gg' 0 (qd8 x i q op).1.gone.length false,(bb ((qd8 x i q op).1.over))]] 0,.mp .i64 qh3]):=by
 have hc:op.code=1∨op.code=2∨op.code=3∨op.code=4∨op.code=5∨op.code=6∨op.code=7∨op.code=8:=by have:=ho.code;omega
 have ne : ∀m n:Int,decide (m=n)=false→¬m=n:=fun m n h=>of_decide_eq_false h
 rcases hc with hc|hc|hc|hc|hc|hc|hc|hc
 ·refine⟨qb5,gp,qr2 x op.a gc,gg,by rw[hc];rfl,?_⟩
  have e:qd8 x i q op=(x.create op.a (x.ownE 1 x.ev.proc 0),1):=by simp[qd8,hc]
  rw[e];exact hold_ev a0 a1 a2 am x gp gc gg op h
 ·refine⟨qb3,gp,qr2 x op.c gc,gg,by rw[hc];rfl,?_⟩
  have e:qd8 x i q op=(x.create op.c ⟨0,[],op.a,3,0,op.b⟩,0):=by simp[qd8,hc]
  rw[e];exact send_ev a0 a1 a2 am x gp gc gg op h
 ·obtain⟨gc',gg',hz⟩:=timer_ev a0 a1 a2 am x gp gc gg op i q hi hq h hg
  refine⟨qbu,gp,gc',gg',by rw[hc];rfl,?_⟩
  have e:qd8 x i q op=(x.timerE i q op,0):=by simp[qd8,hc]
  rw[e];exact hz
 ·refine⟨qbm,gp,gc,(if 0<q.timer.length then gg+1 else gg),by rw[hc];rfl,?_⟩
  have e:qd8 x i q op=(x.stopE i q,0):=by simp[qd8,hc]
  rw[e];exact qao9 a0 a1 a2 am x gp gc gg op i q hi hq h
 ·obtain⟨gp',gc',hz⟩:=spawn_ev a0 a1 a2 am x gp gc gg op h
  refine⟨qbv,gp',gc',gg,by rw[hc];rfl,?_⟩
  have e:qd8 x i q op=(x.spawnE op,0):=by simp[qd8,hc]
  rw[e];exact hz
 ·refine⟨qce,gp,gc,gg,by rw[hc];rfl,?_⟩
  have e:qd8 x i q op=(x.setReg op.a (w64 (x.reg op.a+op.b)),0):=by simp[qd8,hc]
  rw[e];exact add_ev a0 a1 a2 am x gp gc gg op (ho.reg (.inl hc))
 ·refine⟨qb7,gp,gc,gg,by rw[hc];rfl,?_⟩
  have e:qd8 x i q op=(if x.reg op.a<op.b then x.setP i { q with pc:=op.c }else x,0):=by simp[qd8,hc]
  rw[e];exact less_ev a0 a1 a2 am x gp gc gg op i q hi hq (ho.reg (.inr hc))
 ·refine⟨qcg,gp,gc,gg,by rw[hc];rfl,?_⟩
  have e:qd8 x i q op=(x,2):=by simp[qd8,hc]
  rw[e];exact end_ev a0 a1 a2 am x gp gc gg op
end
def qrv (x:Ex) (i:Nat):Ex:=match x.procs[i]? with
 |some q=>x.setP i { q with alive:=false }
 |none=>x
def qpu (p:List OpI) (i:Nat):Nat→Ex→Ex
 | 0,x=>qrv x i
 |n+1,x=>match x.procs[i]? with
  |none=>x
  |some q=>match p[q.pc.toNat]? with
   |none=>qrv x i
   |some op=>
    if (qd8 (x.setP i { q with pc:=w64 (q.pc+1) }) i { q with pc:=w64 (q.pc+1) } op).2=1 then (qd8 (x.setP i { q with pc:=w64 (q.pc+1) }) i { q with pc:=w64 (q.pc+1) } op).1
    else if (qd8 (x.setP i { q with pc:=w64 (q.pc+1) }) i { q with pc:=w64 (q.pc+1) } op).2=2 then qrv (qd8 (x.setP i { q with pc:=w64 (q.pc+1) }) i { q with pc:=w64 (q.pc+1) } op).1 i
    else qpu p i n (qd8 (x.setP i { q with pc:=w64 (q.pc+1) }) i { q with pc:=w64 (q.pc+1) } op).1
structure ActInv (e:Evt) (i n:Nat) (x:Ex):Prop where
 ev:x.ev=e
 has : ∃q,x.procs[i]? = some q∧0≤q.pc∧q.pc≤1000000
 procs:x.procs.length≤20
 out:x.out.length≤n
 gone:x.gone.length≤n
theorem ActInv.small {e:Evt} {i n:Nat} {x:Ex} (h:ActInv e i n x) (hn:n≤100) (hk:e.key.length≤100000):x.Small:=⟨by have:=h.procs;omega,by have:=h.out;omega,by have:=h.gone;omega,by rw[h.ev];exact hk⟩
theorem qak3 (x:Ex) (d:Int) (e:Evt):(x.create d e).out.length≤x.out.length+1:=by
 unfold Ex.create;simp only;split
 ·omega
 ·simp
theorem ActInv.step {e:Evt} {i n:Nat} {x:Ex} (h:ActInv e i n x) {q:Pr} (hq:x.procs[i]? = some q) (hpc:0≤q.pc∧q.pc≤1000000) {op:OpI} (ho:OpOk' op):ActInv e i (n+1) (qd8 x i q op).1:=by
 have hlt:=(zei.1 hq).1
 have hp:=h.procs
 have h1:=h.out
 have h2:=h.gone
 have stop:ActInv e i (n+1) (x.stopE i q)∧(x.stopE i q).out=x.out:=by
  unfold Ex.stopE;split
  ·exact⟨⟨h.ev,⟨{ q with timer:=[] },by simp only;rw[wj hlt],hpc⟩,by simpa using hp,by simp only;omega,by simp;omega⟩,rfl⟩
  ·exact⟨⟨h.ev,⟨q,hq,hpc⟩,hp,by omega,by omega⟩,rfl⟩
 have crt : ∀(y:Ex) (d:Int) (ev:Evt),y.ev=e→(∃q,y.procs[i]? = some q∧0≤q.pc∧q.pc≤1000000)→y.procs.length≤20→y.out.length≤n→y.gone.length≤n+1→ActInv e i (n+1) (y.create d ev):=fun y d ev k1 k2 k3 k4 k5=>
  ⟨k1,k2,k3,by have:=qak3 y d ev;omega,k5⟩
 unfold qd8
 split
 ·exact crt x _ _ h.ev ⟨q,hq,hpc⟩ hp h1 (by omega)
 split
 ·exact crt x _ _ h.ev ⟨q,hq,hpc⟩ hp h1 (by omega)
 split
 ·obtain⟨s1,s2⟩:=stop
  have hc:=crt (x.stopE i q) op.a (x.ownE 2 x.ev.proc op.b) s1.ev s1.has s1.procs (by rw[s2];exact h1) s1.gone
  have hl:i<((x.stopE i q).create op.a (x.ownE 2 x.ev.proc op.b)).procs.length:=by
   obtain⟨q',hq',_⟩:=hc.has
   exact(zei.1 hq').1
  exact⟨hc.ev,⟨{ q with timer:=(x.stopE i q).kid },by simp only[Ex.timerE,Ex.setP];rw[wj hl],hpc⟩,by simp only[Ex.timerE,Ex.setP,wC];exact hc.procs,hc.out,hc.gone⟩
 split
 ·exact stop.1
 split
 ·unfold Ex.spawnE
  split
  ·refine crt _ _ _ h.ev ⟨q,by simp only;rw[List.getElem?_append_left hlt];exact hq,hpc⟩ (by simp;omega) h1 (by simp only;omega)
  ·exact⟨h.ev,⟨q,hq,hpc⟩,hp,by first|omega|(simp only;omega),by first|omega|(simp only;omega)⟩
 split
 ·unfold Ex.setReg
  split<;>exact⟨h.ev,⟨q,hq,hpc⟩,hp,by first|omega|(simp only;omega),by first|omega|(simp only;omega)⟩
 split
 ·rename_i h7
  simp only
  split
  ·exact⟨h.ev,⟨{ q with pc:=op.c },by simp only[Ex.setP];rw[wj hlt],ho.to h7⟩,by simp only[Ex.setP,wC];exact hp,by simp only[Ex.setP];omega,by simp only[Ex.setP];omega⟩
  ·exact⟨h.ev,⟨q,hq,hpc⟩,hp,by first|omega|(simp only;omega),by first|omega|(simp only;omega)⟩
 ·exact⟨h.ev,⟨q,hq,hpc⟩,hp,by first|omega|(simp only;omega),by first|omega|(simp only;omega)⟩
set_option maxRecDepth 10000
theorem ActInv.pc {e:Evt} {i n:Nat} {x:Ex} (h:ActInv e i n x) {q:Pr} (hq:x.procs[i]? = some q) {pc:Int} (hp:0≤pc∧pc≤1000000) (al:Bool):ActInv e i n (x.setP i { q with pc:=pc,alive:=al }):=by
 have hlt:=(zei.1 hq).1
 exact⟨h.ev,⟨{ q with pc:=pc,alive:=al },by simp only[Ex.setP];rw[wj hlt],hp⟩,by simp only[Ex.setP,wC];exact h.procs,h.out,h.gone⟩
section
variable (a0 a1 a2:Int) (am:Nat) (e0:Evt) (i:Nat) (p:List OpI) (cl:Bool)
def ActEnd (a0 a1 a2:Int) (am:Nat) (e0:Evt) (i:Nat) (F:Ex) (y:CExit×Env×qj):Prop:=
 ∃z gp gc gg,y.2.2=[.row 4 [[(ii a0),(ii a1),.sl 2 0 0 am false,(ii a2)]] 0,.row 4 [[(ii 0),(ii 0),.fsl [] false,(ii 0)]] 0,.row 4 ((z.procs).map Pr.r) gp,.row 6 ((z.out).map Evt.r) gc,.row 1 ((z.gone).map qh7) gg,.row 14 [[(ii z.r0),(ii z.r1),.sl 2 gp 0 z.procs.length false,(ii z.sum),(ii z.ev.time),(.fsl ((z.ev.key).map qy) false),(ii z.ev.lp),(ii z.ev.kind),(ii z.ev.proc),(ii z.ev.arg),.sl 3 gc 0 z.out.length false,(ii z.n),.sl 4 gg 0 z.gone.length false,(bb z.over)]] 0,.mp .i64 qh3]∧y.2.1.marks=[]∧((y.1 = .ret∧z=F∧ActInv e0 i 16 z)∨(y.1 = .exit 0∧wt y.2.1.vars 0=some (.ptr 5 0 0 0)∧qrv z i=F∧ActInv e0 i 16 z))
theorem act_loop (hk:e0.key.length≤100000) (hpr:e0.proc=i) (hpl:p.length≤1000) (hok : ∀op∈p,OpOk' op) (x:Ex) (gp gc gg:Nat) (h0:ActInv e0 i 0 x) :
  ∃y,itB (exec (evL T) itL none qba) (qu [0,1,4,7] true 7) ⟨[(0,.ptr 5 0 0 0),(1,(.fsl ((p).map OpI.r) cl)),(4,.mp 6),(7,(ii 0))],[]⟩ [.row 4 [[(ii a0),(ii a1),.sl 2 0 0 am false,(ii a2)]] 0,.row 4 [[(ii 0),(ii 0),.fsl [] false,(ii 0)]] 0,.row 4 ((x.procs).map Pr.r) gp,.row 6 ((x.out).map Evt.r) gc,.row 1 ((x.gone).map qh7) gg,.row 14 [[(ii x.r0),(ii x.r1),.sl 2 gp 0 x.procs.length false,(ii x.sum),(ii x.ev.time),(.fsl ((x.ev.key).map qy) false),(ii x.ev.lp),(ii x.ev.kind),(ii x.ev.proc),(ii x.ev.arg),.sl 3 gc 0 x.out.length false,(ii x.n),.sl 4 gg 0 x.gone.length false,(bb x.over)]] 0,.mp .i64 qh3]=some y∧ActEnd a0 a1 a2 am e0 i (qpu p i 16 x) y:=by
 have:=qcq (f:=exec (evL T) itL none qba) (s:=qu [0,1,4,7] true 7) (α:=Ex×Nat×Nat×Nat) (fun j _=>⟨[(0,.ptr 5 0 0 0),(1,(.fsl ((p).map OpI.r) cl)),(4,.mp 6),(7,(ii ((j:Int))))],[]⟩) (fun _ a=>[.row 4 [[(ii a0),(ii a1),.sl 2 0 0 am false,(ii a2)]] 0,.row 4 [[(ii 0),(ii 0),.fsl [] false,(ii 0)]] 0,.row 4 ((a.1.procs).map Pr.r) a.2.1,.row 6 ((a.1.out).map Evt.r) a.2.2.1,.row 1 ((a.1.gone).map qh7) a.2.2.2,.row 14 [[(ii a.1.r0),(ii a.1.r1),.sl 2 a.2.1 0 a.1.procs.length false,(ii a.1.sum),(ii a.1.ev.time),(.fsl ((a.1.ev.key).map qy) false),(ii a.1.ev.lp),(ii a.1.ev.kind),(ii a.1.ev.proc),(ii a.1.ev.arg),.sl 3 a.2.2.1 0 a.1.out.length false,(ii a.1.n),.sl 4 a.2.2.2 0 a.1.gone.length false,(bb a.1.over)]] 0,.mp .i64 qh3])
  (fun j a=>ActInv e0 i j a.1∧qpu p i (16-j) a.1=qpu p i 16 x) 16 (ActEnd a0 a1 a2 am e0 i (qpu p i 16 x)) ?_ ?_ 0 (x,gp,gc,gg) (Nat.zero_le _) ⟨h0,rfl⟩
 ·exact this
 ·rintro j ⟨y,gp,gc,gg⟩ hj ⟨hi1,hi2⟩
  simp only at hi1 hi2⊢
  obtain⟨q,hq,hpc⟩:=hi1.has
  have hlt:=(zei.1 hq).1
  have hpr':y.ev.proc=i:=by rw[hi1.ev];exact hpr
  have hj':(j:Int)<16:=by omega
  have hw:IntKind.i64.wrap ((j:Int)+1)=((j+1:Nat):Int):=by rw[qi (by omega) (by omega)];simp
  have s1:=q08 a0 a1 a2 am y gp gc gg i hpr' hlt
  rw[show 16-j=(16-(j+1))+1 from by omega,qpu,hq]at hi2
  simp only at hi2
  cases hop:p[q.pc.toNat]? with
  |none=>
   rw[hop]at hi2
   simp only at hi2
   have hge:q.pc≥(p.length:Int):=by have:=List.getElem?_eq_none_iff.1 hop;omega
   right
   simp only[qba,hj',hge,s1,zgq,zgt,hq,Pr.r,wi,qb,zgy,↓qc,↓wf,wa,wd]
   exact⟨_,rfl,y,gp,gc,gg,rfl,rfl,.inr ⟨rfl,rfl,hi2,⟨hi1.ev,hi1.has,hi1.procs,by have:=hi1.out;omega,by have:=hi1.gone;omega⟩⟩⟩
  |some op=>
   rw[hop]at hi2
   simp only at hi2
   have hlp:=(zei.1 hop).1
   have hge:¬q.pc≥(p.length:Int):=by omega
   have hwq:w64 (q.pc+1)=q.pc+1:=qi (by omega) (by omega)
   have hwq':IntKind.i64.wrap (q.pc+1)=q.pc+1:=hwq
   have hset:(y.procs.map Pr.r).set i [(ii q.prog),(ii (q.pc+1)),(bb q.alive),(.fsl ((q.timer).map qy) false)]=(y.procs.set i { q with pc:=q.pc+1 }).map Pr.r:=by rw[wx];rfl
   have hl:(y.procs.set i { q with pc:=q.pc+1 }).length=y.procs.length:=by simp
   rw[hwq]at hi2
   have hz:ActInv e0 i j (y.setP i { q with pc:=q.pc+1 }):=hi1.pc hq (by omega) q.alive
   have hzq:(y.setP i { q with pc:=q.pc+1 }).procs[i]? = some { q with pc:=q.pc+1 }:=by simp only[Ex.setP];rw[wj hlt]
   have hzp:(y.setP i { q with pc:=q.pc+1 }).ev.proc=i:=hpr'
   have hoo:=hok op (zmg hop)
   have hn:=hz.step hzq (show 0≤q.pc+1∧q.pc+1≤1000000 by omega) hoo
   obtain⟨k,gp',gc',gg',t1,t2⟩:=step_ev a0 a1 a2 am (y.setP i { q with pc:=q.pc+1 }) gp gc gg op i { q with pc:=q.pc+1 } (hz.small (by omega) hk) (by have:=hz.gone;omega) hzp hzq hoo
   generalize hS:qd8 (y.setP i { q with pc:=q.pc+1 }) i { q with pc:=q.pc+1 } op=S at hi2 hn t2
   obtain⟨z,sig⟩:=S
   simp only at hi2 hn t2
   have hsig:sig=0∨sig=1∨sig=2:=by
    have:(qd8 (y.setP i { q with pc:=q.pc+1 }) i { q with pc:=q.pc+1 } op).2=sig:=by rw[hS]
    rw[←this]
    unfold qd8
    repeat' (first|(split)|exact .inl rfl|exact .inr (.inl rfl)|exact .inr (.inr rfl))
   simp only[Ex.setP,hl]at t2
   obtain⟨qz,hqz,hqzp⟩:=hn.has
   have hltz:=(zei.1 hqz).1
   have s2:=q08 a0 a1 a2 am z gp' gc' gg' i (by rw[hn.ev];exact hpr) hltz
   rcases hsig with rfl|rfl|rfl
   ·left
    refine⟨(z,gp',gc',gg'),?_,hn,?_⟩
    ·simp only[qba,hj',hge,s1,hpc,hop,hwq',t1,t2,hw,zgq,zgt,hq,Pr.r,OpI.r,qij,qg,qr,qh,qbj,we,wb,wi,wo,qb,wg,wl,wh,wn,zgy,↓qc,↓wf,wc,wa,we,wb,ww,wd,hset]
    ·simp only[show ¬(0:Int)=1 from by decide,show ¬(0:Int)=2 from by decide,if_false]at hi2
     exact hi2
   ·right
    simp only[if_true]at hi2
    simp only[qba,hj',hge,s1,hpc,hop,hwq',t1,t2,zgq,zgt,hq,Pr.r,OpI.r,wb,wi,wo,qb,wg,wl,wh,zgy,↓qc,↓wf,wc,wa,wb,wd,hset]
    exact⟨_,rfl,z,gp',gc',gg',rfl,rfl,.inl ⟨rfl,hi2,⟨hn.ev,hn.has,hn.procs,by have:=hn.out;omega,by have:=hn.gone;omega⟩⟩⟩
   ·right
    simp only[show ¬(2:Int)=1 from by decide,if_true,if_false]at hi2
    have hkz:qrv z i=z.setP i { qz with alive:=false }:=by unfold qrv;rw[hqz]
    rw[hkz]at hi2
    have hset2:(z.procs.map Pr.r).set i [(ii qz.prog),(ii qz.pc),(bb false),(.fsl ((qz.timer).map qy) false)]=(z.procs.set i { qz with alive:=false }).map Pr.r:=by rw[wx];rfl
    have hl2:(z.procs.set i { qz with alive:=false }).length=z.procs.length:=by simp
    have hfin:=hn.pc hqz hqzp false
    simp only[qba,hj',hge,s1,hpc,hop,hwq',t1,t2,s2,zgq,zgt,hq,hqz,Pr.r,OpI.r,wb,wi,wo,qb,wg,wl,wh,zgy,↓qc,↓wf,wc,wa,wb,ww,wd,hset,hset2]
    refine⟨_,rfl,z.setP i { qz with alive:=false },gp',gc',gg',?_,rfl,.inl ⟨rfl,hi2,⟨hfin.ev,hfin.has,hfin.procs,by have:=hfin.out;omega,by have:=hfin.gone;omega⟩⟩⟩
    simp only[Ex.setP,hl2]
 ·rintro⟨y,gp,gc,gg⟩ ⟨hi1,hi2⟩
  simp only[qba,wz,wi,zgy,↓qc,↓wf,wa,wd]
  exact⟨_,rfl,y,gp,gc,gg,rfl,rfl,.inr ⟨rfl,rfl,hi2,hi1⟩⟩
end
set_option maxRecDepth 10000
theorem qz1:(evL T).call qee [] []=some (.mp 0,[.mp .i64 qh3]):=by
 rw[qd qwr qvl]
 simp only[qjt,qh3,wi,qk,zgy,↓qc,↓wf,we,ww]
section
variable (a0 a1 a2:Int) (am:Nat) (e0:Evt) (i:Nat) (p:List OpI) (cl:Bool)
theorem qaju (hk:e0.key.length≤100000) (hpr:e0.proc=i) (hpl:p.length≤1000) (hok : ∀op∈p,OpOk' op) (x:Ex) (gp gc gg:Nat) (h0:ActInv e0 i 0 x) :
  ∃gp' gc' gg',(evL T).call qch [.ptr 5 0 0 0,(.fsl ((p).map OpI.r) cl)] [.row 4 [[(ii a0),(ii a1),.sl 2 0 0 am false,(ii a2)]] 0,.row 4 [[(ii 0),(ii 0),.fsl [] false,(ii 0)]] 0,.row 4 ((x.procs).map Pr.r) gp,.row 6 ((x.out).map Evt.r) gc,.row 1 ((x.gone).map qh7) gg,.row 14 [[(ii x.r0),(ii x.r1),.sl 2 gp 0 x.procs.length false,(ii x.sum),(ii x.ev.time),(.fsl ((x.ev.key).map qy) false),(ii x.ev.lp),(ii x.ev.kind),(ii x.ev.proc),(ii x.ev.arg),.sl 3 gc 0 x.out.length false,(ii x.n),.sl 4 gg 0 x.gone.length false,(bb x.over)]] 0]=some (.tup [],[.row 4 [[(ii a0),(ii a1),.sl 2 0 0 am false,(ii a2)]] 0,.row 4 [[(ii 0),(ii 0),.fsl [] false,(ii 0)]] 0,.row 4 (((qpu p i 16 x).procs).map Pr.r) gp',.row 6 (((qpu p i 16 x).out).map Evt.r) gc',.row 1 (((qpu p i 16 x).gone).map qh7) gg',.row 14 [[(ii ((qpu p i 16 x).r0)),(ii ((qpu p i 16 x).r1)),.sl 2 gp' 0 (qpu p i 16 x).procs.length false,(ii ((qpu p i 16 x).sum)),(ii ((qpu p i 16 x).ev.time)),(.fsl (((qpu p i 16 x).ev.key).map qy) false),(ii ((qpu p i 16 x).ev.lp)),(ii ((qpu p i 16 x).ev.kind)),(ii ((qpu p i 16 x).ev.proc)),(ii ((qpu p i 16 x).ev.arg)),.sl 3 gc' 0 (qpu p i 16 x).out.length false,(ii ((qpu p i 16 x).n)),.sl 4 gg' 0 (qpu p i 16 x).gone.length false,(bb ((qpu p i 16 x).over))]] 0])∧ActInv e0 i 16 (qpu p i 16 x):=by
 obtain⟨⟨y,e,σ⟩,k1,z,gp',gc',gg',k2,k3,k4⟩:=act_loop a0 a1 a2 am e0 i p cl hk hpr hpl hok x gp gc gg h0
 simp only at k2 k3 k4
 subst k2
 generalize qpu p i 16 x=F at k4
 rw[qd qry qqz]
 rcases k4 with ⟨rfl,rfl,k5⟩|⟨rfl,k5,k6,k7⟩
 ·refine⟨gp',gc',gg',?_,k5⟩
  simp only[qei,qz1,k1,k3,qij,qg,qr,qh,qbj,we,wi,q3y,qk,wn,zgy,↓qc,↓qq,↓wf,wc,wa,we,wd]
 ·obtain⟨q,hq,hpc⟩:=k7.has
  have hlt:=(zei.1 hq).1
  have s2:=q08 a0 a1 a2 am z gp' gc' gg' i (by rw[k7.ev];exact hpr) hlt
  have hkz:qrv z i=z.setP i { q with alive:=false }:=by unfold qrv;rw[hq]
  rw[hkz]at k6
  have hset:(z.procs.map Pr.r).set i [(ii q.prog),(ii q.pc),(bb false),(.fsl ((q.timer).map qy) false)]=(z.procs.set i { q with alive:=false }).map Pr.r:=by rw[wx];rfl
  have hl:(z.procs.set i { q with alive:=false }).length=z.procs.length:=by simp
  have hfin:=k7.pc hq hpc false
  subst k6
  refine⟨gp',gc',gg',?_,hfin⟩
  simp only[Ex.setP,hl]
  simp only[qei,qz1,k1,k3,k5,s2,zgq,zgt,hq,Pr.r,qij,qg,qr,qh,qbj,we,wb,wi,wo,q3y,wg,wl,wh,qk,wn,zgy,↓qc,↓qq,↓wf,wc,wa,we,wb,wd,hset]
end
set_option maxRecDepth 10000
theorem qad2 (l:List Pr) (c:Bool) (h:l.length≤1000):(evL T).call qc1 [(.fsl ((l).map Pr.r) c)] []=some (.sl 0 0 0 l.length false,[.row 4 (l.map Pr.r) 0]):=by
 have h':l.length*48≤140737488355328:=by omega
 rw[q6q qpk]
 simp only[qu0,qr,qae6,h',wi,zgy,↓wf,we,wm]
theorem qakr (a0 a1 a2:Int) (am:Nat) (x:Ex) (gp gc gg:Nat) (i:Nat) (hi:x.ev.proc=i) (hp:i<x.procs.length) :
  (evL T).call qah [.ptr 5 0 0 0] [.row 4 [[(ii a0),(ii a1),.sl 2 0 0 am false,(ii a2)]] 0,.row 4 [[(ii 0),(ii 0),.fsl [] false,(ii 0)]] 0,.row 4 ((x.procs).map Pr.r) gp,.row 6 ((x.out).map Evt.r) gc,.row 1 ((x.gone).map qh7) gg,.row 14 [[(ii x.r0),(ii x.r1),.sl 2 gp 0 x.procs.length false,(ii x.sum),(ii x.ev.time),(.fsl ((x.ev.key).map qy) false),(ii x.ev.lp),(ii x.ev.kind),(ii x.ev.proc),(ii x.ev.arg),.sl 3 gc 0 x.out.length false,(ii x.n),.sl 4 gg 0 x.gone.length false,(bb x.over)]] 0]=some (.ptr 2 gp i 0,[.row 4 [[(ii a0),(ii a1),.sl 2 0 0 am false,(ii a2)]] 0,.row 4 [[(ii 0),(ii 0),.fsl [] false,(ii 0)]] 0,.row 4 ((x.procs).map Pr.r) gp,.row 6 ((x.out).map Evt.r) gc,.row 1 ((x.gone).map qh7) gg,.row 14 [[(ii x.r0),(ii x.r1),.sl 2 gp 0 x.procs.length false,(ii x.sum),(ii x.ev.time),(.fsl ((x.ev.key).map qy) false),(ii x.ev.lp),(ii x.ev.kind),(ii x.ev.proc),(ii x.ev.arg),.sl 3 gc 0 x.out.length false,(ii x.n),.sl 4 gg 0 x.gone.length false,(bb x.over)]] 0]):=by
 rw[qd qod qni]
 simp only[qf6,hi,hp,zgs,zgr,qg,qr,qh,qbj,we,wi,qb,qk,wn,zgy,↓qc,↓wf,wc,wa,we,wd]
def qcw (x:Lp) (e:Evt):Ex:=⟨x.r0,x.r1,x.procs,x.sum,e,[],0,[],false⟩
def qmp (e:Evt) (q:Pr):Pr:=if e.kind=2 then { q with pc:=e.arg,timer:=if q.timer=e.key then []else q.timer }else q
def qagv (x:Ex):Lp:=⟨x.r0,x.r1,x.procs,x.sum⟩
def qr6 (x:Lp) (e:Evt):Option Pr:=if (e.kind=1∨e.kind=2)∧0≤e.proc then (x.procs[e.proc.toNat]?).bind fun q=>if q.alive=true then some q else none else none
def qyq (c:Cfg) (x:Lp) (e:Evt) (q:Pr):Ex:=qpu ((c.progs[q.prog.toNat]?).getD []) e.proc.toNat 16 ((qcw x e).setP e.proc.toNat (qmp e q))
structure q5m (c:Cfg) (x:Lp) (e:Evt):Prop where
 procs:x.procs.length≤20
 key:e.key.length≤100000
 proc : ∀q∈x.procs,0≤q.prog∧q.prog<c.progs.length∧0≤q.pc∧q.pc≤1000000∧q.timer.length≤100000
 prog : ∀p∈c.progs,p.length≤1000 ∧ ∀op∈p,OpOk' op
 arg:e.kind=2→0≤e.arg∧e.arg≤1000000
section
variable (c:Cfg) (x:Lp) (e:Evt)
theorem Exec_msg (hk:e.kind=3):qm (evL T) qfl [(.agg [(.fsl ((c.lps).map lpC) false),(.fsl ((c.progs).map qau) false),(ii c.look),(ii c.fin),(ii c.cap)]),(.agg [(ii x.r0),(ii x.r1),(.fsl ((x.procs).map Pr.r) false),(ii x.sum)]),(.agg [(ii e.time),(.fsl ((e.key).map qy) false),(ii e.lp),(ii e.kind),(ii e.proc),(ii e.arg)])]=some (.tup [(.agg [(ii ((⟨x.r0,x.r1,x.procs,w64 (x.sum+e.arg)⟩:Lp).r0)),(ii ((⟨x.r0,x.r1,x.procs,w64 (x.sum+e.arg)⟩:Lp).r1)),(.fsl (((⟨x.r0,x.r1,x.procs,w64 (x.sum+e.arg)⟩:Lp).procs).map Pr.r) false),(ii ((⟨x.r0,x.r1,x.procs,w64 (x.sum+e.arg)⟩:Lp).sum))]),.fsl [] true,.fsl [] true,(bb false)]):=by
 rw[qm,qd qox qn9]
 simp only[qbi,hk,qr,wi,wo,qb,wg,wl,wh,qk,ne_eq,zgy,↓qc,↓wf,wc,wa,wd]
theorem qaor (hk:¬e.kind=3) (ha:qr6 x e=none):qm (evL T) qfl [(.agg [(.fsl ((c.lps).map lpC) false),(.fsl ((c.progs).map qau) false),(ii c.look),(ii c.fin),(ii c.cap)]),(.agg [(ii x.r0),(ii x.r1),(.fsl ((x.procs).map Pr.r) false),(ii x.sum)]),(.agg [(ii e.time),(.fsl ((e.key).map qy) false),(ii e.lp),(ii e.kind),(ii e.proc),(ii e.arg)])]=some (.tup [(.agg [(ii x.r0),(ii x.r1),(.fsl ((x.procs).map Pr.r) false),(ii x.sum)]),.fsl [] true,.fsl [] true,(bb false)]):=by
 rw[qm,qd qox qn9]
 by_cases k1:e.kind=1
 case neg=>
  by_cases k2:e.kind=2
  case neg=>simp only[qbi,hk,k1,k2,qr,wi,wo,qb,wg,wh,qk,ne_eq,zgy,↓qc,↓wf,wc,wa,wd]
  by_cases h1:e.proc<0
  ·simp only[qbi,k2,h1,qr,wi,wo,qb,wg,wh,qk,ne_eq,zgy,↓qc,↓wf,wc,wa,ww,wd]
  by_cases h2:e.proc≥(x.procs.length:Int)
  ·simp only[qbi,k2,h1,h2,qr,wi,wo,qb,wg,wh,qk,ne_eq,zgy,↓qc,↓wf,wc,wa,ww,wd]
  obtain⟨q,hq⟩ : ∃q,x.procs[e.proc.toNat]? = some q:=⟨_,zgE (by omega)⟩
  have h0:0≤e.proc:=by omega
  have hal:q.alive=false:=by
   unfold qr6 at ha
   rw[if_pos ⟨.inr k2,h0⟩,hq]at ha
   cases h:q.alive with
   |false=>rfl
   |true=>simp[h]at ha
  simp only[qbi,k2,h0,h1,h2,hq,hal,zgq,zgt,Pr.r,qr,wi,wo,qb,wg,wh,qk,ne_eq,zgy,↓qc,↓wf,wc,wa,ww,wd]
 by_cases h1:e.proc<0
 ·simp only[qbi,k1,h1,qr,wi,wo,qb,wg,wh,qk,ne_eq,zgy,↓qc,↓wf,wc,wa,ww,wd]
 by_cases h2:e.proc≥(x.procs.length:Int)
 ·simp only[qbi,k1,h1,h2,qr,wi,wo,qb,wg,wh,qk,ne_eq,zgy,↓qc,↓wf,wc,wa,ww,wd]
 obtain⟨q,hq⟩ : ∃q,x.procs[e.proc.toNat]? = some q:=⟨_,zgE (by omega)⟩
 have h0:0≤e.proc:=by omega
 have hal:q.alive=false:=by
  unfold qr6 at ha
  rw[if_pos ⟨.inl k1,h0⟩,hq]at ha
  cases h:q.alive with
  |false=>rfl
  |true=>simp[h]at ha
 simp only[qbi,k1,h0,h1,h2,hq,hal,zgq,zgt,Pr.r,qr,wi,wo,qb,wg,wh,qk,ne_eq,zgy,↓qc,↓wf,wc,wa,ww,wd]
end
set_option maxRecDepth 10000
section
variable (c:Cfg) (x:Lp) (e:Evt)
theorem qabn (h:q5m c x e) {i:Nat} {q:Pr} (hi:e.proc=i) (hq:x.procs[i]? = some q):ActInv e i 0 ((qcw x e).setP i (qmp e q)):=by
 have hlt:=(zei.1 hq).1
 obtain⟨p1,p2,p3,p4,p5⟩:=h.proc q (zmg hq)
 refine⟨rfl,⟨qmp e q,by simp only[Ex.setP,qcw];rw[wj hlt],?_⟩,by simp only[Ex.setP,qcw,wC];exact h.procs,Nat.le_refl _,Nat.le_refl _⟩
 unfold qmp
 by_cases k:e.kind=2
 ·rw[if_pos k];exact h.arg k
 ·rw[if_neg k];exact⟨p3,p4⟩
theorem qacg (q:Pr):(qmp e q).prog=q.prog:=by unfold qmp;split<;>rfl
theorem Exec_run (h:q5m c x e) {q:Pr} (ha:qr6 x e=some q) :
  qm (evL T) qfl [(.agg [(.fsl ((c.lps).map lpC) false),(.fsl ((c.progs).map qau) false),(ii c.look),(ii c.fin),(ii c.cap)]),(.agg [(ii x.r0),(ii x.r1),(.fsl ((x.procs).map Pr.r) false),(ii x.sum)]),(.agg [(ii e.time),(.fsl ((e.key).map qy) false),(ii e.lp),(ii e.kind),(ii e.proc),(ii e.arg)])]=some (.tup [(.agg [(ii ((qagv (qyq c x e q)).r0)),(ii ((qagv (qyq c x e q)).r1)),(.fsl (((qagv (qyq c x e q)).procs).map Pr.r) false),(ii ((qagv (qyq c x e q)).sum))]),(.fsl (((qyq c x e q).out).map Evt.r) false),(.fsl (((qyq c x e q).gone).map qh7) false),(bb ((qyq c x e q).over))]):=by
 unfold qr6 at ha
 split at ha
 case isFalse=>cases ha
 rename_i hc
 obtain⟨hkind,h0⟩:=hc
 obtain⟨i,hi⟩ : ∃i:Nat,e.proc=i:=⟨_,(Int.toNat_of_nonneg h0).symm⟩
 have hin:e.proc.toNat=i:=by omega
 rw[hin,zob]at ha
 obtain⟨q',hq,ha⟩:=ha
 split at ha
 case isFalse=>cases ha
 rename_i hal
 cases ha
 have hlt:=(zei.1 hq).1
 obtain⟨p1,p2,p3,p4,p5⟩:=h.proc q (zmg hq)
 obtain⟨p,hp⟩ : ∃p,c.progs[q.prog.toNat]? = some p:=⟨_,zgE (by omega)⟩
 obtain⟨pl,pok⟩:=h.prog p (zmg hp)
 have hinv:=qabn c x e h hi hq
 obtain⟨gp,gc,gg,hact,hend⟩:=qaju x.r0 x.r1 x.sum x.procs.length e i p false h.key hi pl pok ((qcw x e).setP i (qmp e q)) 0 0 0 hinv
 have hrun:qyq c x e q=qpu p i 16 ((qcw x e).setP i (qmp e q)):=by unfold qyq;rw[hin,hp];rfl
 rw[hrun]
 generalize qpu p i 16 ((qcw x e).setP i (qmp e q))=F at hact hend
 have hcl:=qad2 x.procs false (by have:=h.procs;omega)
 have h1:¬e.proc<0:=by omega
 have h2:¬e.proc≥(x.procs.length:Int):=by omega
 have h9:((i:Int)).toNat=i:=Int.toNat_natCast i
 have h3:¬e.kind=3:=by omega
 have s0:=qakr x.r0 x.r1 x.sum x.procs.length (qcw x e) 0 0 0 i hi hlt
 have hset:(x.procs.map Pr.r).set i [(ii ((qmp e q).prog)),(ii ((qmp e q).pc)),(bb ((qmp e q).alive)),(.fsl (((qmp e q).timer).map qy) false)]=(x.procs.set i (qmp e q)).map Pr.r:=by rw[wx];rfl
 have hl:(x.procs.set i (qmp e q)).length=x.procs.length:=by simp
 have hq2:(x.procs.set i (qmp e q))[i]? = some (qmp e q):=by rw[wj hlt]
 have s1:=qakr x.r0 x.r1 x.sum x.procs.length ((qcw x e).setP i (qmp e q)) 0 0 0 i hi (by simp only[Ex.setP,qcw,wC];exact hlt)
 rw[hi]at h0 h1 h2
 simp only[qcw,wq,zgb,hi]at s0
 simp only[qcw,Ex.setP,wq,zgb,hl,hi]at s1 hact
 have ft : ∀ {τ:Type} (l:List τ) (f:τ→List AV),wp l.length (l.map f)=l.map f:=fun l f=>ztl (by simp)
 have hpr:=qacg e q
 rw[qm,qd qox qn9]
 rcases hkind with k1|k2
 ·have hwk:qmp e q=q:=by unfold qmp;rw[if_neg (by omega)]
  have hss:x.procs.set i q=x.procs:=by
   obtain⟨hlt',hge⟩:=zei.1 hq
   rw[←hge,List.set_getElem_self]
  rw[hwk,hss]at hact
  have k2:¬e.kind=2:=by omega
  have k3:¬(1:Int)=3:=by decide
  have k4:¬(1:Int)=2:=by decide
  simp only[k1]at s0 hact⊢
  simp only[qbi,k3,k4,h0,h1,h2,hi,hq,hal,hcl,s0,p1,hp,hact,ft,qagv,zgr,zgq,zgt,Pr.r,qau,qr,qh,qbj,we,wb,wi,wo,q3y,qb,wg,wl,wh,qk,Ev.AV.obj?,ne_eq,zgy,↓qc,↓wf,wc,wa,Nat.reduceBEq,we,wb,wd]
  done
 ·have k1:¬(2:Int)=1:=by decide
  have k3:¬(2:Int)=3:=by decide
  have hkl:=h.key
  have hwk:qmp e q = { q with pc:=e.arg,timer:=if q.timer=e.key then []else q.timer }:=by unfold qmp;rw[if_pos k2]
  obtain⟨qp,qpc,qa,qt⟩:=q
  dsimp only at *
  subst hal
  have heq:=qz4 qt e.key false false (by omega) (by omega)
  have hset1:(x.procs.map Pr.r).set i [(ii qp),(ii e.arg),(bb true),(.fsl ((qt).map qy) false)]=(x.procs.set i ⟨qp,e.arg,true,qt⟩).map Pr.r:=by rw[wx];rfl
  have hg1:(x.procs.set i ⟨qp,e.arg,true,qt⟩)[i]? = some ⟨qp,e.arg,true,qt⟩:=by rw[wj hlt]
  have hset2:((x.procs.set i ⟨qp,e.arg,true,qt⟩).map Pr.r).set i [(ii qp),(ii e.arg),(bb true),.fsl [] false]=(x.procs.set i ⟨qp,e.arg,true,[]⟩).map Pr.r:=by
   have:x.procs.set i ⟨qp,e.arg,true,[]⟩=(x.procs.set i ⟨qp,e.arg,true,qt⟩).set i ⟨qp,e.arg,true,[]⟩:=by rw[wD]
   rw[this,wx (l:=x.procs.set i ⟨qp,e.arg,true,qt⟩)];rfl
  have hl1:(x.procs.set i ⟨qp,e.arg,true,qt⟩).length=x.procs.length:=by simp
  rw[hwk]at s1 hact hq2
  simp only[k2]at s0 s1 hact⊢
  by_cases ht:qt=e.key
  ·simp only[ht,if_true]at s1 hact hq2
   simp only[ht,zgv]at heq
   simp only[ht]at hset1 hset2 hg1
   simp only[qbi,k1,k3,h0,h1,h2,hi,hq,hcl,s0,s1,p1,hp,hact,ft,heq,hset1,hset2,hg1,hq2,ht,qagv,zgr,zgq,zgt,Pr.r,qau,qg,qr,qh,qbj,we,wb,wi,wo,q3y,qb,wg,wl,wh,qk,Ev.AV.obj?,ne_eq,zgy,↓qc,↓wf,wc,wa,Nat.reduceBEq,we,wb,wd]
   done
  ·simp only[ht,if_false]at s1 hact hq2
   simp only[ht,zgw]at heq
   simp only[qbi,k1,k3,h0,h1,h2,hi,hq,hcl,s0,s1,p1,hp,hact,ft,heq,hset1,hg1,qagv,zgr,zgq,zgt,Pr.r,qau,qg,qr,qh,qbj,we,wb,wi,wo,q3y,qb,wg,wl,wh,qk,Ev.AV.obj?,ne_eq,zgy,↓qc,↓wf,wc,wa,Nat.reduceBEq,we,wb,wd]
   done
end
set_option maxRecDepth 10000
structure Lp.Short (x:Lp):Prop where
 len:x.procs.length≤9223372036854775807
 timer : ∀q∈x.procs,q.timer.length≤9223372036854775807
section
variable (a b:Lp) (cf df:Bool)
theorem qaej (h1:a.Short) (h2:b.Short):qm (evL T) qk0 [(.agg [(ii a.r0),(ii a.r1),(.fsl ((a.procs).map Pr.r) cf),(ii a.sum)]),(.agg [(ii b.r0),(ii b.r1),(.fsl ((b.procs).map Pr.r) df),(ii b.sum)])]=some (bb (decide (a=b))):=by
 obtain⟨ar0,ar1,ap,as'⟩:=a
 obtain⟨br0,br1,bp,bs'⟩:=b
 obtain⟨l1,t1⟩:=h1
 obtain⟨l2,t2⟩:=h2
 dsimp only at *
 simp only[Lp.mk.injEq]
 rw[qm,qd q85 q7c]
 by_cases e1:ar0=br0
 case neg=>
  have e1':(ar0==br0)=false:=beq_false_of_ne e1
  simp only[qhr,e1,e1',false_and,zgw,Bool.false_and,wi,qb,wg,wh,qg7,qk,ne_eq,zgy,↓qc,↓wf,wc,wa,wb,wd]
 by_cases e2:ar1=br1
 case neg=>
  have e2':(ar1==br1)=false:=beq_false_of_ne e2
  simp only[qhr,e1,e2,e2',false_and,and_false,zgw,Bool.and_false,beq_self_eq_true,Bool.and_true,wi,qb,wg,wh,qg7,qk,ne_eq,zgy,↓qc,↓wf,wc,wa,wb,wd]
 subst e1
 subst e2
 by_cases e3:as'=bs'
 case neg=>simp only[qhr,e3,and_false,zgw,beq_self_eq_true,wi,qb,wg,wh,qg7,qk,ne_eq,zgy,↓qc,↓wf,wc,wa,wb,wd]
 subst e3
 by_cases hab:ap.length=bp.length
 case neg=>
  have hab':¬(ap.length:Int)=(bp.length:Int):=by omega
  have:¬ap=bp:=fun h=>hab (by rw[h])
  simp only[qhr,hab',this,and_false,zgw,beq_self_eq_true,wi,qb,wg,wh,qg7,qk,ne_eq,zgy,↓qc,↓wf,wc,wa,wb,wd]
 have hab':(ap.length:Int)=(bp.length:Int):=by omega
 have hzl:(ap.zip bp).length=ap.length:=by rw[List.length_zip,←hab,Nat.min_self]
 have hL : ∃y,itB (exec (evL T) itL none qf9) (qu [2,3,5] true 0) ⟨[(2,.fptr [(ii ar0),(ii ar1),(.fsl ((ap).map Pr.r) cf),(ii as')]),(3,.fptr [(ii ar0),(ii ar1),(.fsl ((bp).map Pr.r) df),(ii as')]),(5,(ii 0))],[]⟩ []=some y∧((ap.zip bp).all (fun z=>decide (z.1=z.2))=true∧(y.1 = .exit 0∧y.2.1.marks=[]∧y.2.2=[]) ∨
   (ap.zip bp).all (fun z=>decide (z.1=z.2))=false ∧ ∃x,(ap.zip bp).find? (fun z => !decide (z.1=z.2))=some x∧(y.1 = .ret∧y.2.1.marks=[]∧y.2.2=[.row 4 [x.1.r] 0,.row 4 [x.2.r] 0]∧wt y.2.1.vars 4=some (bb false))):=by
  refine qgo (ap.zip bp) (fun i=>⟨[(2,.fptr [(ii ar0),(ii ar1),(.fsl ((ap).map Pr.r) cf),(ii as')]),(3,.fptr [(ii ar0),(ii ar1),(.fsl ((bp).map Pr.r) df),(ii as')]),(5,(ii i))],[]⟩) [] (fun z=>decide (z.1=z.2)) _ (fun x y => _) ?_ ?_ ?_
  ·intro i x hi hx hp
   rw[hzl]at hi
   have hi':(i:Int)<(ap.length:Int):=by omega
   have hw:IntKind.i64.wrap ((i:Int)+1)=((i+1:Nat):Int):=by rw[qi (by omega) (by omega)];simp
   obtain⟨hxa,hxb⟩:=wu.1 hx
   obtain⟨⟨p1,p2,p3,p4⟩,q⟩:=x
   have hv:=qxh p4 p4 false false (t1 _ (zmg hxa)) (t1 _ (zmg hxa))
   simp only[zgv]at hv
   simp only[decide_eq_true_eq]at hp
   subst hp
   cases p3<;>simp only[qf9,zgs,zgr,zgq,zgt,hxa,hxb,hi',hw,hv,qr,qg,Pr.r,wi,wo,qb,wg,wh,ne_eq,zgy,↓qc,↓wf,wc,wa]
  ·intro i x hi hx hp
   rw[hzl]at hi
   have hi':(i:Int)<(ap.length:Int):=by omega
   obtain⟨hxa,hxb⟩:=wu.1 hx
   obtain⟨⟨p1,p2,p3,p4⟩,⟨q1,q2,q3,q4⟩⟩:=x
   have hv:=qxh p4 q4 false false (t1 _ (zmg hxa)) (t2 _ (zmg hxb))
   simp only[decide_eq_false_iff_not,Pr.mk.injEq]at hp
   by_cases f1:p1=q1
   case neg=>
    simp only[qf9,zgs,zgr,zgq,zgt,hxa,hxb,hi',f1,Pr.r,wi,wo,qb,wg,wh,ne_eq,zgy,↓qc,↓wf,wc,wa]
    exact⟨_,rfl,rfl,rfl,rfl,rfl⟩
   by_cases f2:p2=q2
   case neg=>
    simp only[qf9,zgs,zgr,zgq,zgt,hxa,hxb,hi',f1,f2,Pr.r,wi,wo,qb,wg,wh,ne_eq,zgy,↓qc,↓wf,wc,wa]
    exact⟨_,rfl,rfl,rfl,rfl,rfl⟩
   by_cases f3:p3=q3
   case neg=>
    cases p3<;>cases q3<;>first|exact absurd rfl f3|(simp only[qf9,zgs,zgr,zgq,zgt,hxa,hxb,hi',f1,f2,Pr.r,wi,wo,qb,wg,wh,ne_eq,zgy,↓qc,↓wf,wc,wa];exact⟨_,rfl,rfl,rfl,rfl,rfl⟩)
   have f4:¬p4=q4:=fun h=>hp ⟨f1,f2,f3,h⟩
   simp only[f4,zgw]at hv
   subst f3
   cases p3<;>(simp only[qf9,zgs,zgr,zgq,zgt,hxa,hxb,hi',f1,f2,hv,qg,Pr.r,wi,wo,qb,wg,wh,ne_eq,zgy,↓qc,↓wf,wc,wa];exact⟨_,rfl,rfl,rfl,rfl,rfl⟩)
  ·rw[hzl]
   simp only[qf9,wz,wi,qb,zgy,↓qc,↓wf,wa]
   exact⟨_,rfl,rfl,rfl,rfl⟩
 obtain⟨⟨y,e,σ⟩,k1,k2⟩:=hL
 simp only at k2
 rcases k2 with ⟨k3,rfl,k4,rfl⟩|⟨k3,x,_,rfl,k4,rfl,k5⟩
 ·have:ap=bp:=(qtb hab).1 k3
  subst this
  simp only[qhr,k1,k4,qr,beq_self_eq_true,zgx,zgv,wi,qb,wg,wh,qg7,qk,ne_eq,zgy,↓qc,↓qq,↓wf,wc,wa,wb,wd]
 ·have:¬ap=bp:=fun h=>by rw[(qtb hab).2 h]at k3;cases k3
  simp only[this]
  simp only[qhr,hab',k1,k4,k5,qr,beq_self_eq_true,and_false,zgw,wi,qb,wg,wh,qg7,qk,ne_eq,zgy,↓qc,↓qq,↓wf,wc,wa,wb,wd]
end
def lpF (x:Lp×Bool):List AV:=[(ii x.1.r0),(ii x.1.r1),(.fsl ((x.1.procs).map Pr.r) x.2),(ii x.1.sum)]
theorem qaig (n:Nat) (x:Lp×Bool):los n (lpF x)=true:=by simp only[lpF,qr,wi,zgy]
theorem lpF_pl (x:Lp×Bool):(lpF x).length=4∧qfb (lpF x)=true:=⟨rfl,rfl⟩
theorem qhl (n:Nat) (l:List (Lp×Bool)):qb4 n (l.map lpF)=true:=qjs (qaig n) l
theorem qaow (l:List (Lp×Bool)):qbs 4 (l.map lpF)=true:=qpn lpF_pl l
section
variable (a b:List (Lp×Bool)) (c d:Bool)
theorem q3f : ∀ {a b:List (Lp×Bool)},a.length=b.length→((a.zip b).all (fun z=>decide (z.1.1=z.2.1))=true↔a.map Prod.fst=b.map Prod.fst)
 | [],[],_=>by simp
 |x::a,y::b,h=>by
  rw[List.zip_cons_cons,List.all_cons,wy,decide_eq_true_eq,q3f (a:=a) (b:=b) (by simpa using h),wB,wB,List.cons.injEq]
 | [],_ :: _,h=>by simp at h
 | _ :: _,[],h=>by simp at h
theorem qaeg (h1:a.length≤9223372036854775807) (h2:b.length≤9223372036854775807) (ha : ∀x∈a,x.1.Short) (hb : ∀x∈b,x.1.Short) :
  qm (evL T) qjh [(.fsl ((a).map lpF) c),(.fsl ((b).map lpF) d)]=some (bb (decide (a.map Prod.fst=b.map Prod.fst))):=by
 rw[qm,qd q6g q5d]
 by_cases hab:a.length=b.length
 case neg=>
  have hab':¬(a.length:Int)=(b.length:Int):=by omega
  have:¬a.map Prod.fst=b.map Prod.fst:=fun h=>hab (by simpa using congrArg List.length h)
  simp only[qlo,hab',this,wi,qk,ne_eq,zgy,↓qc,↓wf,wc,wa,wd]
 have hab':(a.length:Int)=(b.length:Int):=by omega
 have hzl:(a.zip b).length=a.length:=by rw[List.length_zip,←hab,Nat.min_self]
 have hL : ∃y,itB (exec (evL T) itL none qkj) (qu [0,1,5] true 0) ⟨[(0,(.fsl ((a).map lpF) c)),(1,(.fsl ((b).map lpF) d)),(5,(ii 0))],[]⟩ []=some y∧((a.zip b).all (fun z=>decide (z.1.1=z.2.1))=true∧(y.1 = .exit 0∧y.2.1.marks=[]∧y.2.2=[]) ∨
   (a.zip b).all (fun z=>decide (z.1.1=z.2.1))=false ∧ ∃x,(a.zip b).find? (fun z => !decide (z.1.1=z.2.1))=some x∧(y.1 = .ret∧y.2.1.marks=[]∧y.2.2=[]∧wt y.2.1.vars 4=some (bb false))):=by
  refine qgo (a.zip b) (fun i=>⟨[(0,(.fsl ((a).map lpF) c)),(1,(.fsl ((b).map lpF) d)),(5,(ii i))],[]⟩) [] (fun z=>decide (z.1.1=z.2.1)) _ (fun _ y => _) ?_ ?_ ?_
  ·intro i x hi hx hp
   rw[hzl]at hi
   have hi':(i:Int)<(a.length:Int):=by omega
   have hw:IntKind.i64.wrap ((i:Int)+1)=((i+1:Nat):Int):=by rw[qi (by omega) (by omega)];simp
   obtain⟨hxa,hxb⟩:=wu.1 hx
   have hv:=qaej x.1.1 x.2.1 x.1.2 x.2.2 (ha _ (zmg hxa)) (hb _ (zmg hxb))
   rw[hp]at hv
   simp only[qkj,zgs,zgr,zgq,zgt,hxa,hxb,hi',hw,hv,qhl,qr,lpF,wi,qb,zgy,↓qc,↓wf,wc,wa,wd]
  ·intro i x hi hx hp
   rw[hzl]at hi
   have hi':(i:Int)<(a.length:Int):=by omega
   obtain⟨hxa,hxb⟩:=wu.1 hx
   have hv:=qaej x.1.1 x.2.1 x.1.2 x.2.2 (ha _ (zmg hxa)) (hb _ (zmg hxb))
   rw[hp]at hv
   simp only[qkj,zgs,zgr,zgq,zgt,hxa,hxb,hi',hv,qr,lpF,wi,qb,zgy,↓qc,↓wf,wc,wa,wd]
   exact⟨_,rfl,rfl,rfl,rfl,rfl⟩
  ·rw[hzl]
   simp only[qkj,wz,wi,zgy,↓qc,↓wf,wa,wd]
   exact⟨_,rfl,rfl,rfl,rfl⟩
 obtain⟨⟨y,e,σ⟩,k1,k2⟩:=hL
 simp only at k2
 rcases k2 with ⟨k3,rfl,k4,rfl⟩|⟨k3,x,_,rfl,k4,rfl,k5⟩
 ·have:a.map Prod.fst=b.map Prod.fst:=(q3f hab).1 k3
  simp only[this,zgv]
  simp only[qlo,hab',k1,k4,qhl,wi,qk,ne_eq,zgy,↓qc,↓qq,↓wf,wc,wa,wd]
 ·have:¬a.map Prod.fst=b.map Prod.fst:=fun h=>by rw[(q3f hab).2 h]at k3;cases k3
  simp only[this]
  simp only[qlo,hab',k1,k4,k5,qhl,wi,qk,ne_eq,zgy,↓qc,↓qq,↓wf,wc,wa,wd]
end
set_option maxRecDepth 10000
section
variable (a b:Lp)
end
set_option maxRecDepth 10000
theorem qady (l:List Int) (c:Bool) (n:Int) (h:l.length≤100000):qm (evL T) qmn [(.fsl ((l).map qy) c),(ii n)]=some (.fsl ((l++[n]).map qy) false):=by
 have h':(l.length+1)*8≤140737488355328:=by omega
 have h2:l.length*8≤140737488355328:=by omega
 have htl:wp l.length (l.map qy)=l.map qy:=ztl (by simp)
 have htk : ∀e:List AV,wp (l.length+1) (l.map qy++[e])=l.map qy++[e]:=fun e=>ztl (by simp)
 have hr:(l++[n]).map qy=l.map qy++[[(ii n)]]:=by rw[wr];rfl
 rw[qm,qd qabz q8r]
 rw[hr]
 simp only[qsq,h',h2,htl,htk,qn5,qaar,qg,wi,qqk,qaw,wg,wl,wh,qk,ne_eq,zgy,↓qc,↓wf,wc,wa,wk,we,wb,wm,wd]
theorem qva (l:List (List Int)) (k:List Int) (c:Bool) (h:l.length≤1000):qm (evL T) qgg [(.fsl ((l).map qh7) c),(.fsl ((k).map qy) false)]=some (.fsl ((l++[k]).map qh7) false):=by
 have h':(l.length+1)*24≤140737488355328:=by omega
 have h2:l.length*24≤140737488355328:=by omega
 have htl:wp l.length (l.map qh7)=l.map qh7:=ztl (by simp)
 have htk : ∀e:List AV,wp (l.length+1) (l.map qh7++[e])=l.map qh7++[e]:=fun e=>ztl (by simp)
 have hr:(l++[k]).map qh7=l.map qh7++[[(.fsl ((k).map qy) false)]]:=by rw[wr];rfl
 rw[qm,qd q3g q1q]
 rw[hr]
 simp only[qoa,h',h2,htl,htk,qn5,keys_ok,qbj,qg,wi,qqk,qaw,wg,wl,wh,qk,ne_eq,zgy,↓qc,↓wf,wc,wa,wk,we,wb,wm,wd]
section
variable (x:Ex)
theorem qe6 (h:x.procs.length≤1000) (i:Nat) (hi:i<x.procs.length) (q:Pr):qm (evL T) qf2 [(.agg [(ii x.r0),(ii x.r1),(.fsl ((x.procs).map Pr.r) false),(ii x.sum),(ii x.ev.time),(.fsl ((x.ev.key).map qy) false),(ii x.ev.lp),(ii x.ev.kind),(ii x.ev.proc),(ii x.ev.arg),(.fsl ((x.out).map Evt.r) false),(.fsl ((x.gone).map qh7) false),(ii x.n),(bb x.over)]),(ii i),(.agg [(ii q.prog),(ii q.pc),(bb q.alive),(.fsl ((q.timer).map qy) false)])]=some (.agg [(ii ((x.setP i q).r0)),(ii ((x.setP i q).r1)),(.fsl (((x.setP i q).procs).map Pr.r) false),(ii ((x.setP i q).sum)),(ii ((x.setP i q).ev.time)),(.fsl (((x.setP i q).ev.key).map qy) false),(ii ((x.setP i q).ev.lp)),(ii ((x.setP i q).ev.kind)),(ii ((x.setP i q).ev.proc)),(ii ((x.setP i q).ev.arg)),(.fsl (((x.setP i q).out).map Evt.r) false),(.fsl (((x.setP i q).gone).map qh7) false),(ii ((x.setP i q).n)),(bb ((x.setP i q).over))]):=by
 have h2:x.procs.length*48≤140737488355328:=by omega
 have htl : ∀e:List AV,wp x.procs.length ((x.procs.map Pr.r).set i e)=(x.procs.map Pr.r).set i e:=fun e=>ztl (by simp)
 have hset:(x.procs.map Pr.r).set i [(ii q.prog),(ii q.pc),(bb q.alive),(.fsl ((q.timer).map qy) false)]=(x.procs.set i q).map Pr.r:=by rw[wx];rfl
 obtain⟨q0,hq⟩ : ∃q0,x.procs[i]? = some q0:=⟨_,zgE hi⟩
 have ft : ∀ {τ:Type} (l:List τ) (f:τ→List AV),wp l.length (l.map f)=l.map f:=fun l f=>ztl (by simp)
 have htl2:wp x.procs.length ((x.procs.set i q).map Pr.r)=(x.procs.set i q).map Pr.r:=ztl (by simp)
 unfold Ex.setP
 rw[qm,qd qafl qadz]
 simp only[qx8,htl2,h2,hi,hq,hset,qae6,Pr.r,zgs,zgr,zgq,zgt,qg,qr,qh,qbj,we,wb,wi,wo,qb,qaw,wg,wl,wh,qk,ne_eq,zgy,↓qc,↓wf,wc,wa,wk,we,wb,wm,wd]
theorem qns (h:x.Small) (d:Int) (t0 lp k p a:Int) (ks:List Int) :
  qm (evL T) qgj [(.agg [(ii x.r0),(ii x.r1),(.fsl ((x.procs).map Pr.r) false),(ii x.sum),(ii x.ev.time),(.fsl ((x.ev.key).map qy) false),(ii x.ev.lp),(ii x.ev.kind),(ii x.ev.proc),(ii x.ev.arg),(.fsl ((x.out).map Evt.r) false),(.fsl ((x.gone).map qh7) false),(ii x.n),(bb x.over)]),(ii d),.agg [(ii t0),(.fsl ((ks).map qy) false),(ii lp),(ii k),(ii p),(ii a)]]=some (.tup [(.agg [(ii ((x.create d ⟨t0,ks,lp,k,p,a⟩).r0)),(ii ((x.create d ⟨t0,ks,lp,k,p,a⟩).r1)),(.fsl (((x.create d ⟨t0,ks,lp,k,p,a⟩).procs).map Pr.r) false),(ii ((x.create d ⟨t0,ks,lp,k,p,a⟩).sum)),(ii ((x.create d ⟨t0,ks,lp,k,p,a⟩).ev.time)),(.fsl (((x.create d ⟨t0,ks,lp,k,p,a⟩).ev.key).map qy) false),(ii ((x.create d ⟨t0,ks,lp,k,p,a⟩).ev.lp)),(ii ((x.create d ⟨t0,ks,lp,k,p,a⟩).ev.kind)),(ii ((x.create d ⟨t0,ks,lp,k,p,a⟩).ev.proc)),(ii ((x.create d ⟨t0,ks,lp,k,p,a⟩).ev.arg)),(.fsl (((x.create d ⟨t0,ks,lp,k,p,a⟩).out).map Evt.r) false),(.fsl (((x.create d ⟨t0,ks,lp,k,p,a⟩).gone).map qh7) false),(ii ((x.create d ⟨t0,ks,lp,k,p,a⟩).n)),(bb ((x.create d ⟨t0,ks,lp,k,p,a⟩).over))]),(.fsl ((x.kid).map qy) false)]):=by
 have hk:=qady x.ev.key false x.n h.key
 have hs:(x.out.length+1)*64≤140737488355328:=by have:=h.out;omega
 have hs2:x.out.length*64≤140737488355328:=by have:=h.out;omega
 have htl:wp x.out.length (x.out.map Evt.r)=x.out.map Evt.r:=ztl (by simp)
 have htk : ∀e:List AV,wp (x.out.length+1) (x.out.map Evt.r++[e])=x.out.map Evt.r++[e]:=fun e=>ztl (by simp)
 unfold Ex.create Ex.kid
 rw[qm,qd q9w q5x]
 by_cases ho:w64 (x.ev.time+d)>1152921504606846976
 ·have ho':IntKind.i64.wrap (x.ev.time+d)>1152921504606846976:=ho
  simp only[ho,if_true]
  simp only[qot,hk,ho',qg,qr,qh,qbj,wb,wi,wo,qb,wg,wl,wh,qk,Ev.AV.obj?,ne_eq,zgy,↓qc,↓wf,wc,wa,Nat.reduceBEq,wb,wd]
  done
 ·have ho':¬IntKind.i64.wrap (x.ev.time+d)>1152921504606846976:=ho
  simp only[ho,if_false]
  have hr : ∀e:Evt,(x.out++[e]).map Evt.r=x.out.map Evt.r++[e.r]:=fun e=>by rw[wr];rfl
  simp only[qot,hk,ho',hs,hs2,htl,htk,hr,qn5,qgi,Evt.r,qg,qr,qh,qbj,we,wb,wi,wo,qqk,qb,qaw,wg,wl,wh,qk,Ev.AV.obj?,ne_eq,zgy,↓qc,↓wf,wc,wa,Nat.reduceBEq,wk,we,wb,wm,wd]
  done
end
set_option maxRecDepth 10000
def Pr.inc (q:Pr):Pr:={ q with pc:=w64 (q.pc+1) }
section
variable (x:Ex) (i:Nat) (op:OpI) (q:Pr)
theorem qamb (h:x.Small) (hq:x.procs[i]? = some q) (h1:op.code=1) :
  qm (evL T) qdv [(.agg [(ii x.r0),(ii x.r1),(.fsl ((x.procs).map Pr.r) false),(ii x.sum),(ii x.ev.time),(.fsl ((x.ev.key).map qy) false),(ii x.ev.lp),(ii x.ev.kind),(ii x.ev.proc),(ii x.ev.arg),(.fsl ((x.out).map Evt.r) false),(.fsl ((x.gone).map qh7) false),(ii x.n),(bb x.over)]),(ii i),(.agg [(ii op.code),(ii op.a),(ii op.b),(ii op.c)])]=some (.tup [(.agg [(ii (((x.create op.a ⟨0,[],x.ev.lp,1,i,0⟩).setP i q.inc).r0)),(ii (((x.create op.a ⟨0,[],x.ev.lp,1,i,0⟩).setP i q.inc).r1)),(.fsl ((((x.create op.a ⟨0,[],x.ev.lp,1,i,0⟩).setP i q.inc).procs).map Pr.r) false),(ii (((x.create op.a ⟨0,[],x.ev.lp,1,i,0⟩).setP i q.inc).sum)),(ii (((x.create op.a ⟨0,[],x.ev.lp,1,i,0⟩).setP i q.inc).ev.time)),(.fsl ((((x.create op.a ⟨0,[],x.ev.lp,1,i,0⟩).setP i q.inc).ev.key).map qy) false),(ii (((x.create op.a ⟨0,[],x.ev.lp,1,i,0⟩).setP i q.inc).ev.lp)),(ii (((x.create op.a ⟨0,[],x.ev.lp,1,i,0⟩).setP i q.inc).ev.kind)),(ii (((x.create op.a ⟨0,[],x.ev.lp,1,i,0⟩).setP i q.inc).ev.proc)),(ii (((x.create op.a ⟨0,[],x.ev.lp,1,i,0⟩).setP i q.inc).ev.arg)),(.fsl ((((x.create op.a ⟨0,[],x.ev.lp,1,i,0⟩).setP i q.inc).out).map Evt.r) false),(.fsl ((((x.create op.a ⟨0,[],x.ev.lp,1,i,0⟩).setP i q.inc).gone).map qh7) false),(ii (((x.create op.a ⟨0,[],x.ev.lp,1,i,0⟩).setP i q.inc).n)),(bb (((x.create op.a ⟨0,[],x.ev.lp,1,i,0⟩).setP i q.inc).over))]),(bb true)]):=by
 have hl:=(zei.1 hq).1
 have hc:=qns x h op.a 0 x.ev.lp 1 i 0 []
 have hp:=qe6 (x.create op.a ⟨0,[],x.ev.lp,1,i,0⟩) h.procs i hl q.inc
 simp only[wq,Pr.inc,w64]at hc hp⊢
 rw[qm,qd qd5 qdm]
 simp only[qd9,h1,hq,hc,hp,Pr.r,zgs,zgr,zgq,zgt,qg,qr,qh,qbj,wb,wi,wo,qb,wg,wl,wh,qk,ne_eq,zgy,↓qc,↓wf,wc,wa,wb,wd]
theorem qamm (h:x.Small) (hq:x.procs[i]? = some q) (h1:op.code=2) :
  qm (evL T) qdv [(.agg [(ii x.r0),(ii x.r1),(.fsl ((x.procs).map Pr.r) false),(ii x.sum),(ii x.ev.time),(.fsl ((x.ev.key).map qy) false),(ii x.ev.lp),(ii x.ev.kind),(ii x.ev.proc),(ii x.ev.arg),(.fsl ((x.out).map Evt.r) false),(.fsl ((x.gone).map qh7) false),(ii x.n),(bb x.over)]),(ii i),(.agg [(ii op.code),(ii op.a),(ii op.b),(ii op.c)])]=some (.tup [(.agg [(ii (((x.create op.c ⟨0,[],op.a,3,0,op.b⟩).setP i q.inc).r0)),(ii (((x.create op.c ⟨0,[],op.a,3,0,op.b⟩).setP i q.inc).r1)),(.fsl ((((x.create op.c ⟨0,[],op.a,3,0,op.b⟩).setP i q.inc).procs).map Pr.r) false),(ii (((x.create op.c ⟨0,[],op.a,3,0,op.b⟩).setP i q.inc).sum)),(ii (((x.create op.c ⟨0,[],op.a,3,0,op.b⟩).setP i q.inc).ev.time)),(.fsl ((((x.create op.c ⟨0,[],op.a,3,0,op.b⟩).setP i q.inc).ev.key).map qy) false),(ii (((x.create op.c ⟨0,[],op.a,3,0,op.b⟩).setP i q.inc).ev.lp)),(ii (((x.create op.c ⟨0,[],op.a,3,0,op.b⟩).setP i q.inc).ev.kind)),(ii (((x.create op.c ⟨0,[],op.a,3,0,op.b⟩).setP i q.inc).ev.proc)),(ii (((x.create op.c ⟨0,[],op.a,3,0,op.b⟩).setP i q.inc).ev.arg)),(.fsl ((((x.create op.c ⟨0,[],op.a,3,0,op.b⟩).setP i q.inc).out).map Evt.r) false),(.fsl ((((x.create op.c ⟨0,[],op.a,3,0,op.b⟩).setP i q.inc).gone).map qh7) false),(ii (((x.create op.c ⟨0,[],op.a,3,0,op.b⟩).setP i q.inc).n)),(bb (((x.create op.c ⟨0,[],op.a,3,0,op.b⟩).setP i q.inc).over))]),(bb false)]):=by
 have hl:=(zei.1 hq).1
 have hc:=qns x h op.c 0 op.a 3 0 op.b []
 have hp:=qe6 (x.create op.c ⟨0,[],op.a,3,0,op.b⟩) h.procs i hl q.inc
 simp only[wq,Pr.inc,w64]at hc hp⊢
 have k1:¬(2:Int)=1:=by decide
 rw[qm,qd qd5 qdm]
 simp only[qd9,h1,k1,hq,hc,hp,Pr.r,zgs,zgr,zgq,zgt,qg,qr,qh,qbj,wb,wi,wo,qb,wg,wl,wh,qk,ne_eq,zgy,↓qc,↓wf,wc,wa,wb,wd]
theorem qajw (h:x.Small) (hg:x.gone.length<1000) (hq:x.procs[i]? = some q) (h1:op.code=3) :
  qm (evL T) qdv [(.agg [(ii x.r0),(ii x.r1),(.fsl ((x.procs).map Pr.r) false),(ii x.sum),(ii x.ev.time),(.fsl ((x.ev.key).map qy) false),(ii x.ev.lp),(ii x.ev.kind),(ii x.ev.proc),(ii x.ev.arg),(.fsl ((x.out).map Evt.r) false),(.fsl ((x.gone).map qh7) false),(ii x.n),(bb x.over)]),(ii i),(.agg [(ii op.code),(ii op.a),(ii op.b),(ii op.c)])]=some (.tup [(.agg [(ii (((({ x with gone:=if 0<q.timer.length then x.gone++[q.timer]else x.gone }:Ex).create op.a ⟨0,[],x.ev.lp,2,i,op.b⟩).setP i { q.inc with timer:=x.kid }).r0)),(ii (((({ x with gone:=if 0<q.timer.length then x.gone++[q.timer]else x.gone }:Ex).create op.a ⟨0,[],x.ev.lp,2,i,op.b⟩).setP i { q.inc with timer:=x.kid }).r1)),(.fsl ((((({ x with gone:=if 0<q.timer.length then x.gone++[q.timer]else x.gone }:Ex).create op.a ⟨0,[],x.ev.lp,2,i,op.b⟩).setP i { q.inc with timer:=x.kid }).procs).map Pr.r) false),(ii (((({ x with gone:=if 0<q.timer.length then x.gone++[q.timer]else x.gone }:Ex).create op.a ⟨0,[],x.ev.lp,2,i,op.b⟩).setP i { q.inc with timer:=x.kid }).sum)),(ii (((({ x with gone:=if 0<q.timer.length then x.gone++[q.timer]else x.gone }:Ex).create op.a ⟨0,[],x.ev.lp,2,i,op.b⟩).setP i { q.inc with timer:=x.kid }).ev.time)),(.fsl ((((({ x with gone:=if 0<q.timer.length then x.gone++[q.timer]else x.gone }:Ex).create op.a ⟨0,[],x.ev.lp,2,i,op.b⟩).setP i { q.inc with timer:=x.kid }).ev.key).map qy) false),(ii (((({ x with gone:=if 0<q.timer.length then x.gone++[q.timer]else x.gone }:Ex).create op.a ⟨0,[],x.ev.lp,2,i,op.b⟩).setP i { q.inc with timer:=x.kid }).ev.lp)),(ii (((({ x with gone:=if 0<q.timer.length then x.gone++[q.timer]else x.gone }:Ex).create op.a ⟨0,[],x.ev.lp,2,i,op.b⟩).setP i { q.inc with timer:=x.kid }).ev.kind)),(ii (((({ x with gone:=if 0<q.timer.length then x.gone++[q.timer]else x.gone }:Ex).create op.a ⟨0,[],x.ev.lp,2,i,op.b⟩).setP i { q.inc with timer:=x.kid }).ev.proc)),(ii (((({ x with gone:=if 0<q.timer.length then x.gone++[q.timer]else x.gone }:Ex).create op.a ⟨0,[],x.ev.lp,2,i,op.b⟩).setP i { q.inc with timer:=x.kid }).ev.arg)),(.fsl ((((({ x with gone:=if 0<q.timer.length then x.gone++[q.timer]else x.gone }:Ex).create op.a ⟨0,[],x.ev.lp,2,i,op.b⟩).setP i { q.inc with timer:=x.kid }).out).map Evt.r) false),(.fsl ((((({ x with gone:=if 0<q.timer.length then x.gone++[q.timer]else x.gone }:Ex).create op.a ⟨0,[],x.ev.lp,2,i,op.b⟩).setP i { q.inc with timer:=x.kid }).gone).map qh7) false),(ii (((({ x with gone:=if 0<q.timer.length then x.gone++[q.timer]else x.gone }:Ex).create op.a ⟨0,[],x.ev.lp,2,i,op.b⟩).setP i { q.inc with timer:=x.kid }).n)),(bb (((({ x with gone:=if 0<q.timer.length then x.gone++[q.timer]else x.gone }:Ex).create op.a ⟨0,[],x.ev.lp,2,i,op.b⟩).setP i { q.inc with timer:=x.kid }).over))]),(bb false)]):=by
 have hl:=(zei.1 hq).1
 have k1:¬(3:Int)=1:=by decide
 have k2:¬(3:Int)=2:=by decide
 have ha:=qva x.gone q.timer false h.gone
 by_cases ht:0<q.timer.length
 ·have ht':(q.timer.length:Int)>0:=by omega
  have hc:=qns { x with gone:=x.gone++[q.timer] } ⟨h.procs,h.out,by simp;omega,h.key⟩ op.a 0 x.ev.lp 2 i op.b []
  have hp:=qe6 (({ x with gone:=x.gone++[q.timer] }:Ex).create op.a ⟨0,[],x.ev.lp,2,i,op.b⟩) h.procs i hl { q.inc with timer:=x.kid }
  rw[if_pos ht]
  simp only[wq,Pr.inc,Ex.kid,w64]at hc hp⊢
  rw[qm,qd qd5 qdm]
  simp only[qd9,h1,k1,k2,ht',hq,hc,hp,ha,Pr.r,zgs,zgr,zgq,zgt,qg,qr,qh,qbj,wb,wi,wo,qb,wg,wl,wh,qk,ne_eq,zgy,↓qc,↓wf,wc,wa,wb,wd]
 ·have ht':¬(q.timer.length:Int)>0:=by omega
  have hc:=qns x h op.a 0 x.ev.lp 2 i op.b []
  have hp:=qe6 (x.create op.a ⟨0,[],x.ev.lp,2,i,op.b⟩) h.procs i hl { q.inc with timer:=x.kid }
  rw[if_neg ht]
  simp only[wq,Pr.inc,Ex.kid,w64]at hc hp⊢
  rw[qm,qd qd5 qdm]
  simp only[qd9,h1,k1,k2,ht',hq,hc,hp,Pr.r,zgs,zgr,zgq,zgt,qg,qr,qh,qbj,wb,wi,wo,qb,wg,wl,wh,qk,ne_eq,zgy,↓qc,↓wf,wc,wa,wb,wd]
theorem qalz (h:x.Small) (hg:x.gone.length<1000) (hq:x.procs[i]? = some q) (h1:op.code=4) :
  qm (evL T) qdv [(.agg [(ii x.r0),(ii x.r1),(.fsl ((x.procs).map Pr.r) false),(ii x.sum),(ii x.ev.time),(.fsl ((x.ev.key).map qy) false),(ii x.ev.lp),(ii x.ev.kind),(ii x.ev.proc),(ii x.ev.arg),(.fsl ((x.out).map Evt.r) false),(.fsl ((x.gone).map qh7) false),(ii x.n),(bb x.over)]),(ii i),(.agg [(ii op.code),(ii op.a),(ii op.b),(ii op.c)])]=some (.tup [(.agg [(ii ((if 0<q.timer.length then ({ x with gone:=x.gone++[q.timer] }:Ex).setP i { q.inc with timer:=[] }else x.setP i q.inc).r0)),(ii ((if 0<q.timer.length then ({ x with gone:=x.gone++[q.timer] }:Ex).setP i { q.inc with timer:=[] }else x.setP i q.inc).r1)),(.fsl (((if 0<q.timer.length then ({ x with gone:=x.gone++[q.timer] }:Ex).setP i { q.inc with timer:=[] }else x.setP i q.inc).procs).map Pr.r) false),(ii ((if 0<q.timer.length then ({ x with gone:=x.gone++[q.timer] }:Ex).setP i { q.inc with timer:=[] }else x.setP i q.inc).sum)),(ii ((if 0<q.timer.length then ({ x with gone:=x.gone++[q.timer] }:Ex).setP i { q.inc with timer:=[] }else x.setP i q.inc).ev.time)),(.fsl (((if 0<q.timer.length then ({ x with gone:=x.gone++[q.timer] }:Ex).setP i { q.inc with timer:=[] }else x.setP i q.inc).ev.key).map qy) false),(ii ((if 0<q.timer.length then ({ x with gone:=x.gone++[q.timer] }:Ex).setP i { q.inc with timer:=[] }else x.setP i q.inc).ev.lp)),(ii ((if 0<q.timer.length then ({ x with gone:=x.gone++[q.timer] }:Ex).setP i { q.inc with timer:=[] }else x.setP i q.inc).ev.kind)),(ii ((if 0<q.timer.length then ({ x with gone:=x.gone++[q.timer] }:Ex).setP i { q.inc with timer:=[] }else x.setP i q.inc).ev.proc)),(ii ((if 0<q.timer.length then ({ x with gone:=x.gone++[q.timer] }:Ex).setP i { q.inc with timer:=[] }else x.setP i q.inc).ev.arg)),(.fsl (((if 0<q.timer.length then ({ x with gone:=x.gone++[q.timer] }:Ex).setP i { q.inc with timer:=[] }else x.setP i q.inc).out).map Evt.r) false),(.fsl (((if 0<q.timer.length then ({ x with gone:=x.gone++[q.timer] }:Ex).setP i { q.inc with timer:=[] }else x.setP i q.inc).gone).map qh7) false),(ii ((if 0<q.timer.length then ({ x with gone:=x.gone++[q.timer] }:Ex).setP i { q.inc with timer:=[] }else x.setP i q.inc).n)),(bb ((if 0<q.timer.length then ({ x with gone:=x.gone++[q.timer] }:Ex).setP i { q.inc with timer:=[] }else x.setP i q.inc).over))]),(bb false)]):=by
 have hl:=(zei.1 hq).1
 have k1:¬(4:Int)=1:=by decide
 have k2:¬(4:Int)=2:=by decide
 have k3:¬(4:Int)=3:=by decide
 have ha:=qva x.gone q.timer false h.gone
 by_cases ht:0<q.timer.length
 ·have ht':(q.timer.length:Int)>0:=by omega
  have hp:=qe6 { x with gone:=x.gone++[q.timer] } h.procs i hl { q.inc with timer:=[] }
  rw[if_pos ht]
  simp only[wq,Pr.inc,w64]at hp⊢
  rw[qm,qd qd5 qdm]
  simp only[qd9,h1,k1,k2,k3,ht',hq,hp,ha,Pr.r,zgs,zgr,zgq,zgt,qg,qr,qh,qbj,wb,wi,wo,qb,wg,wl,wh,qk,ne_eq,zgy,↓qc,↓wf,wc,wa,wb,wd]
 ·have ht':¬(q.timer.length:Int)>0:=by omega
  have hp:=qe6 x h.procs i hl q.inc
  rw[if_neg ht]
  simp only[Pr.inc,w64]at hp⊢
  rw[qm,qd qd5 qdm]
  simp only[qd9,h1,k1,k2,k3,ht',hq,hp,Pr.r,zgs,zgr,zgq,zgt,qg,qr,qh,qbj,wb,wi,wo,qb,wg,wl,wh,qk,ne_eq,zgy,↓qc,↓wf,wc,wa,wb,wd]
theorem qaj3 (h:x.Small) (hq:x.procs[i]? = some q) (h1:op.code=5) :
  qm (evL T) qdv [(.agg [(ii x.r0),(ii x.r1),(.fsl ((x.procs).map Pr.r) false),(ii x.sum),(ii x.ev.time),(.fsl ((x.ev.key).map qy) false),(ii x.ev.lp),(ii x.ev.kind),(ii x.ev.proc),(ii x.ev.arg),(.fsl ((x.out).map Evt.r) false),(.fsl ((x.gone).map qh7) false),(ii x.n),(bb x.over)]),(ii i),(.agg [(ii op.code),(ii op.a),(ii op.b),(ii op.c)])]=some (.tup [(.agg [(ii (((x.setP i q.inc).spawnE op).r0)),(ii (((x.setP i q.inc).spawnE op).r1)),(.fsl ((((x.setP i q.inc).spawnE op).procs).map Pr.r) false),(ii (((x.setP i q.inc).spawnE op).sum)),(ii (((x.setP i q.inc).spawnE op).ev.time)),(.fsl ((((x.setP i q.inc).spawnE op).ev.key).map qy) false),(ii (((x.setP i q.inc).spawnE op).ev.lp)),(ii (((x.setP i q.inc).spawnE op).ev.kind)),(ii (((x.setP i q.inc).spawnE op).ev.proc)),(ii (((x.setP i q.inc).spawnE op).ev.arg)),(.fsl ((((x.setP i q.inc).spawnE op).out).map Evt.r) false),(.fsl ((((x.setP i q.inc).spawnE op).gone).map qh7) false),(ii (((x.setP i q.inc).spawnE op).n)),(bb (((x.setP i q.inc).spawnE op).over))]),(bb false)]):=by
 have hl:=(zei.1 hq).1
 have k1:¬(5:Int)=1:=by decide
 have k2:¬(5:Int)=2:=by decide
 have k3:¬(5:Int)=3:=by decide
 have k4:¬(5:Int)=4:=by decide
 have hp:=qe6 x h.procs i hl q.inc
 have hls:(x.procs.set i q.inc).length=x.procs.length:=by simp
 unfold Ex.spawnE
 by_cases hs:x.procs.length<8
 ·have hs':¬(x.procs.length:Int)≥8:=by omega
  have h2:x.procs.length*48≤140737488355328:=by omega
  have h3:(x.procs.length+1)*48≤140737488355328:=by omega
  rw[if_pos (by simp only[Ex.setP,hls];exact hs)]
  have hc:=qns { x with procs:=x.procs.set i q.inc++[⟨op.a,0,true,[]⟩] } ⟨by simp;omega,h.out,h.gone,h.key⟩ op.b 0 x.ev.lp 1 x.procs.length 0 []
  have htk : ∀e:List AV,wp (x.procs.length+1) ((x.procs.set i q.inc).map Pr.r++[e])=(x.procs.set i q.inc).map Pr.r++[e]:=fun e=>ztl (by simp)
  have htl:wp x.procs.length ((x.procs.set i q.inc).map Pr.r)=(x.procs.set i q.inc).map Pr.r:=ztl (by simp)
  simp only[Ex.setP,Ex.ownE,hls]at hp⊢
  generalize x.procs.set i q.inc=l at *
  simp only[wq,wr,wB,Pr.inc,Pr.r,w64]at hc hp⊢
  rw[qm,qd qd5 qdm]
  simp only[qd9,h1,k1,k2,k3,k4,h2,h3,hs',hls,hq,hc,hp,htl,htk,qae6,Pr.r,qn5,zgs,zgr,zgq,zgt,qg,qr,qh,qbj,we,wb,wi,wo,qqk,qb,qaw,wg,wl,wh,qk,ne_eq,zgy,↓qc,↓wf,wc,wa,wk,we,wb,wm,wd]
 ·have hs':(x.procs.length:Int)≥8:=by omega
  rw[if_neg (by simp only[Ex.setP,hls];exact hs)]
  simp only[Ex.setP]at hp⊢
  generalize x.procs.set i q.inc=l at *
  simp only[Pr.inc,w64]at hp⊢
  rw[qm,qd qd5 qdm]
  simp only[qd9,h1,k1,k2,k3,k4,hs',hls,hq,hp,Pr.r,zgs,zgr,zgq,zgt,qg,qr,qh,qbj,wb,wi,wo,qb,wg,wl,wh,qk,ne_eq,zgy,↓qc,↓wf,wc,wa,wb,wd]
theorem qapt (h:x.Small) (hq:x.procs[i]? = some q) (h1:op.code=6) (h0:op.a=0∨op.a=1) :
  qm (evL T) qdv [(.agg [(ii x.r0),(ii x.r1),(.fsl ((x.procs).map Pr.r) false),(ii x.sum),(ii x.ev.time),(.fsl ((x.ev.key).map qy) false),(ii x.ev.lp),(ii x.ev.kind),(ii x.ev.proc),(ii x.ev.arg),(.fsl ((x.out).map Evt.r) false),(.fsl ((x.gone).map qh7) false),(ii x.n),(bb x.over)]),(ii i),(.agg [(ii op.code),(ii op.a),(ii op.b),(ii op.c)])]=some (.tup [(.agg [(ii (((x.setReg op.a (w64 (x.reg op.a+op.b))).setP i q.inc).r0)),(ii (((x.setReg op.a (w64 (x.reg op.a+op.b))).setP i q.inc).r1)),(.fsl ((((x.setReg op.a (w64 (x.reg op.a+op.b))).setP i q.inc).procs).map Pr.r) false),(ii (((x.setReg op.a (w64 (x.reg op.a+op.b))).setP i q.inc).sum)),(ii (((x.setReg op.a (w64 (x.reg op.a+op.b))).setP i q.inc).ev.time)),(.fsl ((((x.setReg op.a (w64 (x.reg op.a+op.b))).setP i q.inc).ev.key).map qy) false),(ii (((x.setReg op.a (w64 (x.reg op.a+op.b))).setP i q.inc).ev.lp)),(ii (((x.setReg op.a (w64 (x.reg op.a+op.b))).setP i q.inc).ev.kind)),(ii (((x.setReg op.a (w64 (x.reg op.a+op.b))).setP i q.inc).ev.proc)),(ii (((x.setReg op.a (w64 (x.reg op.a+op.b))).setP i q.inc).ev.arg)),(.fsl ((((x.setReg op.a (w64 (x.reg op.a+op.b))).setP i q.inc).out).map Evt.r) false),(.fsl ((((x.setReg op.a (w64 (x.reg op.a+op.b))).setP i q.inc).gone).map qh7) false),(ii (((x.setReg op.a (w64 (x.reg op.a+op.b))).setP i q.inc).n)),(bb (((x.setReg op.a (w64 (x.reg op.a+op.b))).setP i q.inc).over))]),(bb false)]):=by
 have hl:=(zei.1 hq).1
 have k1:¬(6:Int)=1:=by decide
 have k2:¬(6:Int)=2:=by decide
 have k3:¬(6:Int)=3:=by decide
 have k4:¬(6:Int)=4:=by decide
 have k5:¬(6:Int)=5:=by decide
 have k6:¬(1:Int)=0:=by decide
 rcases h0 with h0|h0
 ·have hp:=qe6 { x with r0:=w64 (x.r0+op.b) } h.procs i hl q.inc
  simp only[Ex.setReg,Ex.reg,h0,if_true]
  simp only[Pr.inc,w64]at hp⊢
  rw[qm,qd qd5 qdm]
  simp only[qd9,h1,k1,k2,k3,k4,k5,hq,hp,Pr.r,zgs,zgr,zgq,zgt,qg,qr,qh,qbj,we,wb,wi,wo,qb,wg,wl,wh,qk,ne_eq,zgy,↓qc,↓wf,wc,wa,wk,we,wb,wv,ws,wd]
 ·have hp:=qe6 { x with r1:=w64 (x.r1+op.b) } h.procs i hl q.inc
  simp only[Ex.setReg,Ex.reg,h0,k6,if_false]
  simp only[Pr.inc,w64]at hp⊢
  rw[qm,qd qd5 qdm]
  simp only[qd9,h1,k1,k2,k3,k4,k5,hq,hp,Pr.r,zgs,zgr,zgq,zgt,qg,qr,qh,qbj,wb,wi,wo,qb,wg,wl,wh,qk,ne_eq,zgy,↓qc,↓wf,wc,wa,wk,wb,wv,ws,wd]
theorem qalo (h:x.Small) (hq:x.procs[i]? = some q) (h1:op.code=7) (h0:op.a=0∨op.a=1) :
  qm (evL T) qdv [(.agg [(ii x.r0),(ii x.r1),(.fsl ((x.procs).map Pr.r) false),(ii x.sum),(ii x.ev.time),(.fsl ((x.ev.key).map qy) false),(ii x.ev.lp),(ii x.ev.kind),(ii x.ev.proc),(ii x.ev.arg),(.fsl ((x.out).map Evt.r) false),(.fsl ((x.gone).map qh7) false),(ii x.n),(bb x.over)]),(ii i),(.agg [(ii op.code),(ii op.a),(ii op.b),(ii op.c)])]=some (.tup [(.agg [(ii ((x.setP i (if x.reg op.a<op.b then { q.inc with pc:=op.c }else q.inc)).r0)),(ii ((x.setP i (if x.reg op.a<op.b then { q.inc with pc:=op.c }else q.inc)).r1)),(.fsl (((x.setP i (if x.reg op.a<op.b then { q.inc with pc:=op.c }else q.inc)).procs).map Pr.r) false),(ii ((x.setP i (if x.reg op.a<op.b then { q.inc with pc:=op.c }else q.inc)).sum)),(ii ((x.setP i (if x.reg op.a<op.b then { q.inc with pc:=op.c }else q.inc)).ev.time)),(.fsl (((x.setP i (if x.reg op.a<op.b then { q.inc with pc:=op.c }else q.inc)).ev.key).map qy) false),(ii ((x.setP i (if x.reg op.a<op.b then { q.inc with pc:=op.c }else q.inc)).ev.lp)),(ii ((x.setP i (if x.reg op.a<op.b then { q.inc with pc:=op.c }else q.inc)).ev.kind)),(ii ((x.setP i (if x.reg op.a<op.b then { q.inc with pc:=op.c }else q.inc)).ev.proc)),(ii ((x.setP i (if x.reg op.a<op.b then { q.inc with pc:=op.c }else q.inc)).ev.arg)),(.fsl (((x.setP i (if x.reg op.a<op.b then { q.inc with pc:=op.c }else q.inc)).out).map Evt.r) false),(.fsl (((x.setP i (if x.reg op.a<op.b then { q.inc with pc:=op.c }else q.inc)).gone).map qh7) false),(ii ((x.setP i (if x.reg op.a<op.b then { q.inc with pc:=op.c }else q.inc)).n)),(bb ((x.setP i (if x.reg op.a<op.b then { q.inc with pc:=op.c }else q.inc)).over))]),(bb false)]):=by
 have hl:=(zei.1 hq).1
 have k1:¬(7:Int)=1:=by decide
 have k2:¬(7:Int)=2:=by decide
 have k3:¬(7:Int)=3:=by decide
 have k4:¬(7:Int)=4:=by decide
 have k5:¬(7:Int)=5:=by decide
 have k5':¬(7:Int)=6:=by decide
 have k6:¬(1:Int)=0:=by decide
 by_cases hr:x.reg op.a<op.b
 ·have hp:=qe6 x h.procs i hl { q.inc with pc:=op.c }
  simp only[Pr.inc,w64]at hp
  rw[if_pos hr]
  rw[qm,qd qd5 qdm]
  rcases h0 with h0|h0<;>simp only[Ex.reg,h0,k6,if_true,if_false]at hr <;>
  simp only[qd9,h0,h1,k1,k2,k3,k4,k5,k5',hr,hq,hp,Pr.inc,w64,Pr.r,zgs,zgr,zgq,zgt,qg,qr,qh,qbj,we,wb,wi,wo,qb,wg,wl,wh,qk,ne_eq,zgy,↓qc,↓wf,wc,wa,wk,we,wb,wv,ws,wd]
 ·have hp:=qe6 x h.procs i hl q.inc
  simp only[Pr.inc,w64]at hp
  rw[if_neg hr]
  rw[qm,qd qd5 qdm]
  rcases h0 with h0|h0<;>simp only[Ex.reg,h0,k6,if_true,if_false]at hr <;>
  simp only[qd9,h0,h1,k1,k2,k3,k4,k5,k5',hr,hq,hp,Pr.inc,w64,Pr.r,zgs,zgr,zgq,zgt,qg,qr,qh,qbj,we,wb,wi,wo,qb,wg,wl,wh,qk,ne_eq,zgy,↓qc,↓wf,wc,wa,wk,we,wb,wv,ws,wd]
theorem qao2 (h:x.Small) (hq:x.procs[i]? = some q) (h1:op.code=8) :
  qm (evL T) qdv [(.agg [(ii x.r0),(ii x.r1),(.fsl ((x.procs).map Pr.r) false),(ii x.sum),(ii x.ev.time),(.fsl ((x.ev.key).map qy) false),(ii x.ev.lp),(ii x.ev.kind),(ii x.ev.proc),(ii x.ev.arg),(.fsl ((x.out).map Evt.r) false),(.fsl ((x.gone).map qh7) false),(ii x.n),(bb x.over)]),(ii i),(.agg [(ii op.code),(ii op.a),(ii op.b),(ii op.c)])]=some (.tup [(.agg [(ii ((x.setP i { q.inc with alive:=false }).r0)),(ii ((x.setP i { q.inc with alive:=false }).r1)),(.fsl (((x.setP i { q.inc with alive:=false }).procs).map Pr.r) false),(ii ((x.setP i { q.inc with alive:=false }).sum)),(ii ((x.setP i { q.inc with alive:=false }).ev.time)),(.fsl (((x.setP i { q.inc with alive:=false }).ev.key).map qy) false),(ii ((x.setP i { q.inc with alive:=false }).ev.lp)),(ii ((x.setP i { q.inc with alive:=false }).ev.kind)),(ii ((x.setP i { q.inc with alive:=false }).ev.proc)),(ii ((x.setP i { q.inc with alive:=false }).ev.arg)),(.fsl (((x.setP i { q.inc with alive:=false }).out).map Evt.r) false),(.fsl (((x.setP i { q.inc with alive:=false }).gone).map qh7) false),(ii ((x.setP i { q.inc with alive:=false }).n)),(bb ((x.setP i { q.inc with alive:=false }).over))]),(bb true)]):=by
 have hl:=(zei.1 hq).1
 have k1:¬(8:Int)=1:=by decide
 have k2:¬(8:Int)=2:=by decide
 have k3:¬(8:Int)=3:=by decide
 have k4:¬(8:Int)=4:=by decide
 have k5:¬(8:Int)=5:=by decide
 have k6:¬(8:Int)=6:=by decide
 have k7:¬(8:Int)=7:=by decide
 have hp:=qe6 x h.procs i hl { q.inc with alive:=false }
 simp only[Pr.inc,w64]at hp⊢
 rw[qm,qd qd5 qdm]
 simp only[qd9,h1,k1,k2,k3,k4,k5,k6,k7,hq,hp,Pr.r,zgs,zgr,zgq,zgt,qg,qr,qh,qbj,wb,wi,wo,qb,wg,wl,wh,qk,ne_eq,zgy,↓qc,↓wf,wc,wa,wb,wd]
end
set_option maxRecDepth 10000
def stepR (x:Ex) (i:Nat) (q:Pr) (op:OpI):Ex×Bool:=
 if (qd8 (x.setP i q.inc) i q.inc op).2=1 then ((qd8 (x.setP i q.inc) i q.inc op).1,true)
 else if (qd8 (x.setP i q.inc) i q.inc op).2=2 then (qrv (qd8 (x.setP i q.inc) i q.inc op).1 i,true)
 else ((qd8 (x.setP i q.inc) i q.inc op).1,false)
theorem rstep_ev (x:Ex) (i:Nat) (op:OpI) (q:Pr) (h:x.Small) (hg:x.gone.length<1000) (hi:x.ev.proc=i) (hq:x.procs[i]? = some q) (ho:OpOk' op) :
  qm (evL T) qdv [(.agg [(ii x.r0),(ii x.r1),(.fsl ((x.procs).map Pr.r) false),(ii x.sum),(ii x.ev.time),(.fsl ((x.ev.key).map qy) false),(ii x.ev.lp),(ii x.ev.kind),(ii x.ev.proc),(ii x.ev.arg),(.fsl ((x.out).map Evt.r) false),(.fsl ((x.gone).map qh7) false),(ii x.n),(bb x.over)]),(ii i),(.agg [(ii op.code),(ii op.a),(ii op.b),(ii op.c)])]=some (.tup [(.agg [(ii ((stepR x i q op).1.r0)),(ii ((stepR x i q op).1.r1)),(.fsl (((stepR x i q op).1.procs).map Pr.r) false),(ii ((stepR x i q op).1.sum)),(ii ((stepR x i q op).1.ev.time)),(.fsl (((stepR x i q op).1.ev.key).map qy) false),(ii ((stepR x i q op).1.ev.lp)),(ii ((stepR x i q op).1.ev.kind)),(ii ((stepR x i q op).1.ev.proc)),(ii ((stepR x i q op).1.ev.arg)),(.fsl (((stepR x i q op).1.out).map Evt.r) false),(.fsl (((stepR x i q op).1.gone).map qh7) false),(ii ((stepR x i q op).1.n)),(bb ((stepR x i q op).1.over))]),(bb ((stepR x i q op).2))]):=by
 have hl:=(zei.1 hq).1
 have hc:op.code=1∨op.code=2∨op.code=3∨op.code=4∨op.code=5∨op.code=6∨op.code=7∨op.code=8:=by have:=ho.code;omega
 have fin : ∀(y:Ex) (b:Bool),stepR x i q op=(y,b)→qm (evL T) qdv [(.agg [(ii x.r0),(ii x.r1),(.fsl ((x.procs).map Pr.r) false),(ii x.sum),(ii x.ev.time),(.fsl ((x.ev.key).map qy) false),(ii x.ev.lp),(ii x.ev.kind),(ii x.ev.proc),(ii x.ev.arg),(.fsl ((x.out).map Evt.r) false),(.fsl ((x.gone).map qh7) false),(ii x.n),(bb x.over)]),(ii i),(.agg [(ii op.code),(ii op.a),(ii op.b),(ii op.c)])]=some (.tup [(.agg [(ii y.r0),(ii y.r1),(.fsl ((y.procs).map Pr.r) false),(ii y.sum),(ii y.ev.time),(.fsl ((y.ev.key).map qy) false),(ii y.ev.lp),(ii y.ev.kind),(ii y.ev.proc),(ii y.ev.arg),(.fsl ((y.out).map Evt.r) false),(.fsl ((y.gone).map qh7) false),(ii y.n),(bb y.over)]),(bb b)])→qm (evL T) qdv [(.agg [(ii x.r0),(ii x.r1),(.fsl ((x.procs).map Pr.r) false),(ii x.sum),(ii x.ev.time),(.fsl ((x.ev.key).map qy) false),(ii x.ev.lp),(ii x.ev.kind),(ii x.ev.proc),(ii x.ev.arg),(.fsl ((x.out).map Evt.r) false),(.fsl ((x.gone).map qh7) false),(ii x.n),(bb x.over)]),(ii i),(.agg [(ii op.code),(ii op.a),(ii op.b),(ii op.c)])]=some (.tup [(.agg [(ii ((stepR x i q op).1.r0)),(ii ((stepR x i q op).1.r1)),(.fsl (((stepR x i q op).1.procs).map Pr.r) false),(ii ((stepR x i q op).1.sum)),(ii ((stepR x i q op).1.ev.time)),(.fsl (((stepR x i q op).1.ev.key).map qy) false),(ii ((stepR x i q op).1.ev.lp)),(ii ((stepR x i q op).1.ev.kind)),(ii ((stepR x i q op).1.ev.proc)),(ii ((stepR x i q op).1.ev.arg)),(.fsl (((stepR x i q op).1.out).map Evt.r) false),(.fsl (((stepR x i q op).1.gone).map qh7) false),(ii ((stepR x i q op).1.n)),(bb ((stepR x i q op).1.over))]),(bb ((stepR x i q op).2))]):=by
  intro y b e k;rw[e];exact k
 rcases hc with hc|hc|hc|hc|hc|hc|hc|hc
 ·refine fin _ _ ?_ (qamb x i op q h hq hc)
  simp[stepR,qd8,hc,Ex.setP,Ex.create,Ex.ownE,Ex.kid,hi]
 ·refine fin _ _ ?_ (qamm x i op q h hq hc)
  simp[stepR,qd8,hc,Ex.setP,Ex.create,Ex.kid]
 ·refine fin _ _ ?_ (qajw x i op q h hg hq hc)
  by_cases ht:0<q.timer.length
  ·simp[stepR,qd8,hc,Ex.timerE,Ex.stopE,Ex.setP,Ex.create,Ex.ownE,Ex.kid,hi,ht,Pr.inc,wD]
  ·simp[stepR,qd8,hc,Ex.timerE,Ex.stopE,Ex.setP,Ex.create,Ex.ownE,Ex.kid,hi,ht,Pr.inc,wD]
 ·refine fin _ _ ?_ (qalz x i op q h hg hq hc)
  by_cases ht:0<q.timer.length
  ·simp[stepR,qd8,hc,Ex.stopE,Ex.setP,ht,Pr.inc,wD]
  ·simp[stepR,qd8,hc,Ex.stopE,Ex.setP,ht,Pr.inc]
 ·refine fin _ _ ?_ (qaj3 x i op q h hq hc)
  simp[stepR,qd8,hc]
 ·refine fin _ _ ?_ (qapt x i op q h hq hc (ho.reg (.inl hc)))
  rcases ho.reg (.inl hc)with h0|h0<;>simp[stepR,qd8,hc,Ex.setP,Ex.setReg,Ex.reg,h0]
 ·refine fin _ _ ?_ (qalo x i op q h hq hc (ho.reg (.inr hc)))
  have hr:(x.setP i q.inc).reg op.a=x.reg op.a:=rfl
  by_cases ht:x.reg op.a<op.b
  ·have hr2:(x.setP i q.inc).reg op.a<op.b:=ht
   have:(qd8 (x.setP i q.inc) i q.inc op)=((x.setP i q.inc).setP i { q.inc with pc:=op.c },0):=by simp only[qd8,hc];rw[if_pos hr2];rfl
   simp only[stepR,this,ht,if_true]
   simp[Ex.setP,wD]
  ·have hr2:¬(x.setP i q.inc).reg op.a<op.b:=ht
   have:(qd8 (x.setP i q.inc) i q.inc op)=(x.setP i q.inc,0):=by simp only[qd8,hc];rw[if_neg hr2];rfl
   simp only[stepR,this,ht,if_false]
   simp
 ·refine fin _ _ ?_ (qao2 x i op q h hq hc)
  have:(x.setP i q.inc).procs[i]? = some q.inc:=by simp only[Ex.setP];rw[wj hl]
  have hst:(qd8 (x.setP i q.inc) i q.inc op)=(x.setP i q.inc,2):=by simp[qd8,hc]
  simp only[stepR,hst,qrv,this]
  simp[Ex.setP,wD]
theorem qaam (p:List OpI) (i n:Nat) (x:Ex) (q:Pr) (hq:x.procs[i]? = some q):qpu p i (n+1) x=match p[q.pc.toNat]? with
  |none=>qrv x i
  |some op=>if (stepR x i q op).2=true then (stepR x i q op).1 else qpu p i n (stepR x i q op).1:=by
 simp only[qpu,hq]
 cases hp:p[q.pc.toNat]? with
 |none=>rfl
 |some op=>
  show (if (qd8 (x.setP i q.inc) i q.inc op).2=1 then (qd8 (x.setP i q.inc) i q.inc op).1 else if (qd8 (x.setP i q.inc) i q.inc op).2=2 then qrv (qd8 (x.setP i q.inc) i q.inc op).1 i else qpu p i n (qd8 (x.setP i q.inc) i q.inc op).1)=(if (stepR x i q op).2=true then (stepR x i q op).1 else qpu p i n (stepR x i q op).1)
  unfold stepR
  by_cases h1:(qd8 (x.setP i q.inc) i q.inc op).2=1
  ·simp only[h1,if_true]
  by_cases h2:(qd8 (x.setP i q.inc) i q.inc op).2=2
  ·rw[if_neg h1,if_pos h2,if_neg h1,if_pos h2];rfl
  ·simp only[h1,h2,if_false,zfa]
set_option maxRecDepth 10000
theorem qaml (x:Ex) (i:Nat) {q:Pr} (hq:x.procs[i]? = some q) : ∃q',(qrv x i).procs[i]? = some q'∧q'.prog=q.prog:=by
 have hl:=(zei.1 hq).1
 refine⟨{ q with alive:=false },?_,rfl⟩
 unfold qrv;rw[hq];simp only[Ex.setP];rw[wj hl]
theorem qak8 (x:Ex) (i:Nat) (q:Pr) (op:OpI) (hq:x.procs[i]? = some q) : ∃q',(qd8 x i q op).1.procs[i]? = some q'∧q'.prog=q.prog:=by
 have hl:=(zei.1 hq).1
 have hst : ∃q',(x.stopE i q).procs[i]? = some q'∧q'.prog=q.prog:=by
  unfold Ex.stopE;split
  ·exact⟨{ q with timer:=[] },by simp only;rw[wj hl],rfl⟩
  ·exact⟨q,hq,rfl⟩
 unfold qd8
 split
 ·exact⟨q,hq,rfl⟩
 split
 ·exact⟨q,hq,rfl⟩
 split
 ·obtain⟨q',h1,_⟩:=hst
  have hl2:=(zei.1 h1).1
  exact⟨{ q with timer:=(x.stopE i q).kid },by show ((x.stopE i q).procs.set i _)[i]? = _;rw[wj hl2],rfl⟩
 split
 ·exact hst
 split
 ·refine⟨q,?_,rfl⟩
  unfold Ex.spawnE;split
  ·show (x.procs++[_])[i]? = _
   rw[List.getElem?_append_left hl];exact hq
  ·exact hq
 split
 ·refine⟨q,?_,rfl⟩
  unfold Ex.setReg;split<;>exact hq
 split
 ·split
  ·exact⟨{ q with pc:=op.c },by simp only[Ex.setP];rw[wj hl],rfl⟩
  ·exact⟨q,hq,rfl⟩
 ·exact⟨q,hq,rfl⟩
theorem qamj (x:Ex) (i:Nat) (q:Pr) (op:OpI) (hq:x.procs[i]? = some q) : ∃q',(stepR x i q op).1.procs[i]? = some q'∧q'.prog=q.prog:=by
 have hl:=(zei.1 hq).1
 have h0:(x.setP i q.inc).procs[i]? = some q.inc:=by simp only[Ex.setP];rw[wj hl]
 obtain⟨q',h1,h2⟩:=qak8 (x.setP i q.inc) i q.inc op h0
 unfold stepR
 split
 ·exact⟨q',h1,h2⟩
 split
 ·obtain⟨q2,h3,h4⟩:=qaml _ i h1
  exact⟨q2,h3,h4.trans h2⟩
 ·exact⟨q',h1,h2⟩
theorem ActInv.stepR {e:Evt} {i n:Nat} {x:Ex} (h:ActInv e i n x) {q:Pr} (hq:x.procs[i]? = some q) (hpc:0≤q.pc∧q.pc+1≤1000000) {op:OpI} (ho:OpOk' op):ActInv e i (n+1) (stepR x i q op).1:=by
 have hlt:=(zei.1 hq).1
 have hwq:w64 (q.pc+1)=q.pc+1:=qi (by omega) (by omega)
 have hz:ActInv e i n (x.setP i q.inc):=by
  have:=h.pc hq (pc:=q.pc+1) ⟨by omega,by omega⟩ q.alive
  unfold Pr.inc;rw[hwq];exact this
 have hzq:(x.setP i q.inc).procs[i]? = some q.inc:=by simp only[Ex.setP];rw[wj hlt]
 have hn:=hz.step hzq (show 0≤q.inc.pc∧q.inc.pc≤1000000 by unfold Pr.inc;simp only[hwq];omega) ho
 unfold K.stepR
 split
 ·exact hn
 split
 ·obtain⟨q',h1,h2⟩:=hn.has
  have:=hn.pc h1 h2 false
  unfold qrv;rw[h1];exact this
 ·exact hn
section
variable (c:Cfg) (e0:Evt) (i:Nat) (p:List OpI) (pr:Int)
def RefEnd (e0:Evt) (i:Nat) (F:Ex) (y:CExit×Env×qj):Prop:=
 y.2.1.marks=[]∧((y.1 = .ret∧wt y.2.1.vars 6=some (.ptr 1 0 0 0) ∧ ∃q:Pr,y.2.2=[.row 14 [[(ii F.r0),(ii F.r1),(.fsl ((F.procs).map Pr.r) false),(ii F.sum),(ii F.ev.time),(.fsl ((F.ev.key).map qy) false),(ii F.ev.lp),(ii F.ev.kind),(ii F.ev.proc),(ii F.ev.arg),(.fsl ((F.out).map Evt.r) false),(.fsl ((F.gone).map qh7) false),(ii F.n),(bb F.over)]] 0,.row 14 [[(ii F.r0),(ii F.r1),(.fsl ((F.procs).map Pr.r) false),(ii F.sum),(ii F.ev.time),(.fsl ((F.ev.key).map qy) false),(ii F.ev.lp),(ii F.ev.kind),(ii F.ev.proc),(ii F.ev.arg),(.fsl ((F.out).map Evt.r) false),(.fsl ((F.gone).map qh7) false),(ii F.n),(bb F.over)]] 0,.row 4 [q.r] 0,.row 14 [[(ii F.r0),(ii F.r1),(.fsl ((F.procs).map Pr.r) false),(ii F.sum),(ii F.ev.time),(.fsl ((F.ev.key).map qy) false),(ii F.ev.lp),(ii F.ev.kind),(ii F.ev.proc),(ii F.ev.arg),(.fsl ((F.out).map Evt.r) false),(.fsl ((F.gone).map qh7) false),(ii F.n),(bb F.over)]] 0]) ∨
  (y.1 = .exit 0 ∧ ∃z:Ex,ActInv e0 i 16 z∧qrv z i=F∧wt y.2.1.vars 4=some (.ptr 0 0 0 0)∧wt y.2.1.vars 6=some (.ptr 1 0 0 0)∧wt y.2.1.vars 2=some (ii i) ∧
   (y.2.2=[.row 14 [[(ii z.r0),(ii z.r1),(.fsl ((z.procs).map Pr.r) false),(ii z.sum),(ii z.ev.time),(.fsl ((z.ev.key).map qy) false),(ii z.ev.lp),(ii z.ev.kind),(ii z.ev.proc),(ii z.ev.arg),(.fsl ((z.out).map Evt.r) false),(.fsl ((z.gone).map qh7) false),(ii z.n),(bb z.over)]] 0,.row 14 [[(ii 0),(ii 0),.fsl [] false,(ii 0),(ii 0),.fsl [] false,(ii 0),(ii 0),(ii 0),(ii 0),.fsl [] false,.fsl [] false,(ii 0),(bb false)]] 0] ∨ ∃q:Pr,y.2.2=[.row 14 [[(ii z.r0),(ii z.r1),(.fsl ((z.procs).map Pr.r) false),(ii z.sum),(ii z.ev.time),(.fsl ((z.ev.key).map qy) false),(ii z.ev.lp),(ii z.ev.kind),(ii z.ev.proc),(ii z.ev.arg),(.fsl ((z.out).map Evt.r) false),(.fsl ((z.gone).map qh7) false),(ii z.n),(bb z.over)]] 0,.row 14 [[(ii 0),(ii 0),.fsl [] false,(ii 0),(ii 0),.fsl [] false,(ii 0),(ii 0),(ii 0),(ii 0),.fsl [] false,.fsl [] false,(ii 0),(bb false)]] 0,.row 4 [q.r] 0])))
theorem qaoq (hk:e0.key.length≤100000) (hpr:e0.proc=i) (hpl:p.length≤1000) (hok : ∀op∈p,OpOk' op) (h0:0≤pr) (hp:c.progs[pr.toNat]? = some p) (x:Ex) (hx:ActInv e0 i 0 x) (hxp : ∃q,x.procs[i]? = some q∧q.prog=pr) :
  ∃y,itB (exec (evL T) itL none qfz) (qu [2,3,4,6,7] true 2) ⟨[(2,(ii i)),(3,(.fptr [(.fsl ((c.lps).map lpC) false),(.fsl ((c.progs).map qau) false),(ii c.look),(ii c.fin),(ii c.cap)])),(4,.ptr 0 0 0 0),(6,.ptr 1 0 0 0),(7,(ii 0))],[]⟩ [.row 14 [[(ii x.r0),(ii x.r1),(.fsl ((x.procs).map Pr.r) false),(ii x.sum),(ii x.ev.time),(.fsl ((x.ev.key).map qy) false),(ii x.ev.lp),(ii x.ev.kind),(ii x.ev.proc),(ii x.ev.arg),(.fsl ((x.out).map Evt.r) false),(.fsl ((x.gone).map qh7) false),(ii x.n),(bb x.over)]] 0,.row 14 [[(ii 0),(ii 0),.fsl [] false,(ii 0),(ii 0),.fsl [] false,(ii 0),(ii 0),(ii 0),(ii 0),.fsl [] false,.fsl [] false,(ii 0),(bb false)]] 0]=some y∧RefEnd e0 i (qpu p i 16 x) y:=by
 have:=qcq (f:=exec (evL T) itL none qfz) (s:=qu [2,3,4,6,7] true 2) (α:=Ex) (fun j _=>⟨[(2,(ii i)),(3,(.fptr [(.fsl ((c.lps).map lpC) false),(.fsl ((c.progs).map qau) false),(ii c.look),(ii c.fin),(ii c.cap)])),(4,.ptr 0 0 0 0),(6,.ptr 1 0 0 0),(7,(ii ((j:Int))))],[]⟩) (fun _ a=>[.row 14 [[(ii a.r0),(ii a.r1),(.fsl ((a.procs).map Pr.r) false),(ii a.sum),(ii a.ev.time),(.fsl ((a.ev.key).map qy) false),(ii a.ev.lp),(ii a.ev.kind),(ii a.ev.proc),(ii a.ev.arg),(.fsl ((a.out).map Evt.r) false),(.fsl ((a.gone).map qh7) false),(ii a.n),(bb a.over)]] 0,.row 14 [[(ii 0),(ii 0),.fsl [] false,(ii 0),(ii 0),.fsl [] false,(ii 0),(ii 0),(ii 0),(ii 0),.fsl [] false,.fsl [] false,(ii 0),(bb false)]] 0])
  (fun j a=>ActInv e0 i j a∧(∃q,a.procs[i]? = some q∧q.prog=pr)∧qpu p i (16-j) a=qpu p i 16 x) 16 (RefEnd e0 i (qpu p i 16 x)) ?_ ?_ 0 x (Nat.zero_le _) ⟨hx,hxp,rfl⟩
 ·exact this
 ·rintro j y hj ⟨hi1,⟨q,hq,hqp⟩,hi2⟩
  have hpc:0≤q.pc∧q.pc≤1000000:=by obtain⟨q',h1,h2⟩:=hi1.has;rw[hq]at h1;cases h1;exact h2
  have hlt:=(zei.1 hq).1
  have hpr':y.ev.proc=i:=by rw[hi1.ev];exact hpr
  have hj':(j:Int)<16:=by omega
  have hw:IntKind.i64.wrap ((j:Int)+1)=((j+1:Nat):Int):=by rw[qi (by omega) (by omega)];simp
  rw[show 16-j=(16-(j+1))+1 from by omega,qaam p i _ y q hq]at hi2
  cases hop:p[q.pc.toNat]? with
  |none=>
   rw[hop]at hi2
   simp only at hi2
   have hge:q.pc≥(p.length:Int):=by have:=List.getElem?_eq_none_iff.1 hop;omega
   right
   simp only[qfz,hj',hge,zgs,zgr,zgq,zgt,hq,hqp,h0,hp,Pr.r,qau,wi,wo,qb,wg,wh,ne_eq,zgy,↓qc,↓wf,wc,wa,wd]
   exact⟨_,rfl,rfl,.inr ⟨rfl,y,⟨hi1.ev,hi1.has,hi1.procs,by have:=hi1.out;omega,by have:=hi1.gone;omega⟩,hi2,rfl,rfl,rfl,.inr ⟨⟨pr,q.pc,q.alive,q.timer⟩,rfl⟩⟩⟩
  |some op=>
   rw[hop]at hi2
   simp only at hi2
   have hlp:=(zei.1 hop).1
   have hge:¬q.pc≥(p.length:Int):=by omega
   have hoo:=hok op (zmg hop)
   have hv:=rstep_ev y i op q (hi1.small (by omega) hk) (by have:=hi1.gone;omega) hpr' hq hoo
   have hn:=hi1.stepR hq ⟨by omega,by omega⟩ hoo
   have hnp:=qamj y i q op hq
   rw[hqp]at hnp
   generalize stepR y i q op=S at hi2 hn hv hnp
   obtain⟨z,b⟩:=S
   simp only at hi2 hn hv hnp
   cases b with
   |true=>
    right
    simp only[if_true]at hi2
    simp only[qfz,hj',hge,hv,zgs,zgr,zgq,zgt,hq,hqp,h0,hp,hpc,hop,Pr.r,OpI.r,qau,qg,qr,qh,qbj,wi,wo,qb,wg,wh,ne_eq,zgy,↓qc,↓wf,wc,wa]
    exact⟨_,rfl,rfl,.inl ⟨rfl,rfl,⟨pr,q.pc,q.alive,q.timer⟩,by rw[←hi2];rfl⟩⟩
   |false=>
    left
    simp only[zfa,if_false]at hi2
    refine⟨z,?_,hn,hnp,hi2⟩
    simp only[qfz,hj',hge,hv,hw,zgs,zgr,zgq,zgt,hq,hqp,h0,hp,hpc,hop,Pr.r,OpI.r,qau,qv,qax,qg,qr,qh,qbj,we,wi,wo,qb,wg,wh,wn,ne_eq,zgy,↓qc,↓wf,wc,wa,we]
 ·rintro y ⟨hi1,_,hi2⟩
  simp only[qfz,wz,wi,zgy,↓qc,↓wf,wa]
  exact⟨_,rfl,rfl,.inr ⟨rfl,y,hi1,hi2,rfl,rfl,rfl,.inl rfl⟩⟩
theorem q62 (hk:e0.key.length≤100000) (hpr:e0.proc=i) (hpl:p.length≤1000) (hok : ∀op∈p,OpOk' op) (h0:0≤pr) (hp:c.progs[pr.toNat]? = some p) (x:Ex) (hx:ActInv e0 i 0 x) (hxp : ∃q,x.procs[i]? = some q∧q.prog=pr) :
  qm (evL T) qik [(.agg [(.fsl ((c.lps).map lpC) false),(.fsl ((c.progs).map qau) false),(ii c.look),(ii c.fin),(ii c.cap)]),(.agg [(ii x.r0),(ii x.r1),(.fsl ((x.procs).map Pr.r) false),(ii x.sum),(ii x.ev.time),(.fsl ((x.ev.key).map qy) false),(ii x.ev.lp),(ii x.ev.kind),(ii x.ev.proc),(ii x.ev.arg),(.fsl ((x.out).map Evt.r) false),(.fsl ((x.gone).map qh7) false),(ii x.n),(bb x.over)]),(ii i)]=some (.agg [(ii ((qpu p i 16 x).r0)),(ii ((qpu p i 16 x).r1)),(.fsl (((qpu p i 16 x).procs).map Pr.r) false),(ii ((qpu p i 16 x).sum)),(ii ((qpu p i 16 x).ev.time)),(.fsl (((qpu p i 16 x).ev.key).map qy) false),(ii ((qpu p i 16 x).ev.lp)),(ii ((qpu p i 16 x).ev.kind)),(ii ((qpu p i 16 x).ev.proc)),(ii ((qpu p i 16 x).ev.arg)),(.fsl (((qpu p i 16 x).out).map Evt.r) false),(.fsl (((qpu p i 16 x).gone).map qh7) false),(ii ((qpu p i 16 x).n)),(bb ((qpu p i 16 x).over))]):=by
 obtain⟨⟨y,e,σ⟩,k1,k2,k3⟩:=qaoq c e0 i p pr hk hpr hpl hok h0 hp x hx hxp
 simp only at k2 k3
 generalize qpu p i 16 x=F at k3
 rw[qm,qd q4x q2s]
 rcases k3 with ⟨rfl,k4,q,rfl⟩|⟨rfl,z,kz,k4,k5,k6,k7,k8⟩
 ·simp only[qj3,k1,k2,k4,qv,qax,qg,qr,qh,qbj,we,wi,qb,wg,wh,qk,wn,ne_eq,zgy,↓qc,↓qq,↓wf,wc,wa,we,wd]
 ·obtain⟨q,hq,hpc⟩:=kz.has
  have hlt:=(zei.1 hq).1
  have hv:=qe6 z (by have:=kz.procs;omega) i hlt { q with alive:=false }
  have hkz:qrv z i=z.setP i { q with alive:=false }:=by unfold qrv;rw[hq]
  rw[hkz]at k4
  subst k4
  simp only at hv
  rcases k8 with rfl|⟨q2,rfl⟩
  ·simp only[qj3,k1,k2,k5,k6,k7,hq,hv,Pr.r,zgs,zgr,zgq,zgt,qv,qax,qg,qr,qh,qbj,we,wb,wi,wo,qb,wg,wl,wh,qk,wn,ne_eq,zgy,↓qc,↓qq,↓wf,wc,wa,we,wb,wd]
  ·simp only[qj3,k1,k2,k5,k6,k7,hq,hv,Pr.r,zgs,zgr,zgq,zgt,qv,qax,qg,qr,qh,qbj,we,wb,wi,wo,qb,wg,wl,wh,qk,wn,ne_eq,zgy,↓qc,↓qq,↓wf,wc,wa,we,wb,wd]
end
end Go.Proofs.YtpgdfkciinankaaGreat.K
