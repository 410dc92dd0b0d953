/- For every input the statement of this claim returns true: texts of its proof, joined (part 8). -/
import Derived.Test.YtfdoelhnnmcppaaGreatGT04
import Derived.Test.YtfdoelhnnmcppaaGreatGT06
set_option linter.unusedSectionVars false
set_option linter.unusedSimpArgs false
set_option linter.unusedVariables false
open Nat renaming reduceEqDiff → wa, reduceLT → wb, reduceAdd → wd, reduceLeDiff → wf, reduceMul → wo, reducePow → wq, zero_le → wJ, sub_zero → wK
open _root_ renaming reduceCtorEq → wc, reduceIte → we
open Go.Ev.AV renaming cells → wg, plain → wh, uc → wp
open Go.Ev.SObj renaming lo → wi
open Go.Ev renaming ev1 → wj, stP → wr, look → ws
open List renaming map_nil → wk, length_append → wl, eq_nil_of_length_eq_zero → wm, getElem?_set_self → wn, replicate → wt, append_assoc → wu, map_append → wz, mem_singleton → wA, take_add_one → wB, map_set → wC, mem_append → wE, length_set → wI
open Int renaming lt_irrefl → wv, le_refl → ww, reduceEq → wx, toNat_zero → wy, reduceToNat → wF, reduceLE → wH
open Bool renaming and_eq_true → wD
open List.Perm renaming append_left → wG
namespace Go.Proofs.YtfdoelhnnmcppaaGreat.K
open Go.Ev
set_option maxRecDepth 10000
section
variable (g:Nat) (cl:Bool) (n:Nat)
theorem q5o (hb:n<2^61) : ∀(k:Nat) (P X Y Q:List Item),X.length+Y.length≤k→0<X.length→0<Y.length→X.Pairwise qm2→Y.Pairwise qm2→n=(P++(X++(Y++Q))).length→qi1 (P++(X++(Y++Q))) →
  ∀a m b:Nat,a=P.length→m=a+X.length→b=m+Y.length → ∃Z:List Item,Z.Perm (X++Y)∧Z.Pairwise qm2∧qsd g cl n a m b (P++(X++(Y++Q))) (P++(Z++Q)):=by
 intro k
 induction k with
 |zero=>intro P X Y Q h1 h2 h3;omega
 |succ k ih=>
  intro P X Y Q hk hX0 hY0 hX hY hn hkeys a m b ha hm hbb
  by_cases hx:X.length=1
  ·obtain⟨x,rfl⟩:=List.length_eq_one_iff.1 hx
   simp only[zgm,zgl,zga,zgb]at hn hkeys hm⊢
   exact qahn g cl n P Y Q x hY hY0 hn hb hkeys a m b ha hm hbb
  by_cases hy:Y.length=1
  ·obtain⟨y,rfl⟩:=List.length_eq_one_iff.1 hy
   simp only[zgm,zgl,zga,zgb]at hn hkeys hbb⊢
   exact qago g cl n P X Q y hX (by omega) hn hb hkeys a m b ha hm hbb
  have hlen:n=P.length+(X.length+(Y.length+Q.length)):=by rw[hn];simp
  obtain⟨mid,hmid⟩ : ∃mid,mid=(a+b) / 2:=⟨_,rfl⟩
  obtain⟨nn,hnn⟩ : ∃nn,nn=mid+m:=⟨_,rfl⟩
  obtain⟨p,hp⟩ : ∃p,nn=p+1:=⟨nn-1,by omega⟩
  obtain⟨lo,hi,hlo⟩ : ∃lo hi,mid<m∧nn=b+lo∧hi=mid∨¬mid<m∧lo=a∧hi=m:=by
   by_cases c:mid<m
   ·exact⟨nn-b,mid,.inl ⟨c,by omega,rfl⟩⟩
   ·exact⟨a,m,.inr ⟨c,rfl,rfl⟩⟩
  obtain⟨y,f1,start,f2,f3,f4,f5,f6,f7,f8,f9,f10,f11,f12,f13,f14,f15,f16⟩:=qaff g cl n (P++(X++(Y++Q))) hn hb hkeys a m b mid nn p lo hi hp (by omega) (fun c h1 h2=>by omega) (by omega) (by omega)
  obtain⟨fin,hfin⟩ : ∃fin,nn=start+fin:=⟨nn-start,by omega⟩
  obtain⟨X1,X2,rfl,hX1⟩ : ∃X1 X2,X=X1++X2∧X1.length=start-a:=⟨X.take (start-a),X.drop (start-a),(List.take_append_drop _ _).symm,by simp;omega⟩
  obtain⟨Y1,Y2,rfl,hY1⟩ : ∃Y1 Y2,Y=Y1++Y2∧Y1.length=fin-m:=⟨Y.take (fin-m),Y.drop (fin-m),(List.take_append_drop _ _).symm,by simp;omega⟩
  simp only[zgp]at hk hX0 hY0 hx hy hm hbb hlen
  obtain⟨x1,x2,x3⟩:=List.pairwise_append.1 hX
  obtain⟨y1,y2,y3⟩:=List.pairwise_append.1 hY
  have hst:start=a+X1.length:=by omega
  have hfi:fin=m+Y1.length:=by omega
  have N:NumsJ n X1.length X2.length Y1.length Y2.length a m b mid nn lo hi p start fin:=⟨by omega,by omega,hb,hmid,hnn,hp,hfin,hm,hbb,by omega,hst,hfi⟩
  simp only[wu]at f1 f4 f15 f16 hn hkeys⊢
  have hk2:qi1 (P++(X1++(Y1++(X2++(Y2++Q))))):=by
   intro z hz;refine hkeys z ?_
   simp only[wE]at hz⊢
   rcases hz with h|h|h|h|h|h
   ·exact .inl h
   ·exact .inr (.inl h)
   ·exact .inr (.inr (.inr (.inl h)))
   ·exact .inr (.inr (.inl h))
   ·exact .inr (.inr (.inr (.inr (.inl h))))
   ·exact .inr (.inr (.inr (.inr (.inr h))))
  obtain⟨Z1,p1,q1,s2,n2⟩ : ∃Z1:List Item,Z1.Perm (X1++Y1)∧Z1.Pairwise qm2∧(a<start→start<mid→qsd g cl n a start mid (P++(X1++(Y1++(X2++(Y2++Q))))) (P++(Z1++(X2++(Y2++Q)))))∧(¬(a<start∧start<mid)→P++(Z1++(X2++(Y2++Q)))=P++(X1++(Y1++(X2++(Y2++Q))))):=by
   by_cases c:a<start∧start<mid
   ·obtain⟨Z,p1,q1,r1⟩:=ih P X1 Y1 (X2++(Y2++Q)) (by omega) (by omega) (by omega) x1 y1 (by rw[hlen];simp;omega) hk2 a start mid ha hst (by omega)
    exact⟨Z,p1,q1,fun _ _=>r1,fun h=>absurd c h⟩
   ·refine⟨X1++Y1,.refl _,?_,fun h1 h2=>absurd ⟨h1,h2⟩ c,fun _=>by simp⟩
    by_cases c1:a<start
    ·rw[show Y1=[] from wm (by omega),List.append_nil];exact x1
    ·rw[show X1=[] from wm (by omega),List.nil_append];exact y1
  have lz:=p1.length_eq
  rw[wl]at lz
  have hk3:qi1 (P++Z1++(X2++(Y2++Q))):=by
   intro z hz;refine hk2 z ?_
   have:=p1.mem_iff (a:=z)
   simp only[wE]at hz this⊢
   rcases hz with (h|h)|h
   ·exact .inl h
   ·rcases this.1 h with h|h
    ·exact .inr (.inl h)
    ·exact .inr (.inr (.inl h))
   ·exact .inr (.inr (.inr h))
  obtain⟨Z2,p2,q2,s3,n3⟩ : ∃Z2:List Item,Z2.Perm (X2++Y2)∧Z2.Pairwise qm2∧(mid<fin→fin<b→qsd g cl n mid fin b (P++(Z1++(X2++(Y2++Q)))) (P++(Z1++(Z2++Q))))∧(¬(mid<fin∧fin<b)→P++(Z1++(Z2++Q))=P++(Z1++(X2++(Y2++Q)))):=by
   by_cases c:mid<fin∧fin<b
   ·obtain⟨Z,p2,q2,r2⟩:=ih (P++Z1) X2 Y2 Q (by omega) (by omega) (by omega) x2 y2 (by rw[hlen];simp;omega) hk3 mid fin b (by simp;omega) (by omega) (by omega)
    simp only[wu]at r2
    exact⟨Z,p2,q2,fun _ _=>r2,fun h=>absurd c h⟩
   ·refine⟨X2++Y2,.refl _,?_,fun h1 h2=>absurd ⟨h1,h2⟩ c,fun _=>by simp⟩
    by_cases c1:mid<fin
    ·rw[show Y2=[] from wm (by omega),List.append_nil];exact x2
    ·rw[show X2=[] from wm (by omega),List.nil_append];exact y2
  have ms:=q9g qzn hX hY (Z1:=Z1) (Z2:=Z2) ?_ ?_ p1 p2 q1 q2
  ·refine⟨Z1++Z2,by simpa using ms.1,ms.2,?_⟩
   simp only[wu]
   refine qake g cl n X1.length X2.length Y1.length Y2.length a m b mid nn lo hi p start fin _ _ _ _ N hlo ⟨y,f1,f2,f3,f4,f5,f6,f7,f8,f9,f10,f11,f12⟩ ?_ ?_ s2 n2 s3 n3
   ·intro c1 c2
    have r:=qajx g cl n (P++X1) X2 Y1 (Y2++Q) (by omega) (by omega) (by rw[hlen];simp;omega) hb start m fin (by simp;omega) (by omega) (by omega)
    simpa only[wu]using r
   ·intro c
    by_cases c1:start<m
    ·rw[show Y1=[] from wm (by omega)];simp
    ·rw[show X2=[] from wm (by omega)];simp
  ·intro u v hu hv
   have hlt:X1.length-1<X1.length:=(zei.1 hu).1
   have hlt2:0<Y2.length:=(zei.1 hv).1
   rcases f15 with h|h
   ·omega
   ·refine h u v ?_ ?_
    ·rw[←hu];exact qrl (L:=P) (X:=X1) (M:=X2++(Y1++(Y2++Q))) rfl hlt (by omega)
    ·rw[←hv];exact qrl (L:=P++(X1++(X2++Y1))) (X:=Y2) (M:=Q) (by simp) hlt2 (by simp;omega)
  ·intro u v hu hv
   have hlt:Y1.length-1<Y1.length:=(zei.1 hu).1
   have hlt2:0<X2.length:=(zei.1 hv).1
   rcases f16 with h|h
   ·omega
   ·refine h u v ?_ ?_
    ·rw[←hu];exact qrl (L:=P++(X1++X2)) (X:=Y1) (M:=Y2++Q) (by simp) hlt (by simp;omega)
    ·rw[←hv];exact qrl (L:=P++X1) (X:=X2) (M:=Y1++(Y2++Q)) (by simp) hlt2 (by simp;omega)
end
set_option maxRecDepth 10000
theorem qafy {a:Nat} (h:a<2^61):IntKind.i64.wrap (2*(a:Int))=((2*a:Nat):Int):=by rw[qk (by omega) (by omega)];omega
theorem qakj {a:Nat} (h:a<2^61):IntKind.i64.wrap ((a:Int)*2)=((2*a:Nat):Int):=by rw[qk (by omega) (by omega)];omega
section
variable (g:Nat) (cl:Bool) (n:Nat)
theorem qajd (l:List Item) (hn:n=l.length) (hb:n<2^58) (hk:qi1 l) :
  ∃y,itB (exec (evL T) itL none qc9) (qao [0,1,2,6,7,8] true 1) ⟨[(0,.sl 0 g 0 n cl),(1,(ii n)),(2,(.fn (.func qe) [] [])),(6,(ii 20)),(7,(ii 0)),(8,(ii 20))],[]⟩ [.row 3 ((l).map Item.c) g]=some y ∧
   ∃a:Nat,y.1 = .exit 0∧y.2.1.marks=[]∧ws y.2.1.vars 0=some (.sl 0 g 0 n cl)∧ws y.2.1.vars 1=some (ii n)∧ws y.2.1.vars 2=some (.fn (.func qe) [] [])∧ws y.2.1.vars 6=some (ii 20)∧ws y.2.1.vars 7=some (ii a) ∧
    ∃Dn Rs:List Item,y.2.2=[.row 3 ((Dn++Rs).map Item.c) g]∧a=Dn.length∧(Dn++Rs).Perm l∧Rs.length<20 ∧ ∀t,Blk qm2 20 t→Blk qm2 20 (Dn++t):=by
 have key:=qe1 (f:=exec (evL T) itL none qc9) (s:=qao [0,1,2,6,7,8] true 1) (τ:=List Item×Nat)
  (fun s=>⟨[(0,.sl 0 g 0 n cl),(1,(ii n)),(2,(.fn (.func qe) [] [])),(6,(ii 20)),(7,(ii s.2)),(8,(ii ((s.2+20:Nat))))],[]⟩) (fun s=>[.row 3 ((s.1).map Item.c) g]) (fun s=>n+20-s.2)
  (fun s => ∃Dn Rs,s.1=Dn++Rs∧s.2=Dn.length∧(Dn++Rs).Perm l ∧ ∀t,Blk qm2 20 t→Blk qm2 20 (Dn++t))
  (fun y => ∃a:Nat,y.1 = .exit 0∧y.2.1.marks=[]∧ws y.2.1.vars 0=some (.sl 0 g 0 n cl)∧ws y.2.1.vars 1=some (ii n)∧ws y.2.1.vars 2=some (.fn (.func qe) [] [])∧ws y.2.1.vars 6=some (ii 20)∧ws y.2.1.vars 7=some (ii a) ∧
    ∃Dn Rs:List Item,y.2.2=[.row 3 ((Dn++Rs).map Item.c) g]∧a=Dn.length∧(Dn++Rs).Perm l∧Rs.length<20 ∧ ∀t,Blk qm2 20 t→Blk qm2 20 (Dn++t)) ?_ (l,0) ⟨[],l,rfl,rfl,.refl _,fun t h=>h⟩
 ·exact key
 rintro⟨D,a⟩ ⟨Dn,Rs,hD,ha,hp,hB⟩
 simp only at hD ha⊢
 have hl:=hp.length_eq
 rw[wl]at hl
 by_cases c:a+20≤n
 case neg=>
  have h1:¬((a+20:Nat):Int)≤(n:Int):=by omega
  right
  simp only[qc9,h1,wj,zgy,↓qc,↓we,wa,wc]
  exact⟨_,rfl,a,rfl,rfl,rfl,rfl,rfl,rfl,rfl,Dn,Rs,by rw[hD],ha,hp,by omega,hB⟩
 have h1:((a+20:Nat):Int)≤(n:Int):=by omega
 obtain⟨S,Q,rfl,hS⟩ : ∃S Q,Rs=S++Q∧S.length=20:=⟨Rs.take 20,Rs.drop 20,(List.take_append_drop _ _).symm,by simp;omega⟩
 rw[wl]at hl
 have hkD:qi1 (Dn++(S++Q)):=hk.perm hp
 obtain⟨S',p1,q1,r1⟩:=q2d g cl n Dn S Q (by simp;omega) (by omega) hkD a (a+20) ha (by omega)
 have w1:IntKind.i64.wrap (((a+20:Nat):Int)+20)=((a+20+20:Nat):Int):=by rw[qk (by omega) (by omega)];omega
 rw[←hD]at r1
 left
 refine⟨(Dn++(S'++Q),a+20),?_,⟨Dn++S',Q,by simp,?_,?_,?_⟩,by simp only;omega⟩
 ·simp only[qc9,h1,w1,r1,qa0,wj,wi,zgy,↓qc,↓we,wa,wc]
 ·have:=p1.length_eq;simp;omega
 ·rw[wu];exact(wG Dn (p1.append_right Q)).trans hp
 ·intro t ht
  rw[wu]
  exact hB _ (.more (by rw[p1.length_eq];exact hS) q1 ht)
theorem qajb (l D0:List Item) (hn:n=l.length) (hb:n<2^58) (hk:qi1 l) (s:Nat) (hs:0<s) (hsn:s<n) (hp0:D0.Perm l) (hB0:Blk qm2 s D0) :
  ∃y,itB (exec (evL T) itL none qdb) (qao [0,1,2,6,7,8] true 1) ⟨[(0,.sl 0 g 0 n cl),(1,(ii n)),(2,(.fn (.func qe) [] [])),(6,(ii s)),(7,(ii 0)),(8,(ii ((2*s:Nat))))],[]⟩ [.row 3 ((D0).map Item.c) g]=some y ∧
   ∃a:Nat,y.1 = .exit 4∧y.2.1.marks=[]∧ws y.2.1.vars 0=some (.sl 0 g 0 n cl)∧ws y.2.1.vars 1=some (ii n)∧ws y.2.1.vars 2=some (.fn (.func qe) [] [])∧ws y.2.1.vars 6=some (ii s)∧ws y.2.1.vars 7=some (ii a) ∧
    ∃Dn Rs:List Item,y.2.2=[.row 3 ((Dn++Rs).map Item.c) g]∧a=Dn.length∧(Dn++Rs).Perm l∧Rs.length<2*s∧Blk qm2 s Rs ∧ ∀t,Blk qm2 (2*s) t→Blk qm2 (2*s) (Dn++t):=by
 have key:=qe1 (f:=exec (evL T) itL none qdb) (s:=qao [0,1,2,6,7,8] true 1) (τ:=List Item×Nat)
  (fun z=>⟨[(0,.sl 0 g 0 n cl),(1,(ii n)),(2,(.fn (.func qe) [] [])),(6,(ii s)),(7,(ii z.2)),(8,(ii ((z.2+2*s:Nat))))],[]⟩) (fun z=>[.row 3 ((z.1).map Item.c) g]) (fun z=>n+2*s-z.2)
  (fun z => ∃Dn Rs,z.1=Dn++Rs∧z.2=Dn.length∧(Dn++Rs).Perm l∧Blk qm2 s Rs ∧ ∀t,Blk qm2 (2*s) t→Blk qm2 (2*s) (Dn++t))
  (fun y => ∃a:Nat,y.1 = .exit 4∧y.2.1.marks=[]∧ws y.2.1.vars 0=some (.sl 0 g 0 n cl)∧ws y.2.1.vars 1=some (ii n)∧ws y.2.1.vars 2=some (.fn (.func qe) [] [])∧ws y.2.1.vars 6=some (ii s)∧ws y.2.1.vars 7=some (ii a) ∧
    ∃Dn Rs:List Item,y.2.2=[.row 3 ((Dn++Rs).map Item.c) g]∧a=Dn.length∧(Dn++Rs).Perm l∧Rs.length<2*s∧Blk qm2 s Rs ∧ ∀t,Blk qm2 (2*s) t→Blk qm2 (2*s) (Dn++t)) ?_ (D0,0) ⟨[],D0,rfl,rfl,hp0,hB0,fun t h=>h⟩
 ·simp only[zfd]at key;exact key
 rintro⟨D,a⟩ ⟨Dn,Rs,hD,ha,hp,hR,hB⟩
 simp only at hD ha⊢
 have hl:=hp.length_eq
 rw[wl]at hl
 by_cases c:a+2*s≤n
 case neg=>
  have h1:¬((a+2*s:Nat):Int)≤(n:Int):=by omega
  right
  simp only[qdb,h1,wj,zgy,↓qc,↓we,wa,wc]
  exact⟨_,rfl,a,rfl,rfl,rfl,rfl,rfl,rfl,rfl,Dn,Rs,by rw[hD],ha,hp,by omega,hR,hB⟩
 have h1:((a+2*s:Nat):Int)≤(n:Int):=by omega
 obtain⟨X,Y,Q,rfl,hX,hY,qX,qY,hQ⟩ : ∃X Y Q,Rs=X++(Y++Q)∧X.length=s∧Y.length=s∧X.Pairwise qm2∧Y.Pairwise qm2∧Blk qm2 s Q:=by
  obtain⟨X,R1,rfl,h2,h3,h4⟩:=hR.split (by omega)
  rw[wl]at hl
  by_cases c2:R1.length≤s
  ·exact⟨X,R1,[],by simp,h2,by omega,h3,h4.sorted c2,.nil⟩
  ·obtain⟨Y,Q,rfl,h5,h6,h7⟩:=h4.split (by omega)
   exact⟨X,Y,Q,rfl,h2,h5,h3,h6,h7⟩
 rw[wl,wl]at hl
 have hkD:qi1 (Dn++(X++(Y++Q))):=hk.perm hp
 obtain⟨Z,p1,q1,r1⟩:=q5o g cl n (by omega) _ Dn X Y Q (Nat.le_refl _) (by omega) (by omega) qX qY (by simp;omega) hkD a (a+s) (a+2*s) ha (by omega) (by omega)
 have w1:IntKind.i64.wrap ((a:Int)+(s:Int))=((a+s:Nat):Int):=qg4 (by omega)
 have w2:IntKind.i64.wrap (2*(s:Int))=((2*s:Nat):Int):=qafy (by omega)
 have w3:IntKind.i64.wrap (((a+2*s:Nat):Int)+((2*s:Nat):Int))=((a+2*s+2*s:Nat):Int):=qg4 (by omega)
 unfold qsd at r1
 rw[←hD]at r1
 have hz:=p1.length_eq
 rw[wl]at hz
 left
 refine⟨(Dn++(Z++Q),a+2*s),?_,⟨Dn++Z,Q,by simp,?_,?_,hQ,?_⟩,by simp only;omega⟩
 ·simp only[qdb,h1,w1,w2,w3,r1,qa0,wj,wi,zgy,↓qc,↓we,wa,wc]
 ·simp;omega
 ·rw[wu]
  refine(wG Dn (p1.append_right Q)).trans ?_
  rw[wu];exact hp
 ·intro t ht
  rw[wu]
  exact hB _ (.more (by omega) q1 ht)
theorem qajv (l D0:List Item) (hn:n=l.length) (hb:n<2^58) (hk:qi1 l) (hp0:D0.Perm l) (hB0:Blk qm2 20 D0) :
  ∃y,itB (exec (evL T) itL none qb6) (qao [0,1,2,6] true 1) ⟨[(0,.sl 0 g 0 n cl),(1,(ii n)),(2,(.fn (.func qe) [] [])),(6,(ii 20))],[]⟩ [.row 3 ((D0).map Item.c) g]=some y ∧
   (y.1 = .exit 2∧y.2.1.marks=[] ∧ ∃l':List Item,y.2.2=[.row 3 ((l').map Item.c) g]∧l'.Perm l∧l'.Pairwise qm2):=by
 have key:=qe1 (f:=exec (evL T) itL none qb6) (s:=qao [0,1,2,6] true 1) (τ:=List Item×Nat)
  (fun z=>⟨[(0,.sl 0 g 0 n cl),(1,(ii n)),(2,(.fn (.func qe) [] [])),(6,(ii z.2))],[]⟩) (fun z=>[.row 3 ((z.1).map Item.c) g]) (fun z=>n-z.2)
  (fun z=>z.1.Perm l∧0<z.2∧Blk qm2 z.2 z.1)
  (fun y=>y.1 = .exit 2∧y.2.1.marks=[] ∧ ∃l':List Item,y.2.2=[.row 3 ((l').map Item.c) g]∧l'.Perm l∧l'.Pairwise qm2) ?_ (D0,20) ⟨hp0,by simp,hB0⟩
 ·exact key
 rintro⟨D,s⟩ ⟨hp,hs,hB⟩
 simp only at hp hs hB⊢
 have hl:=hp.length_eq
 by_cases c:s<n
 case neg=>
  have h1:¬(s:Int)<(n:Int):=by omega
  right
  simp only[qb6,h1,wj,zgy,↓qc,↓we,wa,wc]
  exact⟨_,rfl,rfl,rfl,D,rfl,hp,hB.sorted (by omega)⟩
 have h1:(s:Int)<(n:Int):=by omega
 obtain⟨⟨y,e,σ⟩,k1,a,k2,k3,k4,k5,k6,k7,k8,Dn,Rs,k9,k10,k11,k12,k13,k14⟩:=qajb g cl n l D hn hb hk s hs c hp hB
 simp only at k1 k2 k3 k4 k5 k6 k7 k8 k9
 subst k2;subst k9
 have hl2:=k11.length_eq
 rw[wl]at hl2
 have w1:IntKind.i64.wrap ((a:Int)+(s:Int))=((a+s:Nat):Int):=qg4 (by omega)
 have w2:IntKind.i64.wrap (2*(s:Int))=((2*s:Nat):Int):=qafy (by omega)
 have w3:IntKind.i64.wrap ((s:Int)*2)=((2*s:Nat):Int):=qakj (by omega)
 left
 by_cases c2:a+s<n
 ·have h2:((a+s:Nat):Int)<(n:Int):=by omega
  obtain⟨X,Y,rfl,hX,qX,hY⟩:=k13.split (by omega)
  rw[wl]at hl2 k12
  have hkD:qi1 (Dn++(X++(Y++[]))):=by rw[List.append_nil];exact hk.perm k11
  obtain⟨Z,p1,q1,r1⟩:=q5o g cl n (by omega) _ Dn X Y [] (Nat.le_refl _) (by omega) (by omega) qX (hY.sorted (by omega)) (by simp;omega) hkD a (a+s) n k10 (by omega) (by omega)
  unfold qsd at r1
  simp only[zgn]at r1
  have hz:=p1.length_eq
  rw[wl]at hz
  refine⟨(Dn++Z,2*s),?_,⟨(wG Dn p1).trans k11,by simp only;omega,k14 _ (.last (by omega) q1)⟩,by simp only;omega⟩
  simp only[qb6,h1,h2,w1,w2,w3,k1,k3,k4,k5,k6,k7,k8,r1,qa0,wj,wi,zgy,↓qc,↓qx,↓we,wa,wc]
 ·have h2:¬((a+s:Nat):Int)<(n:Int):=by omega
  refine⟨(Dn++Rs,2*s),?_,⟨k11,by simp only;omega,k14 _ (.last (by omega) (k13.sorted (by omega)))⟩,by simp only;omega⟩
  simp only[qb6,h1,h2,w1,w2,w3,k1,k3,k4,k5,k6,k7,k8,qa0,wj,wi,zgy,↓qc,↓qx,↓we,wa,wc]
theorem qajh (l:List Item) (hn:n=l.length) (hb:n<2^58) (hk:qi1 l) :
  ∃l':List Item,l'.Perm l∧l'.Pairwise qm2∧(evL T).call qb0 [.sl 0 g 0 n cl,(ii n),(.fn (.func qe) [] [])] [.row 3 ((l).map Item.c) g]=some (.tup [],[.row 3 ((l').map Item.c) g]):=by
 obtain⟨⟨y,e,σ⟩,k1,a,k2,k3,k4,k5,k6,k7,k8,Dn,Rs,k9,k10,k11,k12,k13⟩:=qajd g cl n l hn hb hk
 simp only at k1 k2 k3 k4 k5 k6 k7 k8 k9
 subst k2;subst k9
 have hl:=k11.length_eq
 rw[wl]at hl
 obtain⟨R',p1,q1,r1⟩:=q2d g cl n Dn Rs [] (by simp;omega) (by omega) (by rw[List.append_nil];exact hk.perm k11) a n k10 (by omega)
 simp only[zgn]at r1
 obtain⟨⟨y',e',σ'⟩,l1,l2,l3,l',l4,l5,l6⟩:=qajv g cl n l (Dn++R') hn hb hk ((wG Dn p1).trans k11) (k13 _ (.last (by rw[p1.length_eq];omega) q1))
 simp only at l1 l2 l3 l4
 subst l2;subst l4
 refine⟨l',l5,l6,?_⟩
 rw[qg qpj qo2]
 simp only[qfa,k1,k3,k4,k5,k6,k7,k8,r1,l1,l3,qa0,wj,ql,wi,zgy,↓qc,↓qx,↓we,wd,wa,wc]
theorem q9x (l:List Item) (hn:n=l.length) (hb:n<2^58) (hk:qi1 l) :
  ∃l':List Item,l'.Perm l∧l'.Pairwise qm2∧(evL T).call qaq [.sl 0 g 0 n cl,(.fn (.func qe) [] [])] [.row 3 ((l).map Item.c) g]=some (.tup [],[.row 3 ((l').map Item.c) g]):=by
 obtain⟨l',h1,h2,h3⟩:=qajh g cl n l hn hb hk
 refine⟨l',h1,h2,?_⟩
 rw[qg qkm qkf]
 simp only[qc1,h3,qa0,wj,ql,wi,zgy,↓qc,↓we,wd,wa,wc]
end
set_option maxRecDepth 10000
def Rg.r (r:Rg):List AV:=[(ii r.f),(ii r.w),(ii r.c),(.fsl ((r.bs).map qco) false)]
theorem rg_lo (n:Nat) (x:Rg):los n x.r=true:=by simp only[Rg.r,los,AV.lo,qef,zfc]
theorem rg_pl (x:Rg):x.r.length=4∧qfk x.r=true:=⟨rfl,rfl⟩
theorem qkh (n:Nat) (l:List Rg):qk9 n (l.map Rg.r)=true:=qk2 (rg_lo n) l
theorem q0s (l:List Rg):qdk 4 (l.map Rg.r)=true:=qp1 rg_pl l
theorem qacx:qaz (evL T) qmq []=some (.agg [(ii 0),(.fsl ((([]:List Item)).map Item.c) false),(.fsl ((([]:List Rg)).map Rg.r) false),(.fsl ((([]:List Item)).map Item.c) false),(ii ((0:Nat))),(ii ((0:Nat)))]):=qabl 8 (by kernel_rfl)
theorem qamb (top:List Item) (mv cp:Nat) (x:Item) (hx:0≤x.time) (h1:mv≤1000) (h2:cp≤1000) (hl:top.length≤1000) :
  qaz (evL T) qiu [(.agg [(ii 0),(.fsl ((top).map Item.c) false),(.fsl ((([]:List Rg)).map Rg.r) false),(.fsl ((([]:List Item)).map Item.c) false),(ii mv),(ii cp)]),(.agg [(ii x.time),(ii x.seq),(ii x.slot)])]=some (.agg [(ii 0),(.fsl (((top++[x])).map Item.c) false),(.fsl ((([]:List Rg)).map Rg.r) false),(.fsl ((([]:List Item)).map Item.c) false),(ii (((mv+1:Nat)))),(ii (((cp+1:Nat))))]):=by
 have w1:IntKind.i64.wrap ((mv:Int)+1)=((mv+1:Nat):Int):=qge (by omega)
 have w2:IntKind.i64.wrap ((cp:Int)+1)=((cp+1:Nat):Int):=qge (by omega)
 have hc:=q0l top false
 have hb:(top.length+1)*24≤140737488355328:=by omega
 have happ:top.map Item.c++[[(ii x.time),(ii x.seq),(ii x.slot)]]=(top++[x]).map Item.c:=by simp[Item.c]
 have hok:qdk 3 ((top++[x]).map Item.c)=true:=q26 _
 obtain⟨xt,xs,xp⟩:=x
 simp only at hx happ hok
 have c1:xt≥0:=hx
 rw[qaz,qg q31 q3m]
 simp only[qpk,w1,w2,c1,hc,hb,happ,hok,wk,zgi,qa0,wj,wr,qb,qdr,wg,wp,wh,ql,ne_eq,zgy,↓qc,↓we,wd,wa,wo,wb,wf,wq,wc]
theorem q00 (l:List Item) (c:Bool) (h:l.length≤1000000):(evL T).call qa6 [(.fsl ((l).map Item.c) c)] []=some (.sl 0 0 0 l.length false,[.row 3 (l.map Item.c) 0]):=by
 have h':l.length*24≤140737488355328:=by omega
 rw[q4g qn7]
 simp only[qqp,qa0,q26,h',wb,wj,zgy,↓we,wb,wq]
theorem qaby (l:List Item) (c:Bool) (h:l.length≤1000000) : ∃S:List Item,S.Perm l∧S.Pairwise qm2∧qaz (evL T) qhh [(.fsl ((l).map Item.c) c)]=some (.fsl ((S).map Item.c) false):=by
 have hcl:=q00 l c h
 obtain⟨S,h1,h2,h3⟩:=q9x 0 false l.length l rfl (by omega) (fun x _=>by simp[Item.key])
 refine⟨S,h1,h2,?_⟩
 have hlen:=h1.length_eq
 have htk:(S.map Item.c).take S.length=S.map Item.c:=ztl (by simp)
 rw[qaz,qg q4a q2u]
 rw[←hlen]at hcl h3
 simp only[qph,hcl,h3,htk,qa0,wj,q2m,ql,zgy,↓qc,↓we,wa,wb,wc]
theorem qaen (x y:Item) (hx:0≤x.time∧x.time≤tM) (hy:0≤y.time∧y.time≤tM) (a b:List AV) (ha:los 2 a=true) (hb:los 2 b=true) :
  (evL T).call qdi [(.agg [(ii x.time),(ii x.seq),(ii x.slot)]),(.agg [(ii y.time),(ii y.seq),(ii y.slot)])] [.row 3 [a] 0,.row 3 [b] 0]=some ((ii ((x.time-y.time))),[.row 3 [a] 0,.row 3 [b] 0]):=by
 unfold tM at hx hy
 have w:IntKind.i64.wrap (x.time-y.time)=x.time-y.time:=qk (by omega) (by omega)
 rw[qg q0i qyv]
 simp only[ql0,w,ha,hb,wj,qb,wg,wh,ql,wi,ne_eq,zgy,↓qc,↓we,wd,wa,wc]
theorem minF_ev (l:List Item) (c:Bool) (hl:0<l.length∧l.length≤1000) (ht : ∀x∈l,0≤x.time∧x.time≤tM) :
  ∃m:Item,m∈l∧(∀x∈l,m.time≤x.time)∧qaz (evL T) qbb [(.fsl ((l).map Item.c) c),.fn (.func qdi) [] []]=some (.agg [(ii m.time),(ii m.seq),(ii m.slot)]):=by
 obtain⟨x0,h0⟩ : ∃x,l[0]? = some x:=⟨_,zgE hl.1⟩
 have key:=qh5 (f:=exec (evL T) itL none qcc) (s:=qao [0,1,4,5,6] true 2) (α:=Item)
  (fun i _=>⟨[(0,(.fsl ((l).map Item.c) c)),(1,.fn (.func qdi) [] []),(4,.ptr 0 0 0 0),(5,.ptr 1 0 0 0),(6,(ii ((i+1:Nat))))],[]⟩) (fun _ m=>[.row 3 [[(ii 0),(ii 0),(ii 0)]] 0,.row 3 [m.c] 0])
  (fun i m=>m∈l ∧ ∀x∈l.take (i+1),m.time≤x.time) (l.length-1)
  (fun y => ∃m:Item,m∈l∧(∀x∈l,m.time≤x.time)∧y.1 = .exit 0∧y.2.1.marks=[]∧y.2.2=[.row 3 [[(ii 0),(ii 0),(ii 0)]] 0,.row 3 [m.c] 0]∧ws y.2.1.vars 4=some (.ptr 0 0 0 0)∧ws y.2.1.vars 5=some (.ptr 1 0 0 0)) ?_ ?_ 0 x0 (wJ _) ⟨zmg h0,fun x hx => ?_⟩
 ·obtain⟨⟨y,e,σ⟩,k1,m,m1,m2,k2,k3,k4,k5,k6⟩:=key
  simp only at k2 k3 k4 k5 k6
  subst k2;subst k4
  refine⟨m,m1,m2,?_⟩
  have hlt:¬(l.length:Int)<1:=by omega
  have z1:((0+1:Nat):Int)=1:=rfl
  rw[z1]at k1
  obtain⟨xt,xs,xp⟩:=x0
  obtain⟨mt,ms,mp⟩:=m
  simp only[Item.c]at k1
  rw[qaz,qg qnb qmx]
  simp only[qea,zgq,zgt,wy,ww,h0,hlt,k1,k3,k5,k6,Item.c,zgi,qa0,wj,wr,qb,wg,wh,ql,wi,ne_eq,zgy,↓qc,↓qx,↓we,wd,wa,wb,wc]
 ·rintro i m hi ⟨m1,m2⟩
  obtain⟨x,hx⟩ : ∃x,l[i+1]? = some x:=⟨_,zgE (by omega)⟩
  have hi':((i+1:Nat):Int)<(l.length:Int):=by omega
  have hw:IntKind.i64.wrap (((i+1:Nat):Int)+1)=((i+1+1:Nat):Int):=qge (by omega)
  have hc:=qaen x m (ht x (zmg hx)) (ht m m1) [(ii 0),(ii 0),(ii 0)] m.c rfl rfl
  have hnx:l.take (i+1+1)=l.take (i+1)++[x]:=by rw[wB,hx];rfl
  by_cases hlt:x.time-m.time<0
  ·refine .inl ⟨x,?_,zmg hx,fun y hy => ?_⟩
   ·obtain⟨xt,xs,xp⟩:=x
    obtain⟨mt,ms,mp⟩:=m
    simp only[Item.c]at hc hlt
    simp only[qcc,zgs,zgr,zgq,zgt,hx,hi',hw,hc,hlt,Item.c,zgi,zgn,zgl,qa0,wj,wr,qb,wg,wh,wi,zgy,↓qc,↓we,wd,wa,wb,wc]
   ·rw[hnx]at hy
    rcases wE.1 hy with hy|hy
    ·have:=m2 y hy;omega
    ·rw[wA]at hy;subst hy;exact ww _
  ·refine .inl ⟨m,?_,m1,fun y hy => ?_⟩
   ·obtain⟨xt,xs,xp⟩:=x
    obtain⟨mt,ms,mp⟩:=m
    simp only[Item.c]at hc hlt
    simp only[qcc,zgs,zgr,zgq,zgt,hx,hi',hw,hc,hlt,Item.c,zgi,zgn,zgl,qa0,wj,qb,wi,zgy,↓qc,↓we,wd,wa,wb,wc]
   ·rw[hnx]at hy
    rcases wE.1 hy with hy|hy
    ·exact m2 y hy
    ·rw[wA]at hy;subst hy;omega
 ·rintro m ⟨m1,m2⟩
  have hl1:l.length-1+1=l.length:=by omega
  rw[hl1,List.take_length]at m2
  rw[hl1]
  simp only[qcc,zgi,wv,wj,zgy,↓qc,↓we,wa,wc]
  exact⟨_,rfl,m,m1,m2,rfl,rfl,rfl,rfl,rfl⟩
 ·rw[show l.take (0+1)=[x0] by rw[wB,h0];rfl,wA]at hx
  subst hx;exact ww _
set_option maxRecDepth 10000
theorem maxF_ev (l:List Item) (c:Bool) (hl:0<l.length∧l.length≤1000) (ht : ∀x∈l,0≤x.time∧x.time≤tM) :
  ∃m:Item,m∈l∧(∀x∈l,x.time≤m.time)∧qaz (evL T) qbd [(.fsl ((l).map Item.c) c),.fn (.func qdi) [] []]=some (.agg [(ii m.time),(ii m.seq),(ii m.slot)]):=by
 obtain⟨x0,h0⟩ : ∃x,l[0]? = some x:=⟨_,zgE hl.1⟩
 have key:=qh5 (f:=exec (evL T) itL none qch) (s:=qao [0,1,4,5,6] true 2) (α:=Item)
  (fun i _=>⟨[(0,(.fsl ((l).map Item.c) c)),(1,.fn (.func qdi) [] []),(4,.ptr 0 0 0 0),(5,.ptr 1 0 0 0),(6,(ii ((i+1:Nat))))],[]⟩) (fun _ m=>[.row 3 [[(ii 0),(ii 0),(ii 0)]] 0,.row 3 [m.c] 0])
  (fun i m=>m∈l ∧ ∀x∈l.take (i+1),x.time≤m.time) (l.length-1)
  (fun y => ∃m:Item,m∈l∧(∀x∈l,x.time≤m.time)∧y.1 = .exit 0∧y.2.1.marks=[]∧y.2.2=[.row 3 [[(ii 0),(ii 0),(ii 0)]] 0,.row 3 [m.c] 0]∧ws y.2.1.vars 4=some (.ptr 0 0 0 0)∧ws y.2.1.vars 5=some (.ptr 1 0 0 0)) ?_ ?_ 0 x0 (wJ _) ⟨zmg h0,fun x hx => ?_⟩
 ·obtain⟨⟨y,e,σ⟩,k1,m,m1,m2,k2,k3,k4,k5,k6⟩:=key
  simp only at k2 k3 k4 k5 k6
  subst k2;subst k4
  refine⟨m,m1,m2,?_⟩
  have hlt:¬(l.length:Int)<1:=by omega
  have z1:((0+1:Nat):Int)=1:=rfl
  rw[z1]at k1
  obtain⟨xt,xs,xp⟩:=x0
  obtain⟨mt,ms,mp⟩:=m
  simp only[Item.c]at k1
  rw[qaz,qg qm9 qmv]
  simp only[qd8,zgq,zgt,wy,ww,h0,hlt,k1,k3,k5,k6,Item.c,zgi,qa0,wj,wr,qb,wg,wh,ql,wi,ne_eq,zgy,↓qc,↓qx,↓we,wd,wa,wb,wc]
 ·rintro i m hi ⟨m1,m2⟩
  obtain⟨x,hx⟩ : ∃x,l[i+1]? = some x:=⟨_,zgE (by omega)⟩
  have hi':((i+1:Nat):Int)<(l.length:Int):=by omega
  have hw:IntKind.i64.wrap (((i+1:Nat):Int)+1)=((i+1+1:Nat):Int):=qge (by omega)
  have hc:=qaen x m (ht x (zmg hx)) (ht m m1) [(ii 0),(ii 0),(ii 0)] m.c rfl rfl
  have hnx:l.take (i+1+1)=l.take (i+1)++[x]:=by rw[wB,hx];rfl
  by_cases hlt:x.time-m.time>0
  ·refine .inl ⟨x,?_,zmg hx,fun y hy => ?_⟩
   ·obtain⟨xt,xs,xp⟩:=x
    obtain⟨mt,ms,mp⟩:=m
    simp only[Item.c]at hc hlt
    simp only[qch,zgs,zgr,zgq,zgt,hx,hi',hw,hc,hlt,Item.c,zgi,zgn,zgl,qa0,wj,wr,qb,wg,wh,wi,zgy,↓qc,↓we,wd,wa,wb,wc]
   ·rw[hnx]at hy
    rcases wE.1 hy with hy|hy
    ·have:=m2 y hy;omega
    ·rw[wA]at hy;subst hy;exact ww _
  ·refine .inl ⟨m,?_,m1,fun y hy => ?_⟩
   ·obtain⟨xt,xs,xp⟩:=x
    obtain⟨mt,ms,mp⟩:=m
    simp only[Item.c]at hc hlt
    simp only[qch,zgs,zgr,zgq,zgt,hx,hi',hw,hc,hlt,Item.c,zgi,zgn,zgl,qa0,wj,qb,wi,zgy,↓qc,↓we,wd,wa,wb,wc]
   ·rw[hnx]at hy
    rcases wE.1 hy with hy|hy
    ·exact m2 y hy
    ·rw[wA]at hy;subst hy;omega
 ·rintro m ⟨m1,m2⟩
  have hl1:l.length-1+1=l.length:=by omega
  rw[hl1,List.take_length]at m2
  rw[hl1]
  simp only[qch,zgi,wv,wj,zgy,↓qc,↓we,wa,wc]
  exact⟨_,rfl,m,m1,m2,rfl,rfl,rfl,rfl,rfl⟩
 ·rw[show l.take (0+1)=[x0] by rw[wB,h0];rfl,wA]at hx
  subst hx;exact ww _
theorem qaa8 (a:Int) (ha:0≤a∧a≤2305843009213693952):qaz (evL T) qej [(ii a),(ii 8)]=some (ii (((a+7) / 8))):=by
 have w1:IntKind.i64.wrap (a+8)=a+8:=qk (by omega) (by omega)
 have w2:IntKind.i64.wrap (a+8-1)=a+7:=by rw[qk (by omega) (by omega)];omega
 have w3:IntKind.i64.wrap ((a+7).tdiv 8)=(a+7) / 8:=by rw[Int.tdiv_eq_ediv_of_nonneg (by omega)];exact qk (by omega) (by omega)
 rw[qaz,qg qx3 qw7]
 simp only[qj7,w1,w2,w3,wj,ql,zgy,↓qc,↓we,wd,wa,wx,wc]
theorem Width_ev (a b:Int) (ha:0≤a∧a≤b) (hb:b≤tM):qaz (evL T) qjv [(ii a),(ii b)]=some (ii (((b-a+1+7) / 8))):=by
 unfold tM at hb
 have w1:IntKind.i64.wrap (b-a)=b-a:=qk (by omega) (by omega)
 have w2:IntKind.i64.wrap (b-a+1)=b-a+1:=qk (by omega) (by omega)
 have h:=qaa8 (b-a+1) (by omega)
 rw[qaz,qg q6l q4v]
 simp only[qqm,w1,w2,h,wj,ql,zgy,↓qc,↓we,wd,wa,wc]
theorem qamm (a:Int) (ha:0≤a∧a≤2305843009213693952):qaz (evL T) qit [(ii a)]=some (ii (((a+7) / 8))):=by
 have h:=qaa8 a ha
 rw[qaz,qg q4w q2o]
 simp only[qo4,h,wj,ql,zgy,↓qc,↓we,wc]
theorem q7c (l:List Rg) (c:Bool):qaz (evL T) qbv [(.fsl ((l).map Rg.r) c)]=some (.fsl ((l).map Rg.r) true):=by
 rw[qaz,qg qox qn5]
 simp only[qew,qkh,q0s,zgs,zgr,ww,wK,wy,zgi,wj,ql,zgy,forall_const,↓qc,↓we,wa,wc]
theorem q1x {f w:Int} {k:Int} (hf:0≤f∧f≤tM) (hw:1≤w∧w≤288230376151711744) (hk:0≤k∧k≤8):qul f w k=f+k*w:=by
 unfold tM at hf
 have h1:k*w≤8*w:=Int.mul_le_mul_of_nonneg_right hk.2 (by omega)
 have h0:0≤k*w:=Int.mul_nonneg hk.1 (by omega)
 unfold qul
 rw[show w64 (k*w)=k*w from qk (by omega) (by omega)]
 exact qk (by omega) (by omega)
theorem put_ev {f w:Int} {bs:List (List Item)} (R:RgOk ⟨f,w,0,bs⟩) {x:Item} (h1:f≤x.time) (h2:x.time<f+8*w) (h3:x.time≤tM) (hn:bs.flatten.length≤1000) :
  ∃bs':List (List Item),RgOk ⟨f,w,0,bs'⟩∧bs'.flatten.Perm (x::bs.flatten)∧qaz (evL T) qmy [(.agg [(ii f),(ii w),(ii 0),(.fsl ((bs).map qco) false)]),(.agg [(ii x.time),(ii x.seq),(ii x.slot)])]=some (.tup [(.agg [(ii f),(ii w),(ii 0),(.fsl ((bs').map qco) false)]),(bb true)]):=by
 obtain⟨k,b,hk,hb,R',hp⟩:=R.put h1 h2
 have hf:=R.f
 have hw:=R.w
 simp only at hf hw
 have s0:qul f w 0=f:=by rw[q1x hf hw (by omega)];omega
 have s8:qul f w 8=f+8*w:=q1x hf hw (by omega)
 have hbl:b.length≤1000:=by
  have:=(qqg hb).length_eq
  rw[wl]at this;omega
 have hlen:=R.len
 simp only at hlen
 refine⟨bs.set k (b++[x]),R',hp,?_⟩
 unfold tM at hf h3
 have hd:w64 (x.time-f)=x.time-f:=qk (by omega) (by omega)
 have hq:w64 (Int.tdiv (w64 (x.time-f)) w)=(k:Int):=by
  rw[hd,Int.tdiv_eq_ediv_of_nonneg (by omega),hk]
  have:(k:Int)<8:=by have:=(zei.1 hb).1;omega
  exact qk (by omega) (by omega)
 exact qafj f w 0 bs x (by rw[s0];omega) (by rw[s8];omega) (by omega) hq hb (by omega) (by omega)
theorem qamg (ts:Int) (top:List Item) (cp:Nat) (rs:List Rg) (bot:List Item) (mv:Nat) (f w:Int) (its:List Item) (c:Bool) (hf:0≤f∧f≤tM) (hw:1≤w∧w≤288230376151711744) (hi : ∀x∈its,f≤x.time∧x.time<f+8*w∧x.time≤tM) (hl:its.length≤1000) (hr:rs.length≤4) :
  ∃r:Rg,RgOk r∧r.its.Perm its∧(evL T).call qgj [.ptr 0 0 0 0,(ii f),(ii w),(.fsl ((its).map Item.c) c)] [(.row 6 [[(ii ts),(.fsl ((top).map Item.c) false),(.fsl ((rs).map Rg.r) false),(.fsl ((bot).map Item.c) false),(ii mv),(ii cp)]] 0),(.row 6 [[(ii 0),.fsl [] false,.fsl [] false,.fsl [] false,(ii 0),(ii 0)]] 0),(.row 3 [[(ii 0),(ii 0),(ii 0)]] 0)]=some (.tup [],[(.row 6 [[(ii ts),(.fsl ((top).map Item.c) false),(.fsl (((rs++[r])).map Rg.r) false),(.fsl ((bot).map Item.c) false),(ii mv),(ii cp)]] 0),(.row 6 [[(ii 0),.fsl [] false,.fsl [] false,.fsl [] false,(ii 0),(ii 0)]] 0),(.row 3 [[(ii 0),(ii 0),(ii 0)]] 0)]):=by
 have R0:RgOk ⟨f,w,0,wt 8 []⟩:=by
  refine⟨rfl,hf,hw,⟨by simp,by simp⟩,fun k b hb x hx => ?_⟩
  have:=List.eq_of_mem_replicate (zmg hb)
  subst this;simp at hx
 have key:=qh5 (f:=exec (evL T) itL none qgs) (s:=qao [0,8,14,15,16] true 4) (α:=List (List Item))
  (fun i _=>⟨[(0,.ptr 0 0 0 0),(8,.ptr 3 0 0 0),(14,(.fsl ((its).map Item.c) c)),(15,(ii its.length)),(16,(ii i))],[]⟩) (fun _ bs=>[(.row 6 [[(ii ts),(.fsl ((top).map Item.c) false),(.fsl ((rs).map Rg.r) false),(.fsl ((bot).map Item.c) false),(ii mv),(ii cp)]] 0),(.row 6 [[(ii 0),.fsl [] false,.fsl [] false,.fsl [] false,(ii 0),(ii 0)]] 0),(.row 3 [[(ii 0),(ii 0),(ii 0)]] 0),.row 4 [[(ii f),(ii w),(ii 0),(.fsl ((bs).map qco) false)]] 0])
  (fun i bs=>RgOk ⟨f,w,0,bs⟩∧bs.flatten.Perm (its.take i)) its.length
  (fun y => ∃bs:List (List Item),RgOk ⟨f,w,0,bs⟩∧bs.flatten.Perm its∧y.1 = .exit 0∧y.2.1.marks=[]∧y.2.2=[(.row 6 [[(ii ts),(.fsl ((top).map Item.c) false),(.fsl ((rs).map Rg.r) false),(.fsl ((bot).map Item.c) false),(ii mv),(ii cp)]] 0),(.row 6 [[(ii 0),.fsl [] false,.fsl [] false,.fsl [] false,(ii 0),(ii 0)]] 0),(.row 3 [[(ii 0),(ii 0),(ii 0)]] 0),.row 4 [[(ii f),(ii w),(ii 0),(.fsl ((bs).map qco) false)]] 0]∧ws y.2.1.vars 0=some (.ptr 0 0 0 0)∧ws y.2.1.vars 8=some (.ptr 3 0 0 0)) ?_ ?_ 0 (wt 8 []) (wJ _) ⟨R0,by simp⟩
 ·obtain⟨⟨y,e,σ⟩,k1,bs,b1,b2,k2,k3,k4,k5,k6⟩:=key
  simp only at k2 k3 k4 k5 k6
  subst k2;subst k4
  have hnew:=q8t f w
  have hcl:=q7c rs false
  have hcl':=q7c rs true
  have z0:((0:Nat):Int)=0:=rfl
  rw[z0]at k1
  obtain⟨Z,hZ⟩ : ∃Z:List (List Item),Z=wt 8 []:=⟨_,rfl⟩
  rw[←hZ]at hnew k1
  try simp only[Rg.r]at k1
  have hb:(rs.length+1)*48≤140737488355328:=by omega
  have hok:qdk 4 ((rs++[(⟨f,w,0,bs⟩:Rg)]).map Rg.r)=true:=q0s _
  have happ:(rs++[(⟨f,w,0,bs⟩:Rg)]).map Rg.r=rs.map Rg.r++[[(ii f),(ii w),(ii 0),(.fsl ((bs).map qco) false)]]:=by rw[wz];rfl
  rw[happ]at hok
  refine⟨⟨f,w,0,bs⟩,b1,b2,?_⟩
  rw[happ]
  have lo1 : ∀n,qk9 n (rs.map Rg.r++[[(ii f),(ii w),(ii 0),(.fsl ((bs).map qco) false)]])=true:=fun n=>by rw[←happ];exact qkh n _
  rw[qg qwf qud]
  simp only[qmm,hnew,k1,k3,k5,k6,hcl,hb,hok,lo1,zgi,qa0,qkh,qef,wj,wr,qb,qdr,wg,wp,wh,ql,wi,ne_eq,zgy,↓qc,↓qx,↓we,wd,wa,wo,wb,wf,wq,wc]
 ·rintro i bs hi1 ⟨R,hp⟩
  obtain⟨x,hx⟩ : ∃x,its[i]? = some x:=⟨_,zgE hi1⟩
  have hi':(i:Int)<(its.length:Int):=by omega
  have hw1:IntKind.i64.wrap ((i:Int)+1)=((i+1:Nat):Int):=qge (by omega)
  obtain⟨q1,q2,q3⟩:=hi x (zmg hx)
  have hpl:=hp.length_eq
  rw[List.length_take]at hpl
  obtain⟨bs',R',p',h⟩:=put_ev R q1 q2 q3 (by omega)
  have hnx:its.take (i+1)=its.take i++[x]:=by rw[wB,hx];rfl
  refine .inl ⟨bs',?_,R',?_⟩
  ·obtain⟨xt,xs,xp⟩:=x
   simp only at h
   simp only[qgs,zgs,zgr,zgq,zgt,hx,hi',hw1,h,Item.c,qa0,qkh,qef,wj,wr,qb,wg,wh,wi,ne_eq,zgy,↓qc,↓we,wd,wa,wb,wc]
  ·rw[hnx]
   exact p'.trans (((hp.cons x)).trans (List.perm_append_singleton x _).symm)
 ·rintro bs ⟨R,hp⟩
  rw[List.take_length]at hp
  simp only[qgs,wv,wj,zgy,↓qc,↓we,wa,wc]
  exact⟨_,rfl,bs,R,hp,rfl,rfl,rfl,rfl,rfl⟩
theorem qaj7 (ts:Int) (top:List Item) (cp:Nat) (rs:List Rg) (bot:List Item) (mv:Nat) (r2:Rg) (f w:Int) (its:List Item) (c:Bool) (hf:0≤f∧f≤tM) (hw:1≤w∧w≤288230376151711744) (hi : ∀x∈its,f≤x.time∧x.time<f+8*w∧x.time≤tM) (hl:its.length≤1000) (hr:rs.length≤4) :
  ∃r:Rg,RgOk r∧r.its.Perm its∧(evL T).call qgj [.ptr 0 0 0 0,(ii f),(ii w),(.fsl ((its).map Item.c) c)] [(.row 6 [[(ii ts),(.fsl ((top).map Item.c) false),(.fsl ((rs).map Rg.r) false),(.fsl ((bot).map Item.c) false),(ii mv),(ii cp)]] 0),(.row 6 [[(ii 0),.fsl [] false,.fsl [] false,.fsl [] false,(ii 0),(ii 0)]] 0),(.row 3 [[(ii 0),(ii 0),(ii 0)]] 0),.row 4 [r2.r] 0,.dead]=some (.tup [],[(.row 6 [[(ii ts),(.fsl ((top).map Item.c) false),(.fsl (((rs++[r])).map Rg.r) false),(.fsl ((bot).map Item.c) false),(ii mv),(ii cp)]] 0),(.row 6 [[(ii 0),.fsl [] false,.fsl [] false,.fsl [] false,(ii 0),(ii 0)]] 0),(.row 3 [[(ii 0),(ii 0),(ii 0)]] 0),.row 4 [r2.r] 0,.dead]):=by
 have R0:RgOk ⟨f,w,0,wt 8 []⟩:=by
  refine⟨rfl,hf,hw,⟨by simp,by simp⟩,fun k b hb x hx => ?_⟩
  have:=List.eq_of_mem_replicate (zmg hb)
  subst this;simp at hx
 have key:=qh5 (f:=exec (evL T) itL none qgs) (s:=qao [0,8,14,15,16] true 6) (α:=List (List Item))
  (fun i _=>⟨[(0,.ptr 0 0 0 0),(8,.ptr 5 0 0 0),(14,(.fsl ((its).map Item.c) c)),(15,(ii its.length)),(16,(ii i))],[]⟩) (fun _ bs=>[(.row 6 [[(ii ts),(.fsl ((top).map Item.c) false),(.fsl ((rs).map Rg.r) false),(.fsl ((bot).map Item.c) false),(ii mv),(ii cp)]] 0),(.row 6 [[(ii 0),.fsl [] false,.fsl [] false,.fsl [] false,(ii 0),(ii 0)]] 0),(.row 3 [[(ii 0),(ii 0),(ii 0)]] 0),.row 4 [r2.r] 0,.dead,.row 4 [[(ii f),(ii w),(ii 0),(.fsl ((bs).map qco) false)]] 0])
  (fun i bs=>RgOk ⟨f,w,0,bs⟩∧bs.flatten.Perm (its.take i)) its.length
  (fun y => ∃bs:List (List Item),RgOk ⟨f,w,0,bs⟩∧bs.flatten.Perm its∧y.1 = .exit 0∧y.2.1.marks=[]∧y.2.2=[(.row 6 [[(ii ts),(.fsl ((top).map Item.c) false),(.fsl ((rs).map Rg.r) false),(.fsl ((bot).map Item.c) false),(ii mv),(ii cp)]] 0),(.row 6 [[(ii 0),.fsl [] false,.fsl [] false,.fsl [] false,(ii 0),(ii 0)]] 0),(.row 3 [[(ii 0),(ii 0),(ii 0)]] 0),.row 4 [r2.r] 0,.dead,.row 4 [[(ii f),(ii w),(ii 0),(.fsl ((bs).map qco) false)]] 0]∧ws y.2.1.vars 0=some (.ptr 0 0 0 0)∧ws y.2.1.vars 8=some (.ptr 5 0 0 0)) ?_ ?_ 0 (wt 8 []) (wJ _) ⟨R0,by simp⟩
 ·obtain⟨⟨y,e,σ⟩,k1,bs,b1,b2,k2,k3,k4,k5,k6⟩:=key
  simp only at k2 k3 k4 k5 k6
  subst k2;subst k4
  have hnew:=q8t f w
  have hcl:=q7c rs false
  have hcl':=q7c rs true
  have z0:((0:Nat):Int)=0:=rfl
  rw[z0]at k1
  obtain⟨Z,hZ⟩ : ∃Z:List (List Item),Z=wt 8 []:=⟨_,rfl⟩
  rw[←hZ]at hnew k1
  try simp only[Rg.r]at k1
  have hb:(rs.length+1)*48≤140737488355328:=by omega
  have hok:qdk 4 ((rs++[(⟨f,w,0,bs⟩:Rg)]).map Rg.r)=true:=q0s _
  have happ:(rs++[(⟨f,w,0,bs⟩:Rg)]).map Rg.r=rs.map Rg.r++[[(ii f),(ii w),(ii 0),(.fsl ((bs).map qco) false)]]:=by rw[wz];rfl
  rw[happ]at hok
  refine⟨⟨f,w,0,bs⟩,b1,b2,?_⟩
  rw[happ]
  have lo1 : ∀n,qk9 n (rs.map Rg.r++[[(ii f),(ii w),(ii 0),(.fsl ((bs).map qco) false)]])=true:=fun n=>by rw[←happ];exact qkh n _
  rw[qg qwf qud]
  simp only[qmm,hnew,k1,k3,k5,k6,hcl,hb,hok,lo1,Rg.r,zgi,qa0,qkh,qef,wj,wr,qb,qdr,wg,wp,wh,ql,wi,ne_eq,zgy,↓qc,↓qx,↓we,wd,wa,wo,wb,wf,wq,wc]
 ·rintro i bs hi1 ⟨R,hp⟩
  obtain⟨x,hx⟩ : ∃x,its[i]? = some x:=⟨_,zgE hi1⟩
  have hi':(i:Int)<(its.length:Int):=by omega
  have hw1:IntKind.i64.wrap ((i:Int)+1)=((i+1:Nat):Int):=qge (by omega)
  obtain⟨q1,q2,q3⟩:=hi x (zmg hx)
  have hpl:=hp.length_eq
  rw[List.length_take]at hpl
  obtain⟨bs',R',p',h⟩:=put_ev R q1 q2 q3 (by omega)
  have hnx:its.take (i+1)=its.take i++[x]:=by rw[wB,hx];rfl
  refine .inl ⟨bs',?_,R',?_⟩
  ·obtain⟨xt,xs,xp⟩:=x
   simp only at h
   simp only[qgs,zgs,zgr,zgq,zgt,hx,hi',hw1,h,Item.c,qa0,qkh,qef,Rg.r,wj,wr,qb,wg,wh,wi,ne_eq,zgy,↓qc,↓we,wd,wa,wb,wc]
  ·rw[hnx]
   exact p'.trans (((hp.cons x)).trans (List.perm_append_singleton x _).symm)
 ·rintro bs ⟨R,hp⟩
  rw[List.take_length]at hp
  simp only[qgs,wv,Rg.r,wj,zgy,↓qc,↓we,wa,wc]
  exact⟨_,rfl,bs,R,hp,rfl,rfl,rfl,rfl,rfl⟩
set_option maxRecDepth 10000
theorem qakk (ts:Int) (top:List Item) (cp mv:Nat) (hl:0<top.length∧top.length≤1000) (ht : ∀x∈top,0≤x.time∧x.time≤tM) (hm:mv≤1000) :
  ∃ts':Int,(top.length≤4 ∧ ∃S:List Item,S.Perm top∧S.Pairwise qm2 ∧
    (evL T).call qgx [.ptr 0 0 0 0] [(.row 6 [[(ii ts),(.fsl ((top).map Item.c) false),(.fsl ((([]:List Rg)).map Rg.r) false),(.fsl ((([]:List Item)).map Item.c) false),(ii mv),(ii cp)]] 0),(.row 6 [[(ii 0),.fsl [] false,.fsl [] false,.fsl [] false,(ii 0),(ii 0)]] 0),(.row 3 [[(ii 0),(ii 0),(ii 0)]] 0)]=some (.tup [],[(.row 6 [[(ii ts'),(.fsl ((([]:List Item)).map Item.c) false),(.fsl ((([]:List Rg)).map Rg.r) false),(.fsl ((S).map Item.c) false),(ii (((mv+top.length:Nat)))),(ii cp)]] 0),(.row 6 [[(ii 0),.fsl [] false,.fsl [] false,.fsl [] false,(ii 0),(ii 0)]] 0),(.row 3 [[(ii 0),(ii 0),(ii 0)]] 0)])) ∨
   (4<top.length ∧ ∃r:Rg,RgOk r∧r.its.Perm top ∧
    (evL T).call qgx [.ptr 0 0 0 0] [(.row 6 [[(ii ts),(.fsl ((top).map Item.c) false),(.fsl ((([]:List Rg)).map Rg.r) false),(.fsl ((([]:List Item)).map Item.c) false),(ii mv),(ii cp)]] 0),(.row 6 [[(ii 0),.fsl [] false,.fsl [] false,.fsl [] false,(ii 0),(ii 0)]] 0),(.row 3 [[(ii 0),(ii 0),(ii 0)]] 0)]=some (.tup [],[(.row 6 [[(ii ts'),(.fsl ((([]:List Item)).map Item.c) false),(.fsl (([r]).map Rg.r) false),(.fsl ((([]:List Item)).map Item.c) false),(ii (((mv+top.length:Nat)))),(ii cp)]] 0),(.row 6 [[(ii 0),.fsl [] false,.fsl [] false,.fsl [] false,(ii 0),(ii 0)]] 0),(.row 3 [[(ii 0),(ii 0),(ii 0)]] 0)])):=by
 obtain⟨m,m1,m2,m3⟩:=minF_ev top false hl ht
 obtain⟨M,M1,M2,M3⟩:=maxF_ev top false hl ht
 have tm:=ht m m1
 have tM':=ht M M1
 have mM:=m2 M M1
 have w1:IntKind.i64.wrap (M.time+1)=M.time+1:=by have:=tM'.2;unfold tM at this;exact qk (by omega) (by omega)
 have w2:IntKind.i64.wrap ((mv:Int)+(top.length:Int))=((mv+top.length:Nat):Int):=qg4 (by omega)
 refine⟨M.time+1,?_⟩
 by_cases h4:top.length≤4
 ·obtain⟨S,s1,s2,s3⟩:=qaby top false (by omega)
  have c1:(top.length:Int)≤4:=by omega
  refine .inl ⟨h4,S,s1,s2,?_⟩
  obtain⟨mt,ms,mp⟩:=m
  obtain⟨Mt,Ms,Mp⟩:=M
  simp only at w1 M3 m3
  rw[qg qum qs3]
  simp only[qln,m3,M3,w1,w2,c1,s3,wk,zgi,qa0,wj,wr,qb,wg,wp,wh,ql,wi,zgy,↓qc,↓we,wd,wa,wf,wc]
 ·have c1:¬(top.length:Int)≤4:=by omega
  have hw:=Width_ev m.time M.time ⟨tm.1,mM⟩ tM'.2
  have hd:M.time≤tM:=tM'.2
  unfold tM at hd
  obtain⟨r,r1,r2,r3⟩:=qamg (M.time+1) [] cp [] [] (mv+top.length) m.time ((M.time-m.time+1+7) / 8) top false ⟨tm.1,tm.2⟩ ⟨by omega,by omega⟩ (fun x hx=>⟨m2 x hx,by have:=M2 x hx;omega,(ht x hx).2⟩) hl.2 (by simp)
  simp only[zgl,wk]at r3
  refine .inr ⟨by omega,r,r1,r2,?_⟩
  obtain⟨mt,ms,mp⟩:=m
  obtain⟨Mt,Ms,Mp⟩:=M
  simp only at w1 M3 m3 hw r3
  rw[qg qum qs3]
  simp only[qln,m3,M3,w1,w2,c1,hw,r3,wk,zgi,qa0,qkh,wj,wr,qb,wg,wp,wh,ql,wi,zgy,↓qc,↓we,wd,wa,wf,wc]
set_option maxRecDepth 10000
theorem qy8 (l:List Rg) (c:Bool) (h:l.length≤1000):(evL T).call qau [(.fsl ((l).map Rg.r) c)] []=some (.sl 0 0 0 l.length false,[.row 4 (l.map Rg.r) 0]):=by
 have h':l.length*48≤140737488355328:=by omega
 rw[q4g qob]
 simp only[qqp,qkh,q0s,h',wb,wj,zgy,↓we,wb,wq]
section
variable (ts:Int) (cp mv:Nat) (P:List Rg) (r:Rg)
theorem qadi {r:Rg} (R:RgOk r):r.bs.length*24≤2^47:=by rw[R.len];decide
theorem qabz (R:RgOk r) (hP:P.length≤3) (h:qhl r.bs=none) :
  (evL T).call qfb [.ptr 0 0 0 0] [(.row 6 [[(ii ts),.fsl [] false,(.fsl (((P++[r])).map Rg.r) false),(.fsl ((([]:List Item)).map Item.c) false),(ii mv),(ii cp)]] 0),(.row 6 [[(ii 0),.fsl [] false,.fsl [] false,.fsl [] false,(ii 0),(ii 0)]] 0),(.row 3 [[(ii 0),(ii 0),(ii 0)]] 0)] =
   some (.tup [],[(.row 6 [[(ii ts),.fsl [] false,(.sl 4 0 0 P.length false),(.fsl ((([]:List Item)).map Item.c) false),(ii mv),(ii cp)]] 0),(.row 6 [[(ii 0),.fsl [] false,.fsl [] false,.fsl [] false,(ii 0),(ii 0)]] 0),(.row 3 [[(ii 0),(ii 0),(ii 0)]] 0),.row 4 [(⟨r.f,r.w,8,r.bs⟩:Rg).r] 0,.row 4 (P.map Rg.r) 0]):=by
 have hn:=qaao r.f r.w r.c r.bs (by have:=qadi R;omega) h
 have w1:IntKind.i64.wrap (((P.length+1:Nat):Int)-1)=(P.length:Int):=qpq rfl (by omega)
 have hg:(P++[r])[P.length]? = some r:=by simp
 have hl:(P++[r]).length=P.length+1:=by simp
 have htk:((P++[r]).map Rg.r).take P.length=P.map Rg.r:=by simp
 have hcl : ∀c,(evL T).call qau [(.fsl ((P).map Rg.r) c)] []=some (.sl 0 0 0 P.length false,[.row 4 (P.map Rg.r) 0]):=fun c=>qy8 P c (by omega)
 have hle:(P.length:Int)≤((P.length+1:Nat):Int):=by omega
 rw[qg qom qnd]
 simp only[qf4,zgs,zgr,zgq,zgt,hg,hl,w1,hn,htk,hcl,hle,Rg.r,zgi,wk,zgg,wK,wy,ww,qkh,q0s,qef,qlq,wj,wr,q2m,qb,wg,wp,wh,ql,wi,ne_eq,zgy,implies_true,↓qc,↓we,wd,wa,wb,wf,wc]
theorem qaec (R:RgOk r) (hP:P.length≤3) {k:Nat} {b:List Item} (h:qhl r.bs=some k) (hb:r.bs[k]? = some b) (hbl:b.length≤1000) (hm:mv≤100000) (hno:¬(4<b.length∧P.length+1<4∧1<r.w)) :
  ∃S:List Item,S.Perm b∧S.Pairwise qm2∧(evL T).call qfb [.ptr 0 0 0 0] [(.row 6 [[(ii ts),.fsl [] false,(.fsl (((P++[r])).map Rg.r) false),(.fsl ((([]:List Item)).map Item.c) false),(ii mv),(ii cp)]] 0),(.row 6 [[(ii 0),.fsl [] false,.fsl [] false,.fsl [] false,(ii 0),(ii 0)]] 0),(.row 3 [[(ii 0),(ii 0),(ii 0)]] 0)] =
   some (.tup [],[(.row 6 [[(ii ts),.fsl [] false,(.sl 4 1 0 (P.length+1) false),(.fsl ((S).map Item.c) false),(ii (((mv+b.length:Nat)))),(ii cp)]] 0),(.row 6 [[(ii 0),.fsl [] false,.fsl [] false,.fsl [] false,(ii 0),(ii 0)]] 0),(.row 3 [[(ii 0),(ii 0),(ii 0)]] 0),.row 4 [(⟨r.f,r.w,(k:Int)+1,r.bs.set k []⟩:Rg).r] 0,.row 4 ((P++[(⟨r.f,r.w,(k:Int)+1,r.bs.set k []⟩:Rg)]).map Rg.r) 1]):=by
 obtain⟨R1,_,_,_,hk8⟩:=R.next h hb
 have hn:=q0v r.f r.w r.c r.bs (qadi R) h hb
 have w1:IntKind.i64.wrap (((P.length+1:Nat):Int)-1)=(P.length:Int):=qpq rfl (by omega)
 have hg:(P++[r])[P.length]? = some r:=by simp
 have hl:(P++[r]).length=P.length+1:=by simp
 have htk:((P++[r]).map Rg.r).take P.length=P.map Rg.r:=by simp
 have hcl : ∀c,(evL T).call qau [(.fsl ((P).map Rg.r) c)] []=some (.sl 0 0 0 P.length false,[.row 4 (P.map Rg.r) 0]):=fun c=>qy8 P c (by omega)
 have hle:(P.length:Int)≤((P.length+1:Nat):Int):=by omega
 have w2:IntKind.i64.wrap ((mv:Int)+(b.length:Int))=((mv+b.length:Nat):Int):=qg4 (by omega)
 obtain⟨S,s1,s2,s3⟩:=qaby b false (by omega)
 have hb8:(P.length+1)*48≤140737488355328:=by omega
 have htl:(P.map Rg.r).take P.length=P.map Rg.r:=ztl (by simp)
 obtain⟨r',hr'⟩ : ∃r':Rg,r'=⟨r.f,r.w,(k:Int)+1,r.bs.set k []⟩:=⟨_,rfl⟩
 have happ:(P++[r']).map Rg.r=P.map Rg.r++[r'.r]:=by rw[wz];rfl
 have lo1 : ∀n,qk9 n (P.map Rg.r++[r'.r])=true:=fun n=>by rw[←happ];exact qkh n _
 have hrr:r'.r=[(ii r.f),(ii r.w),(ii (((k:Int)+1))),(.fsl (((r.bs.set k [])).map qco) false)]:=by rw[hr'];rfl
 refine⟨S,s1,s2,?_⟩
 rw[←hr',happ]
 rw[hrr]at lo1⊢
 rw[qg qom qnd]
 by_cases c1:(b.length:Int)>4
 ·by_cases c2:((P.length+1:Nat):Int)<4
  ·have c3:¬r.w>1:=fun h=>hno ⟨by omega,by omega,h⟩
   simp only[qf4,zgs,zgr,zgq,zgt,hg,hl,w1,w2,hn,htk,hcl,hle,hb8,htl,c1,c2,c3,s3,Rg.r,zgi,wk,zgg,wK,wy,ww,qa0,qkh,q0s,qef,qlq,wj,wr,q2m,q6o,qb,qdr,wg,wp,wh,ql,wi,ne_eq,zgy,implies_true,↓qc,↓we,wd,wa,wo,wb,wf,wq,wc]
  ·simp only[qf4,zgs,zgr,zgq,zgt,hg,hl,w1,w2,hn,htk,hcl,hle,hb8,htl,c1,c2,s3,Rg.r,zgi,wk,zgg,wK,wy,ww,qa0,qkh,q0s,qef,qlq,wj,wr,q2m,q6o,qb,qdr,wg,wp,wh,ql,wi,ne_eq,zgy,implies_true,↓qc,↓we,wd,wa,wo,wb,wf,wq,wc]
 ·simp only[qf4,zgs,zgr,zgq,zgt,hg,hl,w1,w2,hn,htk,hcl,hle,hb8,htl,c1,s3,Rg.r,zgi,wk,zgg,wK,wy,ww,qa0,qkh,q0s,qef,qlq,wj,wr,q2m,q6o,qb,qdr,wg,wp,wh,ql,wi,ne_eq,zgy,implies_true,↓qc,↓we,wd,wa,wo,wb,wf,wq,wc]
theorem qab5 (R:RgOk r) (hP:P.length+1<4) {k:Nat} {b:List Item} (h:qhl r.bs=some k) (hb:r.bs[k]? = some b) (hbl:4<b.length∧b.length≤1000) (hm:mv≤100000) (hw1:1<r.w) (ht : ∀x∈b,x.time≤tM) :
  ∃r2:Rg,RgOk r2∧r2.its.Perm b∧(evL T).call qfb [.ptr 0 0 0 0] [(.row 6 [[(ii ts),.fsl [] false,(.fsl (((P++[r])).map Rg.r) false),(.fsl ((([]:List Item)).map Item.c) false),(ii mv),(ii cp)]] 0),(.row 6 [[(ii 0),.fsl [] false,.fsl [] false,.fsl [] false,(ii 0),(ii 0)]] 0),(.row 3 [[(ii 0),(ii 0),(ii 0)]] 0)] =
   some (.tup [],[(.row 6 [[(ii ts),.fsl [] false,(.fsl (((P++[(⟨r.f,r.w,(k:Int)+1,r.bs.set k []⟩:Rg)]++[r2])).map Rg.r) false),(.fsl ((([]:List Item)).map Item.c) false),(ii (((mv+b.length:Nat)))),(ii cp)]] 0),(.row 6 [[(ii 0),.fsl [] false,.fsl [] false,.fsl [] false,(ii 0),(ii 0)]] 0),(.row 3 [[(ii 0),(ii 0),(ii 0)]] 0)]):=by
 obtain⟨R1,_,t1,hne,hk8⟩:=R.next h hb
 have hn:=q0v r.f r.w r.c r.bs (qadi R) h hb
 have w1:IntKind.i64.wrap (((P.length+1:Nat):Int)-1)=(P.length:Int):=qpq rfl (by omega)
 have hg:(P++[r])[P.length]? = some r:=by simp
 have hl:(P++[r]).length=P.length+1:=by simp
 have htk:((P++[r]).map Rg.r).take P.length=P.map Rg.r:=by simp
 have hcl : ∀c,(evL T).call qau [(.fsl ((P).map Rg.r) c)] []=some (.sl 0 0 0 P.length false,[.row 4 (P.map Rg.r) 0]):=fun c=>qy8 P c (by omega)
 have hle:(P.length:Int)≤((P.length+1:Nat):Int):=by omega
 have w2:IntKind.i64.wrap ((mv:Int)+(b.length:Int))=((mv+b.length:Nat):Int):=qg4 (by omega)
 have hb8:(P.length+1)*48≤140737488355328:=by omega
 have htl:(P.map Rg.r).take P.length=P.map Rg.r:=ztl (by simp)
 obtain⟨r',hr'⟩ : ∃r':Rg,r'=⟨r.f,r.w,(k:Int)+1,r.bs.set k []⟩:=⟨_,rfl⟩
 have happ:(P++[r']).map Rg.r=P.map Rg.r++[r'.r]:=by rw[wz];rfl
 have hok':qdk 4 (P.map Rg.r++[r'.r])=true:=by rw[←happ];exact q0s _
 have lo1 : ∀n,qk9 n (P.map Rg.r++[r'.r])=true:=fun n=>by rw[←happ];exact qkh n _
 have htk2:(P.map Rg.r++[r'.r]).take (P.length+1)=P.map Rg.r++[r'.r]:=ztl (by simp)
 have hrr:r'.r=[(ii r.f),(ii r.w),(ii (((k:Int)+1))),(.fsl (((r.bs.set k [])).map qco) false)]:=by rw[hr'];rfl
 have c1:(b.length:Int)>4:=by omega
 have c2:((P.length+1:Nat):Int)<4:=by omega
 have c3:r.w>1:=hw1
 have hst:qul r.f r.w k=r.f+(k:Int)*r.w:=q1x R.f R.w (by omega)
 have hnar:=qamm r.w (by have:=R.w;omega)
 have hf2:0≤r.f+(k:Int)*r.w∧r.f+(k:Int)*r.w≤tM:=by
  obtain⟨x,hx⟩:=List.exists_mem_of_ne_nil b hne
  have a1:=(t1 x hx).1
  have a2:=ht x hx
  have a3:0≤(k:Int)*r.w:=Int.mul_nonneg (by omega) (by have:=R.w;omega)
  have:=R.f
  omega
 have e2:((k:Int)+1)*r.w=(k:Int)*r.w+r.w:=by rw[Int.add_mul,Int.one_mul]
 obtain⟨r2,g1,g2,g3⟩:=qaj7 ts [] cp (P++[r']) [] (mv+b.length) r' (r.f+(k:Int)*r.w) ((r.w+7) / 8) b false hf2 ⟨by omega,by have:=R.w;omega⟩ (fun x hx=>by
  have a1:=t1 x hx
  have a2:=ht x hx
  rw[e2]at a1
  exact⟨a1.1,by omega,a2⟩) hbl.2 (by simp;omega)
 rw[happ]at g3
 simp only[wk]at g3
 refine⟨r2,g1,g2,?_⟩
 rw[←hr']
 rw[hrr]at lo1 hok' htk2 g3
 rw[qg qom qnd]
 simp only[qf4,zgs,zgr,zgq,zgt,hg,hl,w1,w2,hn,htk,hcl,hle,hb8,htl,htk2,c1,c2,c3,hst,hnar,g3,Rg.r,zgi,wk,zgg,wK,wy,ww,qkh,q0s,qef,qlq,wj,wr,q2m,q6o,q53,qb,qdr,wg,wp,wh,ql,wi,ne_eq,zgy,implies_true,↓qc,↓we,wd,wa,wo,wf,wq,wc]
end
set_option maxRecDepth 10000
section
variable {ts:Int} {cp n:Nat} {T:List Item}
structure Peeked (ts:Int) (cp:Nat) (T:List Item) (n:Nat) (y:CExit×Env×qf) (bot:List Item) (rs:List Rg) (mv:Nat):Prop where
 ne:bot ≠ []
 ok:LdOk T n bot rs mv
 out:y.1 = .exit 0
 marks:y.2.1.marks=[]
 store:y.2.2=[(.row 6 [[(ii ts),.fsl [] false,(.fsl (((rs).reverse).map Rg.r) false),(.fsl ((bot).map Item.c) false),(ii mv),(ii cp)]] 0),(.row 6 [[(ii 0),.fsl [] false,.fsl [] false,.fsl [] false,(ii 0),(ii 0)]] 0),(.row 3 [[(ii 0),(ii 0),(ii 0)]] 0)]
 v1:ws y.2.1.vars 1=some (.ptr 0 0 0 0)
 v2:ws y.2.1.vars 2=some (.ptr 1 0 0 0)
 v3:ws y.2.1.vars 3=some (.ptr 2 0 0 0)
theorem LdOk.sizes {bot:List Item} {rs:List Rg} {mv:Nat} (L:LdOk T n bot rs mv):bot.length+(q6b rs).length=T.length:=by
 have:=L.perm.length_eq
 rwa[wl]at this
set_option maxHeartbeats 1000000 in
theorem qad2 (hn:n≤1000) (hTn:T.length≤1000) (hT:T ≠ []) (bot0:List Item) (rs0:List Rg) (mv0:Nat) (L0:LdOk T n bot0 rs0 mv0) :
  ∃y,itB (exec (evL K.T) itL none qe6) (qao [1,2,3] true 3) ⟨[(1,.ptr 0 0 0 0),(2,.ptr 1 0 0 0),(3,.ptr 2 0 0 0)],[]⟩ [(.row 6 [[(ii ts),.fsl [] false,(.fsl (((rs0).reverse).map Rg.r) false),(.fsl ((bot0).map Item.c) false),(ii mv0),(ii cp)]] 0),(.row 6 [[(ii 0),.fsl [] false,.fsl [] false,.fsl [] false,(ii 0),(ii 0)]] 0),(.row 3 [[(ii 0),(ii 0),(ii 0)]] 0)]=some y ∧ ∃(bot:List Item) (rs:List Rg) (mv:Nat),Peeked ts cp T n y bot rs mv:=by
 refine qe1 (τ:=List Item×List Rg×Nat) (fun _=>⟨[(1,.ptr 0 0 0 0),(2,.ptr 1 0 0 0),(3,.ptr 2 0 0 0)],[]⟩) (fun s=>[(.row 6 [[(ii ts),.fsl [] false,(.fsl (((s.2.1).reverse).map Rg.r) false),(.fsl ((s.1).map Item.c) false),(ii s.2.2),(ii cp)]] 0),(.row 6 [[(ii 0),.fsl [] false,.fsl [] false,.fsl [] false,(ii 0),(ii 0)]] 0),(.row 3 [[(ii 0),(ii 0),(ii 0)]] 0)]) (fun s=>(6*n-s.2.2)*8+s.2.1.length)
  (fun s=>LdOk T n s.1 s.2.1 s.2.2) _ ?_ (bot0,rs0,mv0) L0
 rintro⟨bot,rs,mv⟩ L
 simp only at L⊢
 have hmvs:=L.mvs
 cases bot with
 |cons b bot=>
  right
  have c1:((bot.length+1:Nat):Int)>0:=by omega
  have hle:(b::bot).length=bot.length+1:=rfl
  obtain⟨B,hB⟩ : ∃B,B=b::bot:=⟨_,rfl⟩
  have c2:(B.length:Int)>0:=by rw[hB,hle];omega
  rw[←hB]at L⊢
  simp only[qe6,c2,zgi,wj,qb,zgy,↓qc,↓we,wc]
  exact⟨_,rfl,B,rs,mv,⟨by rw[hB];simp,L,rfl,rfl,rfl,rfl,rfl,rfl⟩⟩
 |nil=>
  obtain⟨t,T',rfl⟩ : ∃t T',T=t::T':=by
   cases T with
   |nil=>exact absurd rfl hT
   |cons t T'=>exact⟨t,T',rfl⟩
  obtain⟨r,rest,rfl⟩ : ∃r rest,rs=r::rest:=by
   cases rs with
   |nil=>exact absurd rfl L.some
   |cons r rest=>exact⟨r,rest,rfl⟩
  have R:=L.chain.1
  have hd:=L.depth
  rw[List.length_cons]at hd
  have hsz:=L.sizes
  rw[qlp,wl]at hsz
  obtain⟨P,hP⟩ : ∃P,P=rest.reverse:=⟨_,rfl⟩
  have hPl:P.length=rest.length:=by rw[hP];simp
  have hrev:(r::rest).reverse=P++[r]:=by rw[List.reverse_cons,hP]
  rw[hrev]
  have c0:((P.length+1:Nat):Int)>0:=by omega
  have hl1:(P++[r]).length=P.length+1:=by simp
  left
  cases hf:qhl r.bs with
  |none=>
   have h:=qabz ts cp mv P r R (by omega) hf
   have htk:(P.map Rg.r).take P.length=P.map Rg.r:=ztl (by simp)
   refine⟨([],rest,mv),?_,L.drop hf,by simp only[zga];omega⟩
   simp only
   rw[←hP]
   simp only[wk]at h⊢
   simp only[qe6,h,hl1,c0,htk,zgi,zgb,wv,gt_iff_lt,zgg,zfd,qkh,wj,q53,qb,wi,zgy,↓qc,↓we,wa,wb]
  |some k=>
   obtain⟨_,b,hb,hbne⟩:=qzg hf
   obtain⟨R1,p1,t1,_,hk8⟩:=R.next hf hb
   have hbl:=p1.length_eq
   rw[wl]at hbl
   have hb1:1≤b.length:=List.length_pos_iff.2 hbne
   obtain⟨r',hr'⟩ : ∃r':Rg,r'=⟨r.f,r.w,(k:Int)+1,r.bs.set k []⟩:=⟨_,rfl⟩
   by_cases hc:4<b.length∧P.length+1<4∧1<r.w
   ·have htb : ∀x∈b,x.time≤tM:=fun x hx=>(L.times x (L.perm.mem_iff.1 (by
     rw[List.nil_append,qlp]
     exact List.mem_append_left _ (p1.mem_iff.2 (List.mem_append_left _ hx))))).2
    obtain⟨r2,g1,g2,g3⟩:=qab5 ts cp mv P r R hc.2.1 hf hb ⟨hc.1,by omega⟩ (by omega) hc.2.2 htb
    have L2:=L.deeper hf hb g1 g2 (by omega)
    rw[←hr']at g3 L2
    have hm2:=L2.mvs
    refine⟨([],r2::r'::rest,mv+b.length),?_,L2,by simp only[zga];omega⟩
    simp only
    have hrev2:(r2::r'::rest).reverse=P++[r']++[r2]:=by rw[List.reverse_cons,List.reverse_cons,hP]
    rw[hrev2]
    generalize P++[r']++[r2]=Z at g3⊢
    simp only[wk]at g3⊢
    simp only[qe6,g3,hl1,c0,zgi,zgb,wv,gt_iff_lt,zgg,zfd,qkh,wj,q53,qb,wi,zgy,↓qc,↓we,wa,wb]
   ·obtain⟨S,g1,g2,g3⟩:=qaec ts cp mv P r R (by omega) hf hb (by omega) (by omega) hc
    have L2:=L.toBot hf hb g1 g2
    rw[←hr']at g3 L2
    have hm2:=L2.mvs
    refine⟨(S,r'::rest,mv+b.length),?_,L2,by simp only[zga];omega⟩
    simp only
    have hrev2:(r'::rest).reverse=P++[r']:=by rw[List.reverse_cons,hP]
    have hZl:(P++[r']).length=P.length+1:=by simp
    rw[hrev2]
    generalize P++[r']=Z at g3 hZl⊢
    have htk:(Z.map Rg.r).take (P.length+1)=Z.map Rg.r:=ztl (by simp;omega)
    have hle:P.length+1≤Z.length:=by omega
    simp only[wk]at g3⊢
    simp only[qe6,g3,hl1,c0,htk,hle,zgi,zgb,wv,gt_iff_lt,zgg,zfd,qa0,qkh,wj,q53,qb,wi,zgy,↓qc,↓we,wa,wb]
end
set_option maxRecDepth 10000
section
variable {ts:Int} {cp n:Nat} {t:Item} {T:List Item}
theorem qams {top:List Item} {rs0:List Rg} {bot0:List Item} {mv0:Nat} {ts':Int} (hT:(t::T).Pairwise ltJ) {y:CExit×Env×qf} {bot:List Item} {rs:List Rg} {mv:Nat}
  (h:itB (exec (evL K.T) itL none qe6) (qao [1,2,3] true 3) ⟨[(1,.ptr 0 0 0 0),(2,.ptr 1 0 0 0),(3,.ptr 2 0 0 0)],[]⟩ [.row 6 [[(ii ts'),(.fsl ((top).map Item.c) false),(.fsl ((rs0).map Rg.r) false),(.fsl ((bot0).map Item.c) false),(ii mv0),(ii cp)]] 0,(.row 6 [[(ii 0),.fsl [] false,.fsl [] false,.fsl [] false,(ii 0),(ii 0)]] 0),(.row 3 [[(ii 0),(ii 0),(ii 0)]] 0)]=some y) (p:Peeked ts cp (t::T) n y bot rs mv) :
  ∃bot':List Item,bot=t::bot'∧LdOk T n bot' rs mv∧qaz (evL K.T) qjs [(.agg [(ii ts'),(.fsl ((top).map Item.c) false),(.fsl ((rs0).map Rg.r) false),(.fsl ((bot0).map Item.c) false),(ii mv0),(ii cp)])]=some (.tup [(.agg [(ii ts),(.fsl ((([]:List Item)).map Item.c) false),(.fsl ((rs.reverse).map Rg.r) false),(.fsl (((t::bot')).map Item.c) false),(ii mv),(ii cp)]),(.agg [(ii t.time),(ii t.seq),(ii t.slot)]),(bb true)]):=by
 obtain⟨y1,e,σ⟩:=y
 obtain⟨ne,ok,o1,o2,o3,v1,v2,v3⟩:=p
 simp only at o1 o2 o3 v1 v2 v3
 subst o1;subst o3
 cases bot with
 |nil=>exact absurd rfl ne
 |cons b bot'=>
  obtain⟨rfl,ok'⟩:=ok.head hT
  refine⟨bot',rfl,ok',?_⟩
  obtain⟨bt,bs,bp⟩:=b
  have hg:(⟨bt,bs,bp⟩::bot')[0]? = some (⟨bt,bs,bp⟩:Item):=rfl
  generalize (⟨bt,bs,bp⟩::bot':List Item)=B at hg h⊢
  generalize rs.reverse=Z at h⊢
  try simp only[wk]at h
  rw[qaz,qg q9b q5u]
  simp only[qrs,h,o2,v1,v2,v3,zgq,zgt,hg,Item.c,wy,ww,wk,qa0,qkh,wj,wr,qb,wg,wh,ql,wi,Ev.AV.obj?,ne_eq,zgy,↓qc,↓qx,↓we,wd,wa,Nat.reduceBEq,wb]
theorem pop_of {top:List Item} {rs0:List Rg} {bot0 bot':List Item} {mv0 mv:Nat} {ts':Int} {rs:List Rg} (hl:bot'.length≤1000)
  (h:qaz (evL K.T) qjs [(.agg [(ii ts'),(.fsl ((top).map Item.c) false),(.fsl ((rs0).map Rg.r) false),(.fsl ((bot0).map Item.c) false),(ii mv0),(ii cp)])]=some (.tup [(.agg [(ii ts),(.fsl ((([]:List Item)).map Item.c) false),(.fsl ((rs.reverse).map Rg.r) false),(.fsl (((t::bot')).map Item.c) false),(ii mv),(ii cp)]),(.agg [(ii t.time),(ii t.seq),(ii t.slot)]),(bb true)])) :
  qaz (evL K.T) qik [(.agg [(ii ts'),(.fsl ((top).map Item.c) false),(.fsl ((rs0).map Rg.r) false),(.fsl ((bot0).map Item.c) false),(ii mv0),(ii cp)])]=some (.tup [(.agg [(ii ts),(.fsl ((([]:List Item)).map Item.c) false),(.fsl ((rs.reverse).map Rg.r) false),(.fsl ((bot').map Item.c) false),(ii mv),(ii cp)]),(.agg [(ii t.time),(ii t.seq),(ii t.slot)]),(bb true)]):=by
 have hcl : ∀c,(evL K.T).call qa6 [(.fsl ((bot').map Item.c) c)] []=some (.sl 0 0 0 bot'.length false,[.row 3 (bot'.map Item.c) 0]):=fun c=>q00 bot' c (by omega)
 have htk:(bot'.map Item.c).take bot'.length=bot'.map Item.c:=ztl (by simp)
 have hBd:((t::bot').map Item.c).drop 1=bot'.map Item.c:=rfl
 have hBl:(t::bot').length=bot'.length+1:=rfl
 have c1:(1:Int)≤((bot'.length+1:Nat):Int):=by omega
 have hok:=q26 (t::bot')
 obtain⟨B,hB⟩ : ∃B,B=t::bot':=⟨_,rfl⟩
 rw[←hB]at h hBd hBl hok
 have htk2:(B.map Item.c).drop 1=bot'.map Item.c:=hBd
 have hsub:bot'.length+1-1=bot'.length:=rfl
 generalize rs.reverse=Z at h⊢
 try simp only[wk]at h
 rw[qaz,qg q9y q8u]
 simp only[qun,h,hcl,htk,hBd,hBl,hsub,c1,hok,zgr,wk,zgi,Int.toNat_one,ww,imp_self,qa0,qkh,wj,wr,q2m,qb,wg,wp,wh,ql,Ev.AV.obj?,ne_eq,zgy,↓qc,↓we,wd,wa,Nat.reduceBEq,wb,wf,wH]
theorem popB_ev (hn:n≤1000) (hTn:(t::T).length≤1000) (hT:(t::T).Pairwise ltJ) (bot:List Item) (rs:List Rg) (mv:Nat) (L:LdOk (t::T) n bot rs mv) :
  ∃(bot':List Item) (rs':List Rg) (mv':Nat),LdOk T n bot' rs' mv'∧qaz (evL K.T) qik [(.agg [(ii ts),(.fsl ((([]:List Item)).map Item.c) false),(.fsl ((rs.reverse).map Rg.r) false),(.fsl ((bot).map Item.c) false),(ii mv),(ii cp)])]=some (.tup [(.agg [(ii ts),(.fsl ((([]:List Item)).map Item.c) false),(.fsl ((rs'.reverse).map Rg.r) false),(.fsl ((bot').map Item.c) false),(ii mv'),(ii cp)]),(.agg [(ii t.time),(ii t.seq),(ii t.slot)]),(bb true)]):=by
 obtain⟨y,h,bot1,rs1,mv1,p⟩:=qad2 (ts:=ts) (cp:=cp) hn hTn (by simp) bot rs mv L
 obtain⟨bot',rfl,ok',hp⟩:=qams (top:=[]) (rs0:=rs.reverse) (bot0:=bot) (mv0:=mv) (ts':=ts) hT h p
 have hs:=ok'.sizes
 rw[List.length_cons]at hTn
 exact⟨bot',rs1,mv1,ok',pop_of (by omega) hp⟩
theorem popA_ev (hn:n≤1000) (hT:(t::T).Pairwise ltJ) (top:List Item) (hp:top.Perm (t::T)) (hln:n=top.length) (ht : ∀x∈t::T,0≤x.time∧x.time≤tM) :
  ∃(ts:Int) (bot':List Item) (rs':List Rg) (mv':Nat),LdOk T n bot' rs' mv'∧qaz (evL K.T) qik [(.agg [(ii 0),(.fsl ((top).map Item.c) false),(.fsl ((([]:List Rg)).map Rg.r) false),(.fsl ((([]:List Item)).map Item.c) false),(ii n),(ii cp)])]=some (.tup [(.agg [(ii ts),(.fsl ((([]:List Item)).map Item.c) false),(.fsl ((rs'.reverse).map Rg.r) false),(.fsl ((bot').map Item.c) false),(ii mv'),(ii cp)]),(.agg [(ii t.time),(ii t.seq),(ii t.slot)]),(bb true)]):=by
 have hpl:=hp.length_eq
 rw[List.length_cons]at hpl
 obtain⟨ts,hts⟩:=qakk 0 top cp n ⟨by omega,by omega⟩ (fun x hx=>ht x (hp.mem_iff.1 hx)) (by omega)
 have hTn:(t::T).length≤1000:=by rw[List.length_cons];omega
 have c1:(top.length:Int)>0:=by omega
 have main : ∃(bot:List Item) (rs:List Rg),LdOk (t::T) n bot rs (n+n) ∧
   it1 (exec (evL K.T) itL none qe6) (qao [1,2,3] true 3) ⟨[(1,.ptr 0 0 0 0),(2,.ptr 1 0 0 0),(3,.ptr 2 0 0 0)],[]⟩ [.row 6 [[(ii 0),(.fsl ((top).map Item.c) false),(.fsl ((([]:List Rg)).map Rg.r) false),(.fsl ((([]:List Item)).map Item.c) false),(ii n),(ii cp)]] 0,(.row 6 [[(ii 0),.fsl [] false,.fsl [] false,.fsl [] false,(ii 0),(ii 0)]] 0),(.row 3 [[(ii 0),(ii 0),(ii 0)]] 0)]=some (.inl (⟨[(1,.ptr 0 0 0 0),(2,.ptr 1 0 0 0),(3,.ptr 2 0 0 0)],[]⟩,[(.row 6 [[(ii ts),.fsl [] false,(.fsl (((rs).reverse).map Rg.r) false),(.fsl ((bot).map Item.c) false),(ii ((n+n:Nat))),(ii cp)]] 0),(.row 6 [[(ii 0),.fsl [] false,.fsl [] false,.fsl [] false,(ii 0),(ii 0)]] 0),(.row 3 [[(ii 0),(ii 0),(ii 0)]] 0)])):=by
  rcases hts with ⟨h4,S,s1,s2,h⟩|⟨h4,r,r1,r2,h⟩
  ·refine⟨S,[],LdOk.top_small hp hln ht s1 s2,?_⟩
   rw[←hln]at h
   simp only[wk,List.reverse_nil]at h⊢
   simp only[qe6,h,c1,zgi,zgb,wv,gt_iff_lt,qa0,wj,qb,wi,zgy,↓qc,↓we,wa,wb]
  ·refine⟨[],[r],LdOk.top_big hp hln ht r1 r2,?_⟩
   rw[←hln]at h
   rw[show [r].reverse=[r] from rfl]
   generalize [r]=Z at h⊢
   simp only[wk]at h⊢
   simp only[qe6,h,c1,zgi,zgb,wv,gt_iff_lt,qkh,wj,qb,wi,zgy,↓qc,↓we,wa,wb]
 obtain⟨bot,rs,L,h1⟩:=main
 obtain⟨y,h,bot1,rs1,mv1,p⟩:=qad2 (ts:=ts) (cp:=cp) hn hTn (by simp) bot rs (n+n) L
 obtain⟨bot',rfl,ok',hpk⟩:=qams (top:=top) (rs0:=[]) (bot0:=[]) (mv0:=n) (ts':=0) hT (qmu h1 h) p
 have hs:=ok'.sizes
 exact⟨ts,bot',rs1,mv1,ok',pop_of (by omega) hpk⟩
end
set_option maxRecDepth 10000
theorem cat8:(evL T).call qar [.fsl (wt 8 (qco [])) false] []=some (.sl 0 0 0 0 false,[.row 3 [] 0]):=qac2 12 (by kernel_rfl)
theorem cat2:(evL T).call qar [.fsl [[.fsl [] false],[.fsl [] false]] true] []=some (.sl 0 0 0 0 false,[.row 3 [] 0]):=qac2 12 (by kernel_rfl)
theorem all_LJ (Z:List Rg) (hZ : ∀r∈Z,r.bs=wt 8 []) (hl:Z.length≤1000) :
  ∃y,itB (exec (evL T) itL none qpo) (qao [3,13,14,15] true 1) ⟨[(3,.sl 0 0 0 0 false),(13,(.fsl ((Z).map Rg.r) false)),(14,(ii Z.length)),(15,(ii ((0:Nat))))],[]⟩ [.row 3 [] 0]=some y ∧
   (y.1 = .exit 0∧y.2.1.marks=[]∧y.2.2=[.row 3 [] 0]∧ws y.2.1.vars 3=some (.sl 0 0 0 0 false)):=by
 refine qh5 (α:=Unit) (fun i _=>⟨[(3,.sl 0 0 0 0 false),(13,(.fsl ((Z).map Rg.r) false)),(14,(ii Z.length)),(15,(ii i))],[]⟩) (fun _ _=>[.row 3 [] 0]) (fun _ _=>True) Z.length _ ?_ ?_ 0 () (wJ _) trivial
 ·rintro i-hi -
  obtain⟨r,hr⟩ : ∃r,Z[i]? = some r:=⟨_,zgE hi⟩
  have hb:=hZ r (zmg hr)
  have hi':(i:Int)<(Z.length:Int):=by omega
  have hw:IntKind.i64.wrap ((i:Int)+1)=((i+1:Nat):Int):=qge (by omega)
  have hc:=cat8
  have hlo : ∀n,qk9 n (wt 8 (qco []))=true:=fun n=>by rw[←List.map_replicate];exact qef n _
  refine .inl ⟨(),?_,trivial⟩
  obtain⟨f,w,c,bs⟩:=r
  simp only at hb
  subst hb
  have hr':(Z.map Rg.r)[i]? = some [(ii f),(ii w),(ii c),.fsl (wt 8 (qco [])) false]:=by rw[List.getElem?_map,hr];rfl
  generalize wt 8 (qco [])=Q at hc hlo hr'
  simp only[qpo,zgs,zgr,hr',hi',hw,hc,hlo,qdk,zgb,zgo,Nat.zero_mul,wJ,Nat.add_zero,zgg,qkh,wj,wr,q2m,q6o,qb,qdr,wg,wh,wi,ne_eq,zgy,↓qc,↓we,wd,wa,wq]
 ·rintro - -
  simp only[qpo,wv,wj,zgy,↓qc,↓we,wa]
  exact⟨_,rfl,rfl,rfl,rfl,rfl⟩
theorem len_ev (ts:Int) (Z:List Rg) (mv cp:Nat) (hZ : ∀r∈Z,r.bs=wt 8 []) (hl:Z.length≤1000):qaz (evL T) qmj [(.agg [(ii ts),(.fsl ((([]:List Item)).map Item.c) false),(.fsl ((Z).map Rg.r) false),(.fsl ((([]:List Item)).map Item.c) false),(ii mv),(ii cp)])]=some (ii 0):=by
 obtain⟨⟨y,e,σ⟩,k1,k2,k3,k4,k5⟩:=all_LJ Z hZ hl
 simp only at k2 k3 k4 k5
 subst k2;subst k4
 have z0:((0:Nat):Int)=0:=rfl
 rw[z0]at k1
 have hc:=cat2
 have hall:qaz (evL T) ql7 [(.agg [(ii ts),(.fsl ((([]:List Item)).map Item.c) false),(.fsl ((Z).map Rg.r) false),(.fsl ((([]:List Item)).map Item.c) false),(ii mv),(ii cp)])]=some (.fsl [] false):=by
  rw[qaz,qg qaau q7o]
  simp only[qui,show ∀v:List AV,wt 2 v=[v,v] from fun _=>rfl,hc,k1,k3,k5,wk,zgi,zgb,zgo,zgg,zfd,qkh,wj,q2m,qb,wg,wp,wh,ql,wi,ne_eq,zgy,↓qc,↓qx,↓we,wd,wa,wo,wb,wf,wq]
 simp only[wk]at hall
 rw[qaz,qg qaaq q8s]
 simp only[quc,hall,wk,zgb,qkh,wj,qb,wg,wh,ql,ne_eq,zgy,↓qc,↓we,wd,wa]
theorem LdOk.empty {n mv:Nat} {bot:List Item} {rs:List Rg} (L:LdOk [] n bot rs mv):bot=[]∧rs.length≤4 ∧ ∀r∈rs,r.bs=wt 8 []:=by
 have hp:=L.perm.length_eq
 rw[wl,List.length_nil]at hp
 have hb:bot=[]:=wm (by omega)
 have hu:q6b rs=[]:=wm (by omega)
 refine⟨hb,L.depth,?_⟩
 have hch:=L.chain
 clear L hp hb
 induction rs generalizing bot with
 |nil=>intro r hr;simp at hr
 |cons r rs ih=>
  rw[qlp]at hu
  obtain⟨h1,h2⟩:=List.append_eq_nil_iff.1 hu
  intro q hq
  rcases List.mem_cons.1 hq with rfl|hq
  ·have hlen:=hch.1.len
   rw[List.eq_replicate_iff]
   refine⟨hlen,fun b hb => ?_⟩
   exact List.flatten_eq_nil_iff.1 h1 b hb
  ·exact ih h2 hch.2.2 q hq
set_option maxRecDepth 10000
theorem q47 {α:Type} [DecidableEq α] : ∀ {a b:List α},a.length=b.length→((a.zip b).all (fun z=>decide (z.1=z.2))=true↔a=b)
 | [],[],_=>by simp
 |x::a,y::b,h=>by
  rw[List.zip_cons_cons,List.all_cons,wD,decide_eq_true_eq,q47 (a:=a) (b:=b) (by simpa using h),List.cons.injEq]
 | [],_ :: _,h=>by simp at h
 | _ :: _,[],h=>by simp at h
section
variable (a b:List Int) (c d:Bool)
theorem qaan (hab:a.length=b.length) (hl:a.length≤9223372036854775807) :
  ∃y,itB (exec (evL T) itL none qff) (qao [0,1,12,13] true 0) ⟨[(0,(.fsl ((a).map qgg) c)),(1,(.fsl ((b).map qgg) d)),(12,(ii a.length)),(13,(ii 0))],[]⟩ []=some y∧((a.zip b).all (fun z=>decide (z.1=z.2))=true∧(y.1 = .exit 0∧y.2.1.marks=[]∧y.2.2=[]) ∨
   (a.zip b).all (fun z=>decide (z.1=z.2))=false ∧ ∃x,(a.zip b).find? (fun z => !decide (z.1=z.2))=some x∧(y.1 = .ret∧y.2.1.marks=[]∧y.2.2=[]∧ws y.2.1.vars 4=some (bb false))):=by
 have hzl:(a.zip b).length=a.length:=by rw[List.length_zip,←hab,Nat.min_self]
 refine qib (a.zip b) (fun i=>⟨[(0,(.fsl ((a).map qgg) c)),(1,(.fsl ((b).map qgg) d)),(12,(ii a.length)),(13,(ii i))],[]⟩) [] (fun z=>decide (z.1=z.2)) _ (fun _ y => _) ?_ ?_ ?_
 ·intro i x hi hx hp
  rw[hzl]at hi
  have hi':(i:Int)<(a.length:Int):=by omega
  have hw:IntKind.i64.wrap ((i:Int)+1)=((i+1:Nat):Int):=by rw[qk (by omega) (by omega)];simp
  obtain⟨hxa,hxb⟩:=List.getElem?_zip_eq_some.1 hx
  have hp':=of_decide_eq_true hp
  simp only[qff,zgs,zgr,zgq,zgt,hxa,hxb,hi',hw,hp',qcs,qgg,wj,qb,ne_eq,zgy,↓qc,↓we,wa,wc]
 ·intro i x hi hx hp
  rw[hzl]at hi
  have hi':(i:Int)<(a.length:Int):=by omega
  obtain⟨hxa,hxb⟩:=List.getElem?_zip_eq_some.1 hx
  have hp':¬x.1=x.2:=of_decide_eq_false hp
  simp only[qff,zgs,zgr,zgq,zgt,hxa,hxb,hi',hp',qgg,wj,qb,ne_eq,zgy,↓qc,↓we,wa,wc]
  exact⟨_,rfl,rfl,rfl,rfl,rfl⟩
 ·rw[hzl]
  simp only[qff,wv,wj,zgy,↓qc,↓we,wa,wc]
  exact⟨_,rfl,rfl,rfl,rfl⟩
theorem qy1 (hl:a.length≤9223372036854775807) (hl2:b.length≤9223372036854775807):qaz (evL T) qcn [(.fsl ((a).map qgg) c),(.fsl ((b).map qgg) d)]=some (bb (decide (a=b))):=by
 rw[qaz,qg qvb qt3]
 by_cases hab:a.length=b.length
 ·have hab':(a.length:Int)=(b.length:Int):=by omega
  obtain⟨⟨y,e,σ⟩,k1,k2⟩:=qaan a b c d hab hl
  simp only at k2
  rcases k2 with ⟨k3,rfl,k4,rfl⟩|⟨k3,x,_,rfl,k4,rfl,k5⟩
  ·have:a=b:=(q47 hab).1 k3
   rw[hab']at k1
   simp only[qe7,this,qcs,wj,ql,ne_eq,zgy,↓qc,↓qx,↓we,wd,wa,wc]
   subst this
   simp only[k1,k4,wj,zgy,↓we]
  ·have:¬a=b:=fun h=>by rw[(q47 hab).2 h]at k3;cases k3
   simp only[this]
   rw[hab']at k1
   simp only[qe7,hab',k1,k4,k5,qcs,wj,ql,ne_eq,zgy,↓qc,↓qx,↓we,wd,wa,wc]
 ·have hab':¬(a.length:Int)=(b.length:Int):=by omega
  have:¬a=b:=fun h=>hab (by rw[h])
  simp only[qe7,hab',this,wj,ql,ne_eq,zgy,↓qc,↓we,wd,wa,wc]
end
theorem qxh (n:Nat) : ∀(a b:qf),qer n (a++b)=(qer n a&&qer n b)
 | [],b=>by simp[qer]
 |x::a,b=>by simp only[zgm,qer,qxh n a b,Bool.and_assoc]
theorem qww {n:Nat} : ∀ {σ:qf},qer n σ=true ↔ ∀x∈σ,SObj.lo n x=true
 | []=>by simp[qer]
 |x::a=>by simp only[qer,wD,qww (σ:=a),List.mem_cons,forall_eq_or_imp]
theorem q1k {n:Nat} {σ:qf} (h:qer n σ=true) (i:Nat) {x:SObj} (hx:x.lo n=true):qer n (σ.set i x)=true:=by
 rw[qww]at h⊢
 intro y hy
 rcases List.mem_or_eq_of_mem_set hy with hy|rfl
 ·exact h y hy
 ·exact hx
mutual
theorem qaba {n m:Nat} (h:n≤m) : ∀(a:AV),a.lo n=true→a.lo m=true
 | .v _,_=>by simp only[AV.lo]
 | .agg cs,k=>by simp only[AV.lo]at k ⊢;exact qxl h cs k
 | .tup cs,k=>by simp only[AV.lo]at k ⊢;exact qxl h cs k
 | .fsl es _,k=>by simp only[AV.lo]at k ⊢;exact qvq h es k
 | .fptr cs,k=>by simp only[AV.lo]at k ⊢;exact qxl h cs k
 | .sl o _ _ _ _,k=>by simp only[AV.lo,decide_eq_true_eq]at k ⊢;omega
 | .ptr o _ _ _,k=>by simp only[AV.lo,decide_eq_true_eq]at k ⊢;omega
 | .fn _ a b,k=>by simp only[AV.lo,wD]at k ⊢;exact⟨qxl h a k.1,qxl h b k.2⟩
 | .yld o,k=>by simp only[AV.lo,decide_eq_true_eq]at k ⊢;omega
 | .mp o,k=>by simp only[AV.lo,decide_eq_true_eq]at k ⊢;omega
theorem qxl {n m:Nat} (h:n≤m) : ∀(l:List AV),los n l=true→los m l=true
 | [],_=>by simp only[los]
 |a::l,k=>by simp only[los,wD]at k ⊢;exact⟨qaba h a k.1,qxl h l k.2⟩
theorem qvq {n m:Nat} (h:n≤m) : ∀(es:List (List AV)),qk9 n es=true→qk9 m es=true
 | [],_=>by simp only[qk9]
 |a::l,k=>by simp only[qk9,wD]at k ⊢;exact⟨qxl h a k.1,qvq h l k.2⟩
end
theorem q9a {n m:Nat} (h:n≤m) : ∀(l:List (Nat×AV)),qy7 n l=true→qy7 m l=true
 | [],_=>by simp only[qy7]
 |(_,a)::r,k=>by simp only[qy7,wD]at k ⊢;exact⟨qaba h a k.1,q9a h r k.2⟩
theorem q1i {n m:Nat} (h:n≤m) (o:SObj) (k:o.lo n=true):o.lo m=true:=by
 cases o<;>simp only[SObj.lo]at k⊢
 ·exact qvq h _ k
 ·exact q9a h _ k
theorem qyu {n m:Nat} (h:n≤m) {σ:qf} (k:qer n σ=true):qer m σ=true:=by
 rw[qww]at k⊢
 exact fun x hx=>q1i h x (k x hx)
set_option maxRecDepth 10000
theorem q66 (n:Nat) : ∀(a b:List (List AV)),qk9 n (a++b)=(qk9 n a&&qk9 n b)
 | [],b=>by simp[qr5]
 |x::a,b=>by rw[List.cons_append,qli,qli,q66 n a b,Bool.and_assoc]
theorem qab0 (l:List Int) (c:Bool) (h:l.length≤100000):(evL T).call qgr [(.fsl ((l).map qgg) c)] []=some (.sl 0 0 0 l.length false,[.row 1 (l.map qgg) 0]):=by
 have h':l.length*8≤140737488355328:=by omega
 rw[q4g qvd]
 simp only[qqp,qcs,ints_ok,h',wj,zgy,↓we,wq]
theorem q0w (l:List Int) (c:Bool) (n:Int) (h:l.length≤100000):qaz (evL T) qjo [(.fsl ((l).map qgg) c),(ii n)]=some (.fsl ((l++[n]).map qgg) false):=by
 have h':(l.length+1)*8≤140737488355328:=by omega
 have htl:List.take l.length (l.map qgg)=l.map qgg:=ztl (by simp)
 have htk : ∀e:List AV,List.take (l.length+1) (l.map qgg++[e])=l.map qgg++[e]:=fun e=>ztl (by simp)
 have hr:(l++[n]).map qgg=l.map qgg++[[(ii n)]]:=by rw[wz];rfl
 rw[qaz,qg q7z q6d]
 rw[hr]
 simp only[qrt,qab0 l c h,h',htl,htk,q66,qcs,wj,q2m,q6o,qdr,wg,wp,wh,ql,ne_eq,zgy,↓qc,↓we,wd,wa,wo,wb,wf,wq,wc]
set_option maxRecDepth 10000
def qhn:List (Int×AV):=[(1,.fn (.func qcd) [] []),(2,.fn (.func qcb) [] []),(3,.fn (.func qb4) [] []),(4,.fn (.func qbx) [] []),(5,.fn (.func qb5) [] []),(6,.fn (.func qcm) [] []),(7,.fn (.func qcf) [] []),(8,.fn (.func qcq) [] [])]
section
variable (a0 a1 a2:Int) (am:Nat) (x:Ex) (gp gc gg:Nat)
theorem qz3 (i:Nat) (hi:x.ev.proc=i) (hp:i<x.procs.length) :
  (evL T).call qaa [.ptr 5 0 0 0] [.row 4 [[(ii a0),(ii a1),.sl 2 0 0 am false,(ii a2)]] 0,.row 4 [[(ii 0),(ii 0),.fsl [] false,(ii 0)]] 0,.row 4 ((x.procs).map Pr.r) gp,.row 6 ((x.out).map Evt.r) gc,.row 1 ((x.gone).map qnv) gg,.row 14 [[(ii x.r0),(ii x.r1),.sl 2 gp 0 x.procs.length false,(ii x.sum),(ii x.ev.time),(.fsl ((x.ev.key).map qgg) false),(ii x.ev.lp),(ii x.ev.kind),(ii x.ev.proc),(ii x.ev.arg),.sl 3 gc 0 x.out.length false,(ii x.n),.sl 4 gg 0 x.gone.length false,(bb x.over)]] 0,.mp .i64 qhn]=some (.ptr 2 gp i 0,[.row 4 [[(ii a0),(ii a1),.sl 2 0 0 am false,(ii a2)]] 0,.row 4 [[(ii 0),(ii 0),.fsl [] false,(ii 0)]] 0,.row 4 ((x.procs).map Pr.r) gp,.row 6 ((x.out).map Evt.r) gc,.row 1 ((x.gone).map qnv) gg,.row 14 [[(ii x.r0),(ii x.r1),.sl 2 gp 0 x.procs.length false,(ii x.sum),(ii x.ev.time),(.fsl ((x.ev.key).map qgg) false),(ii x.ev.lp),(ii x.ev.kind),(ii x.ev.proc),(ii x.ev.arg),.sl 3 gc 0 x.out.length false,(ii x.n),.sl 4 gg 0 x.gone.length false,(bb x.over)]] 0,.mp .i64 qhn]):=by
 rw[qg qm6 qmb]
 simp only[qf3,hi,hp,zgs,zgr,qcs,qc4,qa1,qfz,wb,wj,qb,ql,wi,zgy,↓qc,↓we,wd,wa,wb,wc]
theorem qal8 (k p a:Int):(evL T).call qcp [.ptr 5 0 0 0,(ii k),(ii p),(ii a)] [.row 4 [[(ii a0),(ii a1),.sl 2 0 0 am false,(ii a2)]] 0,.row 4 [[(ii 0),(ii 0),.fsl [] false,(ii 0)]] 0,.row 4 ((x.procs).map Pr.r) gp,.row 6 ((x.out).map Evt.r) gc,.row 1 ((x.gone).map qnv) gg,.row 14 [[(ii x.r0),(ii x.r1),.sl 2 gp 0 x.procs.length false,(ii x.sum),(ii x.ev.time),(.fsl ((x.ev.key).map qgg) false),(ii x.ev.lp),(ii x.ev.kind),(ii x.ev.proc),(ii x.ev.arg),.sl 3 gc 0 x.out.length false,(ii x.n),.sl 4 gg 0 x.gone.length false,(bb x.over)]] 0,.mp .i64 qhn]=some (.agg [(ii 0),.fsl [] false,(ii x.ev.lp),(ii k),(ii p),(ii a)],[.row 4 [[(ii a0),(ii a1),.sl 2 0 0 am false,(ii a2)]] 0,.row 4 [[(ii 0),(ii 0),.fsl [] false,(ii 0)]] 0,.row 4 ((x.procs).map Pr.r) gp,.row 6 ((x.out).map Evt.r) gc,.row 1 ((x.gone).map qnv) gg,.row 14 [[(ii x.r0),(ii x.r1),.sl 2 gp 0 x.procs.length false,(ii x.sum),(ii x.ev.time),(.fsl ((x.ev.key).map qgg) false),(ii x.ev.lp),(ii x.ev.kind),(ii x.ev.proc),(ii x.ev.arg),.sl 3 gc 0 x.out.length false,(ii x.n),.sl 4 gg 0 x.gone.length false,(bb x.over)]] 0,.mp .i64 qhn]):=by
 rw[qg qva qtx]
 simp only[qia,qcs,qc4,qa1,qfz,wb,wf,wj,wr,qb,wg,wp,wh,ql,wi,ne_eq,zgy,↓qc,↓we,wd,wa,wb,wf,wc]
def qq6 (x:Ex) (d:Int) (gc:Nat):Nat:=if w64 (x.ev.time+d)>1152921504606846976 then gc else gc+1
theorem q2j (h:x.Small) (d:Int) (t0 lp k p a:Int) (ks:List Int) :
  (evL T).call qbf [.ptr 5 0 0 0,(ii d),.agg [(ii t0),(.fsl ((ks).map qgg) false),(ii lp),(ii k),(ii p),(ii a)]] [.row 4 [[(ii a0),(ii a1),.sl 2 0 0 am false,(ii a2)]] 0,.row 4 [[(ii 0),(ii 0),.fsl [] false,(ii 0)]] 0,.row 4 ((x.procs).map Pr.r) gp,.row 6 ((x.out).map Evt.r) gc,.row 1 ((x.gone).map qnv) gg,.row 14 [[(ii x.r0),(ii x.r1),.sl 2 gp 0 x.procs.length false,(ii x.sum),(ii x.ev.time),(.fsl ((x.ev.key).map qgg) false),(ii x.ev.lp),(ii x.ev.kind),(ii x.ev.proc),(ii x.ev.arg),.sl 3 gc 0 x.out.length false,(ii x.n),.sl 4 gg 0 x.gone.length false,(bb x.over)]] 0,.mp .i64 qhn]=some ((.fsl ((x.kid).map qgg) false),[.row 4 [[(ii a0),(ii a1),.sl 2 0 0 am false,(ii a2)]] 0,.row 4 [[(ii 0),(ii 0),.fsl [] false,(ii 0)]] 0,.row 4 (((x.create d ⟨t0,ks,lp,k,p,a⟩).procs).map Pr.r) gp,.row 6 (((x.create d ⟨t0,ks,lp,k,p,a⟩).out).map Evt.r) (qq6 x d gc),.row 1 (((x.create d ⟨t0,ks,lp,k,p,a⟩).gone).map qnv) gg,.row 14 [[(ii ((x.create d ⟨t0,ks,lp,k,p,a⟩).r0)),(ii ((x.create d ⟨t0,ks,lp,k,p,a⟩).r1)),.sl 2 gp 0 (x.create d ⟨t0,ks,lp,k,p,a⟩).procs.length false,(ii ((x.create d ⟨t0,ks,lp,k,p,a⟩).sum)),(ii ((x.create d ⟨t0,ks,lp,k,p,a⟩).ev.time)),(.fsl (((x.create d ⟨t0,ks,lp,k,p,a⟩).ev.key).map qgg) false),(ii ((x.create d ⟨t0,ks,lp,k,p,a⟩).ev.lp)),(ii ((x.create d ⟨t0,ks,lp,k,p,a⟩).ev.kind)),(ii ((x.create d ⟨t0,ks,lp,k,p,a⟩).ev.proc)),(ii ((x.create d ⟨t0,ks,lp,k,p,a⟩).ev.arg)),.sl 3 (qq6 x d gc) 0 (x.create d ⟨t0,ks,lp,k,p,a⟩).out.length false,(ii ((x.create d ⟨t0,ks,lp,k,p,a⟩).n)),.sl 4 gg 0 (x.create d ⟨t0,ks,lp,k,p,a⟩).gone.length false,(bb ((x.create d ⟨t0,ks,lp,k,p,a⟩).over))]] 0,.mp .i64 qhn]):=by
 have hk:=q0w x.ev.key false x.n h.key
 have hs:(x.out.length+1)*64≤140737488355328:=by have:=h.out;omega
 have htl:List.take x.out.length (x.out.map Evt.r)=x.out.map Evt.r:=ztl (by simp)
 have hlo:los 7 ([(ii x.r0),(ii x.r1),.sl 2 gp 0 x.procs.length false,(ii x.sum),(ii x.ev.time),(.fsl ((x.ev.key).map qgg) false),(ii x.ev.lp),(ii x.ev.kind),(ii x.ev.proc),(ii x.ev.arg),.sl 3 gc 0 x.out.length false,(ii x.n),.sl 4 gg 0 x.gone.length false,(bb x.over)])=true:=by simp only[qcs,wb,wj,zgy,wb]
 rw[qg qru qra]
 unfold Ex.create qq6 Ex.kid
 by_cases ho:w64 (x.ev.time+d)>1152921504606846976
 ·have ho':IntKind.i64.wrap (x.ev.time+d)>1152921504606846976:=ho
  simp only[ho,if_true]
  simp only[qfe,hk,ho',qcs,qc4,qa1,qfz,wb,wf,wj,wr,qb,wg,wp,wh,ql,wi,ne_eq,zgy,↓qc,↓we,wd,wa,wb,wf,wc]
  done
 ·have ho':¬IntKind.i64.wrap (x.ev.time+d)>1152921504606846976:=ho
  simp only[ho,if_false]
  have hr : ∀e:Evt,(x.out++[e]).map Evt.r=x.out.map Evt.r++[e.r]:=fun e=>by rw[wz];rfl
  simp only[qfe,hk,ho',hs,htl,hr,q66,Evt.r,qcs,qc4,qa1,qfz,wb,wf,wj,wr,q6o,qb,qdr,wg,wp,wh,ql,wi,ne_eq,zgy,↓qc,↓we,wd,wa,wo,wb,wf,wq,wc]
  done
end
set_option maxRecDepth 10000
theorem eq_table:eqBm qhn qhn=true:=by
 have h:decide (eqBm qhn qhn=true)=true:=by kernel_rfl
 exact of_decide_eq_true h
def Ex.ownE (x:Ex) (k p a:Int):Evt:=⟨0,[],x.ev.lp,k,p,a⟩
def Ex.setP (x:Ex) (i:Nat) (q:Pr):Ex:={ x with procs:=x.procs.set i q }
def Ex.stopE (x:Ex) (i:Nat) (q:Pr):Ex:=if 0<q.timer.length then { x with gone:=x.gone++[q.timer],procs:=x.procs.set i { q with timer:=[] } }else x
section
variable (a0 a1 a2:Int) (am:Nat) (x:Ex) (gp gc gg:Nat) (op:OpI)
theorem hold_ev (h:x.Small):(evL T).call qcd [.ptr 5 0 0 0,(.agg [(ii op.code),(ii op.a),(ii op.b),(ii op.c)])] [.row 4 [[(ii a0),(ii a1),.sl 2 0 0 am false,(ii a2)]] 0,.row 4 [[(ii 0),(ii 0),.fsl [] false,(ii 0)]] 0,.row 4 ((x.procs).map Pr.r) gp,.row 6 ((x.out).map Evt.r) gc,.row 1 ((x.gone).map qnv) gg,.row 14 [[(ii x.r0),(ii x.r1),.sl 2 gp 0 x.procs.length false,(ii x.sum),(ii x.ev.time),(.fsl ((x.ev.key).map qgg) false),(ii x.ev.lp),(ii x.ev.kind),(ii x.ev.proc),(ii x.ev.arg),.sl 3 gc 0 x.out.length false,(ii x.n),.sl 4 gg 0 x.gone.length false,(bb x.over)]] 0,.mp .i64 qhn]=some ((ii 1),[.row 4 [[(ii a0),(ii a1),.sl 2 0 0 am false,(ii a2)]] 0,.row 4 [[(ii 0),(ii 0),.fsl [] false,(ii 0)]] 0,.row 4 (((x.create op.a (x.ownE 1 x.ev.proc 0)).procs).map Pr.r) gp,.row 6 (((x.create op.a (x.ownE 1 x.ev.proc 0)).out).map Evt.r) (qq6 x op.a gc),.row 1 (((x.create op.a (x.ownE 1 x.ev.proc 0)).gone).map qnv) gg,.row 14 [[(ii ((x.create op.a (x.ownE 1 x.ev.proc 0)).r0)),(ii ((x.create op.a (x.ownE 1 x.ev.proc 0)).r1)),.sl 2 gp 0 (x.create op.a (x.ownE 1 x.ev.proc 0)).procs.length false,(ii ((x.create op.a (x.ownE 1 x.ev.proc 0)).sum)),(ii ((x.create op.a (x.ownE 1 x.ev.proc 0)).ev.time)),(.fsl (((x.create op.a (x.ownE 1 x.ev.proc 0)).ev.key).map qgg) false),(ii ((x.create op.a (x.ownE 1 x.ev.proc 0)).ev.lp)),(ii ((x.create op.a (x.ownE 1 x.ev.proc 0)).ev.kind)),(ii ((x.create op.a (x.ownE 1 x.ev.proc 0)).ev.proc)),(ii ((x.create op.a (x.ownE 1 x.ev.proc 0)).ev.arg)),.sl 3 (qq6 x op.a gc) 0 (x.create op.a (x.ownE 1 x.ev.proc 0)).out.length false,(ii ((x.create op.a (x.ownE 1 x.ev.proc 0)).n)),.sl 4 gg 0 (x.create op.a (x.ownE 1 x.ev.proc 0)).gone.length false,(bb ((x.create op.a (x.ownE 1 x.ev.proc 0)).over))]] 0,.mp .i64 qhn]):=by
 have h1:=qal8 a0 a1 a2 am x gp gc gg 1 x.ev.proc 0
 have h2:=q2j a0 a1 a2 am x gp gc gg h op.a 0 x.ev.lp 1 x.ev.proc 0 []
 simp only[wk]at h2
 rw[qg qt7 qti]
 simp only[qho,h1,h2,Ex.ownE,qcs,qc4,qa1,qfz,wb,wj,qb,wg,wh,ql,wi,ne_eq,zgy,↓qc,↓we,wd,wa,wb,wc]
theorem send_ev (h:x.Small):(evL T).call qcb [.ptr 5 0 0 0,(.agg [(ii op.code),(ii op.a),(ii op.b),(ii op.c)])] [.row 4 [[(ii a0),(ii a1),.sl 2 0 0 am false,(ii a2)]] 0,.row 4 [[(ii 0),(ii 0),.fsl [] false,(ii 0)]] 0,.row 4 ((x.procs).map Pr.r) gp,.row 6 ((x.out).map Evt.r) gc,.row 1 ((x.gone).map qnv) gg,.row 14 [[(ii x.r0),(ii x.r1),.sl 2 gp 0 x.procs.length false,(ii x.sum),(ii x.ev.time),(.fsl ((x.ev.key).map qgg) false),(ii x.ev.lp),(ii x.ev.kind),(ii x.ev.proc),(ii x.ev.arg),.sl 3 gc 0 x.out.length false,(ii x.n),.sl 4 gg 0 x.gone.length false,(bb x.over)]] 0,.mp .i64 qhn]=some ((ii 0),[.row 4 [[(ii a0),(ii a1),.sl 2 0 0 am false,(ii a2)]] 0,.row 4 [[(ii 0),(ii 0),.fsl [] false,(ii 0)]] 0,.row 4 (((x.create op.c ⟨0,[],op.a,3,0,op.b⟩).procs).map Pr.r) gp,.row 6 (((x.create op.c ⟨0,[],op.a,3,0,op.b⟩).out).map Evt.r) (qq6 x op.c gc),.row 1 (((x.create op.c ⟨0,[],op.a,3,0,op.b⟩).gone).map qnv) gg,.row 14 [[(ii ((x.create op.c ⟨0,[],op.a,3,0,op.b⟩).r0)),(ii ((x.create op.c ⟨0,[],op.a,3,0,op.b⟩).r1)),.sl 2 gp 0 (x.create op.c ⟨0,[],op.a,3,0,op.b⟩).procs.length false,(ii ((x.create op.c ⟨0,[],op.a,3,0,op.b⟩).sum)),(ii ((x.create op.c ⟨0,[],op.a,3,0,op.b⟩).ev.time)),(.fsl (((x.create op.c ⟨0,[],op.a,3,0,op.b⟩).ev.key).map qgg) false),(ii ((x.create op.c ⟨0,[],op.a,3,0,op.b⟩).ev.lp)),(ii ((x.create op.c ⟨0,[],op.a,3,0,op.b⟩).ev.kind)),(ii ((x.create op.c ⟨0,[],op.a,3,0,op.b⟩).ev.proc)),(ii ((x.create op.c ⟨0,[],op.a,3,0,op.b⟩).ev.arg)),.sl 3 (qq6 x op.c gc) 0 (x.create op.c ⟨0,[],op.a,3,0,op.b⟩).out.length false,(ii ((x.create op.c ⟨0,[],op.a,3,0,op.b⟩).n)),.sl 4 gg 0 (x.create op.c ⟨0,[],op.a,3,0,op.b⟩).gone.length false,(bb ((x.create op.c ⟨0,[],op.a,3,0,op.b⟩).over))]] 0,.mp .i64 qhn]):=by
 have h2:=q2j a0 a1 a2 am x gp gc gg h op.c 0 op.a 3 0 op.b []
 simp only[wk]at h2
 rw[qg qtt qss]
 simp only[qhy,h2,qcs,qc4,qa1,qfz,wb,wf,wj,qb,wg,wp,wh,ql,wi,ne_eq,zgy,↓qc,↓we,wd,wa,wb,wf,wc]
theorem end_ev:(evL T).call qcq [.ptr 5 0 0 0,(.agg [(ii op.code),(ii op.a),(ii op.b),(ii op.c)])] [.row 4 [[(ii a0),(ii a1),.sl 2 0 0 am false,(ii a2)]] 0,.row 4 [[(ii 0),(ii 0),.fsl [] false,(ii 0)]] 0,.row 4 ((x.procs).map Pr.r) gp,.row 6 ((x.out).map Evt.r) gc,.row 1 ((x.gone).map qnv) gg,.row 14 [[(ii x.r0),(ii x.r1),.sl 2 gp 0 x.procs.length false,(ii x.sum),(ii x.ev.time),(.fsl ((x.ev.key).map qgg) false),(ii x.ev.lp),(ii x.ev.kind),(ii x.ev.proc),(ii x.ev.arg),.sl 3 gc 0 x.out.length false,(ii x.n),.sl 4 gg 0 x.gone.length false,(bb x.over)]] 0,.mp .i64 qhn]=some ((ii 2),[.row 4 [[(ii a0),(ii a1),.sl 2 0 0 am false,(ii a2)]] 0,.row 4 [[(ii 0),(ii 0),.fsl [] false,(ii 0)]] 0,.row 4 ((x.procs).map Pr.r) gp,.row 6 ((x.out).map Evt.r) gc,.row 1 ((x.gone).map qnv) gg,.row 14 [[(ii x.r0),(ii x.r1),.sl 2 gp 0 x.procs.length false,(ii x.sum),(ii x.ev.time),(.fsl ((x.ev.key).map qgg) false),(ii x.ev.lp),(ii x.ev.kind),(ii x.ev.proc),(ii x.ev.arg),.sl 3 gc 0 x.out.length false,(ii x.n),.sl 4 gg 0 x.gone.length false,(bb x.over)]] 0,.mp .i64 qhn]):=by
 rw[qg quu qt2]
 simp only[qh9,qcs,qc4,qa1,qfz,wb,wj,wg,wh,ql,wi,ne_eq,zgy,↓qc,↓we,wd,wb,wc]
def Ex.reg (x:Ex) (k:Int):Int:=if k=0 then x.r0 else x.r1
def Ex.setReg (x:Ex) (k v:Int):Ex:=if k=0 then { x with r0:=v }else { x with r1:=v }
theorem add_ev (ha:op.a=0∨op.a=1):(evL T).call qcm [.ptr 5 0 0 0,(.agg [(ii op.code),(ii op.a),(ii op.b),(ii op.c)])] [.row 4 [[(ii a0),(ii a1),.sl 2 0 0 am false,(ii a2)]] 0,.row 4 [[(ii 0),(ii 0),.fsl [] false,(ii 0)]] 0,.row 4 ((x.procs).map Pr.r) gp,.row 6 ((x.out).map Evt.r) gc,.row 1 ((x.gone).map qnv) gg,.row 14 [[(ii x.r0),(ii x.r1),.sl 2 gp 0 x.procs.length false,(ii x.sum),(ii x.ev.time),(.fsl ((x.ev.key).map qgg) false),(ii x.ev.lp),(ii x.ev.kind),(ii x.ev.proc),(ii x.ev.arg),.sl 3 gc 0 x.out.length false,(ii x.n),.sl 4 gg 0 x.gone.length false,(bb x.over)]] 0,.mp .i64 qhn]=some ((ii 0),[.row 4 [[(ii a0),(ii a1),.sl 2 0 0 am false,(ii a2)]] 0,.row 4 [[(ii 0),(ii 0),.fsl [] false,(ii 0)]] 0,.row 4 (((x.setReg op.a (w64 (x.reg op.a+op.b))).procs).map Pr.r) gp,.row 6 (((x.setReg op.a (w64 (x.reg op.a+op.b))).out).map Evt.r) gc,.row 1 (((x.setReg op.a (w64 (x.reg op.a+op.b))).gone).map qnv) gg,.row 14 [[(ii ((x.setReg op.a (w64 (x.reg op.a+op.b))).r0)),(ii ((x.setReg op.a (w64 (x.reg op.a+op.b))).r1)),.sl 2 gp 0 (x.setReg op.a (w64 (x.reg op.a+op.b))).procs.length false,(ii ((x.setReg op.a (w64 (x.reg op.a+op.b))).sum)),(ii ((x.setReg op.a (w64 (x.reg op.a+op.b))).ev.time)),(.fsl (((x.setReg op.a (w64 (x.reg op.a+op.b))).ev.key).map qgg) false),(ii ((x.setReg op.a (w64 (x.reg op.a+op.b))).ev.lp)),(ii ((x.setReg op.a (w64 (x.reg op.a+op.b))).ev.kind)),(ii ((x.setReg op.a (w64 (x.reg op.a+op.b))).ev.proc)),(ii ((x.setReg op.a (w64 (x.reg op.a+op.b))).ev.arg)),.sl 3 gc 0 (x.setReg op.a (w64 (x.reg op.a+op.b))).out.length false,(ii ((x.setReg op.a (w64 (x.reg op.a+op.b))).n)),.sl 4 gg 0 (x.setReg op.a (w64 (x.reg op.a+op.b))).gone.length false,(bb ((x.setReg op.a (w64 (x.reg op.a+op.b))).over))]] 0,.mp .i64 qhn]):=by
 rw[qg qvg qt6]
 rcases ha with ha|ha
 ·simp only[qgq,ha,Ex.setReg,Ex.reg,qcs,qc4,qa1,qfz,wb,wf,wj,wr,qb,wg,wp,wh,ql,wi,ne_eq,zgy,↓qc,↓we,wd,wa,wo,wb,wf,wH,wF,wc]
 ·simp only[qgq,ha,Ex.setReg,Ex.reg,qcs,qc4,qa1,qfz,wb,wf,wj,wr,qb,wg,wp,wh,ql,wi,ne_eq,zgy,↓qc,↓we,wd,wa,wo,wb,wf,wH,wF,wx,wc]
section
variable (i:Nat) (q:Pr) (hi:x.ev.proc=i) (hq:x.procs[i]? = some q)
include hi hq
theorem less_ev (ha:op.a=0∨op.a=1):(evL T).call qcf [.ptr 5 0 0 0,(.agg [(ii op.code),(ii op.a),(ii op.b),(ii op.c)])] [.row 4 [[(ii a0),(ii a1),.sl 2 0 0 am false,(ii a2)]] 0,.row 4 [[(ii 0),(ii 0),.fsl [] false,(ii 0)]] 0,.row 4 ((x.procs).map Pr.r) gp,.row 6 ((x.out).map Evt.r) gc,.row 1 ((x.gone).map qnv) gg,.row 14 [[(ii x.r0),(ii x.r1),.sl 2 gp 0 x.procs.length false,(ii x.sum),(ii x.ev.time),(.fsl ((x.ev.key).map qgg) false),(ii x.ev.lp),(ii x.ev.kind),(ii x.ev.proc),(ii x.ev.arg),.sl 3 gc 0 x.out.length false,(ii x.n),.sl 4 gg 0 x.gone.length false,(bb x.over)]] 0,.mp .i64 qhn]=some ((ii 0),[.row 4 [[(ii a0),(ii a1),.sl 2 0 0 am false,(ii a2)]] 0,.row 4 [[(ii 0),(ii 0),.fsl [] false,(ii 0)]] 0,.row 4 (((if x.reg op.a<op.b then x.setP i { q with pc:=op.c }else x).procs).map Pr.r) gp,.row 6 (((if x.reg op.a<op.b then x.setP i { q with pc:=op.c }else x).out).map Evt.r) gc,.row 1 (((if x.reg op.a<op.b then x.setP i { q with pc:=op.c }else x).gone).map qnv) gg,.row 14 [[(ii ((if x.reg op.a<op.b then x.setP i { q with pc:=op.c }else x).r0)),(ii ((if x.reg op.a<op.b then x.setP i { q with pc:=op.c }else x).r1)),.sl 2 gp 0 (if x.reg op.a<op.b then x.setP i { q with pc:=op.c }else x).procs.length false,(ii ((if x.reg op.a<op.b then x.setP i { q with pc:=op.c }else x).sum)),(ii ((if x.reg op.a<op.b then x.setP i { q with pc:=op.c }else x).ev.time)),(.fsl (((if x.reg op.a<op.b then x.setP i { q with pc:=op.c }else x).ev.key).map qgg) false),(ii ((if x.reg op.a<op.b then x.setP i { q with pc:=op.c }else x).ev.lp)),(ii ((if x.reg op.a<op.b then x.setP i { q with pc:=op.c }else x).ev.kind)),(ii ((if x.reg op.a<op.b then x.setP i { q with pc:=op.c }else x).ev.proc)),(ii ((if x.reg op.a<op.b then x.setP i { q with pc:=op.c }else x).ev.arg)),.sl 3 gc 0 (if x.reg op.a<op.b then x.setP i { q with pc:=op.c }else x).out.length false,(ii ((if x.reg op.a<op.b then x.setP i { q with pc:=op.c }else x).n)),.sl 4 gg 0 (if x.reg op.a<op.b then x.setP i { q with pc:=op.c }else x).gone.length false,(bb ((if x.reg op.a<op.b then x.setP i { q with pc:=op.c }else x).over))]] 0,.mp .i64 qhn]):=by
 have hp:=(zei.1 hq).1
 have h1:=qz3 a0 a1 a2 am x gp gc gg i hi hp
 have hset:(x.procs.map Pr.r).set i [(ii q.prog),(ii op.c),(bb q.alive),(.fsl ((q.timer).map qgg) false)]=(x.procs.set i { q with pc:=op.c }).map Pr.r:=by rw[wC];rfl
 have hl:(x.procs.set i { q with pc:=op.c }).length=x.procs.length:=by simp
 rw[qg qtv qtn]
 unfold Ex.reg
 rcases ha with ha|ha
 ·by_cases hlt:x.r0<op.b
  ·simp only[qd3,ha,hlt,Ex.setP,h1,hl,zgq,zgt,hq,Pr.r,qcs,qc4,qa1,qfz,wb,wf,wj,wr,qb,wg,wp,wh,ql,wi,ne_eq,zgy,↓qc,↓we,wd,wa,wo,wb,wf,wH,wF,wc,hset]
  ·simp only[qd3,ha,hlt,qcs,qc4,qa1,qfz,wb,wj,qb,wg,wh,ql,wi,ne_eq,zgy,↓qc,↓we,wd,wa,wo,wb,wH,wF,wc]
 ·have h01:¬(1:Int)=0:=by decide
  by_cases hlt:x.r1<op.b
  ·simp only[qd3,ha,h01,hlt,Ex.setP,h1,hl,zgq,zgt,hq,Pr.r,qcs,qc4,qa1,qfz,wb,wf,wj,wr,qb,wg,wp,wh,ql,wi,ne_eq,zgy,↓qc,↓we,wd,wa,wo,wb,wf,wH,wF,wc,hset]
  ·simp only[qd3,ha,h01,hlt,qcs,qc4,qa1,qfz,wb,wj,qb,wg,wh,ql,wi,ne_eq,zgy,↓qc,↓we,wd,wa,wo,wb,wH,wF,wc]
theorem qana (h:x.Small):(evL T).call qbx [.ptr 5 0 0 0,(.agg [(ii op.code),(ii op.a),(ii op.b),(ii op.c)])] [.row 4 [[(ii a0),(ii a1),.sl 2 0 0 am false,(ii a2)]] 0,.row 4 [[(ii 0),(ii 0),.fsl [] false,(ii 0)]] 0,.row 4 ((x.procs).map Pr.r) gp,.row 6 ((x.out).map Evt.r) gc,.row 1 ((x.gone).map qnv) gg,.row 14 [[(ii x.r0),(ii x.r1),.sl 2 gp 0 x.procs.length false,(ii x.sum),(ii x.ev.time),(.fsl ((x.ev.key).map qgg) false),(ii x.ev.lp),(ii x.ev.kind),(ii x.ev.proc),(ii x.ev.arg),.sl 3 gc 0 x.out.length false,(ii x.n),.sl 4 gg 0 x.gone.length false,(bb x.over)]] 0,.mp .i64 qhn]=some ((ii 0),[.row 4 [[(ii a0),(ii a1),.sl 2 0 0 am false,(ii a2)]] 0,.row 4 [[(ii 0),(ii 0),.fsl [] false,(ii 0)]] 0,.row 4 (((x.stopE i q).procs).map Pr.r) gp,.row 6 (((x.stopE i q).out).map Evt.r) gc,.row 1 (((x.stopE i q).gone).map qnv) (if 0<q.timer.length then gg+1 else gg),.row 14 [[(ii ((x.stopE i q).r0)),(ii ((x.stopE i q).r1)),.sl 2 gp 0 (x.stopE i q).procs.length false,(ii ((x.stopE i q).sum)),(ii ((x.stopE i q).ev.time)),(.fsl (((x.stopE i q).ev.key).map qgg) false),(ii ((x.stopE i q).ev.lp)),(ii ((x.stopE i q).ev.kind)),(ii ((x.stopE i q).ev.proc)),(ii ((x.stopE i q).ev.arg)),.sl 3 gc 0 (x.stopE i q).out.length false,(ii ((x.stopE i q).n)),.sl 4 (if 0<q.timer.length then gg+1 else gg) 0 (x.stopE i q).gone.length false,(bb ((x.stopE i q).over))]] 0,.mp .i64 qhn]):=by
 have hp:=(zei.1 hq).1
 have h1:=qz3 a0 a1 a2 am x gp gc gg i hi hp
 have hset:(x.procs.map Pr.r).set i [(ii q.prog),(ii q.pc),(bb q.alive),.fsl [] false]=(x.procs.set i { q with timer:=[] }).map Pr.r:=by rw[wC];rfl
 have hl:(x.procs.set i { q with timer:=[] }).length=x.procs.length:=by simp
 have hs:(x.gone.length+1)*24≤140737488355328:=by have:=h.gone;omega
 have htl:List.take x.gone.length (x.gone.map qnv)=x.gone.map qnv:=ztl (by simp)
 have hr : ∀e:List Int,(x.gone++[e]).map qnv=x.gone.map qnv++[qnv e]:=fun e=>by rw[wz];rfl
 rw[qg qt8 qtg]
 unfold Ex.stopE
 by_cases ht:0<q.timer.length
 ·have ht':(q.timer.length:Int)>0:=by omega
  simp only[qgb,ht,ht',h1,hl,hs,htl,hr,q66,qnv,zgq,zgt,hq,Pr.r,qcs,qc4,qa1,qfz,wb,wf,wj,wr,q6o,qb,qdr,wg,wp,wh,ql,wi,ne_eq,zgy,↓qc,↓we,wd,wa,wo,wb,wf,wq,wc,hset]
 ·have ht':¬(q.timer.length:Int)>0:=by omega
  simp only[qgb,ht,ht',h1,zgq,zgt,hq,Pr.r,qcs,qc4,qa1,qfz,wb,wj,qb,wg,wh,ql,wi,ne_eq,zgy,↓qc,↓we,wd,wb,wc]
def Ex.spawnE (x:Ex) (op:OpI):Ex:=if x.procs.length<8 then ({ x with procs:=x.procs++[⟨op.a,0,true,[]⟩] }:Ex).create op.b (x.ownE 1 x.procs.length 0)else x
omit hi hq in
theorem spawn_ev (h:x.Small) : ∃gp' gc',(evL T).call qb5 [.ptr 5 0 0 0,(.agg [(ii op.code),(ii op.a),(ii op.b),(ii op.c)])] [.row 4 [[(ii a0),(ii a1),.sl 2 0 0 am false,(ii a2)]] 0,.row 4 [[(ii 0),(ii 0),.fsl [] false,(ii 0)]] 0,.row 4 ((x.procs).map Pr.r) gp,.row 6 ((x.out).map Evt.r) gc,.row 1 ((x.gone).map qnv) gg,.row 14 [[(ii x.r0),(ii x.r1),.sl 2 gp 0 x.procs.length false,(ii x.sum),(ii x.ev.time),(.fsl ((x.ev.key).map qgg) false),(ii x.ev.lp),(ii x.ev.kind),(ii x.ev.proc),(ii x.ev.arg),.sl 3 gc 0 x.out.length false,(ii x.n),.sl 4 gg 0 x.gone.length false,(bb x.over)]] 0,.mp .i64 qhn]=some ((ii 0),[.row 4 [[(ii a0),(ii a1),.sl 2 0 0 am false,(ii a2)]] 0,.row 4 [[(ii 0),(ii 0),.fsl [] false,(ii 0)]] 0,.row 4 (((x.spawnE op).procs).map Pr.r) gp',.row 6 (((x.spawnE op).out).map Evt.r) gc',.row 1 (((x.spawnE op).gone).map qnv) gg,.row 14 [[(ii ((x.spawnE op).r0)),(ii ((x.spawnE op).r1)),.sl 2 gp' 0 (x.spawnE op).procs.length false,(ii ((x.spawnE op).sum)),(ii ((x.spawnE op).ev.time)),(.fsl (((x.spawnE op).ev.key).map qgg) false),(ii ((x.spawnE op).ev.lp)),(ii ((x.spawnE op).ev.kind)),(ii ((x.spawnE op).ev.proc)),(ii ((x.spawnE op).ev.arg)),.sl 3 gc' 0 (x.spawnE op).out.length false,(ii ((x.spawnE op).n)),.sl 4 gg 0 (x.spawnE op).gone.length false,(bb ((x.spawnE op).over))]] 0,.mp .i64 qhn]):=by
 rw[qg qsy qrv]
 unfold Ex.spawnE
 by_cases h8:x.procs.length<8
 ·have h8':(x.procs.length:Int)<8:=by omega
  have hs:(x.procs.length+1)*48≤140737488355328:=by omega
  have htl:List.take x.procs.length (x.procs.map Pr.r)=x.procs.map Pr.r:=ztl (by simp)
  have hr : ∀e:Pr,(x.procs++[e]).map Pr.r=x.procs.map Pr.r++[e.r]:=fun e=>by rw[wz];rfl
  have hl : ∀e:Pr,(x.procs++[e]).length=x.procs.length+1:=fun e=>by simp
  have hsm:({ x with procs:=x.procs++[⟨op.a,0,true,[]⟩] }:Ex).Small:=⟨by simp;omega,h.out,h.gone,h.key⟩
  have h1:=qal8 a0 a1 a2 am { x with procs:=x.procs++[⟨op.a,0,true,[]⟩] } (gp+1) gc gg 1 x.procs.length 0
  have h2:=q2j a0 a1 a2 am { x with procs:=x.procs++[⟨op.a,0,true,[]⟩] } (gp+1) gc gg hsm op.b 0 x.ev.lp 1 x.procs.length 0 []
  refine⟨gp+1,qq6 { x with procs:=x.procs++[⟨op.a,0,true,[]⟩] } op.b gc,?_⟩
  simp only[hr,hl,Pr.r,wk]at h1 h2
  simp only[qfo,h8,h8',h1,h2,hs,htl,Ex.ownE,qcs,qc4,qa1,qfz,wb,wf,wj,wr,q6o,qb,qdr,wg,wp,wh,ql,wi,ne_eq,zgy,↓qc,↓we,wd,wa,wo,wb,wf,wq,wc]
 ·have h8':¬(x.procs.length:Int)<8:=by omega
  refine⟨gp,gc,?_⟩
  simp only[qfo,h8,h8',qcs,qc4,qa1,qfz,wb,wj,qb,wg,wh,ql,wi,ne_eq,zgy,↓qc,↓we,wd,wb,wc]
def Ex.timerE (x:Ex) (i:Nat) (q:Pr) (op:OpI):Ex:=((x.stopE i q).create op.a (x.ownE 2 x.ev.proc op.b)).setP i { q with timer:=(x.stopE i q).kid }
theorem timer_ev (h:x.Small) (hg:x.gone.length<1000) : ∃gc' gg',(evL T).call qb4 [.ptr 5 0 0 0,(.agg [(ii op.code),(ii op.a),(ii op.b),(ii op.c)])] [.row 4 [[(ii a0),(ii a1),.sl 2 0 0 am false,(ii a2)]] 0,.row 4 [[(ii 0),(ii 0),.fsl [] false,(ii 0)]] 0,.row 4 ((x.procs).map Pr.r) gp,.row 6 ((x.out).map Evt.r) gc,.row 1 ((x.gone).map qnv) gg,.row 14 [[(ii x.r0),(ii x.r1),.sl 2 gp 0 x.procs.length false,(ii x.sum),(ii x.ev.time),(.fsl ((x.ev.key).map qgg) false),(ii x.ev.lp),(ii x.ev.kind),(ii x.ev.proc),(ii x.ev.arg),.sl 3 gc 0 x.out.length false,(ii x.n),.sl 4 gg 0 x.gone.length false,(bb x.over)]] 0,.mp .i64 qhn]=some ((ii 0),[.row 4 [[(ii a0),(ii a1),.sl 2 0 0 am false,(ii a2)]] 0,.row 4 [[(ii 0),(ii 0),.fsl [] false,(ii 0)]] 0,.row 4 (((x.timerE i q op).procs).map Pr.r) gp,.row 6 (((x.timerE i q op).out).map Evt.r) gc',.row 1 (((x.timerE i q op).gone).map qnv) gg',.row 14 [[(ii ((x.timerE i q op).r0)),(ii ((x.timerE i q op).r1)),.sl 2 gp 0 (x.timerE i q op).procs.length false,(ii ((x.timerE i q op).sum)),(ii ((x.timerE i q op).ev.time)),(.fsl (((x.timerE i q op).ev.key).map qgg) false),(ii ((x.timerE i q op).ev.lp)),(ii ((x.timerE i q op).ev.kind)),(ii ((x.timerE i q op).ev.proc)),(ii ((x.timerE i q op).ev.arg)),.sl 3 gc' 0 (x.timerE i q op).out.length false,(ii ((x.timerE i q op).n)),.sl 4 gg' 0 (x.timerE i q op).gone.length false,(bb ((x.timerE i q op).over))]] 0,.mp .i64 qhn]):=by
 have h0:=qana a0 a1 a2 am x gp gc gg op i q hi hq h
 have hev:(x.stopE i q).ev=x.ev:=by unfold Ex.stopE;split<;>rfl
 have hpl:(x.stopE i q).procs.length=x.procs.length:=by unfold Ex.stopE;split<;>simp
 have hp:=(zei.1 hq).1
 have hsm:(x.stopE i q).Small:=⟨by rw[hpl];exact h.procs,by unfold Ex.stopE;split<;>exact h.out,by
  unfold Ex.stopE;split
  ·simp only[zgp,zga,zgb];omega
  ·exact h.gone,by rw[hev];exact h.key⟩
 generalize (if 0<q.timer.length then gg+1 else gg)=gg' at h0
 have hset2 : ∀k:List Int,(x.stopE i q).procs.set i { q with timer:=k }=x.procs.set i { q with timer:=k }:=fun k=>by
  unfold Ex.stopE;split<;>simp
 have hq2 : ∃q2,(x.stopE i q).procs[i]? = some q2∧q2.prog=q.prog∧q2.pc=q.pc∧q2.alive=q.alive:=by
  by_cases ht:0<q.timer.length
  ·simp only[Ex.stopE,ht,if_true]
   exact⟨{ q with timer:=[] },by rw[wn hp],rfl,rfl,rfl⟩
  ·simp only[Ex.stopE,ht,if_false]
   exact⟨q,hq,rfl,rfl,rfl⟩
 unfold Ex.timerE
 generalize x.stopE i q=y at h0 hev hpl hsm hset2 hq2
 obtain⟨q2,hq2,e1,e2,e3⟩:=hq2
 have hi2:y.ev.proc=i:=by rw[hev];exact hi
 have h1:=qz3 a0 a1 a2 am y gp gc gg' i hi2 (by omega)
 have h2:=qal8 a0 a1 a2 am y gp gc gg' 2 y.ev.proc op.b
 have h3:=q2j a0 a1 a2 am y gp gc gg' hsm op.a 0 y.ev.lp 2 y.ev.proc op.b []
 refine⟨qq6 y op.a gc,gg',?_⟩
 have hcp:(y.create op.a ⟨0,[],y.ev.lp,2,y.ev.proc,op.b⟩).procs=y.procs:=rfl
 simp only[Ex.ownE,Ex.setP,←hev]at h0⊢
 generalize qq6 y op.a gc=gc' at h3
 generalize y.create op.a ⟨0,[],y.ev.lp,2,y.ev.proc,op.b⟩=z at h3 hcp
 have hset:(y.procs.map Pr.r).set i [(ii q2.prog),(ii q2.pc),(bb q2.alive),(.fsl ((y.kid).map qgg) false)]=(y.procs.set i { q with timer:=y.kid }).map Pr.r:=by rw[wC,e1,e2,e3];rfl
 have hl:(y.procs.set i { q with timer:=y.kid }).length=y.procs.length:=by simp
 rw[qg qsq qro]
 simp only[wk,hcp]at h3
 simp only[qhe,h0,h1,h2,h3,hcp,hl,zgq,zgt,hq2,Pr.r,eq_procs,eq_evts,eq_keys,qact,eq_table,qcs,qc4,qa1,qfz,wb,wj,wr,qyo,Ev.SObj.eqB,qb,wg,wp,wh,ql,wi,ne_eq,zgy,↓qc,↓we,wd,wa,wb,wc,hset]
end
end
set_option maxRecDepth 10000
def qgh (x:Ex) (i:Nat) (q:Pr) (op:OpI):Ex×Int:=
 if op.code=1 then (x.create op.a (x.ownE 1 x.ev.proc 0),1)
 else if op.code=2 then (x.create op.c ⟨0,[],op.a,3,0,op.b⟩,0)
 else if op.code=3 then (x.timerE i q op,0)
 else if op.code=4 then (x.stopE i q,0)
 else if op.code=5 then (x.spawnE op,0)
 else if op.code=6 then (x.setReg op.a (w64 (x.reg op.a+op.b)),0)
 else if op.code=7 then (if x.reg op.a<op.b then x.setP i { q with pc:=op.c }else x,0)
 else (x,2)
structure OpOk' (op:OpI):Prop where
 code:1≤op.code∧op.code≤8
 reg:op.code=6∨op.code=7→op.a=0∨op.a=1
 to:op.code=7→0≤op.c∧op.c≤1000000
section
variable (a0 a1 a2:Int) (am:Nat) (x:Ex) (gp gc gg:Nat) (op:OpI) (i:Nat) (q:Pr)
theorem step_ev (h:x.Small) (hg:x.gone.length<1000) (hi:x.ev.proc=i) (hq:x.procs[i]? = some q) (ho:OpOk' op) :
  ∃k gp' gc' gg',qaln op.code qhn=some (.fn (.func k) [] [])∧(evL T).call k [.ptr 5 0 0 0,(.agg [(ii op.code),(ii op.a),(ii op.b),(ii op.c)])] [.row 4 [[(ii a0),(ii a1),.sl 2 0 0 am false,(ii a2)]] 0,.row 4 [[(ii 0),(ii 0),.fsl [] false,(ii 0)]] 0,.row 4 ((x.procs).map Pr.r) gp,.row 6 ((x.out).map Evt.r) gc,.row 1 ((x.gone).map qnv) gg,.row 14 [[(ii x.r0),(ii x.r1),.sl 2 gp 0 x.procs.length false,(ii x.sum),(ii x.ev.time),(.fsl ((x.ev.key).map qgg) false),(ii x.ev.lp),(ii x.ev.kind),(ii x.ev.proc),(ii x.ev.arg),.sl 3 gc 0 x.out.length false,(ii x.n),.sl 4 gg 0 x.gone.length false,(bb x.over)]] 0,.mp .i64 qhn]=some ((ii ((qgh x i q op).2)),[.row 4 [[(ii a0),(ii a1),.sl 2 0 0 am false,(ii a2)]] 0,.row 4 [[(ii 0),(ii 0),.fsl [] false,(ii 0)]] 0,.row 4 (((qgh x i q op).1.procs).map Pr.r) gp',.row 6 (((qgh x i q op).1.out).map Evt.r) gc',.row 1 (((qgh x i q op).1.gone).map qnv) gg',.row 14 [[(ii ((qgh x i q op).1.r0)),(ii ((qgh x i q op).1.r1)),.sl 2 gp' 0 (qgh x i q op).1.procs.length false,(ii ((qgh x i q op).1.sum)),(ii ((qgh x i q op).1.ev.time)),(.fsl (((qgh x i q op).1.ev.key).map qgg) false),(ii ((qgh x i q op).1.ev.lp)),(ii ((qgh x i q op).1.ev.kind)),(ii ((qgh x i q op).1.ev.proc)),(ii ((qgh x i q op).1.ev.arg)),.sl 3 gc' 0 (qgh x i q op).1.out.length false,(ii ((qgh x i q op).1.n)),.sl 4 gg' 0 (qgh x i q op).1.gone.length false,(bb ((qgh x i q op).1.over))]] 0,.mp .i64 qhn]):=by
 have hc:op.code=1∨op.code=2∨op.code=3∨op.code=4∨op.code=5∨op.code=6∨op.code=7∨op.code=8:=by have:=ho.code;omega
 have ne : ∀m n:Int,decide (m=n)=false→¬m=n:=fun m n h=>of_decide_eq_false h
 rcases hc with hc|hc|hc|hc|hc|hc|hc|hc
 ·refine⟨qcd,gp,qq6 x op.a gc,gg,by rw[hc];rfl,?_⟩
  have e:qgh x i q op=(x.create op.a (x.ownE 1 x.ev.proc 0),1):=by simp[qgh,hc]
  rw[e];exact hold_ev a0 a1 a2 am x gp gc gg op h
 ·refine⟨qcb,gp,qq6 x op.c gc,gg,by rw[hc];rfl,?_⟩
  have e:qgh x i q op=(x.create op.c ⟨0,[],op.a,3,0,op.b⟩,0):=by simp[qgh,hc]
  rw[e];exact send_ev a0 a1 a2 am x gp gc gg op h
 ·obtain⟨gc',gg',hz⟩:=timer_ev a0 a1 a2 am x gp gc gg op i q hi hq h hg
  refine⟨qb4,gp,gc',gg',by rw[hc];rfl,?_⟩
  have e:qgh x i q op=(x.timerE i q op,0):=by simp[qgh,hc]
  rw[e];exact hz
 ·refine⟨qbx,gp,gc,(if 0<q.timer.length then gg+1 else gg),by rw[hc];rfl,?_⟩
  have e:qgh x i q op=(x.stopE i q,0):=by simp[qgh,hc]
  rw[e];exact qana a0 a1 a2 am x gp gc gg op i q hi hq h
 ·obtain⟨gp',gc',hz⟩:=spawn_ev a0 a1 a2 am x gp gc gg op h
  refine⟨qb5,gp',gc',gg,by rw[hc];rfl,?_⟩
  have e:qgh x i q op=(x.spawnE op,0):=by simp[qgh,hc]
  rw[e];exact hz
 ·refine⟨qcm,gp,gc,gg,by rw[hc];rfl,?_⟩
  have e:qgh x i q op=(x.setReg op.a (w64 (x.reg op.a+op.b)),0):=by simp[qgh,hc]
  rw[e];exact add_ev a0 a1 a2 am x gp gc gg op (ho.reg (.inl hc))
 ·refine⟨qcf,gp,gc,gg,by rw[hc];rfl,?_⟩
  have e:qgh x i q op=(if x.reg op.a<op.b then x.setP i { q with pc:=op.c }else x,0):=by simp[qgh,hc]
  rw[e];exact less_ev a0 a1 a2 am x gp gc gg op i q hi hq (ho.reg (.inr hc))
 ·refine⟨qcq,gp,gc,gg,by rw[hc];rfl,?_⟩
  have e:qgh x i q op=(x,2):=by simp[qgh,hc]
  rw[e];exact end_ev a0 a1 a2 am x gp gc gg op
end
def qwa (x:Ex) (i:Nat):Ex:=match x.procs[i]? with
 |some q=>x.setP i { q with alive:=false }
 |none=>x
def qxe (p:List OpI) (i:Nat):Nat→Ex→Ex
 | 0,x=>qwa x i
 |n+1,x=>match x.procs[i]? with
  |none=>x
  |some q=>match p[q.pc.toNat]? with
   |none=>qwa x i
   |some op=>
    if (qgh (x.setP i { q with pc:=w64 (q.pc+1) }) i { q with pc:=w64 (q.pc+1) } op).2=1 then (qgh (x.setP i { q with pc:=w64 (q.pc+1) }) i { q with pc:=w64 (q.pc+1) } op).1
    else if (qgh (x.setP i { q with pc:=w64 (q.pc+1) }) i { q with pc:=w64 (q.pc+1) } op).2=2 then qwa (qgh (x.setP i { q with pc:=w64 (q.pc+1) }) i { q with pc:=w64 (q.pc+1) } op).1 i
    else qxe p i n (qgh (x.setP i { q with pc:=w64 (q.pc+1) }) i { q with pc:=w64 (q.pc+1) } op).1
structure ActInv (e:Evt) (i n:Nat) (x:Ex):Prop where
 ev:x.ev=e
 has : ∃q,x.procs[i]? = some q∧0≤q.pc∧q.pc≤1000000
 procs:x.procs.length≤20
 out:x.out.length≤n
 gone:x.gone.length≤n
theorem ActInv.small {e:Evt} {i n:Nat} {x:Ex} (h:ActInv e i n x) (hn:n≤100) (hk:e.key.length≤100000):x.Small:=⟨by have:=h.procs;omega,by have:=h.out;omega,by have:=h.gone;omega,by rw[h.ev];exact hk⟩
theorem qai1 (x:Ex) (d:Int) (e:Evt):(x.create d e).out.length≤x.out.length+1:=by
 unfold Ex.create;simp only;split
 ·omega
 ·simp
theorem ActInv.step {e:Evt} {i n:Nat} {x:Ex} (h:ActInv e i n x) {q:Pr} (hq:x.procs[i]? = some q) (hpc:0≤q.pc∧q.pc≤1000000) {op:OpI} (ho:OpOk' op):ActInv e i (n+1) (qgh x i q op).1:=by
 have hlt:=(zei.1 hq).1
 have hp:=h.procs
 have h1:=h.out
 have h2:=h.gone
 have stop:ActInv e i (n+1) (x.stopE i q)∧(x.stopE i q).out=x.out:=by
  unfold Ex.stopE;split
  ·exact⟨⟨h.ev,⟨{ q with timer:=[] },by simp only;rw[wn hlt],hpc⟩,by simpa using hp,by simp only;omega,by simp;omega⟩,rfl⟩
  ·exact⟨⟨h.ev,⟨q,hq,hpc⟩,hp,by omega,by omega⟩,rfl⟩
 have crt : ∀(y:Ex) (d:Int) (ev:Evt),y.ev=e→(∃q,y.procs[i]? = some q∧0≤q.pc∧q.pc≤1000000)→y.procs.length≤20→y.out.length≤n→y.gone.length≤n+1→ActInv e i (n+1) (y.create d ev):=fun y d ev k1 k2 k3 k4 k5=>
  ⟨k1,k2,k3,by have:=qai1 y d ev;omega,k5⟩
 unfold qgh
 split
 ·exact crt x _ _ h.ev ⟨q,hq,hpc⟩ hp h1 (by omega)
 split
 ·exact crt x _ _ h.ev ⟨q,hq,hpc⟩ hp h1 (by omega)
 split
 ·obtain⟨s1,s2⟩:=stop
  have hc:=crt (x.stopE i q) op.a (x.ownE 2 x.ev.proc op.b) s1.ev s1.has s1.procs (by rw[s2];exact h1) s1.gone
  have hl:i<((x.stopE i q).create op.a (x.ownE 2 x.ev.proc op.b)).procs.length:=by
   obtain⟨q',hq',_⟩:=hc.has
   exact(zei.1 hq').1
  exact⟨hc.ev,⟨{ q with timer:=(x.stopE i q).kid },by simp only[Ex.timerE,Ex.setP];rw[wn hl],hpc⟩,by simp only[Ex.timerE,Ex.setP,wI];exact hc.procs,hc.out,hc.gone⟩
 split
 ·exact stop.1
 split
 ·unfold Ex.spawnE
  split
  ·refine crt _ _ _ h.ev ⟨q,by simp only;rw[List.getElem?_append_left hlt];exact hq,hpc⟩ (by simp;omega) h1 (by simp only;omega)
  ·exact⟨h.ev,⟨q,hq,hpc⟩,hp,by first|omega|(simp only;omega),by first|omega|(simp only;omega)⟩
 split
 ·unfold Ex.setReg
  split<;>exact⟨h.ev,⟨q,hq,hpc⟩,hp,by first|omega|(simp only;omega),by first|omega|(simp only;omega)⟩
 split
 ·rename_i h7
  simp only
  split
  ·exact⟨h.ev,⟨{ q with pc:=op.c },by simp only[Ex.setP];rw[wn hlt],ho.to h7⟩,by simp only[Ex.setP,wI];exact hp,by simp only[Ex.setP];omega,by simp only[Ex.setP];omega⟩
  ·exact⟨h.ev,⟨q,hq,hpc⟩,hp,by first|omega|(simp only;omega),by first|omega|(simp only;omega)⟩
 ·exact⟨h.ev,⟨q,hq,hpc⟩,hp,by first|omega|(simp only;omega),by first|omega|(simp only;omega)⟩
set_option maxRecDepth 10000
theorem ActInv.pc {e:Evt} {i n:Nat} {x:Ex} (h:ActInv e i n x) {q:Pr} (hq:x.procs[i]? = some q) {pc:Int} (hp:0≤pc∧pc≤1000000) (al:Bool):ActInv e i n (x.setP i { q with pc:=pc,alive:=al }):=by
 have hlt:=(zei.1 hq).1
 exact⟨h.ev,⟨{ q with pc:=pc,alive:=al },by simp only[Ex.setP];rw[wn hlt],hp⟩,by simp only[Ex.setP,wI];exact h.procs,h.out,h.gone⟩
section
variable (a0 a1 a2:Int) (am:Nat) (e0:Evt) (i:Nat) (p:List OpI) (cl:Bool)
def ActEnd (a0 a1 a2:Int) (am:Nat) (e0:Evt) (i:Nat) (F:Ex) (y:CExit×Env×qf):Prop:=
 ∃z gp gc gg,y.2.2=[.row 4 [[(ii a0),(ii a1),.sl 2 0 0 am false,(ii a2)]] 0,.row 4 [[(ii 0),(ii 0),.fsl [] false,(ii 0)]] 0,.row 4 ((z.procs).map Pr.r) gp,.row 6 ((z.out).map Evt.r) gc,.row 1 ((z.gone).map qnv) gg,.row 14 [[(ii z.r0),(ii z.r1),.sl 2 gp 0 z.procs.length false,(ii z.sum),(ii z.ev.time),(.fsl ((z.ev.key).map qgg) false),(ii z.ev.lp),(ii z.ev.kind),(ii z.ev.proc),(ii z.ev.arg),.sl 3 gc 0 z.out.length false,(ii z.n),.sl 4 gg 0 z.gone.length false,(bb z.over)]] 0,.mp .i64 qhn]∧y.2.1.marks=[]∧((y.1 = .ret∧z=F∧ActInv e0 i 16 z)∨(y.1 = .exit 0∧ws y.2.1.vars 0=some (.ptr 5 0 0 0)∧qwa z i=F∧ActInv e0 i 16 z))
theorem act_loop (hk:e0.key.length≤100000) (hpr:e0.proc=i) (hpl:p.length≤1000) (hok : ∀op∈p,OpOk' op) (x:Ex) (gp gc gg:Nat) (h0:ActInv e0 i 0 x) :
  ∃y,itB (exec (evL T) itL none qbi) (qao [0,1,4,7] true 7) ⟨[(0,.ptr 5 0 0 0),(1,(.fsl ((p).map OpI.r) cl)),(4,.mp 6),(7,(ii 0))],[]⟩ [.row 4 [[(ii a0),(ii a1),.sl 2 0 0 am false,(ii a2)]] 0,.row 4 [[(ii 0),(ii 0),.fsl [] false,(ii 0)]] 0,.row 4 ((x.procs).map Pr.r) gp,.row 6 ((x.out).map Evt.r) gc,.row 1 ((x.gone).map qnv) gg,.row 14 [[(ii x.r0),(ii x.r1),.sl 2 gp 0 x.procs.length false,(ii x.sum),(ii x.ev.time),(.fsl ((x.ev.key).map qgg) false),(ii x.ev.lp),(ii x.ev.kind),(ii x.ev.proc),(ii x.ev.arg),.sl 3 gc 0 x.out.length false,(ii x.n),.sl 4 gg 0 x.gone.length false,(bb x.over)]] 0,.mp .i64 qhn]=some y∧ActEnd a0 a1 a2 am e0 i (qxe p i 16 x) y:=by
 have:=qh5 (f:=exec (evL T) itL none qbi) (s:=qao [0,1,4,7] true 7) (α:=Ex×Nat×Nat×Nat) (fun j _=>⟨[(0,.ptr 5 0 0 0),(1,(.fsl ((p).map OpI.r) cl)),(4,.mp 6),(7,(ii ((j:Int))))],[]⟩) (fun _ a=>[.row 4 [[(ii a0),(ii a1),.sl 2 0 0 am false,(ii a2)]] 0,.row 4 [[(ii 0),(ii 0),.fsl [] false,(ii 0)]] 0,.row 4 ((a.1.procs).map Pr.r) a.2.1,.row 6 ((a.1.out).map Evt.r) a.2.2.1,.row 1 ((a.1.gone).map qnv) a.2.2.2,.row 14 [[(ii a.1.r0),(ii a.1.r1),.sl 2 a.2.1 0 a.1.procs.length false,(ii a.1.sum),(ii a.1.ev.time),(.fsl ((a.1.ev.key).map qgg) false),(ii a.1.ev.lp),(ii a.1.ev.kind),(ii a.1.ev.proc),(ii a.1.ev.arg),.sl 3 a.2.2.1 0 a.1.out.length false,(ii a.1.n),.sl 4 a.2.2.2 0 a.1.gone.length false,(bb a.1.over)]] 0,.mp .i64 qhn])
  (fun j a=>ActInv e0 i j a.1∧qxe p i (16-j) a.1=qxe p i 16 x) 16 (ActEnd a0 a1 a2 am e0 i (qxe p i 16 x)) ?_ ?_ 0 (x,gp,gc,gg) (wJ _) ⟨h0,rfl⟩
 ·exact this
 ·rintro j ⟨y,gp,gc,gg⟩ hj ⟨hi1,hi2⟩
  simp only at hi1 hi2⊢
  obtain⟨q,hq,hpc⟩:=hi1.has
  have hlt:=(zei.1 hq).1
  have hpr':y.ev.proc=i:=by rw[hi1.ev];exact hpr
  have hj':(j:Int)<16:=by omega
  have hw:IntKind.i64.wrap ((j:Int)+1)=((j+1:Nat):Int):=by rw[qk (by omega) (by omega)];simp
  have s1:=qz3 a0 a1 a2 am y gp gc gg i hpr' hlt
  rw[show 16-j=(16-(j+1))+1 from by omega,qxe,hq]at hi2
  simp only at hi2
  cases hop:p[q.pc.toNat]? with
  |none=>
   rw[hop]at hi2
   simp only at hi2
   have hge:q.pc≥(p.length:Int):=by have:=List.getElem?_eq_none_iff.1 hop;omega
   right
   simp only[qbi,hj',hge,s1,zgq,zgt,hq,Pr.r,wj,qb,zgy,↓qc,↓we,wa,wc]
   exact⟨_,rfl,y,gp,gc,gg,rfl,rfl,.inr ⟨rfl,rfl,hi2,⟨hi1.ev,hi1.has,hi1.procs,by have:=hi1.out;omega,by have:=hi1.gone;omega⟩⟩⟩
  |some op=>
   rw[hop]at hi2
   simp only at hi2
   have hlp:=(zei.1 hop).1
   have hge:¬q.pc≥(p.length:Int):=by omega
   have hwq:w64 (q.pc+1)=q.pc+1:=qk (by omega) (by omega)
   have hwq':IntKind.i64.wrap (q.pc+1)=q.pc+1:=hwq
   have hset:(y.procs.map Pr.r).set i [(ii q.prog),(ii (q.pc+1)),(bb q.alive),(.fsl ((q.timer).map qgg) false)]=(y.procs.set i { q with pc:=q.pc+1 }).map Pr.r:=by rw[wC];rfl
   have hl:(y.procs.set i { q with pc:=q.pc+1 }).length=y.procs.length:=by simp
   rw[hwq]at hi2
   have hz:ActInv e0 i j (y.setP i { q with pc:=q.pc+1 }):=hi1.pc hq (by omega) q.alive
   have hzq:(y.setP i { q with pc:=q.pc+1 }).procs[i]? = some { q with pc:=q.pc+1 }:=by simp only[Ex.setP];rw[wn hlt]
   have hzp:(y.setP i { q with pc:=q.pc+1 }).ev.proc=i:=hpr'
   have hoo:=hok op (zmg hop)
   have hn:=hz.step hzq (show 0≤q.pc+1∧q.pc+1≤1000000 by omega) hoo
   obtain⟨k,gp',gc',gg',t1,t2⟩:=step_ev a0 a1 a2 am (y.setP i { q with pc:=q.pc+1 }) gp gc gg op i { q with pc:=q.pc+1 } (hz.small (by omega) hk) (by have:=hz.gone;omega) hzp hzq hoo
   generalize hS:qgh (y.setP i { q with pc:=q.pc+1 }) i { q with pc:=q.pc+1 } op=S at hi2 hn t2
   obtain⟨z,sig⟩:=S
   simp only at hi2 hn t2
   have hsig:sig=0∨sig=1∨sig=2:=by
    have:(qgh (y.setP i { q with pc:=q.pc+1 }) i { q with pc:=q.pc+1 } op).2=sig:=by rw[hS]
    rw[←this]
    unfold qgh
    repeat' (first|(split)|exact .inl rfl|exact .inr (.inl rfl)|exact .inr (.inr rfl))
   simp only[Ex.setP,hl]at t2
   obtain⟨qz,hqz,hqzp⟩:=hn.has
   have hltz:=(zei.1 hqz).1
   have s2:=qz3 a0 a1 a2 am z gp' gc' gg' i (by rw[hn.ev];exact hpr) hltz
   rcases hsig with rfl|rfl|rfl
   ·left
    refine⟨(z,gp',gc',gg'),?_,hn,?_⟩
    ·simp only[qbi,hj',hge,s1,hpc,hop,hwq',t1,t2,hw,zgq,zgt,hq,Pr.r,OpI.r,qh6,qcs,qc4,qa1,qfz,wb,wf,wj,wr,qb,wg,wp,wh,wi,zgy,↓qc,↓we,wd,wa,wb,wf,wx,wc,hset]
    ·simp only[show ¬(0:Int)=1 from by decide,show ¬(0:Int)=2 from by decide,if_false]at hi2
     exact hi2
   ·right
    simp only[if_true]at hi2
    simp only[qbi,hj',hge,s1,hpc,hop,hwq',t1,t2,zgq,zgt,hq,Pr.r,OpI.r,wf,wj,wr,qb,wg,wp,wh,zgy,↓qc,↓we,wd,wa,wf,wc,hset]
    exact⟨_,rfl,z,gp',gc',gg',rfl,rfl,.inl ⟨rfl,hi2,⟨hn.ev,hn.has,hn.procs,by have:=hn.out;omega,by have:=hn.gone;omega⟩⟩⟩
   ·right
    simp only[show ¬(2:Int)=1 from by decide,if_true,if_false]at hi2
    have hkz:qwa z i=z.setP i { qz with alive:=false }:=by unfold qwa;rw[hqz]
    rw[hkz]at hi2
    have hset2:(z.procs.map Pr.r).set i [(ii qz.prog),(ii qz.pc),(bb false),(.fsl ((qz.timer).map qgg) false)]=(z.procs.set i { qz with alive:=false }).map Pr.r:=by rw[wC];rfl
    have hl2:(z.procs.set i { qz with alive:=false }).length=z.procs.length:=by simp
    have hfin:=hn.pc hqz hqzp false
    simp only[qbi,hj',hge,s1,hpc,hop,hwq',t1,t2,s2,zgq,zgt,hq,hqz,Pr.r,OpI.r,wf,wj,wr,qb,wg,wp,wh,zgy,↓qc,↓we,wd,wa,wf,wx,wc,hset,hset2]
    refine⟨_,rfl,z.setP i { qz with alive:=false },gp',gc',gg',?_,rfl,.inl ⟨rfl,hi2,⟨hfin.ev,hfin.has,hfin.procs,by have:=hfin.out;omega,by have:=hfin.gone;omega⟩⟩⟩
    simp only[Ex.setP,hl2]
 ·rintro⟨y,gp,gc,gg⟩ ⟨hi1,hi2⟩
  simp only[qbi,wv,wj,zgy,↓qc,↓we,wa,wc]
  exact⟨_,rfl,y,gp,gc,gg,rfl,rfl,.inr ⟨rfl,rfl,hi2,hi1⟩⟩
end
set_option maxRecDepth 10000
theorem qyx:(evL T).call qen [] []=some (.mp 0,[.mp .i64 qhn]):=by
 rw[qg qvw quq]
 simp only[qix,qhn,wj,ql,zgy,↓qc,↓we,wb,wx]
section
variable (a0 a1 a2:Int) (am:Nat) (e0:Evt) (i:Nat) (p:List OpI) (cl:Bool)
theorem qahg (hk:e0.key.length≤100000) (hpr:e0.proc=i) (hpl:p.length≤1000) (hok : ∀op∈p,OpOk' op) (x:Ex) (gp gc gg:Nat) (h0:ActInv e0 i 0 x) :
  ∃gp' gc' gg',(evL T).call qcr [.ptr 5 0 0 0,(.fsl ((p).map OpI.r) cl)] [.row 4 [[(ii a0),(ii a1),.sl 2 0 0 am false,(ii a2)]] 0,.row 4 [[(ii 0),(ii 0),.fsl [] false,(ii 0)]] 0,.row 4 ((x.procs).map Pr.r) gp,.row 6 ((x.out).map Evt.r) gc,.row 1 ((x.gone).map qnv) gg,.row 14 [[(ii x.r0),(ii x.r1),.sl 2 gp 0 x.procs.length false,(ii x.sum),(ii x.ev.time),(.fsl ((x.ev.key).map qgg) false),(ii x.ev.lp),(ii x.ev.kind),(ii x.ev.proc),(ii x.ev.arg),.sl 3 gc 0 x.out.length false,(ii x.n),.sl 4 gg 0 x.gone.length false,(bb x.over)]] 0]=some (.tup [],[.row 4 [[(ii a0),(ii a1),.sl 2 0 0 am false,(ii a2)]] 0,.row 4 [[(ii 0),(ii 0),.fsl [] false,(ii 0)]] 0,.row 4 (((qxe p i 16 x).procs).map Pr.r) gp',.row 6 (((qxe p i 16 x).out).map Evt.r) gc',.row 1 (((qxe p i 16 x).gone).map qnv) gg',.row 14 [[(ii ((qxe p i 16 x).r0)),(ii ((qxe p i 16 x).r1)),.sl 2 gp' 0 (qxe p i 16 x).procs.length false,(ii ((qxe p i 16 x).sum)),(ii ((qxe p i 16 x).ev.time)),(.fsl (((qxe p i 16 x).ev.key).map qgg) false),(ii ((qxe p i 16 x).ev.lp)),(ii ((qxe p i 16 x).ev.kind)),(ii ((qxe p i 16 x).ev.proc)),(ii ((qxe p i 16 x).ev.arg)),.sl 3 gc' 0 (qxe p i 16 x).out.length false,(ii ((qxe p i 16 x).n)),.sl 4 gg' 0 (qxe p i 16 x).gone.length false,(bb ((qxe p i 16 x).over))]] 0])∧ActInv e0 i 16 (qxe p i 16 x):=by
 obtain⟨⟨y,e,σ⟩,k1,z,gp',gc',gg',k2,k3,k4⟩:=act_loop a0 a1 a2 am e0 i p cl hk hpr hpl hok x gp gc gg h0
 simp only at k2 k3 k4
 subst k2
 generalize qxe p i 16 x=F at k4
 rw[qg qq0 qp5]
 rcases k4 with ⟨rfl,rfl,k5⟩|⟨rfl,k5,k6,k7⟩
 ·refine⟨gp',gc',gg',?_,k5⟩
  simp only[qeo,qyx,k1,k3,qh6,qcs,qc4,qa1,qfz,wb,wj,q2m,ql,wi,zgy,↓qc,↓qx,↓we,wd,wa,wb,wc]
 ·obtain⟨q,hq,hpc⟩:=k7.has
  have hlt:=(zei.1 hq).1
  have s2:=qz3 a0 a1 a2 am z gp' gc' gg' i (by rw[k7.ev];exact hpr) hlt
  have hkz:qwa z i=z.setP i { q with alive:=false }:=by unfold qwa;rw[hq]
  rw[hkz]at k6
  have hset:(z.procs.map Pr.r).set i [(ii q.prog),(ii q.pc),(bb false),(.fsl ((q.timer).map qgg) false)]=(z.procs.set i { q with alive:=false }).map Pr.r:=by rw[wC];rfl
  have hl:(z.procs.set i { q with alive:=false }).length=z.procs.length:=by simp
  have hfin:=k7.pc hq hpc false
  subst k6
  refine⟨gp',gc',gg',?_,hfin⟩
  simp only[Ex.setP,hl]
  simp only[qeo,qyx,k1,k3,k5,s2,zgq,zgt,hq,Pr.r,qh6,qcs,qc4,qa1,qfz,wb,wf,wj,wr,q2m,wg,wp,wh,ql,wi,zgy,↓qc,↓qx,↓we,wd,wa,wb,wf,wc,hset]
end
set_option maxRecDepth 10000
theorem qaat (l:List Pr) (c:Bool) (h:l.length≤1000):(evL T).call qdj [(.fsl ((l).map Pr.r) c)] []=some (.sl 0 0 0 l.length false,[.row 4 (l.map Pr.r) 0]):=by
 have h':l.length*48≤140737488355328:=by omega
 rw[q4g qok]
 simp only[qqp,qc4,procs_ok,h',wj,zgy,↓we,wb,wq]
theorem qaim (a0 a1 a2:Int) (am:Nat) (x:Ex) (gp gc gg:Nat) (i:Nat) (hi:x.ev.proc=i) (hp:i<x.procs.length) :
  (evL T).call qaa [.ptr 5 0 0 0] [.row 4 [[(ii a0),(ii a1),.sl 2 0 0 am false,(ii a2)]] 0,.row 4 [[(ii 0),(ii 0),.fsl [] false,(ii 0)]] 0,.row 4 ((x.procs).map Pr.r) gp,.row 6 ((x.out).map Evt.r) gc,.row 1 ((x.gone).map qnv) gg,.row 14 [[(ii x.r0),(ii x.r1),.sl 2 gp 0 x.procs.length false,(ii x.sum),(ii x.ev.time),(.fsl ((x.ev.key).map qgg) false),(ii x.ev.lp),(ii x.ev.kind),(ii x.ev.proc),(ii x.ev.arg),.sl 3 gc 0 x.out.length false,(ii x.n),.sl 4 gg 0 x.gone.length false,(bb x.over)]] 0]=some (.ptr 2 gp i 0,[.row 4 [[(ii a0),(ii a1),.sl 2 0 0 am false,(ii a2)]] 0,.row 4 [[(ii 0),(ii 0),.fsl [] false,(ii 0)]] 0,.row 4 ((x.procs).map Pr.r) gp,.row 6 ((x.out).map Evt.r) gc,.row 1 ((x.gone).map qnv) gg,.row 14 [[(ii x.r0),(ii x.r1),.sl 2 gp 0 x.procs.length false,(ii x.sum),(ii x.ev.time),(.fsl ((x.ev.key).map qgg) false),(ii x.ev.lp),(ii x.ev.kind),(ii x.ev.proc),(ii x.ev.arg),.sl 3 gc 0 x.out.length false,(ii x.n),.sl 4 gg 0 x.gone.length false,(bb x.over)]] 0]):=by
 rw[qg qm6 qmb]
 simp only[qf3,hi,hp,zgs,zgr,qcs,qc4,qa1,qfz,wb,wj,qb,ql,wi,zgy,↓qc,↓we,wd,wa,wb,wc]
def qmh (x:Lp) (e:Evt):Ex:=⟨x.r0,x.r1,x.procs,x.sum,e,[],0,[],false⟩
def qo3 (e:Evt) (q:Pr):Pr:=if e.kind=2 then { q with pc:=e.arg,timer:=if q.timer=e.key then []else q.timer }else q
def endE (x:Ex):Lp:=⟨x.r0,x.r1,x.procs,x.sum⟩
def qxg (x:Lp) (e:Evt):Option Pr:=if (e.kind=1∨e.kind=2)∧0≤e.proc then (x.procs[e.proc.toNat]?).bind fun q=>if q.alive=true then some q else none else none
def q3h (c:Cfg) (x:Lp) (e:Evt) (q:Pr):Ex:=qxe ((c.progs[q.prog.toNat]?).getD []) e.proc.toNat 16 ((qmh x e).setP e.proc.toNat (qo3 e q))
structure q5n (c:Cfg) (x:Lp) (e:Evt):Prop where
 procs:x.procs.length≤20
 key:e.key.length≤100000
 proc : ∀q∈x.procs,0≤q.prog∧q.prog<c.progs.length∧0≤q.pc∧q.pc≤1000000∧q.timer.length≤100000
 prog : ∀p∈c.progs,p.length≤1000 ∧ ∀op∈p,OpOk' op
 arg:e.kind=2→0≤e.arg∧e.arg≤1000000
section
variable (c:Cfg) (x:Lp) (e:Evt)
theorem Exec_msg (hk:e.kind=3):qaz (evL T) qeh [(.agg [(.fsl ((c.lps).map lpC) false),(.fsl ((c.progs).map qbu) false),(ii c.look),(ii c.fin),(ii c.cap)]),(.agg [(ii x.r0),(ii x.r1),(.fsl ((x.procs).map Pr.r) false),(ii x.sum)]),(.agg [(ii e.time),(.fsl ((e.key).map qgg) false),(ii e.lp),(ii e.kind),(ii e.proc),(ii e.arg)])]=some (.tup [(.agg [(ii ((⟨x.r0,x.r1,x.procs,w64 (x.sum+e.arg)⟩:Lp).r0)),(ii ((⟨x.r0,x.r1,x.procs,w64 (x.sum+e.arg)⟩:Lp).r1)),(.fsl (((⟨x.r0,x.r1,x.procs,w64 (x.sum+e.arg)⟩:Lp).procs).map Pr.r) false),(ii ((⟨x.r0,x.r1,x.procs,w64 (x.sum+e.arg)⟩:Lp).sum))]),.fsl [] true,.fsl [] true,(bb false)]):=by
 rw[qaz,qg qnt qm3]
 simp only[qbp,hk,qc4,wj,wr,qb,wg,wp,wh,ql,ne_eq,zgy,↓qc,↓we,wd,wa,wc]
theorem qamt (hk:¬e.kind=3) (ha:qxg x e=none):qaz (evL T) qeh [(.agg [(.fsl ((c.lps).map lpC) false),(.fsl ((c.progs).map qbu) false),(ii c.look),(ii c.fin),(ii c.cap)]),(.agg [(ii x.r0),(ii x.r1),(.fsl ((x.procs).map Pr.r) false),(ii x.sum)]),(.agg [(ii e.time),(.fsl ((e.key).map qgg) false),(ii e.lp),(ii e.kind),(ii e.proc),(ii e.arg)])]=some (.tup [(.agg [(ii x.r0),(ii x.r1),(.fsl ((x.procs).map Pr.r) false),(ii x.sum)]),.fsl [] true,.fsl [] true,(bb false)]):=by
 rw[qaz,qg qnt qm3]
 by_cases k1:e.kind=1
 case neg=>
  by_cases k2:e.kind=2
  case neg=>simp only[qbp,hk,k1,k2,qc4,wj,wr,qb,wg,wh,ql,ne_eq,zgy,↓qc,↓we,wd,wa,wc]
  by_cases h1:e.proc<0
  ·simp only[qbp,k2,h1,qc4,wj,wr,qb,wg,wh,ql,ne_eq,zgy,↓qc,↓we,wd,wa,wx,wc]
  by_cases h2:e.proc≥(x.procs.length:Int)
  ·simp only[qbp,k2,h1,h2,qc4,wj,wr,qb,wg,wh,ql,ne_eq,zgy,↓qc,↓we,wd,wa,wx,wc]
  obtain⟨q,hq⟩ : ∃q,x.procs[e.proc.toNat]? = some q:=⟨_,zgE (by omega)⟩
  have h0:0≤e.proc:=by omega
  have hal:q.alive=false:=by
   unfold qxg at ha
   rw[if_pos ⟨.inr k2,h0⟩,hq]at ha
   cases h:q.alive with
   |false=>rfl
   |true=>simp[h]at ha
  simp only[qbp,k2,h0,h1,h2,hq,hal,zgq,zgt,Pr.r,qc4,wj,wr,qb,wg,wh,ql,ne_eq,zgy,↓qc,↓we,wd,wa,wx,wc]
 by_cases h1:e.proc<0
 ·simp only[qbp,k1,h1,qc4,wj,wr,qb,wg,wh,ql,ne_eq,zgy,↓qc,↓we,wd,wa,wx,wc]
 by_cases h2:e.proc≥(x.procs.length:Int)
 ·simp only[qbp,k1,h1,h2,qc4,wj,wr,qb,wg,wh,ql,ne_eq,zgy,↓qc,↓we,wd,wa,wx,wc]
 obtain⟨q,hq⟩ : ∃q,x.procs[e.proc.toNat]? = some q:=⟨_,zgE (by omega)⟩
 have h0:0≤e.proc:=by omega
 have hal:q.alive=false:=by
  unfold qxg at ha
  rw[if_pos ⟨.inl k1,h0⟩,hq]at ha
  cases h:q.alive with
  |false=>rfl
  |true=>simp[h]at ha
 simp only[qbp,k1,h0,h1,h2,hq,hal,zgq,zgt,Pr.r,qc4,wj,wr,qb,wg,wh,ql,ne_eq,zgy,↓qc,↓we,wd,wa,wx,wc]
end
set_option maxRecDepth 10000
section
variable (c:Cfg) (x:Lp) (e:Evt)
theorem qae7 (h:q5n c x e) {i:Nat} {q:Pr} (hi:e.proc=i) (hq:x.procs[i]? = some q):ActInv e i 0 ((qmh x e).setP i (qo3 e q)):=by
 have hlt:=(zei.1 hq).1
 obtain⟨p1,p2,p3,p4,p5⟩:=h.proc q (zmg hq)
 refine⟨rfl,⟨qo3 e q,by simp only[Ex.setP,qmh];rw[wn hlt],?_⟩,by simp only[Ex.setP,qmh,wI];exact h.procs,Nat.le_refl _,Nat.le_refl _⟩
 unfold qo3
 by_cases k:e.kind=2
 ·rw[if_pos k];exact h.arg k
 ·rw[if_neg k];exact⟨p3,p4⟩
theorem qafl (q:Pr):(qo3 e q).prog=q.prog:=by unfold qo3;split<;>rfl
theorem Exec_run (h:q5n c x e) {q:Pr} (ha:qxg x e=some q) :
  qaz (evL T) qeh [(.agg [(.fsl ((c.lps).map lpC) false),(.fsl ((c.progs).map qbu) false),(ii c.look),(ii c.fin),(ii c.cap)]),(.agg [(ii x.r0),(ii x.r1),(.fsl ((x.procs).map Pr.r) false),(ii x.sum)]),(.agg [(ii e.time),(.fsl ((e.key).map qgg) false),(ii e.lp),(ii e.kind),(ii e.proc),(ii e.arg)])]=some (.tup [(.agg [(ii ((endE (q3h c x e q)).r0)),(ii ((endE (q3h c x e q)).r1)),(.fsl (((endE (q3h c x e q)).procs).map Pr.r) false),(ii ((endE (q3h c x e q)).sum))]),(.fsl (((q3h c x e q).out).map Evt.r) false),(.fsl (((q3h c x e q).gone).map qnv) false),(bb ((q3h c x e q).over))]):=by
 unfold qxg at ha
 split at ha
 case isFalse=>cases ha
 rename_i hc
 obtain⟨hkind,h0⟩:=hc
 obtain⟨i,hi⟩ : ∃i:Nat,e.proc=i:=⟨_,(Int.toNat_of_nonneg h0).symm⟩
 have hin:e.proc.toNat=i:=by omega
 rw[hin,zob]at ha
 obtain⟨q',hq,ha⟩:=ha
 split at ha
 case isFalse=>cases ha
 rename_i hal
 cases ha
 have hlt:=(zei.1 hq).1
 obtain⟨p1,p2,p3,p4,p5⟩:=h.proc q (zmg hq)
 obtain⟨p,hp⟩ : ∃p,c.progs[q.prog.toNat]? = some p:=⟨_,zgE (by omega)⟩
 obtain⟨pl,pok⟩:=h.prog p (zmg hp)
 have hinv:=qae7 c x e h hi hq
 obtain⟨gp,gc,gg,hact,hend⟩:=qahg x.r0 x.r1 x.sum x.procs.length e i p false h.key hi pl pok ((qmh x e).setP i (qo3 e q)) 0 0 0 hinv
 have hrun:q3h c x e q=qxe p i 16 ((qmh x e).setP i (qo3 e q)):=by unfold q3h;rw[hin,hp];rfl
 rw[hrun]
 generalize qxe p i 16 ((qmh x e).setP i (qo3 e q))=F at hact hend
 have hcl:=qaat x.procs false (by have:=h.procs;omega)
 have h1:¬e.proc<0:=by omega
 have h2:¬e.proc≥(x.procs.length:Int):=by omega
 have h9:((i:Int)).toNat=i:=Int.toNat_natCast i
 have h3:¬e.kind=3:=by omega
 have s0:=qaim x.r0 x.r1 x.sum x.procs.length (qmh x e) 0 0 0 i hi hlt
 have hset:(x.procs.map Pr.r).set i [(ii ((qo3 e q).prog)),(ii ((qo3 e q).pc)),(bb ((qo3 e q).alive)),(.fsl (((qo3 e q).timer).map qgg) false)]=(x.procs.set i (qo3 e q)).map Pr.r:=by rw[wC];rfl
 have hl:(x.procs.set i (qo3 e q)).length=x.procs.length:=by simp
 have hq2:(x.procs.set i (qo3 e q))[i]? = some (qo3 e q):=by rw[wn hlt]
 have s1:=qaim x.r0 x.r1 x.sum x.procs.length ((qmh x e).setP i (qo3 e q)) 0 0 0 i hi (by simp only[Ex.setP,qmh,wI];exact hlt)
 rw[hi]at h0 h1 h2
 simp only[qmh,wk,zgb,hi]at s0
 simp only[qmh,Ex.setP,wk,zgb,hl,hi]at s1 hact
 have ft : ∀ {τ:Type} (l:List τ) (f:τ→List AV),List.take l.length (l.map f)=l.map f:=fun l f=>ztl (by simp)
 have hpr:=qafl e q
 rw[qaz,qg qnt qm3]
 rcases hkind with k1|k2
 ·have hwk:qo3 e q=q:=by unfold qo3;rw[if_neg (by omega)]
  have hss:x.procs.set i q=x.procs:=by
   obtain⟨hlt',hge⟩:=zei.1 hq
   rw[←hge,List.set_getElem_self]
  rw[hwk,hss]at hact
  have k2:¬e.kind=2:=by omega
  have k3:¬(1:Int)=3:=by decide
  have k4:¬(1:Int)=2:=by decide
  simp only[k1]at s0 hact⊢
  simp only[qbp,k3,k4,h0,h1,h2,hi,hq,hal,hcl,s0,p1,hp,hact,ft,endE,zgr,zgq,zgt,Pr.r,qbu,qc4,qa1,qfz,wb,wf,wj,wr,q2m,qb,wg,wp,wh,ql,Ev.AV.obj?,ne_eq,zgy,↓qc,↓we,wd,wa,Nat.reduceBEq,wb,wf,wc]
  done
 ·have k1:¬(2:Int)=1:=by decide
  have k3:¬(2:Int)=3:=by decide
  have hkl:=h.key
  have hwk:qo3 e q = { q with pc:=e.arg,timer:=if q.timer=e.key then []else q.timer }:=by unfold qo3;rw[if_pos k2]
  obtain⟨qp,qpc,qa,qt⟩:=q
  dsimp only at *
  subst hal
  have heq:=qy1 qt e.key false false (by omega) (by omega)
  have hset1:(x.procs.map Pr.r).set i [(ii qp),(ii e.arg),(bb true),(.fsl ((qt).map qgg) false)]=(x.procs.set i ⟨qp,e.arg,true,qt⟩).map Pr.r:=by rw[wC];rfl
  have hg1:(x.procs.set i ⟨qp,e.arg,true,qt⟩)[i]? = some ⟨qp,e.arg,true,qt⟩:=by rw[wn hlt]
  have hset2:((x.procs.set i ⟨qp,e.arg,true,qt⟩).map Pr.r).set i [(ii qp),(ii e.arg),(bb true),.fsl [] false]=(x.procs.set i ⟨qp,e.arg,true,[]⟩).map Pr.r:=by
   have:x.procs.set i ⟨qp,e.arg,true,[]⟩=(x.procs.set i ⟨qp,e.arg,true,qt⟩).set i ⟨qp,e.arg,true,[]⟩:=by rw[List.set_set]
   rw[this,wC (l:=x.procs.set i ⟨qp,e.arg,true,qt⟩)];rfl
  have hl1:(x.procs.set i ⟨qp,e.arg,true,qt⟩).length=x.procs.length:=by simp
  rw[hwk]at s1 hact hq2
  simp only[k2]at s0 s1 hact⊢
  by_cases ht:qt=e.key
  ·simp only[ht,if_true]at s1 hact hq2
   simp only[ht,zgv]at heq
   simp only[ht]at hset1 hset2 hg1
   simp only[qbp,k1,k3,h0,h1,h2,hi,hq,hcl,s0,s1,p1,hp,hact,ft,heq,hset1,hset2,hg1,hq2,ht,endE,zgr,zgq,zgt,Pr.r,qbu,qcs,qc4,qa1,qfz,wb,wf,wj,wr,q2m,qb,wg,wp,wh,ql,Ev.AV.obj?,ne_eq,zgy,↓qc,↓we,wd,wa,Nat.reduceBEq,wb,wf,wc]
   done
  ·simp only[ht,if_false]at s1 hact hq2
   simp only[ht,zgw]at heq
   simp only[qbp,k1,k3,h0,h1,h2,hi,hq,hcl,s0,s1,p1,hp,hact,ft,heq,hset1,hg1,endE,zgr,zgq,zgt,Pr.r,qbu,qcs,qc4,qa1,qfz,wb,wf,wj,wr,q2m,qb,wg,wp,wh,ql,Ev.AV.obj?,ne_eq,zgy,↓qc,↓we,wd,wa,Nat.reduceBEq,wb,wf,wc]
   done
end
set_option maxRecDepth 10000
section
variable (a b:Lp) (cf df:Bool)
end
def lpF (x:Lp×Bool):List AV:=[(ii x.1.r0),(ii x.1.r1),(.fsl ((x.1.procs).map Pr.r) x.2),(ii x.1.sum)]
theorem lpF_lo (n:Nat) (x:Lp×Bool):los n (lpF x)=true:=by simp only[lpF,qc4,wj,zgy]
theorem q9e (n:Nat) (l:List (Lp×Bool)):qk9 n (l.map lpF)=true:=qk2 (lpF_lo n) l
section
variable (a b:List (Lp×Bool)) (c d:Bool)
end
set_option maxRecDepth 10000
section
variable (a b:Lp)
end
set_option maxRecDepth 10000
section
variable (x:Ex)
end
set_option maxRecDepth 10000
def Pr.inc (q:Pr):Pr:={ q with pc:=w64 (q.pc+1) }
section
variable (x:Ex) (i:Nat) (op:OpI) (q:Pr)
end
set_option maxRecDepth 10000
def stepR (x:Ex) (i:Nat) (q:Pr) (op:OpI):Ex×Bool:=
 if (qgh (x.setP i q.inc) i q.inc op).2=1 then ((qgh (x.setP i q.inc) i q.inc op).1,true)
 else if (qgh (x.setP i q.inc) i q.inc op).2=2 then (qwa (qgh (x.setP i q.inc) i q.inc op).1 i,true)
 else ((qgh (x.setP i q.inc) i q.inc op).1,false)
theorem qaed (p:List OpI) (i n:Nat) (x:Ex) (q:Pr) (hq:x.procs[i]? = some q):qxe p i (n+1) x=match p[q.pc.toNat]? with
  |none=>qwa x i
  |some op=>if (stepR x i q op).2=true then (stepR x i q op).1 else qxe p i n (stepR x i q op).1:=by
 simp only[qxe,hq]
 cases hp:p[q.pc.toNat]? with
 |none=>rfl
 |some op=>
  show (if (qgh (x.setP i q.inc) i q.inc op).2=1 then (qgh (x.setP i q.inc) i q.inc op).1 else if (qgh (x.setP i q.inc) i q.inc op).2=2 then qwa (qgh (x.setP i q.inc) i q.inc op).1 i else qxe p i n (qgh (x.setP i q.inc) i q.inc op).1)=(if (stepR x i q op).2=true then (stepR x i q op).1 else qxe p i n (stepR x i q op).1)
  unfold stepR
  by_cases h1:(qgh (x.setP i q.inc) i q.inc op).2=1
  ·simp only[h1,if_true]
  by_cases h2:(qgh (x.setP i q.inc) i q.inc op).2=2
  ·rw[if_neg h1,if_pos h2,if_neg h1,if_pos h2];rfl
  ·simp only[h1,h2,if_false,zfa]
set_option maxRecDepth 10000
theorem ActInv.stepR {e:Evt} {i n:Nat} {x:Ex} (h:ActInv e i n x) {q:Pr} (hq:x.procs[i]? = some q) (hpc:0≤q.pc∧q.pc+1≤1000000) {op:OpI} (ho:OpOk' op):ActInv e i (n+1) (stepR x i q op).1:=by
 have hlt:=(zei.1 hq).1
 have hwq:w64 (q.pc+1)=q.pc+1:=qk (by omega) (by omega)
 have hz:ActInv e i n (x.setP i q.inc):=by
  have:=h.pc hq (pc:=q.pc+1) ⟨by omega,by omega⟩ q.alive
  unfold Pr.inc;rw[hwq];exact this
 have hzq:(x.setP i q.inc).procs[i]? = some q.inc:=by simp only[Ex.setP];rw[wn hlt]
 have hn:=hz.step hzq (show 0≤q.inc.pc∧q.inc.pc≤1000000 by unfold Pr.inc;simp only[hwq];omega) ho
 unfold K.stepR
 split
 ·exact hn
 split
 ·obtain⟨q',h1,h2⟩:=hn.has
  have:=hn.pc h1 h2 false
  unfold qwa;rw[h1];exact this
 ·exact hn
section
variable (c:Cfg) (e0:Evt) (i:Nat) (p:List OpI) (pr:Int)
end
set_option maxRecDepth 10000
section
variable (c:Cfg) (x:Lp) (e:Evt)
end
end Go.Proofs.YtfdoelhnnmcppaaGreat.K
