/- For every input the statement of this claim returns true: texts of its proof, joined (part 9). -/
import Derived.ChangeShapes
import Derived.ChangeOld
import Derived.ChangeArms
import Derived.DataReads
import Derived.Carry
import Derived.ChangeSame
import Derived.OpenShut
import Derived.Handed
import Derived.RowKit3
import Derived.ChangeAt
import Derived.Test.YtjliejhcjeodfaaRows
import Derived.WalkKit
import Derived.ProofKit
import Derived.Test.YtjliejhcjeodfaaEA3
import Derived.Test.YtjliejhcjeodfaaGA04
import Derived.Test.YtjliejhcjeodfaaGA07
set_option linter.unusedSectionVars false
set_option linter.unusedSimpArgs false
set_option linter.unusedVariables false
open Nat renaming reduceEqDiff → wd, reduceAdd → we
open _root_ renaming reduceCtorEq → wg, reduceIte → wj
open Go.Ev.AV renaming cells → wh, plain → wi
open Int renaming reduceEq → wk
open Go.Ev renaming ev1 → wl, stP → wn
namespace Go.Proofs.Ytjliejhcjeodfaa.K
open Go.Ev
set_option maxRecDepth 10000
def OpA.r (o:OpA):List AV:=[(.v (.int .u8 (o.kind))),(ii o.n),(.v (.int .u8 (o.a))),(.v (.int .u8 (o.b)))]
theorem opA_lo (n:Nat) (x:OpA):los n x.r=true:=rfl
theorem qi7 (n:Nat) (l:List OpA):qjv n (l.map OpA.r)=true:=qqu (opA_lo n) l
theorem qn6 (is:List Int) (q:Bool) (n:Int) (hl:is.length≤1000):qu (evL T) qc2 [(.fsl ((is).map qk) q),(ii n)]=some (ii (qiw is n)):=by
 unfold qiw
 rw[qu,qj qth qrb]
 by_cases h0:is=[]
 ·subst h0
  rw[if_pos (.inl rfl)]
  simp only[qgz,List.map_nil,zgb,wl,qn,zgy,↓qf,↓wj,we,wd,wg]
 have hpos:0<is.length:=List.length_pos_iff.2 h0
 have c0:¬(is.length:Int)=0:=by omega
 by_cases h4:n.tmod 5=4
 ·rw[if_pos (.inr h4)]
  simp only[qgz,zgi,c0,h4,wl,qn,zgy,↓qf,↓wj,we,wd,wk,wg]
 rw[if_neg (by simp[h0,h4])]
 have hb:=Int.tmod_lt_of_pos n (show (0:Int)<is.length by omega)
 have hb2 : -(is.length:Int)<n.tmod is.length:=by
  have:=Int.lt_tmod_of_pos n (show (0:Int)<is.length by omega);omega
 obtain⟨m,hm⟩ : ∃m,m=n.tmod is.length:=⟨_,rfl⟩
 rw[←hm]at hb hb2⊢
 have w1:IntKind.i64.wrap (0-m) = -m:=by rw[qan (by omega) (by omega)];omega
 obtain⟨k,hk⟩ : ∃k,k=m.natAbs:=⟨_,rfl⟩
 obtain⟨x,hx⟩ : ∃x,is[k]? = some x:=⟨_,zgE (by omega)⟩
 have hmx:max m (-m)=(k:Int):=by omega
 rw[←hk,hx]
 simp only[Option.getD_some]
 have hmx2:(if m < -m then -m else m)=(k:Int):=by split<;>omega
 simp only[qgz,zgs,zgr,zgq,zgt,zgi,c0,h4,←hm,w1,hmx2,hx,qk,wl,qc,qn,zgy,↓qf,↓wj,we,wd,wk,wg]
def okA (a:Ar) (is:List Int) (o:OpA):Bool:=
 if o.kind%4<2 then (match qhj a o.n with | .ok _=>true | .error _=>false)
 else if o.kind%4=2 then (qjq a (qiw is o.n) ((o.a%5:Nat):Int) ((o.b%5:Nat):Int)).isSome
 else (qv8 a (qiw is o.n)).isSome
theorem qn1 {n:Nat} (h:n<256):IntKind.i64.wrap (n:Int)=(n:Int):=qan (by omega) (by omega)
theorem qjp (a b:Nat):(a:Int).tmod (b:Int)=((a%b:Nat):Int):=by rw[Int.tmod_eq_emod_of_nonneg (by omega)];rfl
theorem q0w (a:Ar) (is:List Int) (q:Bool) (o:OpA) (A:ArOk a) (hl:is.length≤900) (ha:o.a<256) (hb:o.b<256) :
  ∃q':Bool,qu (evL T) qey [(.agg [(.fsl ((a.slots).map Slt.r) false),(.fsl ((a.idle).map qk) false),(ii a.next)]),(.fsl ((is).map qk) q),(.agg [(.v (.int .u8 (o.kind))),(ii o.n),(.v (.int .u8 (o.a))),(.v (.int .u8 (o.b)))])]=some (.tup [(.agg [(.fsl (((qjo a is o).1.slots).map Slt.r) false),(.fsl (((qjo a is o).1.idle).map qk) false),(ii ((qjo a is o).1.next))]),(.fsl (((qjo a is o).2).map qk) q'),(bb (okA a is o))]):=by
 have hsl:=A.len.2
 have hil:a.idle.length≤1000:=by have:=A.count;omega
 have k4:(o.kind:Int).tmod 4=((o.kind%4:Nat):Int):=qjp o.kind 4
 have a5:(o.a:Int).tmod 5=((o.a%5:Nat):Int):=qjp o.a 5
 have b5:(o.b:Int).tmod 5=((o.b%5:Nat):Int):=qjp o.b 5
 have wa:=qn1 ha
 have wb:=qn1 hb
 have hp:=qn6 is q o.n (by omega)
 have hp':=qn6 is false o.n (by omega)
 unfold qjo okA
 obtain⟨ok,on,oa,ob⟩:=o
 simp only at k4 a5 b5 wa wb hp hp'⊢
 by_cases h2:ok%4<2
 ·rw[if_pos h2,if_pos h2]
  have hal:=qnh a false false A on
  have kk:((ok%4:Nat):Int)=0∨((ok%4:Nat):Int)=1:=by omega
  cases hr:qhj a on with
  |error e=>
   rw[hr]at hal
   have he:¬e=0:=by
    unfold qhj at hr
    split at hr
    ·cases hr;omega
    ·split at hr
     ·cases hr;omega
     ·split at hr
      ·cases hr;omega
      ·split at hr
       ·cases hr;omega
       ·cases hr
   simp only[alR]at hal
   refine⟨q,?_⟩
   rw[qu,qj qhz qhd]
   rcases kk with kk|kk<;>simp only[qdz,k4,kk,hal,he,qm,qe,wl,wn,qc,wh,wi,qn,ne_eq,zgy,↓qf,↓wj,we,wd,wk,wg]
  |ok r=>
   obtain⟨b,h⟩:=r
   rw[hr]at hal
   simp only[alR]at hal
   have hb0:is.length*8≤140737488355328:=by omega
   have hb1:(is.length+1)*8≤140737488355328:=by omega
   have htl:List.take is.length (is.map qk)=is.map qk:=ztl (by simp)
   have htk : ∀e:List AV,List.take (is.length+1) (is.map qk++[e])=is.map qk++[e]:=fun e=>ztl (by simp)
   have hr2:(is++[h]).map qk=is.map qk++[[(ii h)]]:=by rw[List.map_append];rfl
   refine⟨false,?_⟩
   rw[qu,qj qhz qhd]
   simp only[hr2]
   by_cases hnil:is=[]
   ·subst hnil
    simp only[List.map_nil,zgl,zgb]at hb0 hb1⊢
    rcases kk with kk|kk<;>simp only[qdz,k4,kk,hal,hb0,hb1,zgb,zgl,qm,qe,wl,wn,qxh,qc,qcz,wh,Ev.AV.uc,wi,qn,Ev.AV.obj?,ne_eq,zgy,↓qf,↓wj,we,wd,Nat.reduceBEq,Nat.reduceMul,Nat.reduceLT,Nat.reduceLeDiff,Nat.reducePow,wk,wg]
   ·have hne:¬(is.map qk=[]):=by simpa using hnil
    rcases kk with kk|kk<;>simp only[qdz,k4,kk,hal,hb0,hb1,htl,htk,hne,zgi,zgb,zfd,zgl,qjt,qm,qe,qo1,wl,wn,qxh,qc,qcz,wh,Ev.AV.uc,wi,qn,Ev.AV.obj?,ne_eq,zgy,↓qf,↓wj,we,wd,Nat.reduceBEq,Nat.reduceMul,Nat.reduceLT,Nat.reduceLeDiff,Nat.reducePow,wk,wg]
 rw[if_neg h2,if_neg h2]
 have n0:¬((ok%4:Nat):Int)=0:=by omega
 have n1:¬((ok%4:Nat):Int)=1:=by omega
 by_cases h3:ok%4=2
 ·rw[if_pos h3,if_pos h3]
  have n2:((ok%4:Nat):Int)=2:=by omega
  have ht:=qjc a false false (qiw is on) ((oa%5:Nat):Int) ((ob%5:Nat):Int) hsl
  refine⟨q,?_⟩
  rw[qu,qj qhz qhd]
  cases hr:qjq a (qiw is on) ((oa%5:Nat):Int) ((ob%5:Nat):Int)with
  |none=>
   rw[hr]at ht
   simp only at ht
   simp only[qdz,k4,n2,wa,wb,a5,b5,hp,ht,Option.getD_none,Option.isSome_none,qm,qe,wl,wn,qc,wh,wi,qn,ne_eq,zgy,↓qf,↓wj,we,wd,wk,wg]
  |some b=>
   rw[hr]at ht
   simp only at ht
   simp only[qdz,k4,n2,wa,wb,a5,b5,hp,ht,Option.getD_some,Option.isSome_some,qm,qe,wl,wn,qc,wh,wi,qn,ne_eq,zgy,↓qf,↓wj,we,wd,wk,wg]
 ·rw[if_neg h3,if_neg h3]
  have n2:((ok%4:Nat):Int)=3:=by omega
  have ht:=qlo a false false (qiw is on) hsl hil
  refine⟨q,?_⟩
  rw[qu,qj qhz qhd]
  cases hr:qv8 a (qiw is on)with
  |none=>
   rw[hr]at ht
   simp only at ht
   simp only[qdz,k4,n2,hp,ht,Option.getD_none,Option.isSome_none,qm,qe,wl,wn,qc,wh,wi,qn,ne_eq,zgy,↓qf,↓wj,we,wd,wk,wg]
  |some b=>
   rw[hr]at ht
   simp only at ht
   simp only[qdz,k4,n2,hp,ht,Option.getD_some,Option.isSome_some,qm,qe,wl,wn,qc,wh,wi,qn,ne_eq,zgy,↓qf,↓wj,we,wd,wk,wg]
theorem qyh (a:Ar) (is:List Int) : ∀(l:List OpA) (o:OpA),qi0 a is (l++[o])=qjo (qi0 a is l).1 (qi0 a is l).2 o:=by
 intro l
 induction l generalizing a is with
 |nil=>intro o;rfl
 |cons x l ih=>intro o;exact ih (qjo a is x).1 (qjo a is x).2 o
theorem qwi (a:Ar) (is:List Int) (o:OpA):(qjo a is o).2.length≤is.length+1:=by
 unfold qjo
 split
 ·split<;>simp
 ·split<;>simp
theorem qse : ∀(l:List OpA) (a:Ar) (is:List Int),(qi0 a is l).2.length≤is.length+l.length
 | [],_,_=>by simp[qi0]
 |o::l,a,is=>by
  have h1:=qse l (qjo a is o).1 (qjo a is o).2
  have h2:=qwi a is o
  unfold qi0
  rw[List.length_cons];omega
def qil (cap:Nat) (l:List OpA):Ar×List Int:=qi0 (qwu (cap%64+1)) [] (l.take 200)
theorem qly (cap:Nat) (l:List OpA):Iss (cap%64+1) 200 (qil cap l).1 (qil cap l).2:=by
 have h:=Iss.made (l.take 200) (qve (n:=cap%64+1) (by omega) (by omega))
 refine⟨h.ok,h.len,?_,h.was,h.nodup⟩
 have:=h.next
 rw[Nat.zero_add,List.length_take]at this
 unfold qil;omega
theorem qi5 (cap:Nat) (l:List OpA):(qil cap l).2.length≤200:=by
 have:=qse (l.take 200) (qwu (cap%64+1)) []
 rw[List.length_take,List.length_nil]at this
 unfold qil;omega
theorem qsr (cap:Nat) (hc:cap<256) (l:List OpA) (c:Bool) (hl : ∀o∈l,o.a<256∧o.b<256) (hll:l.length≤9223372036854775807) :
  ∃q:Bool,qu (evL T) qdn [(.v (.int .u8 (cap))),(.fsl ((l).map OpA.r) c)]=some (.tup [(.agg [(.fsl (((qil cap l).1.slots).map Slt.r) false),(.fsl (((qil cap l).1.idle).map qk) false),(ii ((qil cap l).1.next))]),(.fsl (((qil cap l).2).map qk) q)]):=by
 have wc:=qn1 hc
 have t64:(cap:Int).tmod 64=((cap%64:Nat):Int):=qjp cap 64
 have w1:IntKind.i64.wrap (((cap%64:Nat):Int)+1)=((cap%64+1:Nat):Int):=qal (by omega)
 have hnew:=qpw ((cap%64+1:Nat):Int)
 rw[newR,if_pos (by omega),Int.toNat_natCast]at hnew
 obtain⟨n0,hn0⟩ : ∃n0,n0=qwu (cap%64+1):=⟨_,rfl⟩
 have hI : ∀i,Iss (cap%64+1) (0+(l.take i).length) (qi0 n0 [] (l.take i)).1 (qi0 n0 [] (l.take i)).2:=fun i=>by rw[hn0];exact Iss.made (l.take i) (qve (by omega) (by omega))
 have hfin:(qil cap l)=qi0 n0 [] (l.take (min l.length 200)):=by
  unfold qil;rw[hn0]
  by_cases h:l.length≤200
  ·rw[ztl h,Nat.min_eq_left h,List.take_length]
  ·rw[Nat.min_eq_right (by omega)]
 have key:=qhs (f:=exec (evL T) itL none qft) (s:=qca [1,4,6,8,9] true 2) (α:=Bool)
  (fun i q=>⟨[(1,(.fsl ((l).map OpA.r) c)),(4,.ptr 0 0 0 0),(6,.ptr 1 0 0 0),(8,(.fsl (((qi0 n0 [] (l.take i)).2).map qk) q)),(9,(ii i))],[]⟩)
  (fun i _=>[.row 3 [[.fsl [] false,.fsl [] false,(ii 0)]] 0,.row 3 [[(.fsl (((qi0 n0 [] (l.take i)).1.slots).map Slt.r) false),(.fsl (((qi0 n0 [] (l.take i)).1.idle).map qk) false),(ii ((qi0 n0 [] (l.take i)).1.next))]] 0]) (fun _ _=>True) (min l.length 200)
  (fun y=>y.1 = .exit 0∧y.2.1.marks=[]∧y.2.2=[.row 3 [[.fsl [] false,.fsl [] false,(ii 0)]] 0,.row 3 [[(.fsl (((qil cap l).1.slots).map Slt.r) false),(.fsl (((qil cap l).1.idle).map qk) false),(ii ((qil cap l).1.next))]] 0]∧qbk y.2.1.vars 4=some (.ptr 0 0 0 0)∧qbk y.2.1.vars 6=some (.ptr 1 0 0 0) ∧ ∃q,qbk y.2.1.vars 8=some (.fsl (((qil cap l).2).map qk) q)) ?_ ?_ 0 true (Nat.zero_le _) trivial
 ·obtain⟨⟨y,e,σ⟩,k1,k2,k3,k4,k5,k6,q,k7⟩:=key
  simp only at k2 k3 k4 k5 k6 k7
  subst k2;subst k4
  have z0:((0:Nat):Int)=0:=rfl
  rw[z0,List.take_zero]at k1
  simp only[qi0,List.map_nil]at k1
  rw[hn0]at k1
  refine⟨q,?_⟩
  rw[qu,qj qtl qsa]
  simp only[qj0,wc,t64,w1,hnew,k1,k3,k5,k6,k7,qm,qe,qi7,wl,wn,qc,wh,wi,qn,Ev.SObj.lo,ne_eq,zgy,↓qf,↓qaq,↓wj,we,wd,Nat.reduceLT,wk,wg]
 ·rintro i q hi -
  have hi1:i<l.length:=by omega
  obtain⟨o,ho⟩ : ∃o,l[i]? = some o:=⟨_,zgE hi1⟩
  have hi':(i:Int)<(l.length:Int):=by omega
  have hi2:(i:Int)<200:=by omega
  have hw:IntKind.i64.wrap ((i:Int)+1)=((i+1:Nat):Int):=qal (by omega)
  have hnx:l.take (i+1)=l.take i++[o]:=by rw[List.take_add_one,ho];rfl
  have hln:=qse (l.take i) n0 []
  rw[List.length_take,List.length_nil]at hln
  obtain⟨o1,o2⟩:=hl o (zmg ho)
  obtain⟨q',hs⟩:=q0w (qi0 n0 [] (l.take i)).1 (qi0 n0 [] (l.take i)).2 q o (hI i).ok (by omega) o1 o2
  refine .inl ⟨q',?_,trivial⟩
  rw[hnx,qyh]
  generalize qi0 n0 [] (l.take i)=M at hs⊢
  obtain⟨okk,on,oa,ob⟩:=o
  simp only at hs
  simp only[qft,zgs,zgr,zgq,zgt,OpA.r,ho,hi',hi2,hw,hs,zgi,qm,qe,qi7,wl,wn,qc,wh,wi,Ev.SObj.lo,ne_eq,zgy,↓qf,↓wj,we,wd,Nat.reduceLT]
 ·rintro q -
  rw[hfin]
  by_cases h:l.length≤200
  ·rw[Nat.min_eq_left h]
   generalize qi0 n0 [] (l.take l.length)=M
   simp only[qft,zgi,Int.lt_irrefl,wl,zgy,↓qf,↓wj,wd]
   exact⟨_,rfl,rfl,rfl,rfl,rfl,rfl,q,rfl⟩
  ·rw[Nat.min_eq_right (by omega)]
   generalize qi0 n0 [] (l.take 200)=M
   have h200:((200:Nat):Int)=200:=rfl
   rw[h200]
   have hlt:(200:Int)<(l.length:Int):=by omega
   simp only[qft,zgi,hlt,Int.lt_irrefl,wl,zgy,↓qf,↓wj,wd]
   exact⟨_,rfl,rfl,rfl,rfl,rfl,rfl,q,rfl⟩
theorem qhc:qu (evL T) qdj []=some (bb true):=qph 24 (by kernel_rfl)
set_option maxRecDepth 10000
section
variable (a:Ar) (c d:Bool)
theorem ArOk.sizes {a:Ar} (A:ArOk a):a.slots.length≤1000∧a.idle.length≤1000:=by have:=A.count;have:=A.len;omega
theorem qjh {a:Ar} (h:a.slots.length≤1000∧a.idle.length≤1000) (c d c' d':Bool):qu (evL T) qbf [(.agg [(.fsl ((a.slots).map Slt.r) c),(.fsl ((a.idle).map qk) d),(ii a.next)]),(.agg [(.fsl ((a.slots).map Slt.r) c'),(.fsl ((a.idle).map qk) d'),(ii a.next)])]=some (bb true):=by
 rw[qix a a c d c' d' h.1 h.2,decide_eq_true rfl]
theorem qyq (A:ArOk a) (t:Int) : ∃(x:Ar) (f g:Bool) (h e:Int),qu (evL T) qbg [(.agg [(.fsl ((a.slots).map Slt.r) c),(.fsl ((a.idle).map qk) d),(ii a.next)]),(ii t)]=some (.tup [(.agg [(.fsl ((x.slots).map Slt.r) f),(.fsl ((x.idle).map qk) g),(ii x.next)]),(ii h),(ii e)])∧qu (evL T) qdw [(.agg [(.fsl ((a.slots).map Slt.r) c),(.fsl ((a.idle).map qk) d),(ii a.next)]),(ii t)]=some (.tup [(.agg [(.fsl ((x.slots).map Slt.r) f),(.fsl ((x.idle).map qk) g),(ii x.next)]),(ii h),(ii e)])∧x.slots.length≤1000∧x.idle.length≤1000:=by
 have h1:=qhx a c d A t
 have h2:=qnh a c d A t
 cases hr:qhj a t with
 |error e=>rw[hr]at h1 h2;exact⟨a,c,d,0,e,h1,h2,A.sizes⟩
 |ok r=>
  obtain⟨b,h⟩:=r
  rw[hr]at h1 h2
  exact⟨b,false,false,h,0,h1,h2,(A.alloc hr).1.sizes⟩
theorem qy6 (A:ArOk a) (h f t:Int) : ∃(x:Ar) (g k:Bool) (b:Bool),qu (evL T) qao [(.agg [(.fsl ((a.slots).map Slt.r) c),(.fsl ((a.idle).map qk) d),(ii a.next)]),(ii h),(ii f),(ii t)]=some (.tup [(.agg [(.fsl ((x.slots).map Slt.r) g),(.fsl ((x.idle).map qk) k),(ii x.next)]),(bb b)])∧qu (evL T) qbu [(.agg [(.fsl ((a.slots).map Slt.r) c),(.fsl ((a.idle).map qk) d),(ii a.next)]),(ii h),(ii f),(ii t)]=some (.tup [(.agg [(.fsl ((x.slots).map Slt.r) g),(.fsl ((x.idle).map qk) k),(ii x.next)]),(bb b)])∧x.slots.length≤1000∧x.idle.length≤1000:=by
 have h1:=qgs a c d h f t A.len.2
 have h2:=qjc a c d h f t A.len.2
 cases hr:qjq a h f t with
 |none=>rw[hr]at h1 h2;exact⟨a,c,d,false,h1,h2,A.sizes⟩
 |some b=>rw[hr]at h1 h2;exact⟨b,false,d,true,h1,h2,(A.trans hr).1.sizes⟩
theorem rel_both (A:ArOk a) (h:Int) : ∃(x:Ar) (g k:Bool) (b:Bool),qu (evL T) qa0 [(.agg [(.fsl ((a.slots).map Slt.r) c),(.fsl ((a.idle).map qk) d),(ii a.next)]),(ii h)]=some (.tup [(.agg [(.fsl ((x.slots).map Slt.r) g),(.fsl ((x.idle).map qk) k),(ii x.next)]),(bb b)])∧qu (evL T) qc1 [(.agg [(.fsl ((a.slots).map Slt.r) c),(.fsl ((a.idle).map qk) d),(ii a.next)]),(ii h)]=some (.tup [(.agg [(.fsl ((x.slots).map Slt.r) g),(.fsl ((x.idle).map qk) k),(ii x.next)]),(bb b)])∧x.slots.length≤1000∧x.idle.length≤1000:=by
 have h1:=qfg a c d h A.len.2 A.sizes.2
 have h2:=qlo a c d h A.len.2 A.sizes.2
 cases hr:qv8 a h with
 |none=>rw[hr]at h1 h2;exact⟨a,c,d,false,h1,h2,A.sizes⟩
 |some b=>rw[hr]at h1 h2;exact⟨b,false,false,true,h1,h2,(A.rel hr).1.sizes⟩
theorem qx3:qu (evL T) qe6 [(.agg [(.fsl ((a.slots).map Slt.r) c),(.fsl ((a.idle).map qk) d),(ii a.next)])]=some (bb (decide (a.slots.length≤80∧a.idle.length≤80))):=by
 rw[qu,qj qsb qqf]
 by_cases h1:a.slots.length≤80
 ·have h1':(a.slots.length:Int)≤80:=by omega
  by_cases h2:a.idle.length≤80
  ·have h2':(a.idle.length:Int)≤80:=by omega
   rw[decide_eq_true ⟨h1,h2⟩]
   simp only[qf4,zgi,h1',h2',wl,qc,wh,wi,qn,ne_eq,zgy,↓qf,↓wj,wd]
  ·have h2':¬(a.idle.length:Int)≤80:=by omega
   rw[decide_eq_false (fun h=>h2 h.2)]
   simp only[qf4,zgi,h1',h2',wl,qc,wh,wi,qn,ne_eq,zgy,↓qf,↓wj,wd]
 ·have h1':¬(a.slots.length:Int)≤80:=by omega
  rw[decide_eq_false (fun h=>h1 h.1)]
  simp only[qf4,zgi,h1',wl,qc,wh,wi,qn,ne_eq,zgy,↓qf,↓wj,wd]
end
theorem newA_ok {n:Nat} (h1:1≤n) (h2:n≤64):ArOk (qwu n):=(qve h1 h2).ok
theorem new_both (size:Int) : ∃(x:Ar) (e:Int),qu (evL T) qel [(ii size)]=some (.tup [(.agg [(.fsl ((x.slots).map Slt.r) false),(.fsl ((x.idle).map qk) false),(ii x.next)]),(ii e)])∧qu (evL T) qe9 [(ii size)]=some (.tup [(.agg [(.fsl ((x.slots).map Slt.r) false),(.fsl ((x.idle).map qk) false),(ii x.next)]),(ii e)])∧x.slots.length≤1000∧x.idle.length≤1000:=by
 have h1:=qvz size
 have h2:=qpw size
 unfold newR at h1 h2
 split at h1
 ·rw[if_pos (by assumption)]at h2
  exact⟨_,0,h1,h2,(newA_ok (by omega) (by omega)).sizes⟩
 ·rw[if_neg (by assumption)]at h2
  exact⟨⟨[],[],0⟩,1,h1,h2,by simp,by simp⟩
set_option maxHeartbeats 2000000 in
theorem qw4 (size:Int) (raw:Ar) (c d:Bool) (cap:Nat) (l:List OpA) (e:Bool) (o:OpA) (hcap:cap<256) (hl : ∀o∈l,o.a<256∧o.b<256) (hll:l.length≤9223372036854775807) (ho:o.a<256∧o.b<256) (hrl:raw.slots.length≤9223372036854775807) (hri:raw.idle.length≤9223372036854775807) :
  qu (evL T) qa2 [(ii size),(.agg [(.fsl ((raw.slots).map Slt.r) c),(.fsl ((raw.idle).map qk) d),(ii raw.next)]),(.v (.int .u8 (cap))),(.fsl ((l).map OpA.r) e),(.agg [(.v (.int .u8 (o.kind))),(ii o.n),(.v (.int .u8 (o.a))),(.v (.int .u8 (o.b)))])]=some (bb true):=by
 have h0:=qhc
 have hsm:=qx3 raw c d
 have hsm':=qx3 raw false false
 by_cases hs:raw.slots.length≤80∧raw.idle.length≤80
 case neg=>
  rw[decide_eq_false hs]at hsm hsm'
  rw[qu,qj qes qc4]
  simp only[qa3,h0,hsm,qm,qe,wl,qc,wh,wi,qn,ne_eq,zgy,↓qf,↓wj,we,wd,wg]
 rw[decide_eq_true hs]at hsm hsm'
 obtain⟨x,en,n1,n2,nx⟩:=new_both size
 have hsame:=qjh nx
 obtain⟨v1,v2,v3⟩:=qka raw c d hs.2
 obtain⟨v1',v2',v3'⟩:=qka raw false false hs.2
 obtain⟨w1,w2,w3⟩:=qj2 raw c d (by omega)
 obtain⟨w1',w2',w3'⟩:=qj2 raw false false (by omega)
 have e1:v1=w1:=by rw[Bool.eq_iff_iff,v2,w2]
 have e2:v1'=w1:=by rw[Bool.eq_iff_iff,v2',w2]
 have e3:w1'=w1:=by rw[Bool.eq_iff_iff,w2',w2]
 subst e1;subst e2;subst e3
 obtain⟨q,hmade⟩:=qsr cap hcap l e hl hll
 have hpick:=qn6 (qil cap l).2 q o.n (by have:=qi5 cap l;omega)
 have hpick':=qn6 (qil cap l).2 false o.n (by have:=qi5 cap l;omega)
 have hA:=(qly cap l).ok
 generalize qil cap l=M at hmade hpick hpick' hA
 have a5:(o.a:Int).tmod 5=((o.a%5:Nat):Int):=qjp o.a 5
 have b5:(o.b:Int).tmod 5=((o.b%5:Nat):Int):=qjp o.b 5
 have wa:=qn1 ho.1
 have wb:=qn1 ho.2
 obtain⟨a,c',d',ha,hval⟩ : ∃(a:Ar) (c' d':Bool),ArOk a∧((w1'=true∧a=raw∧c'=c∧d'=d)∨(w1'=false∧a=M.1∧c'=false∧d'=false)):=by
  cases hw:w1' with
  |true=>exact⟨raw,c,d,w2.1 hw,.inl ⟨rfl,rfl,rfl,rfl⟩⟩
  |false=>exact⟨M.1,false,false,hA,.inr ⟨rfl,rfl,rfl,rfl⟩⟩
 obtain⟨b1,f1,g1,hd,eb,p1,p2,p3⟩:=qyq a c' d' ha o.n
 obtain⟨b2,f2,g2,k2,q1,q2,q3⟩:=qy6 a c' d' ha (qiw M.2 o.n) ((o.a%5:Nat):Int) ((o.b%5:Nat):Int)
 obtain⟨b3,f3,g3,k3,r1,r2,r3⟩:=rel_both a c' d' ha (qiw M.2 o.n)
 have s1:=qjh p3
 have s2:=qjh q3
 have s3:=qjh r3
 have lk1:=qfr a c' d' (qiw M.2 o.n) ha.len.2
 have lk2:=qry a c' d' (qiw M.2 o.n) ha.len.2
 have lv1:=qin a c' d' ha.sizes.1
 have lv2:=qk6 a c' d' ha.sizes.1
 obtain⟨okk,on,oa,ob⟩:=o
 simp only at a5 b5 wa wb hpick hpick' p1 p2 q1 q2 r1 r2 lk1 lk2
 rw[qu,qj qes qc4]
 rcases hval with ⟨hw,rfl,rfl,rfl⟩|⟨hw,rfl,rfl,rfl⟩<;>subst hw
 ·simp only[qa3,h0,hsm,n1,n2,hsame,v3,w3,hmade,hpick,a5,b5,wa,wb,p1,p2,q1,q2,r1,r2,s1,s2,s3,lk1,lk2,lv1,lv2,qm,qe,qi7,wl,wn,qc,wh,wi,qd5,qn,ne_eq,zgy,↓qf,↓wj,we,wd,wk,wg]
 ·simp only[qa3,h0,hsm,n1,n2,hsame,v3,w3,hmade,hpick,a5,b5,wa,wb,p1,p2,q1,q2,r1,r2,s1,s2,s3,lk1,lk2,lv1,lv2,qm,qe,qi7,wl,wn,qc,wh,wi,qd5,qn,ne_eq,zgy,↓qf,↓wj,we,wd,wk,wg]
end Go.Proofs.Ytjliejhcjeodfaa.K
namespace Go.Ev
def Ctx.nil:Ctx:={ n:=0,loc:=fun _=>⟨0,0,0,0⟩,own:=fun _=>False,far:=fun _=>False }
theorem SR.nil (P:Program) (w:World):SR P Ctx.nil [] w where
 len:=rfl
 obj o ob h:=by simp at h
 blk o h:=absurd h (Nat.not_lt_zero _)
 inj o o' h:=absurd h (Nat.not_lt_zero _)
 ownlt b h:=h.elim
 farlt b h:=h.elim
 sep b h:=h.elim
section
variable (P:Program) {H:Type} (enc:TypeId×Value→H)
def qf6 (t:TypeId) {τ:Type} (c:τ→List AV) (ok:τ→Prop):Prop:=
 ∀(w:World) (fuel:Nat) (cs:List Value) (d:DataW H) (ps:List MemPlace),DataW.trod enc P w 0 (fun _=>true) true fuel t cs=some (d,ps) → ∃x:τ,ok x∧VRs Ctx.nil w (c x) cs
variable {P enc}
theorem VRs.one {Γ:Ctx} {w:World} {a:AV} {v:Value} (h:VR Γ w a v):VRs Γ w [a] [v]:=by
 simp only[VRs];exact⟨v,[],rfl,h,rfl⟩
theorem qo0 {t:TypeId} {k:IntKind} (hu:P.underlying t=some (.int k)):qf6 P enc t (fun n:Int=>[.v (.int k n)]) (fun n=>(Lit.int k n).wf=true):=by
 intro w fuel cs d ps h
 cases fuel with
 |zero=>simp[DataW.trod]at h
 |succ fuel=>
  unfold DataW.trod at h
  rw[hu]at h
  split at h<;>rename_i heq<;>first|(cases heq;done)|(cases h;done)|skip
  cases heq
  split at h
  ·rename_i hk
   obtain⟨rfl,hwf⟩:=hk
   exact⟨_,hwf,VRs.one (by simp only[VR])⟩
  ·cases h
variable (P enc) in
def qod (off:Nat) (fs:List Field) {τ:Type} (c:τ→List AV) (ok:τ→Prop) (tot:Nat):Prop:=
 ∀(w:World) (fuel:Nat) (cs:List Value),(∀(i:Nat) (f:Field),fs[i]? = some f → ∃x,DataW.trod enc P w 0 (fun _=>true) true fuel f.type ((cs.drop f.offset).take (P.cellsOf f.type))=some x) →
  ∃x:τ,ok x∧VRs Ctx.nil w (c x) ((cs.drop off).take tot)
theorem qmp (off:Nat):qod P enc off [] (fun _:Unit=>[]) (fun _=>True) 0:=fun w fuel cs _=>⟨(),trivial,by simp[VRs]⟩
theorem qcu {off:Nat} {f:Field} {fs:List Field} {α β:Type} {c1:α→List AV} {ok1:α→Prop} {c2:β→List AV} {ok2:β→Prop} {tot:Nat} {sz:Nat} (ho:f.offset=off) (hs:P.cellsOf f.type=sz)
  (h1:qf6 P enc f.type c1 ok1) (h2:qod P enc (off+sz) fs c2 ok2 tot):qod P enc off (f::fs) (fun x:α×β=>c1 x.1++c2 x.2) (fun x=>ok1 x.1∧ok2 x.2) (sz+tot):=by
 intro w fuel cs h
 obtain⟨⟨d,ps⟩,h3⟩:=h 0 f rfl
 obtain⟨x,k1,k2⟩:=h1 w fuel _ d ps h3
 obtain⟨y,k3,k4⟩:=h2 w fuel cs fun i g hg=>h (i+1) g (by simpa using hg)
 refine⟨(x,y),⟨k1,k3⟩,?_⟩
 rw[List.take_add,List.drop_drop]
 rw[ho,hs]at k2
 exact k2.append k4
theorem qvl {t:TypeId} {fs:Array Field} {τ:Type} {c:τ→List AV} {ok:τ→Prop} (hu:P.underlying t=some (.struct fs)) (h:qod P enc 0 fs.toList c ok (P.cellsOf t)):qf6 P enc t c ok:=by
 intro w fuel cs d ps ht
 obtain⟨xs,n,rfl,_,hl,hx,hall⟩:=DataW.trod_struct hu ht
 obtain⟨x,k1,k2⟩:=h w n cs fun i f hf=>by
  have hf':fs[i]? = some f:=by simpa using hf
  have:=hall i f hf'
  have hlt:i<xs.length:=by rw[hx];exact(Array.getElem?_eq_some_iff.1 hf').1
  exact⟨xs[i],by rw[this,zgE hlt]⟩
 refine⟨x,k1,?_⟩
 rw[List.drop_zero,←hl,List.take_length]at k2
 exact k2
theorem qki {t:TypeId} {fs:Array Field} {τ:Type} {c:τ→List AV} {ok:τ→Prop} {n:Nat} (hu:P.underlying t=some (.struct fs)) (h:qod P enc 0 fs.toList c ok n) (hn:P.cellsOf t=n):qf6 P enc t c ok:=qvl hu (by rw[hn];exact h)
theorem qf6.map {t:TypeId} {α β:Type} {c:α→List AV} {ok:α→Prop} {c':β→List AV} {ok':β→Prop} (g:α→β) (h:qf6 P enc t c ok) (hc : ∀x,c' (g x)=c x) (ho : ∀x,ok x→ok' (g x)):qf6 P enc t c' ok':=by
 intro w fuel cs d ps ht
 obtain⟨x,h1,h2⟩:=h w fuel cs d ps ht
 exact⟨g x,ho x h1,by rw[hc];exact h2⟩
theorem qrj {τ:Type} {Q:Nat→τ→Prop} : ∀(n:Nat),(∀i,i<n → ∃x,Q i x) → ∃xs:List τ,xs.length=n ∧ ∀(i:Nat) (x:τ),xs[i]? = some x→Q i x
 | 0,_=>⟨[],rfl,by simp⟩
 |n+1,h=>by
  obtain⟨xs,h1,h2⟩:=qrj n fun i hi=>h i (by omega)
  obtain⟨x,hx⟩:=h n (by omega)
  refine⟨xs++[x],by simp[h1],fun i y hy => ?_⟩
  rw[List.getElem?_append]at hy
  split at hy
  ·exact h2 i y hy
  ·rename_i hi
   have hlt:i-xs.length<1:=by
    have:=(zei.1 hy).1
    simpa using this
   have:i=n:=by omega
   subst this
   rw[h1,Nat.sub_self]at hy
   simp at hy;subst hy;exact hx
theorem qwg {Γ:Ctx} {w:World} {sz:Nat} {τ:Type} {c:τ→List AV} : ∀(xs:List τ) (get:Nat→Option Value),(∀(i:Nat) (x:τ),xs[i]? = some x→qi Γ w (c x) (fun j=>get (j+i*sz)))→qdo Γ w sz (xs.map c) get
 | [],_,_=>by simp[qdo]
 |x::xs,get,h=>by
  simp only[List.map_cons,qdo]
  refine⟨by simpa using h 0 x (by simp),qwg xs _ fun i y hy => ?_⟩
  refine(h (i+1) y (by simpa using hy)).congr fun j => ?_
  congr 1
  rw[Nat.add_mul];omega
theorem ql7 {t e:TypeId} {sz:Nat} {τ:Type} {c:τ→List AV} {ok:τ→Prop} (hu:P.underlying t=some (.slice e)) (hs:P.cellsOf e=sz) (h0:0<sz) (hc : ∀x,(c x).length=sz) (h:qf6 P enc e c ok) :
  qf6 P enc t (fun xs:List τ=>[.fsl (xs.map c) false]) (fun xs=>(∀x∈xs,ok x)∧xs.length≤maxLen):=by
 intro w fuel cs d ps ht
 rcases DataW.trod_slice hu ht with ⟨rfl,_⟩|⟨a,len,cap,elems,rest,n,rfl,rfl,_,_,hle,hcap,hel,hall,_⟩
 ·refine⟨[],by simp,VRs.one ?_⟩
  simp only[VR]
  exact⟨none,0,rfl,by simp,fun h=>(by cases h),.inl rfl⟩
 ·have hex : ∀i,i<len → ∃x:τ,ok x ∧ ∃vs,w.cells? 0 (a.add (i*sz)) sz=some vs∧VRs Ctx.nil w (c x) vs:=by
   intro i hi
   have hb:=hall i hi
   rw[zgE (by omega),zob]at hb
   obtain⟨vs,k1,k2⟩:=hb
   obtain⟨x,k3,k4⟩:=h w n vs _ _ k2
   rw[hs]at k1
   exact⟨x,k3,vs,k1,k4⟩
  obtain⟨xs,h4,h5⟩:=qrj (Q:=fun i x=>ok x ∧ ∃vs,w.cells? 0 (a.add (i*sz)) sz=some vs∧VRs Ctx.nil w (c x) vs) len hex
  refine⟨xs,⟨fun x hx => ?_,by omega⟩,VRs.one ?_⟩
  ·obtain⟨i,hi,rfl⟩:=List.mem_iff_getElem.1 hx
   exact(h5 i _ (by simp[hi])).1
  ·simp only[VR]
   refine⟨some a,cap,by simp[h4],by simp[h4];omega,fun h=>(by cases h),?_⟩
   by_cases hx0:xs=[]
   ·left;simp[hx0]
   ·right
    have hlen0:0<xs.length:=List.length_pos_iff.2 hx0
    have hcell : ∀(i:Nat) (x:τ),xs[i]? = some x → ∀j,j<sz → ∃v,w.cell? ((a.add (i*sz)).add j)=some v:=by
     intro i x hx j hj
     obtain⟨_,vs,k1,k2⟩:=h5 i x hx
     obtain⟨_,k3,k4⟩:=World.cells?_some k1
     exact⟨vs[j]'(by omega),by rw[k4 j hj,zgE (by omega)]⟩
    obtain⟨v0,hv0⟩:=hcell 0 xs[0] (by simp[hlen0]) 0 h0
    obtain⟨b,off,spot⟩:=a
    have hspot:spot=none:=by simpa[Addr.add]using World.cell?_spot hv0
    subst hspot
    have hblt:b<w.heap.size:=by
     rw[Addr.add_lit,Addr.add_lit]at hv0
     unfold World.cell? at hv0
     cases hh:w.heap[b]? with
     |none=>rw[hh]at hv0;simp at hv0
     |some o=>exact(Array.getElem?_eq_some_iff.1 hh).1
    refine⟨b,off,sz,rfl,⟨hblt,id,id⟩,h0,?_,?_⟩
    ·intro e he
     obtain⟨x,_,rfl⟩:=List.mem_map.1 he
     exact hc x
    ·refine qwg xs _ fun i x hx => ?_
     obtain⟨_,vs,k1,k2⟩:=h5 i x hx
     obtain⟨_,k3,k4⟩:=World.cells?_some k1
     refine qi.of_list k2 fun j v hj => ?_
     have hjl:=(zei.1 hj).1
     have:=k4 j (by omega)
     rw[hj,Addr.add_lit,Addr.add_lit]at this
     rw[←this]
     congr 2
     omega
end
end Go.Ev
namespace Go.Ev
open Go.RowKit (Below)
open Go.ChangeShapes Go.WideShapes Go.ChangeAt Go.RowKit
variable {H:Type} {enc:TypeId×Value→H} {P:Program}
theorem Ext.below {w w':World} {Γ':Ctx} (x:Ext Ctx.nil Γ' w w'):Below w.heap.size w w':=⟨x.os,x.tape,x.output,x.size,fun k hk=>x.same k hk id⟩
theorem qoq (hl:laidOutB P=true) {w w':World} (hb:Below w.heap.size w w') {sp:Nat→Bool} : ∀ {ts:List TypeId} {vs:List Value} {ds:List (DataW H)} {ps:List MemPlace},
  (∀t∈ts,P.readableRec t=true∧t<P.types.size)→DataW.TrodAll enc P w 0 (fun _=>true) true ts vs ds ps→(∀p∈ps,p.block<w.heap.size)→(∀p∈ps,sp p.block=true)→DataW.TrodAll enc P w' 0 sp true ts vs ds ps
 | [],[],[],ps,_,h,_,_=>h
 |t::ts,v::vs,d::ds,ps,ht,⟨p,q,h1,h2,e⟩,hlt,hs=>by
  subst e
  obtain⟨r1,r2⟩:=ht t (by simp)
  exact⟨p,q,WideElems.Trod_stays hl r1 r2 h1 (fun x hx=>hb.same (hlt x (List.mem_append_left _ hx))) (fun x hx=>hs x (List.mem_append_left _ hx)),
   qoq hl hb (fun u hu=>ht u (by simp[hu])) h2 (fun x hx=>hlt x (List.mem_append_right _ hx)) (fun x hx=>hs x (List.mem_append_right _ hx)),rfl⟩
 | [],_ :: _,_,_,_,h,_,_=>h.elim
 | [],[],_ :: _,_,_,h,_,_=>h.elim
 | _ :: _,[],_,_,_,h,_,_=>h.elim
 | _ :: _,_ :: _,[],_,_,h,_,_=>h.elim
theorem frz_bool {σ:qh} {d:Nat} {a:AV} {b:Bool}:frz σ (d+1) a=some (.v (.bool b))→a = .v (.bool b):=by
 intro h
 simp only[frz]at h
 split at h
 ·cases h;rfl
 ·cases a with
  |v x=>cases h;rfl
  |sl o g off len c=>
   simp only at h
   split at h
   ·split at h
    ·rw[zob]at h;obtain⟨_,_,h⟩:=h;cases h
    ·cases h
   ·cases h
  |ptr o g i off=>
   simp only at h
   split at h
   ·split at h
    ·rw[zob]at h;obtain⟨_,_,h⟩:=h
     rw[zob]at h;obtain⟨_,_,h⟩:=h;cases h
    ·cases h
   ·cases h
  |agg cs=>simp only[zob]at h;obtain⟨_,_,h⟩:=h;cases h
  |tup cs=>simp only[zob]at h;obtain⟨_,_,h⟩:=h;cases h
  |fsl es c=>simp only[zob]at h;obtain⟨_,_,h⟩:=h;cases h
  |fptr cs=>simp only[zob]at h;obtain⟨_,_,h⟩:=h;cases h
  |fn f a b=>simp only[zob]at h;obtain⟨_,_,_,_,h⟩:=h;cases h
  |yld o=>cases h
  |mp o=>cases h
theorem qyp {T:Tab} (hT:TabOk P T) {f:Nat} {cf:CFunc} (hc:T.code f=some cf) {as_:List AV} {b:Bool} (h:qu (evL T) f as_=some (.v (.bool b))) {W:World} {args:Array Value} (hv:VRs Ctx.nil W as_ args.toList) :
  Calls P f args W fun e W'=>e = .returned (.bool b)∧Below W.heap.size W W':=by
 unfold qu at h
 rw[zob]at h
 obtain⟨⟨r,σ⟩,h1,h2⟩:=h
 obtain rfl:=frz_bool (d:=5) h2
 have hn:=evL_ok hT f as_ [] _ σ h1 Ctx.nil W args.toList (SR.nil P W) hv
 rw[Array.toArray_toList,hT.enter hc]at hn
 refine(callsIn_wide.1 hn).mono fun e W' he => ?_
 cases e with
 |returned v=>
  obtain⟨Γ',k1,_,k3⟩:=he
  simp only[VR]at k1
  exact⟨by rw[k1],k3.below⟩
 |panicked _=>exact he.elim
 |outgrown=>exact he.elim
theorem qvv {f:Func} {s:ChangeSpec} {apart fresh handsOn again:Bool} {W W':World} {args:Array Value} {ds gs:List (DataW H)} {before:List MemPlace} {tb:TypeId}
  (hvars:s.vars=[]) (hspec:s.fn H (ds++gs) = { results:=[.lit (.bool true)],args:=ds }) (hr:f.resultTypes = #[tb]) (htb:P.underlying tb=some .bool) (hl:laidOutB P=true)
  (hts : ∀t∈f.params.toList,P.readableRec t=true∧t<P.types.size)
  (hW:DataW.Whole enc P f.params.toList s.vars apart W args.toList ds gs before) (hb:Below W.heap.size W W'):s.post enc P f apart fresh handsOn again W args (.bool true) W':=by
 have hlt:=hW.lt
 have hW':=hW
 obtain⟨p,q,hA,hV,rfl,hz,hnd⟩:=hW
 rw[hvars]at hV
 obtain⟨rfl,rfl⟩:=trodVars_none hV
 have hargs : ∀sp:Nat→Bool,(∀x∈p,sp x.block=true)→DataW.TrodAll enc P W' 0 sp true f.params.toList args.toList ds p:=fun sp hs=>qoq hl hb hts hA (fun x hx=>hlt x (by simp[hx])) hs
 have hres : ∀(bb:Nat) (sp:Nat→Bool) (hd:Bool),DataW.TrodAll enc P W' bb sp hd f.resultTypes.toList ((Value.bool true).resultList f.resultTypes.size) [.lit (.bool true)] []:=fun bb sp hd=>by
  rw[hr]
  exact trodAll_mk1 (shut_bool htb true)
 refine⟨ds,[],p++[],[],p,[],hW',?_,?_,?_,hb.frame _,fun _=>⟨?_,?_⟩⟩
 ·rw[hspec];exact hres _ _ _
 ·rw[hspec];exact hargs _ fun x hx=>by simpa using hlt x (by simp[hx])
 ·rw[hspec,hvars];rfl
 ·exact ok_one hr rfl (okWide_bool_mk htb true)
 ·refine⟨[.lit (.bool true)]++ds,[],([]++p)++[],⟨[]++p,[],trodAll_append (hargs _ (fun _ _=>rfl)) (hres _ _ _),by rw[hvars];rfl,rfl,?_,?_⟩,?_⟩
  ·intro b off hp
   have hp':MemPlace.cell b off∈p:=by simpa using hp
   have hblt:b<W.heap.size:=hlt (.cell b off) (by simp[hp'])
   rw[hb.frozen (p:=⟨b,off,none⟩) hblt]
   exact hz b off (by simp[hp'])
  ·intro ha
   simpa using hnd ha
  ·intro x hx _
   simpa using hx
end Go.Ev
namespace Go.Ev
open Go.RowKit (Below)
open Go.ChangeShapes Go.WideShapes Go.ChangeAt Go.RowKit
section
variable {H:Type} (P:Program) (enc:TypeId×Value→H)
def qt1 (ts:List TypeId) {τ:Type} (c:τ→List AV) (ok:τ→Prop):Prop:=
 ∀(W:World) (args:List Value) (ds:List (DataW H)) (p:List MemPlace),DataW.TrodAll enc P W 0 (fun _=>true) true ts args ds p →
  (∀(j:Nat) t v,ts[j]? = some t→args[j]? = some v → ∃base,Value.okWide P W .any base t v) → ∃x:τ,ok x∧VRs Ctx.nil W (c x) args∧ds.length=ts.length
variable {P enc}
def q0p:TypeDesc→Bool
 | .struct _=>false
 | .array _ _=>false
 | _=>true
theorem qwk {w:World} {r:Reach} {base:Nat} {t:TypeId} {v:Value} {u:TypeDesc} (hu:P.underlying t=some u) (hp:q0p u=true) (h:Value.okWide P w r base t v) : ∀cs,v ≠ .agg cs:=by
 rintro cs rfl
 unfold Value.okWide at h
 rw[hu]at h
 cases u<;>simp only[q0p,Bool.false_eq_true]at hp<;>simp only[Cell.okWide,Cell.ok,hu]at h
theorem qkr:qt1 P enc [] (fun _:Unit=>[]) (fun _=>True):=by
 intro W args ds p h _
 obtain⟨rfl,rfl,rfl⟩:=trodAll_nil h
 exact⟨(),trivial,by simp[VRs],rfl⟩
theorem qcd {t:TypeId} {ts:List TypeId} {u:TypeDesc} {α β:Type} {a:α→AV} {ok1:α→Prop} {c2:β→List AV} {ok2:β→Prop} (hu:P.underlying t=some u) (hp:q0p u=true)
  (h1:qf6 P enc t (fun x=>[a x]) ok1) (h2:qt1 P enc ts c2 ok2):qt1 P enc (t::ts) (fun x:α×β=>a x.1::c2 x.2) (fun x=>ok1 x.1∧ok2 x.2):=by
 intro W args ds p h hval
 obtain⟨v,vs,d,ds',p,q,rfl,rfl,rfl,ht,hr⟩:=trodAll_cons h
 obtain⟨y,k1,k2,k3⟩:=h2 W vs ds' q hr fun j t v e1 e2=>hval (j+1) t v (by simpa using e1) (by simpa using e2)
 obtain⟨fuel,hf⟩:=ht
 obtain⟨x,m1,m2⟩:=h1 W fuel _ d p hf
 obtain⟨base,hv⟩:=hval 0 t v rfl rfl
 have hna:=qwk hu hp hv
 have hc:v.cells.toList=[v]:=by
  cases v with
  |agg cs=>exact absurd rfl (hna cs)
  | _=>rfl
 rw[hc]at m2
 simp only[VRs]at m2
 obtain⟨v',r,e,m3,rfl⟩:=m2
 cases e
 refine⟨(x,y),⟨m1,k1⟩,?_,by simp[k3]⟩
 simp only[VRs]
 exact⟨v,vs,rfl,m3,k2⟩
theorem qla {t:TypeId} {ts:List TypeId} {fs:Array Field} {α β:Type} {c1:α→List AV} {ok1:α→Prop} {c2:β→List AV} {ok2:β→Prop} (hu:P.underlying t=some (.struct fs))
  (h1:qf6 P enc t c1 ok1) (h2:qt1 P enc ts c2 ok2):qt1 P enc (t::ts) (fun x:α×β => .agg (c1 x.1)::c2 x.2) (fun x=>ok1 x.1∧ok2 x.2):=by
 intro W args ds p h hval
 obtain⟨v,vs,d,ds',p,q,rfl,rfl,rfl,ht,hr⟩:=trodAll_cons h
 obtain⟨y,k1,k2,k3⟩:=h2 W vs ds' q hr fun j t v e1 e2=>hval (j+1) t v (by simpa using e1) (by simpa using e2)
 obtain⟨fuel,hf⟩:=ht
 obtain⟨x,m1,m2⟩:=h1 W fuel _ d p hf
 obtain⟨base,hv⟩:=hval 0 t v rfl rfl
 obtain⟨cs,rfl,_⟩:=okWide_struct hu hv
 refine⟨(x,y),⟨m1,k1⟩,?_,by simp[k3]⟩
 simp only[VRs]
 refine⟨_,vs,rfl,?_,k2⟩
 simp only[VR]
 exact⟨cs.toList,by simp,by simpa[Value.cells]using m2⟩
end
theorem qji {H:Type} {enc:TypeId×Value→H} {P:Program} {T:Tab} (hT:TabOk P T) {f:Nat} {fn:Func} {cf:CFunc} (hc:T.code f=some cf) {s:ChangeSpec} {apart:Bool} {ts:List TypeId} {tb:TypeId} {τ:Type} {c:τ→List AV} {ok:τ→Prop}
  (hpar:fn.params.toList=ts) (hargs:qt1 P enc ts c ok) (hlaw : ∀x,ok x→qu (evL T) f (c x)=some (.v (.bool true)))
  (hvars:s.vars=[]) (hspec : ∀ds:List (DataW H),ds.length=ts.length→s.fn H ds = { results:=[.lit (.bool true)],args:=ds })
  (hr:fn.resultTypes = #[tb]) (htb:P.underlying tb=some .bool) (hl:laidOutB P=true) (hts : ∀t∈ts,P.readableRec t=true∧t<P.types.size)
  (W:World) (base:Nat) (args:Array Value) (ds gs:List (DataW H)) (before:List MemPlace) (hval : ∀(j:Nat) t v,fn.params[j]? = some t→args[j]? = some v→Value.okWide P W .any base t v)
  (hW:DataW.Whole enc P fn.params.toList s.vars apart W args.toList ds gs before):Calls P f args W fun e W' => ∃v,e = .returned v∧s.post enc P fn apart true false false W args v W':=by
 have hW':=hW
 obtain⟨p,q,hA,hV,rfl,hz,hnd⟩:=hW
 rw[hvars]at hV
 obtain⟨rfl,rfl⟩:=trodVars_none hV
 obtain⟨x,h1,h2,h3⟩:=hargs W args.toList ds p (hpar▸hA) fun j t v e1 e2=>⟨base,hval j t v (by rw[←hpar]at e1;simpa using e1) (by simpa using e2)⟩
 refine(qyp hT hc (hlaw x h1) h2).mono fun e W' ⟨he,hb⟩=>⟨_,he,?_⟩
 exact qvv hvars (by rw[List.append_nil];exact hspec ds h3) hr htb hl (by rw[hpar];exact hts) hW' hb
end Go.Ev
namespace Go.Proofs.Ytjliejhcjeodfaa.K
open Go.Ev
open Go.ChangeShapes Go.WideShapes Go.ChangeAt Go.RowKit
section
variable {H:Type} {enc:TypeId×Value→H}
theorem mapIf {t:TypeId} {α β:Type} {c:α→List AV} {ok:α→Prop} {c':β→List AV} {ok':β→Prop} (g:α→β) (h:qf6 Try.prog enc t c ok) (hc : ∀x,ok x→c' (g x)=c x) (ho : ∀x,ok x→ok' (g x)):qf6 Try.prog enc t c' ok':=by
 intro w fuel cs d ps ht
 obtain⟨x,h1,h2⟩:=h w fuel cs d ps ht
 exact⟨g x,ho x h1,by rw[hc x h1];exact h2⟩
theorem wf_u8 {n:Int} (h:(Lit.int .u8 n).wf=true):0≤n∧n≤255:=by
 simp[Lit.wf]at h
 have h1:IntKind.u8.min=0:=rfl
 have h2:IntKind.u8.max=255:=rfl
 omega
theorem wf_u32 {n:Int} (h:(Lit.int .u32 n).wf=true):0≤n∧n≤4294967295:=by
 simp[Lit.wf]at h
 have h1:IntKind.u32.min=0:=rfl
 have h2:IntKind.u32.max=4294967295:=rfl
 omega
theorem qhy:qf6 Try.prog enc 3 (fun n:Int=>[(ii n)]) (fun _=>True):=(qo0 Try.underlying3).map id (fun _=>rfl) (fun _ _=>trivial)
theorem ql9:qf6 Try.prog enc 5 (fun n:Nat=>[(.v (.int .u8 (n)))]) (fun n=>n<256):=
 mapIf Int.toNat (qo0 Try.underlying5) (fun x h=>by have:=wf_u8 h;rw[Int.toNat_of_nonneg this.1]) (fun x h=>by have:=wf_u8 h;omega)
theorem qxl:qf6 Try.prog enc 53 (fun n:Nat=>[(.v (.int .u32 (n)))]) (fun n=>n<4294967296):=
 mapIf Int.toNat (qo0 Try.underlying53) (fun x h=>by have:=wf_u32 h;rw[Int.toNat_of_nonneg this.1]) (fun x h=>by have:=wf_u32 h;omega)
theorem q0a:qf6 Try.prog enc 23 (fun l:List Int=>[(.fsl ((l).map qk) false)]) (fun l=>(∀x∈l,True)∧l.length≤maxLen):=ql7 (sz:=1) Try.underlying23 (by kernel_rfl) (by decide) (fun _=>rfl) qhy
theorem q0x:qf6 Try.prog enc 44 Slt.r (fun _=>True):=by
 have h:=qki (P:=Try.prog) (enc:=enc) (t:=44) Try.underlying44 (qcu (sz:=1) rfl (by kernel_rfl) qhy (qcu (sz:=1) rfl (by kernel_rfl) qhy (qcu (sz:=1) rfl (by kernel_rfl) qhy (qcu (sz:=1) rfl (by kernel_rfl) qhy (qmp _))))) (by kernel_rfl)
 exact h.map (fun x=>(⟨x.1,x.2.1,x.2.2.1,x.2.2.2.1⟩:Slt)) (fun _=>rfl) (fun _ _=>trivial)
theorem qy8:qf6 Try.prog enc 22 (fun l:List Slt=>[(.fsl ((l).map Slt.r) false)]) (fun l=>(∀x∈l,True)∧l.length≤maxLen):=ql7 (sz:=4) Try.underlying22 (by kernel_rfl) (by decide) (fun _=>rfl) q0x
theorem qzc:qf6 Try.prog enc 25 (fun a:Ar=>[(.fsl ((a.slots).map Slt.r) false),(.fsl ((a.idle).map qk) false),(ii a.next)]) (fun a=>a.slots.length≤maxLen∧a.idle.length≤maxLen):=by
 have h:=qki (P:=Try.prog) (enc:=enc) (t:=25) Try.underlying25 (qcu (sz:=1) rfl (by kernel_rfl) qy8 (qcu (sz:=1) rfl (by kernel_rfl) q0a (qcu (sz:=1) rfl (by kernel_rfl) qhy (qmp _)))) (by kernel_rfl)
 exact h.map (fun x=>(⟨x.1,x.2.1,x.2.2.1⟩:Ar)) (fun _=>rfl) (fun _ h=>⟨h.1.2,h.2.1.2⟩)
theorem qw6:qf6 Try.prog enc 28 OpA.r (fun o=>o.a<256∧o.b<256):=by
 have h:=qki (P:=Try.prog) (enc:=enc) (t:=28) Try.underlying28 (qcu (sz:=1) rfl (by kernel_rfl) ql9 (qcu (sz:=1) rfl (by kernel_rfl) qhy (qcu (sz:=1) rfl (by kernel_rfl) ql9 (qcu (sz:=1) rfl (by kernel_rfl) ql9 (qmp _))))) (by kernel_rfl)
 exact h.map (fun x=>(⟨x.1,x.2.1,x.2.2.1,x.2.2.2.1⟩:OpA)) (fun _=>rfl) (fun _ h=>⟨h.2.2.1,h.2.2.2.1⟩)
theorem qmy:qf6 Try.prog enc 26 (fun l:List OpA=>[(.fsl ((l).map OpA.r) false)]) (fun l=>(∀x∈l,x.a<256∧x.b<256)∧l.length≤maxLen):=ql7 (sz:=4) Try.underlying26 (by kernel_rfl) (by decide) (fun _=>rfl) qw6
end
theorem own:ownKnob Try.prog.godebug=none:=by kernel_rfl
theorem laid:laidOutB Try.prog=true:=by kernel_rfl
open Go.Ev
set_option maxRecDepth 10000
theorem qms {a:Ar} (A:ArOk a) (c d:Bool):qu (evL T) qbv [(.agg [(.fsl ((a.slots).map Slt.r) c),(.fsl ((a.idle).map qk) d),(ii a.next)])]=some (bb true):=by
 obtain⟨v,h1,h2⟩:=qka a c d (by have:=A.count;have:=A.len;omega)
 rw[h2,h1.2 A]
theorem qw1 {a:Ar} (A:ArOk a) (c d:Bool):qu (evL T) qde [(.agg [(.fsl ((a.slots).map Slt.r) c),(.fsl ((a.idle).map qk) d),(ii a.next)])]=some (bb true):=by
 obtain⟨v,h1,h2⟩:=qj2 a c d (by have:=A.count;have:=A.len;omega)
 rw[h2,h1.2 A]
section
variable (a:Ar)
theorem qwq (A:ArOk a) (t:Int) : ∃(x:Ar) (h e:Int) (v:Bool),qu (evL T) qbg [(.agg [(.fsl ((a.slots).map Slt.r) false),(.fsl ((a.idle).map qk) false),(ii a.next)]),(ii t)]=some (.tup [(.agg [(.fsl ((x.slots).map Slt.r) false),(.fsl ((x.idle).map qk) false),(ii x.next)]),(ii h),(ii e)])∧ArOk x∧qu (evL T) qbf [(.agg [(.fsl ((a.slots).map Slt.r) false),(.fsl ((a.idle).map qk) false),(ii a.next)]),(.agg [(.fsl ((x.slots).map Slt.r) false),(.fsl ((x.idle).map qk) false),(ii x.next)])]=some (bb v)∧(e=0∨v=true):=by
 have h1:=qhx a false false A t
 cases hr:qhj a t with
 |error e=>rw[hr]at h1;exact⟨a,0,e,true,h1,A,qjh A.sizes _ _ _ _,.inr rfl⟩
 |ok r=>
  obtain⟨b,h⟩:=r
  rw[hr]at h1
  exact⟨b,h,0,_,h1,(A.alloc hr).1,qix a b _ _ _ _ A.sizes.1 A.sizes.2,.inl rfl⟩
theorem qwr (A:ArOk a) (h f t:Int) : ∃(x:Ar) (b v:Bool),qu (evL T) qao [(.agg [(.fsl ((a.slots).map Slt.r) false),(.fsl ((a.idle).map qk) false),(ii a.next)]),(ii h),(ii f),(ii t)]=some (.tup [(.agg [(.fsl ((x.slots).map Slt.r) false),(.fsl ((x.idle).map qk) false),(ii x.next)]),(bb b)])∧ArOk x∧qu (evL T) qbf [(.agg [(.fsl ((a.slots).map Slt.r) false),(.fsl ((a.idle).map qk) false),(ii a.next)]),(.agg [(.fsl ((x.slots).map Slt.r) false),(.fsl ((x.idle).map qk) false),(ii x.next)])]=some (bb v)∧(b=true∨v=true):=by
 have h1:=qgs a false false h f t A.len.2
 cases hr:qjq a h f t with
 |none=>rw[hr]at h1;exact⟨a,false,true,h1,A,qjh A.sizes _ _ _ _,.inr rfl⟩
 |some b=>rw[hr]at h1;exact⟨b,true,_,h1,(A.trans hr).1,qix a b _ _ _ _ A.sizes.1 A.sizes.2,.inl rfl⟩
theorem qzz (A:ArOk a) (h:Int) : ∃(x:Ar) (b v:Bool),qu (evL T) qa0 [(.agg [(.fsl ((a.slots).map Slt.r) false),(.fsl ((a.idle).map qk) false),(ii a.next)]),(ii h)]=some (.tup [(.agg [(.fsl ((x.slots).map Slt.r) false),(.fsl ((x.idle).map qk) false),(ii x.next)]),(bb b)])∧ArOk x∧qu (evL T) qbf [(.agg [(.fsl ((a.slots).map Slt.r) false),(.fsl ((a.idle).map qk) false),(ii a.next)]),(.agg [(.fsl ((x.slots).map Slt.r) false),(.fsl ((x.idle).map qk) false),(ii x.next)])]=some (bb v)∧(b=true∨v=true):=by
 have h1:=qfg a false false h A.len.2 A.sizes.2
 cases hr:qv8 a h with
 |none=>rw[hr]at h1;exact⟨a,false,true,h1,A,qjh A.sizes _ _ _ _,.inr rfl⟩
 |some b=>rw[hr]at h1;exact⟨b,true,_,h1,(A.rel hr).1,qix a b _ _ _ _ A.sizes.1 A.sizes.2,.inl rfl⟩
end
set_option maxHeartbeats 2000000 in
theorem qu8 (cap:Nat) (l:List OpA) (e:Bool) (o:OpA) (hcap:cap<256) (hl : ∀o∈l,o.a<256∧o.b<256) (hll:l.length≤9223372036854775807) (ho:o.a<256∧o.b<256) :
  qu (evL T) qci [(.v (.int .u8 (cap))),(.fsl ((l).map OpA.r) e),(.agg [(.v (.int .u8 (o.kind))),(ii o.n),(.v (.int .u8 (o.a))),(.v (.int .u8 (o.b)))])]=some (bb true):=by
 have h0:=qhc
 obtain⟨q,hmade⟩:=qsr cap hcap l e hl hll
 have hpick:=qn6 (qil cap l).2 q o.n (by have:=qi5 cap l;omega)
 have A:=(qly cap l).ok
 generalize qil cap l=M at hmade hpick A
 have a5:(o.a:Int).tmod 5=((o.a%5:Nat):Int):=qjp o.a 5
 have b5:(o.b:Int).tmod 5=((o.b%5:Nat):Int):=qjp o.b 5
 have wa:=qn1 ho.1
 have wb:=qn1 ho.2
 obtain⟨b1,hd,eb,u1,p1,p2,p3,p4⟩:=qwq M.1 A o.n
 obtain⟨b2,k2,u2,q1,q2,q3,q4⟩:=qwr M.1 A (qiw M.2 o.n) ((o.a%5:Nat):Int) ((o.b%5:Nat):Int)
 obtain⟨b3,k3,u3,r1,r2,r3,r4⟩:=qzz M.1 A (qiw M.2 o.n)
 have va:=qms A false false
 have v1:=qms p2 false false
 have v2:=qms q2 false false
 have v3:=qms r2 false false
 obtain⟨okk,on,oa,ob⟩:=o
 simp only at a5 b5 wa wb hpick p1 q1 r1
 rw[qu,qj qkj qf9]
 by_cases he:eb=0<;>cases k2<;>cases k3 <;>
 ·simp only[he,false_or,true_or,zfa]at p4 q4 r4
  simp only[qd8,h0,hmade,hpick,a5,b5,wa,wb,p1,p3,p4,q1,q3,q4,r1,r3,r4,va,v1,v2,v3,he,qm,qe,qi7,wl,wn,qc,wh,wi,qn,ne_eq,zgy,↓qf,↓wj,we,wd,wk,wg]
open Go.Ev
set_option maxRecDepth 10000
theorem qx2 {n:Nat} (h:n<4294967296):IntKind.i64.wrap (n:Int)=(n:Int):=qan (by omega) (by omega)
set_option maxHeartbeats 2000000 in
theorem qv1 (cap:Nat) (l:List OpA) (e:Bool) (t:Nat) (n:Int) (hcap:cap<256) (hl : ∀o∈l,o.a<256∧o.b<256) (hll:l.length≤9223372036854775807) (ht:t<4294967296) :
  qu (evL T) qco [(.v (.int .u8 (cap))),(.fsl ((l).map OpA.r) e),(.v (.int .u32 (t))),(ii n)]=some (bb true):=by
 have h0:=qhc
 obtain⟨q,hmade⟩:=qsr cap hcap l e hl hll
 have hpick:=qn6 (qil cap l).2 q n (by have:=qi5 cap l;omega)
 have I:=qly cap l
 generalize qil cap l=M at hmade hpick I
 have A:=I.ok
 have wt:=qx2 ht
 have hlive:=qin M.1 false false A.sizes.1
 have hle:qhe M.1≤M.1.slots.length:=List.countP_le_length
 have c1:¬(qhe M.1:Int)<0:=by omega
 have c2:¬(qhe M.1:Int)>(M.1.slots.length:Int):=by omega
 have hal:=qhx M.1 false false A t
 have hrel:=qfg M.1 false false (qiw M.2 n) A.len.2 A.sizes.2
 have hl64:=A.len.2
 have wm : ∀k:Nat,k+1=qhe M.1→IntKind.i64.wrap ((qhe M.1:Int)-1)=(k:Int):=fun k hk=>qbn hk.symm (by omega)
 have wp:IntKind.i64.wrap ((qhe M.1:Int)+1)=((qhe M.1+1:Nat):Int):=qal (by omega)
 obtain⟨x,k3,r1,r2⟩ : ∃(x:Ar) (b:Bool),qu (evL T) qa0 [(.agg [(.fsl ((M.1.slots).map Slt.r) false),(.fsl ((M.1.idle).map qk) false),(ii M.1.next)]),(ii (qiw M.2 n))]=some (.tup [(.agg [(.fsl ((x.slots).map Slt.r) false),(.fsl ((x.idle).map qk) false),(ii x.next)]),(bb b)])∧(b=true→qu (evL T) qc3 [(.agg [(.fsl ((x.slots).map Slt.r) false),(.fsl ((x.idle).map qk) false),(ii x.next)])]=some (ii (qhe x))∧qhe x+1=qhe M.1):=by
  cases hr:qv8 M.1 (qiw M.2 n)with
  |none=>rw[hr]at hrel;exact⟨M.1,false,hrel,fun h=>by cases h⟩
  |some b=>rw[hr]at hrel;exact⟨b,true,hrel,fun _=>⟨qin b false false (A.rel hr).1.sizes.1,(A.rel_live hr).1⟩⟩
 rw[qu,qj qlb qg0]
 rcases I.alloc_full (by omega) (t:=(t:Int)) ⟨by omega,by unfold qok;omega⟩with ⟨f1,f2⟩|⟨f1,b,h,f2⟩
 ·rw[f2]at hal
  simp only[alR]at hal
  have c1':¬(M.1.slots.length:Int)<0:=by omega
  cases k3 with
  |false=>
   simp only[qb2,h0,hmade,hpick,hlive,wt,hal,r1,c1',f1,zgi,Int.lt_irrefl,gt_iff_lt,qm,qe,qi7,wl,wn,qc,wh,wi,qn,ne_eq,zgy,↓qf,↓wj,we,wd,wk,wg]
  |true=>
   obtain⟨r2,r3⟩:=r2 rfl
   have wm':=wm _ r3
   rw[f1]at wm'
   simp only[qb2,h0,hmade,hpick,hlive,wt,hal,r1,r2,c1',f1,wm',zgi,Int.lt_irrefl,gt_iff_lt,qm,qe,qi7,wl,wn,qc,wh,wi,qn,ne_eq,zgy,↓qf,↓wj,we,wd,wk,wg]
 ·rw[f2]at hal
  simp only[alR]at hal
  have c3:¬(qhe M.1:Int)=(M.1.slots.length:Int):=by omega
  have hlb:=qin b false false (A.alloc f2).1.sizes.1
  have hlb2:=(A.alloc_live f2).1
  rw[hlb2]at hlb
  cases k3 with
  |false=>simp only[qb2,h0,hmade,hpick,hlive,wt,hal,r1,c1,c2,c3,hlb,wp,zgi,qm,qe,qi7,wl,wn,qc,wh,wi,qn,ne_eq,zgy,↓qf,↓wj,we,wd,wk,wg]
  |true=>
   obtain⟨r2,r3⟩:=r2 rfl
   have wm':=wm _ r3
   simp only[qb2,h0,hmade,hpick,hlive,wt,hal,r1,r2,c1,c2,c3,hlb,wp,wm',zgi,qm,qe,qi7,wl,wn,qc,wh,wi,qn,ne_eq,zgy,↓qf,↓wj,we,wd,wk,wg]
end Go.Proofs.Ytjliejhcjeodfaa.K
