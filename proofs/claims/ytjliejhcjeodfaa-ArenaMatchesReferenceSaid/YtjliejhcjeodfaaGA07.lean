/- For every input the statement of this claim returns true: texts of its proof, joined (part 8). -/
import Derived.Test.YtjliejhcjeodfaaEA3
import Derived.Test.YtjliejhcjeodfaaGA04
import Derived.Test.YtjliejhcjeodfaaGA06
set_option linter.unusedSectionVars false
set_option linter.unusedSimpArgs false
set_option linter.unusedVariables false
open Nat renaming reduceEqDiff → wa, reduceAdd → wd, reduceLeDiff → wk, reduceLT → wl, reducePow → wu, reduceMul → wC, zero_le → wI
open _root_ renaming reduceIte → wc, reduceCtorEq → we
open Go.Ev.AV renaming cells → wf, plain → wg, uc → wr
open Go.Ev renaming ev1 → wh, stP → wn
open List renaming getElem?_set_self → wi, getElem?_eq_some_iff → wj, getElem?_set_ne → wm, append_assoc → wo, getElem?_zip_eq_some → wv, mem_of_getElem? → wx, getElem?_eq_none → wy, map_append → wB, getElem?_eq_getElem → wE, take_length → wF, length_take → wG, map_nil → wK, range_succ → wL, map_set → wM, take → wN
open Go.Ev.SObj renaming lo → wq
open Int renaming reduceNeg → ws, toNat_natCast → wt, lt_irrefl → ww, reduceEq → wA, le_refl → wH
open Option renaming isSome_some → wz, isSome_none → wJ
open Bool renaming decide_and → wD
namespace Go.Proofs.Ytjliejhcjeodfaa.K
open Go.Ev
set_option maxRecDepth 10000
section
variable (g:Nat) (cl:Bool) (n:Nat)
theorem pdq_st2 (hb : n < 2 ^ 60) (P A S1 B Q : List Int) (a b lim p : Nat) (h : Int) (wb wp : Bool) (ha : a = P.length + A.length) (hbb : b = a + S1.length) (hn : n = (P ++ (A ++ (S1 ++ (B ++ Q)))).length) (hS : 13 ≤ S1.length ∧ S1.length ≤ 80) (hpre : ∀ u, (P ++ A)[(P ++ A).length - 1]? = some u → ∀ x ∈ S1, u ≤ x) (hp : a ≤ p ∧ p < b) (e : Env) (hm : e.marks = [])
    (e0 : qbk e.vars 0 = some (.sl 0 g 0 n cl)) (e1 : qbk e.vars 1 = some (ii a)) (e2 : qbk e.vars 2 = some (ii b)) (e3 : qbk e.vars 3 = some (ii lim)) (e8 : qbk e.vars 8 = some (bb wb)) (e9 : qbk e.vars 9 = some (bb wp)) (e10 : qbk e.vars 10 = some (ii S1.length)) (e11 : qbk e.vars 11 = some (ii p)) (e12 : qbk e.vars 12 = some (ii h)) :
    (∃ (y : CExit × Env × qh) (S2 : List Int), (∀ t, exec (evL T) itL none (qgw qkd t) e [.row 1 ((P ++ (A ++ (S1 ++ (B ++ Q)))).map qk) g, .row 1 [[.sl 0 g 0 n false]] 0, .dead, .loop ⟨[(2, .ptr 1 0 0 0)], []⟩ [7] qb qa .exhausted none] = some y) ∧ y.1 = .ret ∧ y.2.1.marks = [] ∧ S2.Perm S1 ∧ LeI S2 ∧ y.2.2 = [.row 1 ((P ++ (A ++ (S2 ++ (B ++ Q)))).map qk) g, .row 1 [[.sl 0 g 0 n false]] 0, .dead, .loop ⟨[(2, .ptr 1 0 0 0)], []⟩ [7] qb qa .exhausted none]) ∨
    (∃ (e' : Env) (S2 : List Int) (p' : Nat), (∀ t, exec (evL T) itL none (qgw qkd t) e [.row 1 ((P ++ (A ++ (S1 ++ (B ++ Q)))).map qk) g, .row 1 [[.sl 0 g 0 n false]] 0, .dead, .loop ⟨[(2, .ptr 1 0 0 0)], []⟩ [7] qb qa .exhausted none] = exec (evL T) itL none t e' [.row 1 ((P ++ (A ++ (S2 ++ (B ++ Q)))).map qk) g, .row 1 [[.sl 0 g 0 n false]] 0, .dead, .loop ⟨[(2, .ptr 1 0 0 0)], []⟩ [7] qb qa .exhausted none]) ∧ e'.marks = [] ∧ S2.Perm S1 ∧ a ≤ p' ∧ p' < b ∧
      qbk e'.vars 0 = some (.sl 0 g 0 n cl) ∧ qbk e'.vars 1 = some (ii a) ∧ qbk e'.vars 2 = some (ii b) ∧ qbk e'.vars 3 = some (ii lim) ∧ qbk e'.vars 8 = some (bb wb) ∧ qbk e'.vars 9 = some (bb wp) ∧ qbk e'.vars 10 = some (ii S1.length) ∧ qbk e'.vars 11 = some (ii p')) := by
  have hlen : n = P.length + (A.length + (S1.length + (B.length + Q.length))) := by rw [hn]; simp
  by_cases h2 : h = 2
  · subst h2
    obtain ⟨S2, p1, r1⟩ := rev_ev g cl n (P ++ A) S1 (B ++ Q) a b (by simp; omega) hbb (by omega) (by simp; omega) hb
    have hl := p1.length_eq
    simp only [wo] at r1
    obtain ⟨c, hc⟩ : ∃ c, b = c + 1 := ⟨b - 1, by omega⟩
    obtain ⟨d, hd⟩ : ∃ d, p = a + d := ⟨p - a, by omega⟩
    obtain ⟨p', hp'⟩ : ∃ p', c = d + p' := ⟨c - d, by omega⟩
    have w1 : IntKind.i64.wrap ((b : Int) - 1) = (c : Int) := qbn hc (by omega)
    have w2 : IntKind.i64.wrap ((p : Int) - (a : Int)) = (d : Int) := qg6 hd (by omega)
    have w3 : IntKind.i64.wrap ((c : Int) - (d : Int)) = (p' : Int) := qg6 hp' (by omega)
    cases wb with
    | true =>
      cases wp with
      | true =>
        obtain ⟨r, S3, q0, q1, r2⟩ := qzr g cl n (P ++ A) S2 (B ++ Q) a b (by simp; omega) (by omega) (by omega) (by simp; omega) hb (fun u hu x hx => hpre u hu x (p1.mem_iff.1 hx))
        simp only [wo] at r2
        cases r with
        | true =>
          refine .inl ⟨?_, S3, fun t => ?_, ?_, ?_, q0.trans p1, q1 rfl, ?_⟩
          case refine_2 =>
            simp only [qkd, qsu, qgw, qd, hm, e0, e1, e2, e8, e9, e11, e12, r1, r2, w1, w2, w3, wh, zgy, ↓qf, ↓wc, wa, we]
            exact rfl
          all_goals rfl
        | false =>
          refine .inr ⟨?_, S3, p', fun t => ?_, ?_, q0.trans p1, by omega, by omega, ?_⟩
          case refine_2 =>
            simp only [qkd, qsu, qgw, qd, hm, e0, e1, e2, e8, e9, e11, e12, r1, r2, w1, w2, w3, wh, zgy, ↓qf, ↓wc, wa, we]
            exact rfl
          case refine_3 => rfl
          case refine_4 => simp only [e0, e1, e2, e3, e8, e9, e10, wh, zgy, ↓wc, wa, we]
      | false =>
        refine .inr ⟨?_, S2, p', fun t => ?_, ?_, p1, by omega, by omega, ?_⟩
        case refine_2 =>
          simp only [qkd, qsu, qgw, qd, hm, e0, e1, e2, e8, e9, e11, e12, r1, w1, w2, w3, wh, zgy, ↓qf, ↓wc, wa, we]
          exact rfl
        case refine_3 => rfl
        case refine_4 => simp only [e0, e1, e2, e3, e8, e9, e10, wh, zgy, ↓wc, wa, we]
    | false =>
      refine .inr ⟨?_, S2, p', fun t => ?_, ?_, p1, by omega, by omega, ?_⟩
      case refine_2 =>
        simp only [qkd, qsu, qgw, qd, hm, e0, e1, e2, e8, e11, e12, r1, w1, w2, w3, wh, zgy, ↓qf, ↓wc, wa, we]
        exact rfl
      case refine_3 => rfl
      case refine_4 => simp only [e0, e1, e2, e3, e8, e9, e10, wh, zgy, ↓wc, wa, we]
  by_cases h1 : h = 1
  · subst h1
    cases wb with
    | true =>
      cases wp with
      | true =>
        obtain ⟨r, S3, q0, q1, r2⟩ := qzr g cl n (P ++ A) S1 (B ++ Q) a b (by simp; omega) (by omega) (by omega) (by simp; omega) hb hpre
        simp only [wo] at r2
        cases r with
        | true =>
          refine .inl ⟨?_, S3, fun t => ?_, ?_, ?_, q0, q1 rfl, ?_⟩
          case refine_2 =>
            simp only [qkd, qsu, qgw, qd, hm, e0, e1, e2, e8, e9, e12, r2, wh, zgy, ↓qf, ↓wc, wa, wA, we]
            exact rfl
          all_goals rfl
        | false =>
          refine .inr ⟨?_, S3, p, fun t => ?_, ?_, q0, hp.1, hp.2, ?_⟩
          case refine_2 =>
            simp only [qkd, qsu, qgw, qd, hm, e0, e1, e2, e8, e9, e12, r2, wh, zgy, ↓qf, ↓wc, wa, wA, we]
            exact rfl
          case refine_3 => rfl
          case refine_4 => simp only [e0, e1, e2, e3, e8, e9, e10, e11, wh, zgy, ↓wc, wa, we]
      | false =>
        refine .inr ⟨?_, S1, p, fun t => ?_, ?_, .refl _, hp.1, hp.2, ?_⟩
        case refine_2 =>
          simp only [qkd, qsu, qgw, qd, hm, e8, e9, e12, wh, zgy, ↓qf, ↓wc, wa, wA]
          exact rfl
        case refine_3 => rfl
        case refine_4 => simp only [e0, e1, e2, e3, e8, e9, e10, e11, wh, zgy, ↓wc, wa, we]
    | false =>
      refine .inr ⟨?_, S1, p, fun t => ?_, ?_, .refl _, hp.1, hp.2, ?_⟩
      case refine_2 =>
        simp only [qkd, qsu, qgw, qd, hm, e8, e12, wh, zgy, ↓qf, ↓wc, wa, wA]
        exact rfl
      case refine_3 => rfl
      case refine_4 => simp only [e0, e1, e2, e3, e8, e9, e10, e11, wh, zgy, ↓wc, wa, we]
  · cases wb <;> cases wp <;>
    (refine .inr ⟨?_, S1, p, fun t => ?_, ?_, .refl _, hp.1, hp.2, ?_⟩
     case refine_2 =>
       simp only [qkd, qsu, qgw, qd, hm, e8, e9, e12, h1, h2, wh, zgy, ↓qf, ↓wc, wa]
       exact rfl
     case refine_3 => rfl
     case refine_4 => simp only [e0, e1, e2, e3, e8, e9, e10, e11, wh, zgy, ↓wc, wa, we])
structure Next (P S0 Q:List Int) (lim k:Nat) (y:CExit×Env×qh):Prop where
 out:y.1 = .normal∨y.1 = .exit 1
 marks:y.2.1.marks=[]
 next : ∃(A S1 B:List Int) (wb wp:Bool) (a b:Nat),a=P.length+A.length∧b=a+S1.length∧G P S0 A S1 B∧S1.length<k∧y.2.2=[.row 1 ((P++(A++(S1++(B++Q)))).map qk) g,.row 1 [[.sl 0 g 0 n false]] 0,.dead,.loop ⟨[(2,.ptr 1 0 0 0)],[]⟩ [7] qb qa .exhausted none]∧qbk y.2.1.vars 0=some (.sl 0 g 0 n cl)∧qbk y.2.1.vars 1=some (ii a)∧qbk y.2.1.vars 2=some (ii b)∧qbk y.2.1.vars 3=some (ii lim)∧qbk y.2.1.vars 8=some (bb wb)∧qbk y.2.1.vars 9=some (bb wp)
theorem pdq_tail (hb:n<2^60) (P S0 A S1 B Q:List Int) (a b lim p:Nat) (wb wp:Bool) (IH:PdqAt g cl n S1.length) (hG:G P S0 A S1 B) (ha:a=P.length+A.length) (hbb:b=a+S1.length) (hn:n=(P++(A++(S1++(B++Q)))).length) (hS:13≤S1.length∧S1.length≤80) (hl2:lim<1000) (hp:a≤p∧p<b) (e:Env) (hm:e.marks=[])
  (e0:qbk e.vars 0=some (.sl 0 g 0 n cl)) (e1:qbk e.vars 1=some (ii a)) (e2:qbk e.vars 2=some (ii b)) (e3:qbk e.vars 3=some (ii lim)) (e8:qbk e.vars 8=some (bb wb)) (e9:qbk e.vars 9=some (bb wp)) (e10:qbk e.vars 10=some (ii S1.length)) (e11:qbk e.vars 11=some (ii p)) :
  ∃y,exec (evL T) itL none qyj e [.row 1 ((P++(A++(S1++(B++Q)))).map qk) g,.row 1 [[.sl 0 g 0 n false]] 0,.dead,.loop ⟨[(2,.ptr 1 0 0 0)],[]⟩ [7] qb qa .exhausted none]=some y∧Next g cl n P S0 Q lim S1.length y:=by
 have hlen:n=P.length+(A.length+(S1.length+(B.length+Q.length))):=by rw[hn];simp
 obtain⟨D,hD⟩ : ∃D,D=P++(A++(S1++(B++Q))):=⟨_,rfl⟩
 have hDl:D.length=n:=by rw[hD];exact hn.symm
 obtain⟨v,hv⟩ : ∃v,D[p]? = some v:=⟨_,zgE (by omega)⟩
 have rp:p<n:=by omega
 have hv1:v∈S1:=by
  have:D[p]? = S1[p-a]?:=qks (L:=P++A) (M:=B++Q) (by rw[hD];simp) (by omega) (by simp;omega)
  rw[hv]at this
  exact zmg this.symm
 obtain⟨q,hq⟩ : ∃q,q=S1.length / 8:=⟨_,rfl⟩
 have w8:IntKind.i64.wrap ((S1.length:Int).tdiv 8)=(q:Int):=by
  rw[show (S1.length:Int).tdiv 8=(q:Int) by rw[Int.tdiv_eq_ediv_of_nonneg (by omega)];omega];exact qan (by omega) (by omega)
 -- the parting,with its two ways on
 have part : ∀(c1:(∃m u,a=m+1∧D[m]? = some u∧u<v)∨a=0),∃y,exec (evL T) itL none qyj e [.row 1 ((D).map qk) g,.row 1 [[.sl 0 g 0 n false]] 0,.dead,.loop ⟨[(2,.ptr 1 0 0 0)],[]⟩ [7] qb qa .exhausted none]=some y∧Next g cl n P S0 Q lim S1.length y:=by
  intro c1
  obtain⟨L,R,v',r,f1,f2,f3,f4⟩:=part_ev g cl n (P++A) S1 (B++Q) a b p (by simp;omega) hbb hp (by simp;omega) hb
  have hl:=f1.length_eq
  simp only[zgp,zga]at hl
  simp only[wo,zgm]at f4
  rw[←hD]at f4
  have w1:IntKind.i64.wrap (((a+L.length:Nat):Int)-(a:Int))=(L.length:Int):=qg6 rfl (by omega)
  have w2:IntKind.i64.wrap ((b:Int)-((a+L.length:Nat):Int))=((R.length+1:Nat):Int):=qg6 (by omega) (by omega)
  have w3:IntKind.i64.wrap (((a+L.length:Nat):Int)+1)=((a+L.length+1:Nat):Int):=qal (by omega)
  by_cases hlr:L.length<R.length+1
  ·have c2:(L.length:Int)<((R.length+1:Nat):Int):=by omega
   obtain⟨L',g1,g2,g3⟩:=IH (P++A) L (v'::(R++(B++Q))) a (a+L.length) lim (by omega) (by omega) (by simp;omega) rfl (by simp;omega) (fun u hu x hx=>hG.pre u hu x (f1.mem_iff.1 (List.mem_append_left _ hx))) hl2
   simp only[wo]at g3
   have hl':=g1.length_eq
   have hG2:=hG.left f1 f2 f3 g1 g2
   rcases c1 with ⟨m,u,hm1,hu,huv⟩|h0
   ·have c3:(a:Int)>0:=by omega
    have w4:IntKind.i64.wrap ((a:Int)-1)=(m:Int):=qbn hm1 (by omega)
    have hc:=qbd u v
    simp only[huv,zgv]at hc
    have rm:m<n:=by omega
    refine Exists.intro ?y_1 (And.intro ?h1_1 ?h2_1)
    case h1_1=>
     simp only[qyj,qkd,qsu,qd,zgs,zgr,zgq,zgt,hm,e0,e1,e2,e3,e10,e11,f4,w1,w2,w3,w8,c2,g3,hv,rp,c3,w4,hu,rm,hc,qk,wh,qc,zgy,↓qf,↓wc,wa,wA,we]
     exact rfl
    case h2_1=>
     refine⟨.inl rfl,rfl,A++(L'++[v']),R,B,decide ((L.length:Int)≥(q:Int)),r,a+L.length+1,b,by first|omega|(simp;omega),by first|omega|(simp;omega),hG2,by omega,?_,?_⟩
     ·simp only[wo,zgm,zgl]
     ·simp only[e0,e2,e3,wh,zgy,↓wc,wa,we]
   ·have c3:¬(a:Int)>0:=by omega
    refine Exists.intro ?y_2 (And.intro ?h1_2 ?h2_2)
    case h1_2=>
     simp only[qyj,qkd,qsu,qd,hm,e0,e1,e2,e3,e10,e11,f4,w1,w2,w3,w8,c2,g3,c3,wh,zgy,↓qf,↓wc,wa,wA,we]
     exact rfl
    case h2_2=>
     refine⟨.inl rfl,rfl,A++(L'++[v']),R,B,decide ((L.length:Int)≥(q:Int)),r,a+L.length+1,b,by first|omega|(simp;omega),by first|omega|(simp;omega),hG2,by omega,?_,?_⟩
     ·simp only[wo,zgm,zgl]
     ·simp only[e0,e2,e3,wh,zgy,↓wc,wa,we]
  ·have c2:¬(L.length:Int)<((R.length+1:Nat):Int):=by omega
   obtain⟨R',g1,g2,g3⟩:=IH (P++(A++(L++[v']))) R (B++Q) (a+L.length+1) b lim (by omega) (by omega) (by simp;omega) (by omega) (by simp;omega) (fun u hu x hx=>by
    rw[←wo,←wo]at hu
    have:=qq2 (Y:=[v']) (by simp) hu
    rw[List.mem_singleton]at this;subst this
    have:=f3 x hx;omega) hl2
   simp only[wo,zgm,zgl]at g3
   have hl':=g1.length_eq
   have hG2:=hG.right f1 f2 f3 g1 g2
   rcases c1 with ⟨m,u,hm1,hu,huv⟩|h0
   ·have c3:(a:Int)>0:=by omega
    have w4:IntKind.i64.wrap ((a:Int)-1)=(m:Int):=qbn hm1 (by omega)
    have hc:=qbd u v
    simp only[huv,zgv]at hc
    have rm:m<n:=by omega
    refine Exists.intro ?y_3 (And.intro ?h1_3 ?h2_3)
    case h1_3=>
     simp only[qyj,qkd,qsu,qd,zgs,zgr,zgq,zgt,hm,e0,e1,e2,e3,e10,e11,f4,w1,w2,w3,w8,c2,g3,hv,rp,c3,w4,hu,rm,hc,qk,wh,qc,zgy,↓qf,↓wc,wa,wA,we]
     exact rfl
    case h2_3=>
     refine⟨.inl rfl,rfl,A,L,v'::R'++B,decide (((R.length+1:Nat):Int)≥(q:Int)),r,a,a+L.length,by first|omega|(simp;omega),by first|omega|(simp;omega),hG2,by omega,?_,?_⟩
     ·simp only[wo,zgm]
     ·simp only[e0,e1,e3,wh,zgy,↓wc,wa,we]
   ·have c3:¬(a:Int)>0:=by omega
    refine Exists.intro ?y_4 (And.intro ?h1_4 ?h2_4)
    case h1_4=>
     simp only[qyj,qkd,qsu,qd,hm,e0,e1,e2,e3,e10,e11,f4,w1,w2,w3,w8,c2,g3,c3,wh,zgy,↓qf,↓wc,wa,wA,we]
     exact rfl
    case h2_4=>
     refine⟨.inl rfl,rfl,A,L,v'::R'++B,decide (((R.length+1:Nat):Int)≥(q:Int)),r,a,a+L.length,by first|omega|(simp;omega),by first|omega|(simp;omega),hG2,by omega,?_,?_⟩
     ·simp only[wo,zgm]
     ·simp only[e0,e1,e3,wh,zgy,↓wc,wa,we]
 rw[←hD]
 by_cases ha0:a=0
 ·exact part (.inr ha0)
 obtain⟨m,hm1⟩ : ∃m,a=m+1:=⟨a-1,by omega⟩
 obtain⟨u,hu⟩ : ∃u,D[m]? = some u:=⟨_,zgE (by omega)⟩
 by_cases huv:u<v
 ·exact part (.inl ⟨m,u,hm1,hu,huv⟩)
 have hlast:(P++A)[(P++A).length-1]? = some u:=by
  have hpl:(P++A).length=m+1:=by simp;omega
  have hk:D[m]? = (P++A)[m]?:=by rw[hD,←wo,List.getElem?_append_left (by omega)]
  rw[hpl,Nat.add_sub_cancel,←hk];exact hu
 obtain⟨L,R,f1,f2,f3,f4,f5⟩:=peq_ev g cl n (P++A) S1 (B++Q) a b p (by simp;omega) hbb hp (by simp;omega) hb v (by rw[←hv,hD];simp)
 have hl:=f1.length_eq
 simp only[zgp]at hl
 simp only[wo]at f5
 rw[←hD]at f5
 have hG2:=hG.eq f1 f2 f3 (by intro h;rw[h]at f4;simp at f4) hlast (by omega)
 have c3:(a:Int)>0:=by omega
 have w4:IntKind.i64.wrap ((a:Int)-1)=(m:Int):=qbn hm1 (by omega)
 have hc:=qbd u v
 simp only[huv,zgw]at hc
 have rm:m<n:=by omega
 refine Exists.intro ?y_5 (And.intro ?h1_5 ?h2_5)
 case h1_5=>
  simp only[qyj,qkd,qsu,qd,zgs,zgr,zgq,zgt,hm,e0,e1,e2,e11,f5,hv,rp,c3,w4,hu,rm,hc,qk,wh,qc,zgy,↓qf,↓wc,wa,we]
  exact rfl
 case h2_5=>
  refine⟨.inr rfl,rfl,A++L,R,B,wb,wp,a+L.length,b,by first|omega|(simp;omega),by first|omega|(simp;omega),hG2,by omega,?_,?_⟩
  ·simp only[wo]
  ·simp only[e0,e2,e3,e8,e9,wh,zgy,↓wc,wa,we]
end
set_option maxRecDepth 10000
structure PS where
 A:List Int
 S:List Int
 B:List Int
 lim:Nat
 wb:Bool
 wp:Bool
section
variable (g:Nat) (cl:Bool) (n:Nat)
theorem pdq_loop (hb:n<2^60) (k:Nat) (IH:PdqAt g cl n k) (P S0 Q:List Int) (a b lim:Nat) (hk:S0.length≤k) (h16:S0.length≤80) (ha:a=P.length) (hbb:b=a+S0.length) (hn:n=(P++(S0++Q)).length) (hpre : ∀u,P[P.length-1]? = some u → ∀x∈S0,u≤x) (hl2:lim<1000) :
  ∃y,itB (exec (evL T) itL none qd) (qca [0,1,2,3,8,9] true 4) ⟨[(0,(.sl 0 g 0 n cl)),(1,(ii a)),(2,(ii b)),(3,(ii lim)),(8,(bb true)),(9,(bb true))],[]⟩ [.row 1 ((P++(S0++Q)).map qk) g,.row 1 [[.sl 0 g 0 n false]] 0,.dead,.loop ⟨[(2,.ptr 1 0 0 0)],[]⟩ [7] qb qa .exhausted none]=some y ∧
   (y.1 = .ret∧y.2.1.marks=[] ∧ ∃S':List Int,S'.Perm S0∧LeI S'∧y.2.2=[.row 1 ((P++(S'++Q)).map qk) g,.row 1 [[.sl 0 g 0 n false]] 0,.dead,.loop ⟨[(2,.ptr 1 0 0 0)],[]⟩ [7] qb qa .exhausted none]):=by
 have key:=qcj (f:=exec (evL T) itL none qd) (s:=qca [0,1,2,3,8,9] true 4) (τ:=PS)
  (fun s=>⟨[(0,(.sl 0 g 0 n cl)),(1,(ii ((P.length+s.A.length:Nat)))),(2,(ii ((P.length+s.A.length+s.S.length:Nat)))),(3,(ii s.lim)),(8,(bb s.wb)),(9,(bb s.wp))],[]⟩) (fun s=>[.row 1 ((P++(s.A++(s.S++(s.B++Q)))).map qk) g,.row 1 [[.sl 0 g 0 n false]] 0,.dead,.loop ⟨[(2,.ptr 1 0 0 0)],[]⟩ [7] qb qa .exhausted none]) (fun s=>s.S.length)
  (fun s=>G P S0 s.A s.S s.B∧s.S.length≤k∧s.S.length≤80∧s.lim<1000)
  (fun y=>y.1 = .ret∧y.2.1.marks=[] ∧ ∃S':List Int,S'.Perm S0∧LeI S'∧y.2.2=[.row 1 ((P++(S'++Q)).map qk) g,.row 1 [[.sl 0 g 0 n false]] 0,.dead,.loop ⟨[(2,.ptr 1 0 0 0)],[]⟩ [7] qb qa .exhausted none]) ?_ ⟨[],S0,[],lim,true,true⟩ ?_
 ·subst ha;subst hbb
  simpa only[List.nil_append,List.length_nil,Nat.add_zero]using key
 ·rintro⟨A,S1,B,lm,wb,wp⟩ ⟨hG,h2,h3,h4⟩
  simp only at hG h2 h3 h4⊢
  have hpl:=hG.perm.length_eq
  simp only[zgp]at hpl
  have hn2:n=(P++(A++(S1++(B++Q)))).length:=by rw[hn];simp;omega
  obtain⟨a',ha'⟩ : ∃a',a'=P.length+A.length:=⟨_,rfl⟩
  obtain⟨b',hb'⟩ : ∃b',b'=a'+S1.length:=⟨_,rfl⟩
  rw[←ha',←hb']
  have fin : ∀S2:List Int,S2.Perm S1→LeI S2 → ∃S':List Int,S'.Perm S0∧LeI S'∧([.row 1 ((P++(A++(S2++(B++Q)))).map qk) g,.row 1 [[.sl 0 g 0 n false]] 0,.dead,.loop ⟨[(2,.ptr 1 0 0 0)],[]⟩ [7] qb qa .exhausted none]:qh)=[.row 1 ((P++(S'++Q)).map qk) g,.row 1 [[.sl 0 g 0 n false]] 0,.dead,.loop ⟨[(2,.ptr 1 0 0 0)],[]⟩ [7] qb qa .exhausted none]:=fun S2 p s=>by
   obtain⟨f1,f2⟩:=hG.done p s
   exact⟨A++(S2++B),f1,f2,by simp⟩
  rcases pdq_st1 g cl n hb P A S1 B Q a' b' lm wb wp ha' hb' hn2 h3 h4 with ⟨⟨y,ye,yσ⟩,S2,k1,k2,k3,k4,k5,k6⟩|⟨e,S2,p,lm',h,k1,k2,k3,k4,k5,k6,k8,e0,e1,e2,e3,e8,e9,e10,e11,e12⟩
  ·simp only at k2 k3 k6
   subst k2;subst k6
   right
   refine⟨(.ret,ye,[.row 1 ((P++(A++(S2++(B++Q)))).map qk) g,.row 1 [[.sl 0 g 0 n false]] 0,.dead,.loop ⟨[(2,.ptr 1 0 0 0)],[]⟩ [7] qb qa .exhausted none]),?_,rfl,k3,fin S2 k4 k5⟩
   have hk1:=k1 (qgw qkd qyj)
   rw[it1,qoh]
   simp only[exec,hk1,↓qf]
  have hl:=k3.length_eq
  have hG2:=hG.reorder k3
  rcases pdq_st2 g cl n hb P A S2 B Q a' b' lm' p h wb wp ha' (by omega) (by rw[hn2];simp[hl]) (by omega) hG2.pre ⟨k5,k6⟩ e k2 e0 e1 e2 e3 e8 e9 (by rw[e10,hl]) e11 e12 with ⟨⟨y,ye,yσ⟩,S3,l1,l2,l3,l4,l5,l6⟩|⟨e',S3,p',l1,l2,l3,l4,l5,d0,d1,d2,d3,d8,d9,d10,d11⟩
  ·simp only at l2 l3 l6
   subst l2;subst l6
   right
   refine⟨(.ret,ye,[.row 1 ((P++(A++(S3++(B++Q)))).map qk) g,.row 1 [[.sl 0 g 0 n false]] 0,.dead,.loop ⟨[(2,.ptr 1 0 0 0)],[]⟩ [7] qb qa .exhausted none]),?_,rfl,l3,fin S3 (l4.trans k3) l5⟩
   have hk1:=k1 (qgw qkd qyj)
   have hl1:=l1 qyj
   rw[it1,qoh]
   simp only[exec,hk1,hl1,↓qf]
  have hl3:=l3.length_eq
  have hG3:=hG2.reorder l3
  obtain⟨⟨y,ye,yσ⟩,m1,m2,m3,A',S',B',wb',wp',a2,b2,q1,q2,q3,q4,q5,q6,q7,q8,q9,q10,q11⟩:=pdq_tail g cl n hb P S0 A S3 B Q a' b' lm' p' wb wp (fun P S Q a b lim c=>IH P S Q a b lim (by omega)) hG3 ha' (by omega) (by rw[hn2];simp[hl,hl3]) (by omega) k8 ⟨l4,l5⟩ e' l2 d0 d1 d2 d3 d8 d9 (by rw[d10,hl3]) d11
  simp only at m2 m3 q5 q6 q7 q8 q9 q10 q11
  subst q5
  have hk1:=k1 (qgw qkd qyj)
  have hl1:=l1 qyj
  left
  refine⟨⟨A',S',B',lm',wb',wp'⟩,?_,⟨q3,by simp only;omega,by simp only;omega,k8⟩,by simp only;omega⟩
  simp only
  rw[←q1,←q2]
  rcases m2 with rfl|rfl
  ·rw[it1,qoh]
   simp only[exec,hk1,hl1,m1,m3,q6,q7,q8,q9,q10,q11,qe,wh,wq,zgy,↓qf,↓wc,wl]
  ·rw[it1,qoh]
   simp only[exec,hk1,hl1,m1,m3,q6,q7,q8,q9,q10,q11,qe,wh,wq,zgy,↓qf,↓wc,wl]
 ·exact⟨⟨by simp,.nil,.nil,fun x hx=>by simp at hx,fun x hx=>by simp at hx,fun x _ y hy=>by simp at hy,by simpa using hpre⟩,hk,h16,hl2⟩
theorem pdq_at (hb:n<2^60) : ∀k,PdqAt g cl n k:=by
 intro k
 induction k with
 |zero=>intro P S Q a b lim h;omega
 |succ k ih=>
  intro P S Q a b lim hk h16 ha hbb hn hpre hl2
  obtain⟨⟨y,e,σ⟩,k1,k2,k3,S',k4,k5,k6⟩:=pdq_loop g cl n hb k ih P S Q a b lim (by omega) h16 ha hbb hn hpre hl2
  simp only at k1 k2 k3 k6
  subst k2;subst k6
  refine⟨S',k4,k5,?_⟩
  rw[qj qih qh2]
  simp only[qc0,k1,k3,qe,wh,qn,wq,zgy,↓qf,↓qaq,↓wc,wd,wa,wl,we]
theorem qte (S:List Int) (hn:n=S.length) (h16:S.length≤80) :
  ∃S':List Int,S'.Perm S∧LeI S'∧(evL T).call qbt [.sl 0 g 0 n cl] [.row 1 ((S).map qk) g,.row 1 [[.sl 0 g 0 n false]] 0,.dead,.loop ⟨[(2,.ptr 1 0 0 0)],[]⟩ [7] qb qa .exhausted none]=some (.tup [],[.row 1 ((S').map qk) g,.row 1 [[.sl 0 g 0 n false]] 0,.dead,.loop ⟨[(2,.ptr 1 0 0 0)],[]⟩ [7] qb qa .exhausted none]):=by
 subst hn
 obtain⟨m,hm1,hm3⟩:=len_ev S.length h16
 obtain⟨S',h1,h2,h3⟩:=pdq_at g cl S.length (by omega) (S.length+1) [] S [] 0 S.length m (by omega) h16 rfl (by simp) (by simp) (by simp) (by omega)
 simp only[zgl,zgn]at h3
 have u1:IntKind.u64.wrap (S.length:Int)=(S.length:Int):=qvj (by omega)
 have h0:((0:Nat):Int)=0:=rfl
 refine⟨S',h1,h2,?_⟩
 rw[h0]at h3
 rw[qj qkq qkb]
 simp only[qea,u1,hm1,h3,qe,wh,qn,wq,zgy,↓qf,↓wc,wd,wa,wl,we]
end
structure Slt where
 gen:Int
 state:Int
 time:Int
 seq:Int
 deriving DecidableEq
structure Ar where
 slots:List Slt
 idle:List Int
 next:Int
 deriving DecidableEq
def qf3:Int:=1099511627776
def qok:Int:=1152921504606846976
def qtz:Int:=70368744177727
def qe0 (h:Int):Int:=if 0≤h∧h≤qtz then h%64 else -1
def qne (h:Int):Int:=if 0≤h∧h≤qtz then h / 64 else -1
def mkH (i g:Int):Int:=64*g+i
def qgu (s:Slt) (next:Int):Prop:=0≤s.gen∧s.gen≤qf3∧((s.state=0∧s.time=0∧s.seq=0)∨(1≤s.state∧s.state≤3∧0≤s.time∧s.time≤qok∧0≤s.seq∧s.seq<next))
def qc8 (l:List Slt):List Int:=((List.range l.length).filter fun i=>decide ((l[i]?.map Slt.state)=some 0)).map fun i:Nat=>(i:Int)
structure ArOk (a:Ar):Prop where
 len:1≤a.slots.length∧a.slots.length≤64
 next:0≤a.next∧a.next≤qf3
 slot : ∀s∈a.slots,qgu s a.next
 seqs : ∀(i j:Nat) (s t:Slt),i<j→a.slots[i]? = some s→a.slots[j]? = some t→s.state≠0→t.state≠0→s.seq≠t.seq
 idle:a.idle.Perm (qc8 a.slots)
def qg7 (a:Ar) (h:Int):Option (Nat×Slt):=
 if 0≤qe0 h then match a.slots[(qe0 h).toNat]? with
  |some s=>if s.gen=qne h∧s.state≠0 then some ((qe0 h).toNat,s)else none
  |none=>none
 else none
def qp2 (a:Ar) (i:Nat) (s:Slt):Ar:={ a with slots:=a.slots.set i s }
def qhj (a:Ar) (t:Int):Except Int (Ar×Int):=
 if t<0∨t>qok then .error 1
 else match a.idle.getLast? with
  |none => .error 10
  |some i=>if qf3≤a.next then .error 10 else
   match a.slots[i.toNat]? with
   |none => .error (-1)
   |some s => .ok (⟨a.slots.set i.toNat ⟨s.gen,1,t,a.next⟩,a.idle.dropLast,a.next+1⟩,mkH i s.gen)
def qjq (a:Ar) (h f t:Int):Option Ar:=match qg7 a h with
 |none=>none
 |some (i,s)=>if s.state=f∧1≤t∧t≤3 then some (qp2 a i { s with state:=t })else none
def qv8 (a:Ar) (h:Int):Option Ar:=match qg7 a h with
 |none=>none
 |some (i,s)=>if s.gen<qf3 then some ⟨a.slots.set i ⟨s.gen+1,0,0,0⟩,a.idle++[(i:Int)],a.next⟩else none
theorem qha {l:List Slt} {x:Int}:x∈qc8 l ↔ ∃i:Nat,x=i ∧ ∃s,l[i]? = some s∧s.state=0:=by
 unfold qc8
 simp only[List.mem_map,List.mem_filter,List.mem_range,decide_eq_true_eq]
 constructor
 ·rintro⟨i,⟨hi,h⟩,rfl⟩
  cases hs:l[i]? with
  |none=>rw[hs]at h;cases h
  |some s=>rw[hs]at h;simp at h;exact⟨i,rfl,s,hs,h⟩
 ·rintro⟨i,rfl,s,hs,h⟩
  exact⟨i,⟨(wj.1 hs).1,by rw[hs];simp[h]⟩,rfl⟩
theorem qn2 (l:List Slt):(qc8 l).Nodup:=by
 unfold qc8
 rw[List.nodup_iff_pairwise_ne,List.pairwise_map]
 exact(List.nodup_range.filter _).imp fun h e=>h (by omega)
theorem qnk {l:List Slt} {i:Nat} {s:Slt} (hi:i<l.length) (hs:(l[i]).state=0) (h:s.state≠0):(qc8 l).Perm ((i:Int)::qc8 (l.set i s)):=by
 have n1:=qn2 l
 have n2:((i:Int)::qc8 (l.set i s)).Nodup:=by
  rw[List.nodup_cons]
  refine⟨fun hm => ?_,qn2 _⟩
  obtain⟨j,hj,t,ht,h0⟩:=qha.1 hm
  have:i=j:=by omega
  subst this
  rw[wi hi]at ht;cases ht;exact h h0
 rw[List.perm_iff_count]
 intro a
 rw[n1.count,n2.count]
 have:a∈qc8 l↔a∈(i:Int)::qc8 (l.set i s):=by
  rw[List.mem_cons,qha,qha]
  constructor
  ·rintro⟨j,rfl,t,ht,h0⟩
   by_cases e:i=j
   ·exact .inl (by omega)
   ·exact .inr ⟨j,rfl,t,by rw[wm e];exact ht,h0⟩
  ·rintro(rfl|⟨j,rfl,t,ht,h0⟩)
   ·exact⟨i,rfl,l[i],wE hi,hs⟩
   ·by_cases e:i=j
    ·subst e;rw[wi hi]at ht;cases ht;exact absurd h0 h
    ·rw[wm e]at ht;exact⟨j,rfl,t,ht,h0⟩
 simp only[this]
theorem qtp {l:List Slt} {i:Nat} {s:Slt} (hi:i<l.length) (hs:(l[i]).state≠0) (h:s.state=0):(qc8 (l.set i s)).Perm ((i:Int)::qc8 l):=by
 have h1:=qnk (l:=l.set i s) (i:=i) (s:=l[i]) (by simpa using hi) (by simpa using h) hs
 rw[List.set_set,List.set_getElem_self]at h1
 exact h1
theorem qsy {l:List Slt} {i:Nat} {s:Slt} (hi:i<l.length) (hs:(l[i]).state≠0) (h:s.state≠0):qc8 (l.set i s)=qc8 l:=by
 unfold qc8
 rw[List.length_set]
 congr 1
 refine List.filter_congr fun j hj => ?_
 by_cases e:i=j
 ·subst e
  rw[wi hi,wE hi]
  simp[h,hs]
 ·rw[wm e]
theorem qeu {a:Ar} {h:Int} {i:Nat} {s:Slt} (hf:qg7 a h=some (i,s)):a.slots[i]? = some s∧s.state≠0∧h=mkH i s.gen∧i<64∧0≤s.gen∧s.gen≤qf3:=by
 unfold qg7 at hf
 split at hf
 next h0=>
  split at hf
  next t ht=>
   split at hf
   next hc=>
    cases hf
    refine⟨ht,hc.2,?_⟩
    have hg:=hc.1
    unfold qe0 qne qtz at *
    unfold mkH qf3
    split at h0
    ·rename_i hh
     rw[if_pos hh]at hg⊢
     omega
    ·omega
   ·cases hf
  ·cases hf
 ·cases hf
theorem qu0 {a:Ar} {i:Nat} {s:Slt} (hs:a.slots[i]? = some s) (hi:i<64) (hg:0≤s.gen∧s.gen≤qf3) (h0:s.state≠0):qg7 a (mkH i s.gen)=some (i,s):=by
 have h1:qe0 (mkH i s.gen)=i:=by unfold qe0 mkH qtz;unfold qf3 at hg;split<;>omega
 have h2:qne (mkH i s.gen)=s.gen:=by unfold qne mkH qtz;unfold qf3 at hg;split<;>omega
 unfold qg7
 rw[h1,h2,if_pos (by omega),wt,hs]
 simp only[true_and]
 rw[if_pos h0]
section
variable {a b:Ar} {h t f:Int}
theorem ArOk.alloc (A:ArOk a) {hd:Int} (ha:qhj a t = .ok (b,hd)):ArOk b ∧ ∃(i:Nat) (s:Slt),a.idle=a.idle.dropLast++[(i:Int)]∧a.slots[i]? = some s∧s.state=0∧hd=mkH i s.gen∧b=⟨a.slots.set i ⟨s.gen,1,t,a.next⟩,a.idle.dropLast,a.next+1⟩∧0≤t∧t≤qok∧a.next<qf3:=by
 unfold qhj at ha
 split at ha
 ·cases ha
 next ht=>
  split at ha
  ·cases ha
  next x hx=>
   split at ha
   ·cases ha
   next hn=>
    split at ha
    ·cases ha
    next s hs=>
     simp only[Except.ok.injEq,Prod.mk.injEq]at ha
     obtain⟨rfl,rfl⟩:=ha
     have hxm:x∈qc8 a.slots:=A.idle.mem_iff.1 (List.mem_of_getLast? hx)
     obtain⟨i,rfl,s',hs',h0⟩:=qha.1 hxm
     rw[wt]at hs⊢
     rw[hs]at hs';cases hs'
     have hi:=(wj.1 hs).1
     have hsi:a.slots[i]=s:=(wj.1 hs).2
     have hid:a.idle=a.idle.dropLast++[(i:Int)]:=by
      have hne:a.idle ≠ []:=fun e=>by rw[e]at hx;cases hx
      rw[List.getLast?_eq_some_getLast hne,Option.some.injEq]at hx
      rw[←hx]
      exact(List.dropLast_concat_getLast hne).symm
     have hok:=A.slot s (wx hs)
     refine⟨⟨by simpa using A.len,by have:=A.next;show 0≤a.next+1∧a.next+1≤qf3;omega,?_,?_,?_⟩,i,s,hid,hs,h0,rfl,rfl,by omega,by omega,by omega⟩
     ·intro u hu
      rcases List.mem_or_eq_of_mem_set hu with hu|rfl
      ·obtain⟨q1,q2,q3⟩:=A.slot u hu
       refine⟨q1,q2,?_⟩
       rcases q3 with q3|⟨r1,r2,r3,r4,r5,r6⟩
       ·exact .inl q3
       ·exact .inr ⟨r1,r2,r3,r4,r5,by show u.seq<a.next+1;omega⟩
      ·refine⟨hok.1,hok.2.1,.inr ⟨by simp,by simp,by simp only;omega,by simp only;omega,by simp only;exact A.next.1,by simp only;omega⟩⟩
     ·intro j k u v hjk hu hv hu0 hv0
      simp only at hu hv
      have lt : ∀(m:Nat) (w:Slt),a.slots[m]? = some w→w.state≠0→w.seq<a.next:=fun m w hw hw0=>by
       obtain⟨_,_,q⟩:=A.slot w (wx hw)
       rcases q with q|q
       ·exact absurd q.1 hw0
       ·exact q.2.2.2.2.2
      by_cases e1:i=j
      ·subst e1
       rw[wi hi]at hu;cases hu
       rw[wm (by omega)]at hv
       have:=lt k v hv hv0
       simp only;omega
      ·rw[wm e1]at hu
       by_cases e2:i=k
       ·subst e2
        rw[wi hi]at hv;cases hv
        have:=lt j u hu hu0
        simp only;omega
       ·rw[wm e2]at hv
        exact A.seqs j k u v hjk hu hv hu0 hv0
     ·simp only
      have h1:=qnk (l:=a.slots) (i:=i) (s:=⟨s.gen,1,t,a.next⟩) hi (by rw[hsi];exact h0) (by simp)
      have h2:=A.idle
      rw[hid]at h2
      have h3:(a.idle.dropLast++[(i:Int)]).Perm ((i:Int)::a.idle.dropLast):=List.perm_append_singleton _ _
      exact(List.perm_cons _).1 (h3.symm.trans (h2.trans h1))
theorem ArOk.live (A:ArOk a) {i:Nat} {s u:Slt} (hs:a.slots[i]? = some s) (h0:s.state≠0) (hu:u.gen=s.gen∧u.time=s.time∧u.seq=s.seq) (hst:1≤u.state∧u.state≤3):ArOk (qp2 a i u):=by
 have hi:=(wj.1 hs).1
 have hsi:a.slots[i]=s:=(wj.1 hs).2
 obtain⟨q1,q2,q3⟩:=A.slot s (wx hs)
 refine⟨by simpa[qp2]using A.len,A.next,?_,?_,?_⟩
 ·intro v hv
  rcases List.mem_or_eq_of_mem_set hv with hv|rfl
  ·exact A.slot v hv
  ·refine⟨by rw[hu.1];exact q1,by rw[hu.1];exact q2,.inr ?_⟩
   rcases q3 with q3|q3
   ·exact absurd q3.1 h0
   ·rw[hu.2.1,hu.2.2];exact⟨hst.1,hst.2,q3.2.2.1,q3.2.2.2.1,q3.2.2.2.2.1,q3.2.2.2.2.2⟩
 ·intro j k v w hjk hv hw hv0 hw0
  simp only[qp2]at hv hw
  have key : ∀(m:Nat) (x:Slt),(a.slots.set i u)[m]? = some x→x.state≠0 → ∃y,a.slots[m]? = some y∧y.state≠0∧y.seq=x.seq:=fun m x hx hx0=>by
   by_cases e:i=m
   ·subst e
    rw[wi hi]at hx;cases hx
    exact⟨s,hs,h0,hu.2.2.symm⟩
   ·rw[wm e]at hx;exact⟨x,hx,hx0,rfl⟩
  obtain⟨y,y1,y2,y3⟩:=key j v hv hv0
  obtain⟨z,z1,z2,z3⟩:=key k w hw hw0
  have:=A.seqs j k y z hjk y1 z1 y2 z2
  omega
 ·simp only[qp2]
  rw[qsy hi (by rw[hsi];exact h0) (by omega)]
  exact A.idle
theorem ArOk.trans (A:ArOk a) (h1:qjq a h f t=some b):ArOk b ∧ ∃(i:Nat) (s:Slt),qg7 a h=some (i,s)∧s.state=f∧1≤t∧t≤3∧b=qp2 a i { s with state:=t }:=by
 unfold qjq at h1
 split at h1
 ·cases h1
 next i s hf=>
  split at h1
  next hc=>
   cases h1
   obtain⟨g1,g2,_⟩:=qeu hf
   exact⟨A.live g1 g2 ⟨rfl,rfl,rfl⟩ hc.2,i,s,hf,hc.1,hc.2.1,hc.2.2,rfl⟩
  ·cases h1
theorem ArOk.rel (A:ArOk a) (h1:qv8 a h=some b):ArOk b ∧ ∃(i:Nat) (s:Slt),qg7 a h=some (i,s)∧s.gen<qf3∧b=⟨a.slots.set i ⟨s.gen+1,0,0,0⟩,a.idle++[(i:Int)],a.next⟩:=by
 unfold qv8 at h1
 split at h1
 ·cases h1
 next i s hf=>
  split at h1
  next hc=>
   cases h1
   obtain⟨g1,g2,g3⟩:=qeu hf
   have hi:=(wj.1 g1).1
   have hsi:a.slots[i]=s:=(wj.1 g1).2
   refine⟨⟨by simpa using A.len,A.next,?_,?_,?_⟩,i,s,hf,hc,rfl⟩
   ·intro v hv
    rcases List.mem_or_eq_of_mem_set hv with hv|rfl
    ·exact A.slot v hv
    ·exact⟨by simp only;omega,by simp only;omega,.inl ⟨rfl,rfl,rfl⟩⟩
   ·intro j k v w hjk hv hw hv0 hw0
    simp only at hv hw
    have key : ∀(m:Nat) (x:Slt),(a.slots.set i ⟨s.gen+1,0,0,0⟩)[m]? = some x→x.state≠0→a.slots[m]? = some x:=fun m x hx hx0=>by
     by_cases e:i=m
     ·subst e
      rw[wi hi]at hx;cases hx
      exact absurd rfl hx0
     ·rw[wm e]at hx;exact hx
    exact A.seqs j k v w hjk (key j v hv hv0) (key k w hw hw0) hv0 hw0
   ·simp only
    have h2:=qtp (l:=a.slots) (i:=i) (s:=⟨s.gen+1,0,0,0⟩) hi (by rw[hsi];exact g2) rfl
    exact(List.perm_append_singleton _ _).trans ((A.idle.cons _).trans h2.symm)
  ·cases h1
def qhe (a:Ar):Nat:=a.slots.countP fun s => !decide (s.state=0)
theorem ArOk.count (A:ArOk a):a.idle.length+qhe a=a.slots.length:=by
 have h1:a.idle.length=a.slots.countP fun s=>decide (s.state=0):=by
  rw[A.idle.length_eq]
  unfold qc8
  rw[List.length_map]
  generalize a.slots=l
  have : ∀n,n≤l.length→((List.range n).filter fun i=>decide ((l[i]?.map Slt.state)=some 0)).length=(l.take n).countP fun s=>decide (s.state=0):=by
   intro n
   induction n with
   |zero=>intro _;rfl
   |succ n ih=>
    intro hn
    have hg:l[n]? = some l[n]:=wE (by omega)
    rw[wL,List.filter_append,List.length_append,ih (by omega),List.take_add_one,List.countP_append,hg]
    congr 1
    rw[List.filter_cons,List.filter_nil,hg]
    simp only[zgt,Option.some.injEq,Option.toList_some,List.countP_cons,List.countP_nil]
    split<;>simp_all
  have h:=this l.length (Nat.le_refl _)
  rw[wF]at h
  exact h
 unfold qhe
 rw[h1]
 have:=List.length_eq_countP_add_countP (fun s:Slt=>decide (s.state=0)) (l:=a.slots)
 have e:(fun s:Slt=>decide ¬decide (s.state=0)=true)=fun s => !decide (s.state=0):=by funext s;cases decide (s.state=0)<;>rfl
 rw[e]at this
 omega
end
structure OpA where
 kind:Nat
 n:Int
 a:Nat
 b:Nat
def qwu (n:Nat):Ar:=⟨List.replicate n ⟨0,0,0,0⟩,((List.range n).map fun i:Nat=>(i:Int)).reverse,0⟩
def qiw (issued:List Int) (n:Int):Int:=
 if issued=[]∨n.tmod 5=4 then n else (issued[(n.tmod issued.length).natAbs]?).getD 0
def qjo (a:Ar) (is:List Int) (o:OpA):Ar×List Int:=
 if o.kind%4<2 then (match qhj a o.n with | .ok (b,h)=>(b,is++[h]) | .error _=>(a,is))
 else if o.kind%4=2 then ((qjq a (qiw is o.n) ((o.a%5:Nat):Int) ((o.b%5:Nat):Int)).getD a,is)
 else ((qv8 a (qiw is o.n)).getD a,is)
def qi0 (a:Ar) (is:List Int):List OpA→Ar×List Int
 | []=>(a,is)
 |o::l=>qi0 (qjo a is o).1 (qjo a is o).2 l
def Old (a:Ar) (h:Int):Prop:=∃(i:Nat) (s:Slt) (g:Int),h=mkH i g∧i<64∧a.slots[i]? = some s∧0≤g∧g≤qf3∧g<s.gen
def Was (a:Ar) (h:Int):Prop:=Old a h ∨ ∃(i:Nat) (s:Slt),h=mkH i s.gen∧i<64∧a.slots[i]? = some s∧s.state≠0
structure Iss (n k:Nat) (a:Ar) (is:List Int):Prop where
 ok:ArOk a
 len:a.slots.length=n
 next:a.next≤k
 was : ∀h∈is,Was a h
 nodup:is.Nodup
theorem q0c {i j:Nat} {g k:Int} (hi:i<64) (hj:j<64) (h:mkH i g=mkH j k):i=j∧g=k:=by unfold mkH at h;omega
theorem Old.find {a:Ar} {h:Int} (H:Old a h):qg7 a h=none:=by
 obtain⟨i,s,g,rfl,hi,hs,g0,g1,g2⟩:=H
 have h1:qe0 (mkH i g)=i:=by unfold qe0 mkH qtz;unfold qf3 at g1;split<;>omega
 have h2:qne (mkH i g)=g:=by unfold qne mkH qtz;unfold qf3 at g1;split<;>omega
 unfold qg7
 rw[h1,h2,if_pos (by omega),wt,hs]
 simp only
 rw[if_neg (by intro h;omega)]
theorem ArOk.gen {a:Ar} (A:ArOk a) {i:Nat} {s:Slt} (h:a.slots[i]? = some s):0≤s.gen∧s.gen≤qf3∧i<64:=
 ⟨(A.slot s (wx h)).1,(A.slot s (wx h)).2.1,by have:=(wj.1 h).1;have:=A.len;omega⟩
theorem Old.set {a:Ar} {h:Int} (H:Old a h) {i:Nat} {s u:Slt} (hs:a.slots[i]? = some s) (hg:s.gen≤u.gen) {x:List Int} {y:Int}:Old ⟨a.slots.set i u,x,y⟩ h:=by
 obtain⟨j,t,g,rfl,hj,ht,g0,g1,g2⟩:=H
 by_cases e:i=j
 ·subst e
  rw[hs]at ht;cases ht
  exact⟨i,u,g,rfl,hj,wi (wj.1 hs).1,g0,g1,by omega⟩
 ·exact⟨j,t,g,rfl,hj,by rw[wm e];exact ht,g0,g1,g2⟩
theorem Iss.alloc {n k:Nat} {a b:Ar} {is:List Int} (I:Iss n k a is) {t h:Int} (ha:qhj a t = .ok (b,h)):Iss n (k+1) b (is++[h])∧h∉is:=by
 obtain⟨B,i,s,h1,h2,h3,rfl,rfl,h6,h7,h8⟩:=I.ok.alloc ha
 obtain⟨g0,g1,hi⟩:=I.ok.gen h2
 have hn:mkH i s.gen∉is:=fun hm=>by
  rcases I.was _ hm with ⟨j,u,g,e,hj,hu,q0,q1,q2⟩|⟨j,u,e,hj,hu,hu0⟩
  ·obtain⟨rfl,rfl⟩:=q0c hi hj e
   rw[h2]at hu;cases hu;omega
  ·obtain⟨rfl,_⟩:=q0c hi hj e
   rw[h2]at hu;cases hu;exact hu0 h3
 refine⟨⟨B,by simpa using I.len,by have:=I.next;simp only;omega,?_,?_⟩,hn⟩
 ·intro x hx
  rcases List.mem_append.1 hx with hx|hx
  ·rcases I.was x hx with h|⟨j,u,e,hj,hu,hu0⟩
   ·exact .inl (h.set h2 (by exact wH _))
   ·refine .inr ⟨j,u,e,hj,?_,hu0⟩
    have:i≠j:=fun e=>by subst e;rw[h2]at hu;cases hu;exact hu0 h3
    simp only;rw[wm this];exact hu
  ·rw[List.mem_singleton]at hx;subst hx
   exact .inr ⟨i,⟨s.gen,1,t,a.next⟩,rfl,hi,wi (wj.1 h2).1,by simp⟩
 ·rw[List.nodup_append]
  exact⟨I.nodup,List.nodup_cons.2 ⟨List.not_mem_nil,List.nodup_nil⟩,fun x hx y hy e=>by rw[List.mem_singleton]at hy;subst hy;subst e;exact hn hx⟩
theorem Iss.trans {n k:Nat} {a b:Ar} {is:List Int} (I:Iss n k a is) {h f t:Int} (ha:qjq a h f t=some b):Iss n k b is:=by
 obtain⟨B,i,s,h1,h2,h3,h4,rfl⟩:=I.ok.trans ha
 obtain⟨q1,q2,_⟩:=qeu h1
 refine⟨B,by simpa[qp2]using I.len,I.next,fun x hx => ?_,I.nodup⟩
 rcases I.was x hx with h|⟨j,u,e,hj,hu,hu0⟩
 ·exact .inl (h.set q1 (by exact wH _))
 ·by_cases e2:i=j
  ·subst e2
   rw[q1]at hu;cases hu
   exact .inr ⟨i,{ s with state:=t },e,hj,wi (wj.1 q1).1,by simp only;omega⟩
  ·exact .inr ⟨j,u,e,hj,by simp only[qp2];rw[wm e2];exact hu,hu0⟩
theorem Iss.rel {n k:Nat} {a b:Ar} {is:List Int} (I:Iss n k a is) {h:Int} (ha:qv8 a h=some b):Iss n k b is∧Old b h:=by
 obtain⟨B,i,s,h1,h2,rfl⟩:=I.ok.rel ha
 obtain⟨q1,q2,q3,q4,q5,q6⟩:=qeu h1
 have hself:(a.slots.set i ⟨s.gen+1,0,0,0⟩)[i]? = some ⟨s.gen+1,0,0,0⟩:=wi (wj.1 q1).1
 refine⟨⟨B,by simpa using I.len,I.next,fun x hx => ?_,I.nodup⟩,i,_,s.gen,q3,q4,hself,q5,q6,by simp only;omega⟩
 rcases I.was x hx with h|⟨j,u,e,hj,hu,hu0⟩
 ·exact .inl (h.set q1 (by simp only;omega))
 ·by_cases e2:i=j
  ·subst e2
   rw[q1]at hu;cases hu
   exact .inl ⟨i,_,s.gen,e,hj,hself,q5,q6,by simp only;omega⟩
  ·exact .inr ⟨j,u,e,hj,by simp only;rw[wm e2];exact hu,hu0⟩
theorem Iss.step {n k:Nat} {a:Ar} {is:List Int} (I:Iss n k a is) (o:OpA):Iss n (k+1) (qjo a is o).1 (qjo a is o).2∧(∀h,Old a h→Old (qjo a is o).1 h) ∧
  ((qjo a is o).2=is ∨ ∃h,h∉is∧(qjo a is o).2=is++[h]):=by
 have up:Iss n (k+1) a is:=⟨I.ok,I.len,by have:=I.next;omega,I.was,I.nodup⟩
 unfold qjo
 split
 ·split
  next b h hb=>
   obtain⟨J,hn⟩:=I.alloc hb
   obtain⟨_,i,s,_,h2,_,_,rfl,_⟩:=I.ok.alloc hb
   exact⟨J,fun x hx=>hx.set h2 (by exact wH _),.inr ⟨h,hn,rfl⟩⟩
  ·exact⟨up,fun x hx=>hx,.inl rfl⟩
 ·split
  ·cases hb:qjq a (qiw is o.n) ((o.a%5:Nat):Int) ((o.b%5:Nat):Int)with
   |none=>exact⟨up,fun x hx=>hx,.inl rfl⟩
   |some b=>
    have J:=I.trans hb
    obtain⟨_,i,s,h1,_,_,_,rfl⟩:=I.ok.trans hb
    obtain⟨q1,_⟩:=qeu h1
    exact⟨⟨J.ok,J.len,by have:=J.next;show _≤((k+1:Nat):Int);simp only[Option.getD_some];omega,J.was,J.nodup⟩,fun x hx=>hx.set q1 (by exact wH _),.inl rfl⟩
  ·cases hb:qv8 a (qiw is o.n)with
   |none=>exact⟨up,fun x hx=>hx,.inl rfl⟩
   |some b=>
    obtain⟨J,_⟩:=I.rel hb
    obtain⟨_,i,s,h1,_,rfl⟩:=I.ok.rel hb
    obtain⟨q1,_⟩:=qeu h1
    exact⟨⟨J.ok,J.len,by have:=J.next;simp only[Option.getD_some]at this ⊢;omega,J.was,J.nodup⟩,fun x hx=>hx.set q1 (by simp only;omega),.inl rfl⟩
theorem Iss.made {n:Nat} : ∀(l:List OpA) {k:Nat} {a:Ar} {is:List Int},Iss n k a is→Iss n (k+l.length) (qi0 a is l).1 (qi0 a is l).2
 | [],k,a,is,I=>I
 |o::l,k,a,is,I=>by
  have:=Iss.made l (I.step o).1
  unfold qi0
  rw[List.length_cons,show k+(l.length+1)=k+1+l.length by omega]
  exact this
theorem qve {n:Nat} (h1:1≤n) (h2:n≤64):Iss n 0 (qwu n) []:=by
 refine⟨⟨by simp[qwu,h1,h2],by simp[qwu,qf3],?_,?_,?_⟩,by simp[qwu],by simp[qwu],by simp,List.nodup_nil⟩
 ·intro s hs
  have:=List.eq_of_mem_replicate hs
  subst this
  exact⟨by simp,by simp[qf3],.inl ⟨rfl,rfl,rfl⟩⟩
 ·intro i j s t _ hs _ h0 _
  have:=List.eq_of_mem_replicate (wx hs)
  subst this
  exact absurd rfl h0
 ·simp only[qwu]
  refine(List.reverse_perm _).trans ?_
  unfold qc8
  rw[List.length_replicate,List.filter_eq_self.2]
  intro i hi
  rw[List.mem_range]at hi
  simp[hi]
variable {n k:Nat} {a b:Ar} {is:List Int}
theorem Iss.alloc_full (I:Iss n k a is) (hk:k<1000) {t:Int} (ht:0≤t∧t≤qok):(qhe a=a.slots.length∧qhj a t = .error 10)∨(qhe a<a.slots.length ∧ ∃b h,qhj a t = .ok (b,h)):=by
 have hc:=I.ok.count
 have hnx:=I.next
 unfold qhj
 rw[if_neg (by omega)]
 cases hi:a.idle.getLast? with
 |none=>
  have:a.idle=[]:=List.getLast?_eq_none_iff.1 hi
  rw[this]at hc
  exact .inl ⟨by simpa using hc,rfl⟩
 |some i=>
  have hm:i∈qc8 a.slots:=I.ok.idle.mem_iff.1 (List.mem_of_getLast? hi)
  obtain⟨j,rfl,s,hs,h0⟩:=qha.1 hm
  have:0<a.idle.length:=List.length_pos_iff.2 fun e=>by rw[e]at hi;cases hi
  simp only
  rw[if_neg (by unfold qf3;omega),wt,hs]
  exact .inr ⟨by omega,_,_,rfl⟩
theorem ArOk.alloc_live (A:ArOk a) {t h:Int} (ha:qhj a t = .ok (b,h)):qhe b=qhe a+1∧b.slots.length=a.slots.length∧b.next=a.next+1:=by
 obtain⟨B,i,s,h1,h2,h3,rfl,rfl,_⟩:=A.alloc ha
 have c1:=A.count
 have c2:=B.count
 have hl:a.idle.length=a.idle.dropLast.length+1:=by
  have:=congrArg List.length h1
  simpa using this
 simp only[List.length_set]at c2⊢
 exact⟨by omega,trivial,trivial⟩
theorem ArOk.rel_live (A:ArOk a) {h:Int} (ha:qv8 a h=some b):qhe b+1=qhe a∧b.slots.length=a.slots.length:=by
 obtain⟨B,i,s,h1,h2,rfl⟩:=A.rel ha
 have c1:=A.count
 have c2:=B.count
 simp only[List.length_set,zgp,zga,zgb]at c2⊢
 exact⟨by omega,trivial⟩
def qig (a:Ar) (h:Int):Option Slt:=(qg7 a h).map Prod.snd
theorem Was.find {h:Int} (A:ArOk a) (H:Was a h):(Old a h∧qg7 a h=none) ∨ ∃(i:Nat) (s:Slt),h=mkH i s.gen∧i<64∧a.slots[i]? = some s∧s.state≠0∧qg7 a h=some (i,s):=by
 rcases H with H|⟨i,s,rfl,hi,hs,h0⟩
 ·exact .inl ⟨H,H.find⟩
 ·exact .inr ⟨i,s,rfl,hi,hs,h0,qu0 hs hi ⟨(A.gen hs).1,(A.gen hs).2.1⟩ h0⟩
theorem Iss.issued (I:Iss n k a is) {t h:Int} (ha:qhj a t = .ok (b,h)):(∃s,qig b h=some s∧s.state=1∧s.time=t∧s.seq=a.next) ∧
  ∀x∈is,qig b x=qig a x ∧ ∀s,qig a x=some s→s.seq<a.next:=by
 obtain⟨J,hn⟩:=I.alloc ha
 obtain⟨B,i,s,h1,h2,h3,rfl,rfl,_⟩:=I.ok.alloc ha
 have hself:(a.slots.set i ⟨s.gen,1,t,a.next⟩)[i]? = some ⟨s.gen,1,t,a.next⟩:=wi (wj.1 h2).1
 obtain⟨g0,g1,gi⟩:=I.ok.gen h2
 constructor
 ·have:=qu0 (a:=⟨a.slots.set i ⟨s.gen,1,t,a.next⟩,a.idle.dropLast,a.next+1⟩) (i:=i) (s:=⟨s.gen,1,t,a.next⟩) hself gi ⟨g0,g1⟩ (by simp)
  refine⟨⟨s.gen,1,t,a.next⟩,?_,rfl,rfl,rfl⟩
  unfold qig
  simp only at this
  rw[this];rfl
 ·intro x hx
  rcases(I.was x hx).find I.ok with ⟨H,hf⟩|⟨j,u,rfl,hj,hu,hu0,hf⟩
  ·refine⟨?_,fun s hs=>by unfold qig at hs;rw[hf]at hs;cases hs⟩
   unfold qig
   rw[hf,(H.set h2 (u:=⟨s.gen,1,t,a.next⟩) (by exact wH _)).find]
  ·have e:i≠j:=fun e=>by subst e;rw[h2]at hu;cases hu;exact hu0 h3
   have hb:(a.slots.set i ⟨s.gen,1,t,a.next⟩)[j]? = some u:=by rw[wm e];exact hu
   have hf2:=qu0 (a:=⟨a.slots.set i ⟨s.gen,1,t,a.next⟩,a.idle.dropLast,a.next+1⟩) hb hj ⟨(I.ok.gen hu).1,(I.ok.gen hu).2.1⟩ hu0
   unfold qig
   rw[hf,hf2]
   refine⟨rfl,fun s hs => ?_⟩
   simp only[zgt,Option.some.injEq]at hs
   subst hs
   obtain⟨_,_,q⟩:=I.ok.slot u (wx hu)
   rcases q with q|q
   ·exact absurd q.1 hu0
   ·exact q.2.2.2.2.2
theorem qr9 : ∀ {F I:List Int},F.Nodup→(∀x∈F,x∈I)→I.length=F.length→I.Perm F
 | [],I,_,_,hl=>by rw[List.eq_nil_of_length_eq_zero hl]
 |x::F,I,hn,hs,hl=>by
  obtain⟨h1,h2⟩:=List.nodup_cons.1 hn
  have hx:=hs x (by simp)
  have hp:=List.perm_cons_erase hx
  refine hp.trans (List.Perm.cons x (qr9 h2 (fun y hy => ?_) ?_))
  ·have hne:y≠x:=fun e=>h1 (e▸hy)
   exact(List.mem_erase_of_ne hne).2 (hs y (List.mem_cons_of_mem _ hy))
  ·rw[List.length_erase_of_mem hx,hl];simp
theorem qpv : ∀ {l m:List Int},l.Perm m→l.Pairwise (· ≤ ·)→m.Pairwise (· ≤ ·)→l=m
 | [],m,h,_,_=>by rw[List.nil_perm.1 h]
 |x::l,[],h,_,_=>absurd (List.perm_nil.1 h) (by simp)
 |x::l,y::m,h,h1,h2=>by
  obtain⟨a1,a2⟩:=List.pairwise_cons.1 h1
  obtain⟨b1,b2⟩:=List.pairwise_cons.1 h2
  have e1:x≤y:=by
   rcases List.mem_cons.1 (h.mem_iff.2 (List.mem_cons_self:y∈y::m))with e|e
   ·omega
   ·exact a1 y e
  have e2:y≤x:=by
   rcases List.mem_cons.1 (h.mem_iff.1 (List.mem_cons_self:x∈x::l))with e|e
   ·omega
   ·exact b1 x e
  have e:x=y:=by omega
  subst e
  rw[qpv ((List.perm_cons _).1 h) a2 b2]
theorem qwh (l:List Slt):(qc8 l).Pairwise (· ≤ ·):=by
 unfold qc8
 rw[List.pairwise_map]
 refine List.Pairwise.imp (R:=(· < ·)) (fun h=>by omega) ?_
 exact List.Pairwise.filter _ List.pairwise_lt_range
theorem qw8 {I S F:List Int} (hp:S.Perm I) (hs:S.Pairwise (· ≤ ·)) (hf:F.Pairwise (· ≤ ·)):F=S↔I.Perm F:=by
 constructor
 ·rintro rfl;exact hp.symm
 ·intro h;exact qpv (h.symm.trans hp.symm) hf hs
theorem qx8 {l:List Slt} {I:List Int}:I.Perm (qc8 l)↔(I.length=(qc8 l).length ∧ ∀(i:Nat) (s:Slt),l[i]? = some s→(s.state=0↔(i:Int)∈I)):=by
 constructor
 ·intro h
  refine⟨h.length_eq,fun i s hs => ?_⟩
  rw[h.mem_iff,qha]
  constructor
  ·intro h0;exact⟨i,rfl,s,hs,h0⟩
  ·rintro⟨j,e,t,ht,h0⟩
   have:i=j:=by omega
   subst this
   rw[hs]at ht;cases ht;exact h0
 ·rintro⟨h1,h2⟩
  refine qr9 (qn2 l) (fun x hx => ?_) h1
  obtain⟨i,rfl,s,hs,h0⟩:=qha.1 hx
  exact(h2 i s hs).1 h0
theorem qvm (l:List Slt):(qc8 l).length=l.countP fun s=>decide (s.state=0):=by
 unfold qc8
 rw[List.length_map]
 have : ∀n,n≤l.length→((List.range n).filter fun i=>decide ((l[i]?.map Slt.state)=some 0)).length=(l.take n).countP fun s=>decide (s.state=0):=by
  intro n
  induction n with
  |zero=>intro _;rfl
  |succ n ih=>
   intro hn
   have hg:l[n]? = some l[n]:=wE (by omega)
   rw[wL,List.filter_append,List.length_append,ih (by omega),List.take_add_one,List.countP_append,hg]
   congr 1
   rw[List.filter_cons,List.filter_nil,hg]
   simp only[zgt,Option.some.injEq,Option.toList_some,List.countP_cons,List.countP_nil]
   split<;>simp_all
 have h:=this l.length (Nat.le_refl _)
 rw[wF]at h
 exact h
def Slt.r (s:Slt):List AV:=[(ii s.gen),(ii s.state),(ii s.time),(ii s.seq)]
theorem slt_lo (n:Nat) (x:Slt):los n x.r=true:=rfl
theorem slt_pl (x:Slt):x.r.length=4∧qdc x.r=true:=⟨rfl,rfl⟩
theorem qm (n:Nat) (l:List Slt):qjv n (l.map Slt.r)=true:=qqu (slt_lo n) l
theorem qz5 (l:List Slt):qdm 4 (l.map Slt.r)=true:=qoz slt_pl l
set_option maxRecDepth 10000
theorem qu6 {n:Nat} (h:n<2^64):(BitVec.ofInt 64 (n:Int)).toNat=n:=by
 rw[BitVec.ofInt_natCast,BitVec.toNat_ofNat];exact Nat.mod_eq_of_lt h
theorem or_mk {g i:Nat} (hg:g≤1099511627776) (hi:i<64):IntKind.i64.wrap (((BitVec.ofInt 64 ((64*g:Nat):Int) ||| BitVec.ofInt 64 (i:Int)).toNat:Nat):Int)=((64*g+i:Nat):Int):=by
 rw[BitVec.toNat_or,qu6 (by omega),qu6 (by omega)]
 have:=Nat.two_pow_add_eq_or_of_lt (i:=6) (b:=i) (by omega) g
 simp only[wu]at this
 rw[←this]
 exact qan (by omega) (by omega)
theorem and_63 {h:Nat} (hh:h<2^63):IntKind.i64.wrap (((BitVec.ofInt 64 (h:Int) &&& BitVec.ofInt 64 63).toNat:Nat):Int)=((h%64:Nat):Int):=by
 rw[BitVec.toNat_and,qu6 (by omega),show (BitVec.ofInt 64 63).toNat=2^6-1 from rfl,Nat.and_two_pow_sub_one_eq_mod]
 exact qan (by omega) (by omega)
theorem bin_or64 (a b:Int):qfo .or (ii a) (ii b)=some (ii (IntKind.i64.wrap (((BitVec.ofInt 64 a ||| BitVec.ofInt 64 b).toNat:Nat):Int))):=rfl
theorem qzv (a b:Int):qfo .and (ii a) (ii b)=some (ii (IntKind.i64.wrap (((BitVec.ofInt 64 a &&& BitVec.ofInt 64 b).toNat:Nat):Int))):=rfl
theorem q0z (a b:Int) (h:¬b<0):qfo .shl (ii a) (ii b)=some (ii (IntKind.i64.wrap (a*2^(min b.toNat 64)))):=by
 show (if b<0 then none else _) = _
 rw[if_neg h];rfl
theorem qyl (a b:Int) (h:¬b<0):qfo .shl (ii a) (.v (.int .u64 (b)))=some (ii (IntKind.i64.wrap (a*2^(min b.toNat 64)))):=by
 show (if b<0 then none else _) = _
 rw[if_neg h];rfl
theorem q02 (a b:Int) (h:¬b<0):qfo .shr (ii a) (ii b)=some (ii (a.fdiv (2^(min b.toNat 64)))):=by
 show (if b<0 then none else _) = _
 rw[if_neg h];rfl
theorem qs6 (i:Nat) (g:Int) (hi:i<64) (hg:0≤g∧g≤qf3):qu (evL T) qfc [(ii i),(ii g)]=some (ii (mkH i g)):=by
 obtain⟨k,rfl⟩ : ∃k:Nat,g=k:=⟨g.toNat,by omega⟩
 have hk:k≤1099511627776:=by unfold qf3 at hg;omega
 have s1:=qyl (k:Int) 6 (by omega)
 have w1:IntKind.i64.wrap ((k:Int)*2^(min (6:Int).toNat 64))=((64*k:Nat):Int):=by
  rw[show min (6:Int).toNat 64=6 from rfl,qan (by omega) (by omega)];omega
 rw[w1]at s1
 have s2:=bin_or64 ((64*k:Nat):Int) (i:Int)
 rw[or_mk hk hi]at s2
 have e:mkH i k=((64*k+i:Nat):Int):=by unfold mkH;omega
 rw[e]
 rw[qu,qj qrh qp7]
 simp only[qir,s1,s2,wh,qn,zgy,↓qf,↓wc,wd,wa,we]
theorem qlz (h:Int):qu (evL T) qei [(ii h)]=some (bb (decide (0≤h∧h≤qtz))):=by
 have e:decide (0≤h∧h≤qtz)=(decide (h≥0)&&decide (h≤70368744177727)):=by unfold qtz;rw[wD]
 rw[e]
 rw[qu,qj qp6 qo5]
 by_cases h1:h≥0<;>simp only[qh0,h1,zgv,zgw,Bool.true_and,Bool.false_and,wh,qn,zgy,↓qf,↓wc,wa,we]
theorem low_ev (h:Int) (hh:0≤h∧h≤qtz) (σ:qh) (hs:σ=[]):(evL T).call qb1 [(ii h),(ii 6)] σ=some ((ii (h%64)),[]):=by
 subst hs
 obtain⟨k,rfl⟩ : ∃k:Nat,h=k:=⟨h.toNat,by omega⟩
 have s1:=q0z 1 6 (by omega)
 have w1:IntKind.i64.wrap ((1:Int)*2^(min (6:Int).toNat 64))=64:=by
  rw[show min (6:Int).toNat 64=6 from rfl,qan (by omega) (by omega)];rfl
 have w2:IntKind.i64.wrap ((64:Int)-1)=63:=qan (by omega) (by omega)
 rw[w1]at s1
 have s2:=qzv (k:Int) 63
 rw[and_63 (by unfold qtz at hh;omega)]at s2
 have e:(k:Int)%64=((k%64:Nat):Int):=by omega
 rw[e]
 rw[qj ql5 qlr]
 have w2':qfo .sub (ii 64) (ii 1)=some (ii 63):=by
  show (some (ii (IntKind.i64.wrap (64-1))):Option AV) = _
  rw[w2]
 simp only[qe7,s1,w2',s2,wh,qn,zgy,↓qf,↓wc,wd,wa,we]
theorem high_ev (h:Int) (σ:qh) (hs:σ=[]):(evL T).call qbq [(ii h),(ii 6)] σ=some ((ii (h / 64)),[]):=by
 subst hs
 have s1:=q02 h 6 (by omega)
 have e:h.fdiv (2^(min (6:Int).toNat 64))=h / 64:=by
  rw[show min (6:Int).toNat 64=6 from rfl,Int.fdiv_eq_ediv_of_nonneg _ (by omega)];rfl
 rw[e]at s1
 rw[qj qlq qk5]
 simp only[qep,s1,wh,qn,zgy,↓qf,↓wc,wd,wa,we]
theorem qtr (h:Int):qu (evL T) qfd [(ii h)]=some (ii (qe0 h)):=by
 have hv:=qlz h
 have key:qu (evL T) qdd [(ii h),.fn (.func qb1) [(ii h)] []]=some (ii (qe0 h)):=by
  rw[qu,qj qlj qk1]
  unfold qe0
  by_cases hh:0≤h∧h≤qtz
  ·have hl:=low_ev h hh [] rfl
   rw[if_pos hh]
   simp only[hh,zgx,zgv]at hv
   simp only[qeh,hv,hl,zgm,zgl,wh,qn,zgy,↓qf,↓wc,wd,wa,ws,we]
  ·rw[if_neg hh]
   simp only[hh,zgw]at hv
   simp only[qeh,hv,wh,qn,zgy,↓qf,↓wc,wd,ws,we]
 rw[qu,qj qrl qqa]
 simp only[qiy,key,wh,qn,zgy,↓qf,↓wc,wa,we]
theorem qnb (h:Int):qu (evL T) qcm [(ii h)]=some (ii (qne h)):=by
 have hv:=qlz h
 have key:qu (evL T) qdd [(ii h),.fn (.func qbq) [(ii h)] []]=some (ii (qne h)):=by
  rw[qu,qj qlj qk1]
  unfold qne
  by_cases hh:0≤h∧h≤qtz
  ·have hl:=high_ev h [] rfl
   rw[if_pos hh]
   simp only[hh,zgx,zgv]at hv
   simp only[qeh,hv,hl,zgm,zgl,wh,qn,zgy,↓qf,↓wc,wd,wa,ws,we]
  ·rw[if_neg hh]
   simp only[hh,zgw]at hv
   simp only[qeh,hv,wh,qn,zgy,↓qf,↓wc,wd,ws,we]
 rw[qu,qj ql6 qlt]
 simp only[qe3,key,wh,qn,zgy,↓qf,↓wc,wa,we]
theorem qnj (h:Int):qu (evL T) qec [(ii h)]=some (bb (decide (0≤h∧h≤qtz))):=by
 have e:decide (0≤h∧h≤qtz)=(decide (h≥0)&&decide (h≤70368744177727)):=by unfold qtz;rw[wD]
 rw[e]
 rw[qu,qj qq1 qqi]
 by_cases h1:h≥0<;>simp only[qiz,h1,zgv,zgw,Bool.true_and,Bool.false_and,wh,qn,zgy,↓qf,↓wc,wa,we]
theorem quf (i:Nat) (g:Int) (hi:i<64) (hg:0≤g∧g≤qf3):qu (evL T) qfy [(ii i),(ii g)]=some (ii (mkH i g)):=by
 unfold qf3 at hg
 have w1:IntKind.i64.wrap (64*g)=64*g:=qan (by omega) (by omega)
 have w2:IntKind.i64.wrap (64*g+(i:Int))=mkH i g:=by unfold mkH;exact qan (by omega) (by omega)
 rw[qu,qj qs3 qq8]
 simp only[qjz,w1,w2,wh,qn,zgy,↓qf,↓wc,wd,wa,we]
theorem qvk (h:Int):qu (evL T) qfq [(ii h)]=some (ii (qe0 h)):=by
 have hv:=qnj h
 rw[qu,qj qtq qsh]
 unfold qe0
 by_cases hh:0≤h∧h≤qtz
 ·have w1:h.tmod 64=h%64:=Int.tmod_eq_emod_of_nonneg hh.1
  rw[if_pos hh]
  simp only[hh,zgx,zgv]at hv
  simp only[qh3,hv,w1,wh,qn,zgy,↓qf,↓wc,wA,ws,we]
 ·rw[if_neg hh]
  simp only[hh,zgw]at hv
  simp only[qh3,hv,wh,qn,zgy,↓qf,↓wc,ws,we]
theorem qn4 (h:Int):qu (evL T) qcx [(ii h)]=some (ii (qne h)):=by
 have hv:=qnj h
 rw[qu,qj qm8 qml]
 unfold qne
 by_cases hh:0≤h∧h≤qtz
 ·have w1:IntKind.i64.wrap (h.tdiv 64)=h / 64:=by
   rw[Int.tdiv_eq_ediv_of_nonneg hh.1];unfold qtz at hh;exact qan (by omega) (by omega)
  rw[if_pos hh]
  simp only[hh,zgx,zgv]at hv
  simp only[qed,hv,w1,wh,qn,zgy,↓qf,↓wc,wA,ws,we]
 ·rw[if_neg hh]
  simp only[hh,zgw]at hv
  simp only[qed,hv,wh,qn,zgy,↓qf,↓wc,ws,we]
theorem qmb (n a b:Int):qu (evL T) qaw [(ii n),(ii a),(ii b)]=some (bb (decide (a≤n)&&decide (n≤b))):=by
 have e:decide (a≤n)=decide (n≥a):=rfl
 rw[e]
 rw[qu,qj qp5 qo4]
 by_cases h1:n≥a<;>simp only[qhw,h1,zgv,zgw,Bool.true_and,Bool.false_and,wh,qn,zgy,↓qf,↓wc,wd,wa,we]
set_option maxRecDepth 10000
def qmj (l:List Slt):Nat:=l.countP fun s => !decide (s.state=0)
theorem qx9 (l:List Slt):qmj l≤l.length:=List.countP_le_length
theorem qt0 {l:List Slt} {i:Nat} {s:Slt} (h:l[i]? = some s):qmj (l.take (i+1))=qmj (l.take i)+if s.state=0 then 0 else 1:=by
 unfold qmj
 rw[List.take_add_one,h,List.countP_append]
 simp only[Option.toList_some,List.countP_cons,List.countP_nil]
 by_cases e:s.state=0<;>simp[e]
section
variable (a:Ar) (c d:Bool)
theorem qin (hl:a.slots.length≤1000):qu (evL T) qc3 [(.agg [(.fsl ((a.slots).map Slt.r) c),(.fsl ((a.idle).map qk) d),(ii a.next)])]=some (ii (qhe a)):=by
 have key:=qhs (f:=exec (evL T) itL none qfu) (s:=qca [3,7,8,9] true 0) (α:=Unit)
  (fun i _=>⟨[(3,(ii (qmj (a.slots.take i)))),(7,(.fsl ((a.slots).map Slt.r) c)),(8,(ii a.slots.length)),(9,(ii i))],[]⟩) (fun _ _=>[]) (fun _ _=>True) a.slots.length
  (fun y=>y.1 = .exit 0∧y.2.1.marks=[]∧y.2.2=[]∧qbk y.2.1.vars 3=some (ii (qhe a))) ?_ ?_ 0 () (wI _) trivial
 ·obtain⟨⟨y,e,σ⟩,k1,k2,k3,k4,k5⟩:=key
  simp only at k2 k3 k4 k5
  subst k2;subst k4
  have e0:((0:Nat):Int)=0:=rfl
  have e1:qmj (a.slots.take 0)=0:=by simp[qmj]
  rw[e1,e0]at k1
  rw[qu,qj qs8 qro]
  simp only[qjs,k1,k3,k5,qm,zgi,wh,qc,wf,wg,qn,ne_eq,zgy,↓qf,↓qaq,↓wc,wa]
 ·rintro i-hi -
  obtain⟨s,hs⟩ : ∃s,a.slots[i]? = some s:=⟨_,zgE hi⟩
  have hi':(i:Int)<(a.slots.length:Int):=by omega
  have hw:IntKind.i64.wrap ((i:Int)+1)=((i+1:Nat):Int):=qal (by omega)
  have hn:=qt0 hs
  have hle:=qx9 (a.slots.take i)
  rw[wG]at hle
  refine .inl ⟨(),?_,trivial⟩
  rw[hn]
  obtain⟨sg,ss,st,sq⟩:=s
  by_cases h0:ss=0
  ·simp only[qfu,zgs,zgr,zgq,zgt,Slt.r,hs,hi',hw,h0,qm,Nat.add_zero,wh,wn,qc,wf,wg,ne_eq,zgy,↓qf,↓wc,wd,wa]
  ·have hw2:IntKind.i64.wrap ((qmj (a.slots.take i):Int)+1)=((qmj (a.slots.take i)+1:Nat):Int):=qal (by omega)
   simp only[qfu,zgs,zgr,zgq,zgt,Slt.r,hs,hi',hw,hw2,h0,qm,wh,wn,qc,wf,wg,ne_eq,zgy,↓qf,↓wc,wd,wa]
 ·rintro - -
  rw[wF]
  simp only[qfu,ww,wh,zgy,↓qf,↓wc,wa]
  exact⟨_,rfl,rfl,rfl,rfl,rfl⟩
theorem qk6 (hl:a.slots.length≤1000):qu (evL T) qex [(.agg [(.fsl ((a.slots).map Slt.r) c),(.fsl ((a.idle).map qk) d),(ii a.next)])]=some (ii (qhe a)):=by
 have key:=qhs (f:=exec (evL T) itL none qfs) (s:=qca [1,3,4] true 0) (α:=Unit)
  (fun i _=>⟨[(1,.fptr [(.fsl ((a.slots).map Slt.r) c),(.fsl ((a.idle).map qk) d),(ii a.next)]),(3,(ii (qmj (a.slots.take i)))),(4,(ii i))],[]⟩) (fun _ _=>[]) (fun _ _=>True) a.slots.length
  (fun y=>y.1 = .exit 0∧y.2.1.marks=[]∧y.2.2=[]∧qbk y.2.1.vars 3=some (ii (qhe a))) ?_ ?_ 0 () (wI _) trivial
 ·obtain⟨⟨y,e,σ⟩,k1,k2,k3,k4,k5⟩:=key
  simp only at k2 k3 k4 k5
  subst k2;subst k4
  have e0:((0:Nat):Int)=0:=rfl
  have e1:qmj (a.slots.take 0)=0:=by simp[qmj]
  rw[e1,e0]at k1
  rw[qu,qj qtj qq7]
  simp only[qjy,k1,k3,k5,qm,qe,wh,wf,wg,qn,ne_eq,zgy,↓qf,↓qaq,↓wc,wa]
 ·rintro i-hi -
  obtain⟨s,hs⟩ : ∃s,a.slots[i]? = some s:=⟨_,zgE hi⟩
  have hi':(i:Int)<(a.slots.length:Int):=by omega
  have hw:IntKind.i64.wrap ((i:Int)+1)=((i+1:Nat):Int):=qal (by omega)
  have hn:=qt0 hs
  have hle:=qx9 (a.slots.take i)
  rw[wG]at hle
  refine .inl ⟨(),?_,trivial⟩
  rw[hn]
  obtain⟨sg,ss,st,sq⟩:=s
  by_cases h0:ss=0
  ·simp only[qfs,zgs,zgr,zgq,zgt,Slt.r,zgi,hs,hi',hw,h0,qm,qe,Nat.add_zero,wh,qc,ne_eq,zgy,↓qf,↓wc,wd,wa]
  ·have hw2:IntKind.i64.wrap ((qmj (a.slots.take i):Int)+1)=((qmj (a.slots.take i)+1:Nat):Int):=qal (by omega)
   simp only[qfs,zgs,zgr,zgq,zgt,Slt.r,zgi,hs,hi',hw,hw2,h0,qm,qe,wh,qc,ne_eq,zgy,↓qf,↓wc,wd,wa]
 ·rintro - -
  rw[wF]
  simp only[qfs,zgi,ww,wh,qc,zgy,↓qf,↓wc,wa]
  exact⟨_,rfl,rfl,rfl,rfl,rfl⟩
theorem qj9 (h:Int) (hl:a.slots.length≤64) : ∃i:Int,qu (evL T) qdy [(.agg [(.fsl ((a.slots).map Slt.r) c),(.fsl ((a.idle).map qk) d),(ii a.next)]),(ii h)]=some (.tup [(ii i),(bb ((qg7 a h).isSome))]) ∧ ∀j s,qg7 a h=some (j,s)→i=j:=by
 have h1:=qtr h
 have h2:=qnb h
 have hs : -1≤qe0 h∧qe0 h<64:=by unfold qe0;split<;>omega
 have w1:IntKind.i64.wrap ((a.slots.length:Int)-1)=(a.slots.length:Int)-1:=qan (by omega) (by omega)
 have h3:=qmb (qe0 h) 0 ((a.slots.length:Int)-1)
 by_cases hin:0≤qe0 h∧qe0 h<a.slots.length
 ·obtain⟨k,hk⟩ : ∃k:Nat,qe0 h=k:=⟨(qe0 h).toNat,by omega⟩
  rw[hk]at hin h1 h3
  obtain⟨s,hs⟩ : ∃s,a.slots[k]? = some s:=⟨_,zgE (by omega)⟩
  have c1:decide ((0:Int)≤(k:Int))=true:=by simp
  have c2:decide ((k:Int)≤(a.slots.length:Int)-1)=true:=by simp;omega
  rw[c1,c2]at h3
  have hf:qg7 a h=if s.gen=qne h∧s.state≠0 then some (k,s)else none:=by
   unfold qg7;rw[hk,if_pos (by omega),wt,hs]
  refine⟨k,?_,fun j t hj => ?_⟩
  ·have e1:(qg7 a h).isSome=(decide (s.gen=qne h) && !decide (s.state=0)):=by
    rw[hf];by_cases e1:s.gen=qne h<;>by_cases e2:s.state=0<;>simp[e1,e2]
   rw[e1]
   rw[qu,qj ql2 qll]
   obtain⟨sg,ss,st,sq⟩:=s
   by_cases e1:sg=qne h
   ·by_cases e2:ss=0<;>simp only[qf2,zgs,zgr,zgq,zgt,Slt.r,h1,h2,h3,hs,w1,e1,e2,zgi,Bool.not_true,Bool.not_false,zgv,zgw,wh,wn,qc,wf,wg,qn,ne_eq,zgy,↓qf,↓wc,wd,wa,we]
   ·by_cases e2:ss=0<;>simp only[qf2,zgs,zgr,zgq,zgt,Slt.r,h1,h2,h3,hs,w1,e1,e2,zgi,Bool.not_true,Bool.not_false,zgv,zgw,wh,wn,qc,wf,wg,qn,ne_eq,zgy,↓qf,↓wc,wd,wa,we]
  ·rw[hf]at hj;split at hj
   ·cases hj;rfl
   ·cases hj
 ·have hf:qg7 a h=none:=by
   unfold qg7
   split
   ·rw[wy (by omega)]
   ·rfl
  have c1:(decide ((0:Int)≤qe0 h)&&decide (qe0 h≤(a.slots.length:Int)-1))=false:=by
   rw[←wD,decide_eq_false_iff_not];omega
  rw[c1]at h3
  refine⟨0,?_,fun j t hj=>by rw[hf]at hj;cases hj⟩
  rw[hf]
  rw[qu,qj ql2 qll]
  simp only[qf2,h1,h3,w1,zgi,wJ,wh,qc,wf,wg,qn,ne_eq,zgy,↓qf,↓wc,wd,wa,we]
def q0i (a:Ar) (h:Int):Int:=match qg7 a h with|none => -1|some (i,_)=>i
theorem qlh (h:Int) (hl:a.slots.length≤64):qu (evL T) qee [(.agg [(.fsl ((a.slots).map Slt.r) c),(.fsl ((a.idle).map qk) d),(ii a.next)]),(ii h)]=some (ii (q0i a h)):=by
 have h1:=qvk h
 have h2:=qn4 h
 unfold q0i qg7
 rw[qu,qj qsv qre]
 by_cases c1:qe0 h<0
 ·rw[if_neg (by omega)]
  simp only[qew,h1,c1,wh,wf,wg,qn,ne_eq,zgy,↓qf,↓wc,wd,wa,ws,we]
 ·obtain⟨k,hk⟩ : ∃k:Nat,qe0 h=k:=⟨(qe0 h).toNat,by omega⟩
  rw[hk]at h1⊢
  have c1':¬(k:Int)<0:=by omega
  rw[if_pos (by omega),wt]
  by_cases c2:k<a.slots.length
  ·obtain⟨s,hs⟩ : ∃s,a.slots[k]? = some s:=⟨_,zgE c2⟩
   have c2':¬(k:Int)≥(a.slots.length:Int):=by omega
   rw[hs]
   obtain⟨sg,ss,st,sq⟩:=s
   by_cases e1:sg=qne h
   ·by_cases e2:ss=0
    ·simp only[qew,zgs,zgr,zgq,zgt,Slt.r,h1,h2,c1',c2',hs,e1,e2,zgi,and_false,not_true_eq_false,zfb,wh,qc,wf,wg,qn,ne_eq,zgy,↓qf,↓wc,wd,wa,ws,we]
    ·simp only[qew,zgs,zgr,zgq,zgt,Slt.r,h1,h2,c1',c2',hs,e1,e2,zgi,not_true_eq_false,zfb,wh,qc,wf,wg,qn,ne_eq,zgy,↓qf,↓wc,wd,wa,ws,we]
   ·simp only[qew,zgs,zgr,zgq,zgt,Slt.r,h1,h2,c1',c2',hs,e1,zgi,false_and,wh,qc,wf,wg,qn,ne_eq,zgy,↓qf,↓wc,wd,wa,ws,we]
  ·have c2':(k:Int)≥(a.slots.length:Int):=by omega
   rw[wy (by omega)]
   simp only[qew,h1,c1',c2',zgi,wh,qc,wf,wg,qn,ne_eq,zgy,↓qf,↓wc,wd,wa,ws,we]
def qqo:Slt:=⟨0,0,0,0⟩
theorem qfr (h:Int) (hl:a.slots.length≤64):qu (evL T) qbp [(.agg [(.fsl ((a.slots).map Slt.r) c),(.fsl ((a.idle).map qk) d),(ii a.next)]),(ii h)]=some (.tup [(.agg [(ii (((qig a h).getD qqo).gen)),(ii (((qig a h).getD qqo).state)),(ii (((qig a h).getD qqo).time)),(ii (((qig a h).getD qqo).seq))]),(bb ((qig a h).isSome))]):=by
 obtain⟨i,h1,h2⟩:=qj9 a c d h hl
 unfold qig
 rw[qu,qj qqb qo6]
 cases hf:qg7 a h with
 |none=>
  rw[hf]at h1
  simp only[qgd,h1,qqo,qm,qe,wJ,Option.map_none,Option.getD_none,wh,wn,qc,wf,wg,qn,ne_eq,zgy,↓qf,↓wc,wd,wa,we]
 |some p=>
  obtain⟨j,s⟩:=p
  have:=h2 j s hf
  subst this
  rw[hf]at h1
  have hs:a.slots[j]? = some s:=by
   unfold qg7 at hf
   split at hf
   ·split at hf
    ·split at hf
     ·cases hf;assumption
     ·cases hf
    ·cases hf
   ·cases hf
  obtain⟨sg,ss,st,sq⟩:=s
  simp only[qgd,zgs,zgr,zgq,zgt,Slt.r,h1,hs,qm,qe,wz,zgt,Option.getD_some,wh,wn,qc,wf,wg,qn,ne_eq,zgy,↓qf,↓wc,wd,wa,we]
theorem qry (h:Int) (hl:a.slots.length≤64):qu (evL T) qej [(.agg [(.fsl ((a.slots).map Slt.r) c),(.fsl ((a.idle).map qk) d),(ii a.next)]),(ii h)]=some (.tup [(.agg [(ii (((qig a h).getD qqo).gen)),(ii (((qig a h).getD qqo).state)),(ii (((qig a h).getD qqo).time)),(ii (((qig a h).getD qqo).seq))]),(bb ((qig a h).isSome))]):=by
 have h1:=qlh a c d h hl
 unfold qig
 unfold q0i at h1
 rw[qu,qj qp3 qpa]
 cases hf:qg7 a h with
 |none=>
  rw[hf]at h1
  simp only[qgh,h1,qqo,qm,qe,wJ,Option.map_none,Option.getD_none,wh,wn,qc,wf,wg,qn,ne_eq,zgy,↓qf,↓wc,wd,wa,Int.reduceLT,ws,we]
 |some p=>
  obtain⟨j,s⟩:=p
  rw[hf]at h1
  have hs:=(qeu hf).1
  have c1:¬(j:Int)<0:=by omega
  obtain⟨sg,ss,st,sq⟩:=s
  simp only[qgh,zgs,zgr,zgq,zgt,Slt.r,h1,hs,c1,qm,qe,wz,zgt,Option.getD_some,wh,wn,qc,wf,wg,qn,ne_eq,zgy,↓qf,↓wc,wd,wa,we]
end
set_option maxRecDepth 10000
theorem qjt (n:Nat) : ∀(a b:List (List AV)),qjv n (a++b)=(qjv n a&&qjv n b)
 | [],b=>by simp[qx1]
 |x::a,b=>by rw[List.cons_append,qr0,qr0,qjt n a b,Bool.and_assoc]
theorem qn7 (l:List Int) (c:Bool) (h:l.length≤100000):(evL T).call qbj [(.fsl ((l).map qk) c)] []=some (.sl 0 0 0 l.length false,[.row 1 (l.map qk) 0]):=by
 have h':l.length*8≤140737488355328:=by omega
 rw[qz8 qkg]
 simp only[qq4,qe,qo1,h',wh,zgy,↓wc,wu]
set_option maxRecDepth 10000
theorem qoi (l:List Slt) (c:Bool) (h:l.length≤100000):(evL T).call qa5 [(.fsl ((l).map Slt.r) c)] []=some (.sl 0 0 0 l.length false,[.row 4 (l.map Slt.r) 0]):=by
 have h':l.length*32≤140737488355328:=by omega
 rw[qz8 qgq]
 simp only[qq4,qm,qz5,h',wl,wh,zgy,↓wc,wl,wu]
section
variable (a:Ar) (c d:Bool)
theorem qlc (i:Nat) (s:Slt) (hi:i<a.slots.length) (hl:a.slots.length≤64):qu (evL T) qef [(.agg [(.fsl ((a.slots).map Slt.r) c),(.fsl ((a.idle).map qk) d),(ii a.next)]),(ii i),(.agg [(ii s.gen),(ii s.state),(ii s.time),(ii s.seq)])]=some (.agg [(.fsl (((qp2 a i s).slots).map Slt.r) false),(.fsl (((qp2 a i s).idle).map qk) d),(ii ((qp2 a i s).next))]):=by
 have h':a.slots.length*32≤140737488355328:=by omega
 obtain⟨t,ht⟩ : ∃t,a.slots[i]? = some t:=⟨_,zgE hi⟩
 have htk:(a.slots.map Slt.r).take a.slots.length=a.slots.map Slt.r:=ztl (by simp)
 have hr:(a.slots.map Slt.r).set i [(ii s.gen),(ii s.state),(ii s.time),(ii s.seq)]=(a.slots.set i s).map Slt.r:=by rw[wM];rfl
 have hrl:(a.slots.set i s).length=a.slots.length:=by simp
 have htk2:((a.slots.set i s).map Slt.r).take a.slots.length=(a.slots.set i s).map Slt.r:=ztl (by simp)
 have hne:a.slots ≠ []:=fun e=>by rw[e]at hi;simp at hi
 have hne2:¬(a.slots.map Slt.r=[]):=by simpa using hne
 obtain⟨tg,ts,tt,tq⟩:=t
 unfold qp2
 rw[qu,qj qs4 qsk]
 simp only[qj1,zgs,zgr,zgq,zgt,Slt.r,h',ht,hr,hrl,htk2,hne2,hi,qz5,qm,qe,zgl,zfd,zgi,zgb,wh,wn,qc,qcz,wf,wr,wg,qn,ne_eq,zgy,↓qf,↓wc,wd,wa,wC,wl,wk,wu,we]
theorem qwc (i:Nat) (s u:Slt) (f:Nat) (cap:List AV) (hs:a.slots[i]? = some s) (hl:a.slots.length≤64) (hc:los 0 cap=true)
  (hq:(evL T).call f (.ptr 2 0 i 0::cap) [.row 3 [[.sl 2 0 0 a.slots.length false,(.fsl ((a.idle).map qk) d),(ii a.next)]] 0,.row 3 [[.fsl [] false,.fsl [] false,(ii 0)]] 0,.row 4 ((a.slots).map Slt.r) 0]=some (.tup [],[.row 3 [[.sl 2 0 0 a.slots.length false,(.fsl ((a.idle).map qk) d),(ii a.next)]] 0,.row 3 [[.fsl [] false,.fsl [] false,(ii 0)]] 0,.row 4 (((a.slots.set i u)).map Slt.r) 0])):qu (evL T) qb5 [(.agg [(.fsl ((a.slots).map Slt.r) c),(.fsl ((a.idle).map qk) d),(ii a.next)]),(ii i),.fn (.func f) [] cap]=some (.agg [(.fsl (((qp2 a i u).slots).map Slt.r) false),(.fsl (((qp2 a i u).idle).map qk) d),(ii ((qp2 a i u).next))]):=by
 have hcl:=qoi a.slots c (by omega)
 have hi:=(zei.1 hs).1
 have htk2:((a.slots.set i u).map Slt.r).take a.slots.length=(a.slots.set i u).map Slt.r:=ztl (by simp)
 have hrl:(a.slots.set i u).length=a.slots.length:=by simp
 obtain⟨sg,ss,st,sq⟩:=s
 unfold qp2
 simp only at hq htk2⊢
 rw[qu,qj qlk qkk]
 simp only[qgi,zgs,zgr,hcl,hi,hq,hrl,htk2,qm,qe,zgm,zgl,zgi,wh,wn,Ev.impO,qc,wf,wr,wg,qn,ne_eq,zgy,↓qf,↓wc,wd,wa,wl,wk,we]
theorem modT_ev (i:Nat) (s:Slt) (t:Int) (hs:a.slots[i]? = some s) (hl:a.slots.length≤64):qu (evL T) qb5 [(.agg [(.fsl ((a.slots).map Slt.r) c),(.fsl ((a.idle).map qk) d),(ii a.next)]),(ii i),.fn (.func qcf) [] [.fptr [(ii t)]]]=some (.agg [(.fsl (((qp2 a i { s with state:=t }).slots).map Slt.r) false),(.fsl (((qp2 a i { s with state:=t }).idle).map qk) d),(ii ((qp2 a i { s with state:=t }).next))]):=by
 have hi:=(zei.1 hs).1
 have hr:(a.slots.map Slt.r).set i [(ii s.gen),(ii t),(ii s.time),(ii s.seq)]=(a.slots.set i { s with state:=t }).map Slt.r:=by rw[wM];rfl
 refine qwc a c d i s _ _ _ hs hl rfl ?_
 obtain⟨sg,ss,st,sq⟩:=s
 simp only at hr⊢
 rw[qj qlp qlg]
 simp only[qeo,zgq,zgt,Slt.r,hs,hr,qm,qe,wh,wn,qc,wf,wr,wg,qn,wq,zgy,↓qf,↓wc,wd,wa,wk,we]
theorem modR_ev (i:Nat) (s:Slt) (hs:a.slots[i]? = some s) (hg:0≤s.gen∧s.gen≤qf3) (hl:a.slots.length≤64):qu (evL T) qb5 [(.agg [(.fsl ((a.slots).map Slt.r) c),(.fsl ((a.idle).map qk) d),(ii a.next)]),(ii i),.fn (.func qdb) [] []]=some (.agg [(.fsl (((qp2 a i ⟨s.gen+1,0,0,0⟩).slots).map Slt.r) false),(.fsl (((qp2 a i ⟨s.gen+1,0,0,0⟩).idle).map qk) d),(ii ((qp2 a i ⟨s.gen+1,0,0,0⟩).next))]):=by
 have hi:=(zei.1 hs).1
 have hr:(a.slots.map Slt.r).set i [(ii ((s.gen+1))),(ii 0),(ii 0),(ii 0)]=(a.slots.set i ⟨s.gen+1,0,0,0⟩).map Slt.r:=by rw[wM];rfl
 have w1:IntKind.i64.wrap (s.gen+1)=s.gen+1:=by unfold qf3 at hg;exact qan (by omega) (by omega)
 refine qwc a c d i s _ _ _ hs hl rfl ?_
 obtain⟨sg,ss,st,sq⟩:=s
 simp only at hr w1⊢
 rw[qj qnz qnd]
 simp only[qf0,zgq,zgt,Slt.r,hs,hr,w1,qm,qe,wh,wn,qc,wf,wr,wg,qn,wq,zgy,↓qf,↓wc,wd,wa,wk,we]
theorem qgs (h f t:Int) (hl:a.slots.length≤64):qu (evL T) qao [(.agg [(.fsl ((a.slots).map Slt.r) c),(.fsl ((a.idle).map qk) d),(ii a.next)]),(ii h),(ii f),(ii t)]=some (match qjq a h f t with|some b=>(.tup [(.agg [(.fsl ((b.slots).map Slt.r) false),(.fsl ((b.idle).map qk) d),(ii b.next)]),(bb true)])|none=>(.tup [(.agg [(.fsl ((a.slots).map Slt.r) c),(.fsl ((a.idle).map qk) d),(ii a.next)]),(bb false)])):=by
 obtain⟨i,h1,h2⟩:=qj9 a c d h hl
 have h3:=qmb t 1 3
 unfold qjq
 rw[qu,qj qm6 qmo]
 cases hf:qg7 a h with
 |none=>
  rw[hf]at h1
  simp only[qcv,h1,qm,qe,wJ,wh,wn,qc,wf,wr,wg,qn,ne_eq,zgy,↓qf,↓wc,wd,wa,we]
 |some p=>
  obtain⟨j,s⟩:=p
  have:=h2 j s hf
  subst this
  rw[hf]at h1
  have hs:=(qeu hf).1
  have hm:=modT_ev a c d j s t hs hl
  simp only
  obtain⟨sg,ss,st,sq⟩:=s
  simp only at hm⊢
  by_cases e1:ss=f
  ·by_cases e2:1≤t∧t≤3
   ·rw[if_pos ⟨e1,e2⟩]
    simp only[e2.1,e2.2,zgv,zfc]at h3
    simp only[qcv,zgs,zgr,zgq,zgt,Slt.r,h1,hs,e1,h3,hm,qm,qe,wz,wh,wn,qc,wf,wr,wg,qn,ne_eq,zgy,↓qf,↓wc,wd,wa,we]
   ·rw[if_neg (fun h=>e2 h.2)]
    have h3':(decide (1≤t)&&decide (t≤3))=false:=by rw[←wD,decide_eq_false_iff_not];exact e2
    rw[h3']at h3
    simp only[qcv,zgs,zgr,zgq,zgt,Slt.r,h1,hs,e1,h3,qm,qe,wz,wh,wn,qc,wf,wr,wg,qn,ne_eq,zgy,↓qf,↓wc,wd,wa,we]
  ·rw[if_neg (fun h=>e1 h.1)]
   simp only[qcv,zgs,zgr,zgq,zgt,Slt.r,h1,hs,e1,qm,qe,wz,wh,wn,qc,wf,wr,wg,qn,ne_eq,zgy,↓qf,↓wc,wd,wa,we]
theorem qjc (h f t:Int) (hl:a.slots.length≤64):qu (evL T) qbu [(.agg [(.fsl ((a.slots).map Slt.r) c),(.fsl ((a.idle).map qk) d),(ii a.next)]),(ii h),(ii f),(ii t)]=some (match qjq a h f t with|some b=>(.tup [(.agg [(.fsl ((b.slots).map Slt.r) false),(.fsl ((b.idle).map qk) d),(ii b.next)]),(bb true)])|none=>(.tup [(.agg [(.fsl ((a.slots).map Slt.r) c),(.fsl ((a.idle).map qk) d),(ii a.next)]),(bb false)])):=by
 have h1:=qlh a c d h hl
 unfold qjq
 unfold q0i at h1
 rw[qu,qj qm9 ql1]
 cases hf:qg7 a h with
 |none=>
  rw[hf]at h1
  simp only[qcg,h1,qm,qe,wh,wn,qc,wf,wg,qn,ne_eq,zgy,↓qf,↓wc,wd,wa,Int.reduceLT,ws,we]
 |some p=>
  obtain⟨j,s⟩:=p
  rw[hf]at h1
  have hs:=(qeu hf).1
  have hi:=(zei.1 hs).1
  have c1:¬(j:Int)<0:=by omega
  have hm:=qlc a c d j { s with state:=t } hi hl
  obtain⟨sg,ss,st,sq⟩:=s
  simp only at hm h1⊢
  by_cases e1:ss=f
  ·by_cases e2:t<1
   ·rw[if_neg (by omega)]
    simp only[qcg,zgs,zgr,zgq,zgt,Slt.r,h1,hs,c1,e1,e2,qm,qe,wh,wn,qc,wf,wg,qn,ne_eq,zgy,↓qf,↓wc,wd,wa,we]
   ·by_cases e3:t>3
    ·rw[if_neg (by omega)]
     simp only[qcg,zgs,zgr,zgq,zgt,Slt.r,h1,hs,c1,e1,e2,e3,qm,qe,wh,wn,qc,wf,wg,qn,ne_eq,zgy,↓qf,↓wc,wd,wa,we]
    ·rw[if_pos ⟨e1,by omega,by omega⟩]
     simp only[qcg,zgs,zgr,zgq,zgt,Slt.r,h1,hs,c1,e1,e2,e3,hm,qm,qe,wh,wn,qc,wf,wr,wg,qn,ne_eq,zgy,↓qf,↓wc,wd,wa,wk,we]
  ·rw[if_neg (fun h=>e1 h.1)]
   simp only[qcg,zgs,zgr,zgq,zgt,Slt.r,h1,hs,c1,e1,qm,qe,wh,wn,qc,wf,wg,qn,ne_eq,zgy,↓qf,↓wc,wd,wa,we]
theorem qfg (h:Int) (hl:a.slots.length≤64) (hi:a.idle.length≤1000):qu (evL T) qa0 [(.agg [(.fsl ((a.slots).map Slt.r) c),(.fsl ((a.idle).map qk) d),(ii a.next)]),(ii h)]=some (match qv8 a h with|some b=>(.tup [(.agg [(.fsl ((b.slots).map Slt.r) false),(.fsl ((b.idle).map qk) false),(ii b.next)]),(bb true)])|none=>(.tup [(.agg [(.fsl ((a.slots).map Slt.r) c),(.fsl ((a.idle).map qk) d),(ii a.next)]),(bb false)])):=by
 obtain⟨i,h1,h2⟩:=qj9 a c d h hl
 unfold qv8
 rw[qu,qj qpo qog]
 cases hf:qg7 a h with
 |none=>
  rw[hf]at h1
  simp only[qer,h1,qm,qe,wJ,wh,wn,qc,wf,wg,qn,ne_eq,zgy,↓qf,↓wc,wd,wa,we]
 |some p=>
  obtain⟨j,s⟩:=p
  have:=h2 j s hf
  subst this
  rw[hf]at h1
  obtain⟨hs,_,_,_,hg⟩:=qeu hf
  have hm:=modR_ev a c d j s hs hg hl
  have hcl:=qn7 a.idle d (by omega)
  have hb:(a.idle.length+1)*8≤140737488355328:=by omega
  have htl:wN a.idle.length (a.idle.map qk)=a.idle.map qk:=ztl (by simp)
  have htk : ∀e:List AV,wN (a.idle.length+1) (a.idle.map qk++[e])=a.idle.map qk++[e]:=fun e=>ztl (by simp)
  have hr:(a.idle++[(j:Int)]).map qk=a.idle.map qk++[[(ii j)]]:=by rw[wB];rfl
  simp only
  obtain⟨sg,ss,st,sq⟩:=s
  simp only[qp2]at hm⊢
  by_cases e1:sg<qf3
  ·have e1':¬sg≥1099511627776:=by unfold qf3 at e1;omega
   rw[if_pos e1]
   simp only[hr]
   simp only[qer,zgs,zgr,zgq,zgt,Slt.r,h1,hs,e1',hm,hcl,hb,htl,htk,qjt,qm,qe,wz,wh,wn,Ev.impO,qxh,qc,qcz,wf,wr,wg,qn,ne_eq,zgy,↓qf,↓wc,wd,wa,wC,wl,wk,wu,we]
  ·have e1':sg≥1099511627776:=by unfold qf3 at e1;omega
   rw[if_neg e1]
   simp only[qer,zgs,zgr,zgq,zgt,Slt.r,h1,hs,e1',qm,qe,wz,wh,wn,qc,wf,wg,qn,ne_eq,zgy,↓qf,↓wc,wd,wa,we]
theorem qlo (h:Int) (hl:a.slots.length≤64) (hi:a.idle.length≤1000):qu (evL T) qc1 [(.agg [(.fsl ((a.slots).map Slt.r) c),(.fsl ((a.idle).map qk) d),(ii a.next)]),(ii h)]=some (match qv8 a h with|some b=>(.tup [(.agg [(.fsl ((b.slots).map Slt.r) false),(.fsl ((b.idle).map qk) false),(ii b.next)]),(bb true)])|none=>(.tup [(.agg [(.fsl ((a.slots).map Slt.r) c),(.fsl ((a.idle).map qk) d),(ii a.next)]),(bb false)])):=by
 have h1:=qlh a c d h hl
 unfold qv8
 unfold q0i at h1
 rw[qu,qj qo3 qoo]
 cases hf:qg7 a h with
 |none=>
  rw[hf]at h1
  simp only[qd4,h1,qm,qe,wh,wn,qc,wf,wg,qn,ne_eq,zgy,↓qf,↓wc,wd,wa,Int.reduceLT,ws,we]
 |some p=>
  obtain⟨j,s⟩:=p
  rw[hf]at h1
  obtain⟨hs,_,_,_,hg⟩:=qeu hf
  have hj:=(zei.1 hs).1
  have c1:¬(j:Int)<0:=by omega
  have hm:=qlc a c d j ⟨s.gen+1,0,0,0⟩ hj hl
  have w1:IntKind.i64.wrap (s.gen+1)=s.gen+1:=by unfold qf3 at hg;exact qan (by omega) (by omega)
  have hb0:a.idle.length*8≤140737488355328:=by omega
  have hb:(a.idle.length+1)*8≤140737488355328:=by omega
  have htl:wN a.idle.length (a.idle.map qk)=a.idle.map qk:=ztl (by simp)
  have htk : ∀e:List AV,wN (a.idle.length+1) (a.idle.map qk++[e])=a.idle.map qk++[e]:=fun e=>ztl (by simp)
  have hr:(a.idle++[(j:Int)]).map qk=a.idle.map qk++[[(ii j)]]:=by rw[wB];rfl
  obtain⟨sg,ss,st,sq⟩:=s
  simp only[qp2]at hm h1 w1⊢
  by_cases e1:sg<qf3
  ·have e1':¬sg≥1099511627776:=by unfold qf3 at e1;omega
   rw[if_pos e1]
   simp only[hr]
   by_cases hnil:a.idle=[]
   ·rw[hnil]at hm h1⊢
    simp only[wK,zgl]at hm h1⊢
    simp only[qd4,zgs,zgr,zgq,zgt,Slt.r,h1,hs,c1,e1',w1,hm,zgl,zgb,qm,wh,wn,qxh,qc,qcz,wf,wr,wg,qn,ne_eq,zgy,↓qf,↓wc,wd,wa,wC,wl,wk,wu,we]
   ·have hne:¬(a.idle.map qk=[]):=by simpa using hnil
    simp only[qd4,zgs,zgr,zgq,zgt,Slt.r,h1,hs,c1,e1',w1,hm,hb0,hb,htl,htk,hne,zgl,zgb,zgi,zfd,qjt,qm,qe,qo1,wh,wn,qxh,qc,qcz,wf,wr,wg,qn,ne_eq,zgy,↓qf,↓wc,wd,wa,wC,wl,wk,wu,we]
  ·have e1':sg≥1099511627776:=by unfold qf3 at e1;omega
   rw[if_neg e1]
   simp only[qd4,zgs,zgr,zgq,zgt,Slt.r,h1,hs,c1,e1',qm,qe,wh,wn,qc,wf,wg,qn,ne_eq,zgy,↓qf,↓wc,wd,wa,we]
end
set_option maxRecDepth 10000
section
variable (a:Ar) (c d:Bool)
def alR (c d:Bool):Except Int (Ar×Int)→Ar→AV
 | .ok (b,h),_ => .tup [(.agg [(.fsl ((b.slots).map Slt.r) false),(.fsl ((b.idle).map qk) false),(ii b.next)]),(ii h),(ii 0)]
 | .error e,a => .tup [(.agg [(.fsl ((a.slots).map Slt.r) c),(.fsl ((a.idle).map qk) d),(ii a.next)]),(ii 0),(ii e)]
theorem qnh (A:ArOk a) (t:Int):qu (evL T) qdw [(.agg [(.fsl ((a.slots).map Slt.r) c),(.fsl ((a.idle).map qk) d),(ii a.next)]),(ii t)]=some (alR c d (qhj a t) a):=by
 have hl:=A.len.2
 have hil:=A.count
 unfold qhj
 rw[qu,qj qsd qqc]
 by_cases t1:t<0
 ·rw[if_pos (.inl t1)]
  simp only[qdx,alR,t1,qm,qe,wh,wn,qc,wf,wg,qn,ne_eq,zgy,↓qf,↓wc,wd,wa,we]
 by_cases t2:t>1152921504606846976
 ·rw[if_pos (.inr (by unfold qok;omega))]
  simp only[qdx,alR,t1,t2,qm,qe,wh,wn,qc,wf,wg,qn,ne_eq,zgy,↓qf,↓wc,wd,wa,we]
 rw[if_neg (by unfold qok;omega)]
 rcases List.eq_nil_or_concat a.idle with hn|⟨J,x,hn⟩
 ·rw[hn]
  simp only[qdx,alR,t1,t2,hn,List.getLast?_nil,wK,zgb,qm,wh,wn,qc,wf,wg,qn,ne_eq,zgy,↓qf,↓wc,wd,wa,we]
 ·rw[List.concat_eq_append]at hn
  have hgl:a.idle.getLast? = some x:=by rw[hn];simp
  have hil2:a.idle.length=J.length+1:=by rw[hn];simp
  rw[hgl]
  simp only
  have c1:¬((J.length+1:Nat):Int)=0:=by omega
  by_cases e1:qf3≤a.next
  ·have e1':a.next≥1099511627776:=by unfold qf3 at e1;omega
   rw[if_pos e1]
   simp only[qdx,alR,t1,t2,hil2,c1,e1',qm,qe,zgi,wh,wn,qc,wf,wg,qn,ne_eq,zgy,↓qf,↓wc,wd,wa,we]
  ·have e1':¬a.next≥1099511627776:=by unfold qf3 at e1;omega
   have hxm:x∈qc8 a.slots:=A.idle.mem_iff.1 (by rw[hn];simp)
   obtain⟨i,rfl,s,hs,h0⟩:=qha.1 hxm
   have hi:=(zei.1 hs).1
   obtain⟨g0,g1,gi⟩:=A.gen hs
   have hm:=qlc a c d i ⟨s.gen,1,t,a.next⟩ hi hl
   have hmk:=quf i s.gen gi ⟨g0,g1⟩
   have w1:IntKind.i64.wrap (((J.length+1:Nat):Int)-1)=(J.length:Int):=qbn rfl (by omega)
   have w2:IntKind.i64.wrap (a.next+1)=a.next+1:=by have:=A.next;unfold qf3 at this;exact qan (by omega) (by omega)
   have hg:a.idle[J.length]? = some (i:Int):=by rw[hn];simp
   have htk:(a.idle.map qk).take J.length=J.map qk:=by rw[hn];simp
   have hdl:a.idle.dropLast=J:=by rw[hn];simp
   have hb:J.length*8≤140737488355328:=by omega
   have hle:(J.length:Int)≤((J.length+1:Nat):Int):=by omega
   rw[if_neg e1,wt,hs,hdl]
   obtain⟨sg,ss,st,sq⟩:=s
   simp only[qp2]at hm hmk⊢
   by_cases hJ:J=[]
   ·subst hJ
    have w00:IntKind.i64.wrap 0=0:=rfl
    simp only[zgb,wK,zfd]at hg w1 htk hil2 hb hle⊢
    simp only[qdx,alR,zgs,zgr,zgq,zgt,Slt.r,t1,t2,hil2,e1',hg,hs,hm,hmk,w2,htk,hb,qk,qm,qe,qo1,zgi,zgl,wK,zfd,zgb,wH,zgg,Nat.sub_zero,zgo,Int.toNat_zero,Nat.zero_mul,wI,Int.zero_le_ofNat,w00,wh,wn,qc,qcz,wf,wr,wg,qn,ne_eq,zgy,implies_true,↓qf,↓wc,wd,wa,wk,wu,Int.reduceSub,wA,we]
   ·have hne:¬(J.map qk=[]):=by simpa using hJ
    simp only[qdx,alR,zgs,zgr,zgq,zgt,Slt.r,t1,t2,hil2,c1,e1',hg,hs,hm,hmk,w1,w2,htk,hb,hle,hne,qk,qm,qe,qo1,zgi,zgl,zfd,zgb,wH,zgg,Nat.sub_zero,wh,wn,qc,qcz,wf,wr,wg,qn,ne_eq,zgy,implies_true,↓qf,↓wc,wd,wa,wC,wk,wu,Int.reduceToNat,we]
theorem modA_ev (i:Nat) (s:Slt) (t q:Int) (hs:a.slots[i]? = some s) (hl:a.slots.length≤64) :
  (evL T).call qb5 [(.agg [(.fsl ((a.slots).map Slt.r) c),(.fsl ((a.idle).map qk) d),(ii a.next)]),(ii i),.fn (.func qdk) [] [.fptr [(ii t)],.ptr 1 0 0 0]] [.row 3 [[.fsl [] false,.fsl [] false,(ii 0)]] 0,.row 1 [[(ii q)]] 0] =
   some (.agg [.sl 4 0 0 a.slots.length false,(.fsl ((a.idle).map qk) d),(ii a.next)],[.row 3 [[.fsl [] false,.fsl [] false,(ii 0)]] 0,.row 1 [[(ii q)]] 0,.row 3 [[.sl 4 0 0 a.slots.length false,(.fsl ((a.idle).map qk) d),(ii a.next)]] 0,.row 3 [[.sl 4 0 0 a.slots.length false,(.fsl ((a.idle).map qk) d),(ii a.next)]] 0,.row 4 ((a.slots.set i ⟨s.gen,1,t,q⟩).map Slt.r) 0]):=by
 have hcl:=qoi a.slots c (by omega)
 have hi:=(zei.1 hs).1
 have htk2:((a.slots.set i ⟨s.gen,1,t,q⟩).map Slt.r).take a.slots.length=(a.slots.set i ⟨s.gen,1,t,q⟩).map Slt.r:=ztl (by simp)
 have hr:(((a.slots.map Slt.r).set i [(ii s.gen),(ii 1),(ii s.time),(ii s.seq)]).set i [(ii s.gen),(ii 1),(ii t),(ii s.seq)]).set i [(ii s.gen),(ii 1),(ii t),(ii q)]=(a.slots.set i ⟨s.gen,1,t,q⟩).map Slt.r:=by rw[List.set_set,List.set_set,wM];rfl
 have g1:((a.slots.map Slt.r).set i [(ii s.gen),(ii 1),(ii s.time),(ii s.seq)])[i]? = some [(ii s.gen),(ii 1),(ii s.time),(ii s.seq)]:=wi (by simpa using hi)
 have g2:(((a.slots.map Slt.r).set i [(ii s.gen),(ii 1),(ii s.time),(ii s.seq)]).set i [(ii s.gen),(ii 1),(ii t),(ii s.seq)])[i]? = some [(ii s.gen),(ii 1),(ii t),(ii s.seq)]:=wi (by simpa using hi)
 obtain⟨sg,ss,st,sq⟩:=s
 simp only at hr htk2 g1 g2
 have hq:(evL T).call qdk [.ptr 4 0 i 0,.fptr [(ii t)],.ptr 1 0 0 0] [.row 3 [[.fsl [] false,.fsl [] false,(ii 0)]] 0,.row 1 [[(ii q)]] 0,.row 3 [[.sl 4 0 0 a.slots.length false,(.fsl ((a.idle).map qk) d),(ii a.next)]] 0,.row 3 [[.fsl [] false,.fsl [] false,(ii 0)]] 0,.row 4 (a.slots.map Slt.r) 0] =
   some (.tup [],[.row 3 [[.fsl [] false,.fsl [] false,(ii 0)]] 0,.row 1 [[(ii q)]] 0,.row 3 [[.sl 4 0 0 a.slots.length false,(.fsl ((a.idle).map qk) d),(ii a.next)]] 0,.row 3 [[.fsl [] false,.fsl [] false,(ii 0)]] 0,.row 4 ((a.slots.set i ⟨sg,1,t,q⟩).map Slt.r) 0]):=by
  rw[qj qo2 qov]
  simp only[qhb,zgq,zgt,Slt.r,hs,hr,g1,g2,qm,qe,wh,wn,qc,wf,wr,wg,qn,wq,Ev.AV.obj?,zgy,↓qf,↓wc,wd,wa,Nat.reduceBEq,wk,we]
 rw[qj qlk qkk]
 simp only[qgi,zgs,zgr,hcl,hi,hq,qm,qe,zgm,zgl,wh,wn,Ev.impO,qc,wf,wr,wg,qn,wq,ne_eq,zgy,↓qf,↓wc,wd,wa,wl,wk,we]
theorem qhx (A:ArOk a) (t:Int):qu (evL T) qbg [(.agg [(.fsl ((a.slots).map Slt.r) c),(.fsl ((a.idle).map qk) d),(ii a.next)]),(ii t)]=some (alR c d (qhj a t) a):=by
 have hl:=A.len.2
 have hil:=A.count
 have h3:=qmb t 0 1152921504606846976
 unfold qhj
 rw[qu,qj qrr qqe]
 by_cases t0:t<0∨t>qok
 ·rw[if_pos t0]
  have:(decide ((0:Int)≤t)&&decide (t≤1152921504606846976))=false:=by rw[←wD,decide_eq_false_iff_not];unfold qok at t0;omega
  rw[this]at h3
  simp only[qfb,alR,h3,qm,qe,zgi,wh,wn,qc,wf,wr,wg,qn,ne_eq,zgy,↓qf,↓wc,wd,wa,we]
 have:(decide ((0:Int)≤t)&&decide (t≤1152921504606846976))=true:=by rw[←wD,decide_eq_true_eq];unfold qok at t0;omega
 rw[this]at h3
 rw[if_neg t0]
 rcases List.eq_nil_or_concat a.idle with hn|⟨J,x,hn⟩
 ·rw[hn]
  simp only[qfb,alR,h3,hn,List.getLast?_nil,wK,zgb,qm,wh,wn,qc,wf,wr,wg,qn,ne_eq,zgy,↓qf,↓wc,wd,wa,we]
 ·rw[List.concat_eq_append]at hn
  have hgl:a.idle.getLast? = some x:=by rw[hn];simp
  have hil2:a.idle.length=J.length+1:=by rw[hn];simp
  rw[hgl]
  simp only
  have c1:¬((J.length+1:Nat):Int)=0:=by omega
  by_cases e1:qf3≤a.next
  ·have e1':a.next≥1099511627776:=by unfold qf3 at e1;omega
   rw[if_pos e1]
   simp only[qfb,alR,h3,hil2,c1,e1',qm,qe,zgi,wh,wn,qc,wf,wr,wg,qn,ne_eq,zgy,↓qf,↓wc,wd,wa,we]
  ·have e1':¬a.next≥1099511627776:=by unfold qf3 at e1;omega
   have hxm:x∈qc8 a.slots:=A.idle.mem_iff.1 (by rw[hn];simp)
   obtain⟨i,rfl,s,hs,h0⟩:=qha.1 hxm
   have hi:=(zei.1 hs).1
   obtain⟨g0,g1,gi⟩:=A.gen hs
   have hm:=modA_ev a c d i s t a.next hs hl
   have hmk:=qs6 i s.gen gi ⟨g0,g1⟩
   have w1:IntKind.i64.wrap (((J.length+1:Nat):Int)-1)=(J.length:Int):=qbn rfl (by omega)
   have w2:IntKind.i64.wrap (a.next+1)=a.next+1:=by have:=A.next;unfold qf3 at this;exact qan (by omega) (by omega)
   have hg:a.idle[J.length]? = some (i:Int):=by rw[hn];simp
   have htk:(a.idle.map qk).take J.length=J.map qk:=by rw[hn];simp
   have hdl:a.idle.dropLast=J:=by rw[hn];simp
   have hle:(J.length:Int)≤((J.length+1:Nat):Int):=by omega
   have hcl : ∀q,(evL T).call qbj [(.fsl ((J).map qk) q)] []=some (.sl 0 0 0 J.length false,[.row 1 (J.map qk) 0]):=fun q=>qn7 J q (by omega)
   have htk3:(J.map qk).take J.length=J.map qk:=ztl (by simp)
   have htk4:((a.slots.set i ⟨s.gen,1,t,a.next⟩).map Slt.r).take a.slots.length=(a.slots.set i ⟨s.gen,1,t,a.next⟩).map Slt.r:=ztl (by simp)
   have hrl:(a.slots.set i ⟨s.gen,1,t,a.next⟩).length=a.slots.length:=by simp
   rw[if_neg e1,wt,hs,hdl]
   obtain⟨sg,ss,st,sq⟩:=s
   simp only[]at hm hmk htk4 hrl⊢
   simp only[qfb,alR,zgs,zgr,zgq,zgt,Slt.r,h3,hil2,c1,e1',hg,hs,hm,hmk,w1,w2,htk,htk3,htk4,hrl,hcl,hle,qk,qm,qe,qo1,zgi,zgl,zfd,zgb,wH,zgg,Nat.sub_zero,wh,wn,Ev.impO,qc,wf,wr,wg,qn,ne_eq,zgy,implies_true,↓qf,↓wc,wd,wa,wl,wk,Int.reduceToNat,we]
end
set_option maxRecDepth 10000
theorem qhu {α:Type} [DecidableEq α] : ∀ {a b:List α},a.length=b.length→((a.zip b).all (fun z=>decide (z.1=z.2))=true↔a=b)
 | [],[],_=>by simp
 |x::a,y::b,h=>by
  rw[List.zip_cons_cons,List.all_cons,Bool.and_eq_true,decide_eq_true_eq,qhu (a:=a) (b:=b) (by simpa using h),List.cons.injEq]
 | [],_ :: _,h=>by simp at h
 | _ :: _,[],h=>by simp at h
section
variable (a b:List Int) (c d:Bool)
theorem qto (hab:a.length=b.length) (hl:a.length≤9223372036854775807) :
  ∃y,itB (exec (evL T) itL none qcc) (qca [0,1,12,13] true 0) ⟨[(0,(.fsl ((a).map qk) c)),(1,(.fsl ((b).map qk) d)),(12,(ii a.length)),(13,(ii 0))],[]⟩ []=some y∧((a.zip b).all (fun z=>decide (z.1=z.2))=true∧(y.1 = .exit 0∧y.2.1.marks=[]∧y.2.2=[]) ∨
   (a.zip b).all (fun z=>decide (z.1=z.2))=false ∧ ∃x,(a.zip b).find? (fun z => !decide (z.1=z.2))=some x∧(y.1 = .ret∧y.2.1.marks=[]∧y.2.2=[]∧qbk y.2.1.vars 4=some (bb false))):=by
 have hzl:(a.zip b).length=a.length:=by rw[List.length_zip,←hab,Nat.min_self]
 refine qqr (a.zip b) (fun i=>⟨[(0,(.fsl ((a).map qk) c)),(1,(.fsl ((b).map qk) d)),(12,(ii a.length)),(13,(ii i))],[]⟩) [] (fun z=>decide (z.1=z.2)) _ (fun _ y => _) ?_ ?_ ?_
 ·intro i x hi hx hp
  rw[hzl]at hi
  have hi':(i:Int)<(a.length:Int):=by omega
  have hw:IntKind.i64.wrap ((i:Int)+1)=((i+1:Nat):Int):=by rw[qan (by omega) (by omega)];simp
  obtain⟨hxa,hxb⟩:=wv.1 hx
  have hp':=of_decide_eq_true hp
  simp only[qcc,zgs,zgr,zgq,zgt,hxa,hxb,hi',hw,hp',qe,qk,wh,qc,ne_eq,zgy,↓qf,↓wc,wa,we]
 ·intro i x hi hx hp
  rw[hzl]at hi
  have hi':(i:Int)<(a.length:Int):=by omega
  obtain⟨hxa,hxb⟩:=wv.1 hx
  have hp':¬x.1=x.2:=of_decide_eq_false hp
  simp only[qcc,zgs,zgr,zgq,zgt,hxa,hxb,hi',hp',qk,wh,qc,ne_eq,zgy,↓qf,↓wc,wa,we]
  exact⟨_,rfl,rfl,rfl,rfl,rfl⟩
 ·rw[hzl]
  simp only[qcc,ww,wh,zgy,↓qf,↓wc,wa,we]
  exact⟨_,rfl,rfl,rfl,rfl⟩
theorem qr3 (hl:a.length≤9223372036854775807) (hl2:b.length≤9223372036854775807):qu (evL T) qbi [(.fsl ((a).map qk) c),(.fsl ((b).map qk) d)]=some (bb (decide (a=b))):=by
 rw[qu,qj qkf qjn]
 by_cases hab:a.length=b.length
 ·have hab':(a.length:Int)=(b.length:Int):=by omega
  obtain⟨⟨y,e,σ⟩,k1,k2⟩:=qto a b c d hab hl
  simp only at k2
  rcases k2 with ⟨k3,rfl,k4,rfl⟩|⟨k3,x,_,rfl,k4,rfl,k5⟩
  ·have:a=b:=(qhu hab).1 k3
   rw[hab']at k1
   simp only[qb7,this,qe,wh,qn,ne_eq,zgy,↓qf,↓qaq,↓wc,wd,wa,we]
   subst this
   simp only[k1,k4,wh,zgy,↓wc]
  ·have:¬a=b:=fun h=>by rw[(qhu hab).2 h]at k3;cases k3
   simp only[this]
   rw[hab']at k1
   simp only[qb7,hab',k1,k4,k5,qe,wh,qn,ne_eq,zgy,↓qf,↓qaq,↓wc,wd,wa,we]
 ·have hab':¬(a.length:Int)=(b.length:Int):=by omega
  have:¬a=b:=fun h=>hab (by rw[h])
  simp only[qb7,hab',this,wh,qn,ne_eq,zgy,↓qf,↓wc,wd,wa,we]
end
set_option maxRecDepth 10000
section
variable (a b:Ar) (c d c' d':Bool)
theorem same_L1 (hab:a.slots.length=b.slots.length) (hl:a.slots.length≤1000) : ∃y,itB (exec (evL T) itL none qfn) (qca [2,3,5] true 0) ⟨[(2,(.fptr [(.fsl ((a.slots).map Slt.r) c),(.fsl ((a.idle).map qk) d),(ii a.next)])),(3,(.fptr [(.fsl ((b.slots).map Slt.r) c'),(.fsl ((b.idle).map qk) d'),(ii b.next)])),(5,(ii ((0:Nat))))],[]⟩ []=some y ∧
  ((a.slots.zip b.slots).all (fun z=>decide (z.1=z.2))=true∧(y.1 = .exit 0∧y.2.1.marks=[]∧y.2.2=[]∧qbk y.2.1.vars 2=some (.fptr [(.fsl ((a.slots).map Slt.r) c),(.fsl ((a.idle).map qk) d),(ii a.next)])∧qbk y.2.1.vars 3=some (.fptr [(.fsl ((b.slots).map Slt.r) c'),(.fsl ((b.idle).map qk) d'),(ii b.next)])) ∨
   (a.slots.zip b.slots).all (fun z=>decide (z.1=z.2))=false ∧ ∃x,(a.slots.zip b.slots).find? (fun z => !decide (z.1=z.2))=some x∧(y.1 = .ret∧y.2.1.marks=[]∧y.2.2=[]∧qbk y.2.1.vars 4=some (bb false))):=by
 have hzl:(a.slots.zip b.slots).length=a.slots.length:=by rw[List.length_zip,←hab,Nat.min_self]
 refine qqr (a.slots.zip b.slots) (fun i=>⟨[(2,(.fptr [(.fsl ((a.slots).map Slt.r) c),(.fsl ((a.idle).map qk) d),(ii a.next)])),(3,(.fptr [(.fsl ((b.slots).map Slt.r) c'),(.fsl ((b.idle).map qk) d'),(ii b.next)])),(5,(ii i))],[]⟩) [] (fun z=>decide (z.1=z.2)) _ (fun x y => _) ?_ ?_ ?_
 ·rintro i ⟨⟨xg,xs,xt,xq⟩,y⟩ hi hx hp
  simp only[decide_eq_true_eq]at hp
  subst hp
  obtain⟨hxa,hxb⟩:=wv.1 hx
  have hi':(i:Int)<(a.slots.length:Int):=by omega
  have hw:IntKind.i64.wrap ((i:Int)+1)=((i+1:Nat):Int):=qal (by omega)
  simp only[qfn,zgs,zgr,zgq,zgt,Slt.r,zgi,hxa,hxb,hi',hw,qm,qe,beq_self_eq_true,zfc,Bool.not_true,wh,qc,qd5,zgy,↓qf,↓wc,wd,wa]
 ·rintro i ⟨⟨xg,xs,xt,xq⟩,⟨yg,ys,yt,yq⟩⟩ hi hx hp
  obtain⟨hxa,hxb⟩:=wv.1 hx
  have hi':(i:Int)<(a.slots.length:Int):=by omega
  have hne:(xg==yg&&(xs==ys&&(xt==yt&&xq==yq)))=false:=by
   simp only[decide_eq_false_iff_not,Slt.mk.injEq]at hp
   rw[Bool.eq_false_iff]
   intro h
   simp only[Bool.and_eq_true,beq_iff_eq]at h
   exact hp h
  simp only[qfn,zgs,zgr,zgq,zgt,Slt.r,zgi,hxa,hxb,hi',hne,Bool.not_false,wh,qc,qd5,zgy,↓qf,↓wc,wd,wa]
  exact⟨_,rfl,rfl,rfl,rfl,rfl⟩
 ·rw[hzl]
  simp only[qfn,zgi,ww,wh,qc,zgy,↓qf,↓wc,wa]
  exact⟨_,rfl,rfl,rfl,rfl,rfl,rfl⟩
theorem same_L2 (hab:a.idle.length=b.idle.length) (hl:a.idle.length≤1000) : ∃y,itB (exec (evL T) itL none qfw) (qca [2,3,6] true 0) ⟨[(2,(.fptr [(.fsl ((a.slots).map Slt.r) c),(.fsl ((a.idle).map qk) d),(ii a.next)])),(3,(.fptr [(.fsl ((b.slots).map Slt.r) c'),(.fsl ((b.idle).map qk) d'),(ii b.next)])),(6,(ii ((0:Nat))))],[]⟩ []=some y ∧
  ((a.idle.zip b.idle).all (fun z=>decide (z.1=z.2))=true∧(y.1 = .exit 2∧y.2.1.marks=[]∧y.2.2=[]) ∨
   (a.idle.zip b.idle).all (fun z=>decide (z.1=z.2))=false ∧ ∃x,(a.idle.zip b.idle).find? (fun z => !decide (z.1=z.2))=some x∧(y.1 = .ret∧y.2.1.marks=[]∧y.2.2=[]∧qbk y.2.1.vars 4=some (bb false))):=by
 have hzl:(a.idle.zip b.idle).length=a.idle.length:=by rw[List.length_zip,←hab,Nat.min_self]
 refine qqr (a.idle.zip b.idle) (fun i=>⟨[(2,(.fptr [(.fsl ((a.slots).map Slt.r) c),(.fsl ((a.idle).map qk) d),(ii a.next)])),(3,(.fptr [(.fsl ((b.slots).map Slt.r) c'),(.fsl ((b.idle).map qk) d'),(ii b.next)])),(6,(ii i))],[]⟩) [] (fun z=>decide (z.1=z.2)) _ (fun x y => _) ?_ ?_ ?_
 ·rintro i ⟨x,y⟩ hi hx hp
  simp only[decide_eq_true_eq]at hp
  subst hp
  obtain⟨hxa,hxb⟩:=wv.1 hx
  have hi':(i:Int)<(a.idle.length:Int):=by omega
  have hw:IntKind.i64.wrap ((i:Int)+1)=((i+1:Nat):Int):=qal (by omega)
  simp only[qfw,zgs,zgr,zgq,zgt,zgi,hxa,hxb,hi',hw,qk,qm,qe,wh,qc,ne_eq,zgy,↓qf,↓wc,wa]
 ·rintro i ⟨x,y⟩ hi hx hp
  simp only[decide_eq_false_iff_not]at hp
  obtain⟨hxa,hxb⟩:=wv.1 hx
  have hi':(i:Int)<(a.idle.length:Int):=by omega
  simp only[qfw,zgs,zgr,zgq,zgt,zgi,hxa,hxb,hi',hp,qk,wh,qc,ne_eq,zgy,↓qf,↓wc,wa]
  exact⟨_,rfl,rfl,rfl,rfl,rfl⟩
 ·rw[hzl]
  simp only[qfw,zgi,ww,wh,qc,zgy,↓qf,↓wc,wa]
  exact⟨_,rfl,rfl,rfl,rfl⟩
theorem qix (hs:a.slots.length≤1000) (hi:a.idle.length≤1000):qu (evL T) qbf [(.agg [(.fsl ((a.slots).map Slt.r) c),(.fsl ((a.idle).map qk) d),(ii a.next)]),(.agg [(.fsl ((b.slots).map Slt.r) c'),(.fsl ((b.idle).map qk) d'),(ii b.next)])]=some (bb (decide (a=b))):=by
 have hE:a=b↔a.slots=b.slots∧a.idle=b.idle∧a.next=b.next:=by cases a;cases b;simp
 have ff : ∀h:¬a=b,decide (a=b)=false:=fun h=>decide_eq_false h
 rw[qu,qj qs9 qq5]
 by_cases e1:a.next=b.next
 case neg=>
  rw[ff (fun h=>e1 (hE.1 h).2.2)]
  simp only[qeb,e1,wh,qc,wf,wg,qn,ne_eq,zgy,↓qf,↓wc,wd,wa,we]
 by_cases e2:a.slots.length=b.slots.length
 case neg=>
  rw[ff (fun h=>e2 (by rw[h]))]
  have e2':¬(a.slots.length:Int)=(b.slots.length:Int):=by omega
  simp only[qeb,e1,e2',zgi,wh,qc,wf,wg,qn,ne_eq,zgy,↓qf,↓wc,wd,wa,we]
 by_cases e3:a.idle.length=b.idle.length
 case neg=>
  rw[ff (fun h=>e3 (by rw[h]))]
  have e3':¬(a.idle.length:Int)=(b.idle.length:Int):=by omega
  simp only[qeb,e1,e2,e3',zgi,wh,qc,wf,wg,qn,ne_eq,zgy,↓qf,↓wc,wd,wa,we]
 have z0:((0:Nat):Int)=0:=rfl
 obtain⟨⟨y,e,σ⟩,k1,k2⟩:=same_L1 a b c d c' d' e2 hs
 rw[z0]at k1
 rcases k2 with ⟨ha,k2,k3,k4,k5,k6⟩|⟨ha,x,hx,k2,k3,k4,k5⟩<;>simp only at k2 k3 k4 k5<;>subst k2<;>subst k4
 ·simp only at k6
  have q1:=(qhu e2).1 ha
  obtain⟨⟨y,e',σ⟩,l1,l2⟩:=same_L2 a b c d c' d' e3 hi
  rw[z0]at l1
  rcases l2 with ⟨hb,l2,l3,l4⟩|⟨hb,x,hx,l2,l3,l4,l5⟩<;>simp only at l2 l3 l4<;>subst l2<;>subst l4
  ·have q2:=(qhu e3).1 hb
   rw[decide_eq_true (hE.2 ⟨q1,q2,e1⟩)]
   rw[e1]at k1 k5 l1
   simp only[qeb,e1,e2,e3,k1,k3,k5,k6,l1,l3,zgi,qm,qe,wh,qc,wf,wg,qn,ne_eq,zgy,↓qf,↓qaq,↓wc,wd,wa,we]
  ·have q2:¬a.idle=b.idle:=fun h=>by rw[(qhu e3).2 h]at hb;cases hb
   rw[ff (fun h=>q2 (hE.1 h).2.1)]
   simp only at l5
   rw[e1]at k1 k5 l1
   simp only[qeb,e1,e2,e3,k1,k3,k5,k6,l1,l3,l5,zgi,qm,qe,wh,qc,wf,wg,qn,ne_eq,zgy,↓qf,↓qaq,↓wc,wd,wa,we]
 ·have q1:¬a.slots=b.slots:=fun h=>by rw[(qhu e2).2 h]at ha;cases ha
  rw[ff (fun h=>q1 (hE.1 h).1)]
  rw[e1]at k1
  simp only[qeb,e1,e2,e3,k1,k3,k5,zgi,qm,qe,wh,qc,wf,wg,qn,ne_eq,zgy,↓qf,↓qaq,↓wc,wd,wa,we]
end
set_option maxRecDepth 10000
def qys (es D:List Int) (i:Nat):Prop:=D.length=es.length ∧ ∀k,k<es.length→D[k]? = if k<i∨es.length-1-i<k then es[es.length-1-k]? else es[k]?
theorem qys.step {es D:List Int} {i j:Nat} (h:qys es D i) (hj:j+i+1=es.length) (hij:i<j) {x y:Int} (hx:D[i]? = some x) (hy:D[j]? = some y):qys es ((D.set i y).set j x) (i+1):=by
 obtain⟨hl,h⟩:=h
 refine⟨by simpa using hl,fun k hk => ?_⟩
 have hxi:=h i (by omega)
 have hyj:=h j (by omega)
 rw[if_neg (by omega)]at hxi hyj
 by_cases e1:k=j
 ·subst e1
  rw[wi (by simp;omega),if_pos (by omega),←hx,hxi]
  congr 1;omega
 ·rw[wm (Ne.symm e1)]
  by_cases e2:k=i
  ·subst e2
   rw[wi (by omega),if_pos (by omega),←hy,hyj]
   congr 1;omega
  ·rw[wm (Ne.symm e2),h k hk]
   by_cases e3:k<i∨es.length-1-i<k
   ·rw[if_pos e3,if_pos (by omega)]
   ·rw[if_neg e3,if_neg (by omega)]
theorem qys.done {es D:List Int} {i:Nat} (h:qys es D i) (hi:es.length≤2*i+1):D=es.reverse:=by
 obtain⟨hl,h⟩:=h
 apply List.ext_getElem?
 intro k
 by_cases hk:k<es.length
 ·rw[h k hk,List.getElem?_reverse hk]
  by_cases e:k<i∨es.length-1-i<k
  ·rw[if_pos e]
  ·rw[if_neg e];congr 1;omega
 ·rw[wy (by omega),wy (by simp;omega)]
theorem qzb (n g m:Nat) (Z:List Slt) (es:List Int) (hm:m=es.length) (hb:m≤1000) (h1:1≤m):(evL T).call qa6 [.sl 2 g 0 m false] [.row 3 [[.fsl [] false,.fsl [] false,(ii 0)]] 0,.row 4 (Z.map Slt.r) 0,.row 1 ((es).map qk) g,.row 3 [[.sl 1 0 0 n false,.sl 2 g 0 m false,(ii 0)]] 0]=some (.tup [],[.row 3 [[.fsl [] false,.fsl [] false,(ii 0)]] 0,.row 4 (Z.map Slt.r) 0,.row 1 ((es.reverse).map qk) g,.row 3 [[.sl 1 0 0 n false,.sl 2 g 0 m false,(ii 0)]] 0]):=by
 have key:=qcj (f:=exec (evL T) itL none qcr) (s:=qca [0,2,3] true 4) (τ:=List Int×Nat×Nat)
  (fun s=>⟨[(0,.sl 2 g 0 m false),(2,(ii s.2.1)),(3,(ii s.2.2))],[]⟩) (fun s=>[.row 3 [[.fsl [] false,.fsl [] false,(ii 0)]] 0,.row 4 (Z.map Slt.r) 0,.row 1 ((s.1).map qk) g,.row 3 [[.sl 1 0 0 n false,.sl 2 g 0 m false,(ii 0)]] 0]) (fun s=>m-s.2.1)
  (fun s=>qys es s.1 s.2.1∧s.2.2+s.2.1+1=m∧s.2.1≤s.2.2+1)
  (fun y=>y.1 = .exit 0∧y.2.1.marks=[]∧y.2.2=[.row 3 [[.fsl [] false,.fsl [] false,(ii 0)]] 0,.row 4 (Z.map Slt.r) 0,.row 1 ((es.reverse).map qk) g,.row 3 [[.sl 1 0 0 n false,.sl 2 g 0 m false,(ii 0)]] 0]) ?_ (es,0,m-1) ⟨⟨rfl,fun k hk => ?_⟩,by simp only;omega,by simp only;omega⟩
 ·obtain⟨⟨y,e,σ⟩,k1,k2,k3,k4⟩:=key
  simp only at k1 k2 k3 k4
  subst k2;subst k4
  have w1:IntKind.i64.wrap ((m:Int)-1)=((m-1:Nat):Int):=qbn (by omega) (by omega)
  have z0:((0:Nat):Int)=0:=rfl
  rw[z0]at k1
  rw[qj qjf qiu]
  simp only[qdg,w1,k1,k3,qm,qe,wh,qn,wq,zgy,↓qf,↓qaq,↓wc,wd,wa,wl,we]
 ·rintro⟨D,i,j⟩ ⟨h,hj,hij⟩
  simp only at h hj hij⊢
  have hl:=h.1
  by_cases hlt:i<j
  case neg=>
   have c1:¬(i:Int)<(j:Int):=by omega
   have hd:=h.done (by omega)
   right
   rw[hd]
   simp only[qcr,c1,wh,zgy,↓qf,↓wc,wa,we]
   exact⟨_,rfl,rfl,rfl,rfl⟩
  have c1:(i:Int)<(j:Int):=by omega
  obtain⟨x,hx⟩ : ∃x,D[i]? = some x:=⟨_,zgE (by omega)⟩
  obtain⟨y,hy⟩ : ∃y,D[j]? = some y:=⟨_,zgE (by omega)⟩
  obtain⟨z,hz⟩:=qfl hx hy
  obtain⟨D1,hD1⟩ : ∃D1,D1=(D.set i y).set j x:=⟨_,rfl⟩
  have hr1:(((D.map qk).set i [(ii y)]).set j [(ii x)])=D1.map qk:=by rw[hD1,wM,wM];rfl
  obtain⟨q,hq⟩ : ∃q,j=q+1:=⟨j-1,by omega⟩
  have w1:IntKind.i64.wrap ((i:Int)+1)=((i+1:Nat):Int):=qal (by omega)
  have w2:IntKind.i64.wrap ((j:Int)-1)=(q:Int):=qbn hq (by omega)
  have r1:i<m:=by omega
  have r2:j<m:=by omega
  left
  refine⟨(D1,i+1,q),?_,⟨by rw[hD1];exact h.step (by omega) hlt hx hy,by simp only;omega,by simp only;omega⟩,by simp only;omega⟩
  simp only[qcr,zgs,zgr,zgq,zgt,c1,hx,hy,hz,hr1,w1,w2,r1,r2,qk,qm,qe,wh,wn,qc,wf,wr,wg,wq,zgy,↓qf,↓wc,wa,wl,we]
 ·simp only
  by_cases e:k<0∨es.length-1-0<k
  ·omega
  ·rw[if_neg e]
def upI (n:Nat):List Int:=(List.range n).map fun i:Nat=>(i:Int)
theorem upI_succ (n:Nat):upI (n+1)=upI n++[(n:Int)]:=by simp[upI,wL]
theorem qmc (n:Nat):(upI n).length=n:=by simp[upI]
def qia (n:Nat):List Slt:=List.replicate n ⟨0,0,0,0⟩
def newR (size:Int):AV:=if 1≤size∧size≤64 then .tup [(.agg [(.fsl (((qwu size.toNat).slots).map Slt.r) false),(.fsl (((qwu size.toNat).idle).map qk) false),(ii ((qwu size.toNat).next))]),(ii 0)]else (.tup [(.agg [.fsl [] false,.fsl [] false,(ii 0)]),(ii 1)])
theorem qvz (size:Int):qu (evL T) qel [(ii size)]=some (newR size):=by
 unfold newR
 rw[qu,qj qu5 qs1]
 by_cases h1:size<1
 ·rw[if_neg (by omega)]
  simp only[qhk,h1,wh,wn,qc,wf,wg,qn,ne_eq,zgy,↓qf,↓wc,wd,wa,we]
 by_cases h2:size>64
 ·rw[if_neg (by omega)]
  simp only[qhk,h1,h2,wh,wn,qc,wf,wg,qn,ne_eq,zgy,↓qf,↓wc,wd,wa,we]
 rw[if_pos (by omega)]
 obtain⟨n,rfl⟩ : ∃n:Nat,size=n:=⟨size.toNat,by omega⟩
 have c1:(0:Int)≤n:=by omega
 have c2:32*(n:Int)≤140737488355328:=by omega
 have c3:(n:Int)≤4611686018427387904:=by omega
 obtain⟨Z,hZ⟩ : ∃Z,Z=qia n:=⟨_,rfl⟩
 have hZr:List.replicate n [(ii 0),(ii 0),(ii 0),(ii 0)]=Z.map Slt.r:=by rw[hZ,qia,List.map_replicate];rfl
 have key:=qhs (f:=exec (evL T) itL none qh1) (s:=qca [2,4,16,17] true 4) (α:=Unit)
  (fun i _=>⟨[(2,.ptr 0 0 0 0),(4,.ptr 3 0 0 0),(16,(ii n)),(17,(ii i))],[]⟩) (fun i _=>[.row 3 [[.fsl [] false,.fsl [] false,(ii 0)]] 0,.row 4 (Z.map Slt.r) 0,.row 1 ((upI i).map qk) i,.row 3 [[.sl 1 0 0 n false,.sl 2 i 0 i false,(ii 0)]] 0]) (fun _ _=>True) n
  (fun y=>y.1 = .exit 0∧y.2.1.marks=[]∧y.2.2=[.row 3 [[.fsl [] false,.fsl [] false,(ii 0)]] 0,.row 4 (Z.map Slt.r) 0,.row 1 ((upI n).map qk) n,.row 3 [[.sl 1 0 0 n false,.sl 2 n 0 n false,(ii 0)]] 0]∧qbk y.2.1.vars 2=some (.ptr 0 0 0 0)∧qbk y.2.1.vars 4=some (.ptr 3 0 0 0)) ?_ ?_ 0 () (wI _) trivial
 ·obtain⟨⟨y,e,σ⟩,k1,k2,k3,k4,k5,k6⟩:=key
  simp only at k2 k3 k4 k5 k6
  subst k2;subst k4
  have z0:((0:Nat):Int)=0:=rfl
  have z1:(upI 0).map qk=[]:=rfl
  rw[z0,z1]at k1
  have hrev:=qzb n n n Z (upI n) (qmc n).symm (by omega) (by omega)
  have htk:((upI n).reverse.map qk).take n=(upI n).reverse.map qk:=ztl (by simp[qmc])
  have htk2:(Z.map Slt.r).take n=Z.map Slt.r:=ztl (by rw[hZ];simp[qia])
  have hn:qwu n=⟨Z,(upI n).reverse,0⟩:=by rw[hZ];rfl
  have hZl:n≤Z.length:=by rw[hZ];simp[qia]
  rw[wt,hn]
  simp only[qhk,h1,h2,c1,c2,c3,hZr,k1,k3,k5,k6,hrev,htk,htk2,hZl,qmc,wH,zgr,zgv,List.length_reverse,zgi,qm,qe,wh,wn,qc,wf,wr,wg,qn,wq,ne_eq,zgy,↓qf,↓qaq,↓wc,wd,wa,wl,wk,Int.reducePow,we]
 ·rintro i-hi -
  have hi':(i:Int)<(n:Int):=by omega
  have hw:IntKind.i64.wrap ((i:Int)+1)=((i+1:Nat):Int):=qal (by omega)
  have hb:(i+1)*8≤140737488355328:=by omega
  have htl:wN i ((upI i).map qk)=(upI i).map qk:=ztl (by simp[qmc])
  have hr:(upI (i+1)).map qk=(upI i).map qk++[[(ii i)]]:=by rw[upI_succ,wB];rfl
  refine .inl ⟨(),?_,trivial⟩
  rw[hr]
  simp only[qh1,hi',hw,hb,htl,qmc,zgi,qjt,qm,qe,wh,wn,qxh,qc,qcz,wf,wr,wg,wq,ne_eq,zgy,↓qf,↓wc,wd,wa,wC,wl,wk,wu]
 ·rintro - -
  simp only[qh1,ww,wh,zgy,↓qf,↓wc,wa]
  exact⟨_,rfl,rfl,rfl,rfl,rfl,rfl⟩
def dnI (n k:Nat):List Int:=(List.range k).map fun i:Nat=>((n-1-i:Nat):Int)
theorem dnI_succ (n k:Nat):dnI n (k+1)=dnI n k++[((n-1-k:Nat):Int)]:=by simp[dnI,wL]
theorem qsi (n k:Nat):(dnI n k).length=k:=by simp[dnI]
theorem dnI_all (n:Nat):dnI n n=(upI n).reverse:=by
 apply List.ext_getElem?
 intro k
 by_cases hk:k<n
 ·rw[List.getElem?_reverse (by rw[qmc];exact hk),qmc]
  simp[dnI,upI,hk,show n-1-k<n by omega]
 ·rw[wy (by rw[qsi];omega),wy (by simp[qmc];omega)]
theorem qw9 (n:Nat):(qia (n+1)).map Slt.r=(qia n).map Slt.r++[[(ii 0),(ii 0),(ii 0),(ii 0)]]:=by
 unfold qia;rw[List.replicate_succ',wB];rfl
theorem qm4 (n:Nat):(qia n).length=n:=by simp[qia]
theorem qpw (size:Int):qu (evL T) qe9 [(ii size)]=some (newR size):=by
 unfold newR
 rw[qu,qj qva qsw]
 by_cases h1:size<1
 ·rw[if_neg (by omega)]
  simp only[qho,h1,wh,wn,qc,wf,wg,qn,ne_eq,zgy,↓qf,↓wc,wd,wa,we]
 by_cases h2:size>64
 ·rw[if_neg (by omega)]
  simp only[qho,h1,h2,wh,wn,qc,wf,wg,qn,ne_eq,zgy,↓qf,↓wc,wd,wa,we]
 rw[if_pos (by omega)]
 obtain⟨n,rfl⟩ : ∃n:Nat,size=n:=⟨size.toNat,by omega⟩
 have key:=qhs (f:=exec (evL T) itL none qgc) (s:=qca [0,2,4,5] true 4) (α:=Unit)
  (fun i _=>⟨[(0,(ii n)),(2,.ptr 0 0 0 0),(4,.ptr 3 0 0 0),(5,(ii i))],[]⟩) (fun i _=>[.row 3 [[.fsl [] false,.fsl [] false,(ii 0)]] 0,.row 4 ((qia i).map Slt.r) i,.row 1 ((dnI n i).map qk) i,.row 3 [[.sl 1 i 0 i false,.sl 2 i 0 i false,(ii 0)]] 0]) (fun _ _=>True) n
  (fun y=>y.1 = .exit 0∧y.2.1.marks=[]∧y.2.2=[.row 3 [[.fsl [] false,.fsl [] false,(ii 0)]] 0,.row 4 ((qia n).map Slt.r) n,.row 1 ((dnI n n).map qk) n,.row 3 [[.sl 1 n 0 n false,.sl 2 n 0 n false,(ii 0)]] 0]∧qbk y.2.1.vars 2=some (.ptr 0 0 0 0)∧qbk y.2.1.vars 4=some (.ptr 3 0 0 0)) ?_ ?_ 0 () (wI _) trivial
 ·obtain⟨⟨y,e,σ⟩,k1,k2,k3,k4,k5,k6⟩:=key
  simp only at k2 k3 k4 k5 k6
  subst k2;subst k4
  have z0:((0:Nat):Int)=0:=rfl
  have z1:(dnI n 0).map qk=[]:=rfl
  have z2:(qia 0).map Slt.r=[]:=rfl
  rw[z0,z1,z2]at k1
  have htk:((dnI n n).map qk).take n=(dnI n n).map qk:=ztl (by simp[qsi])
  have htk2:((qia n).map Slt.r).take n=(qia n).map Slt.r:=ztl (by simp[qm4])
  have hn:qwu n=⟨qia n,dnI n n,0⟩:=by rw[dnI_all];rfl
  rw[wt,hn]
  simp only[qho,h1,h2,k1,k3,k5,k6,htk,htk2,qsi,qm4,zgi,qm,qe,wh,wn,qc,wf,wg,qn,wq,ne_eq,zgy,↓qf,↓qaq,↓wc,wd,wa,wl,we]
 ·rintro i-hi -
  have hi64:(i:Int)<64:=by omega
  have hi':(i:Int)<(n:Int):=by omega
  have hw:IntKind.i64.wrap ((i:Int)+1)=((i+1:Nat):Int):=qal (by omega)
  obtain⟨m,hm⟩ : ∃m,n=m+1:=⟨n-1,by omega⟩
  have hw1:IntKind.i64.wrap ((n:Int)-1)=(m:Int):=qbn hm (by omega)
  have hw2:IntKind.i64.wrap ((m:Int)-(i:Int))=((n-1-i:Nat):Int):=qg6 (by omega) (by omega)
  have hb:(i+1)*8≤140737488355328:=by omega
  have hb2:(i+1)*32≤140737488355328:=by omega
  have htl:wN i ((dnI n i).map qk)=(dnI n i).map qk:=ztl (by simp[qsi])
  have htl2:wN i ((qia i).map Slt.r)=(qia i).map Slt.r:=ztl (by simp[qm4])
  have hr:(dnI n (i+1)).map qk=(dnI n i).map qk++[[(ii ((n-1-i:Nat)))]]:=by rw[dnI_succ,wB];rfl
  refine .inl ⟨(),?_,trivial⟩
  rw[hr,qw9]
  simp only[qgc,hi64,hi',hw,hw1,hw2,hb,hb2,htl,htl2,qsi,qm4,zgi,qjt,qm,qe,wh,wn,qxh,qc,qcz,wf,wr,wg,wq,ne_eq,zgy,↓qf,↓wc,wd,wa,wC,wl,wk,wu,we]
 ·rintro - -
  by_cases h64:(n:Int)<64
  ·simp only[qgc,h64,ww,wh,zgy,↓qf,↓wc,wa,we]
   exact⟨_,rfl,rfl,rfl,rfl,rfl,rfl⟩
  ·simp only[qgc,h64,wh,zgy,↓qf,↓wc,wa,we]
   exact⟨_,rfl,rfl,rfl,rfl,rfl,rfl⟩
set_option maxRecDepth 10000
def aS (out:List Int) (g:Nat):qh:=[.row 1 (out.map qk) g,.row 1 [[.sl 0 g 0 out.length false]] 0,.defr,.loop ⟨[(2,.ptr 1 0 0 0)],[]⟩ [7] qb qa .ready none]
theorem ai_round (out:List Int) (g:Nat) (x:Int) (h:out.length≤1000000):(evL T).round 3 [(ii x)] (aS out g)=some ((bb true),aS (out++[x]) (g+1)):=by
 rw[qz6]
 have hb:(out.length+1)*8≤140737488355328:=by omega
 have htk:(out.map qk).take out.length=out.map qk:=ztl (by simp)
 have hr:(out++[x]).map qk=out.map qk++[[(ii x)]]:=by rw[wB];rfl
 have hl:(out++[x]).length=out.length+1:=by simp
 rw[aS,aS,hr,hl]
 simp only[qb,qa,hb,htk,qjt,qe,wh,wn,qh5,qxh,qc,qcz,wf,wr,wg,wq,ne_eq,zgy,↓qf,↓wc,wd,wa,wC,wl,wk,wu]
section
variable (l:List Int) (d:Bool)
theorem qxi (hl:l.length≤1000):(evL T).call qy [.yld 3,.fptr [(.fsl ((l).map qk) d)]] (aS [] 0)=some (.tup [],aS l l.length):=by
 have key:=qhs (f:=exec (evL T) itL none qck) (s:=qca [0,5,6,7] true 4) (α:=Unit)
  (fun i _=>⟨[(0,.yld 3),(5,(.fsl ((l).map qk) d)),(6,(ii l.length)),(7,(ii i))],[]⟩) (fun i _=>aS (l.take i) i) (fun _ _=>True) l.length
  (fun y=>y.1 = .exit 0∧y.2.1.marks=[]∧y.2.2=aS l l.length) ?_ ?_ 0 () (wI _) trivial
 ·obtain⟨⟨y,e,σ⟩,k1,k2,k3,k4⟩:=key
  simp only at k2 k3 k4
  subst k2;subst k4
  have z0:((0:Nat):Int)=0:=rfl
  rw[z0,List.take_zero]at k1
  have hn : ∀(a:List Int) (g:Nat),(aS a g).length=4:=fun _ _=>rfl
  have ht : ∀(a:List Int) (g:Nat),(aS a g).take 4=aS a g:=fun _ _=>rfl
  have hlo : ∀(a:List Int) (g:Nat),qkc 4 (aS a g)=true:=fun a g=>by simp only[aS,qe,wh,wq,zgy,wl]
  rw[qj qfm qik]
  simp only[qc5,hn,ht,hlo,k1,k3,zgi,qe,wh,qc,qn,zgy,↓qf,↓qaq,↓wc,wd,wa,we]
 ·rintro i-hi -
  obtain⟨x,hx⟩ : ∃x,l[i]? = some x:=⟨_,zgE hi⟩
  have hi':(i:Int)<(l.length:Int):=by omega
  have hw:IntKind.i64.wrap ((i:Int)+1)=((i+1:Nat):Int):=qal (by omega)
  have hr:=ai_round (l.take i) i x (by rw[wG];omega)
  have hnx:l.take (i+1)=l.take i++[x]:=by rw[List.take_add_one,hx];rfl
  rw[←hnx]at hr
  have hn : ∀(a:List Int) (g:Nat),(aS a g).length=4:=fun _ _=>rfl
  have ht : ∀(a:List Int) (g:Nat),(aS a g).take 4=aS a g:=fun _ _=>rfl
  have hlo : ∀(a:List Int) (g:Nat),qkc 4 (aS a g)=true:=fun a g=>by simp only[aS,qe,wh,wq,zgy,wl]
  refine .inl ⟨(),?_,trivial⟩
  simp only[qck,zgs,zgr,zgq,zgt,ht,hlo,hx,hi',hw,hr,qk,qe,wh,qc,zgy,↓qf,↓wc,wa,we]
 ·rintro - -
  rw[wF]
  simp only[qck,ww,wh,zgy,↓qf,↓wc,wa,we]
  exact⟨_,rfl,rfl,rfl,rfl⟩
theorem qws (hl:l.length≤1000) (g n:Nat) (hg:g=l.length) (hn:n=l.length):(evL T).call qce [.fn (.func qy) [] [.fptr [(.fsl ((l).map qk) d)]]] []=some (.sl 0 g 0 n false,[.row 1 ((l).map qk) g,.row 1 [[.sl 0 g 0 n false]] 0,.dead,.loop ⟨[(2,.ptr 1 0 0 0)],[]⟩ [7] qb qa .exhausted none]):=by
 subst hg;subst hn
 have h:=qxi l d hl
 simp only[aS,wK,zgb]at h
 have h2:(evL T).call qa1 [.fsl [] true,.fn (.func qy) [] [.fptr [(.fsl ((l).map qk) d)]]] []=some (.sl 0 l.length 0 l.length false,[.row 1 (l.map qk) l.length,.row 1 [[.sl 0 l.length 0 l.length false]] 0,.dead,.loop ⟨[(2,.ptr 1 0 0 0)],[]⟩ [7] qb qa .exhausted none]):=by
  rw[qj qii qh6]
  simp only[qcw,h,evL_ent qfm,wh,qc,qn,ne_eq,zgy,↓qf,↓wc,wd,wa,wl,we]
 rw[qj qls qld]
 simp only[qen,h2,wh,qn,zgy,↓qf,↓wc,wl,we]
theorem qzw:qu (evL T) qbc [(.fsl ((l).map qk) d)]=some (.fn (.func qy) [] [.fptr [(.fsl ((l).map qk) false)]]):=by
 rw[qu,qj qjm qi4]
 simp only[qdq,qe,wh,wf,wr,wg,qn,ne_eq,zgy,↓qf,↓wc,wa]
theorem qzj (hl:l.length≤80) : ∃S:List Int,S.Perm l∧LeI S∧qu (evL T) qcl [.fn (.func qy) [] [.fptr [(.fsl ((l).map qk) d)]]]=some (.fsl ((S).map qk) false):=by
 have h1:=qws l d (by omega) l.length l.length rfl rfl
 obtain⟨S,h2,h3,h4⟩:=qte l.length false l.length l rfl hl
 have htk:(S.map qk).take l.length=S.map qk:=ztl (by simp[h2.length_eq])
 have hle:l.length≤S.length:=by rw[h2.length_eq];exact Nat.le_refl _
 refine⟨S,h2,h3,?_⟩
 rw[qu,qj qmq qlv]
 simp only[qe2,h1,h4,htk,hle,zgi,zgg,zfd,qe,wh,qn,zgy,↓qf,↓wc,wa,wl,we]
end
set_option maxRecDepth 10000
instance (s:Slt) (n:Int):Decidable (qgu s n):=by unfold qgu;infer_instance
theorem quq (s:Slt) (n:Int):qu (evL T) qfp [(.agg [(ii s.gen),(ii s.state),(ii s.time),(ii s.seq)]),(ii n)]=some (bb (decide (qgu s n))):=by
 obtain⟨g,st,t,q⟩:=s
 rw[qu,qj qtf qrw]
 by_cases g0:g<0
 ·rw[decide_eq_false (by unfold qgu qf3 qok;simp only;omega)];simp only[qb3,g0,wh,qc,wf,wg,qn,ne_eq,zgy,↓qf,↓wc,wd,wa]
 by_cases g1:g>1099511627776
 ·rw[decide_eq_false (by unfold qgu qf3 qok;simp only;omega)];simp only[qb3,g0,g1,wh,qc,wf,wg,qn,ne_eq,zgy,↓qf,↓wc,wd,wa]
 by_cases s0:st<0
 ·rw[decide_eq_false (by unfold qgu qf3 qok;simp only;omega)];simp only[qb3,g0,g1,s0,wh,qc,wf,wg,qn,ne_eq,zgy,↓qf,↓wc,wd,wa]
 by_cases s1:st>3
 ·rw[decide_eq_false (by unfold qgu qf3 qok;simp only;omega)];simp only[qb3,g0,g1,s0,s1,wh,qc,wf,wg,qn,ne_eq,zgy,↓qf,↓wc,wd,wa]
 by_cases f0:st=0
 ·subst f0
  by_cases t0:t=0
  ·by_cases q0:q=0
   ·have hy:qgu ⟨g,0,t,q⟩ n:=⟨by simp only;omega,by unfold qf3;simp only;omega,.inl ⟨rfl,t0,q0⟩⟩
    rw[decide_eq_true hy];simp only[qb3,g0,g1,s0,s1,t0,q0,wh,qc,wf,wg,qn,ne_eq,zgy,↓qf,↓wc,wd,wa]
   ·rw[decide_eq_false (by unfold qgu qf3 qok;simp only;omega)];simp only[qb3,g0,g1,s0,s1,t0,q0,wh,qc,wf,wg,qn,ne_eq,zgy,↓qf,↓wc,wd,wa]
  ·rw[decide_eq_false (by unfold qgu qf3 qok;simp only;omega)];simp only[qb3,g0,g1,s0,s1,t0,wh,qc,wf,wg,qn,ne_eq,zgy,↓qf,↓wc,wd,wa]
 by_cases t0:t≥0
 case neg=>rw[decide_eq_false (by unfold qgu qf3 qok;simp only;omega)];simp only[qb3,g0,g1,s0,s1,f0,t0,wh,qc,wf,wg,qn,ne_eq,zgy,↓qf,↓wc,wd,wa]
 by_cases t1:t≤1152921504606846976
 case neg=>rw[decide_eq_false (by unfold qgu qf3 qok;simp only;omega)];simp only[qb3,g0,g1,s0,s1,f0,t0,t1,wh,qc,wf,wg,qn,ne_eq,zgy,↓qf,↓wc,wd,wa]
 by_cases q0:q≥0
 case neg=>rw[decide_eq_false (by unfold qgu qf3 qok;simp only;omega)];simp only[qb3,g0,g1,s0,s1,f0,t0,t1,q0,wh,qc,wf,wg,qn,ne_eq,zgy,↓qf,↓wc,wd,wa]
 by_cases q1:q<n
 case neg=>rw[decide_eq_false (by unfold qgu qf3 qok;simp only;omega)];simp only[qb3,g0,g1,s0,s1,f0,t0,t1,q0,q1,wh,qc,wf,wg,qn,ne_eq,zgy,↓qf,↓wc,wd,wa,we]
 rw[decide_eq_true (by unfold qgu qf3 qok;simp only;omega)];simp only[qb3,g0,g1,s0,s1,f0,t0,t1,q0,q1,wh,qc,wf,wg,qn,ne_eq,zgy,↓qf,↓wc,wd,wa,we]
theorem qm0 {n a b:Int} (h:a≤n∧n≤b):qu (evL T) qaw [(ii n),(ii a),(ii b)]=some (bb true):=by
 rw[qmb,decide_eq_true h.1,decide_eq_true h.2];rfl
theorem qm2 {n a b:Int} (h:¬(a≤n∧n≤b)):qu (evL T) qaw [(ii n),(ii a),(ii b)]=some (bb false):=by
 rw[qmb]
 have:(decide (a≤n)&&decide (n≤b))=false:=by rw[←wD,decide_eq_false_iff_not];exact h
 rw[this]
theorem qs5 (s:Slt) (n:Int) (hn:0≤n∧n≤qf3):qu (evL T) qe1 [(.agg [(ii s.gen),(ii s.state),(ii s.time),(ii s.seq)]),(ii n)]=some (bb (decide (qgu s n))):=by
 obtain⟨g,st,t,q⟩:=s
 unfold qf3 at hn
 have w1:IntKind.i64.wrap (n-1)=n-1:=qan (by omega) (by omega)
 rw[qu,qj qra qqn]
 by_cases g0:0≤g∧g≤1099511627776
 case neg=>rw[decide_eq_false (by unfold qgu qf3 qok;simp only;omega)];simp only[qcy,qm2 g0,wh,qc,wf,wg,qn,ne_eq,zgy,↓qf,↓wc,wd,wa]
 have g0':=qm0 g0
 by_cases f0:st=0
 ·subst f0
  by_cases t0:t=0
  ·by_cases q0:q=0
   ·have hy:qgu ⟨g,0,t,q⟩ n:=⟨by simp only;omega,by unfold qf3;simp only;omega,.inl ⟨rfl,t0,q0⟩⟩
    rw[decide_eq_true hy];simp only[qcy,g0',t0,q0,beq_self_eq_true,zfc,wh,qc,wf,wr,wg,qd5,qn,ne_eq,zgy,↓qf,↓wc,wd,wa,wk]
   ·have:(q==0)=false:=by simpa using q0
    rw[decide_eq_false (by unfold qgu qf3 qok;simp only;omega)];simp only[qcy,g0',t0,this,beq_self_eq_true,zfc,Bool.and_false,wh,qc,wf,wr,wg,qd5,qn,ne_eq,zgy,↓qf,↓wc,wd,wa,wk]
  ·have:(t==0)=false:=by simpa using t0
   rw[decide_eq_false (by unfold qgu qf3 qok;simp only;omega)];simp only[qcy,g0',this,beq_self_eq_true,zfc,Bool.and_false,Bool.false_and,wh,qc,wf,wr,wg,qd5,qn,ne_eq,zgy,↓qf,↓wc,wd,wa,wk]
 by_cases s0:1≤st∧st≤3
 case neg=>rw[decide_eq_false (by unfold qgu qf3 qok;simp only;omega)];simp only[qcy,g0',f0,qm2 s0,wh,qc,wf,wg,qn,ne_eq,zgy,↓qf,↓wc,wd,wa]
 have s0':=qm0 s0
 by_cases t0:0≤t∧t≤1152921504606846976
 case neg=>rw[decide_eq_false (by unfold qgu qf3 qok;simp only;omega)];simp only[qcy,g0',f0,s0',qm2 t0,wh,qc,wf,wg,qn,ne_eq,zgy,↓qf,↓wc,wd,wa]
 have t0':=qm0 t0
 by_cases q0:0≤q∧q≤n-1
 case neg=>rw[decide_eq_false (by unfold qgu qf3 qok;simp only;omega)];simp only[qcy,g0',f0,s0',t0',w1,qm2 q0,wh,qc,wf,wg,qn,ne_eq,zgy,↓qf,↓wc,wd,wa,we]
 have q0':=qm0 q0
 rw[decide_eq_true (by unfold qgu qf3 qok;simp only;omega)];simp only[qcy,g0',f0,s0',t0',w1,q0',wh,qc,wf,wg,qn,ne_eq,zgy,↓qf,↓wc,wd,wa,we]
theorem qrf (l:List Int) (d:Bool) (n:Int) (hl:l.length≤1000):qu (evL T) qdt [(.fsl ((l).map qk) d),(ii n)]=some (bb (decide (n∈l))):=by
 have key:=qqr (f:=exec (evL T) itL none qd2) (s:=qca [0,1,5] true 0) l (fun i=>⟨[(0,(.fsl ((l).map qk) d)),(1,(ii n)),(5,(ii i))],[]⟩) [] (fun x => !decide (x=n))
  (fun y=>y.1 = .exit 0∧y.2.1.marks=[]∧y.2.2=[]) (fun _ y=>y.1 = .ret∧y.2.1.marks=[]∧y.2.2=[]∧qbk y.2.1.vars 4=some (bb true)) ?_ ?_ ?_
 ·obtain⟨⟨y,e,σ⟩,k1,k2⟩:=key
  have z0:((0:Nat):Int)=0:=rfl
  rw[z0]at k1
  rw[qu,qj qor qny]
  rcases k2 with ⟨ha,k2,k3,k4⟩|⟨ha,x,hx,k2,k3,k4,k5⟩<;>simp only at k2 k3 k4<;>subst k2<;>subst k4
  ·have:decide (n∈l)=false:=by
    rw[decide_eq_false_iff_not];intro h
    have:=List.all_eq_true.1 ha n h
    simp at this
   rw[this]
   simp only[qfe,k1,k3,qe,wh,qn,zgy,↓qf,↓qaq,↓wc,wd,wa,we]
  ·have:decide (n∈l)=true:=by
    rw[decide_eq_true_eq]
    have h1:=List.find?_some hx
    have h2:=List.mem_of_find?_eq_some hx
    simp at h1;subst h1;exact h2
   rw[this]
   simp only at k5
   simp only[qfe,k1,k3,k5,qe,wh,qn,zgy,↓qf,↓qaq,↓wc,wd,wa,we]
 ·intro i x hi hx hp
  have hi':(i:Int)<(l.length:Int):=by omega
  have hw:IntKind.i64.wrap ((i:Int)+1)=((i+1:Nat):Int):=qal (by omega)
  have hp':¬x=n:=by simpa using hp
  simp only[qd2,zgs,zgr,zgq,zgt,zgi,hx,hi',hw,hp',qk,qe,wh,qc,zgy,↓qf,↓wc,wa,we]
 ·intro i x hi hx hp
  have hi':(i:Int)<(l.length:Int):=by omega
  have hp':x=n:=by simpa using hp
  simp only[qd2,zgs,zgr,zgq,zgt,zgi,hx,hi',hp',qk,wh,qc,zgy,↓qf,↓wc,wa,we]
  exact⟨_,rfl,rfl,rfl,rfl,rfl⟩
 ·simp only[qd2,zgi,ww,wh,zgy,↓qf,↓wc,wa,we]
  exact⟨_,rfl,rfl,rfl,rfl⟩
set_option maxRecDepth 10000
def qp8 (s t:Slt):Prop:=s.state≠0∧t.state≠0∧s.seq=t.seq
instance (s t:Slt):Decidable (qp8 s t):=by unfold qp8;infer_instance
section
variable (a:Ar) (c d:Bool)
def qug (i:Nat):Prop:=∃s,a.slots[i]? = some s∧qgu s a.next∧(s.state=0↔(i:Int)∈a.idle) ∧ ∀k t,k<i→a.slots[k]? = some t→¬qp8 s t
theorem rv_inner (i:Nat) (hi:i<a.slots.length) (hl:a.slots.length≤64) (s:Slt) (hs:a.slots[i]? = some s) :
  ∃y,itB (exec (evL T) itL none qds) (qca [1,3,4,5] true 1) ⟨[(1,.fptr [(.fsl ((a.slots).map Slt.r) c),(.fsl ((a.idle).map qk) d),(ii a.next)]),(3,(ii i)),(4,.ptr 0 0 0 0),(5,(ii ((0:Nat))))],[]⟩ [.row 4 [s.r] 0]=some y ∧
   ((∀k t,k<i→a.slots[k]? = some t→¬qp8 s t)∧y.1 = .exit 2∧y.2.1.marks=[]∧y.2.2=[.row 4 [s.r] 0]∧qbk y.2.1.vars 1=some (.fptr [(.fsl ((a.slots).map Slt.r) c),(.fsl ((a.idle).map qk) d),(ii a.next)])∧qbk y.2.1.vars 3=some (ii i) ∨
    (¬ ∀k t,k<i→a.slots[k]? = some t→¬qp8 s t)∧y.1 = .ret∧y.2.1.marks=[]∧y.2.2=[.row 4 [s.r] 0]∧qbk y.2.1.vars 2=some (bb false)):=by
 refine qhs (α:=Unit) (fun j _=>⟨[(1,.fptr [(.fsl ((a.slots).map Slt.r) c),(.fsl ((a.idle).map qk) d),(ii a.next)]),(3,(ii i)),(4,.ptr 0 0 0 0),(5,(ii j))],[]⟩) (fun _ _=>[.row 4 [s.r] 0]) (fun j _ => ∀k t,k<j→a.slots[k]? = some t→¬qp8 s t) i _ ?_ ?_ 0 () (wI _) (fun k t h=>by omega)
 ·rintro j-hj hall
  obtain⟨t,ht⟩ : ∃t,a.slots[j]? = some t:=⟨_,zgE (by omega)⟩
  have hj':(j:Int)<(i:Int):=by omega
  have hw:IntKind.i64.wrap ((j:Int)+1)=((j+1:Nat):Int):=qal (by omega)
  have good:¬qp8 s t → ∀k t,k<j+1→a.slots[k]? = some t→¬qp8 s t:=fun hn k u hk hu=>by
   by_cases e:k=j
   ·subst e;rw[ht]at hu;cases hu;exact hn
   ·exact hall k u (by omega) hu
  have bad:qp8 s t→¬ ∀k t,k<i→a.slots[k]? = some t→¬qp8 s t:=fun hc h=>h j t hj ht hc
  clear hall
  obtain⟨sg,ss,st,sq⟩:=s
  obtain⟨tg,ts,tt,tq⟩:=t
  unfold qp8 at good bad
  simp only at good bad
  by_cases e1:ss=0
  ·refine .inl ⟨(),?_,good (fun h=>h.1 e1)⟩
   simp only[qds,Slt.r,hj',hw,e1,qm,qe,wh,qc,wq,ne_eq,zgy,↓qf,↓wc,wa]
  by_cases e2:ts=0
  ·refine .inl ⟨(),?_,good (fun h=>h.2.1 e2)⟩
   simp only[qds,zgs,zgr,zgq,zgt,Slt.r,ht,hj',hw,e1,e2,qm,qe,wh,qc,wq,ne_eq,zgy,↓qf,↓wc,wd,wa]
  by_cases e3:sq=tq
  ·subst e3
   exact .inr ⟨_,by simp only[qds,zgs,zgr,zgq,zgt,Slt.r,ht,hj',e1,e2,wh,qc,ne_eq,zgy,↓qf,↓wc,wd,wa];rfl,.inr ⟨bad ⟨e1,e2,rfl⟩,rfl,rfl,rfl,rfl⟩⟩
  ·refine .inl ⟨(),?_,good (fun h=>e3 h.2.2)⟩
   simp only[qds,zgs,zgr,zgq,zgt,Slt.r,ht,hj',hw,e1,e2,e3,qm,qe,wh,qc,wq,ne_eq,zgy,↓qf,↓wc,wd,wa]
 ·rintro-hall
  simp only[qds,ww,wh,zgy,↓qf,↓wc,wa]
  exact⟨_,rfl,.inl ⟨hall,rfl,rfl,rfl,rfl,rfl⟩⟩
theorem rv_outer (hl:a.slots.length≤64) (hil:a.idle.length≤1000) :
  ∃y,itB (exec (evL T) itL none qb6) (qca [1,3] true 0) ⟨[(1,.fptr [(.fsl ((a.slots).map Slt.r) c),(.fsl ((a.idle).map qk) d),(ii a.next)]),(3,(ii ((0:Nat))))],[]⟩ []=some y ∧
   ((∀i,i<a.slots.length→qug a i)∧y.1 = .exit 0∧y.2.1.marks=[]∧y.2.2=[] ∨
    (¬ ∀i,i<a.slots.length→qug a i)∧y.1 = .ret∧y.2.1.marks=[]∧(∃s:Slt,y.2.2=[.row 4 [s.r] 0])∧qbk y.2.1.vars 2=some (bb false)):=by
 refine qhs (α:=Unit) (fun i _=>⟨[(1,.fptr [(.fsl ((a.slots).map Slt.r) c),(.fsl ((a.idle).map qk) d),(ii a.next)]),(3,(ii i))],[]⟩) (fun _ _=>[]) (fun i _ => ∀k,k<i→qug a k) a.slots.length _ ?_ ?_ 0 () (wI _) (fun k h=>by omega)
 ·rintro i-hi hall
  obtain⟨s,hs⟩ : ∃s,a.slots[i]? = some s:=⟨_,zgE hi⟩
  have hi':(i:Int)<(a.slots.length:Int):=by omega
  have hw:IntKind.i64.wrap ((i:Int)+1)=((i+1:Nat):Int):=qal (by omega)
  have h1:=quq s a.next
  have h2:=qrf a.idle d i hil
  have h2':=qrf a.idle false i hil
  have good:qug a i → ∀k,k<i+1→qug a k:=fun hg k hk=>by
   by_cases e:k=i
   ·subst e;exact hg
   ·exact hall k (by omega)
  have bad:¬qug a i→¬ ∀k,k<a.slots.length→qug a k:=fun hn h=>hn (h i hi)
  have gi:qug a i↔qgu s a.next∧(s.state=0↔(i:Int)∈a.idle) ∧ ∀k t,k<i→a.slots[k]? = some t→¬qp8 s t:=by
   constructor
   ·rintro⟨u,hu,h⟩;rw[hs]at hu;cases hu;exact h
   ·intro h;exact⟨s,hs,h⟩
  obtain⟨⟨y,e,σ⟩,k1,k2⟩:=rv_inner a c d i hi hl s hs
  have z0:((0:Nat):Int)=0:=rfl
  rw[z0]at k1
  by_cases e1:qgu s a.next
  case neg=>
   rw[decide_eq_false e1]at h1
   have hb:=bad (fun h=>e1 (gi.1 h).1)
   clear k1 k2 gi good bad
   obtain⟨sg,ss,st,sq⟩:=s
   simp only at h1
   exact .inr ⟨_,by simp only[qb6,zgs,zgr,zgq,zgt,Slt.r,zgi,hs,hi',h1,wh,wn,qc,wf,wg,ne_eq,zgy,↓qf,↓wc,wd,wa];rfl,.inr ⟨hb,rfl,rfl,⟨⟨sg,ss,st,sq⟩,rfl⟩,rfl⟩⟩
  rw[decide_eq_true e1]at h1
  by_cases e2:(s.state=0↔(i:Int)∈a.idle)
  case neg=>
   have hb:=bad (fun h=>e2 (gi.1 h).2.1)
   clear k1 k2 gi good bad
   obtain⟨sg,ss,st,sq⟩:=s
   simp only at h1 e2
   by_cases e3:ss=0
   ·have e4:¬(i:Int)∈a.idle:=fun h=>e2 ⟨fun _=>h,fun _=>e3⟩
    rw[decide_eq_false e4]at h2 h2'
    subst e3
    exact .inr ⟨_,by simp only[qb6,zgs,zgr,zgq,zgt,Slt.r,zgi,hs,hi',h1,h2,qe,wh,wn,qc,wf,wg,ne_eq,zgy,↓qf,↓qaq,↓wc,wd,wa];rfl,.inr ⟨hb,rfl,rfl,⟨⟨sg,0,st,sq⟩,rfl⟩,rfl⟩⟩
   ·have e4:(i:Int)∈a.idle:=Classical.byContradiction fun h=>e2 ⟨fun h'=>absurd h' e3,fun h'=>absurd h' h⟩
    rw[decide_eq_true e4]at h2 h2'
    exact .inr ⟨_,by simp only[qb6,zgs,zgr,zgq,zgt,Slt.r,zgi,hs,hi',h1,h2,e3,qe,wh,wn,qc,wf,wg,ne_eq,zgy,↓qf,↓qaq,↓wc,wd,wa];rfl,.inr ⟨hb,rfl,rfl,⟨⟨sg,ss,st,sq⟩,rfl⟩,rfl⟩⟩
  have e3:(decide (s.state=0)==decide ((i:Int)∈a.idle))=true:=by
   rw[beq_iff_eq,decide_eq_decide];exact e2
  rcases k2 with ⟨ha,k2,k3,k4,k5,k6⟩|⟨ha,k2,k3,k4,k5⟩<;>simp only at k2 k3 k4 k5<;>subst k2<;>subst k4
  ·simp only at k6
   have hg:=good (gi.2 ⟨e1,e2,ha⟩)
   clear gi good bad
   refine .inl ⟨(),?_,hg⟩
   obtain⟨sg,ss,st,sq⟩:=s
   simp only[Slt.r]at h1 e2 k1
   by_cases e5:ss=0
   ·rw[decide_eq_true (e2.1 e5)]at h2 h2'
    subst e5
    simp only[qb6,zgs,zgr,zgq,zgt,Slt.r,zgi,hs,hi',hw,h1,h2,k1,k3,k5,k6,qm,qe,wh,wn,qc,wf,wg,wq,ne_eq,zgy,↓qf,↓qaq,↓wc,wd,wa]
   ·rw[decide_eq_false (fun h=>e5 (e2.2 h))]at h2 h2'
    simp only[qb6,zgs,zgr,zgq,zgt,Slt.r,zgi,hs,hi',hw,h1,h2,e5,k1,k3,k5,k6,qm,qe,wh,wn,qc,wf,wg,wq,ne_eq,zgy,↓qf,↓qaq,↓wc,wd,wa]
  ·have hb:=bad (fun h=>ha (gi.1 h).2.2)
   clear gi good bad
   obtain⟨sg,ss,st,sq⟩:=s
   simp only[Slt.r]at h1 e2 k1
   by_cases e5:ss=0
   ·rw[decide_eq_true (e2.1 e5)]at h2 h2'
    subst e5
    exact .inr ⟨_,by simp only[qb6,zgs,zgr,zgq,zgt,Slt.r,zgi,hs,hi',h1,h2,k1,qm,qe,wh,wn,qc,wf,wg,wq,ne_eq,zgy,↓qf,↓qaq,↓wc,wd,wa];rfl,.inr ⟨hb,rfl,k3,⟨⟨sg,0,st,sq⟩,rfl⟩,k5⟩⟩
   ·rw[decide_eq_false (fun h=>e5 (e2.2 h))]at h2 h2'
    exact .inr ⟨_,by simp only[qb6,zgs,zgr,zgq,zgt,Slt.r,zgi,hs,hi',h1,h2,e5,k1,qm,qe,wh,wn,qc,wf,wg,wq,ne_eq,zgy,↓qf,↓qaq,↓wc,wd,wa];rfl,.inr ⟨hb,rfl,k3,⟨⟨sg,ss,st,sq⟩,rfl⟩,k5⟩⟩
 ·rintro-hall
  simp only[qb6,zgi,ww,wh,qc,zgy,↓qf,↓wc,wa]
  exact⟨_,rfl,.inl ⟨hall,rfl,rfl,rfl⟩⟩
theorem qpg (l:List Slt):(qc8 l).length+qmj l=l.length:=by
 rw[qvm]
 have:=List.length_eq_countP_add_countP (fun s:Slt=>decide (s.state=0)) (l:=l)
 have e:(fun s:Slt=>decide ¬decide (s.state=0)=true)=fun s => !decide (s.state=0):=by funext s;cases decide (s.state=0)<;>rfl
 rw[e]at this
 unfold qmj
 omega
theorem qxk:ArOk a↔(1≤a.slots.length∧a.slots.length≤64)∧(0≤a.next∧a.next≤qf3)∧a.idle.length+qhe a=a.slots.length ∧ ∀i,i<a.slots.length→qug a i:=by
 have hfl:=qpg a.slots
 constructor
 ·intro A
  refine⟨A.len,A.next,A.count,fun i hi => ?_⟩
  obtain⟨s,hs⟩ : ∃s,a.slots[i]? = some s:=⟨_,zgE hi⟩
  refine⟨s,hs,A.slot s (zmg hs),(qx8.1 A.idle).2 i s hs,fun k t hk ht hc => ?_⟩
  exact A.seqs k i t s hk ht hs hc.2.1 hc.1 hc.2.2.symm
 ·rintro⟨h1,h2,h3,h4⟩
  refine⟨h1,h2,fun s hs => ?_,fun i j s t hij hs ht hs0 ht0 he => ?_,qx8.2 ⟨?_,fun i s hs => ?_⟩⟩
  ·obtain⟨i,hi⟩:=List.mem_iff_getElem?.1 hs
   obtain⟨u,hu,q,_⟩:=h4 i (zei.1 hi).1
   rw[hi]at hu;cases hu;exact q
  ·obtain⟨u,hu,_,_,q⟩:=h4 j (zei.1 ht).1
   rw[ht]at hu;cases hu
   exact q i s hij hs ⟨ht0,hs0,he.symm⟩
  ·unfold qhe at h3;unfold qmj at hfl;omega
  ·obtain⟨u,hu,_,q,_⟩:=h4 i (zei.1 hs).1
   rw[hs]at hu;cases hu;exact q
theorem qj2 (hil:a.idle.length≤1000) : ∃v:Bool,(v=true↔ArOk a)∧qu (evL T) qde [(.agg [(.fsl ((a.slots).map Slt.r) c),(.fsl ((a.idle).map qk) d),(ii a.next)])]=some (bb v):=by
 rw[qxk]
 by_cases l1:1≤a.slots.length
 case neg=>
  refine⟨false,⟨fun h=>(by cases h),fun h=>absurd h.1.1 l1⟩,?_⟩
  have l1':(a.slots.length:Int)<1:=by omega
  rw[qu,qj qd3 qdu];simp only[qdf,zgi,l1',wh,qc,wf,wg,qn,ne_eq,zgy,↓qf,↓wc,wa]
 have l1':¬(a.slots.length:Int)<1:=by omega
 by_cases l2:a.slots.length≤64
 case neg=>
  refine⟨false,⟨fun h=>(by cases h),fun h=>absurd h.1.2 l2⟩,?_⟩
  have l2':(a.slots.length:Int)>64:=by omega
  rw[qu,qj qd3 qdu];simp only[qdf,zgi,l1',l2',wh,qc,wf,wg,qn,ne_eq,zgy,↓qf,↓wc,wa]
 have l2':¬(a.slots.length:Int)>64:=by omega
 by_cases n1:a.next<0
 ·refine⟨false,⟨fun h=>(by cases h),fun h=>absurd h.2.1.1 (by omega)⟩,?_⟩
  rw[qu,qj qd3 qdu];simp only[qdf,zgi,l1',l2',n1,wh,qc,wf,wg,qn,ne_eq,zgy,↓qf,↓wc,wa]
 by_cases n2:a.next>1099511627776
 ·refine⟨false,⟨fun h=>(by cases h),fun h=>absurd h.2.1.2 (by unfold qf3;omega)⟩,?_⟩
  rw[qu,qj qd3 qdu];simp only[qdf,zgi,l1',l2',n1,n2,wh,qc,wf,wg,qn,ne_eq,zgy,↓qf,↓wc,wa]
 have hlv:=qk6 a c d (by omega)
 have hlv':=qk6 a false false (by omega)
 have hle:qhe a≤a.slots.length:=List.countP_le_length
 obtain⟨m,hm⟩ : ∃m,a.slots.length=qhe a+m:=⟨a.slots.length-qhe a,by omega⟩
 have w1:IntKind.i64.wrap ((a.slots.length:Int)-(qhe a:Int))=(m:Int):=qg6 hm (by omega)
 by_cases i1:a.idle.length=m
 case neg=>
  refine⟨false,⟨fun h=>(by cases h),fun h=>absurd h.2.2.1 (by omega)⟩,?_⟩
  have i1':¬(a.idle.length:Int)=(m:Int):=by omega
  rw[qu,qj qd3 qdu];simp only[qdf,zgi,l1',l2',n1,n2,hlv,w1,i1',qm,qe,wh,qc,wf,wg,qn,ne_eq,zgy,↓qf,↓wc,wd,wa]
 have i1':(a.idle.length:Int)=(m:Int):=by omega
 obtain⟨⟨y,e,σ⟩,k1,k2⟩:=rv_outer a c d l2 hil
 have z0:((0:Nat):Int)=0:=rfl
 rw[z0]at k1
 rcases k2 with ⟨ha,k2,k3,k4⟩|⟨ha,k2,k3,⟨s,k4⟩,k5⟩<;>simp only at k2 k3 k4<;>subst k2<;>subst k4
 ·refine⟨true,⟨fun _=>⟨⟨l1,l2⟩,⟨by omega,by unfold qf3;omega⟩,by omega,ha⟩,fun _=>rfl⟩,?_⟩
  rw[qu,qj qd3 qdu];simp only[qdf,zgi,l1',l2',n1,n2,hlv,w1,i1',k1,k3,qm,qe,wh,qc,wf,wg,qn,ne_eq,zgy,↓qf,↓qaq,↓wc,wd,wa]
 ·simp only at k5
  refine⟨false,⟨fun h=>(by cases h),fun h=>absurd h.2.2.2 ha⟩,?_⟩
  rw[qu,qj qd3 qdu];simp only[qdf,zgi,l1',l2',n1,n2,hlv,w1,i1',k1,k3,k5,qm,qe,wh,qc,wf,wg,qn,ne_eq,zgy,↓qf,↓qaq,↓wc,wd,wa]
end
set_option maxRecDepth 10000
theorem qr1 (q n:Int) (v:AV) : ∀es:List (Int×AV),qv2 q (qv0 n v es)=if n=q then some v else qv2 q es
 | []=>by simp only[qv0,qv2]
 |p::r=>by
  simp only[qv0]
  by_cases h:p.1=n
  ·rw[if_pos h]
   simp only[qv2]
   by_cases h2:n=q
   ·rw[if_pos h2,if_pos h2]
   ·rw[if_neg h2,if_neg h2,if_neg (by rw[h];exact h2)]
  ·rw[if_neg h]
   simp only[qv2]
   rw[qr1 q n v r]
   by_cases h2:p.1=q
   ·rw[if_pos h2,if_pos h2,if_neg (by rw[←h2];exact fun e=>h e.symm)]
   ·rw[if_neg h2,if_neg h2]
theorem qyt {l:List Slt} {i:Nat} {s:Slt} (h:l[i]? = some s):qc8 (l.take (i+1))=qc8 (l.take i)++if s.state=0 then [(i:Int)]else []:=by
 have hi:=(zei.1 h).1
 unfold qc8
 rw[wG,wG,Nat.min_eq_left (by omega),Nat.min_eq_left (by omega),wL,List.filter_append,wB]
 congr 1
 ·congr 1
  refine List.filter_congr fun j hj => ?_
  rw[List.mem_range]at hj
  rw[List.getElem?_take_of_lt (by omega),List.getElem?_take_of_lt hj]
 ·rw[List.filter_cons,List.filter_nil,List.getElem?_take_of_lt (by omega),h]
  by_cases e:s.state=0<;>simp[e]
section
variable (a:Ar) (c d:Bool)
def qnw (i:Nat) (q:Int):Prop:=∃k t,k<i∧a.slots[k]? = some t∧t.state≠0∧t.seq=q
def qu9 (i:Nat):Prop:=∃s,a.slots[i]? = some s∧qgu s a.next∧(s.state≠0→¬qnw a i s.seq)
structure MapOk (i:Nat) (es:List (Int×AV)):Prop where
 yes : ∀q,qnw a i q→qv2 q es=some (bb true)
 no : ∀q,¬qnw a i q→qv2 q es=none
theorem av_loop (hl:a.slots.length≤64) (hn:0≤a.next∧a.next≤qf3) :
  ∃y,itB (exec (evL T) itL none qdv) (qca [1,3,4,20,21,22] true 2) ⟨[(1,.fptr [(.fsl ((a.slots).map Slt.r) c),(.fsl ((a.idle).map qk) d),(ii a.next)]),(3,.sl 0 (qc8 (a.slots.take (0:Nat))).length 0 (qc8 (a.slots.take (0:Nat))).length false),(4,.mp 1),(20,(.fsl ((a.slots).map Slt.r) c)),(21,(ii a.slots.length)),(22,(ii ((0:Nat))))],[]⟩ [.row 1 ((qc8 (a.slots.take (0:Nat))).map qk) (qc8 (a.slots.take (0:Nat))).length,.mp .i64 []]=some y ∧
   ((∀i,i<a.slots.length→qu9 a i)∧y.1 = .exit 0∧y.2.1.marks=[]∧(∃es,y.2.2=[.row 1 ((qc8 a.slots).map qk) (qc8 a.slots).length,.mp .i64 es])∧qbk y.2.1.vars 1=some (.fptr [(.fsl ((a.slots).map Slt.r) c),(.fsl ((a.idle).map qk) d),(ii a.next)])∧qbk y.2.1.vars 3=some (.sl 0 (qc8 a.slots).length 0 (qc8 a.slots).length false) ∨
    (¬ ∀i,i<a.slots.length→qu9 a i)∧y.1 = .ret∧y.2.1.marks=[]∧(∃i es,∃s:Slt,y.2.2=[.row 1 ((qc8 (a.slots.take i)).map qk) (qc8 (a.slots.take i)).length,.mp .i64 es,.row 4 [s.r] 0])∧qbk y.2.1.vars 2=some (bb false)):=by
 refine qhs (α:=List (Int×AV)) (fun i _=>⟨[(1,.fptr [(.fsl ((a.slots).map Slt.r) c),(.fsl ((a.idle).map qk) d),(ii a.next)]),(3,.sl 0 (qc8 (a.slots.take i)).length 0 (qc8 (a.slots.take i)).length false),(4,.mp 1),(20,(.fsl ((a.slots).map Slt.r) c)),(21,(ii a.slots.length)),(22,(ii i))],[]⟩) (fun i es=>[.row 1 ((qc8 (a.slots.take i)).map qk) (qc8 (a.slots.take i)).length,.mp .i64 es]) (fun i es=>MapOk a i es ∧ ∀k,k<i→qu9 a k) a.slots.length _ ?_ ?_ 0 [] (wI _) ⟨⟨fun q ⟨k,t,h,_⟩=>by omega,fun q _=>rfl⟩,fun k h=>by omega⟩
 ·rintro i es hi ⟨hm,hall⟩
  obtain⟨s,hs⟩ : ∃s,a.slots[i]? = some s:=⟨_,zgE hi⟩
  have hi':(i:Int)<(a.slots.length:Int):=by omega
  have hw:IntKind.i64.wrap ((i:Int)+1)=((i+1:Nat):Int):=qal (by omega)
  have h1:=qs5 s a.next hn
  have hF:=qyt hs
  have hFl:(qc8 (a.slots.take i)).length≤64:=by
   have:=qpg (a.slots.take i)
   rw[wG]at this;omega
  have good:qu9 a i → ∀k,k<i+1→qu9 a k:=fun hg k hk=>by
   by_cases e:k=i
   ·subst e;exact hg
   ·exact hall k (by omega)
  have bad:¬qu9 a i→¬ ∀k,k<a.slots.length→qu9 a k:=fun hn h=>hn (h i hi)
  have gi:qu9 a i↔qgu s a.next∧(s.state≠0→¬qnw a i s.seq):=by
   constructor
   ·rintro⟨u,hu,h⟩;rw[hs]at hu;cases hu;exact h
   ·intro h;exact⟨s,hs,h⟩
  have su : ∀q,qnw a (i+1) q↔qnw a i q∨(s.state≠0∧s.seq=q):=fun q=>by
   constructor
   ·rintro⟨k,t,hk,ht,h0,hq⟩
    by_cases e:k=i
    ·subst e;rw[hs]at ht;cases ht;exact .inr ⟨h0,hq⟩
    ·exact .inl ⟨k,t,by omega,ht,h0,hq⟩
   ·rintro(⟨k,t,hk,ht,h0,hq⟩|⟨h0,hq⟩)
    ·exact⟨k,t,by omega,ht,h0,hq⟩
    ·exact⟨i,s,by omega,hs,h0,hq⟩
  by_cases e1:qgu s a.next
  case neg=>
   rw[decide_eq_false e1]at h1
   have hb:=bad (fun h=>e1 (gi.1 h).1)
   clear hF su gi good bad
   obtain⟨sg,ss,st,sq⟩:=s
   simp only at h1
   exact .inr ⟨_,by simp only[qdv,zgs,zgr,zgq,zgt,Slt.r,hs,hi',h1,wh,wn,qc,wf,wg,ne_eq,zgy,↓qf,↓wc,wd,wa];rfl,.inr ⟨hb,rfl,rfl,⟨i,es,⟨sg,ss,st,sq⟩,rfl⟩,rfl⟩⟩
  rw[decide_eq_true e1]at h1
  by_cases e2:s.state=0
  ·have hg:=good (gi.2 ⟨e1,fun h=>absurd e2 h⟩)
   have hm2:MapOk a (i+1) es:=⟨fun q hq=>hm.yes q (((su q).1 hq).resolve_right fun h=>h.1 e2),fun q hq=>hm.no q (fun h=>hq ((su q).2 (.inl h)))⟩
   rw[if_pos e2]at hF
   clear su gi good bad e1
   refine .inl ⟨es,?_,hm2,hg⟩
   rw[hF]
   generalize qc8 (a.slots.take i)=F at hFl⊢
   obtain⟨sg,ss,st,sq⟩:=s
   simp only at h1 e2
   subst e2
   have hb:(F.length+1)*8≤140737488355328:=by omega
   have htl:wN F.length (F.map qk)=F.map qk:=ztl (by simp)
   have hr:(F++[(i:Int)]).map qk=F.map qk++[[(ii i)]]:=by rw[wB];rfl
   have hrl:(F++[(i:Int)]).length=F.length+1:=by simp
   rw[hr,hrl]
   simp only[qdv,zgs,zgr,zgq,zgt,Slt.r,hs,hi',hw,h1,hb,htl,qjt,qm,qe,wh,wn,qxh,qc,qcz,wf,wr,wg,wq,ne_eq,zgy,↓qf,↓wc,wd,wa,wC,wl,wk,wu]
  ·rw[if_neg e2,List.append_nil]at hF
   by_cases e3:qnw a i s.seq
   ·have hb:=bad (fun h=>(gi.1 h).2 e2 e3)
    have hgl:=hm.yes _ e3
    clear su gi good bad e1 hF e3
    obtain⟨sg,ss,st,sq⟩:=s
    simp only at h1 e2 hgl
    exact .inr ⟨_,by simp only[qdv,zgs,zgr,zgq,zgt,Slt.r,hs,hi',h1,e2,hgl,wh,wn,qc,wf,wg,ne_eq,zgy,↓qf,↓wc,wd,wa];rfl,.inr ⟨hb,rfl,rfl,⟨i,es,⟨sg,ss,st,sq⟩,rfl⟩,rfl⟩⟩
   ·have hg:=good (gi.2 ⟨e1,fun _=>e3⟩)
    have hgl:=hm.no _ e3
    have hm2:MapOk a (i+1) (qv0 s.seq (bb true) es):=by
     refine⟨fun q hq => ?_,fun q hq => ?_⟩
     ·rw[qr1]
      by_cases e:s.seq=q
      ·rw[if_pos e]
      ·rw[if_neg e];exact hm.yes q (((su q).1 hq).resolve_right fun h=>e h.2)
     ·rw[qr1,if_neg (fun e=>hq ((su q).2 (.inr ⟨e2,e⟩)))]
      exact hm.no q (fun h=>hq ((su q).2 (.inl h)))
    clear su gi good bad e1 e3
    refine .inl ⟨_,?_,hm2,hg⟩
    rw[hF]
    generalize qc8 (a.slots.take i)=F at hFl⊢
    obtain⟨sg,ss,st,sq⟩:=s
    simp only at h1 e2 hgl
    simp only[qdv,zgs,zgr,zgq,zgt,Slt.r,hs,hi',hw,h1,e2,hgl,qm,qe,wh,wn,qc,wf,wg,wq,ne_eq,zgy,↓qf,↓wc,wd,wa,wl]
 ·rintro es ⟨hm,hall⟩
  rw[wF]
  simp only[qdv,ww,wh,zgy,↓qf,↓wc,wa]
  exact⟨_,rfl,.inl ⟨hall,rfl,rfl,⟨es,rfl⟩,rfl,rfl⟩⟩
theorem qvt:ArOk a↔(1≤a.slots.length∧a.slots.length≤64)∧(0≤a.next∧a.next≤qf3)∧(∀i,i<a.slots.length→qu9 a i)∧a.idle.Perm (qc8 a.slots):=by
 constructor
 ·intro A
  refine⟨A.len,A.next,fun i hi => ?_,A.idle⟩
  obtain⟨s,hs⟩ : ∃s,a.slots[i]? = some s:=⟨_,zgE hi⟩
  refine⟨s,hs,A.slot s (zmg hs),fun h0 ⟨k,t,hk,ht,h1,h2⟩ => ?_⟩
  exact A.seqs k i t s hk ht hs h1 h0 h2
 ·rintro⟨h1,h2,h3,h4⟩
  refine⟨h1,h2,fun s hs => ?_,fun i j s t hij hs ht hs0 ht0 he => ?_,h4⟩
  ·obtain⟨i,hi⟩:=List.mem_iff_getElem?.1 hs
   obtain⟨u,hu,q,_⟩:=h3 i (zei.1 hi).1
   rw[hi]at hu;cases hu;exact q
  ·obtain⟨u,hu,_,q⟩:=h3 j (zei.1 ht).1
   rw[ht]at hu;cases hu
   exact q ht0 ⟨i,s,hij,hs,hs0,he⟩
theorem qka (hil:a.idle.length≤80) : ∃v:Bool,(v=true↔ArOk a)∧qu (evL T) qbv [(.agg [(.fsl ((a.slots).map Slt.r) c),(.fsl ((a.idle).map qk) d),(ii a.next)])]=some (bb v):=by
 rw[qvt]
 by_cases l1:1≤a.slots.length∧a.slots.length≤64
 case neg=>
  refine⟨false,⟨fun h=>(by cases h),fun h=>absurd h.1 l1⟩,?_⟩
  have l1':=qm2 (n:=(a.slots.length:Int)) (a:=1) (b:=64) (by omega)
  rw[qu,qj qg4 qgk];simp only[qfa,zgi,l1',wh,qc,wf,wg,qn,ne_eq,zgy,↓qf,↓wc,wa]
 have l1':=qm0 (n:=(a.slots.length:Int)) (a:=1) (b:=64) (by omega)
 by_cases n1:0≤a.next∧a.next≤qf3
 case neg=>
  refine⟨false,⟨fun h=>(by cases h),fun h=>absurd h.2.1 n1⟩,?_⟩
  have n1':=qm2 (n:=a.next) (a:=0) (b:=1099511627776) n1
  rw[qu,qj qg4 qgk];simp only[qfa,zgi,l1',n1',wh,qc,wf,wg,qn,ne_eq,zgy,↓qf,↓wc,wa]
 have n1':=qm0 (n:=a.next) (a:=0) (b:=1099511627776) n1
 obtain⟨⟨y,e,σ⟩,k1,k2⟩:=av_loop a c d l1.2 n1
 have z0:((0:Nat):Int)=0:=rfl
 have z1:qc8 (a.slots.take 0)=[]:=rfl
 rw[z0,z1]at k1
 simp only[wK,zgb]at k1
 rcases k2 with ⟨ha,k2,k3,⟨es,k4⟩,k5,k6⟩|⟨ha,k2,k3,⟨i,es,s,k4⟩,k5⟩<;>simp only at k2 k3 k4 k5<;>subst k2<;>subst k4
 ·obtain⟨S,s1,s2,s3⟩:=qzj a.idle false hil
  have hv:=qzw a.idle d
  have hFl:(qc8 a.slots).length≤64:=by have:=qpg a.slots;omega
  have heq:=qr3 (qc8 a.slots) S false false (by omega) (by rw[s1.length_eq];omega)
  have hiff:=qw8 s1 s2 (qwh a.slots)
  refine⟨decide (qc8 a.slots=S),⟨fun h=>⟨l1,n1,ha,hiff.1 (of_decide_eq_true h)⟩,fun h=>decide_eq_true (hiff.2 h.2.2.2)⟩,?_⟩
  have htk:((qc8 a.slots).map qk).take (qc8 a.slots).length=(qc8 a.slots).map qk:=ztl (by simp)
  rw[qu,qj qg4 qgk]
  simp only[qfa,zgi,l1',n1',k1,k3,k5,k6,hv,s3,heq,htk,qm,qe,wh,qc,wf,wg,qn,wq,ne_eq,zgy,↓qf,↓qaq,↓wc,wd,wa,wl]
 ·refine⟨false,⟨fun h=>(by cases h),fun h=>absurd h.2.2.1 ha⟩,?_⟩
  rw[qu,qj qg4 qgk]
  simp only[qfa,zgi,l1',n1',k1,k3,k5,qm,qe,wh,qc,wf,wg,qn,wq,ne_eq,zgy,↓qf,↓qaq,↓wc,wd,wa,wl]
end
end Go.Proofs.Ytjliejhcjeodfaa.K
