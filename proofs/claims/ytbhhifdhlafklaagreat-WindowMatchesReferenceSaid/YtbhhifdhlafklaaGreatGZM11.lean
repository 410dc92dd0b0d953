/- For every input the statement of this claim returns true: texts of its proof, joined (part 12). -/
import Derived.ChangeShapes
import Derived.ChangeOld
import Derived.ChangeArms
import Derived.DataReads
import Derived.Carry
import Derived.ChangeSame
import Derived.OpenShut
import Derived.Handed
import Derived.RowKit3
import Derived.ChangeAt
import Derived.Test.YtbhhifdhlafklaaGreatRows
import Derived.WalkKit
import Derived.ProofKit
import Derived.Test.YtbhhifdhlafklaaGreatEZM3
import Derived.Test.YtbhhifdhlafklaaGreatGZM10
set_option linter.unusedSectionVars false
set_option linter.unusedSimpArgs false
set_option linter.unusedVariables false
namespace Go.Proofs.YtbhhifdhlafklaaGreat.K
open Go.Ev
set_option maxRecDepth 10000
def qc7 (n : Nat) (l : List Evt) : List (List Evt):=(List.range n).map fun i => sortL (qbq l i)
theorem q9d (l : List Evt) (k : Nat) (e : Evt) (i : Nat) (h : l[k]? = some e) : qbq (l.take (k + 1)) i = if e.lp = i then qbq (l.take k) i ++ [e] else qbq (l.take k) i:=by
 rw [List.take_add_one,h];exact qmz _ _ _
theorem q3y {l : List Evt} (h : qr1 l) (i : Nat) : qr1 (qbq l i):=h.sub List.filter_sublist
section
variable (l : List Evt) (cl : Bool)
theorem qacx (hl : l.length ≤ 1000000) (hk : qcj l) (hd : qr1 l) (i n : Nat) (R : List (List AV)) (g : Nat) (hlo : qhl 1 R = true) :
  ∃ y,itB (exec (evL T) itL none qhr) (qq [0,1,5,6,7,8] true 1) ⟨[(0,(ii n)),(1,(.fsl ((l).map Evt.r) cl)),(5,.sl 0 g 0 R.length false),(6,(ii i)),(7,.fsl [] true),(8,(ii ((0 : Nat))))],[]⟩ [.row 1 R g] = some y ∧
   ∃ cf : Bool,y.1 = .exit 2 ∧ y.2.1.marks = [] ∧ y.2.2 = [.row 1 R g] ∧ Ev.look y.2.1.vars 0 = some (ii n) ∧ Ev.look y.2.1.vars 1 = some (.fsl ((l).map Evt.r) cl) ∧ Ev.look y.2.1.vars 5 = some (.sl 0 g 0 R.length false) ∧ Ev.look y.2.1.vars 6 = some (ii i) ∧ Ev.look y.2.1.vars 7 = some (.fsl (((sortL (qbq l i))).map Evt.r) cf):=by
 have key:=qen (f:=exec (evL T) itL none qhr) (s:=qq [0,1,5,6,7,8] true 1) (α:=List Evt × Bool)
  (fun k a => ⟨[(0,(ii n)),(1,(.fsl ((l).map Evt.r) cl)),(5,.sl 0 g 0 R.length false),(6,(ii i)),(7,(.fsl ((a.1).map Evt.r) a.2)),(8,(ii k))],[]⟩) (fun _ _ => [.row 1 R g]) (fun k a => a.1 = sortL (qbq (l.take k) i)) l.length
  (fun y => ∃ cf : Bool,y.1 = .exit 2 ∧ y.2.1.marks = [] ∧ y.2.2 = [.row 1 R g] ∧ Ev.look y.2.1.vars 0 = some (ii n) ∧ Ev.look y.2.1.vars 1 = some (.fsl ((l).map Evt.r) cl) ∧ Ev.look y.2.1.vars 5 = some (.sl 0 g 0 R.length false) ∧ Ev.look y.2.1.vars 6 = some (ii i) ∧ Ev.look y.2.1.vars 7 = some (.fsl (((sortL (qbq l i))).map Evt.r) cf)) ?_ ?_ 0 ([],true) (Nat.zero_le _) (by simp [sortL,qbq])
 ·exact key
 ·rintro k ⟨b,c⟩ hk' hb
  simp only at hb ⊢
  obtain ⟨e,he⟩ : ∃ e,l[k]? = some e:=⟨_,List.getElem?_eq_getElem hk'⟩
  have hk1 : (k : Int) < (l.length : Int):=by omega
  have hw : IntKind.i64.wrap ((k : Int) + 1) = ((k + 1 : Nat) : Int):=by rw [qas (by omega) (by omega)];simp
  have ho:=q9d l k e i he
  by_cases hi : e.lp = i
  ·rw [if_pos hi] at ho
   have sl : ∀ z ∈ qbq (l.take k) i,z ∈ l:=fun z hz => List.mem_of_mem_take (List.mem_filter.1 hz).1
   have hds : qr1 (qbq (l.take (k + 1)) i):=q3y (hd.sub (List.take_sublist _ _)) i
   rw [ho] at hds
   have pb:=qd0 (qbq (l.take k) i)
   have hd2 : qr1 (e :: b):=by rw [hb];exact hds.perm ((pb.cons e).trans (List.perm_append_singleton e _).symm)
   have hbl : b.length ≤ 1000000:=by
    rw [hb,ql3]
    have:=List.length_filter_le (fun e : Evt => decide (e.lp = i)) (l.take k)
    have:=List.length_take_le' k l
    unfold qbq;omega
   have hI:=qqf b c e hbl (fun z hz => hk z (sl z (pb.mem_iff.1 (by rw [← hb];exact hz)))) (hk e (List.mem_of_getElem? he)) (by rw [hb];exact qgc _) hd2
   have hse : sortL (e :: b) = sortL (qbq (l.take k) i ++ [e]):=qvp hds (by rw [hb];exact (pb.cons e).trans (List.perm_append_singleton e _).symm)
   refine .inl ⟨(sortL (e :: b),false),?_,by simp only;rw [ho,hse]⟩
   clear hse hd2 hds ho hb
   obtain ⟨et,ek,el,ei,ep,ea⟩:=e
   simp only at hi
   subst hi
   simp only at hI
   generalize sortL (⟨et,ek,(i : Int),ei,ep,ea⟩ :: b) = B at *
   simp only [qhr,zgs,zgr,zgq,zgt,he,hk1,hw,hI,hlo,Evt.r,qv,qah,Ev.exec,qb,qe,qc,qa0,qaj,Ev.evs,Ev.Opnd.ev,Ev.Env.get,Ev.Env.set,Ev.look,qh,qad,qaf,qam,ql,qq,Ev.keep,qae,qw,qd,Ev.SObj.lo,qax,qbe,qu,qbj,qg,qf,zgi,↓qs,Ev.it1,↓reduceIte,zga,zgb,zgc,zfe,zgf,zgg,zgh,Nat.reduceAdd,Nat.reduceEqDiff,reduceCtorEq,zgv,zfc,zfa,zgx,zfd,zgu,Nat.le_refl,zgy]
  ·rw [if_neg hi] at ho
   refine .inl ⟨(b,c),?_,by simp only;rw [ho,hb]⟩
   obtain ⟨et,ek,el,ei,ep,ea⟩:=e
   simp only at hi
   simp only [qhr,zgs,zgr,zgq,zgt,he,hk1,hw,hi,hlo,Evt.r,qv,Ev.exec,qb,qe,qc,qaj,Ev.Opnd.ev,Ev.Env.get,Ev.Env.set,Ev.look,qh,qad,qaf,qam,ql,qq,Ev.keep,qae,qw,qd,Ev.SObj.lo,qax,qu,qbj,zgi,↓qs,Ev.it1,↓reduceIte,zga,zgb,zgc,zfe,zgf,zgg,zgh,Nat.reduceAdd,Nat.reduceEqDiff,reduceCtorEq,zgv,zgw,zfc,zfa,zgx,zfd,zgu,zgy]
 ·rintro ⟨b,c⟩ hb
  simp only [List.take_length] at hb ⊢
  simp only [qhr,Int.lt_irrefl,Ev.exec,qb,qe,qc,qaj,Ev.Opnd.ev,Ev.Env.get,Ev.Env.set,Ev.look,ql,zgi,↓qs,Ev.it1,↓reduceIte,Nat.reduceEqDiff,reduceCtorEq,zgw,zfa,zgy]
  exact ⟨_,rfl,c,rfl,rfl,rfl,rfl,rfl,rfl,rfl,by rw [← hb];rfl⟩
theorem q5x (n : Nat) (hn : n ≤ 8) (hl : l.length ≤ 1000000) (hk : qcj l) (hd : qr1 l) : qaz (evL T) qhu [(ii n),(.fsl ((l).map Evt.r) cl)] = some (.fsl (((qc7 n l)).map qbc) false):=by
 have hL : ∃ y,itB (exec (evL T) itL none qjw) (qq [0,1,5,6] true 1) ⟨[(0,(ii n)),(1,(.fsl ((l).map Evt.r) cl)),(5,.sl 0 0 0 0 false),(6,(ii ((0 : Nat))))],[]⟩ [.row 1 [] 0] = some y ∧
   ∃ g : Nat,y.1 = .exit 0 ∧ y.2.1.marks = [] ∧ y.2.2 = [.row 1 ((qc7 n l).map qbc) g] ∧ Ev.look y.2.1.vars 5 = some (.sl 0 g 0 n false):=by
  have key:=qen (f:=exec (evL T) itL none qjw) (s:=qq [0,1,5,6] true 1) (α:=Nat)
   (fun i a => ⟨[(0,(ii n)),(1,(.fsl ((l).map Evt.r) cl)),(5,.sl 0 a 0 i false),(6,(ii i))],[]⟩) (fun i a => [.row 1 ((qc7 i l).map qbc) a]) (fun i a => True) n
   (fun y => ∃ g : Nat,y.1 = .exit 0 ∧ y.2.1.marks = [] ∧ y.2.2 = [.row 1 ((qc7 n l).map qbc) g] ∧ Ev.look y.2.1.vars 5 = some (.sl 0 g 0 n false)) ?_ ?_ 0 0 (Nat.zero_le _) trivial
  ·exact key
  ·rintro i g hi _
   have hbl : ((qc7 i l).map qbc).length = i:=by simp [qc7]
   obtain ⟨⟨y,e,σ⟩,k1,cf,k2,k3,k4,k5,k6,k7,k8,k9⟩:=qacx l cl hl hk hd i n ((qc7 i l).map qbc) g (qdk _ _)
   simp only [Int.ofNat_zero,hbl] at k1 k2 k3 k4 k5 k6 k7 k8 k9
   subst k2;subst k4
   have hi' : (i : Int) < (n : Int):=by omega
   have hi8 : (i : Int) < 8:=by omega
   have hw : IntKind.i64.wrap ((i : Int) + 1) = ((i + 1 : Nat) : Int):=by rw [qas (by omega) (by omega)];simp
   have hnx : (qc7 (i + 1) l).map qbc = (qc7 i l).map qbc ++ [[(.fsl (((sortL (qbq l i))).map Evt.r) false)]]:=by unfold qc7;rw [List.range_succ];simp [qbc]
   have lo:=qdk 1 (qc7 (i + 1) l)
   have lo0:=qdk 1 (qc7 i l)
   rw [hnx] at lo
   have tk : List.take i ((qc7 i l).map qbc) = (qc7 i l).map qbc:=List.take_of_length_le (by omega)
   have bd : (i + 1) * 24 ≤ 140737488355328:=by omega
   have hle : i ≤ i:=Nat.le_refl _
   refine .inl ⟨g + 1,?_,trivial⟩
   rw [hnx]
   generalize (qc7 i l).map qbc = R at *
   simp only [qjw,hi',hi8,hw,k1,k3,k5,k6,k7,k8,k9,lo,lo0,tk,bd,hbl,hle,qv,Ev.exec,qb,qe,qc,qaj,qnz,Ev.Opnd.ev,Ev.Env.get,Ev.Env.set,Ev.look,qbs,qfl,Ev.AV.cells,Ev.AV.uc,qx,Ev.AV.plain,qaf,ql,qq,Ev.keep,qae,qw,qd,Ev.SObj.lo,qax,qu,qbj,qaa,qbh,qa8,List.replicate_one,↓qs,↓qan,Ev.it1,↓reduceIte,zga,zgb,zgd,zgc,zfe,zgj,Nat.reduceEqDiff,Nat.reduceMul,Nat.reduceLeDiff,Nat.reducePow,reduceCtorEq,zgv,zfc,zgx,ne_eq,zfb,zff,zfd,zgu,zgy]
  ·rintro g _
   simp only [qjw,Int.lt_irrefl,Ev.exec,qb,qe,qc,qaj,Ev.Opnd.ev,Ev.Env.get,Ev.Env.set,Ev.Env.unset,Ev.look,ql,↓qs,Ev.it1,↓reduceIte,Nat.reduceEqDiff,reduceCtorEq,zgw,zfa,zgy]
   exact ⟨_,rfl,g,rfl,rfl,rfl,rfl⟩
 obtain ⟨⟨y,e,σ⟩,k1,g,k2,k3,k4,k5⟩:=hL
 simp only [Int.ofNat_zero] at k1 k2 k3 k4 k5
 subst k2;subst k4
 have hbl : (qc7 n l).length = n:=by simp [qc7]
 have tk : List.take n ((qc7 n l).map qbc) = (qc7 n l).map qbc:=List.take_of_length_le (by simp [hbl])
 have hle : n ≤ n:=Nat.le_refl _
 rw [qaz,qy qze qx7]
 simp only [qn9,k1,k3,k5,tk,hbl,hle,qv,qdk,zgi,qn,Ev.exec,qb,qe,qc,qaj,Ev.Opnd.ev,Ev.Env.get,Ev.Env.set,Ev.look,qo,qm,qab,qak,Ev.kill,qai,qq,Ev.keep,qae,qw,qd,Ev.SObj.lo,qax,qu,qbj,qaa,qfw,qea,zgi,↓qs,↓qan,↓reduceIte,zga,zgb,zgd,zgc,zgo,zfe,zgg,zgl,Nat.reduceAdd,Nat.reduceEqDiff,Nat.reduceLT,reduceCtorEq,zgv,zgw,zfc,zfa,zgx,and_true,zfd,zgu,zgy]
end
theorem Quick_ev (c : Cfg) : ∃ b : Bool,qaz (evL T) qjk [(.agg [(.fsl ((c.lps).map lpC) false),(.fsl ((c.progs).map qcs) false),(ii c.look),(ii c.fin),(ii c.cap)])] = some (bb b) ∧ (b = true → okB c = true ∧ c.look ≤ 8 ∧ c.lps.length ≤ 4):=by
 have hg:=q2w c
 have hr:=q2z c
 rw [qaz,qy qzl qx4]
 by_cases h1 : qtu c = true
 ·rw [h1] at hg
  exact ⟨false,by simp only [qgz,hg,qc0,qbd,qn,Ev.exec,qb,qe,qc,qa0,qaj,Ev.evs,Ev.Opnd.ev,Ev.Env.get,Ev.Env.set,Ev.Env.unset,Ev.look,qo,qh,qad,Ev.AV.cells,qx,Ev.AV.plain,qm,qab,qak,Ev.kill,qai,qd,qax,qbe,qu,qg,qf,qal,↓qs,↓reduceIte,zga,zgb,zgc,zfe,Nat.reduceAdd,Nat.reduceEqDiff,zfc,Bool.true_eq_false,zgx,ne_eq,zfb,zff,zfd,Nat.le_refl,zgy],fun h => by cases h⟩
 simp only [Bool.not_eq_true] at h1
 rw [h1] at hg
 by_cases h2 : qaar c = 0
 case neg => exact ⟨false,by simp only [qgz,hg,hr,h2,qc0,qbd,qn,Ev.exec,qb,qe,qc,qa0,qaj,Ev.evs,Ev.Opnd.ev,Ev.Env.get,Ev.Env.set,Ev.Env.unset,Ev.look,qo,qh,qad,Ev.AV.cells,qx,Ev.AV.plain,qbn,qm,qab,qak,Ev.kill,qai,qd,qax,qbe,qu,qg,qf,qal,↓qs,↓reduceIte,zga,zgb,zgc,zfe,Nat.reduceAdd,Nat.reduceEqDiff,zgv,zfc,zfa,Bool.true_eq_false,zgx,ne_eq,zfb,zff,zfd,Nat.le_refl,zgy],fun h => by cases h⟩
 rw [h2] at hr
 by_cases h3 : c.look > 8
 ·exact ⟨false,by simp only [qgz,hg,hr,h3,qc0,qbd,qn,Ev.exec,qb,qe,qc,qa0,qaj,Ev.evs,Ev.Opnd.ev,Ev.Env.get,Ev.Env.set,Ev.Env.unset,Ev.look,qo,qh,qad,Ev.AV.cells,qx,Ev.AV.plain,qbn,qau,qm,qab,qak,Ev.kill,qai,qd,qax,qbe,qu,qg,qf,qal,↓qs,↓reduceIte,zga,zgb,zgc,zfe,zgf,zgg,zgh,Nat.reduceAdd,Nat.reduceEqDiff,zgv,zgw,zfc,zfa,Bool.true_eq_false,zgx,ne_eq,zfb,not_true_eq_false,zff,zfd,Nat.le_refl,zgy],fun h => by cases h⟩
 by_cases h4 : (c.lps.length : Int) > 4
 ·exact ⟨false,by simp only [qgz,hg,hr,h3,h4,qc0,qbd,qn,Ev.exec,qb,qe,qc,qa0,qaj,Ev.evs,Ev.Opnd.ev,Ev.Env.get,Ev.Env.set,Ev.look,qo,qh,qad,Ev.AV.cells,qx,Ev.AV.plain,qbn,qau,qm,qab,qak,Ev.kill,qai,qd,qax,qbe,qu,qg,qf,qal,zgi,↓qs,↓reduceIte,zga,zgb,zgc,zfe,zgf,zgg,zgh,Nat.reduceAdd,Nat.reduceEqDiff,zgv,zgw,zfc,zfa,zgx,ne_eq,zfb,not_true_eq_false,zff,zfd,Nat.le_refl,zgy],fun h => by cases h⟩
 have hok : okB c = true ∧ c.look ≤ 8 ∧ c.lps.length ≤ 4:=⟨by unfold okB;rw [h1,h2];rfl,by omega,by omega⟩
 obtain ⟨s1,s2,s3,s4⟩:=qzv c h1
 have hL1 : ∃ y,itB (exec (evL T) itL none qjv) (qq [1,3,4,5] true 0) ⟨[(1,(.fptr [(.fsl ((c.lps).map lpC) false),(.fsl ((c.progs).map qcs) false),(ii c.look),(ii c.fin),(ii c.cap)])),(3,(ii 0)),(4,(ii 0)),(5,(ii ((0 : Nat))))],[]⟩ [] = some y ∧ ∃ a : Int,y.1 = .exit 0 ∧ y.2.1.marks = [] ∧ y.2.2 = [] ∧ Ev.look y.2.1.vars 1 = some (.fptr [(.fsl ((c.lps).map lpC) false),(.fsl ((c.progs).map qcs) false),(ii c.look),(ii c.fin),(ii c.cap)]) ∧ Ev.look y.2.1.vars 3 = some (ii a) ∧ Ev.look y.2.1.vars 4 = some (ii 0):=by
  have key:=qen (f:=exec (evL T) itL none qjv) (s:=qq [1,3,4,5] true 0) (α:=Int) (fun i a => ⟨[(1,(.fptr [(.fsl ((c.lps).map lpC) false),(.fsl ((c.progs).map qcs) false),(ii c.look),(ii c.fin),(ii c.cap)])),(3,(ii a)),(4,(ii 0)),(5,(ii i))],[]⟩) (fun _ _ => []) (fun _ _ => True) c.lps.length
   (fun y => ∃ a : Int,y.1 = .exit 0 ∧ y.2.1.marks = [] ∧ y.2.2 = [] ∧ Ev.look y.2.1.vars 1 = some (.fptr [(.fsl ((c.lps).map lpC) false),(.fsl ((c.progs).map qcs) false),(ii c.look),(ii c.fin),(ii c.cap)]) ∧ Ev.look y.2.1.vars 3 = some (ii a) ∧ Ev.look y.2.1.vars 4 = some (ii 0)) ?_ ?_ 0 0 (Nat.zero_le _) trivial
  ·exact key
  ·rintro i a hi _
   obtain ⟨x,hx⟩ : ∃ x,c.lps[i]? = some x:=⟨_,List.getElem?_eq_getElem hi⟩
   have hi' : (i : Int) < (c.lps.length : Int):=by omega
   have hw : IntKind.i64.wrap ((i : Int) + 1) = ((i + 1 : Nat) : Int):=by rw [qas (by omega) (by omega)];simp
   refine .inl ⟨IntKind.i64.wrap (a + (x.length : Int)),?_,trivial⟩
   simp only [qjv,zgs,zgr,zgq,zgt,hx,hi',hw,lpC,qc0,qbd,Ev.exec,qb,qe,qc,qaj,Ev.Opnd.ev,Ev.Env.get,Ev.Env.set,Ev.look,qh,qad,qaf,ql,qq,Ev.keep,qae,qw,qd,qax,qu,qbt,qg,qf,zgi,↓qs,Ev.it1,↓reduceIte,zga,zgb,zfe,zgg,zgh,Nat.reduceEqDiff,zgv,zfc,zfa,zgx,zfd,zgy]
  ·rintro a _
   simp only [qjv,Int.lt_irrefl,Ev.exec,qb,qe,qc,qaj,Ev.Opnd.ev,Ev.Env.get,Ev.Env.set,Ev.look,qh,qad,ql,zgi,↓qs,Ev.it1,↓reduceIte,zgg,zgh,Nat.reduceEqDiff,zgw,zfa,zgy]
   exact ⟨_,rfl,a,rfl,rfl,rfl,rfl,rfl,rfl⟩
 have hL3 : ∀ (i : Nat) (p : List OpI) (a b : Int),c.progs[i]? = some p → ∃ y,itB (exec (evL T) itL none qht) (qq [1,3,4,6,7] true 0) ⟨[(1,(.fptr [(.fsl ((c.lps).map lpC) false),(.fsl ((c.progs).map qcs) false),(ii c.look),(ii c.fin),(ii c.cap)])),(3,(ii a)),(4,(ii b)),(6,(ii i)),(7,(ii ((0 : Nat))))],[]⟩ [] = some y ∧ ∃ b : Int,y.1 = .exit 4 ∧ y.2.1.marks = [] ∧ y.2.2 = [] ∧ Ev.look y.2.1.vars 1 = some (.fptr [(.fsl ((c.lps).map lpC) false),(.fsl ((c.progs).map qcs) false),(ii c.look),(ii c.fin),(ii c.cap)]) ∧ Ev.look y.2.1.vars 3 = some (ii a) ∧ Ev.look y.2.1.vars 4 = some (ii b) ∧ Ev.look y.2.1.vars 6 = some (ii i):=by
  intro i p a b hp
  have key:=qen (f:=exec (evL T) itL none qht) (s:=qq [1,3,4,6,7] true 0) (α:=Int) (fun k b => ⟨[(1,(.fptr [(.fsl ((c.lps).map lpC) false),(.fsl ((c.progs).map qcs) false),(ii c.look),(ii c.fin),(ii c.cap)])),(3,(ii a)),(4,(ii b)),(6,(ii i)),(7,(ii k))],[]⟩) (fun _ _ => []) (fun _ _ => True) p.length
   (fun y => ∃ b : Int,y.1 = .exit 4 ∧ y.2.1.marks = [] ∧ y.2.2 = [] ∧ Ev.look y.2.1.vars 1 = some (.fptr [(.fsl ((c.lps).map lpC) false),(.fsl ((c.progs).map qcs) false),(ii c.look),(ii c.fin),(ii c.cap)]) ∧ Ev.look y.2.1.vars 3 = some (ii a) ∧ Ev.look y.2.1.vars 4 = some (ii b) ∧ Ev.look y.2.1.vars 6 = some (ii i)) ?_ ?_ 0 b (Nat.zero_le _) trivial
  ·exact key
  ·rintro k b hk _
   obtain ⟨x,hx⟩ : ∃ x,p[k]? = some x:=⟨_,List.getElem?_eq_getElem hk⟩
   have:=s4 p (List.mem_of_getElem? hp)
   have hk' : (k : Int) < (p.length : Int):=by omega
   have hw : IntKind.i64.wrap ((k : Int) + 1) = ((k + 1 : Nat) : Int):=by rw [qas (by omega) (by omega)];simp
   obtain ⟨xc,xa,xb,xd⟩:=x
   by_cases h : xc = 2
   ·exact .inl ⟨IntKind.i64.wrap (b + 1),by simp only [qht,zgs,zgr,zgq,zgt,hp,hx,hk',hw,h,qcs,OpI.r,qc0,qbd,Ev.exec,qb,qe,qc,qaj,Ev.Opnd.ev,Ev.Env.get,Ev.Env.set,Ev.look,qh,qad,qaf,qam,ql,qq,Ev.keep,qae,qw,qd,qax,qu,qbt,qg,qf,zgi,↓qs,Ev.it1,↓reduceIte,zga,zgb,zfe,zgf,zgg,zgh,Nat.reduceAdd,Nat.reduceEqDiff,zgv,zfc,zfa,zgx,zfd,zgy],trivial⟩
   ·exact .inl ⟨b,by simp only [qht,zgs,zgr,zgq,zgt,hp,hx,hk',hw,h,qcs,OpI.r,qc0,qbd,Ev.exec,qb,qe,qc,qaj,Ev.Opnd.ev,Ev.Env.get,Ev.Env.set,Ev.look,qh,qad,qaf,qam,ql,qq,Ev.keep,qae,qw,qd,qax,qu,qbt,qg,qf,zgi,↓qs,Ev.it1,↓reduceIte,zga,zgb,zfe,zgf,zgg,zgh,Nat.reduceAdd,Nat.reduceEqDiff,zgv,zgw,zfc,zfa,zgx,zfd,zgy],trivial⟩
  ·rintro b _
   simp only [qht,zgs,zgr,zgq,zgt,hp,Int.lt_irrefl,qcs,Ev.exec,qb,qe,qc,qaj,Ev.Opnd.ev,Ev.Env.get,Ev.Env.set,Ev.look,qh,qad,ql,zgi,↓qs,Ev.it1,↓reduceIte,zga,zgb,zgf,zgg,zgh,Nat.reduceEqDiff,zgw,zfa,zfd,zgy]
   exact ⟨_,rfl,b,rfl,rfl,rfl,rfl,rfl,rfl,rfl⟩
 have hL2 : ∀ a : Int,∃ y,itB (exec (evL T) itL none qj3) (qq [1,3,4,6] true 0) ⟨[(1,(.fptr [(.fsl ((c.lps).map lpC) false),(.fsl ((c.progs).map qcs) false),(ii c.look),(ii c.fin),(ii c.cap)])),(3,(ii a)),(4,(ii 0)),(6,(ii ((0 : Nat))))],[]⟩ [] = some y ∧ ∃ b : Int,y.1 = .exit 2 ∧ y.2.1.marks = [] ∧ y.2.2 = [] ∧ Ev.look y.2.1.vars 3 = some (ii a) ∧ Ev.look y.2.1.vars 4 = some (ii b):=by
  intro a
  have key:=qen (f:=exec (evL T) itL none qj3) (s:=qq [1,3,4,6] true 0) (α:=Int) (fun i b => ⟨[(1,(.fptr [(.fsl ((c.lps).map lpC) false),(.fsl ((c.progs).map qcs) false),(ii c.look),(ii c.fin),(ii c.cap)])),(3,(ii a)),(4,(ii b)),(6,(ii i))],[]⟩) (fun _ _ => []) (fun _ _ => True) c.progs.length
   (fun y => ∃ b : Int,y.1 = .exit 2 ∧ y.2.1.marks = [] ∧ y.2.2 = [] ∧ Ev.look y.2.1.vars 3 = some (ii a) ∧ Ev.look y.2.1.vars 4 = some (ii b)) ?_ ?_ 0 0 (Nat.zero_le _) trivial
  ·exact key
  ·rintro i b hi _
   obtain ⟨x,hx⟩ : ∃ x,c.progs[i]? = some x:=⟨_,List.getElem?_eq_getElem hi⟩
   have hi' : (i : Int) < (c.progs.length : Int):=by omega
   have hw : IntKind.i64.wrap ((i : Int) + 1) = ((i + 1 : Nat) : Int):=by rw [qas (by omega) (by omega)];simp
   obtain ⟨⟨y,e,σ⟩,k1,b',k2,k3,k4,k5,k6,k7,k8⟩:=hL3 i x a b hx
   simp only [Int.ofNat_zero] at k1 k2 k3 k4 k5 k6 k7 k8
   subst k2;subst k4
   refine .inl ⟨b',?_,trivial⟩
   simp only [qj3,hi',hw,k1,k3,k5,k6,k7,k8,qc0,qbd,Ev.exec,qb,qe,qc,qaj,Ev.Opnd.ev,Ev.Env.get,Ev.Env.set,Ev.look,qh,qad,qaf,ql,qq,Ev.keep,qae,qw,qd,qax,qu,qbt,qg,qf,zgi,↓qs,↓qan,Ev.it1,↓reduceIte,zgb,zfe,zgf,zgg,zgh,Nat.reduceEqDiff,zgv,zfc,zfa,zgx,zgy]
  ·rintro b _
   simp only [qj3,Int.lt_irrefl,Ev.exec,qb,qe,qc,qaj,Ev.Opnd.ev,Ev.Env.get,Ev.Env.set,Ev.look,qh,qad,ql,zgi,↓qs,Ev.it1,↓reduceIte,zgf,zgg,zgh,Nat.reduceEqDiff,zgw,zfa,zgy]
   exact ⟨_,rfl,b,rfl,rfl,rfl,rfl,rfl⟩
 obtain ⟨⟨y,e,σ⟩,k1,a,k2,k3,k4,k5,k6,k7⟩:=hL1
 obtain ⟨⟨y',e',σ'⟩,m1,b,m2,m3,m4,m5,m6⟩:=hL2 a
 simp only [Int.ofNat_zero] at k1 k2 k3 k4 k5 k6 k7 m1 m2 m3 m4 m5 m6
 subst k2;subst k4;subst m2;subst m4
 by_cases h5 : a ≤ 6
 ·exact ⟨decide (b ≤ 6),by simp only [qgz,hg,hr,h3,h4,h5,k1,k3,k5,k6,k7,m1,m3,m5,m6,qc0,qbd,qn,Ev.exec,qb,qe,qc,qa0,qaj,Ev.evs,Ev.Opnd.ev,Ev.Env.get,Ev.Env.set,Ev.look,qo,qh,qad,Ev.AV.cells,qx,Ev.AV.plain,qbn,qnk,qau,qm,qab,qak,Ev.kill,qai,qq,Ev.keep,qae,qw,qd,qax,qbe,qu,qbt,qg,qf,qal,zgi,↓qs,↓qan,↓reduceIte,zga,zgb,zgc,zfe,zgf,zgg,zgh,Nat.reduceAdd,Nat.reduceEqDiff,zgv,zgw,zfc,zfa,zgx,ne_eq,zfb,not_true_eq_false,zff,zfd,Nat.le_refl,zgy],fun _ => hok⟩
 ·exact ⟨false,by simp only [qgz,hg,hr,h3,h4,h5,k1,k3,k5,k6,k7,m1,m3,m5,qc0,qbd,qn,Ev.exec,qb,qe,qc,qa0,qaj,Ev.evs,Ev.Opnd.ev,Ev.Env.get,Ev.Env.set,Ev.Env.unset,Ev.look,qo,qh,qad,Ev.AV.cells,qx,Ev.AV.plain,qbn,qnk,qau,qm,qab,qak,Ev.kill,qai,qq,Ev.keep,qae,qw,qd,qax,qbe,qu,qbt,qg,qf,qal,zgi,↓qs,↓qan,↓reduceIte,zga,zgb,zgc,zfe,zgf,zgg,zgh,Nat.reduceAdd,Nat.reduceEqDiff,zgw,zfc,zfa,zgx,ne_eq,zfb,not_true_eq_false,zff,zfd,Nat.le_refl,zgy],fun _ => hok⟩
set_option maxRecDepth 10000
section
variable {c : Cfg} {i : Nat} {w : WSt} {O : List Evt} {S : Sim} {H : List Evt} {f hor : Int}
structure WTime (c : Cfg) (i : Nat) (f hor : Int) (w : WSt) : Prop where
 box : ∀ e ∈ w.box,f ≤ e.time
 done : ∀ e ∈ w.done,f ≤ e.time ∧ e.time < hor ∧ e.lp = i
 sent : ∀ e ∈ w.sent,f + c.look ≤ e.time ∧ e.lp ≠ i ∧ 0 ≤ e.lp ∧ e.lp < c.lps.length
theorem q9z (j : Int) : ∀ (l : List Evt) (p : List Evt × List Evt),∀ e ∈ (qdq j p l).1,e ∈ p.1 ∨ e ∈ l:=fun l p e he => by
 have h:=(qoo j l p []).mem_iff (a:=e)
 have hs:=qri j l p
 rw [List.append_nil,List.append_nil] at h
 have:=h.1 (List.mem_append_left _ he)
 simp only [List.mem_append] at this
 rcases this with h1 | h1 | h1
 ·exact .inl h1
 ·-- an element of p.2: counted on the right already
  exact (placeB_mem_aux j l p e he).elim .inl .inr
 ·exact .inr h1
where
 placeB_mem_aux (j : Int) : ∀ (l : List Evt) (p : List Evt × List Evt) (e : Evt),e ∈ (qdq j p l).1 → e ∈ p.1 ∨ e ∈ l
  | [],p,e,h => .inl h
  | n :: l,p,e,h => by
   rcases placeB_mem_aux j l (qmr j p n) e h with h | h
   ·unfold qmr at h
    split at h
    ·rcases List.mem_cons.1 ((qd0 _).mem_iff.1 h) with h | h
     ·exact .inr (by simp [h])
     ·exact .inl h
    ·exact .inl h
   ·exact .inr (List.mem_cons_of_mem _ h)
theorem WTime.step (h : WTime c i f hor w) {e : Evt} {rest : List Evt} (hb : w.box = e :: rest) (ht : e.time < hor) (hl : e.lp = i) (R : Ready c w.lp e) : WTime c i f hor (w.step c e rest):=by
 obtain ⟨X,_,o1,_⟩:=R.outs
 have fe:=h.box e (by rw [hb];simp)
 have out : ∀ n ∈ (qba c w.lp e).out,∃ k,EvOk c e X k n:=fun n hn => by
  obtain ⟨k,hk⟩:=List.mem_iff_getElem?.1 hn
  exact ⟨k,o1 k n hk⟩
 refine ⟨fun n hn => ?_,fun n hn => ?_,fun n hn => ?_⟩
 ·have:=(qoy _ _).subset hn
  rcases q9z _ _ _ n this with h1 | h1
  ·exact h.box n (by rw [hb];exact List.mem_cons_of_mem _ h1)
  ·obtain ⟨k,hk⟩:=out n h1;have:=hk.time;omega
 ·rcases List.mem_append.1 hn with hn | hn
  ·exact h.done n hn
  ·rw [List.mem_singleton] at hn;subst hn;exact ⟨fe,ht,hl⟩
 ·change n ∈ (qdq e.lp (rest,w.sent) (qba c w.lp e).out).2 at hn
  rw [qri] at hn
  rcases List.mem_append.1 hn with hn | hn
  ·exact h.sent n hn
  ·rw [List.mem_filter] at hn
   obtain ⟨h1,h2⟩:=hn
   simp only [Bool.not_eq_true',decide_eq_false_iff_not] at h2
   obtain ⟨k,a1,a2,a3,a4⟩:=out n h1
   have k3 : n.kind = 3:=Classical.byContradiction fun k3 => h2 (a4 k3).1
   obtain ⟨m1,m2,m3,m4⟩:=a3 k3
   exact ⟨by omega,by rw [← hl];exact h2,m1,m2⟩
theorem WTime.run : ∀ (k : Nat) {w : WSt} {S : Sim} {H : List Evt},WTime c i f hor w → WInv c i w O S H → H.length + k ≤ 20000 → WTime c i f hor (WSt.run c hor k w)
 | 0,w,S,H,h,_,_ => h
 | k + 1,w,S,H,h,hI,hk => by
  unfold WSt.run
  split
  ·exact h
  next e rest hb =>
   split
   next ht =>
    obtain ⟨h1,R,_⟩:=hI.ready (by omega) hb
    obtain ⟨S',g1,_⟩:=hI.step (by omega) hb
    exact WTime.run k (h.step hb ht h1 R) g1 (by simp;omega)
   ·exact h
end
theorem qabp (r : List Int) (x : Int) : r.foldl qv7 x ≤ x ∧ (∀ y ∈ r,r.foldl qv7 x ≤ y) ∧ (r.foldl qv7 x = x ∨ r.foldl qv7 x ∈ r):=by
 induction r generalizing x with
 | nil => exact ⟨Int.le_refl _,fun y hy => by simp at hy,.inl rfl⟩
 | cons a r ih =>
  obtain ⟨h1,h2,h3⟩:=ih (qv7 x a)
  have hm : qv7 x a ≤ x ∧ qv7 x a ≤ a ∧ (qv7 x a = x ∨ qv7 x a = a):=by unfold qv7;split <;> omega
  simp only [List.foldl_cons]
  refine ⟨by omega,fun y hy => ?_,?_⟩
  ·rcases List.mem_cons.1 hy with rfl | hy
   ·omega
   ·exact h2 y hy
  ·rcases h3 with h3 | h3
   ·rcases hm.2.2 with h4 | h4
    ·exact .inl (by omega)
    ·exact .inr (by rw [h3,h4];simp)
   ·exact .inr (List.mem_cons_of_mem _ h3)
theorem qwk {bs : List (List Evt)} {t : Int} : t ∈ qnb bs ↔ ∃ b ∈ bs,∃ e r,b = e :: r ∧ e.time = t:=by
 unfold qnb
 simp only [List.mem_map,List.mem_filterMap]
 constructor
 ·rintro ⟨e,⟨b,hb,hh⟩,rfl⟩
  cases b with
  | nil => simp at hh
  | cons x r => simp only [zgh,Option.some.injEq] at hh;subst hh;exact ⟨_,hb,x,r,rfl,rfl⟩
 ·rintro ⟨b,hb,e,r,rfl,rfl⟩
  exact ⟨e,⟨_,hb,rfl⟩,rfl⟩
theorem qzs {bs : List (List Evt)} {f : Int} (h : qni bs = some f) (hs : ∀ b ∈ bs,b.Pairwise leE) : (∀ b ∈ bs,∀ e ∈ b,f ≤ e.time) ∧ ∃ b ∈ bs,∃ e r,b = e :: r ∧ e.time = f:=by
 unfold qni at h
 split at h
 ·cases h
 next x r hf =>
  cases h
  obtain ⟨h1,h2,h3⟩:=qabp r x
  have all : ∀ t ∈ qnb bs,r.foldl qv7 x ≤ t:=fun t ht => by
   rw [hf] at ht
   rcases List.mem_cons.1 ht with rfl | ht
   ·exact h1
   ·exact h2 t ht
  refine ⟨fun b hb e he => ?_,?_⟩
  ·cases b with
   | nil => simp at he
   | cons y q =>
    have:=all y.time (qwk.2 ⟨_,hb,y,q,rfl,rfl⟩)
    rcases List.mem_cons.1 he with rfl | he
    ·exact this
    ·have:=q7f ((List.pairwise_cons.1 (hs _ hb)).1 e he);omega
  ·refine qwk.1 ?_
   rw [hf]
   rcases h3 with h3 | h3
   ·rw [h3];simp
   ·exact List.mem_cons_of_mem _ h3
theorem q7g {bs : List (List Evt)} (h : qni bs = none) : ∀ b ∈ bs,b = []:=by
 intro b hb
 cases b with
 | nil => rfl
 | cons e r =>
  have:=qwk.2 ⟨_,hb,e,r,rfl,rfl⟩
  unfold qni at h
  split at h
  ·rename_i hf;rw [hf] at this;simp at this
  ·cases h
structure StF (c : Cfg) (s : Sim) (h : List Evt) (L : List (Lp × Bool)) : Prop where
 inv : SInv c s h
 len : h.length ≤ 30
 lok : LOk L s
section
variable {c : Cfg} {s : Sim} {h : List Evt} {L : List (Lp × Bool)}
theorem StF.lL (F : StF c s h L) : L.length = c.lps.length:=by
 have:=congrArg List.length F.lok.1
 rw [List.length_map,F.inv.lpl] at this;exact this
theorem StF.at (F : StF c s h L) {i : Nat} (hi : i < c.lps.length) : ∃ x f,L[i]? = some (x,f) ∧ s.lps[i]? = some x ∧ (f = true → x.procs = []):=by
 obtain ⟨z,hz⟩ : ∃ z,L[i]? = some z:=⟨_,List.getElem?_eq_getElem (by rw [F.lL];exact hi)⟩
 refine ⟨z.1,z.2,hz,by rw [← F.lok.1,List.getElem?_map,hz];rfl,F.lok.2 z (List.mem_of_getElem? hz)⟩
theorem StF.dist (F : StF c s h L) : qr1 s.pend:=qlb.dist (List.pairwise_append.1 F.inv.keys).2.1
theorem StF.keysOk (F : StF c s h L) : qcj s.pend:=fun x hx => by have:=(F.inv.ev x (List.mem_append_right _ hx)).key;have:=F.len;omega
theorem StF.plen (F : StF c s h L) : s.pend.length ≤ 1000:=by have:=F.inv.len;have:=F.len;omega
theorem qac1 (n : Nat) (l : List Evt) {i : Nat} (hi : i < n) : (qc7 n l)[i]? = some (sortL (qbq l i)):=by unfold qc7;rw [List.getElem?_map,List.getElem?_range hi];rfl
theorem qpn (n : Nat) (l : List Evt) : ∀ b ∈ qc7 n l,b.Pairwise leE:=fun b hb => by
 simp only [qc7,List.mem_map] at hb
 obtain ⟨i,_,rfl⟩:=hb
 exact qgc _
theorem q6a : ∀ (l : List Nat) (g k : Nat → List Evt),(∀ i,(g i).Perm (k i)) → (l.map g).flatten.Perm (l.map k).flatten
 | [],_,_,_ => .refl _
 | a :: l,g,k,h => by
  simp only [List.map_cons,List.flatten_cons]
  exact (h a).append (q6a l g k h)
theorem StF.flat (F : StF c s h L) : (qc7 c.lps.length s.pend).flatten.Perm s.pend :=
 (q6a _ _ (fun i => qbq s.pend i) fun i => qd0 _).trans (own_perm fun e he => (F.inv.ev e (List.mem_append_right _ he)).lp)
theorem StF.winv (F : StF c s h L) {i : Nat} (hi : i < c.lps.length) {x : Lp} (hx : s.lps[i]? = some x) : WInv c i ⟨x,sortL (qbq s.pend i),[],[],false⟩ [] s h:=by
 refine ⟨F.inv.toSInvK,hi,hx,⟨s.pend.filter fun e => !decide (e.lp = i),?_⟩,qgc _,fun b hb => by
  have:=(qd0 _).mem_iff.1 hb
  unfold qbq at this
  rw [List.mem_filter] at this;simpa using this.2⟩
 simp only [zgl]
 exact ((qd0 _).append_right _).trans (List.filter_append_perm _ _)
theorem State_ev (G : Good c) (a : Int) (ha : 0 ≤ a ∧ a ≤ 255) : ∃ (s : Sim) (h : List Evt) (L : List (Lp × Bool)),StF c s h L ∧
  qaz (evL T) qjf [(.agg [(.fsl ((c.lps).map lpC) false),(.fsl ((c.progs).map qcs) false),(ii c.look),(ii c.fin),(ii c.cap)]),(.v (.int .u8 a))] = some (.tup [(.fsl ((L).map lpF) false),(.fsl (((qc7 c.lps.length s.pend)).map qbc) false)]):=by
 obtain ⟨L,hL,hS⟩:=q79 G (a.toNat % 31) (by omega)
 obtain ⟨h,h1,h2,_⟩:=ran G.v (a.toNat % 31) (by omega)
 have F : StF c (runS c (a.toNat % 31)) h L:=⟨h1,by omega,hL⟩
 refine ⟨_,h,L,F,?_⟩
 have hw : IntKind.i64.wrap a = a:=qas (by omega) (by omega)
 have hr : a.tmod 31 = ((a.toNat % 31 : Nat) : Int):=by
  obtain ⟨n,rfl⟩ : ∃ n : Nat,a = n:=⟨a.toNat,by omega⟩
  rw [Int.tmod_eq_emod_of_nonneg (by omega)];omega
 have h31 : ¬ (31 : Int) = 0:=by decide
 have hB:=q5x (runS c (a.toNat % 31)).pend false c.lps.length G.v.lps.2 (by have:=F.plen;omega) F.keysOk F.dist
 generalize runS c (a.toNat % 31) = s at *
 generalize qc7 c.lps.length s.pend = B at *
 rw [qaz,qy q0t qym]
 simp only [qn5,hw,hr,h31,hS,hB,qt8,qdk,qv,qc0,qbd,qn,Ev.exec,qb,qe,qc,qa0,qaj,Ev.evs,Ev.Opnd.ev,Ev.Env.get,Ev.Env.set,Ev.look,qo,qh,qad,Ev.AV.cells,qx,Ev.AV.plain,q7z,qm,qab,qak,Ev.kill,qai,qd,qax,qbe,qa3,qu,qg,qf,qal,zgi,↓qs,↓reduceIte,zga,zgb,zgd,zgc,zgo,zfe,zgf,zgg,List.drop_nil,zgl,zgn,zgj,zgh,Nat.reduceAdd,Nat.reduceEqDiff,reduceCtorEq,zfc,zfa,zgx,ne_eq,zfb,zff,zfd,Nat.le_refl,zgy]
end
set_option maxRecDepth 100000
theorem q4y : qaz (evL T) qkn [] = some (bb true):=qaae 40 (by kernel_rfl)
theorem q7y (c : Cfg) : ∃ b : Bool,qaz (evL T) qm2 [(.agg [(.fsl ((c.lps).map lpC) false),(.fsl ((c.progs).map qcs) false),(ii c.look),(ii c.fin),(ii c.cap)])] = some (bb b) ∧ (b = true → Good c ∧ 1 ≤ c.look ∧ c.look ≤ 8 ∧ 1 ≤ c.lps.length ∧ c.lps.length ≤ 4):=by
 obtain ⟨b,h1,h2⟩:=Quick_ev c
 refine ⟨b,?_,fun hb => by
  obtain ⟨k1,k2,k3⟩:=h2 hb
  have G:=good_of k1
  exact ⟨G,G.v.look,k2,G.v.lps.1,k3⟩⟩
 rw [qaz,qy q61 q4p]
 simp only [qs4,h1,qc0,qbd,qn,Ev.exec,qb,qe,qc,qa0,qaj,Ev.evs,Ev.Opnd.ev,Ev.Env.get,Ev.Env.set,Ev.look,qo,qh,qad,Ev.AV.cells,qx,Ev.AV.plain,qm,qab,qak,Ev.kill,qai,qd,qax,qbe,qu,qg,qf,qal,↓qs,↓reduceIte,zga,zgb,zgc,zfe,Nat.reduceAdd,Nat.reduceEqDiff,zfc,zgx,ne_eq,zfb,zff,zfd,Nat.le_refl,zgy]
theorem idx_mod (a : Int) (ha : 0 ≤ a) {n : Nat} (hn : 1 ≤ n) : ∃ i : Nat,a.tmod n = (i : Int) ∧ i < n:=by
 have q1:=Int.tmod_lt_of_pos a (show (0 : Int) < (n : Int) by omega)
 have q2:=Int.tmod_nonneg (n : Int) ha
 exact ⟨(a.tmod n).toNat,by omega,by omega⟩
set_option maxRecDepth 10000
set_option maxRecDepth 10000
def wAt (c : Cfg) (s : Sim) (hor : Int) (i : Nat) : WSt:=WSt.run c hor 2000 ⟨lpAt s i,sortL (qbq s.pend i),[],[],false⟩
def q6r (c : Cfg) (s : Sim) (hor : Int) (n : Nat) : List (List Evt):=(List.range n).map fun i => (wAt c s hor i).box
def q51 (c : Cfg) (s : Sim) (hor : Int) (n : Nat) : List (List Evt):=(List.range n).map fun i => (wAt c s hor i).sent
def remL (s : Sim) (n : Nat) : List Evt:=s.pend.filter fun e => decide ((n : Int) ≤ e.lp)
section
variable {c : Cfg} {s : Sim} {h : List Evt} {L : List (Lp × Bool)} (hor : Int)
structure Comb (c : Cfg) (s : Sim) (hor : Int) (n m : Nat) (S : Sim) (H : List Evt) : Prop where
 K : SInvK c S H
 len : H.length ≤ m + 2000 * n
 lps : ∀ j,n ≤ j → S.lps[j]? = s.lps[j]?
 sub : ∃ T,((q6r c s hor n).flatten ++ ((q51 c s hor n).flatten ++ (remL s n ++ T))).Perm S.pend
structure WinF (c : Cfg) (s : Sim) (hor : Int) : Prop where
 keys : qlb ((q6r c s hor c.lps.length).flatten ++ (q51 c s hor c.lps.length).flatten)
 len : ((q6r c s hor c.lps.length).flatten ++ (q51 c s hor c.lps.length).flatten).length ≤ 300000
 kok : qcj ((q6r c s hor c.lps.length).flatten ++ (q51 c s hor c.lps.length).flatten)
 rng : ∀ e ∈ (q6r c s hor c.lps.length).flatten ++ (q51 c s hor c.lps.length).flatten,0 ≤ e.lp ∧ e.lp < c.lps.length
end
set_option maxRecDepth 10000
section
variable {c : Cfg} {e : Evt} (R3 X4 X5 : SObj) (dn : List Evt) (g1 : Nat) (x : Lp) (o f : Bool)
theorem place_l1 (h3 : R3.lo 8 = true) (h4 : X4.lo 8 = true) (h5 : X5.lo 8 = true) (el : Int) (out : List Evt) (co : Bool) (p : List Evt × List Evt) (g2 : Nat) (hP : PlOk p out) :
  ∃ y,itB (exec (evL T) itL none qhs) (qq [1,2,3,6,7] true 8) ⟨[(1,(ii el)),(2,(.fsl ((out).map Evt.r) co)),(3,.ptr 6 0 0 0),(6,.ptr 7 0 0 0),(7,(ii ((0 : Nat))))],[]⟩ [(.row 8 [[(ii 0),(ii 0),.fsl [] false,(ii 0),.fsl [] false,.fsl [] false,.fsl [] false,(bb false)]] 0),.row 6 (dn.map Evt.r) g1,.row 6 ((p.2).map Evt.r) g2,R3,X4,X5,.row 8 [[(ii ((x).r0)),(ii ((x).r1)),(.fsl (((x).procs).map Pr.r) f),(ii ((x).sum)),(.fsl ((p.1).map Evt.r) false),.sl 1 g1 0 dn.length false,.sl 2 g2 0 (p.2).length false,(bb o)]] 0,(.row 8 [[(ii 0),(ii 0),.fsl [] false,(ii 0),.fsl [] false,.fsl [] false,.fsl [] false,(bb false)]] 0)] = some y ∧
   ∃ g2' : Nat,y.1 = .exit 0 ∧ y.2.1.marks = [] ∧ y.2.2 = [(.row 8 [[(ii 0),(ii 0),.fsl [] false,(ii 0),.fsl [] false,.fsl [] false,.fsl [] false,(bb false)]] 0),.row 6 (dn.map Evt.r) g1,.row 6 (((qdq el p out).2).map Evt.r) g2',R3,X4,X5,.row 8 [[(ii ((x).r0)),(ii ((x).r1)),(.fsl (((x).procs).map Pr.r) f),(ii ((x).sum)),(.fsl (((qdq el p out).1).map Evt.r) false),.sl 1 g1 0 dn.length false,.sl 2 g2' 0 ((qdq el p out).2).length false,(bb o)]] 0,(.row 8 [[(ii 0),(ii 0),.fsl [] false,(ii 0),.fsl [] false,.fsl [] false,.fsl [] false,(bb false)]] 0)] ∧ Ev.look y.2.1.vars 3 = some (.ptr 6 0 0 0) ∧ Ev.look y.2.1.vars 6 = some (.ptr 7 0 0 0):=by
 simp only [SObj.lo] at h3 h4 h5
 have key:=qen (f:=exec (evL T) itL none qhs) (s:=qq [1,2,3,6,7] true 8) (α:=(List Evt × List Evt) × Nat)
  (fun i a => ⟨[(1,(ii el)),(2,(.fsl ((out).map Evt.r) co)),(3,.ptr 6 0 0 0),(6,.ptr 7 0 0 0),(7,(ii i))],[]⟩) (fun _ a => [(.row 8 [[(ii 0),(ii 0),.fsl [] false,(ii 0),.fsl [] false,.fsl [] false,.fsl [] false,(bb false)]] 0),.row 6 (dn.map Evt.r) g1,.row 6 ((a.1.2).map Evt.r) a.2,R3,X4,X5,.row 8 [[(ii ((x).r0)),(ii ((x).r1)),(.fsl (((x).procs).map Pr.r) f),(ii ((x).sum)),(.fsl ((a.1.1).map Evt.r) false),.sl 1 g1 0 dn.length false,.sl 2 a.2 0 (a.1.2).length false,(bb o)]] 0,(.row 8 [[(ii 0),(ii 0),.fsl [] false,(ii 0),.fsl [] false,.fsl [] false,.fsl [] false,(bb false)]] 0)]) (fun i a => a.1 = qdq el p (out.take i)) out.length
  (fun y => ∃ g2' : Nat,y.1 = .exit 0 ∧ y.2.1.marks = [] ∧ y.2.2 = [(.row 8 [[(ii 0),(ii 0),.fsl [] false,(ii 0),.fsl [] false,.fsl [] false,.fsl [] false,(bb false)]] 0),.row 6 (dn.map Evt.r) g1,.row 6 (((qdq el p out).2).map Evt.r) g2',R3,X4,X5,.row 8 [[(ii ((x).r0)),(ii ((x).r1)),(.fsl (((x).procs).map Pr.r) f),(ii ((x).sum)),(.fsl (((qdq el p out).1).map Evt.r) false),.sl 1 g1 0 dn.length false,.sl 2 g2' 0 ((qdq el p out).2).length false,(bb o)]] 0,(.row 8 [[(ii 0),(ii 0),.fsl [] false,(ii 0),.fsl [] false,.fsl [] false,.fsl [] false,(bb false)]] 0)] ∧ Ev.look y.2.1.vars 3 = some (.ptr 6 0 0 0) ∧ Ev.look y.2.1.vars 6 = some (.ptr 7 0 0 0)) ?_ ?_ 0 (p,g2) (Nat.zero_le _) rfl
 ·exact key
 ·rintro i ⟨⟨b,s⟩,g⟩ hi hbs
  simp only at hbs ⊢
  obtain ⟨n,hn⟩ : ∃ n,out[i]? = some n:=⟨_,List.getElem?_eq_getElem hi⟩
  have hA:=PlOk.at el hP i
  rw [← hbs,show out.drop i = n :: out.drop (i + 1) by rw [List.drop_eq_getElem_cons hi];rw [List.getElem?_eq_getElem hi] at hn;cases hn;rfl] at hA
  have hlen:=hP.len
  simp only [zgp] at hlen
  have hi' : (i : Int) < (out.length : Int):=by omega
  have hw : IntKind.i64.wrap ((i : Int) + 1) = ((i + 1 : Nat) : Int):=by rw [qas (by omega) (by omega)];simp
  have hnx : qdq el p (out.take (i + 1)) = qmr el (b,s) n:=by rw [List.take_add_one,hn,hbs];exact q1u _ _ _ _
  obtain ⟨i1,i2,i3,i4,i5⟩:=hA.ins
  have hsl:=hA.len
  simp only [zgp] at hsl
  unfold qmr at hnx
  by_cases hlp : n.lp = el
  ·refine .inl ⟨((sortL (n :: b),s),g),?_,by simp only;rw [hnx,if_pos hlp]⟩
   have hI:=qqf b false n i1 i2 i3 i4 i5
   obtain ⟨nt,nk,nl,ni,np,na⟩:=n
   simp only at hlp
   subst hlp
   generalize sortL (⟨nt,nk,nl,ni,np,na⟩ :: b) = B at *
   simp only at hI
   simp only [qhs,zgs,zgr,zgq,zgt,hn,hi',hw,hI,h3,h4,h5,Evt.r,qv,qah,qap,Ev.exec,qb,qe,qc,qa0,qaj,Ev.evs,Ev.Opnd.ev,Ev.Env.get,Ev.Env.set,Ev.look,qh,qad,Ev.AV.cells,Ev.AV.uc,qx,Ev.AV.plain,qaf,qam,ql,qq,Ev.keep,qae,qw,qd,Ev.SObj.lo,qax,qbe,qu,qbj,qez,qg,qf,qaa,qag,zgi,↓qs,Ev.it1,↓reduceIte,zga,zgb,zgd,zge,zgc,zgo,zfe,zgf,zgg,zgm,zgl,zgj,zgk,zgh,Nat.reduceAdd,Nat.reduceEqDiff,Nat.reduceLT,Nat.reduceLeDiff,zgv,zfc,zfa,zgx,zfd,zgu,Nat.le_refl,zgy]
  ·refine .inl ⟨((b,s ++ [n]),g + 1),?_,by simp only;rw [hnx,if_neg hlp]⟩
   have bd : (s.length + 1) * 64 ≤ 140737488355328:=by omega
   have tk : List.take s.length (s.map Evt.r) = s.map Evt.r:=List.take_of_length_le (by simp)
   have lo:=qv 8 (s ++ [n])
   have hle : s.length ≤ s.length:=Nat.le_refl _
   obtain ⟨nt,nk,nl,ni,np,na⟩:=n
   simp only at hlp
   rw [List.map_append] at lo
   simp only [List.map_append,zgp,List.map_cons,List.map_nil,Evt.r] at lo ⊢
   simp only [qhs,zgs,zgr,zgq,zgt,hn,hi',hw,hlp,bd,tk,lo,hle,h3,h4,h5,Evt.r,qv,qap,Ev.exec,qb,qe,qc,qaj,qnz,Ev.Opnd.ev,Ev.Env.get,Ev.Env.set,Ev.look,qh,qbs,qad,qfl,Ev.AV.cells,Ev.AV.uc,qx,Ev.AV.plain,qaf,qam,ql,qq,Ev.keep,qae,qw,qd,Ev.SObj.lo,qax,qu,qbj,qez,qg,qf,qaa,qag,qbh,qa8,List.replicate_one,zgi,↓qs,Ev.it1,↓reduceIte,zga,zgb,zgd,zge,zgc,zgo,zfe,zgf,zgg,zgm,zgl,zgj,zgk,zgh,Nat.reduceAdd,Nat.reduceEqDiff,Nat.reduceMul,Nat.reduceLT,Nat.reduceLeDiff,Nat.reducePow,zgv,zgw,zfc,zfa,zgx,ne_eq,zfb,zff,zfd,zgu,Nat.le_refl,zgy]
 ·rintro ⟨⟨b,s⟩,g⟩ hbs
  rw [List.take_length] at hbs
  simp only at hbs ⊢
  rw [← hbs]
  simp only [qhs,Int.lt_irrefl,Ev.exec,qb,qe,qc,qaj,Ev.Opnd.ev,Ev.Env.get,Ev.Env.set,Ev.look,ql,zgi,↓qs,Ev.it1,↓reduceIte,Nat.reduceEqDiff,zgw,zfa,zgy]
  exact ⟨_,rfl,g,rfl,rfl,rfl,rfl,rfl⟩
theorem place_ev (h3 : R3.lo 6 = true) (h4 : X4.lo 6 = true) (h5 : X5.lo 6 = true) (el : Int) (out : List Evt) (co : Bool) (b s : List Evt) (g2 : Nat) (hP : PlOk (b,s) out) :
  ∃ g2' : Nat,(evL T).call qi4 [.agg [(ii ((x).r0)),(ii ((x).r1)),(.fsl (((x).procs).map Pr.r) f),(ii ((x).sum)),(.fsl ((b).map Evt.r) false),.sl 1 g1 0 dn.length false,.sl 2 g2 0 s.length false,(bb o)],(ii el),(.fsl ((out).map Evt.r) co)] [(.row 8 [[(ii 0),(ii 0),.fsl [] false,(ii 0),.fsl [] false,.fsl [] false,.fsl [] false,(bb false)]] 0),.row 6 (dn.map Evt.r) g1,.row 6 (s.map Evt.r) g2,R3,X4,X5] =
   some (.agg [(ii ((x).r0)),(ii ((x).r1)),(.fsl (((x).procs).map Pr.r) f),(ii ((x).sum)),(.fsl (((qdq el (b,s) out).1).map Evt.r) false),.sl 1 g1 0 dn.length false,.sl 2 g2' 0 (qdq el (b,s) out).2.length false,(bb o)],[(.row 8 [[(ii 0),(ii 0),.fsl [] false,(ii 0),.fsl [] false,.fsl [] false,.fsl [] false,(bb false)]] 0),.row 6 (dn.map Evt.r) g1,.row 6 ((qdq el (b,s) out).2.map Evt.r) g2',R3,X4,X5]):=by
 have mono : ∀ {X : SObj},X.lo 6 = true → X.lo 8 = true:=fun h => qt6 (by omega) _ h
 obtain ⟨⟨y,f1,σ1⟩,k1,g2',k2,k3,k4,k5,k6⟩:=place_l1 R3 X4 X5 dn g1 x o f (mono h3) (mono h4) (mono h5) el out co (b,s) g2 hP
 simp only [Int.ofNat_zero] at k1 k2 k3 k4 k5 k6
 subst k2;subst k4
 refine ⟨g2',?_⟩
 generalize (qdq el (b,s) out).1 = B at *
 generalize (qdq el (b,s) out).2 = Z at *
 have j3:=mono h3
 have j4:=mono h4
 have j5:=mono h5
 simp only [SObj.lo] at h3 h4 h5 j3 j4 j5
 rw [qy qzh qyw]
 simp only [qnx,k1,k3,k5,k6,h3,h4,h5,j3,j4,j5,qv,qap,qn,Ev.exec,qb,qe,qc,qaj,Ev.Opnd.ev,Ev.Env.get,Ev.Env.set,Ev.look,qo,qh,qad,Ev.AV.cells,qx,Ev.AV.plain,qm,qab,qak,Ev.kill,qai,qq,Ev.keep,qae,qw,qd,Ev.SObj.lo,qax,qbe,qu,qbj,qez,qg,qf,qaa,qag,↓qs,↓qan,↓reduceIte,zga,zgb,zgd,zge,zgc,zgo,zfe,zgf,zgg,List.drop_nil,zgm,zgl,zgn,zgj,zgk,Nat.reduceAdd,Nat.reduceEqDiff,Nat.reduceLT,reduceCtorEq,zgv,zfc,zgx,ne_eq,zfb,zff,zfd,zgu,Nat.le_refl,zgy]
theorem all_l2 (h4 : X4.lo 6 = true) (h5 : X5.lo 6 = true) (hor n : Int) (G : List (List Int)) (cg : Bool) (b : List Evt) (s : List Evt) (g2 : Nat) (hb : b.length ≤ 1000000) (hk : qcj b) (hG : G.length ≤ 1000000) (hGk : ∀ k ∈ G,k.length ≤ 9223372036854775807) :
  ∃ y,itB (exec (evL T) itL none qli) (qq [3,4,8,9,10,16,18] true 6) ⟨[(3,(ii hor)),(4,(.fptr [(.fsl ((c.lps).map lpC) false),(.fsl ((c.progs).map qcs) false),(ii c.look),(ii c.fin),(ii c.cap)])),(8,.ptr 0 0 0 0),(9,.ptr 3 0 0 0),(10,(ii n)),(16,(.fsl ((G).map qfy) cg)),(18,(ii ((0 : Nat))))],[]⟩ [(.row 8 [[(ii 0),(ii 0),.fsl [] false,(ii 0),.fsl [] false,.fsl [] false,.fsl [] false,(bb false)]] 0),.row 6 (dn.map Evt.r) g1,.row 6 ((s).map Evt.r) g2,.row 8 [[(ii ((x).r0)),(ii ((x).r1)),(.fsl (((x).procs).map Pr.r) f),(ii ((x).sum)),(.fsl ((b).map Evt.r) false),.sl 1 g1 0 dn.length false,.sl 2 g2 0 (s).length false,(bb o)]] 0,X4,X5] = some y ∧
   (y.1 = .exit 2 ∧ y.2.1.marks = [] ∧ y.2.2 = [(.row 8 [[(ii 0),(ii 0),.fsl [] false,(ii 0),.fsl [] false,.fsl [] false,.fsl [] false,(bb false)]] 0),.row 6 (dn.map Evt.r) g1,.row 6 ((s).map Evt.r) g2,.row 8 [[(ii ((x).r0)),(ii ((x).r1)),(.fsl (((x).procs).map Pr.r) f),(ii ((x).sum)),(.fsl (((qsw b G)).map Evt.r) false),.sl 1 g1 0 dn.length false,.sl 2 g2 0 (s).length false,(bb o)]] 0,X4,X5] ∧ Ev.look y.2.1.vars 3 = some (ii hor) ∧ Ev.look y.2.1.vars 4 = some (.fptr [(.fsl ((c.lps).map lpC) false),(.fsl ((c.progs).map qcs) false),(ii c.look),(ii c.fin),(ii c.cap)]) ∧ Ev.look y.2.1.vars 8 = some (.ptr 0 0 0 0) ∧ Ev.look y.2.1.vars 9 = some (.ptr 3 0 0 0) ∧ Ev.look y.2.1.vars 10 = some (ii n)):=by
 simp only [SObj.lo] at h4 h5
 have key:=qen (f:=exec (evL T) itL none qli) (s:=qq [3,4,8,9,10,16,18] true 6) (α:=List Evt)
  (fun i a => ⟨[(3,(ii hor)),(4,(.fptr [(.fsl ((c.lps).map lpC) false),(.fsl ((c.progs).map qcs) false),(ii c.look),(ii c.fin),(ii c.cap)])),(8,.ptr 0 0 0 0),(9,.ptr 3 0 0 0),(10,(ii n)),(16,(.fsl ((G).map qfy) cg)),(18,(ii i))],[]⟩) (fun _ a => [(.row 8 [[(ii 0),(ii 0),.fsl [] false,(ii 0),.fsl [] false,.fsl [] false,.fsl [] false,(bb false)]] 0),.row 6 (dn.map Evt.r) g1,.row 6 ((s).map Evt.r) g2,.row 8 [[(ii ((x).r0)),(ii ((x).r1)),(.fsl (((x).procs).map Pr.r) f),(ii ((x).sum)),(.fsl ((a).map Evt.r) false),.sl 1 g1 0 dn.length false,.sl 2 g2 0 (s).length false,(bb o)]] 0,X4,X5]) (fun i a => a = qsw b (G.take i)) G.length
  (fun y => y.1 = .exit 2 ∧ y.2.1.marks = [] ∧ y.2.2 = [(.row 8 [[(ii 0),(ii 0),.fsl [] false,(ii 0),.fsl [] false,.fsl [] false,.fsl [] false,(bb false)]] 0),.row 6 (dn.map Evt.r) g1,.row 6 ((s).map Evt.r) g2,.row 8 [[(ii ((x).r0)),(ii ((x).r1)),(.fsl (((x).procs).map Pr.r) f),(ii ((x).sum)),(.fsl (((qsw b G)).map Evt.r) false),.sl 1 g1 0 dn.length false,.sl 2 g2 0 (s).length false,(bb o)]] 0,X4,X5] ∧ Ev.look y.2.1.vars 3 = some (ii hor) ∧ Ev.look y.2.1.vars 4 = some (.fptr [(.fsl ((c.lps).map lpC) false),(.fsl ((c.progs).map qcs) false),(ii c.look),(ii c.fin),(ii c.cap)]) ∧ Ev.look y.2.1.vars 8 = some (.ptr 0 0 0 0) ∧ Ev.look y.2.1.vars 9 = some (.ptr 3 0 0 0) ∧ Ev.look y.2.1.vars 10 = some (ii n)) ?_ ?_ 0 b (Nat.zero_le _) rfl
 ·exact key
 ·rintro i a hi ha
  obtain ⟨k,hkk⟩ : ∃ k,G[i]? = some k:=⟨_,List.getElem?_eq_getElem hi⟩
  have hi' : (i : Int) < (G.length : Int):=by omega
  have hw : IntKind.i64.wrap ((i : Int) + 1) = ((i + 1 : Nat) : Int):=by rw [qas (by omega) (by omega)];simp
  have hs : a.Sublist b:=by rw [ha];exact qoy _ _
  obtain ⟨cf,hC⟩:=q0j a false k false (by have:=hs.length_le;omega) (fun z hz => hk z (hs.subset hz)) (hGk k (List.mem_of_getElem? hkk))
  refine .inl ⟨(qd9 a k).1,?_,by rw [List.take_add_one,hkk,ha];exact (q32 _ _ _).symm⟩
  generalize qd9 a k = ck at *
  obtain ⟨cl,cb⟩:=ck
  simp only at hC ⊢
  simp only [qli,zgs,zgr,zgq,zgt,hkk,hi',hw,hC,qfy,h4,h5,qv,qah,qbv,qap,qc0,qbd,Ev.exec,qb,qe,qc,qa0,qaj,Ev.evs,Ev.Opnd.ev,Ev.Env.get,Ev.Env.set,Ev.look,qh,qad,Ev.AV.cells,Ev.AV.uc,qx,Ev.AV.plain,qaf,ql,qq,Ev.keep,qae,qw,qd,Ev.SObj.lo,qax,qu,qbt,qbj,qez,qg,qf,qaa,qag,zgi,↓qs,Ev.it1,↓reduceIte,zga,zgb,zgd,zge,zgc,zgo,zfe,zgf,zgg,zgm,zgl,zgj,zgk,zgh,Nat.reduceAdd,Nat.reduceEqDiff,Nat.reduceLT,Nat.reduceLeDiff,zgv,zfc,zfa,zgx,zfd,zgy]
 ·rintro a ha
  rw [List.take_length] at ha
  rw [← ha]
  simp only [qli,Int.lt_irrefl,Ev.exec,qb,qe,qc,qaj,Ev.Opnd.ev,Ev.Env.get,Ev.Env.set,Ev.look,ql,zgi,↓qs,Ev.it1,↓reduceIte,Nat.reduceEqDiff,zgw,zfa,zgy]
  exact ⟨_,rfl,rfl,rfl,rfl,rfl,rfl,rfl,rfl,rfl⟩
end
section
variable {c : Cfg} {f : Bool}
theorem all_L (hor : Int) : ∀ (k : Nat) {w : WSt} {i : Nat} {O : List Evt} {S : Sim} {H : List Evt} (g1 g2 : Nat),w.done.length + k = 2000 → WInv c i w O S H → (f = true → w.lp.procs = []) → H.length + k ≤ 20000 →
  ∃ y,itB (exec (evL T) itL none qf7) (qq [3,4,8,9,10] true 4) ⟨[(3,(ii hor)),(4,(.fptr [(.fsl ((c.lps).map lpC) false),(.fsl ((c.progs).map qcs) false),(ii c.look),(ii c.fin),(ii c.cap)])),(8,.ptr 0 0 0 0),(9,.ptr 3 0 0 0),(10,(ii w.done.length))],[]⟩ [(.row 8 [[(ii 0),(ii 0),.fsl [] false,(ii 0),.fsl [] false,.fsl [] false,.fsl [] false,(bb false)]] 0),.row 6 ((w).done.map Evt.r) g1,.row 6 ((w).sent.map Evt.r) g2,.row 8 [[(ii (((w).lp).r0)),(ii (((w).lp).r1)),(.fsl ((((w).lp).procs).map Pr.r) f),(ii (((w).lp).sum)),(.fsl (((w).box).map Evt.r) false),.sl 1 g1 0 (w).done.length false,.sl 2 g2 0 (w).sent.length false,(bb ((w).over))]] 0] = some y ∧
   ∃ g1' g2' : Nat,y.1 = .exit 0 ∧ y.2.1.marks = [] ∧ (∃ X : qac,y.2.2 = [(.row 8 [[(ii 0),(ii 0),.fsl [] false,(ii 0),.fsl [] false,.fsl [] false,.fsl [] false,(bb false)]] 0),.row 6 (((WSt.run c hor k w)).done.map Evt.r) g1',.row 6 (((WSt.run c hor k w)).sent.map Evt.r) g2',.row 8 [[(ii ((((WSt.run c hor k w)).lp).r0)),(ii ((((WSt.run c hor k w)).lp).r1)),(.fsl (((((WSt.run c hor k w)).lp).procs).map Pr.r) f),(ii ((((WSt.run c hor k w)).lp).sum)),(.fsl ((((WSt.run c hor k w)).box).map Evt.r) false),.sl 1 g1' 0 ((WSt.run c hor k w)).done.length false,.sl 2 g2' 0 ((WSt.run c hor k w)).sent.length false,(bb (((WSt.run c hor k w)).over))]] 0] ++ X) ∧ Ev.look y.2.1.vars 8 = some (.ptr 0 0 0 0) ∧ Ev.look y.2.1.vars 9 = some (.ptr 3 0 0 0):=by
 intro k
 induction k with
 | zero =>
  intro w i O S H g1 g2 hk h hf hn
  have c1 : ¬ (w.done.length : Int) < 2000:=by omega
  have hx : ∃ y,it1 (exec (evL T) itL none qf7) (qq [3,4,8,9,10] true 4) ⟨[(3,(ii hor)),(4,(.fptr [(.fsl ((c.lps).map lpC) false),(.fsl ((c.progs).map qcs) false),(ii c.look),(ii c.fin),(ii c.cap)])),(8,.ptr 0 0 0 0),(9,.ptr 3 0 0 0),(10,(ii w.done.length))],[]⟩ [(.row 8 [[(ii 0),(ii 0),.fsl [] false,(ii 0),.fsl [] false,.fsl [] false,.fsl [] false,(bb false)]] 0),.row 6 ((w).done.map Evt.r) g1,.row 6 ((w).sent.map Evt.r) g2,.row 8 [[(ii (((w).lp).r0)),(ii (((w).lp).r1)),(.fsl ((((w).lp).procs).map Pr.r) f),(ii (((w).lp).sum)),(.fsl (((w).box).map Evt.r) false),.sl 1 g1 0 (w).done.length false,.sl 2 g2 0 (w).sent.length false,(bb ((w).over))]] 0] = some (.inr y) ∧ y.1 = .exit 0 ∧ y.2.1.marks = [] ∧ y.2.2 = [(.row 8 [[(ii 0),(ii 0),.fsl [] false,(ii 0),.fsl [] false,.fsl [] false,.fsl [] false,(bb false)]] 0),.row 6 ((w).done.map Evt.r) g1,.row 6 ((w).sent.map Evt.r) g2,.row 8 [[(ii (((w).lp).r0)),(ii (((w).lp).r1)),(.fsl ((((w).lp).procs).map Pr.r) f),(ii (((w).lp).sum)),(.fsl (((w).box).map Evt.r) false),.sl 1 g1 0 (w).done.length false,.sl 2 g2 0 (w).sent.length false,(bb ((w).over))]] 0] ∧ Ev.look y.2.1.vars 8 = some (.ptr 0 0 0 0) ∧ Ev.look y.2.1.vars 9 = some (.ptr 3 0 0 0):=by
   simp only [qf7,c1,Ev.exec,qb,qe,qc,qaj,Ev.Opnd.ev,Ev.Env.get,Ev.Env.set,Ev.look,ql,↓qs,Ev.it1,↓reduceIte,Nat.reduceEqDiff,zgw,zfa,zgy]
   exact ⟨_,rfl,rfl,rfl,rfl,rfl,rfl⟩
  obtain ⟨y,h1,h2,h3,h4,h5,h6⟩:=hx
  exact ⟨y,qm5 h1,g1,g2,h2,h3,⟨[],by rw [List.append_nil];exact h4⟩,h5,h6⟩
 | succ k ih =>
  intro w i O S H g1 g2 hk h hf hn
  have c1 : (w.done.length : Int) < 2000:=by omega
  have hl:=h.len
  obtain ⟨cf,hT⟩:=q4v w.box false hor (by omega)
  cases hb : w.box with
  | nil =>
   have hrun : WSt.run c hor (k + 1) w = w:=by rw [WSt.run,hb]
   rw [hrun]
   rw [hb] at hT
   have hx : ∃ y,it1 (exec (evL T) itL none qf7) (qq [3,4,8,9,10] true 4) ⟨[(3,(ii hor)),(4,(.fptr [(.fsl ((c.lps).map lpC) false),(.fsl ((c.progs).map qcs) false),(ii c.look),(ii c.fin),(ii c.cap)])),(8,.ptr 0 0 0 0),(9,.ptr 3 0 0 0),(10,(ii w.done.length))],[]⟩ [(.row 8 [[(ii 0),(ii 0),.fsl [] false,(ii 0),.fsl [] false,.fsl [] false,.fsl [] false,(bb false)]] 0),.row 6 ((w).done.map Evt.r) g1,.row 6 ((w).sent.map Evt.r) g2,.row 8 [[(ii (((w).lp).r0)),(ii (((w).lp).r1)),(.fsl ((((w).lp).procs).map Pr.r) f),(ii (((w).lp).sum)),(.fsl (((w).box).map Evt.r) false),.sl 1 g1 0 (w).done.length false,.sl 2 g2 0 (w).sent.length false,(bb ((w).over))]] 0] = some (.inr y) ∧ y.1 = .exit 0 ∧ y.2.1.marks = [] ∧ (∃ X,y.2.2 = [(.row 8 [[(ii 0),(ii 0),.fsl [] false,(ii 0),.fsl [] false,.fsl [] false,.fsl [] false,(bb false)]] 0),.row 6 ((w).done.map Evt.r) g1,.row 6 ((w).sent.map Evt.r) g2,.row 8 [[(ii (((w).lp).r0)),(ii (((w).lp).r1)),(.fsl ((((w).lp).procs).map Pr.r) f),(ii (((w).lp).sum)),(.fsl (((w).box).map Evt.r) false),.sl 1 g1 0 (w).done.length false,.sl 2 g2 0 (w).sent.length false,(bb ((w).over))]] 0] ++ X) ∧ Ev.look y.2.1.vars 8 = some (.ptr 0 0 0 0) ∧ Ev.look y.2.1.vars 9 = some (.ptr 3 0 0 0):=by
    simp only [qmq,q3j,List.map_nil] at hT
    simp only [hb,List.map_nil]
    simp only [qf7,c1,hT,Ev.exec,qb,qe,qc,qa0,qaj,Ev.evs,Ev.Opnd.ev,Ev.Env.get,Ev.Env.set,Ev.look,qh,qad,Ev.AV.cells,qx,Ev.AV.plain,ql,qax,qu,qg,qf,qaa,↓qs,Ev.it1,↓reduceIte,zga,zgb,zgd,zge,zgo,zgf,zgg,List.drop_nil,zgm,zgl,zgn,zgj,zgk,zgh,Nat.reduceAdd,Nat.reduceEqDiff,reduceCtorEq,zgv,zfc,Bool.not_false,zfa,zgx,ne_eq,zfb,zff,zfd,Nat.le_refl,zgy]
    exact ⟨_,rfl,rfl,rfl,⟨_,rfl⟩,rfl,rfl⟩
   obtain ⟨y,h1,h2,h3,h4,h5,h6⟩:=hx
   rw [hb] at h1
   exact ⟨y,qm5 h1,g1,g2,h2,h3,h4,h5,h6⟩
  | cons e rest =>
   rw [hb] at hT
   by_cases ht : e.time < hor
   ·have hrun : WSt.run c hor (k + 1) w = WSt.run c hor k (w.step c e rest):=by rw [WSt.run,hb];simp only [ht,if_true]
    rw [hrun]
    obtain ⟨hel,R,_⟩:=h.ready (by omega) hb
    have hP:=h.plOk (by omega) hb
    obtain ⟨S',hS,_⟩:=h.step (by omega) hb
    have hz:=R.sizes
    have hE:=q6n R f hf
    have hdl : (w.step c e rest).done.length = w.done.length + 1:=by simp [WSt.step]
    have hpl:=qoo e.lp (qba c w.lp e).out (rest,w.sent) []
    have hln:=hP.len
    have hkk:=hP.ok
    rw [List.append_nil,List.append_nil] at hpl
    obtain ⟨g2',hp⟩:=place_ev (.row 8 [[(ii (((qba c w.lp e).lp).r0)),(ii (((qba c w.lp e).lp).r1)),(.fsl ((((qba c w.lp e).lp).procs).map Pr.r) f),(ii (((qba c w.lp e).lp).sum)),(.fsl ((rest).map Evt.r) false),.sl 1 (g1 + 1) 0 (w.done ++ [e]).length false,.sl 2 g2 0 w.sent.length false,(bb ((w.over || (qba c w.lp e).over)))]] 0) (.row 6 [e.r] 0) (.row 4 [[(ii ((qba c w.lp e).lp.r0)),(ii ((qba c w.lp e).lp.r1)),(.fsl (((qba c w.lp e).lp.procs).map Pr.r) f),(ii ((qba c w.lp e).lp.sum))]] 0) (w.done ++ [e]) (g1 + 1) (qba c w.lp e).lp (w.over || (qba c w.lp e).over) f
     (by simp only [qv,qap,Ev.SObj.lo,qax,qu,qbj,qg,qf,qaa,qag,zga,zgb,zgp,Nat.reduceLT,zgv,zfc,zfd,zgy]) (by simp only [Evt.r,qah,Ev.SObj.lo,qax,qu,qg,qf,qaa,qag,zfc,zgy]) (by simp only [qap,Ev.SObj.lo,qax,qu,qg,qf,qaa,qag,zfc,zgy]) e.lp (qba c w.lp e).out (qba c w.lp e).nil rest w.sent g2 hP
    obtain ⟨⟨y2,f2,σ2⟩,m1,m2,m3,m4,m5,m6,m7,m8,m9⟩:=all_l2 (c:=c) (.row 6 [e.r] 0) (.row 4 [[(ii ((qba c w.lp e).lp.r0)),(ii ((qba c w.lp e).lp.r1)),(.fsl (((qba c w.lp e).lp.procs).map Pr.r) f),(ii ((qba c w.lp e).lp.sum))]] 0) (w.done ++ [e]) (g1 + 1) (qba c w.lp e).lp (w.over || (qba c w.lp e).over) f
     (by simp only [Evt.r,qah,Ev.SObj.lo,qax,qu,qg,qf,qaa,qag,zfc,zgy]) (by simp only [qap,Ev.SObj.lo,qax,qu,qg,qf,qaa,qag,zfc,zgy]) hor (w.done.length : Int) (qba c w.lp e).gone (qba c w.lp e).nil (qdq e.lp (rest,w.sent) (qba c w.lp e).out).1 (qdq e.lp (rest,w.sent) (qba c w.lp e).out).2 g2'
     (by have:=hpl.length_eq;simp only [zgp] at this hln;omega) (fun z hz' => hkk z (hpl.mem_iff.1 (List.mem_append_left _ hz'))) (by omega) (fun k hk' => by have:=hz.2.2.2.2.1 k hk';omega)
    simp only [Int.ofNat_zero] at m1 m2 m3 m4 m5 m6 m7 m8 m9
    subst m2;subst m4
    obtain ⟨y,k1,k2⟩:=ih (w:=w.step c e rest) (S:=S') (H:=H ++ [e]) (g1 + 1) g2' (by omega) hS (fun k => qzm (hf k)) (by simp;omega)
    refine ⟨y,qy0 ?_ k1,k2⟩
    have hw : IntKind.i64.wrap ((w.done.length : Int) + 1) = ((w.done.length + 1 : Nat) : Int):=by rw [qas (by omega) (by omega)];simp
    clear k1 k2 ih hS hrun h hpl hkk hln R hP hz
    rw [hdl]
    unfold WSt.step
    simp only
    generalize qba c w.lp e = r at *
    generalize (qdq e.lp (rest,w.sent) r.out).2 = Z at *
    generalize (qdq e.lp (rest,w.sent) r.out).1 = B at *
    generalize qsw B r.gone = B' at *
    obtain ⟨wl,wb,wd,ws,wo⟩:=w
    simp only at hw c1 hE hb hp m1 ⊢
    subst hb
    have bd : (wd.length + 1) * 64 ≤ 140737488355328:=by simp only at hk;omega
    have tk : List.take wd.length (wd.map Evt.r) = wd.map Evt.r:=List.take_of_length_le (by simp)
    have hle : wd.length ≤ wd.length:=Nat.le_refl _
    have lo4:=qv 4 (wd ++ [e])
    have lo6:=qv 6 (wd ++ [e])
    obtain ⟨et,ek,el,ei,ep,ea⟩:=e
    obtain ⟨a0,a1,ap,as'⟩:=wl
    simp only at ht
    simp only [qmq,ht,if_true,List.map_cons,Evt.r] at hT
    rw [List.map_append] at lo4 lo6 hp m1
    simp only [List.map_append,zgp,List.map_cons,List.map_nil,zga,zgb,zfd,Evt.r] at lo4 lo6 hp m1 ⊢
    cases hvo : wo <;> (rw [hvo] at hp m1;simp only [Bool.true_or,Bool.false_or] at hp m1 ⊢;simp only [qf7,c1,hT,hE,hp,m1,m3,m5,m6,m7,m8,m9,bd,tk,hle,lo4,lo6,hw,qv,qah,qbv,qap,qc0,qbd,Ev.exec,qb,qe,qc,qa0,qd6,qaj,qnz,Ev.evs,Ev.Opnd.ev,Ev.Env.get,Ev.Env.set,Ev.Env.unset,Ev.look,qh,qbs,qad,qfl,Ev.AV.cells,Ev.AV.uc,qx,Ev.AV.plain,qaf,ql,qq,Ev.keep,qae,qw,qd,Ev.SObj.lo,qax,qbe,qu,qbt,qbj,qez,qg,qf,qaa,qag,qbh,qa8,List.replicate_one,zgi,↓qs,↓qan,Ev.it1,↓reduceIte,zga,zgb,zgd,zge,zgc,zgo,zfe,zgf,zgg,List.drop_nil,zgm,zgl,zgn,zgj,zgk,zgh,Nat.reduceAdd,Nat.reduceEqDiff,Nat.reduceMul,Nat.reduceLT,Nat.reduceLeDiff,Nat.reducePow,zgv,zfc,Bool.not_true,zfa,Bool.true_eq_false,zgx,ne_eq,zfb,zff,zfd,Nat.add_zero,zgu,Nat.le_refl,zgy])
   ·have hrun : WSt.run c hor (k + 1) w = w:=by rw [WSt.run,hb];simp only [ht,if_false]
    rw [hrun]
    have hx : ∃ y,it1 (exec (evL T) itL none qf7) (qq [3,4,8,9,10] true 4) ⟨[(3,(ii hor)),(4,(.fptr [(.fsl ((c.lps).map lpC) false),(.fsl ((c.progs).map qcs) false),(ii c.look),(ii c.fin),(ii c.cap)])),(8,.ptr 0 0 0 0),(9,.ptr 3 0 0 0),(10,(ii w.done.length))],[]⟩ [(.row 8 [[(ii 0),(ii 0),.fsl [] false,(ii 0),.fsl [] false,.fsl [] false,.fsl [] false,(bb false)]] 0),.row 6 ((w).done.map Evt.r) g1,.row 6 ((w).sent.map Evt.r) g2,.row 8 [[(ii (((w).lp).r0)),(ii (((w).lp).r1)),(.fsl ((((w).lp).procs).map Pr.r) f),(ii (((w).lp).sum)),(.fsl (((w).box).map Evt.r) false),.sl 1 g1 0 (w).done.length false,.sl 2 g2 0 (w).sent.length false,(bb ((w).over))]] 0] = some (.inr y) ∧ y.1 = .exit 0 ∧ y.2.1.marks = [] ∧ (∃ X,y.2.2 = [(.row 8 [[(ii 0),(ii 0),.fsl [] false,(ii 0),.fsl [] false,.fsl [] false,.fsl [] false,(bb false)]] 0),.row 6 ((w).done.map Evt.r) g1,.row 6 ((w).sent.map Evt.r) g2,.row 8 [[(ii (((w).lp).r0)),(ii (((w).lp).r1)),(.fsl ((((w).lp).procs).map Pr.r) f),(ii (((w).lp).sum)),(.fsl (((w).box).map Evt.r) false),.sl 1 g1 0 (w).done.length false,.sl 2 g2 0 (w).sent.length false,(bb ((w).over))]] 0] ++ X) ∧ Ev.look y.2.1.vars 8 = some (.ptr 0 0 0 0) ∧ Ev.look y.2.1.vars 9 = some (.ptr 3 0 0 0):=by
     rw [hb]
     obtain ⟨et,ek,el,ei,ep,ea⟩:=e
     simp only at ht
     simp only [qmq,ht,if_false,q3j,List.map_cons,List.map_nil,Evt.r] at hT
     simp only [List.map_cons,Evt.r]
     simp only [qf7,c1,hT,qv,qah,Ev.exec,qb,qe,qc,qa0,qaj,Ev.evs,Ev.Opnd.ev,Ev.Env.get,Ev.Env.set,Ev.look,qh,qad,Ev.AV.cells,qx,Ev.AV.plain,ql,qax,qu,qg,qf,qag,↓qs,Ev.it1,↓reduceIte,zga,zgb,zgd,zge,zgo,zgf,zgg,List.drop_nil,zgm,zgl,zgn,zgj,zgk,zgh,Nat.reduceAdd,Nat.reduceEqDiff,reduceCtorEq,zgv,zfc,Bool.not_false,zfa,zgx,ne_eq,zfb,zff,zfd,Nat.le_refl,zgy]
     exact ⟨_,rfl,rfl,rfl,⟨_,rfl⟩,rfl,rfl⟩
    obtain ⟨y,h1,h2,h3,h4,h5,h6⟩:=hx
    rw [hb] at h1
    exact ⟨y,qm5 h1,g1,g2,h2,h3,h4,h5,h6⟩
theorem RAll_ev (hor : Int) {x : Lp} {b : List Evt} {cb : Bool} {i : Nat} {O : List Evt} {S : Sim} {H : List Evt} (h : WInv c i ⟨x,b,[],[],false⟩ O S H) (hf : f = true → x.procs = []) (hn : H.length ≤ 18000) :
  qaz (evL T) qlu [(.agg [(.fsl ((c.lps).map lpC) false),(.fsl ((c.progs).map qcs) false),(ii c.look),(ii c.fin),(ii c.cap)]),(.agg [(ii x.r0),(ii x.r1),(.fsl ((x.procs).map Pr.r) f),(ii x.sum)]),(.fsl ((b).map Evt.r) cb),(ii hor)] = some (.agg [(ii ((WSt.run c hor 2000 ⟨x,b,[],[],false⟩).lp.r0)),(ii ((WSt.run c hor 2000 ⟨x,b,[],[],false⟩).lp.r1)),(.fsl (((WSt.run c hor 2000 ⟨x,b,[],[],false⟩).lp.procs).map Pr.r) f),(ii ((WSt.run c hor 2000 ⟨x,b,[],[],false⟩).lp.sum)),(.fsl (((WSt.run c hor 2000 ⟨x,b,[],[],false⟩).box).map Evt.r) false),(.fsl (((WSt.run c hor 2000 ⟨x,b,[],[],false⟩).done).map Evt.r) false),(.fsl (((WSt.run c hor 2000 ⟨x,b,[],[],false⟩).sent).map Evt.r) false),(bb ((WSt.run c hor 2000 ⟨x,b,[],[],false⟩).over))]):=by
 obtain ⟨⟨y,e,σ⟩,k1,g1,g2,k2,k3,⟨X,k4⟩,k5,k6⟩:=all_L (f:=f) hor 2000 0 0 rfl h hf (by omega)
 simp only at k1 k2 k3 k4 k5 k6
 subst k2;subst k4
 generalize WSt.run c hor 2000 ⟨x,b,[],[],false⟩ = w at *
 have tk1 : List.take w.done.length (w.done.map Evt.r) = w.done.map Evt.r:=List.take_of_length_le (by simp)
 have tk2 : List.take w.sent.length (w.sent.map Evt.r) = w.sent.map Evt.r:=List.take_of_length_le (by simp)
 have hle : ∀ n : Nat,n ≤ n:=fun n => Nat.le_refl n
 simp only [List.map_nil,zgb,Int.ofNat_zero] at k1
 rw [qaz,qy q4o q26]
 simp only [qrb,k1,k3,k5,k6,tk1,tk2,hle,qv,qap,qc0,qbd,zgm,zgl,qn,Ev.exec,qb,qe,qc,qaj,q62,Ev.Opnd.ev,Ev.Env.get,Ev.Env.set,Ev.look,qo,qh,qad,qgp,Ev.AV.cells,Ev.AV.uc,qx,Ev.AV.plain,qm,qab,qak,Ev.kill,qai,qq,Ev.keep,qae,qw,qd,Ev.SObj.lo,qax,qbe,qu,qbt,qbj,qez,qg,qf,qaa,qag,qal,q07,qfw,qea,qfm,qd8,zgi,↓qs,↓qan,↓reduceIte,zga,zgb,zgd,zge,zgc,zgo,zfe,zgf,zgg,List.drop_nil,zgm,zgl,zgn,zgj,zgk,Nat.reduceAdd,Nat.reduceEqDiff,Nat.reduceLT,Nat.reduceLeDiff,reduceCtorEq,zgv,zgw,zfc,Bool.and_true,zfa,zgx,and_true,ne_eq,zfb,zff,zfd,zgu,zgy,Bool.and_false]
end
set_option maxRecDepth 10000
def flR (p : Int × Bool) (e : Evt) : Int × Bool:=if p.2 = false ∨ e.time < p.1 then (e.time,true) else p
theorem q8x : ∀ (l : List Evt) (p : Int × Bool),p.2 = true → (l.foldl flR p).2 = true ∧ (l.foldl flR p).1 ≤ p.1 ∧ (∀ e ∈ l,(l.foldl flR p).1 ≤ e.time) ∧ ((l.foldl flR p).1 = p.1 ∨ ∃ e ∈ l,e.time = (l.foldl flR p).1)
 | [],p,h => ⟨h,Int.le_refl _,fun e he => (by cases he),.inl rfl⟩
 | a :: l,p,h => by
  have hp : (flR p a).2 = true ∧ (flR p a).1 ≤ p.1 ∧ (flR p a).1 ≤ a.time ∧ ((flR p a).1 = p.1 ∨ (flR p a).1 = a.time):=by
   unfold flR
   split
   next hc => exact ⟨rfl,by rcases hc with hc | hc;rw [h] at hc;cases hc;simp only;omega,Int.le_refl _,.inr rfl⟩
   next hc => exact ⟨h,Int.le_refl _,by have:=not_or.1 hc;omega,.inl rfl⟩
  obtain ⟨h1,h2,h3,h4⟩:=q8x l (flR p a) hp.1
  rw [List.foldl_cons]
  refine ⟨h1,by omega,fun e he => ?_,?_⟩
  ·rcases List.mem_cons.1 he with rfl | he
   ·omega
   ·exact h3 e he
  ·rcases h4 with h4 | ⟨e,he,h4⟩
   ·rcases hp.2.2.2 with h5 | h5
    ·exact .inl (by omega)
    ·exact .inr ⟨a,by simp,by omega⟩
   ·exact .inr ⟨e,List.mem_cons_of_mem _ he,h4⟩
theorem qabq (bs : List (List Evt)) (hs : ∀ b ∈ bs,b.Pairwise leE) : bs.flatten.foldl flR (0,false) = ((qni bs).getD 0,(qni bs).isSome):=by
 cases hf : qni bs with
 | none =>
  have h:=q7g hf
  have : bs.flatten = []:=by rw [List.flatten_eq_nil_iff];exact h
  rw [this];rfl
 | some f =>
  obtain ⟨h1,b,hb,e,r,rfl,h2⟩:=qzs hf hs
  have hne : bs.flatten ≠ []:=fun h => by rw [List.flatten_eq_nil_iff] at h;exact absurd (h _ hb) (by simp)
  cases hl : bs.flatten with
  | nil => exact absurd hl hne
  | cons a l =>
   rw [List.foldl_cons]
   have hp : flR (0,false) a = (a.time,true):=by unfold flR;rw [if_pos (.inl rfl)]
   rw [hp]
   obtain ⟨k1,k2,k3,k4⟩:=q8x l (a.time,true) rfl
   have all : ∀ x ∈ a :: l,f ≤ x.time:=fun x hx => by
    rw [← hl] at hx
    obtain ⟨q,hq,hx⟩:=List.mem_flatten.1 hx
    exact h1 q hq x hx
   have hin : e ∈ a :: l:=by rw [← hl];exact List.mem_flatten.2 ⟨_,hb,by simp⟩
   have e1 : (l.foldl flR (a.time,true)).1 = f:=by
    have le1 : (l.foldl flR (a.time,true)).1 ≤ f:=by
     rcases List.mem_cons.1 hin with rfl | hin
     ·simp only at k2;omega
     ·have:=k3 e hin;omega
    have ge1 : f ≤ (l.foldl flR (a.time,true)).1:=by
     rcases k4 with k4 | ⟨x,hx,k4⟩
     ·have:=all a (by simp);omega
     ·have:=all x (List.mem_cons_of_mem _ hx);omega
    omega
   exact Prod.ext e1 k1
theorem qabw (bs : List (List Evt)) (c : Bool) (hs : ∀ b ∈ bs,b.Pairwise leE) (h : bs.length ≤ 1000) (hl : bs.flatten.length ≤ 1000000) : qaz (evL T) qjg [(.fsl ((bs).map qbc) c)] = some (.tup [(ii (((qni bs).getD 0))),(bb (((qni bs).isSome)))]):=by
 have hL : ∃ y,itB (exec (evL T) itL none qj0) (qq [0,4,5,6] true 0) ⟨[(0,(.fsl ((bs).map qbc) c)),(4,(ii 0)),(5,(bb false)),(6,(ii ((0 : Nat))))],[]⟩ [] = some y ∧ (y.1 = .exit 0 ∧ y.2.1.marks = [] ∧ y.2.2 = [] ∧ Ev.look y.2.1.vars 4 = some (ii ((bs.flatten.foldl flR (0,false)).1)) ∧ Ev.look y.2.1.vars 5 = some (bb ((bs.flatten.foldl flR (0,false)).2))):=by
  have key:=qen (f:=exec (evL T) itL none qj0) (s:=qq [0,4,5,6] true 0) (α:=Int × Bool)
   (fun i a => ⟨[(0,(.fsl ((bs).map qbc) c)),(4,(ii a.1)),(5,(bb a.2)),(6,(ii i))],[]⟩) (fun _ _ => []) (fun i a => a = (bs.take i).flatten.foldl flR (0,false)) bs.length
   (fun y => y.1 = .exit 0 ∧ y.2.1.marks = [] ∧ y.2.2 = [] ∧ Ev.look y.2.1.vars 4 = some (ii ((bs.flatten.foldl flR (0,false)).1)) ∧ Ev.look y.2.1.vars 5 = some (bb ((bs.flatten.foldl flR (0,false)).2))) ?_ ?_ 0 (0,false) (Nat.zero_le _) rfl
  ·exact key
  ·rintro i p hi hp
   obtain ⟨x,hx⟩ : ∃ x,bs[i]? = some x:=⟨_,List.getElem?_eq_getElem hi⟩
   have hi' : (i : Int) < (bs.length : Int):=by omega
   have hw : IntKind.i64.wrap ((i : Int) + 1) = ((i + 1 : Nat) : Int):=by rw [qas (by omega) (by omega)];simp
   have hxl : x.length ≤ 1000000:=by have:=(List.sublist_flatten_of_mem (List.mem_of_getElem? hx)).length_le;omega
   have hin : ∃ y,itB (exec (evL T) itL none qgs) (qq [0,4,5,6,7] true 0) ⟨[(0,(.fsl ((bs).map qbc) c)),(4,(ii p.1)),(5,(bb p.2)),(6,(ii i)),(7,(ii ((0 : Nat))))],[]⟩ [] = some y ∧ (y.1 = .exit 2 ∧ y.2.1.marks = [] ∧ y.2.2 = [] ∧ Ev.look y.2.1.vars 0 = some (.fsl ((bs).map qbc) c) ∧ Ev.look y.2.1.vars 4 = some (ii ((x.foldl flR p).1)) ∧ Ev.look y.2.1.vars 5 = some (bb ((x.foldl flR p).2)) ∧ Ev.look y.2.1.vars 6 = some (ii i)):=by
    have key:=qen (f:=exec (evL T) itL none qgs) (s:=qq [0,4,5,6,7] true 0) (α:=Int × Bool)
     (fun k a => ⟨[(0,(.fsl ((bs).map qbc) c)),(4,(ii a.1)),(5,(bb a.2)),(6,(ii i)),(7,(ii k))],[]⟩) (fun _ _ => []) (fun k a => a = (x.take k).foldl flR p) x.length
     (fun y => y.1 = .exit 2 ∧ y.2.1.marks = [] ∧ y.2.2 = [] ∧ Ev.look y.2.1.vars 0 = some (.fsl ((bs).map qbc) c) ∧ Ev.look y.2.1.vars 4 = some (ii ((x.foldl flR p).1)) ∧ Ev.look y.2.1.vars 5 = some (bb ((x.foldl flR p).2)) ∧ Ev.look y.2.1.vars 6 = some (ii i)) ?_ ?_ 0 p (Nat.zero_le _) rfl
    ·exact key
    ·rintro k ⟨m,fd⟩ hk hm
     obtain ⟨e,he⟩ : ∃ e,x[k]? = some e:=⟨_,List.getElem?_eq_getElem hk⟩
     have hk' : (k : Int) < (x.length : Int):=by omega
     have hw : IntKind.i64.wrap ((k : Int) + 1) = ((k + 1 : Nat) : Int):=by rw [qas (by omega) (by omega)];simp
     have hnx : (x.take (k + 1)).foldl flR p = flR (m,fd) e:=by rw [List.take_add_one,he,List.foldl_append,← hm];rfl
     refine .inl ⟨flR (m,fd) e,?_,hnx.symm⟩
     obtain ⟨et,ek,el,ei,ep,ea⟩:=e
     cases fd with
     | false =>
      have : flR (m,false) ⟨et,ek,el,ei,ep,ea⟩ = (et,true):=by unfold flR;rw [if_pos (.inl rfl)]
      rw [this]
      simp only [qgs,zgs,zgr,zgq,zgt,hx,he,hk',hw,qbc,Evt.r,qdk,Ev.exec,qb,qe,qc,qaj,Ev.Opnd.ev,Ev.Env.get,Ev.Env.set,Ev.Env.unset,Ev.look,qh,qad,qaf,ql,qq,Ev.keep,qae,qw,qd,qax,qu,zgi,↓qs,Ev.it1,↓reduceIte,zga,zgb,zfe,zgg,zgh,Nat.reduceAdd,Nat.reduceEqDiff,reduceCtorEq,zgv,zfc,Bool.not_false,zfa,Bool.true_eq_false,zgx,zfd,zgy]
     | true =>
      by_cases ht : et < m
      ·have : flR (m,true) ⟨et,ek,el,ei,ep,ea⟩ = (et,true):=by unfold flR;rw [if_pos (.inr ht)]
       rw [this]
       simp only [qgs,zgs,zgr,zgq,zgt,hx,he,hk',hw,ht,qbc,Evt.r,qdk,Ev.exec,qb,qe,qc,qaj,Ev.Opnd.ev,Ev.Env.get,Ev.Env.set,Ev.look,qh,qad,qaf,ql,qq,Ev.keep,qae,qw,qd,qax,qu,zgi,↓qs,Ev.it1,↓reduceIte,zga,zgb,zfe,zgg,zgh,Nat.reduceAdd,Nat.reduceEqDiff,reduceCtorEq,zgv,zfc,Bool.not_true,zfa,zgx,zfd,zgy]
      ·have : flR (m,true) ⟨et,ek,el,ei,ep,ea⟩ = (m,true):=by unfold flR;rw [if_neg (by simp [ht])]
       rw [this]
       simp only [qgs,zgs,zgr,zgq,zgt,hx,he,hk',hw,ht,qbc,Evt.r,qdk,Ev.exec,qb,qe,qc,qaj,Ev.Opnd.ev,Ev.Env.get,Ev.Env.set,Ev.look,qh,qad,qaf,ql,qq,Ev.keep,qae,qw,qd,qax,qu,zgi,↓qs,Ev.it1,↓reduceIte,zga,zgb,zfe,zgg,zgh,Nat.reduceAdd,Nat.reduceEqDiff,reduceCtorEq,zgv,zgw,zfc,Bool.not_true,zfa,zgx,zfd,zgy]
    ·rintro ⟨m,fd⟩ hm
     rw [List.take_length] at hm
     rw [← hm]
     simp only [qgs,zgs,zgr,zgq,zgt,hx,Int.lt_irrefl,qbc,Ev.exec,qb,qe,qc,qaj,Ev.Opnd.ev,Ev.Env.get,Ev.Env.set,Ev.look,qh,qad,ql,zgi,↓qs,Ev.it1,↓reduceIte,zga,zgb,zgh,Nat.reduceEqDiff,reduceCtorEq,zgw,zfa,zfd,zgy]
     exact ⟨_,rfl,rfl,rfl,rfl,rfl,rfl,rfl,rfl⟩
   obtain ⟨⟨y,e,σ⟩,k1,k2,k3,k4,k5,k6,k7,k8⟩:=hin
   simp only [Int.ofNat_zero] at k1 k2 k3 k4 k5 k6 k7 k8
   subst k2;subst k4
   refine .inl ⟨x.foldl flR p,?_,by rw [qsf hx,List.foldl_append,← hp]⟩
   simp only [qj0,hi',hw,k1,k3,k5,k6,k7,k8,qdk,Ev.exec,qb,qe,qc,qaj,Ev.Opnd.ev,Ev.Env.get,Ev.Env.set,Ev.look,qaf,ql,qq,Ev.keep,qae,qw,qd,qax,qu,zgi,↓qs,↓qan,Ev.it1,↓reduceIte,zgb,zfe,Nat.reduceEqDiff,reduceCtorEq,zgv,zfc,zgx,zgy]
  ·rintro p hp
   rw [List.take_length] at hp
   rw [← hp]
   simp only [qj0,Int.lt_irrefl,Ev.exec,qb,qe,qc,qaj,Ev.Opnd.ev,Ev.Env.get,Ev.Env.set,Ev.look,ql,zgi,↓qs,Ev.it1,↓reduceIte,Nat.reduceEqDiff,reduceCtorEq,zgw,zfa,zgy]
   exact ⟨_,rfl,rfl,rfl,rfl,rfl,rfl⟩
 obtain ⟨⟨y,e,σ⟩,k1,k2,k3,k4,k5,k6⟩:=hL
 simp only [Int.ofNat_zero] at k1 k2 k3 k4 k5 k6
 subst k2;subst k4
 rw [qabq bs hs] at k5 k6
 rw [qaz,qy q02 qyi]
 simp only [qnr,k1,k3,k5,k6,qdk,qn,Ev.exec,qb,qe,qc,qaj,Ev.Opnd.ev,Ev.Env.get,Ev.Env.set,Ev.look,qo,qm,qab,qak,Ev.kill,qai,qq,Ev.keep,qae,qw,qd,qax,qa3,qu,qg,qf,qal,↓qs,↓qan,↓reduceIte,zga,zgb,zfe,Nat.reduceEqDiff,reduceCtorEq,zfc,zgx,zfd,zgy]
theorem Boxes_ev (n : Nat) (hn : n ≤ 8) (l : List Evt) (cl : Bool) (hl : l.length ≤ 1000000) (hk : qcj l) (hd : qr1 l) (hr : ∀ e ∈ l,0 ≤ e.lp ∧ e.lp < (n : Int)) : qaz (evL T) qg5 [(ii n),(.fsl ((l).map Evt.r) cl)] = some (.fsl (((qc7 n l)).map qbc) false):=by
 have hrep : (List.replicate n ([] : List Evt)).map qbc = List.replicate n [.fsl [] false]:=by rw [List.map_replicate];rfl
 have hfl : (List.replicate n ([] : List Evt)).flatten = []:=by rw [List.flatten_eq_nil_iff];exact fun b hb => List.eq_of_mem_replicate hb
 have hD:=q4h (List.replicate n []) [l] false true (by simp;omega) (by simp) (by rw [hfl];simpa using hl) (by rw [hfl];simpa using hk) (fun b hb => by rw [List.eq_of_mem_replicate hb];exact .nil) (fun i b hb => by
  rw [List.eq_of_mem_replicate (List.mem_of_getElem? hb),List.nil_append]
  simp only [List.flatten_cons,List.flatten_nil,zgn]
  exact q3y hd i) (fun e he => by simp at he;simpa using hr e he)
 have hdl : qbu (List.replicate n []) [l].flatten = qc7 n l:=by
  unfold qbu qc7
  refine List.ext_getElem (by simp) (fun i h1 h2 => ?_)
  simp [List.getElem_mapIdx]
 rw [hdl,hrep] at hD
 simp only [List.map_cons,List.map_nil,qbc] at hD
 have b1 : 24 * (n : Int) ≤ 140737488355328:=by omega
 have b2 : (n : Int) ≤ 4611686018427387904:=by omega
 have lr : ∀ k,qhl k (List.replicate n ([.fsl [] false] : List AV)) = true:=fun k => qty _ _ _ rfl
 have tk : List.take n (List.replicate n ([.fsl [] false] : List AV)) = List.replicate n [.fsl [] false]:=List.take_of_length_le (by simp)
 have hlr : (List.replicate n ([.fsl [] false] : List AV)).length = n:=List.length_replicate
 have hle : n ≤ n:=Nat.le_refl _
 rw [qaz,qy qys qwo]
 simp only [qm8,hD,b1,b2,lr,tk,hlr,hle,zgs,zgr,Int.le_refl,qv,qdk,qn,Ev.exec,qb,qe,qc,Ev.item_F,qabm,qxw,qaj,qzt,Ev.evs,Ev.Opnd.ev,Ev.Env.get,Ev.Env.set,Ev.look,qo,qfl,Ev.AV.cells,Ev.AV.uc,qx,Ev.AV.plain,qm,qab,qak,Ev.kill,qai,qd,qu,qg,qf,qaa,qag,qal,List.replicate_one,↓qs,↓reduceIte,zga,zgb,zgd,zgo,zgg,zgl,zgj,Nat.reduceAdd,Nat.reduceEqDiff,Nat.reduceMul,Nat.reduceLeDiff,Nat.reducePow,Int.reducePow,Int.cast_ofNat_Int,reduceCtorEq,zgv,zfc,zgx,ne_eq,zfb,zff,zfd,zgu,zgy]
theorem q6o (bs : List (List Evt)) (D : List Evt) (e : Evt) {i : Nat} {b : List Evt} (hb : bs[i]? = some b) (he : e.lp = i) : qbu bs (D ++ [e]) = (qbu bs D).set i (sortL (b ++ (qbq D i ++ [e]))):=by
 refine List.ext_getElem? fun j => ?_
 unfold qbu
 by_cases h : i = j
 ·subst h
  rw [List.getElem?_set_self (by rw [List.length_mapIdx];exact (List.getElem?_eq_some_iff.1 hb).1),List.getElem?_mapIdx,hb,qmz,if_pos he];rfl
 ·rw [List.getElem?_set_ne h,List.getElem?_mapIdx,List.getElem?_mapIdx]
  cases bs[j]? with
  | none => rfl
  | some q => simp only [zgt];rw [qmz,if_neg (by omega)]
section
variable (bs ss : List (List Evt)) (cs : Bool)
theorem q7e (c1 : Bool) (hn : bs.length ≤ 1000) (h1 : 1 ≤ bs.length) (hs1 : ss.length ≤ 1000000) (hD : (bs.flatten ++ ss.flatten).length ≤ 1000000) (hk : qcj (bs.flatten ++ ss.flatten)) (hs : ∀ b ∈ bs,b.Pairwise leE) (hd : ∀ i b,bs[i]? = some b → qr1 (b ++ qbq ss.flatten i)) (hl : ∀ e ∈ ss.flatten,0 ≤ e.lp ∧ e.lp < (bs.length : Int)) :
  qaz (evL T) qhj [(.fsl ((bs).map qbc) c1),(.fsl ((ss).map qbc) cs)] = some (.fsl (((qbu bs ss.flatten)).map qbc) false):=by
 have hDl:=hD
 rw [List.length_append] at hDl
 have dlen : ∀ D,(qbu bs D).length = bs.length:=fun D => by unfold qbu;rw [List.length_mapIdx]
 have d0 : qbu bs [] = bs:=by
  unfold qbu
  refine List.ext_getElem? fun i => ?_
  rw [List.getElem?_mapIdx]
  cases hb : bs[i]? with
  | none => rfl
  | some b =>
   have hdb:=hd i b hb
   have : qr1 b:=hdb.sub (List.sublist_append_left _ _)
   simp only [zgt,qbq,List.filter_nil,zgn]
   rw [← q39 this (hs b (List.mem_of_getElem? hb))]
 have hL : ∃ y,itB (exec (evL T) itL none qhy) (qq [1,5,6] true 1) ⟨[(1,(.fsl ((ss).map qbc) cs)),(5,.sl 0 0 0 bs.length false),(6,(ii ((0 : Nat))))],[]⟩ [.row 1 (bs.map qbc) 0] = some y ∧
   (y.1 = .exit 0 ∧ y.2.1.marks = [] ∧ y.2.2 = [.row 1 ((qbu bs ss.flatten).map qbc) 0] ∧ Ev.look y.2.1.vars 5 = some (.sl 0 0 0 bs.length false)):=by
  have key:=qen (f:=exec (evL T) itL none qhy) (s:=qq [1,5,6] true 1) (α:=Unit)
   (fun i _ => ⟨[(1,(.fsl ((ss).map qbc) cs)),(5,.sl 0 0 0 bs.length false),(6,(ii i))],[]⟩) (fun i _ => [.row 1 ((qbu bs (ss.take i).flatten).map qbc) 0]) (fun _ _ => True) ss.length
   (fun y => y.1 = .exit 0 ∧ y.2.1.marks = [] ∧ y.2.2 = [.row 1 ((qbu bs ss.flatten).map qbc) 0] ∧ Ev.look y.2.1.vars 5 = some (.sl 0 0 0 bs.length false)) ?_ ?_ 0 () (Nat.zero_le _) trivial
  ·simp only [zgo,List.flatten_nil,d0] at key;exact key
  ·rintro i _ hi _
   obtain ⟨l,hll⟩ : ∃ l,ss[i]? = some l:=⟨_,List.getElem?_eq_getElem hi⟩
   have hi' : (i : Int) < (ss.length : Int):=by omega
   have hw : IntKind.i64.wrap ((i : Int) + 1) = ((i + 1 : Nat) : Int):=by rw [qas (by omega) (by omega)];simp
   have hflat:=qsf hll
   have hle1:=q75 ss (i + 1)
   rw [hflat,List.length_append] at hle1
   have hpre : ((ss.take i).flatten ++ l).Sublist ss.flatten:=by
    rw [← hflat]
    have : ss.flatten = (ss.take (i + 1)).flatten ++ (ss.drop (i + 1)).flatten:=by rw [← List.flatten_append,List.take_append_drop]
    rw [this];exact List.sublist_append_left _ _
   have hin : ∃ y,itB (exec (evL T) itL none qh1) (qq [1,5,6,7] true 1) ⟨[(1,(.fsl ((ss).map qbc) cs)),(5,.sl 0 0 0 bs.length false),(6,(ii i)),(7,(ii ((0 : Nat))))],[]⟩ [.row 1 ((qbu bs (ss.take i).flatten).map qbc) 0] = some y ∧
     (y.1 = .exit 2 ∧ y.2.1.marks = [] ∧ y.2.2 = [.row 1 ((qbu bs ((ss.take i).flatten ++ l)).map qbc) 0] ∧ Ev.look y.2.1.vars 1 = some (.fsl ((ss).map qbc) cs) ∧ Ev.look y.2.1.vars 5 = some (.sl 0 0 0 bs.length false) ∧ Ev.look y.2.1.vars 6 = some (ii i)):=by
    have key:=qen (f:=exec (evL T) itL none qh1) (s:=qq [1,5,6,7] true 1) (α:=Unit)
     (fun k _ => ⟨[(1,(.fsl ((ss).map qbc) cs)),(5,.sl 0 0 0 bs.length false),(6,(ii i)),(7,(ii k))],[]⟩) (fun k _ => [.row 1 ((qbu bs ((ss.take i).flatten ++ l.take k)).map qbc) 0]) (fun _ _ => True) l.length
     (fun y => y.1 = .exit 2 ∧ y.2.1.marks = [] ∧ y.2.2 = [.row 1 ((qbu bs ((ss.take i).flatten ++ l)).map qbc) 0] ∧ Ev.look y.2.1.vars 1 = some (.fsl ((ss).map qbc) cs) ∧ Ev.look y.2.1.vars 5 = some (.sl 0 0 0 bs.length false) ∧ Ev.look y.2.1.vars 6 = some (ii i)) ?_ ?_ 0 () (Nat.zero_le _) trivial
    ·simp only [zgo,zgn] at key;exact key
    ·rintro k _ hkl _
     obtain ⟨e,he⟩ : ∃ e,l[k]? = some e:=⟨_,List.getElem?_eq_getElem hkl⟩
     have hk' : (k : Int) < (l.length : Int):=by omega
     have hw : IntKind.i64.wrap ((k : Int) + 1) = ((k + 1 : Nat) : Int):=by rw [qas (by omega) (by omega)];simp
     have hem : e ∈ ss.flatten:=List.mem_flatten.2 ⟨l,List.mem_of_getElem? hll,List.mem_of_getElem? he⟩
     obtain ⟨r1,r2⟩:=hl e hem
     obtain ⟨j,hj⟩ : ∃ j : Nat,e.lp = j:=⟨_,(Int.toNat_of_nonneg r1).symm⟩
     have hjn : j < bs.length:=by omega
     obtain ⟨b,hb⟩ : ∃ b,bs[j]? = some b:=⟨_,List.getElem?_eq_getElem hjn⟩
     generalize hDD : (ss.take i).flatten ++ l.take k = D at *
     have hDs : (D ++ [e]).Sublist ss.flatten:=by
      refine List.Sublist.trans ?_ hpre
      rw [← hDD,List.append_assoc]
      refine List.Sublist.append_left ?_ _
      have : l.take k ++ [e] = l.take (k + 1):=by rw [List.take_add_one,he];rfl
      rw [this];exact List.take_sublist _ _
     have hnx : (ss.take i).flatten ++ l.take (k + 1) = D ++ [e]:=by rw [← hDD,List.append_assoc,List.take_add_one,he];rfl
     have hdist : qr1 (b ++ (qbq D j ++ [e])):=by
      refine (hd j b hb).sub (List.Sublist.append_left ?_ b)
      have : qbq D j ++ [e] = qbq (D ++ [e]) j:=by rw [qmz,if_pos hj]
      rw [this];exact hDs.filter _
     have pb:=qd0 (b ++ qbq D j)
     have pe : (e :: sortL (b ++ qbq D j)).Perm (b ++ (qbq D j ++ [e])):=by
      refine (pb.cons e).trans ?_
      rw [← List.append_assoc];exact (List.perm_append_singleton e _).symm
     have bl : b.length ≤ bs.flatten.length:=(List.sublist_flatten_of_mem (List.mem_of_getElem? hb)).length_le
     have ol : (qbq D j).length ≤ ss.flatten.length:=by
      have h1:=List.length_filter_le (fun e : Evt => decide (e.lp = j)) D
      have h2:=hDs.length_le
      rw [List.length_append] at h2
      unfold qbq;omega
     have hI:=qqf (sortL (b ++ qbq D j)) false e (by rw [ql3,List.length_append];omega) (fun z hz => by
      rcases List.mem_append.1 (pb.mem_iff.1 hz) with hz | hz
      ·exact hk z (List.mem_append_left _ (List.mem_flatten.2 ⟨_,List.mem_of_getElem? hb,hz⟩))
      ·exact hk z (List.mem_append_right _ (hDs.subset (List.mem_append_left _ (List.mem_filter.1 hz).1)))) (hk e (List.mem_append_right _ hem)) (qgc _) (hdist.perm pe)
     rw [qvp hdist pe] at hI
     have hget : ((qbu bs D).map qbc)[j]? = some (qbc (sortL (b ++ qbq D j))):=by rw [List.getElem?_map];unfold qbu;rw [List.getElem?_mapIdx,hb];rfl
     have hset : ((qbu bs D).map qbc).set j [(.fsl (((sortL (b ++ (qbq D j ++ [e])))).map Evt.r) false)] = (qbu bs (D ++ [e])).map qbc:=by rw [q6o bs D e hb hj,List.map_set];rfl
     have lo:=qdk 1 (qbu bs (D ++ [e]))
     have hlen : ((qbu bs D).map qbc).length = bs.length:=by rw [List.length_map,dlen]
     refine .inl ⟨(),?_,trivial⟩
     rw [hnx]
     rw [← hset] at lo ⊢
     have hsg : (ss.map qbc)[i]? = some (qbc l):=by rw [List.getElem?_map,hll];rfl
     have los:=qdk 1 ss
     have lol : ∀ n,qhl n (l.map Evt.r) = true:=fun n => qv _ _
     have lob : ∀ n,qhl n ((sortL (b ++ qbq D j)).map Evt.r) = true:=fun n => qv _ _
     have hj0 : (j : Int) ≥ 0:=by omega
     have hjn' : (j : Int) < (bs.length : Int):=by omega
     have heg : (l.map Evt.r)[k]? = some e.r:=by rw [List.getElem?_map,he];rfl
     have hllen : (l.map Evt.r).length = l.length:=List.length_map ..
     clear hset hnx hDs hDD hdist pb pe hem hll he hb bl ol hd hk hs hl
     generalize sortL (b ++ (qbq D j ++ [e])) = B2 at *
     generalize sortL (b ++ qbq D j) = B1 at *
     generalize (qbu bs D).map qbc = DM at *
     generalize ss.map qbc = SM at *
     simp only [qbc] at hget hsg
     obtain ⟨et,ek,el,ei,ep,ea⟩:=e
     simp only at hj
     subst hj
     simp only [Evt.r] at heg
     simp only [qh1,zgs,zgr,hsg,heg,hllen,hk',hw,hI,hget,hj0,hjn,hjn',lo,los,lob,qah,Ev.exec,qb,qe,qc,qa0,qaj,Ev.evs,Ev.Opnd.ev,Ev.Env.get,Ev.Env.set,Ev.look,qh,qad,Ev.AV.cells,Ev.AV.uc,qx,Ev.AV.plain,qaf,ql,qcd,qq,Ev.keep,qae,qw,qd,Ev.SObj.lo,qax,qbe,qu,qbj,qg,qf,↓qs,Ev.it1,↓reduceIte,zga,zgb,zgd,zge,zgc,zgo,zfe,zgf,zgg,List.drop_nil,zgm,zgl,zgn,zgj,zgk,zgh,Nat.reduceAdd,Nat.reduceEqDiff,zgv,zfc,zfa,zgx,ne_eq,zfb,zff,zfd,zgu,Nat.le_refl,zgy]
    ·rintro _ _
     rw [List.take_length]
     have hsg : (ss.map qbc)[i]? = some (qbc l):=by rw [List.getElem?_map,hll];rfl
     have lod:=qdk 1 (qbu bs ((ss.take i).flatten ++ l))
     simp only [qbc] at hsg
     simp only [qh1,zgs,zgr,zgq,zgt,hll,qbc,Int.lt_irrefl,Ev.exec,qb,qe,qc,qaj,Ev.Opnd.ev,Ev.Env.get,Ev.Env.set,Ev.look,qh,qad,ql,zgi,↓qs,Ev.it1,↓reduceIte,zga,zgb,zgh,Nat.reduceEqDiff,zgw,zfa,zfd,zgy]
     exact ⟨_,rfl,rfl,rfl,rfl,rfl,rfl,rfl⟩
   obtain ⟨⟨y,e,σ⟩,k1,k2,k3,k4,k5,k6,k7⟩:=hin
   simp only [Int.ofNat_zero] at k1 k2 k3 k4 k5 k6 k7
   subst k2;subst k4
   refine .inl ⟨(),?_,trivial⟩
   rw [hflat]
   have los:=qdk 1 ss
   have lod:=qdk 1 (qbu bs ((ss.take i).flatten ++ l))
   have lod0:=qdk 1 (qbu bs (ss.take i).flatten)
   simp only [qhy,hi',hw,k1,k3,k5,k6,k7,los,lod,lod0,zgi,Ev.exec,qb,qe,qc,qaj,Ev.Opnd.ev,Ev.Env.get,Ev.Env.set,Ev.look,qaf,ql,qq,Ev.keep,qae,qw,qd,Ev.SObj.lo,qax,qu,qbj,zgi,↓qs,↓qan,Ev.it1,↓reduceIte,zga,zgb,zgc,zfe,Nat.reduceEqDiff,zgv,zfc,zgx,zfd,zgu,zgy]
  ·rintro _ _
   rw [List.take_length]
   have lod:=qdk 1 (qbu bs ss.flatten)
   simp only [qhy,Int.lt_irrefl,Ev.exec,qb,qe,qc,qaj,Ev.Opnd.ev,Ev.Env.get,Ev.Env.set,Ev.look,ql,zgi,↓qs,Ev.it1,↓reduceIte,Nat.reduceEqDiff,zgw,zfa,zgy]
   exact ⟨_,rfl,rfl,rfl,rfl,rfl⟩
 obtain ⟨⟨y,e,σ⟩,k1,k2,k3,k4,k5⟩:=hL
 simp only [Int.ofNat_zero] at k1 k2 k3 k4 k5
 subst k2;subst k4
 have hle : bs.length ≤ bs.length:=Nat.le_refl _
 have tk : List.take bs.length ((qbu bs ss.flatten).map qbc) = (qbu bs ss.flatten).map qbc:=List.take_of_length_le (by rw [List.length_map,dlen];exact hle)
 have lod:=qdk 0 (qbu bs ss.flatten)
 have ok:=q7x bs
 have bd : bs.length * 24 ≤ 140737488355328:=by omega
 have hlm:=dlen ss.flatten
 have nb : ¬ bs.map qbc = []:=by intro h;have:=congrArg List.length h;simp at this;rw [this] at h1;simp at h1
 rw [qaz,qy qw3 qu3]
 simp only [qmj,k1,k3,k5,tk,hle,lod,ok,bd,hlm,nb,zgi,zfd,qdk,qn,Ev.exec,qb,qe,qc,qaj,Ev.Opnd.ev,Ev.Env.get,Ev.Env.set,Ev.look,qo,qbs,qfl,qm,qab,qak,Ev.kill,qai,qq,Ev.keep,qae,qw,qd,Ev.SObj.lo,qax,qu,qbj,qfw,qea,List.replicate_zero,zgi,↓qs,↓qan,↓reduceIte,zga,zgb,zgd,zgc,zgo,zfe,zgg,zgl,Nat.reduceAdd,Nat.reduceEqDiff,Nat.reduceMul,Nat.reduceLT,Nat.reduceLeDiff,Nat.reducePow,reduceCtorEq,zgv,zgw,zfc,zfa,zgx,and_true,ne_eq,zfb,not_true_eq_false,zff,zfd,zgu,zgy]
end
set_option maxRecDepth 10000
theorem qxs (a : List (List Evt)) (ca cb : Bool) (hal : a.length ≤ 1000000) (hs : ∀ x ∈ a,x.length ≤ 1000000) (hk : ∀ x ∈ a,∀ e ∈ x,e.key.length ≤ 9223372036854775807) :
  qaz (evL T) qfd [(.fsl ((a).map qbc) ca),(.fsl ((a).map qbc) cb)] = some (bb true):=by
 have h:=q4w a ca cb hal hs hk
 rw [qaz,qy qu0 qtn]
 simp only [qku,h,qdk,qn,Ev.exec,qb,qe,qc,qa0,qaj,Ev.evs,Ev.Opnd.ev,Ev.Env.get,Ev.Env.set,Ev.look,qo,qm,qab,qak,Ev.kill,qai,qd,qax,qu,qg,qf,qal,↓qs,↓reduceIte,zga,zgb,zfe,Nat.reduceAdd,Nat.reduceEqDiff,reduceCtorEq,zfc,zgx,zfd,zgy]
section
variable {c : Cfg} {s : Sim} {h : List Evt} {L : List (Lp × Bool)} {f hor : Int}
end
section
variable (N : Nat) (tt t0 : Int) (LM LE SE : List (List AV)) (g1 g2 : Nat) (z : Int) (lL : Nat)
end
section
variable (tt : Int) (LM LE : List (List AV)) (ss : List (List Evt)) (g1 g2 : Nat) (z : Int)
end
section
variable (LM : List (List AV)) (a b : List (List Evt))
end
set_option maxRecDepth 10000
theorem WInv.run2 {c : Cfg} {i : Nat} {O : List Evt} (hor : Int) (b0 : List Evt) : ∀ (k : Nat) {w : WSt} {S : Sim} {H : List Evt} (E : List Evt),WInv c i w O S H → H.length + k ≤ 20000 → (∃ T,(b0 ++ (w.sent ++ T)).Perm (E ++ S.pend)) →
  ∃ (S' : Sim) (es : List Evt),WInv c i (WSt.run c hor k w) O S' (H ++ es) ∧ es.length ≤ k ∧ ∃ T,(b0 ++ ((WSt.run c hor k w).sent ++ T)).Perm (E ++ (es ++ S'.pend))
 | 0,w,S,H,E,h,_,hT => ⟨S,[],by rw [List.append_nil];exact h,Nat.le_refl _,hT⟩
 | k + 1,w,S,H,E,h,hk,hT => by
  have stop : ∃ (S' : Sim) (es : List Evt),WInv c i w O S' (H ++ es) ∧ es.length ≤ k + 1 ∧ ∃ T,(b0 ++ (w.sent ++ T)).Perm (E ++ (es ++ S'.pend)):=⟨S,[],by rw [List.append_nil];exact h,Nat.zero_le _,hT⟩
  unfold WSt.run
  split
  ·exact stop
  next e rest hb =>
   split
   ·obtain ⟨h1,R,hl⟩:=h.ready (by omega) hb
    obtain ⟨T,hTt⟩:=h.sub
    have hp : S.pend.Perm (e :: (rest ++ (w.sent ++ (O ++ T)))):=by rw [hb] at hTt;exact hTt.symm
    obtain ⟨S1,g1,g2,g3⟩:=h.step2 (by omega) hb hp
    have hT1 : ∃ T,(b0 ++ ((w.step c e rest).sent ++ T)).Perm ((E ++ [e]) ++ S1.pend):=by
     obtain ⟨T0,hT0⟩:=hT
     refine ⟨T0 ++ (qba c w.lp e).out.filter (fun n => !(!decide (n.lp = e.lp))),?_⟩
     have hsn : (w.step c e rest).sent = w.sent ++ (qba c w.lp e).out.filter (fun n => !decide (n.lp = e.lp)):=qri _ _ _
     have hf:=List.filter_append_perm (fun n : Evt => !decide (n.lp = e.lp)) (qba c w.lp e).out
     rw [hsn,g3]
     refine List.perm_iff_count.2 fun a => ?_
     have q0:=hT0.count_eq a
     have q1:=hp.count_eq a
     have q2:=hf.count_eq a
     simp only [List.count_append,List.count_cons,List.count_nil] at q0 q1 q2 ⊢
     omega
    obtain ⟨S',es,k1,k2,T,k3⟩:=WInv.run2 hor b0 k (E ++ [e]) g1 (by simp;omega) hT1
    refine ⟨S',e :: es,by simpa using k1,by simp;omega,T,?_⟩
    simpa using k3
   ·exact stop
theorem StF.sent_keys {c : Cfg} {s : Sim} {h : List Evt} {L : List (Lp × Bool)} (F : StF c s h L) (hor : Int) {i : Nat} (hi : i < c.lps.length) {x : Lp} (hx : s.lps[i]? = some x) :
  qlb (s.pend ++ (WSt.run c hor 2000 ⟨x,sortL (qbq s.pend i),[],[],false⟩).sent) ∧ (s.pend ++ (WSt.run c hor 2000 ⟨x,sortL (qbq s.pend i),[],[],false⟩).sent).length ≤ 100000 ∧
   (∀ e ∈ s.pend ++ (WSt.run c hor 2000 ⟨x,sortL (qbq s.pend i),[],[],false⟩).sent,e.key.length ≤ 9223372036854775807 ∧ 0 ≤ e.lp ∧ e.lp < c.lps.length):=by
 have hlen:=F.len
 obtain ⟨S',es,W,hel,T,hT⟩:=WInv.run2 hor s.pend 2000 [] (F.winv hi hx) (by omega) ⟨[],by simp⟩
 rw [List.nil_append] at hT
 have hk:=(List.append_assoc h es S'.pend ▸ W.K.keys : qlb (h ++ (es ++ S'.pend)))
 have hk2:=(List.pairwise_append.1 hk).2.1
 have hk3:=qlb.perm hk2 hT
 have sub : (s.pend ++ (WSt.run c hor 2000 ⟨x,sortL (qbq s.pend i),[],[],false⟩).sent).Sublist (s.pend ++ ((WSt.run c hor 2000 ⟨x,sortL (qbq s.pend i),[],[],false⟩).sent ++ T)):=List.Sublist.append_left (List.sublist_append_left _ _) _
 refine ⟨List.Pairwise.sublist sub hk3,?_,fun e he => ?_⟩
 ·have h1:=sub.length_le
  have h2:=hT.length_eq
  have h3:=W.K.len
  simp only [zgp] at h1 h2 h3 ⊢
  omega
 ·have hm : e ∈ (h ++ es) ++ S'.pend:=by
   have:=hT.mem_iff.1 (sub.subset he)
   simp only [List.mem_append] at this ⊢
   rcases this with h1 | h1
   ·exact .inl (.inr h1)
   ·exact .inr h1
  have g:=W.K.ev e hm
  exact ⟨by have:=g.key;simp only [zgp] at this;omega,g.lp⟩
set_option maxHeartbeats 2000000 in
theorem q65 (c : Cfg) (a lp mo : Int) (ha : 0 ≤ a ∧ a ≤ 255) (hlp : 0 ≤ lp ∧ lp ≤ 255) (hmo : 0 ≤ mo ∧ mo ≤ 65535) : qaz (evL T) qc6 [(.agg [(.fsl ((c.lps).map lpC) false),(.fsl ((c.progs).map qcs) false),(ii c.look),(ii c.fin),(ii c.cap)]),.v (.int .u8 a),.v (.int .u8 lp),.v (.int .u16 mo)] = some (bb true):=by
 have hH:=q4y
 obtain ⟨b,hq,hqb⟩:=q7y c
 rw [qaz,qy qmp qh7]
 cases b with
 | false => simp only [qc4,hH,hq,qc0,qbd,qn,Ev.exec,qb,qe,qc,qa0,qaj,Ev.evs,Ev.Opnd.ev,Ev.Env.get,Ev.Env.set,Ev.look,qo,qh,qad,Ev.AV.cells,qx,Ev.AV.plain,qm,qab,qak,Ev.kill,qai,qd,qax,qbe,qu,qg,qf,qal,↓qs,↓reduceIte,zga,zgb,zgc,zfe,Nat.reduceAdd,Nat.reduceEqDiff,zfc,Bool.not_false,zgx,ne_eq,zfb,zff,zfd,Nat.le_refl,zgy]
 | true =>
 obtain ⟨G,l1,l8,n1,n4⟩:=hqb rfl
 obtain ⟨s,h,L,F,hS⟩:=State_ev G a ha
 have hpl:=F.plen
 have hbn : (qc7 c.lps.length s.pend).length = c.lps.length:=by simp [qc7]
 have hF:=Floor_ev (qc7 c.lps.length s.pend) false (by omega)
 have hRF:=qabw (qc7 c.lps.length s.pend) false (qpn _ _) (by omega) (by have:=F.flat.length_eq;omega)
 have hfin:=G.v.fin
 have hfb : 0 ≤ (qni (qc7 c.lps.length s.pend)).getD 0 ∧ (qni (qc7 c.lps.length s.pend)).getD 0 ≤ 1152921504606846976:=by
  cases hfl : qni (qc7 c.lps.length s.pend) with
  | none => simp
  | some f =>
   obtain ⟨fa,fb,hfb,fe,fr,rfl,hfe⟩:=qzs hfl (qpn _ _)
   have hmem : fe ∈ s.pend:=F.flat.mem_iff.1 (List.mem_flatten.2 ⟨_,hfb,by simp⟩)
   have hft:=(F.inv.ev fe (List.mem_append_right _ hmem)).time
   simp only [Option.getD_some];omega
 generalize (qni (qc7 c.lps.length s.pend)).getD 0 = f at *
 generalize (qni (qc7 c.lps.length s.pend)).isSome = fs at *
 have hHz:=q9u c f hfb (by omega) hfin
 have hRHz:=q7b c f hfb (by omega) hfin
 obtain ⟨h0,hh0,z1,z2⟩ : ∃ h0,f + qv7 c.look (c.fin - f) = h0 ∧ -1152921504606846976 ≤ h0 ∧ h0 ≤ 1152921504606846976 + 8:=by
  unfold qv7
  refine ⟨_,rfl,?_⟩
  split <;> omega
 rw [hh0] at hHz hRHz
 have wl : IntKind.i64.wrap lp = lp:=qas (by omega) (by omega)
 have wm : IntKind.i64.wrap mo = mo:=qas (by omega) (by omega)
 have m8:=Int.tmod_lt_of_pos mo (show (0 : Int) < 8 by omega)
 have m0:=Int.tmod_nonneg 8 hmo.1
 generalize hq8 : mo.tmod 8 = q at *
 have n8 : ¬ (8 : Int) = 0:=by decide
 have w1 : IntKind.i64.wrap (h0 + q) = h0 + q:=qas (by omega) (by omega)
 have w2 : IntKind.i64.wrap (f + 12) = f + 12:=qas (by omega) (by omega)
 generalize hhor : (if f + 12 < h0 + q then f + 12 else h0 + q) = hor
 obtain ⟨i,hi,hin⟩:=idx_mod lp hlp.1 n1
 obtain ⟨x,xf,hLi,hsx,hxf⟩:=F.at hin
 have hLl:=F.lL
 have W0:=F.winv hin hsx
 have hlen:=F.len
 have hP:=q9t hor (f:=xf) (cb:=false) W0 hxf (by omega)
 have hA:=RAll_ev hor (f:=xf) (cb:=false) W0 hxf (by omega)
 obtain ⟨S',es,WI,hd,_,hel⟩:=WInv.run hor 2000 W0 (by omega)
 obtain ⟨sk,sl,sx⟩:=F.sent_keys hor hin hsx
 generalize WSt.run c hor 2000 ⟨x,sortL (qbq s.pend i),[],[],false⟩ = w at *
 have hwl:=WI.len
 rw [List.length_append] at hwl
 have kb : ∀ e ∈ w.box,e.key.length ≤ 9223372036854775807:=fun e he => by have:=WI.keyLen (e:=e) (.inl he);simp at this;omega
 have ks : ∀ e ∈ w.sent,e.key.length ≤ 9223372036854775807:=fun e he => (sx e (List.mem_append_right _ he)).1
 have kd : ∀ e ∈ w.done,e.key.length ≤ 9223372036854775807:=fun e he => by
  rw [hd] at he;simp only [zgl] at he
  have h1:=(WI.K.ev e (List.mem_append_left _ (List.mem_append_right _ he))).key
  simp at h1;omega
 have dl : w.done.length ≤ 2000:=by rw [hd];simpa using hel
 have hshort : w.lp.Short:=by
  have:=WI.K.lp w.lp (List.mem_of_getElem? WI.lp)
  exact ⟨by have:=this.1;omega,fun q hq => by have:=(this.2 q hq).2.2.2.2;simp at this;omega⟩
 have hLP:=q9i w.lp w.lp xf xf hshort hshort
 have hE2:=qod w.box w.box false false (by omega) (by omega) kb kb
 have hE3:=qod w.done w.done false false (by omega) (by omega) kd kd
 have hE4:=qod w.sent w.sent false false (by omega) (by omega) ks ks
 rw [decide_eq_true rfl] at hLP hE2 hE3 hE4
 -- the mailboxes out of one list
 have hbi:=qd0 (qbq s.pend i)
 have hsub : ∀ e ∈ sortL (qbq s.pend i) ++ w.sent,e ∈ s.pend ++ w.sent:=fun e he => by
  rcases List.mem_append.1 he with he | he
  ·exact List.mem_append_left _ (List.mem_filter.1 (hbi.mem_iff.1 he)).1
  ·exact List.mem_append_right _ he
 have hxk : qlb (sortL (qbq s.pend i) ++ w.sent):=qlb.perm (List.Pairwise.sublist (List.Sublist.append_right (List.filter_sublist) w.sent) sk) (hbi.append_right _)
 have hxl : (sortL (qbq s.pend i) ++ w.sent).length ≤ 1000000:=by
  rw [List.length_append,ql3];have:=List.length_filter_le (fun e : Evt => decide (e.lp = i)) s.pend;unfold qbq;omega
 have hn8 : c.lps.length ≤ 8:=by omega
 have hB1:=Boxes_ev c.lps.length hn8 (sortL (qbq s.pend i) ++ w.sent) false hxl (fun e he => (sx e (hsub e he)).1) hxk.dist (fun e he => (sx e (hsub e he)).2)
 have hB2:=q5x (sortL (qbq s.pend i) ++ w.sent) false c.lps.length hn8 hxl (fun e he => (sx e (hsub e he)).1) hxk.dist
 have bxl : (qc7 c.lps.length (sortL (qbq s.pend i) ++ w.sent)).length = c.lps.length:=by simp [qc7]
 have bxm : ∀ y ∈ qc7 c.lps.length (sortL (qbq s.pend i) ++ w.sent),y.length ≤ 1000000 ∧ ∀ e ∈ y,e.key.length ≤ 9223372036854775807:=fun y hy => by
  simp only [qc7,List.mem_map] at hy
  obtain ⟨j,_,rfl⟩:=hy
  refine ⟨?_,fun e he => (sx e (hsub e (List.mem_filter.1 ((qd0 _).mem_iff.1 he)).1)).1⟩
  rw [ql3];unfold qbq
  have:=List.length_filter_le (fun e : Evt => decide (e.lp = j)) (sortL (qbq s.pend i) ++ w.sent)
  unfold qbq at this hxl;omega
 have hSB1:=qxs _ false false (by omega : (qc7 c.lps.length (sortL (qbq s.pend i) ++ w.sent)).length ≤ 1000000) (fun y hy => (bxm y hy).1) (fun y hy => (bxm y hy).2)
 -- delivering
 have hfs : [w.sent].flatten = w.sent:=by simp
 have hdd : ∀ j b,(qc7 c.lps.length s.pend)[j]? = some b → qr1 (b ++ qbq [w.sent].flatten j):=fun j b hb => by
  rw [hfs]
  have h1 : qlb ((qc7 c.lps.length s.pend).flatten ++ w.sent):=qlb.perm sk (F.flat.append_right _)
  exact qlb.dist (List.Pairwise.sublist (List.Sublist.append (List.sublist_flatten_of_mem (List.mem_of_getElem? hb)) List.filter_sublist) h1)
 have hDl : ((qc7 c.lps.length s.pend).flatten ++ [w.sent].flatten).length ≤ 1000000:=by
  rw [hfs,List.length_append,F.flat.length_eq];simp only [zgp] at sl;omega
 have hDk : qcj ((qc7 c.lps.length s.pend).flatten ++ [w.sent].flatten):=fun e he => by
  rw [hfs] at he
  rcases List.mem_append.1 he with he | he
  ·exact F.keysOk e (F.flat.mem_iff.1 he)
  ·exact ks e he
 have hDr : ∀ e ∈ [w.sent].flatten,0 ≤ e.lp ∧ e.lp < ((qc7 c.lps.length s.pend).length : Int):=fun e he => by
  rw [hfs] at he;rw [hbn];exact (sx e (List.mem_append_right _ he)).2
 have hD1:=q4h (qc7 c.lps.length s.pend) [w.sent] false true (by omega) (by simp) hDl hDk (qpn _ _) hdd hDr
 have hD2:=q7e (qc7 c.lps.length s.pend) [w.sent] true false (by omega) (by omega) (by simp) hDl hDk (qpn _ _) hdd hDr
 have dvl : (qbu (qc7 c.lps.length s.pend) [w.sent].flatten).length = c.lps.length:=by unfold qbu;rw [List.length_mapIdx];exact hbn
 have dvm : ∀ y ∈ qbu (qc7 c.lps.length s.pend) [w.sent].flatten,y.length ≤ 1000000 ∧ ∀ e ∈ y,e.key.length ≤ 9223372036854775807:=fun y hy => by
  simp only [qbu,List.mem_mapIdx] at hy
  obtain ⟨j,hj,rfl⟩:=hy
  have hm : (qc7 c.lps.length s.pend)[j] ∈ qc7 c.lps.length s.pend:=List.getElem_mem _
  have h1:=(List.sublist_flatten_of_mem hm).length_le
  have h2:=List.length_filter_le (fun e : Evt => decide (e.lp = j)) [w.sent].flatten
  refine ⟨?_,fun e he => ?_⟩
  ·rw [ql3,List.length_append]
   rw [List.length_append] at hDl
   unfold qbq;omega
  ·refine hDk e ?_
   rcases List.mem_append.1 ((qd0 _).mem_iff.1 he) with he | he
   ·exact List.mem_append_left _ (List.mem_flatten.2 ⟨_,hm,he⟩)
   ·exact List.mem_append_right _ (List.mem_filter.1 he).1
 have hSB2:=qxs _ false false (by omega : (qbu (qc7 c.lps.length s.pend) [w.sent].flatten).length ≤ 1000000) (fun y hy => (dvm y hy).1) (fun y hy => (dvm y hy).2)
 have hLm : (L.map lpF)[i]? = some (lpF (x,xf)):=by rw [List.getElem?_map,hLi];rfl
 have hBm : ((qc7 c.lps.length s.pend).map qbc)[i]? = some (qbc (sortL (qbq s.pend i))):=by rw [List.getElem?_map,qac1 _ _ hin];rfl
 have nz : ¬ (c.lps.length : Int) = 0:=by omega
 have lo1:=fun n => qt8 n L
 have lo2:=fun n => qdk n (qc7 c.lps.length s.pend)
 have lo3 : ∀ n,qhl n ((sortL (qbq s.pend i)).map Evt.r) = true:=fun n => qv _ _
 have lo4 : ∀ n,qhl n ((sortL (qbq s.pend i)).map Evt.r ++ w.sent.map Evt.r) = true:=fun n => by rw [← List.map_append];exact qv _ _
 have lo5:=fun n => qdk n (qc7 c.lps.length (sortL (qbq s.pend i) ++ w.sent))
 have lo6:=fun n => qdk n (qbu (qc7 c.lps.length s.pend) [w.sent].flatten)
 have hlm : (L.map lpF).length = c.lps.length:=by rw [List.length_map];exact hLl
 have hi0 : (0 : Int) ≤ i:=by omega
 have ok1:=qem (sortL (qbq s.pend i))
 have ok2:=qem w.sent
 have bl : (sortL (qbq s.pend i)).length ≤ 1000000:=by rw [List.length_append] at hxl;omega
 have bd1 : (sortL (qbq s.pend i)).length * 64 ≤ 140737488355328:=by omega
 have bd2 : ((sortL (qbq s.pend i)).length + w.sent.length) * 64 ≤ 140737488355328:=by omega
 have t1 : List.take (sortL (qbq s.pend i)).length ((sortL (qbq s.pend i)).map Evt.r) = (sortL (qbq s.pend i)).map Evt.r:=List.take_of_length_le (by simp)
 have t2 : List.take ((sortL (qbq s.pend i)).length + w.sent.length) ((sortL (qbq s.pend i)).map Evt.r ++ w.sent.map Evt.r) = (sortL (qbq s.pend i)).map Evt.r ++ w.sent.map Evt.r:=List.take_of_length_le (by simp)
 have hle : ∀ n : Nat,n ≤ n:=fun n => Nat.le_refl n
 rw [List.map_append] at hB1 hB2
 simp only [List.map_cons,List.map_nil,qbc] at hD1 hD2
 clear dvm hDr hDk hDl hdd bxm hxl hxk hsub hbi sk sx WI W0 F
 generalize (qbu (qc7 c.lps.length s.pend) [w.sent].flatten).map qbc = DM at *
 generalize (qc7 c.lps.length (sortL (qbq s.pend i) ++ w.sent)).map qbc = XM at *
 generalize (qc7 c.lps.length s.pend).map qbc = BM at *
 generalize sortL (qbq s.pend i) = bi at *
 generalize L.map lpF = LM at *
 simp only [lpF] at hLm
 simp only [qbc] at hBm
 have fsf : ∀ b : Bool,(!(b == b)) = false:=fun b => by cases b <;> rfl
 by_cases s0 : w.sent = []
 ·simp only [s0,List.map_nil,zgn,zgb,Nat.add_zero] at *
  cases hvo : w.over <;> cases hfs' : fs <;> simp only [hvo,hfs'] at hP hA hF hRF <;> simp only [qc4,hH,hq,hS,hF,hRF,hHz,hRHz,wl,wm,hq8,n8,w1,w2,hhor,hi,nz,hlm,hLm,hBm,hP,hA,hLP,hE2,hE3,hE4,ok1,bd1,t1,hle,hB1,hB2,hSB1,hSB2,hD1,hD2,lo2,lo3,lo5,lo6,hi0,zgr,qv,qc0,qbd,qap,qn,Ev.exec,qb,qe,qc,qa0,qaj,qnz,qzt,Ev.evs,Ev.Opnd.ev,Ev.Env.get,Ev.Env.set,Ev.look,qo,qh,qbs,qad,qfl,Ev.AV.cells,Ev.AV.uc,qx,Ev.AV.plain,qaf,q7z,qbn,qm,qab,qak,Ev.kill,qai,qd,qax,qbe,qu,qg,qf,qaa,qag,qbh,qal,List.replicate_one,List.replicate_zero,zgi,↓qs,↓reduceIte,zga,zgb,zgd,zge,zgc,zgo,zfe,zgf,zgg,List.drop_nil,zgm,zgl,zgn,zgj,zgk,zgh,Nat.reduceAdd,Nat.reduceEqDiff,Nat.reduceMul,Nat.reduceLT,Nat.reduceLeDiff,Nat.reducePow,reduceCtorEq,zgw,zfc,Bool.not_true,zfa,zgx,ne_eq,zfb,not_true_eq_false,zff,zfd,Nat.add_zero,zgu,zgy,beq_self_eq_true,and_false]
  all_goals done
 ·have s1 : ¬ w.sent.map Evt.r = []:=by simpa using s0
  cases hvo : w.over <;> cases hfs' : fs <;> simp only [hvo,hfs'] at hP hA hF hRF <;> simp only [qc4,hH,hq,hS,hF,hRF,hHz,hRHz,wl,wm,hq8,n8,w1,w2,hhor,hi,nz,hlm,hLm,hBm,hP,hA,hLP,hE2,hE3,hE4,s1,ok1,ok2,bd1,bd2,t1,t2,hle,hB1,hB2,hSB1,hSB2,hD1,hD2,lo2,lo3,lo4,lo5,lo6,hi0,zgr,qv,qc0,qbd,qap,qn,Ev.exec,qb,qe,qc,qa0,qaj,qnz,qzt,Ev.evs,Ev.Opnd.ev,Ev.Env.get,Ev.Env.set,Ev.look,qo,qh,qbs,qad,qfl,Ev.AV.cells,Ev.AV.uc,qx,Ev.AV.plain,qaf,q7z,qbn,qm,qab,qak,Ev.kill,qai,qd,qax,qbe,qu,qg,qf,qaa,qag,qal,List.replicate_one,List.replicate_zero,zgi,↓qs,↓reduceIte,zga,zgb,zgp,zgd,zge,zgc,zgo,zfe,zgf,zgg,List.drop_nil,zgm,zgl,zgn,zgj,zgk,zgh,Nat.reduceAdd,Nat.reduceEqDiff,Nat.reduceMul,Nat.reduceLT,Nat.reduceLeDiff,Nat.reducePow,reduceCtorEq,zgw,zfc,Bool.not_true,zfa,zgx,ne_eq,zfb,not_true_eq_false,zff,zfd,Nat.add_zero,zgu,zgy,beq_self_eq_true,and_false]
  all_goals done
end Go.Proofs.YtbhhifdhlafklaaGreat.K
namespace Go.Ev
def Ctx.nil : Ctx:={ n:=0,loc:=fun _ => ⟨0,0,0,0⟩,own:=fun _ => False,far:=fun _ => False }
theorem SR.nil (P : Program) (w : World) : SR P Ctx.nil [] w where
 len:=rfl
 obj o ob h:=by simp at h
 blk o h:=absurd h (Nat.not_lt_zero _)
 inj o o' h:=absurd h (Nat.not_lt_zero _)
 ownlt b h:=h.elim
 farlt b h:=h.elim
 sep b h:=h.elim
section
variable (P : Program) {H : Type} (enc : TypeId × Value → H)
def qld (t : TypeId) {τ : Type} (c : τ → List AV) (ok : τ → Prop) : Prop :=
 ∀ (w : World) (fuel : Nat) (cs : List Value) (d : DataW H) (ps : List MemPlace),DataW.trod enc P w 0 (fun _ => true) true fuel t cs = some (d,ps) → ∃ x : τ,ok x ∧ VRs Ctx.nil w (c x) cs
variable {P enc}
theorem VRs.one {Γ : Ctx} {w : World} {a : AV} {v : Value} (h : VR Γ w a v) : VRs Γ w [a] [v]:=by
 simp only [VRs];exact ⟨v,[],rfl,h,rfl⟩
theorem qwh {t : TypeId} {k : IntKind} (hu : P.underlying t = some (.int k)) : qld P enc t (fun n : Int => [.v (.int k n)]) (fun n => (Lit.int k n).wf = true):=by
 intro w fuel cs d ps h
 cases fuel with
 | zero => simp [DataW.trod] at h
 | succ fuel =>
  unfold DataW.trod at h
  rw [hu] at h
  split at h <;> rename_i heq <;> first | (cases heq;done) | (cases h;done) | skip
  cases heq
  split at h
  ·rename_i hk
   obtain ⟨rfl,hwf⟩:=hk
   exact ⟨_,hwf,VRs.one (by simp only [VR])⟩
  ·cases h
variable (P enc) in
def qvs (off : Nat) (fs : List Field) {τ : Type} (c : τ → List AV) (ok : τ → Prop) (tot : Nat) : Prop :=
 ∀ (w : World) (fuel : Nat) (cs : List Value),(∀ (i : Nat) (f : Field),fs[i]? = some f → ∃ x,DataW.trod enc P w 0 (fun _ => true) true fuel f.type ((cs.drop f.offset).take (P.cellsOf f.type)) = some x) →
  ∃ x : τ,ok x ∧ VRs Ctx.nil w (c x) ((cs.drop off).take tot)
theorem qsb (off : Nat) : qvs P enc off [] (fun _ : Unit => []) (fun _ => True) 0:=fun w fuel cs _ => ⟨(),trivial,by simp [VRs]⟩
theorem qfp {off : Nat} {f : Field} {fs : List Field} {α β : Type} {c1 : α → List AV} {ok1 : α → Prop} {c2 : β → List AV} {ok2 : β → Prop} {tot : Nat} {sz : Nat} (ho : f.offset = off) (hs : P.cellsOf f.type = sz)
  (h1 : qld P enc f.type c1 ok1) (h2 : qvs P enc (off + sz) fs c2 ok2 tot) : qvs P enc off (f :: fs) (fun x : α × β => c1 x.1 ++ c2 x.2) (fun x => ok1 x.1 ∧ ok2 x.2) (sz + tot):=by
 intro w fuel cs h
 obtain ⟨⟨d,ps⟩,h3⟩:=h 0 f rfl
 obtain ⟨x,k1,k2⟩:=h1 w fuel _ d ps h3
 obtain ⟨y,k3,k4⟩:=h2 w fuel cs fun i g hg => h (i + 1) g (by simpa using hg)
 refine ⟨(x,y),⟨k1,k3⟩,?_⟩
 rw [List.take_add,List.drop_drop]
 rw [ho,hs] at k2
 exact k2.append k4
theorem q4m {t : TypeId} {fs : Array Field} {τ : Type} {c : τ → List AV} {ok : τ → Prop} (hu : P.underlying t = some (.struct fs)) (h : qvs P enc 0 fs.toList c ok (P.cellsOf t)) : qld P enc t c ok:=by
 intro w fuel cs d ps ht
 obtain ⟨xs,n,rfl,_,hl,hx,hall⟩:=DataW.trod_struct hu ht
 obtain ⟨x,k1,k2⟩:=h w n cs fun i f hf => by
  have hf' : fs[i]? = some f:=by simpa using hf
  have:=hall i f hf'
  have hlt : i < xs.length:=by rw [hx];exact (Array.getElem?_eq_some_iff.1 hf').1
  exact ⟨xs[i],by rw [this,List.getElem?_eq_getElem hlt]⟩
 refine ⟨x,k1,?_⟩
 rw [List.drop_zero,← hl,List.take_length] at k2
 exact k2
theorem qpy {t : TypeId} {fs : Array Field} {τ : Type} {c : τ → List AV} {ok : τ → Prop} {n : Nat} (hu : P.underlying t = some (.struct fs)) (h : qvs P enc 0 fs.toList c ok n) (hn : P.cellsOf t = n) : qld P enc t c ok:=q4m hu (by rw [hn];exact h)
theorem qld.map {t : TypeId} {α β : Type} {c : α → List AV} {ok : α → Prop} {c' : β → List AV} {ok' : β → Prop} (g : α → β) (h : qld P enc t c ok) (hc : ∀ x,c' (g x) = c x) (ho : ∀ x,ok x → ok' (g x)) : qld P enc t c' ok':=by
 intro w fuel cs d ps ht
 obtain ⟨x,h1,h2⟩:=h w fuel cs d ps ht
 exact ⟨g x,ho x h1,by rw [hc];exact h2⟩
theorem qzp {τ : Type} {Q : Nat → τ → Prop} : ∀ (n : Nat),(∀ i,i < n → ∃ x,Q i x) → ∃ xs : List τ,xs.length = n ∧ ∀ (i : Nat) (x : τ),xs[i]? = some x → Q i x
 | 0,_ => ⟨[],rfl,by simp⟩
 | n + 1,h => by
  obtain ⟨xs,h1,h2⟩:=qzp n fun i hi => h i (by omega)
  obtain ⟨x,hx⟩:=h n (by omega)
  refine ⟨xs ++ [x],by simp [h1],fun i y hy => ?_⟩
  rw [List.getElem?_append] at hy
  split at hy
  ·exact h2 i y hy
  ·rename_i hi
   have hlt : i - xs.length < 1:=by
    have:=(List.getElem?_eq_some_iff.1 hy).1
    simpa using this
   have : i = n:=by omega
   subst this
   rw [h1,Nat.sub_self] at hy
   simp at hy;subst hy;exact hx
theorem q5q {Γ : Ctx} {w : World} {sz : Nat} {τ : Type} {c : τ → List AV} : ∀ (xs : List τ) (get : Nat → Option Value),(∀ (i : Nat) (x : τ),xs[i]? = some x → qaq Γ w (c x) (fun j => get (j + i * sz))) → qgl Γ w sz (xs.map c) get
 | [],_,_ => by simp [qgl]
 | x :: xs,get,h => by
  simp only [List.map_cons,qgl]
  refine ⟨by simpa using h 0 x (by simp),q5q xs _ fun i y hy => ?_⟩
  refine (h (i + 1) y (by simpa using hy)).congr fun j => ?_
  congr 1
  rw [Nat.add_mul];omega
theorem qpo {t e : TypeId} {sz : Nat} {τ : Type} {c : τ → List AV} {ok : τ → Prop} (hu : P.underlying t = some (.slice e)) (hs : P.cellsOf e = sz) (h0 : 0 < sz) (hc : ∀ x,(c x).length = sz) (h : qld P enc e c ok) :
  qld P enc t (fun xs : List τ => [.fsl (xs.map c) false]) (fun xs => (∀ x ∈ xs,ok x) ∧ xs.length ≤ maxLen):=by
 intro w fuel cs d ps ht
 rcases DataW.trod_slice hu ht with ⟨rfl,_⟩ | ⟨a,len,cap,elems,rest,n,rfl,rfl,_,_,hle,hcap,hel,hall,_⟩
 ·refine ⟨[],by simp,VRs.one ?_⟩
  simp only [VR]
  exact ⟨none,0,rfl,by simp,fun h => (by cases h),.inl rfl⟩
 ·have hex : ∀ i,i < len → ∃ x : τ,ok x ∧ ∃ vs,w.cells? 0 (a.add (i * sz)) sz = some vs ∧ VRs Ctx.nil w (c x) vs:=by
   intro i hi
   have hb:=hall i hi
   rw [List.getElem?_eq_getElem (by omega),Option.bind_eq_some_iff] at hb
   obtain ⟨vs,k1,k2⟩:=hb
   obtain ⟨x,k3,k4⟩:=h w n vs _ _ k2
   rw [hs] at k1
   exact ⟨x,k3,vs,k1,k4⟩
  obtain ⟨xs,h4,h5⟩:=qzp (Q:=fun i x => ok x ∧ ∃ vs,w.cells? 0 (a.add (i * sz)) sz = some vs ∧ VRs Ctx.nil w (c x) vs) len hex
  refine ⟨xs,⟨fun x hx => ?_,by omega⟩,VRs.one ?_⟩
  ·obtain ⟨i,hi,rfl⟩:=List.mem_iff_getElem.1 hx
   exact (h5 i _ (by simp [hi])).1
  ·simp only [VR]
   refine ⟨some a,cap,by simp [h4],by simp [h4];omega,fun h => (by cases h),?_⟩
   by_cases hx0 : xs = []
   ·left;simp [hx0]
   ·right
    have hlen0 : 0 < xs.length:=List.length_pos_iff.2 hx0
    have hcell : ∀ (i : Nat) (x : τ),xs[i]? = some x → ∀ j,j < sz → ∃ v,w.cell? ((a.add (i * sz)).add j) = some v:=by
     intro i x hx j hj
     obtain ⟨_,vs,k1,k2⟩:=h5 i x hx
     obtain ⟨_,k3,k4⟩:=World.cells?_some k1
     exact ⟨vs[j]'(by omega),by rw [k4 j hj,List.getElem?_eq_getElem (by omega)]⟩
    obtain ⟨v0,hv0⟩:=hcell 0 xs[0] (by simp [hlen0]) 0 h0
    obtain ⟨b,off,spot⟩:=a
    have hspot : spot = none:=by simpa [Addr.add] using World.cell?_spot hv0
    subst hspot
    have hblt : b < w.heap.size:=by
     rw [Addr.add_lit,Addr.add_lit] at hv0
     unfold World.cell? at hv0
     cases hh : w.heap[b]? with
     | none => rw [hh] at hv0;simp at hv0
     | some o => exact (Array.getElem?_eq_some_iff.1 hh).1
    refine ⟨b,off,sz,rfl,⟨hblt,id,id⟩,h0,?_,?_⟩
    ·intro e he
     obtain ⟨x,_,rfl⟩:=List.mem_map.1 he
     exact hc x
    ·refine q5q xs _ fun i x hx => ?_
     obtain ⟨_,vs,k1,k2⟩:=h5 i x hx
     obtain ⟨_,k3,k4⟩:=World.cells?_some k1
     refine qaq.of_list k2 fun j v hj => ?_
     have hjl:=(List.getElem?_eq_some_iff.1 hj).1
     have:=k4 j (by omega)
     rw [hj,Addr.add_lit,Addr.add_lit] at this
     rw [← this]
     congr 2
     omega
end
end Go.Ev
namespace Go.Ev
open Go.RowKit (Below)
open Go.ChangeShapes Go.WideShapes Go.ChangeAt Go.RowKit
variable {H : Type} {enc : TypeId × Value → H} {P : Program}
theorem Ext.below {w w' : World} {Γ' : Ctx} (x : Ext Ctx.nil Γ' w w') : Below w.heap.size w w':=⟨x.os,x.tape,x.output,x.size,fun k hk => x.same k hk id⟩
theorem qvw (hl : laidOutB P = true) {w w' : World} (hb : Below w.heap.size w w') {sp : Nat → Bool} : ∀ {ts : List TypeId} {vs : List Value} {ds : List (DataW H)} {ps : List MemPlace},
  (∀ t ∈ ts,P.readableRec t = true ∧ t < P.types.size) → DataW.TrodAll enc P w 0 (fun _ => true) true ts vs ds ps → (∀ p ∈ ps,p.block < w.heap.size) → (∀ p ∈ ps,sp p.block = true) → DataW.TrodAll enc P w' 0 sp true ts vs ds ps
 | [],[],[],ps,_,h,_,_ => h
 | t :: ts,v :: vs,d :: ds,ps,ht,⟨p,q,h1,h2,e⟩,hlt,hs => by
  subst e
  obtain ⟨r1,r2⟩:=ht t (by simp)
  exact ⟨p,q,WideElems.Trod_stays hl r1 r2 h1 (fun x hx => hb.same (hlt x (List.mem_append_left _ hx))) (fun x hx => hs x (List.mem_append_left _ hx)),
   qvw hl hb (fun u hu => ht u (by simp [hu])) h2 (fun x hx => hlt x (List.mem_append_right _ hx)) (fun x hx => hs x (List.mem_append_right _ hx)),rfl⟩
 | [],_ :: _,_,_,_,h,_,_ => h.elim
 | [],[],_ :: _,_,_,h,_,_ => h.elim
 | _ :: _,[],_,_,_,h,_,_ => h.elim
 | _ :: _,_ :: _,[],_,_,h,_,_ => h.elim
theorem frz_bool {σ : qac} {d : Nat} {a : AV} {b : Bool} : frz σ (d + 1) a = some (.v (.bool b)) → a = .v (.bool b):=by
 intro h
 simp only [frz] at h
 split at h
 ·cases h;rfl
 ·cases a with
  | v x => cases h;rfl
  | sl o g off len c =>
   simp only at h
   split at h
   ·split at h
    ·rw [Option.bind_eq_some_iff] at h;obtain ⟨_,_,h⟩:=h;cases h
    ·cases h
   ·cases h
  | ptr o g i off =>
   simp only at h
   split at h
   ·split at h
    ·rw [Option.bind_eq_some_iff] at h;obtain ⟨_,_,h⟩:=h
     rw [Option.bind_eq_some_iff] at h;obtain ⟨_,_,h⟩:=h;cases h
    ·cases h
   ·cases h
  | agg cs => simp only [Option.bind_eq_some_iff] at h;obtain ⟨_,_,h⟩:=h;cases h
  | tup cs => simp only [Option.bind_eq_some_iff] at h;obtain ⟨_,_,h⟩:=h;cases h
  | fsl es c => simp only [Option.bind_eq_some_iff] at h;obtain ⟨_,_,h⟩:=h;cases h
  | fptr cs => simp only [Option.bind_eq_some_iff] at h;obtain ⟨_,_,h⟩:=h;cases h
  | fn f a b => simp only [Option.bind_eq_some_iff] at h;obtain ⟨_,_,_,_,h⟩:=h;cases h
  | yld o => cases h
  | mp o => cases h
theorem qaat {T : Tab} (hT : TabOk P T) {f : Nat} {cf : CFunc} (hc : T.code f = some cf) {as_ : List AV} {b : Bool} (h : qaz (evL T) f as_ = some (.v (.bool b))) {W : World} {args : Array Value} (hv : VRs Ctx.nil W as_ args.toList) :
  Calls P f args W fun e W' => e = .returned (.bool b) ∧ Below W.heap.size W W':=by
 unfold qaz at h
 rw [Option.bind_eq_some_iff] at h
 obtain ⟨⟨r,σ⟩,h1,h2⟩:=h
 obtain rfl:=frz_bool (d:=5) h2
 have hn:=evL_ok hT f as_ [] _ σ h1 Ctx.nil W args.toList (SR.nil P W) hv
 rw [Array.toArray_toList,hT.enter hc] at hn
 refine (callsIn_wide.1 hn).mono fun e W' he => ?_
 cases e with
 | returned v =>
  obtain ⟨Γ',k1,_,k3⟩:=he
  simp only [VR] at k1
  exact ⟨by rw [k1],k3.below⟩
 | panicked _ => exact he.elim
 | outgrown => exact he.elim
theorem q6j {f : Func} {s : ChangeSpec} {apart fresh handsOn again : Bool} {W W' : World} {args : Array Value} {ds gs : List (DataW H)} {before : List MemPlace} {tb : TypeId}
  (hvars : s.vars = []) (hspec : s.fn H (ds ++ gs) = { results:=[.lit (.bool true)],args:=ds }) (hr : f.resultTypes = #[tb]) (htb : P.underlying tb = some .bool) (hl : laidOutB P = true)
  (hts : ∀ t ∈ f.params.toList,P.readableRec t = true ∧ t < P.types.size)
  (hW : DataW.Whole enc P f.params.toList s.vars apart W args.toList ds gs before) (hb : Below W.heap.size W W') : s.post enc P f apart fresh handsOn again W args (.bool true) W':=by
 have hlt:=hW.lt
 have hW':=hW
 obtain ⟨p,q,hA,hV,rfl,hz,hnd⟩:=hW
 rw [hvars] at hV
 obtain ⟨rfl,rfl⟩:=trodVars_none hV
 have hargs : ∀ sp : Nat → Bool,(∀ x ∈ p,sp x.block = true) → DataW.TrodAll enc P W' 0 sp true f.params.toList args.toList ds p:=fun sp hs => qvw hl hb hts hA (fun x hx => hlt x (by simp [hx])) hs
 have hres : ∀ (bb : Nat) (sp : Nat → Bool) (hd : Bool),DataW.TrodAll enc P W' bb sp hd f.resultTypes.toList ((Value.bool true).resultList f.resultTypes.size) [.lit (.bool true)] []:=fun bb sp hd => by
  rw [hr]
  exact trodAll_mk1 (shut_bool htb true)
 refine ⟨ds,[],p ++ [],[],p,[],hW',?_,?_,?_,hb.frame _,fun _ => ⟨?_,?_⟩⟩
 ·rw [hspec];exact hres _ _ _
 ·rw [hspec];exact hargs _ fun x hx => by simpa using hlt x (by simp [hx])
 ·rw [hspec,hvars];rfl
 ·exact ok_one hr rfl (okWide_bool_mk htb true)
 ·refine ⟨[.lit (.bool true)] ++ ds,[],([] ++ p) ++ [],⟨[] ++ p,[],trodAll_append (hargs _ (fun _ _ => rfl)) (hres _ _ _),by rw [hvars];rfl,rfl,?_,?_⟩,?_⟩
  ·intro b off hp
   have hp' : MemPlace.cell b off ∈ p:=by simpa using hp
   have hblt : b < W.heap.size:=hlt (.cell b off) (by simp [hp'])
   rw [hb.frozen (p:=⟨b,off,none⟩) hblt]
   exact hz b off (by simp [hp'])
  ·intro ha
   simpa using hnd ha
  ·intro x hx _
   simpa using hx
end Go.Ev
namespace Go.Ev
open Go.RowKit (Below)
open Go.ChangeShapes Go.WideShapes Go.ChangeAt Go.RowKit
section
variable {H : Type} (P : Program) (enc : TypeId × Value → H)
def q3x (ts : List TypeId) {τ : Type} (c : τ → List AV) (ok : τ → Prop) : Prop :=
 ∀ (W : World) (args : List Value) (ds : List (DataW H)) (p : List MemPlace),DataW.TrodAll enc P W 0 (fun _ => true) true ts args ds p →
  (∀ (j : Nat) t v,ts[j]? = some t → args[j]? = some v → ∃ base,Value.okWide P W .any base t v) → ∃ x : τ,ok x ∧ VRs Ctx.nil W (c x) args ∧ ds.length = ts.length
variable {P enc}
def qab0 : TypeDesc → Bool
 | .struct _ => false
 | .array _ _ => false
 | _ => true
theorem q5s {w : World} {r : Reach} {base : Nat} {t : TypeId} {v : Value} {u : TypeDesc} (hu : P.underlying t = some u) (hp : qab0 u = true) (h : Value.okWide P w r base t v) : ∀ cs,v ≠ .agg cs:=by
 rintro cs rfl
 unfold Value.okWide at h
 rw [hu] at h
 cases u <;> simp only [qab0,Bool.false_eq_true] at hp <;> simp only [Cell.okWide,Cell.ok,hu] at h
theorem qaac : q3x P enc [] (fun _ : Unit => []) (fun _ => True):=by
 intro W args ds p h _
 obtain ⟨rfl,rfl,rfl⟩:=trodAll_nil h
 exact ⟨(),trivial,by simp [VRs],rfl⟩
theorem quy {t : TypeId} {ts : List TypeId} {u : TypeDesc} {α β : Type} {a : α → AV} {ok1 : α → Prop} {c2 : β → List AV} {ok2 : β → Prop} (hu : P.underlying t = some u) (hp : qab0 u = true)
  (h1 : qld P enc t (fun x => [a x]) ok1) (h2 : q3x P enc ts c2 ok2) : q3x P enc (t :: ts) (fun x : α × β => a x.1 :: c2 x.2) (fun x => ok1 x.1 ∧ ok2 x.2):=by
 intro W args ds p h hval
 obtain ⟨v,vs,d,ds',p,q,rfl,rfl,rfl,ht,hr⟩:=trodAll_cons h
 obtain ⟨y,k1,k2,k3⟩:=h2 W vs ds' q hr fun j t v e1 e2 => hval (j + 1) t v (by simpa using e1) (by simpa using e2)
 obtain ⟨fuel,hf⟩:=ht
 obtain ⟨x,m1,m2⟩:=h1 W fuel _ d p hf
 obtain ⟨base,hv⟩:=hval 0 t v rfl rfl
 have hna:=q5s hu hp hv
 have hc : v.cells.toList = [v]:=by
  cases v with
  | agg cs => exact absurd rfl (hna cs)
  | _ => rfl
 rw [hc] at m2
 simp only [VRs] at m2
 obtain ⟨v',r,e,m3,rfl⟩:=m2
 cases e
 refine ⟨(x,y),⟨m1,k1⟩,?_,by simp [k3]⟩
 simp only [VRs]
 exact ⟨v,vs,rfl,m3,k2⟩
theorem q4n {t : TypeId} {ts : List TypeId} {fs : Array Field} {α β : Type} {c1 : α → List AV} {ok1 : α → Prop} {c2 : β → List AV} {ok2 : β → Prop} (hu : P.underlying t = some (.struct fs))
  (h1 : qld P enc t c1 ok1) (h2 : q3x P enc ts c2 ok2) : q3x P enc (t :: ts) (fun x : α × β => .agg (c1 x.1) :: c2 x.2) (fun x => ok1 x.1 ∧ ok2 x.2):=by
 intro W args ds p h hval
 obtain ⟨v,vs,d,ds',p,q,rfl,rfl,rfl,ht,hr⟩:=trodAll_cons h
 obtain ⟨y,k1,k2,k3⟩:=h2 W vs ds' q hr fun j t v e1 e2 => hval (j + 1) t v (by simpa using e1) (by simpa using e2)
 obtain ⟨fuel,hf⟩:=ht
 obtain ⟨x,m1,m2⟩:=h1 W fuel _ d p hf
 obtain ⟨base,hv⟩:=hval 0 t v rfl rfl
 obtain ⟨cs,rfl,_⟩:=okWide_struct hu hv
 refine ⟨(x,y),⟨m1,k1⟩,?_,by simp [k3]⟩
 simp only [VRs]
 refine ⟨_,vs,rfl,?_,k2⟩
 simp only [VR]
 exact ⟨cs.toList,by simp,by simpa [Value.cells] using m2⟩
end
theorem q76 {H : Type} {enc : TypeId × Value → H} {P : Program} {T : Tab} (hT : TabOk P T) {f : Nat} {fn : Func} {cf : CFunc} (hc : T.code f = some cf) {s : ChangeSpec} {apart : Bool} {ts : List TypeId} {tb : TypeId} {τ : Type} {c : τ → List AV} {ok : τ → Prop}
  (hpar : fn.params.toList = ts) (hargs : q3x P enc ts c ok) (hlaw : ∀ x,ok x → qaz (evL T) f (c x) = some (.v (.bool true)))
  (hvars : s.vars = []) (hspec : ∀ ds : List (DataW H),ds.length = ts.length → s.fn H ds = { results:=[.lit (.bool true)],args:=ds })
  (hr : fn.resultTypes = #[tb]) (htb : P.underlying tb = some .bool) (hl : laidOutB P = true) (hts : ∀ t ∈ ts,P.readableRec t = true ∧ t < P.types.size)
  (W : World) (base : Nat) (args : Array Value) (ds gs : List (DataW H)) (before : List MemPlace) (hval : ∀ (j : Nat) t v,fn.params[j]? = some t → args[j]? = some v → Value.okWide P W .any base t v)
  (hW : DataW.Whole enc P fn.params.toList s.vars apart W args.toList ds gs before) : Calls P f args W fun e W' => ∃ v,e = .returned v ∧ s.post enc P fn apart true false false W args v W':=by
 have hW':=hW
 obtain ⟨p,q,hA,hV,rfl,hz,hnd⟩:=hW
 rw [hvars] at hV
 obtain ⟨rfl,rfl⟩:=trodVars_none hV
 obtain ⟨x,h1,h2,h3⟩:=hargs W args.toList ds p (hpar ▸ hA) fun j t v e1 e2 => ⟨base,hval j t v (by rw [← hpar] at e1;simpa using e1) (by simpa using e2)⟩
 refine (qaat hT hc (hlaw x h1) h2).mono fun e W' ⟨he,hb⟩ => ⟨_,he,?_⟩
 exact q6j hvars (by rw [List.append_nil];exact hspec ds h3) hr htb hl (by rw [hpar];exact hts) hW' hb
end Go.Ev
namespace Go.Proofs.YtbhhifdhlafklaaGreat.K
open Go.Ev
open Go.ChangeShapes Go.WideShapes Go.ChangeAt Go.RowKit
section
variable {H : Type} {enc : TypeId × Value → H}
theorem wf_u8 {n : Int} (h : (Lit.int .u8 n).wf = true) : 0 ≤ n ∧ n ≤ 255:=by
 simp [Lit.wf] at h
 have h1 : IntKind.u8.min = 0:=rfl
 have h2 : IntKind.u8.max = 255:=rfl
 omega
theorem wf_u16 {n : Int} (h : (Lit.int .u16 n).wf = true) : 0 ≤ n ∧ n ≤ 65535:=by
 simp [Lit.wf] at h
 have h1 : IntKind.u16.min = 0:=rfl
 have h2 : IntKind.u16.max = 65535:=rfl
 omega
theorem wf_i64 {n : Int} (h : (Lit.int .i64 n).wf = true) : -9223372036854775808 ≤ n ∧ n ≤ 9223372036854775807:=by
 simp [Lit.wf] at h
 have h1 : IntKind.i64.min = -9223372036854775808:=rfl
 have h2 : IntKind.i64.max = 9223372036854775807:=rfl
 omega
theorem qn0 : qld Tryz.prog enc 3 (fun n : Int => [(ii n)]) (fun n => -9223372036854775808 ≤ n ∧ n ≤ 9223372036854775807):=(qwh Tryz.underlying3).map id (fun _ => rfl) (fun _ h => wf_i64 h)
theorem qacb : qld Tryz.prog enc 5 (fun n : Int => [(.v (.int .u8 n))]) (fun n => 0 ≤ n ∧ n ≤ 255):=(qwh Tryz.underlying5).map id (fun _ => rfl) (fun _ h => wf_u8 h)
theorem data_u16 : qld Tryz.prog enc 26 (fun n : Int => [(.v (.int .u16 n))]) (fun n => 0 ≤ n ∧ n ≤ 65535):=(qwh Tryz.underlying26).map id (fun _ => rfl) (fun _ h => wf_u16 h)
theorem data_op : qld Tryz.prog enc 93 OpI.r (fun _ => True):=by
 have h:=qpy (P:=Tryz.prog) (enc:=enc) (t:=93) Tryz.underlying93 (qfp (sz:=1) rfl (by kernel_rfl) qn0 (qfp (sz:=1) rfl (by kernel_rfl) qn0 (qfp (sz:=1) rfl (by kernel_rfl) qn0 (qfp (sz:=1) rfl (by kernel_rfl) qn0 (qsb _))))) (by kernel_rfl)
 exact h.map (fun x => (⟨x.1,x.2.1,x.2.2.1,x.2.2.2.1⟩ : OpI)) (fun _ => rfl) (fun _ _ => trivial)
theorem qab3 : qld Tryz.prog enc 94 (fun l : List OpI => [(.fsl ((l).map OpI.r) false)]) (fun l => (∀ x ∈ l,True) ∧ l.length ≤ maxLen):=qpo (sz:=4) Tryz.underlying94 (by kernel_rfl) (by decide) (fun _ => rfl) data_op
theorem q95 : qld Tryz.prog enc 23 (fun l : List (List OpI) => [(.fsl ((l).map qcs) false)]) (fun l => (∀ x ∈ l,(∀ y ∈ x,True) ∧ x.length ≤ maxLen) ∧ l.length ≤ maxLen):=qpo (sz:=1) Tryz.underlying23 (by kernel_rfl) (by decide) (fun _ => rfl) qab3
theorem q90 : qld Tryz.prog enc 90 Start.r (fun _ => True):=by
 have h:=qpy (P:=Tryz.prog) (enc:=enc) (t:=90) Tryz.underlying90 (qfp (sz:=1) rfl (by kernel_rfl) qn0 (qfp (sz:=1) rfl (by kernel_rfl) qn0 (qsb _))) (by kernel_rfl)
 exact h.map (fun x => (⟨x.1,x.2.1⟩ : Start)) (fun _ => rfl) (fun _ _ => trivial)
theorem q7i : qld Tryz.prog enc 91 (fun l : List Start => [(.fsl ((l).map Start.r) false)]) (fun l => (∀ x ∈ l,True) ∧ l.length ≤ maxLen):=qpo (sz:=2) Tryz.underlying91 (by kernel_rfl) (by decide) (fun _ => rfl) q90
theorem data_lps : qld Tryz.prog enc 22 (fun l : List (List Start) => [(.fsl ((l).map lpC) false)]) (fun l => (∀ x ∈ l,(∀ y ∈ x,True) ∧ x.length ≤ maxLen) ∧ l.length ≤ maxLen):=qpo (sz:=1) Tryz.underlying22 (by kernel_rfl) (by decide) (fun _ => rfl) q7i
theorem data_cfg : qld Tryz.prog enc 25 (fun c : Cfg => [(.fsl ((c.lps).map lpC) false),(.fsl ((c.progs).map qcs) false),(ii c.look),(ii c.fin),(ii c.cap)]) (fun c => -9223372036854775808 ≤ c.look ∧ c.look ≤ 9223372036854775807):=by
 have h:=qpy (P:=Tryz.prog) (enc:=enc) (t:=25) Tryz.underlying25 (qfp (sz:=1) rfl (by kernel_rfl) data_lps (qfp (sz:=1) rfl (by kernel_rfl) q95 (qfp (sz:=1) rfl (by kernel_rfl) qn0 (qfp (sz:=1) rfl (by kernel_rfl) qn0 (qfp (sz:=1) rfl (by kernel_rfl) qn0 (qsb _)))))) (by kernel_rfl)
 exact h.map (fun x => (⟨x.1,x.2.1,x.2.2.1,x.2.2.2.1,x.2.2.2.2.1⟩ : Cfg)) (fun _ => rfl) (fun _ h => h.2.2.1)
end
theorem own : ownKnob Tryz.prog.godebug = none:=by kernel_rfl
theorem laid : laidOutB Tryz.prog = true:=by kernel_rfl
end Go.Proofs.YtbhhifdhlafklaaGreat.K
