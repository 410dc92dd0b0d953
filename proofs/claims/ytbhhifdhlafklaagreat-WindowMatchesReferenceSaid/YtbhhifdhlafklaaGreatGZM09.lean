/- For every input the statement of this claim returns true: texts of its proof, joined (part 10). -/
import Derived.Test.YtbhhifdhlafklaaGreatGZM06
import Derived.Test.YtbhhifdhlafklaaGreatGZM07
import Derived.Test.YtbhhifdhlafklaaGreatGZM08
set_option linter.unusedSectionVars false
set_option linter.unusedSimpArgs false
set_option linter.unusedVariables false
namespace Go.Proofs.YtbhhifdhlafklaaGreat.K
open Go.Ev
set_option maxRecDepth 10000
def qtw {τ : Type} (f : τ → Int) (l : List τ) : Int:=match l.find? (fun x => !decide (f x = 0)) with
 | some x => f x
 | none => 0
theorem qtf {τ : Type} {f : τ → Int} {l : List τ} (h : l.all (fun x => decide (f x = 0)) = true) : qtw f l = 0:=by
 unfold qtw
 have : l.find? (fun x => !decide (f x = 0)) = none:=by
  rw [List.find?_eq_none];intro x hx;rw [List.all_eq_true] at h;simp [of_decide_eq_true (h x hx)]
 rw [this]
theorem qoh {τ : Type} {f : τ → Int} {l : List τ} {x : τ} (h : l.find? (fun x => !decide (f x = 0)) = some x) : qtw f l = f x:=by unfold qtw;rw [h]
theorem qug {τ : Type} {f : τ → Int} {l : List τ} : qtw f l = 0 ↔ ∀ x ∈ l,f x = 0:=by
 cases h : l.find? (fun x => !decide (f x = 0)) with
 | none =>
  rw [List.find?_eq_none] at h
  have h1 : ∀ x ∈ l,f x = 0:=fun x hx => by simpa using h x hx
  exact ⟨fun _ => h1,fun _ => qtf (by rw [List.all_eq_true];intro x hx;simp [h1 x hx])⟩
 | some x =>
  have h1:=List.find?_some h
  have h2:=List.mem_of_find?_eq_some h
  rw [qoh h]
  exact ⟨fun k => by simp [k] at h1,fun k => k x h2⟩
section
variable (c : Cfg)
def len8 (l : List Start) : Bool:=!decide ((l.length : Int) > 8)
def qt4 (c : Cfg) : Bool:=decide (1 ≤ c.lps.length ∧ c.lps.length ≤ 8 ∧ c.progs.length ≤ 8) && (c.lps.all len8 && decide (1 ≤ c.cap ∧ c.cap ≤ 64 ∧ 0 ≤ c.fin ∧ c.fin ≤ 1152921504606846976))
theorem q3i : qaz (evL T) qjb [(.agg [(.fsl ((c.lps).map lpC) false),(.fsl ((c.progs).map qcs) false),(ii c.look),(ii c.fin),(ii c.cap)])] = some (bb (qt4 c)):=by
 unfold qt4
 rw [qaz,qy qzg qyv]
 by_cases h1 : (c.lps.length : Int) < 1
 ·have : ¬ (1 ≤ c.lps.length ∧ c.lps.length ≤ 8 ∧ c.progs.length ≤ 8):=by omega
  simp only [qew,h1,this,zgw,Bool.false_and,qn,Ev.exec,qb,qe,qc,qaj,Ev.Opnd.ev,Ev.Env.get,Ev.Env.set,Ev.Env.unset,Ev.look,qo,qh,qad,Ev.AV.cells,qx,Ev.AV.plain,ql,qm,qab,qak,Ev.kill,qai,qd,qax,qal,zgi,↓qs,↓reduceIte,zga,zgb,zfe,zgg,zgh,Nat.reduceEqDiff,zgv,zgw,zfc,zfa,Bool.true_eq_false,zgx,ne_eq,zfb,zff,zfd,zgy,Bool.false_and]
 by_cases h2 : (c.lps.length : Int) > 8
 ·have : ¬ (1 ≤ c.lps.length ∧ c.lps.length ≤ 8 ∧ c.progs.length ≤ 8):=by omega
  simp only [qew,h1,h2,this,zgw,Bool.false_and,qn,Ev.exec,qb,qe,qc,qaj,Ev.Opnd.ev,Ev.Env.get,Ev.Env.set,Ev.Env.unset,Ev.look,qo,qh,qad,Ev.AV.cells,qx,Ev.AV.plain,ql,qau,qm,qab,qak,Ev.kill,qai,qd,qax,qal,zgi,↓qs,↓reduceIte,zga,zgb,zfe,zgg,zgh,Nat.reduceEqDiff,zgv,zgw,zfc,zfa,Bool.true_eq_false,zgx,ne_eq,zfb,zff,zfd,zgy,Bool.false_and]
 by_cases h3 : (c.progs.length : Int) > 8
 ·have : ¬ (1 ≤ c.lps.length ∧ c.lps.length ≤ 8 ∧ c.progs.length ≤ 8):=by omega
  simp only [qew,h1,h2,h3,this,zgw,Bool.false_and,qn,Ev.exec,qb,qe,qc,qaj,Ev.Opnd.ev,Ev.Env.get,Ev.Env.set,Ev.look,qo,qh,qad,Ev.AV.cells,qx,Ev.AV.plain,ql,qau,qm,qab,qak,Ev.kill,qai,qd,qax,qal,zgi,↓qs,↓reduceIte,zga,zgb,zfe,zgf,zgg,zgh,Nat.reduceEqDiff,zgv,zgw,zfc,zfa,zgx,ne_eq,zfb,zff,zfd,zgy,Bool.false_and]
 have h4 : (1 ≤ c.lps.length ∧ c.lps.length ≤ 8 ∧ c.progs.length ≤ 8):=by omega
 have hL : ∃ y,itB (exec (evL T) itL none qj2) (qq [1,3] true 0) ⟨[(1,(.fptr [(.fsl ((c.lps).map lpC) false),(.fsl ((c.progs).map qcs) false),(ii c.look),(ii c.fin),(ii c.cap)])),(3,(ii 0))],[]⟩ [] = some y ∧ (c.lps.all len8 = true ∧ (y.1 = .exit 0 ∧ y.2.1.marks = [] ∧ y.2.2 = [] ∧ Ev.look y.2.1.vars 1 = some (.fptr [(.fsl ((c.lps).map lpC) false),(.fsl ((c.progs).map qcs) false),(ii c.look),(ii c.fin),(ii c.cap)])) ∨
   c.lps.all len8 = false ∧ ∃ x,c.lps.find? (fun x => !len8 x) = some x ∧ (y.1 = .ret ∧ y.2.1.marks = [] ∧ y.2.2 = [] ∧ Ev.look y.2.1.vars 2 = some (bb false))):=by
  refine qh8 c.lps (fun i => ⟨[(1,(.fptr [(.fsl ((c.lps).map lpC) false),(.fsl ((c.progs).map qcs) false),(ii c.look),(ii c.fin),(ii c.cap)])),(3,(ii i))],[]⟩) [] len8 _ (fun _ y => _) ?_ ?_ ?_
  ·intro i x hi hx hp
   have hi' : (i : Int) < (c.lps.length : Int):=by omega
   have hw : IntKind.i64.wrap ((i : Int) + 1) = ((i + 1 : Nat) : Int):=by rw [qas (by omega) (by omega)];simp
   have h1 : ¬ (x.length : Int) > 8:=by simpa [len8] using hp
   simp only [qj2,zgs,zgr,zgq,zgt,hx,hi',hw,h1,qc0,qbd,lpC,Ev.exec,qb,qe,qc,qaj,Ev.Opnd.ev,Ev.Env.get,Ev.Env.set,Ev.look,qh,qad,qaf,ql,qau,qq,Ev.keep,qae,qw,qd,qax,qu,qbt,qg,qf,zgi,↓qs,Ev.it1,↓reduceIte,zga,zgb,zfe,zgg,zgh,Nat.reduceEqDiff,zgv,zgw,zfc,zfa,zgx,zfd,zgy]
  ·intro i x hi hx hp
   have hi' : (i : Int) < (c.lps.length : Int):=by omega
   have h1 : (x.length : Int) > 8:=by simpa [len8] using hp
   simp only [qj2,zgs,zgr,zgq,zgt,hx,hi',h1,lpC,Ev.exec,qb,qe,qc,qaj,Ev.Opnd.ev,Ev.Env.get,Ev.Env.set,Ev.look,qh,qad,ql,qau,zgi,↓qs,Ev.it1,↓reduceIte,zga,zgb,zgg,zgh,Nat.reduceEqDiff,zgv,zfa,zfd,zgy]
   exact ⟨_,rfl,rfl,rfl,rfl,rfl⟩
  ·simp only [qj2,Int.lt_irrefl,Ev.exec,qb,qe,qc,qaj,Ev.Opnd.ev,Ev.Env.get,Ev.Env.set,Ev.look,qh,qad,ql,zgi,↓qs,Ev.it1,↓reduceIte,zgg,zgh,Nat.reduceEqDiff,zgw,zfa,zgy]
   exact ⟨_,rfl,rfl,rfl,rfl,rfl⟩
 obtain ⟨⟨y,e,σ⟩,k1,k2⟩:=hL
 simp only at k2
 rcases k2 with ⟨k3,rfl,k4,rfl,k5⟩ | ⟨k3,x,_,rfl,k4,rfl,k5⟩
 ·by_cases g1 : c.cap ≥ 1
  case neg =>
   have : ¬ (1 ≤ c.cap ∧ c.cap ≤ 64 ∧ 0 ≤ c.fin ∧ c.fin ≤ 1152921504606846976):=by omega
   simp only [qew,h1,h2,h3,h4,k1,k3,k4,k5,g1,qc0,qbd,zgw,Bool.and_false,qn,Ev.exec,qb,qe,qc,qaj,Ev.Opnd.ev,Ev.Env.get,Ev.Env.set,Ev.Env.unset,Ev.look,qo,qh,qad,Ev.AV.cells,qx,Ev.AV.plain,ql,qau,qcd,qm,qab,qak,Ev.kill,qai,qq,Ev.keep,qae,qw,qd,qax,qu,qbt,qg,qf,qal,zgi,↓qs,↓qan,↓reduceIte,zga,zgb,zfe,zgf,zgg,zgh,Nat.reduceEqDiff,zgv,zgw,zfc,zfa,zgx,ne_eq,zfb,zff,zfd,zgy,Bool.and_false,false_and]
  by_cases g2 : c.cap ≤ 64
  case neg =>
   have : ¬ (1 ≤ c.cap ∧ c.cap ≤ 64 ∧ 0 ≤ c.fin ∧ c.fin ≤ 1152921504606846976):=by omega
   simp only [qew,h1,h2,h3,h4,k1,k3,k4,k5,g1,g2,qc0,qbd,zgw,Bool.and_false,qn,Ev.exec,qb,qe,qc,qaj,Ev.Opnd.ev,Ev.Env.get,Ev.Env.set,Ev.Env.unset,Ev.look,qo,qh,qad,Ev.AV.cells,qx,Ev.AV.plain,ql,qnk,qau,qcd,qm,qab,qak,Ev.kill,qai,qq,Ev.keep,qae,qw,qd,qax,qu,qbt,qg,qf,qal,zgi,↓qs,↓qan,↓reduceIte,zga,zgb,zfe,zgf,zgg,zgh,Nat.reduceEqDiff,zgv,zgw,zfc,zfa,zgx,ne_eq,zfb,zff,zfd,zgy,Bool.and_false,false_and,and_false]
  by_cases g3 : c.fin ≥ 0
  case neg =>
   have : ¬ (1 ≤ c.cap ∧ c.cap ≤ 64 ∧ 0 ≤ c.fin ∧ c.fin ≤ 1152921504606846976):=by omega
   simp only [qew,h1,h2,h3,h4,k1,k3,k4,k5,g1,g2,g3,qc0,qbd,zgw,Bool.and_false,qn,Ev.exec,qb,qe,qc,qaj,Ev.Opnd.ev,Ev.Env.get,Ev.Env.set,Ev.Env.unset,Ev.look,qo,qh,qad,Ev.AV.cells,qx,Ev.AV.plain,ql,qnk,qau,qcd,qm,qab,qak,Ev.kill,qai,qq,Ev.keep,qae,qw,qd,qax,qu,qbt,qg,qf,qal,zgi,↓qs,↓qan,↓reduceIte,zga,zgb,zfe,zgf,zgg,zgh,Nat.reduceEqDiff,zgv,zgw,zfc,zfa,zgx,ne_eq,zfb,zff,zfd,zgy,Bool.and_false,false_and,and_false]
  by_cases g4 : c.fin ≤ 1152921504606846976
  case neg =>
   have : ¬ (1 ≤ c.cap ∧ c.cap ≤ 64 ∧ 0 ≤ c.fin ∧ c.fin ≤ 1152921504606846976):=by omega
   simp only [qew,h1,h2,h3,h4,k1,k3,k4,k5,g1,g2,g3,g4,qc0,qbd,zgw,Bool.and_false,qn,Ev.exec,qb,qe,qc,qaj,Ev.Opnd.ev,Ev.Env.get,Ev.Env.set,Ev.look,qo,qh,qad,Ev.AV.cells,qx,Ev.AV.plain,ql,qnk,qau,qcd,qm,qab,qak,Ev.kill,qai,qq,Ev.keep,qae,qw,qd,qax,qu,qbt,qg,qf,qal,zgi,↓qs,↓qan,↓reduceIte,zga,zgb,zfe,zgf,zgg,zgh,Nat.reduceEqDiff,zgv,zgw,zfc,zfa,zgx,ne_eq,zfb,zff,zfd,zgy,Bool.and_false,and_false]
  have : (1 ≤ c.cap ∧ c.cap ≤ 64 ∧ 0 ≤ c.fin ∧ c.fin ≤ 1152921504606846976):=by omega
  simp only [qew,h1,h2,h3,h4,k1,k3,k4,k5,g1,g2,g3,g4,qc0,qbd,zgx,zgv,qn,Ev.exec,qb,qe,qc,qaj,Ev.Opnd.ev,Ev.Env.get,Ev.Env.set,Ev.look,qo,qh,qad,Ev.AV.cells,qx,Ev.AV.plain,ql,qnk,qau,qcd,qm,qab,qak,Ev.kill,qai,qq,Ev.keep,qae,qw,qd,qax,qu,qbt,qg,qf,qal,zgi,↓qs,↓qan,↓reduceIte,zga,zgb,zfe,zgf,zgg,zgh,Nat.reduceEqDiff,zgv,zgw,zfc,zfa,zgx,ne_eq,zfb,zff,zfd,zgy]
 ·simp only [qew,h1,h2,h3,h4,k1,k3,k4,k5,qc0,qbd,zgv,Bool.and_false,Bool.false_and,qn,Ev.exec,qb,qe,qc,qaj,Ev.Opnd.ev,Ev.Env.get,Ev.Env.set,Ev.look,qo,qh,qad,Ev.AV.cells,qx,Ev.AV.plain,ql,qau,qm,qab,qak,Ev.kill,qai,qq,Ev.keep,qae,qw,qd,qax,qu,qbt,qg,qf,qal,zgi,↓qs,↓qan,↓reduceIte,zga,zgb,zfe,zgf,zgg,zgh,Nat.reduceEqDiff,zgv,zgw,zfc,zfa,zgx,ne_eq,zfb,zff,zfd,zgy,Bool.false_and,Bool.and_false]
def qvu (c : Cfg) (p : List OpI) : Int:=qrt p c.progs.length c.lps.length c.look
def qmu (c : Cfg) (s : Start) : Int:=if s.prog < 0 ∨ s.prog ≥ c.progs.length then 22 else if s.time < 0 ∨ s.time > 1152921504606846976 then 11 else 0
def rlpZ (c : Cfg) (l : List Start) : Int:=qtw (qmu c) l
def qaar (c : Cfg) : Int:=if qt4 c = false then 1 else if c.look < 1 then 20 else if qtw (qvu c) c.progs ≠ 0 then qtw (qvu c) c.progs else qtw (rlpZ c) c.lps
theorem qacm (hl : c.progs.length ≤ 8) :
  ∃ y,itB (exec (evL T) itL none qjx) (qq [1,3] true 0) ⟨[(1,(.fptr [(.fsl ((c.lps).map lpC) false),(.fsl ((c.progs).map qcs) false),(ii c.look),(ii c.fin),(ii c.cap)])),(3,(ii 0))],[]⟩ [] = some y ∧ (c.progs.all (fun p => decide (qvu c p = 0)) = true ∧ (y.1 = .exit 0 ∧ y.2.1.marks = [] ∧ y.2.2 = [] ∧ Ev.look y.2.1.vars 1 = some (.fptr [(.fsl ((c.lps).map lpC) false),(.fsl ((c.progs).map qcs) false),(ii c.look),(ii c.fin),(ii c.cap)])) ∨
   c.progs.all (fun p => decide (qvu c p = 0)) = false ∧ ∃ x,c.progs.find? (fun p => !decide (qvu c p = 0)) = some x ∧ (y.1 = .ret ∧ y.2.1.marks = [] ∧ y.2.2 = [] ∧ Ev.look y.2.1.vars 2 = some (ii (qvu c x)))):=by
 refine qh8 c.progs (fun i => ⟨[(1,(.fptr [(.fsl ((c.lps).map lpC) false),(.fsl ((c.progs).map qcs) false),(ii c.look),(ii c.fin),(ii c.cap)])),(3,(ii i))],[]⟩) [] (fun p => decide (qvu c p = 0)) _ (fun x y => _) ?_ ?_ ?_
 ·intro i x hi hx hp
  have hi' : (i : Int) < (c.progs.length : Int):=by omega
  have hw : IntKind.i64.wrap ((i : Int) + 1) = ((i + 1 : Nat) : Int):=by rw [qas (by omega) (by omega)];simp
  have hv:=qtt x false c.progs.length c.lps.length c.look
  rw [show qrt x c.progs.length c.lps.length c.look = 0 from of_decide_eq_true hp] at hv
  simp only [qjx,zgs,zgr,zgq,zgt,hx,hi',hw,hv,qc0,qbd,qja,qcs,Ev.exec,qb,qe,qc,qa0,qaj,Ev.evs,Ev.Opnd.ev,Ev.Env.get,Ev.Env.set,Ev.look,qh,qad,qaf,qbn,ql,qq,Ev.keep,qae,qw,qd,qax,qu,qbt,qg,qf,zgi,↓qs,Ev.it1,↓reduceIte,zga,zgb,zfe,zgf,zgg,zgh,Nat.reduceEqDiff,zgv,zgw,zfc,zfa,zgx,ne_eq,not_true_eq_false,zfd,zgy]
 ·intro i x hi hx hp
  have hi' : (i : Int) < (c.progs.length : Int):=by omega
  have hv:=qtt x false c.progs.length c.lps.length c.look
  have hz : ¬ qrt x c.progs.length c.lps.length c.look = 0:=of_decide_eq_false hp
  simp only [qjx,zgs,zgr,zgq,zgt,hx,hi',hv,hz,qja,qcs,Ev.exec,qb,qe,qc,qa0,qaj,Ev.evs,Ev.Opnd.ev,Ev.Env.get,Ev.Env.set,Ev.look,qh,qad,qbn,ql,qax,qu,qg,qf,zgi,↓qs,Ev.it1,↓reduceIte,zga,zgb,zgf,zgg,zgh,Nat.reduceEqDiff,zgv,zfc,zfa,ne_eq,zfb,zfd,zgy]
  exact ⟨_,rfl,rfl,rfl,rfl,rfl⟩
 ·simp only [qjx,Int.lt_irrefl,Ev.exec,qb,qe,qc,qaj,Ev.Opnd.ev,Ev.Env.get,Ev.Env.set,Ev.look,qh,qad,ql,zgi,↓qs,Ev.it1,↓reduceIte,zgf,zgg,zgh,Nat.reduceEqDiff,zgw,zfa,zgy]
  exact ⟨_,rfl,rfl,rfl,rfl,rfl⟩
theorem q5r (i : Nat) (l : List Start) (hx : c.lps[i]? = some l) (hl : l.length ≤ 8) :
  ∃ y,itB (exec (evL T) itL none qfu) (qq [1,5,6] true 0) ⟨[(1,(.fptr [(.fsl ((c.lps).map lpC) false),(.fsl ((c.progs).map qcs) false),(ii c.look),(ii c.fin),(ii c.cap)])),(5,(ii i)),(6,(ii 0))],[]⟩ [] = some y ∧ (l.all (fun s => decide (qmu c s = 0)) = true ∧ (y.1 = .exit 4 ∧ y.2.1.marks = [] ∧ y.2.2 = [] ∧ Ev.look y.2.1.vars 1 = some (.fptr [(.fsl ((c.lps).map lpC) false),(.fsl ((c.progs).map qcs) false),(ii c.look),(ii c.fin),(ii c.cap)]) ∧ Ev.look y.2.1.vars 5 = some (ii i)) ∨
   l.all (fun s => decide (qmu c s = 0)) = false ∧ ∃ x,l.find? (fun s => !decide (qmu c s = 0)) = some x ∧ (y.1 = .ret ∧ y.2.1.marks = [] ∧ y.2.2 = [.row 2 [x.r] 0] ∧ Ev.look y.2.1.vars 2 = some (ii (qmu c x)))):=by
 refine qh8 l (fun k => ⟨[(1,(.fptr [(.fsl ((c.lps).map lpC) false),(.fsl ((c.progs).map qcs) false),(ii c.look),(ii c.fin),(ii c.cap)])),(5,(ii i)),(6,(ii k))],[]⟩) [] (fun s => decide (qmu c s = 0)) _ (fun x y => _) ?_ ?_ ?_
 ·intro k s hk hs hp
  have hk' : (k : Int) < (l.length : Int):=by omega
  have hw : IntKind.i64.wrap ((k : Int) + 1) = ((k + 1 : Nat) : Int):=by rw [qas (by omega) (by omega)];simp
  have hz : qmu c s = 0:=of_decide_eq_true hp
  unfold qmu at hz
  by_cases g1 : s.prog < 0
  ·rw [if_pos (.inl g1)] at hz;cases hz
  by_cases g2 : s.prog ≥ (c.progs.length : Int)
  ·rw [if_pos (.inr g2)] at hz;cases hz
  by_cases g3 : s.time < 0
  ·rw [if_neg (by omega),if_pos (.inl g3)] at hz;cases hz
  by_cases g4 : s.time > 1152921504606846976
  ·rw [if_neg (by omega),if_pos (.inr g4)] at hz;cases hz
  simp only [qfu,zgs,zgr,zgq,zgt,hx,hs,hk',hw,g1,g2,g3,g4,qc0,qbd,lpC,Start.r,Ev.exec,qb,qe,qc,qaj,Ev.Opnd.ev,Ev.Env.get,Ev.Env.set,Ev.look,qh,qad,Ev.AV.cells,qx,Ev.AV.plain,qaf,ql,qau,qcd,qq,Ev.keep,qae,qw,qd,qax,qu,qbt,qg,qf,zgi,↓qs,Ev.it1,↓reduceIte,zga,zgb,zgd,zgc,zgo,zfe,zgf,zgg,List.drop_nil,zgl,zgn,zgj,zgh,Nat.reduceAdd,Nat.reduceEqDiff,zgv,zgw,zfc,zfa,zgx,ne_eq,zfb,zff,zfd,Nat.add_zero,Nat.le_refl,zgy]
 ·intro k s hk hs hp
  have hk' : (k : Int) < (l.length : Int):=by omega
  have hz : ¬ qmu c s = 0:=of_decide_eq_false hp
  unfold qmu at hz ⊢
  by_cases g1 : s.prog < 0
  ·rw [if_pos (.inl g1)]
   simp only [qfu,zgs,zgr,zgq,zgt,hx,hs,hk',g1,lpC,Start.r,Ev.exec,qb,qe,qc,qaj,Ev.Opnd.ev,Ev.Env.get,Ev.Env.set,Ev.Env.unset,Ev.look,qh,qad,Ev.AV.cells,qx,Ev.AV.plain,ql,zgi,↓qs,Ev.it1,↓reduceIte,zga,zgb,zgd,zgc,zgo,zfe,zgf,zgg,List.drop_nil,zgl,zgn,zgj,zgh,Nat.reduceAdd,Nat.reduceEqDiff,zgv,zfc,zfa,Bool.true_eq_false,zgx,ne_eq,zfb,zff,zfd,Nat.add_zero,Nat.le_refl,zgy]
   exact ⟨_,rfl,rfl,rfl,rfl,rfl⟩
  by_cases g2 : s.prog ≥ (c.progs.length : Int)
  ·rw [if_pos (.inr g2)]
   simp only [qfu,zgs,zgr,zgq,zgt,hx,hs,hk',g1,g2,lpC,Start.r,Ev.exec,qb,qe,qc,qaj,Ev.Opnd.ev,Ev.Env.get,Ev.Env.set,Ev.look,qh,qad,Ev.AV.cells,qx,Ev.AV.plain,ql,qcd,zgi,↓qs,Ev.it1,↓reduceIte,zga,zgb,zgd,zgc,zgo,zfe,zgf,zgg,List.drop_nil,zgl,zgn,zgj,zgh,Nat.reduceAdd,Nat.reduceEqDiff,zgv,zgw,zfc,zfa,zgx,ne_eq,zfb,zff,zfd,Nat.add_zero,Nat.le_refl,zgy]
   exact ⟨_,rfl,rfl,rfl,rfl,rfl⟩
  rw [if_neg (by omega)] at hz ⊢
  by_cases g3 : s.time < 0
  ·rw [if_pos (.inl g3)]
   simp only [qfu,zgs,zgr,zgq,zgt,hx,hs,hk',g1,g2,g3,lpC,Start.r,Ev.exec,qb,qe,qc,qaj,Ev.Opnd.ev,Ev.Env.get,Ev.Env.set,Ev.Env.unset,Ev.look,qh,qad,Ev.AV.cells,qx,Ev.AV.plain,ql,qcd,zgi,↓qs,Ev.it1,↓reduceIte,zga,zgb,zgd,zgc,zgo,zfe,zgf,zgg,List.drop_nil,zgl,zgn,zgj,zgh,Nat.reduceAdd,Nat.reduceEqDiff,zgv,zgw,zfc,zfa,Bool.true_eq_false,zgx,ne_eq,zfb,zff,zfd,Nat.add_zero,Nat.le_refl,zgy]
   exact ⟨_,rfl,rfl,rfl,rfl,rfl⟩
  by_cases g4 : s.time > 1152921504606846976
  ·rw [if_pos (.inr g4)]
   simp only [qfu,zgs,zgr,zgq,zgt,hx,hs,hk',g1,g2,g3,g4,lpC,Start.r,Ev.exec,qb,qe,qc,qaj,Ev.Opnd.ev,Ev.Env.get,Ev.Env.set,Ev.look,qh,qad,Ev.AV.cells,qx,Ev.AV.plain,ql,qau,qcd,zgi,↓qs,Ev.it1,↓reduceIte,zga,zgb,zgd,zgc,zgo,zfe,zgf,zgg,List.drop_nil,zgl,zgn,zgj,zgh,Nat.reduceAdd,Nat.reduceEqDiff,zgv,zgw,zfc,zfa,zgx,ne_eq,zfb,zff,zfd,Nat.add_zero,Nat.le_refl,zgy]
   exact ⟨_,rfl,rfl,rfl,rfl,rfl⟩
  ·exact absurd (by rw [if_neg (by omega)]) hz
 ·simp only [qfu,zgs,zgr,zgq,zgt,hx,Int.lt_irrefl,lpC,Ev.exec,qb,qe,qc,qaj,Ev.Opnd.ev,Ev.Env.get,Ev.Env.set,Ev.look,qh,qad,ql,zgi,↓qs,Ev.it1,↓reduceIte,zga,zgb,zgg,zgh,Nat.reduceEqDiff,zgw,zfa,zfd,zgy]
  exact ⟨_,rfl,rfl,rfl,rfl,rfl,rfl⟩
theorem qacd (hl : c.lps.length ≤ 8) (hll : ∀ l ∈ c.lps,l.length ≤ 8) :
  ∃ y,itB (exec (evL T) itL none qjz) (qq [1,5] true 0) ⟨[(1,(.fptr [(.fsl ((c.lps).map lpC) false),(.fsl ((c.progs).map qcs) false),(ii c.look),(ii c.fin),(ii c.cap)])),(5,(ii 0))],[]⟩ [] = some y ∧ (c.lps.all (fun l => decide (rlpZ c l = 0)) = true ∧ (y.1 = .exit 2 ∧ y.2.1.marks = [] ∧ y.2.2 = []) ∨
   c.lps.all (fun l => decide (rlpZ c l = 0)) = false ∧ ∃ x,c.lps.find? (fun l => !decide (rlpZ c l = 0)) = some x ∧ (y.1 = .ret ∧ y.2.1.marks = [] ∧ (∃ s : Start,y.2.2 = [.row 2 [s.r] 0]) ∧ Ev.look y.2.1.vars 2 = some (ii (rlpZ c x)))):=by
 refine qh8 c.lps (fun i => ⟨[(1,(.fptr [(.fsl ((c.lps).map lpC) false),(.fsl ((c.progs).map qcs) false),(ii c.look),(ii c.fin),(ii c.cap)])),(5,(ii i))],[]⟩) [] (fun l => decide (rlpZ c l = 0)) _ (fun x y => _) ?_ ?_ ?_
 ·intro i l hi hx hp
  have hi' : (i : Int) < (c.lps.length : Int):=by omega
  have hw : IntKind.i64.wrap ((i : Int) + 1) = ((i + 1 : Nat) : Int):=by rw [qas (by omega) (by omega)];simp
  have hz : rlpZ c l = 0:=of_decide_eq_true hp
  obtain ⟨⟨y,e,σ⟩,k1,k2⟩:=q5r c i l hx (hll l (List.mem_of_getElem? hx))
  simp only at k2
  rcases k2 with ⟨k3,rfl,k4,rfl,k5,k6⟩ | ⟨k3,x,k7,rfl,k4,rfl,k5⟩
  ·simp only [qjz,hi',hw,k1,k4,k5,k6,qc0,qbd,Ev.exec,qb,qe,qc,qaj,Ev.Opnd.ev,Ev.Env.get,Ev.Env.set,Ev.look,qh,qad,qaf,ql,qq,Ev.keep,qae,qw,qd,qax,qu,qbt,qg,qf,zgi,↓qs,↓qan,Ev.it1,↓reduceIte,zgb,zfe,zgg,zgh,Nat.reduceEqDiff,zgv,zfc,zfa,zgx,zgy]
  ·have h1:=List.find?_some k7
   have h2 : qmu c x = 0:=by rw [← qoh k7];exact hz
   simp [h2] at h1
 ·intro i l hi hx hp
  have hi' : (i : Int) < (c.lps.length : Int):=by omega
  have hz : ¬ rlpZ c l = 0:=of_decide_eq_false hp
  obtain ⟨⟨y,e,σ⟩,k1,k2⟩:=q5r c i l hx (hll l (List.mem_of_getElem? hx))
  simp only at k2
  rcases k2 with ⟨k3,rfl,k4,rfl,k5,k6⟩ | ⟨k3,x,k7,rfl,k4,rfl,k5⟩
  ·exact absurd (qtf k3) hz
  ·rw [show rlpZ c l = qmu c x from qoh k7]
   simp only [qjz,hi',k1,qc0,qbd,Ev.exec,qb,qe,qc,qaj,Ev.Opnd.ev,Ev.Env.get,Ev.Env.set,Ev.look,qh,qad,ql,qq,Ev.keep,qae,qw,qd,qax,qu,qbt,qg,qf,zgi,↓qs,↓qan,Ev.it1,↓reduceIte,zgb,zfe,zgg,zgh,Nat.reduceEqDiff,zgv,zfc,zfa,zgx,zgy]
   exact ⟨_,rfl,rfl,k4,⟨x,rfl⟩,k5⟩
 ·simp only [qjz,Int.lt_irrefl,Ev.exec,qb,qe,qc,qaj,Ev.Opnd.ev,Ev.Env.get,Ev.Env.set,Ev.look,qh,qad,ql,zgi,↓qs,Ev.it1,↓reduceIte,zgg,zgh,Nat.reduceEqDiff,zgw,zfa,zgy]
  exact ⟨_,rfl,rfl,rfl,rfl⟩
theorem q2z : qaz (evL T) qi7 [(.agg [(.fsl ((c.lps).map lpC) false),(.fsl ((c.progs).map qcs) false),(ii c.look),(ii c.fin),(ii c.cap)])] = some (ii (qaar c)):=by
 have hs:=q3i c
 unfold qaar
 rw [qaz,qy qzf qyr]
 cases h1 : qt4 c with
 | false =>
  rw [h1] at hs
  simp only [qia,hs,qc0,qbd,qn,Ev.exec,qb,qe,qc,qa0,qaj,Ev.evs,Ev.Opnd.ev,Ev.Env.get,Ev.Env.set,Ev.look,qo,qh,qad,Ev.AV.cells,qx,Ev.AV.plain,qm,qab,qak,Ev.kill,qai,qd,qax,qbe,qu,qg,qf,qal,↓qs,↓reduceIte,zga,zgb,zgc,zfe,Nat.reduceAdd,Nat.reduceEqDiff,zfc,Bool.not_false,zgx,ne_eq,zfb,zff,zfd,Nat.le_refl,zgy]
 | true =>
  rw [h1] at hs
  have h2:=h1
  simp only [qt4,Bool.and_eq_true,decide_eq_true_eq,List.all_eq_true] at h2
  obtain ⟨⟨s1,s2,s3⟩,s4,s5⟩:=h2
  have s6 : ∀ l ∈ c.lps,l.length ≤ 8:=fun l hl => by have:=s4 l hl;simp [len8] at this;omega
  simp only [Bool.true_eq_false,if_false]
  by_cases hk : c.look < 1
  ·simp only [qia,hs,hk,qc0,qbd,qn,Ev.exec,qb,qe,qc,qa0,qaj,Ev.evs,Ev.Opnd.ev,Ev.Env.get,Ev.Env.set,Ev.look,qo,qh,qad,Ev.AV.cells,qx,Ev.AV.plain,ql,qm,qab,qak,Ev.kill,qai,qd,qax,qbe,qu,qg,qf,qal,↓qs,↓reduceIte,zga,zgb,zgc,zfe,zgf,zgg,zgh,Nat.reduceAdd,Nat.reduceEqDiff,zgv,zfc,Bool.not_true,zfa,zgx,ne_eq,zfb,zff,zfd,Nat.le_refl,zgy]
  rw [if_neg hk]
  obtain ⟨⟨y,e,σ⟩,k1,k2⟩:=qacm c s3
  obtain ⟨⟨y',e',σ'⟩,m1,m2⟩:=qacd c s2 s6
  simp only at k2 m2
  rcases k2 with ⟨k3,rfl,k4,rfl,k5⟩ | ⟨k3,x,k7,rfl,k4,rfl,k5⟩
  ·rw [qtf k3,if_neg (by simp)]
   rcases m2 with ⟨m3,rfl,m4,rfl⟩ | ⟨m3,x,m7,rfl,m4,⟨s,rfl⟩,m5⟩
   ·rw [qtf m3]
    simp only [qia,hs,hk,k1,k4,k5,m1,m4,qc0,qbd,qn,Ev.exec,qb,qe,qc,qa0,qaj,Ev.evs,Ev.Opnd.ev,Ev.Env.get,Ev.Env.set,Ev.look,qo,qh,qad,Ev.AV.cells,qx,Ev.AV.plain,ql,qm,qab,qak,Ev.kill,qai,qq,Ev.keep,qae,qw,qd,qax,qbe,qu,qbt,qg,qf,qal,↓qs,↓qan,↓reduceIte,zga,zgb,zgc,zfe,zgf,zgg,zgh,Nat.reduceAdd,Nat.reduceEqDiff,zgw,zfc,Bool.not_true,zfa,zgx,ne_eq,zfb,zff,zfd,Nat.le_refl,zgy]
   ·rw [qoh m7]
    simp only [qia,hs,hk,k1,k4,k5,m1,m4,m5,qc0,qbd,qn,Ev.exec,qb,qe,qc,qa0,qaj,Ev.evs,Ev.Opnd.ev,Ev.Env.get,Ev.Env.set,Ev.look,qo,qh,qad,Ev.AV.cells,qx,Ev.AV.plain,ql,qm,qab,qak,Ev.kill,qai,qq,Ev.keep,qae,qw,qd,qax,qbe,qu,qbt,qg,qf,qal,↓qs,↓qan,↓reduceIte,zga,zgb,zgc,zgo,zfe,zgf,zgg,zgh,Nat.reduceAdd,Nat.reduceEqDiff,zgw,zfc,Bool.not_true,zfa,zgx,ne_eq,zfb,zff,zfd,Nat.le_refl,zgy]
  ·have hz:=List.find?_some k7
   have hz' : ¬ qvu c x = 0:=by simpa using hz
   rw [qoh k7,if_pos hz']
   simp only [qia,hs,hk,k1,k4,k5,qc0,qbd,qn,Ev.exec,qb,qe,qc,qa0,qaj,Ev.evs,Ev.Opnd.ev,Ev.Env.get,Ev.Env.set,Ev.look,qo,qh,qad,Ev.AV.cells,qx,Ev.AV.plain,ql,qm,qab,qak,Ev.kill,qai,qq,Ev.keep,qae,qw,qd,qax,qbe,qu,qbt,qg,qf,qal,↓qs,↓qan,↓reduceIte,zga,zgb,zgc,zfe,zgf,zgg,zgh,Nat.reduceAdd,Nat.reduceEqDiff,zgw,zfc,Bool.not_true,zfa,zgx,ne_eq,zfb,zff,zfd,Nat.le_refl,zgy]
end
set_option maxRecDepth 10000
section
variable (c : Cfg)
def l12 (l : List Start) : Bool:=!decide ((l.length : Int) > 12)
def l30 (p : List OpI) : Bool:=!decide ((p.length : Int) > 30)
def qtu (c : Cfg) : Bool:=decide ((c.lps.length : Int) > 12) || (decide ((c.progs.length : Int) > 12) || (!(c.lps.all l12) || !(c.progs.all l30)))
theorem great_l1 (hl : c.lps.length ≤ 12) :
  ∃ y,itB (exec (evL T) itL none qjy) (qq [1,3] true 0) ⟨[(1,(.fptr [(.fsl ((c.lps).map lpC) false),(.fsl ((c.progs).map qcs) false),(ii c.look),(ii c.fin),(ii c.cap)])),(3,(ii 0))],[]⟩ [] = some y ∧ (c.lps.all l12 = true ∧ (y.1 = .exit 0 ∧ y.2.1.marks = [] ∧ y.2.2 = [] ∧ Ev.look y.2.1.vars 1 = some (.fptr [(.fsl ((c.lps).map lpC) false),(.fsl ((c.progs).map qcs) false),(ii c.look),(ii c.fin),(ii c.cap)])) ∨
   c.lps.all l12 = false ∧ ∃ x,c.lps.find? (fun x => !l12 x) = some x ∧ (y.1 = .ret ∧ y.2.1.marks = [] ∧ y.2.2 = [] ∧ Ev.look y.2.1.vars 2 = some (bb true))):=by
 refine qh8 c.lps (fun i => ⟨[(1,(.fptr [(.fsl ((c.lps).map lpC) false),(.fsl ((c.progs).map qcs) false),(ii c.look),(ii c.fin),(ii c.cap)])),(3,(ii i))],[]⟩) [] l12 _ (fun _ y => _) ?_ ?_ ?_
 ·intro i x hi hx hp
  have hi' : (i : Int) < (c.lps.length : Int):=by omega
  have hw : IntKind.i64.wrap ((i : Int) + 1) = ((i + 1 : Nat) : Int):=by rw [qas (by omega) (by omega)];simp
  have h1 : ¬ (x.length : Int) > 12:=by simpa [l12] using hp
  simp only [qjy,zgs,zgr,zgq,zgt,hx,hi',hw,h1,qc0,qbd,lpC,Ev.exec,qb,qe,qc,qaj,Ev.Opnd.ev,Ev.Env.get,Ev.Env.set,Ev.look,qh,qad,qaf,ql,qau,qq,Ev.keep,qae,qw,qd,qax,qu,qbt,qg,qf,zgi,↓qs,Ev.it1,↓reduceIte,zga,zgb,zfe,zgg,zgh,Nat.reduceEqDiff,zgv,zgw,zfc,zfa,zgx,zfd,zgy]
 ·intro i x hi hx hp
  have hi' : (i : Int) < (c.lps.length : Int):=by omega
  have h1 : (x.length : Int) > 12:=by simpa [l12] using hp
  simp only [qjy,zgs,zgr,zgq,zgt,hx,hi',h1,lpC,Ev.exec,qb,qe,qc,qaj,Ev.Opnd.ev,Ev.Env.get,Ev.Env.set,Ev.look,qh,qad,ql,qau,zgi,↓qs,Ev.it1,↓reduceIte,zga,zgb,zgg,zgh,Nat.reduceEqDiff,zgv,zfa,zfd,zgy]
  exact ⟨_,rfl,rfl,rfl,rfl,rfl⟩
 ·simp only [qjy,Int.lt_irrefl,Ev.exec,qb,qe,qc,qaj,Ev.Opnd.ev,Ev.Env.get,Ev.Env.set,Ev.look,qh,qad,ql,zgi,↓qs,Ev.it1,↓reduceIte,zgg,zgh,Nat.reduceEqDiff,zgw,zfa,zgy]
  exact ⟨_,rfl,rfl,rfl,rfl,rfl⟩
theorem great_l2 (hl : c.progs.length ≤ 12) :
  ∃ y,itB (exec (evL T) itL none qju) (qq [1,4] true 0) ⟨[(1,(.fptr [(.fsl ((c.lps).map lpC) false),(.fsl ((c.progs).map qcs) false),(ii c.look),(ii c.fin),(ii c.cap)])),(4,(ii 0))],[]⟩ [] = some y ∧ (c.progs.all l30 = true ∧ (y.1 = .exit 2 ∧ y.2.1.marks = [] ∧ y.2.2 = []) ∨
   c.progs.all l30 = false ∧ ∃ x,c.progs.find? (fun x => !l30 x) = some x ∧ (y.1 = .ret ∧ y.2.1.marks = [] ∧ y.2.2 = [] ∧ Ev.look y.2.1.vars 2 = some (bb true))):=by
 refine qh8 c.progs (fun i => ⟨[(1,(.fptr [(.fsl ((c.lps).map lpC) false),(.fsl ((c.progs).map qcs) false),(ii c.look),(ii c.fin),(ii c.cap)])),(4,(ii i))],[]⟩) [] l30 _ (fun _ y => _) ?_ ?_ ?_
 ·intro i x hi hx hp
  have hi' : (i : Int) < (c.progs.length : Int):=by omega
  have hw : IntKind.i64.wrap ((i : Int) + 1) = ((i + 1 : Nat) : Int):=by rw [qas (by omega) (by omega)];simp
  have h1 : ¬ (x.length : Int) > 30:=by simpa [l30] using hp
  simp only [qju,zgs,zgr,zgq,zgt,hx,hi',hw,h1,qc0,qbd,qcs,Ev.exec,qb,qe,qc,qaj,Ev.Opnd.ev,Ev.Env.get,Ev.Env.set,Ev.look,qh,qad,qaf,ql,qau,qq,Ev.keep,qae,qw,qd,qax,qu,qbt,qg,qf,zgi,↓qs,Ev.it1,↓reduceIte,zga,zgb,zfe,zgf,zgg,zgh,Nat.reduceEqDiff,zgv,zgw,zfc,zfa,zgx,zfd,zgy]
 ·intro i x hi hx hp
  have hi' : (i : Int) < (c.progs.length : Int):=by omega
  have h1 : (x.length : Int) > 30:=by simpa [l30] using hp
  simp only [qju,zgs,zgr,zgq,zgt,hx,hi',h1,qcs,Ev.exec,qb,qe,qc,qaj,Ev.Opnd.ev,Ev.Env.get,Ev.Env.set,Ev.look,qh,qad,ql,qau,zgi,↓qs,Ev.it1,↓reduceIte,zga,zgb,zgf,zgg,zgh,Nat.reduceEqDiff,zgv,zfa,zfd,zgy]
  exact ⟨_,rfl,rfl,rfl,rfl,rfl⟩
 ·simp only [qju,Int.lt_irrefl,Ev.exec,qb,qe,qc,qaj,Ev.Opnd.ev,Ev.Env.get,Ev.Env.set,Ev.look,qh,qad,ql,zgi,↓qs,Ev.it1,↓reduceIte,zgf,zgg,zgh,Nat.reduceEqDiff,zgw,zfa,zgy]
  exact ⟨_,rfl,rfl,rfl,rfl⟩
theorem q2w : qaz (evL T) qjq [(.agg [(.fsl ((c.lps).map lpC) false),(.fsl ((c.progs).map qcs) false),(ii c.look),(ii c.fin),(ii c.cap)])] = some (bb (qtu c)):=by
 rw [qaz,qy q2f qx6]
 by_cases h1 : (c.lps.length : Int) > 12
 ·simp only [qh2,qtu,h1,qn,Ev.exec,qb,qe,qc,qaj,Ev.Opnd.ev,Ev.Env.get,Ev.Env.set,Ev.Env.unset,Ev.look,qo,qh,qad,Ev.AV.cells,qx,Ev.AV.plain,qau,qm,qab,qak,Ev.kill,qai,qd,qax,qal,zgi,↓qs,↓reduceIte,zga,zgb,zfe,zgg,zgh,Nat.reduceEqDiff,zgv,zfc,Bool.true_or,zfa,Bool.true_eq_false,zgx,ne_eq,zfb,zff,zfd,zgy]
 by_cases h2 : (c.progs.length : Int) > 12
 ·simp only [qh2,qtu,h1,h2,qn,Ev.exec,qb,qe,qc,qaj,Ev.Opnd.ev,Ev.Env.get,Ev.Env.set,Ev.look,qo,qh,qad,Ev.AV.cells,qx,Ev.AV.plain,qau,qm,qab,qak,Ev.kill,qai,qd,qax,qal,zgi,↓qs,↓reduceIte,zga,zgb,zfe,zgf,zgg,zgh,Nat.reduceEqDiff,zgv,zgw,zfc,Bool.true_or,Bool.or_true,zfa,zgx,ne_eq,zfb,zff,zfd,zgy]
 obtain ⟨⟨y,e,σ⟩,k1,k2⟩:=great_l1 c (by omega)
 obtain ⟨⟨y',e',σ'⟩,m1,m2⟩:=great_l2 c (by omega)
 simp only at k2 m2
 rcases k2 with ⟨k3,rfl,k4,rfl,k5⟩ | ⟨k3,x,_,rfl,k4,rfl,k5⟩
 ·rcases m2 with ⟨m3,rfl,m4,rfl⟩ | ⟨m3,x,_,rfl,m4,rfl,m5⟩
  ·simp only [qh2,qtu,h1,h2,k1,k3,k4,k5,m1,m3,m4,qc0,qbd,Bool.or_self,qn,Ev.exec,qb,qe,qc,qaj,Ev.Opnd.ev,Ev.Env.get,Ev.Env.set,Ev.look,qo,qh,qad,Ev.AV.cells,qx,Ev.AV.plain,qau,qm,qab,qak,Ev.kill,qai,qq,Ev.keep,qae,qw,qd,qax,qu,qbt,qg,qf,qal,zgi,↓qs,↓qan,↓reduceIte,zga,zgb,zfe,zgf,zgg,zgh,Nat.reduceEqDiff,zgw,zfc,Bool.not_true,zfa,zgx,ne_eq,zfb,zff,zfd,zgy]
  ·simp only [qh2,qtu,h1,h2,k1,k3,k4,k5,m1,m3,m4,m5,qc0,qbd,Bool.or_true,qn,Ev.exec,qb,qe,qc,qaj,Ev.Opnd.ev,Ev.Env.get,Ev.Env.set,Ev.look,qo,qh,qad,Ev.AV.cells,qx,Ev.AV.plain,qau,qm,qab,qak,Ev.kill,qai,qq,Ev.keep,qae,qw,qd,qax,qu,qbt,qg,qf,qal,zgi,↓qs,↓qan,↓reduceIte,zga,zgb,zfe,zgf,zgg,zgh,Nat.reduceEqDiff,zgw,zfc,Bool.or_true,Bool.not_true,Bool.not_false,zfa,zgx,ne_eq,zfb,zff,zfd,zgy]
 ·simp only [qh2,qtu,h1,h2,k1,k3,k4,k5,qc0,qbd,Bool.or_true,Bool.true_or,qn,Ev.exec,qb,qe,qc,qaj,Ev.Opnd.ev,Ev.Env.get,Ev.Env.set,Ev.look,qo,qh,qad,Ev.AV.cells,qx,Ev.AV.plain,qau,qm,qab,qak,Ev.kill,qai,qq,Ev.keep,qae,qw,qd,qax,qu,qbt,qg,qf,qal,zgi,↓qs,↓qan,↓reduceIte,zga,zgb,zfe,zgf,zgg,zgh,Nat.reduceEqDiff,zgw,zfc,Bool.true_or,Bool.or_true,Bool.not_false,zfa,zgx,ne_eq,zfb,zff,zfd,zgy]
theorem qzv (h : qtu c = false) : c.lps.length ≤ 12 ∧ c.progs.length ≤ 12 ∧ (∀ l ∈ c.lps,l.length ≤ 12) ∧ ∀ p ∈ c.progs,p.length ≤ 30:=by
 simp only [qtu,Bool.or_eq_false_iff,decide_eq_false_iff_not,Bool.not_eq_false',List.all_eq_true] at h
 obtain ⟨h1,h2,h3,h4⟩:=h
 exact ⟨by omega,by omega,fun l hl => by have:=h3 l hl;simp [l12] at this;omega,fun p hp => by have:=h4 p hp;simp [l30] at this;omega⟩
def okB (c : Cfg) : Bool:=!qtu c && decide (qaar c = 0)
end
structure OpFull (c : Cfg) (p : List OpI) (op : OpI) : Prop where
 code : 1 ≤ op.code ∧ op.code ≤ 8
 hold : op.code = 1 → 1 ≤ op.a ∧ op.a ≤ 1099511627776
 send : op.code = 2 → 0 ≤ op.a ∧ op.a < c.lps.length ∧ 1 ≤ op.c ∧ op.c ≤ 1099511627776 ∧ c.look ≤ op.c
 timer : op.code = 3 → 1 ≤ op.a ∧ op.a ≤ 1099511627776 ∧ 0 ≤ op.b ∧ op.b < p.length
 spawn : op.code = 5 → 0 ≤ op.a ∧ op.a < c.progs.length ∧ 1 ≤ op.b ∧ op.b ≤ 1099511627776
 reg : op.code = 6 ∨ op.code = 7 → op.a = 0 ∨ op.a = 1
 to : op.code = 7 → 0 ≤ op.c ∧ op.c < p.length
theorem q53 {p : List OpI} {ps lps look : Int} (h : qrt p ps lps look = 0) : qsn p = true ∧ p.all (fun x => q29 x p.length ps) = true ∧ p.all (qack lps) = true ∧ p.all (qr8 look) = true:=by
 unfold qrt at h
 cases h1 : qsn p with
 | false => rw [if_pos h1] at h;cases h
 | true =>
  rw [if_neg (by simp [h1])] at h
  cases h2 : p.all (fun x => q29 x p.length ps) with
  | false => rw [if_pos h2] at h;cases h
  | true =>
   rw [if_neg (by simp [h2])] at h
   cases h3 : p.all (qack lps) with
   | false => rw [if_pos h3] at h;cases h
   | true =>
    rw [if_neg (by simp [h3])] at h
    cases h4 : p.all (qr8 look) with
    | false => rw [if_pos h4] at h;cases h
    | true => exact ⟨rfl,rfl,rfl,rfl⟩
theorem qs8 {n : Int} : qr3 n = true ↔ 1 ≤ n ∧ n ≤ 1099511627776:=by simp [qr3]
structure Valid (c : Cfg) : Prop where
 lps : 1 ≤ c.lps.length ∧ c.lps.length ≤ 8
 progs : c.progs.length ≤ 8
 lp : ∀ l ∈ c.lps,l.length ≤ 8
 cap : 1 ≤ c.cap ∧ c.cap ≤ 64
 fin : 0 ≤ c.fin ∧ c.fin ≤ 1152921504606846976
 look : 1 ≤ c.look
 prog : ∀ p ∈ c.progs,1 ≤ p.length ∧ p.length ≤ 16 ∧ ∀ op ∈ p,OpFull c p op
 start : ∀ l ∈ c.lps,∀ s ∈ l,0 ≤ s.prog ∧ s.prog < c.progs.length ∧ 0 ≤ s.time ∧ s.time ≤ 1152921504606846976
theorem qaa6 {c : Cfg} {p : List OpI} (h : qrt p c.progs.length c.lps.length c.look = 0) : 1 ≤ p.length ∧ p.length ≤ 16 ∧ ∀ op ∈ p,OpFull c p op:=by
 obtain ⟨h1,h2,h3,h4⟩:=q53 h
 simp only [qsn,Bool.and_eq_true,decide_eq_true_eq,List.all_eq_true] at h1 h2 h3 h4
 obtain ⟨⟨h5,h6⟩,h7⟩:=h1
 refine ⟨h5,h6,fun op ho => ?_⟩
 have g1:=h7 op ho
 have g2:=h2 op ho
 have g3:=h3 op ho
 have g4:=h4 op ho
 simp only [q5w,Bool.and_eq_true,decide_eq_true_eq] at g1
 simp only [qack,qr8,Bool.not_eq_true',Bool.and_eq_false_iff,decide_eq_false_iff_not] at g3 g4
 unfold q29 at g2
 refine ⟨⟨by omega,by omega⟩,?_,?_,?_,?_,?_,?_⟩
 ·intro k;rw [if_pos k] at g2
  simp only [Bool.and_eq_true,qs8,decide_eq_true_eq] at g2;exact g2.1
 ·intro k
  rw [if_neg (by omega),if_pos k] at g2
  simp only [Bool.and_eq_true,qs8,decide_eq_true_eq] at g2
  refine ⟨g2.1,?_,g2.2.2.1,g2.2.2.2,?_⟩
  ·rcases g3 with g3 | g3
   ·exact absurd k g3
   ·omega
  ·rcases g4 with g4 | g4
   ·exact absurd k g4
   ·omega
 ·intro k
  rw [if_neg (by omega),if_neg (by omega),if_pos k] at g2
  simp only [Bool.and_eq_true,qs8,decide_eq_true_eq] at g2
  exact ⟨g2.1.1,g2.1.2,g2.2.1,g2.2.2.1⟩
 ·intro k
  rw [if_neg (by omega),if_neg (by omega),if_neg (by omega),if_pos k] at g2
  simp only [Bool.and_eq_true,qs8,decide_eq_true_eq] at g2
  exact ⟨g2.1,g2.2.1,g2.2.2.1.1,g2.2.2.1.2⟩
 ·rintro (k | k)
  ·rw [if_neg (by omega),if_neg (by omega),if_neg (by omega),if_neg (by omega),if_pos k] at g2
   simp only [Bool.and_eq_true,decide_eq_true_eq] at g2
   obtain ⟨q1,q2,_⟩:=g2
   omega
  ·rw [if_neg (by omega),if_neg (by omega),if_neg (by omega),if_neg (by omega),if_neg (by omega),if_pos k] at g2
   simp only [Bool.and_eq_true,decide_eq_true_eq] at g2
   obtain ⟨q1,q2,_⟩:=g2
   omega
 ·intro k
  rw [if_neg (by omega),if_neg (by omega),if_neg (by omega),if_neg (by omega),if_neg (by omega),if_pos k] at g2
  simp only [Bool.and_eq_true,decide_eq_true_eq] at g2
  exact ⟨g2.2.2.2.1,g2.2.2.2.2⟩
theorem valid_of {c : Cfg} (h : qaar c = 0) : Valid c:=by
 unfold qaar at h
 cases h1 : qt4 c with
 | false => rw [if_pos h1] at h;cases h
 | true =>
  rw [if_neg (by simp [h1])] at h
  by_cases h2 : c.look < 1
  ·rw [if_pos h2] at h;cases h
  rw [if_neg h2] at h
  by_cases h3 : qtw (qvu c) c.progs ≠ 0
  ·rw [if_pos h3] at h;exact absurd h h3
  rw [if_neg h3] at h
  have h4:=qug.1 (Decidable.of_not_not h3)
  have h5:=qug.1 h
  simp only [qt4,Bool.and_eq_true,decide_eq_true_eq,List.all_eq_true] at h1
  obtain ⟨⟨s1,s2,s3⟩,s4,s5⟩:=h1
  refine ⟨⟨s1,s2⟩,s3,fun l hl => by have:=s4 l hl;simp [len8] at this;omega,⟨s5.1,s5.2.1⟩,⟨s5.2.2.1,s5.2.2.2⟩,by omega,fun p hp => qaa6 (h4 p hp),fun l hl s hs => ?_⟩
  have h6:=qug.1 (h5 l hl) s hs
  unfold qmu at h6
  split at h6
  ·cases h6
  split at h6
  ·cases h6
  ·omega
def qrm (t0 : List Int) (x : Ex) (g : List Int) : Prop:=g.length ≤ 40000 ∧ (x.over = true ∨ g = t0 ∨ ∃ ev ∈ x.out,ev.kind = 2 ∧ ev.key = g)
structure EvOk (c : Cfg) (e : Evt) (x : Ex) (k : Nat) (ev : Evt) : Prop where
 time : e.time < ev.time ∧ ev.time ≤ 1152921504606846976
 key : ∃ m : Int,ev.key = e.key ++ [m] ∧ (k : Int) ≤ m ∧ m < x.n
 msg : ev.kind = 3 → 0 ≤ ev.lp ∧ ev.lp < c.lps.length ∧ e.time + c.look ≤ ev.time ∧ c.look ≤ 1099511627776
 own : ev.kind ≠ 3 → ev.lp = e.lp ∧ 0 ≤ ev.proc ∧ ev.proc < x.procs.length ∧ (ev.kind = 1 ∨ ev.kind = 2)
structure EInv (c : Cfg) (e : Evt) (i : Nat) (X : List Pr) (pr : Int) (p : List OpI) (t0 : List Int) (n : Nat) (x : Ex) : Prop where
 ev : x.ev = e
 len : X.length ≤ x.procs.length ∧ x.procs.length ≤ 8
 own : ∃ q,x.procs[i]? = some q ∧ q.prog = pr ∧ 0 ≤ q.pc ∧ q.pc ≤ p.length ∧ (q.timer = [] ∨ qrm t0 x q.timer)
 old : ∀ j,j ≠ i → j < X.length → x.procs[j]? = X[j]?
 new : ∀ j q,X.length ≤ j → x.procs[j]? = some q → q.alive = true ∧ q.pc = 0 ∧ q.timer = [] ∧ 0 ≤ q.prog ∧ q.prog < c.progs.length
 cnt : 0 ≤ x.n ∧ x.n ≤ n ∧ (x.out.length : Int) ≤ x.n
 outs : ∀ k ev,x.out[k]? = some ev → EvOk c e x k ev
 inc : ∀ k ev ev',x.out[k]? = some ev → x.out[k + 1]? = some ev' → ∃ m m',ev.key = e.key ++ [m] ∧ ev'.key = e.key ++ [m'] ∧ m < m'
 gone : ∀ g ∈ x.gone,qrm t0 x g
section
variable {c : Cfg} {e : Evt} {i : Nat} {X : List Pr} {pr : Int} {p : List OpI} {t0 : List Int} {n : Nat} {x : Ex}
theorem EInv.lt (h : EInv c e i X pr p t0 n x) : i < x.procs.length:=by
 obtain ⟨q,h1,_⟩:=h.own;exact (List.getElem?_eq_some_iff.1 h1).1
theorem EInv.more (h : EInv c e i X pr p t0 n x) : EInv c e i X pr p t0 (n + 1) x :=
 ⟨h.ev,h.len,h.own,h.old,h.new,by have:=h.cnt;omega,h.outs,h.inc,h.gone⟩
theorem EInv.setP (h : EInv c e i X pr p t0 n x) (hiX : i < X.length) {q : Pr} (h1 : q.prog = pr) (h2 : 0 ≤ q.pc ∧ q.pc ≤ p.length) (h3 : q.timer = [] ∨ qrm t0 x q.timer) : EInv c e i X pr p t0 n (x.setP i q):=by
 have hlt:=h.lt
 refine ⟨h.ev,by simp only [Ex.setP,List.length_set];exact h.len,⟨q,by simp only [Ex.setP];rw [List.getElem?_set_self hlt],h1,h2.1,h2.2,h3⟩,?_,?_,h.cnt,?_,h.inc,h.gone⟩
 ·intro j hj hl;simp only [Ex.setP];rw [List.getElem?_set_ne (Ne.symm hj)];exact h.old j hj hl
 ·intro j q' hl hq;simp only [Ex.setP] at hq;rw [List.getElem?_set_ne (by omega)] at hq;exact h.new j q' hl hq
 ·intro k ev hk
  obtain ⟨a,b,d,f⟩:=h.outs k ev hk
  exact ⟨a,b,d,by simpa only [Ex.setP,List.length_set] using f⟩
theorem EInv.push (h : EInv c e i X pr p t0 n x) {g : List Int} (hg : qrm t0 x g) : EInv c e i X pr p t0 n { x with gone:=x.gone ++ [g] }:=by
 refine ⟨h.ev,h.len,h.own,h.old,h.new,h.cnt,fun k ev hk => ?_,h.inc,?_⟩
 ·obtain ⟨a,b,d,f⟩:=h.outs k ev hk;exact ⟨a,b,d,f⟩
 ·intro g' hg'
  rcases List.mem_append.1 hg' with hg' | hg'
  ·exact h.gone g' hg'
  ·simp at hg';subst hg';exact hg
theorem EInv.reg (h : EInv c e i X pr p t0 n x) (k v : Int) : EInv c e i X pr p t0 n (x.setReg k v):=by
 unfold Ex.setReg
 split
 ·exact ⟨h.ev,h.len,h.own,h.old,h.new,h.cnt,fun k ev hk => by obtain ⟨a,b,d,f⟩:=h.outs k ev hk;exact ⟨a,b,d,f⟩,h.inc,h.gone⟩
 ·exact ⟨h.ev,h.len,h.own,h.old,h.new,h.cnt,fun k ev hk => by obtain ⟨a,b,d,f⟩:=h.outs k ev hk;exact ⟨a,b,d,f⟩,h.inc,h.gone⟩
theorem EInv.spawn (h : EInv c e i X pr p t0 n x) (hiX : i < X.length) (hl : x.procs.length < 8) {a : Int} (ha : 0 ≤ a ∧ a < c.progs.length) : EInv c e i X pr p t0 n { x with procs:=x.procs ++ [⟨a,0,true,[]⟩] }:=by
 have hlt:=h.lt
 have hln:=h.len
 refine ⟨h.ev,by simp;omega,?_,?_,?_,h.cnt,?_,h.inc,h.gone⟩
 ·obtain ⟨q,h1,h2⟩:=h.own
  exact ⟨q,by show (x.procs ++ _)[i]? = _;rw [List.getElem?_append_left hlt];exact h1,h2⟩
 ·intro j hj hl';show (x.procs ++ _)[j]? = _;rw [List.getElem?_append_left (by omega)];exact h.old j hj hl'
 ·intro j q hj hq
  change (x.procs ++ [⟨a,0,true,[]⟩])[j]? = some q at hq
  by_cases hjl : j < x.procs.length
  ·rw [List.getElem?_append_left hjl] at hq;exact h.new j q hj hq
  ·have hj2:=(List.getElem?_eq_some_iff.1 hq).1
   simp at hj2
   have hje : j = x.procs.length:=by omega
   subst hje
   simp at hq
   subst hq
   exact ⟨rfl,rfl,rfl,ha⟩
 ·intro k ev hk
  obtain ⟨a,b,d,f⟩:=h.outs k ev hk
  exact ⟨a,b,d,fun hk' => by obtain ⟨f1,f2,f3,f4⟩:=f hk';exact ⟨f1,f2,by simp;omega,f4⟩⟩
theorem create_over {d : Int} {s : Evt} (h : x.over = true) : (x.create d s).over = true:=by unfold Ex.create;simp only;split <;> first | rfl | exact h
theorem q9a {d : Int} {s ev : Evt} (h : ev ∈ x.out) : ev ∈ (x.create d s).out:=by unfold Ex.create;simp only;split <;> first | exact h | exact List.mem_append_left _ h
theorem qrm.create {g : List Int} (h : qrm t0 x g) (d : Int) (s : Evt) : qrm t0 (x.create d s) g:=by
 refine ⟨h.1,?_⟩
 rcases h.2 with h | h | ⟨ev,h1,h2⟩
 ·exact .inl (create_over h)
 ·exact .inr (.inl h)
 ·exact .inr (.inr ⟨ev,q9a h1,h2⟩)
theorem EInv.create (h : EInv c e i X pr p t0 n x) (hn : n ≤ 90) (he : 0 ≤ e.time ∧ e.time ≤ 1152921504606846976) (hk : e.key.length ≤ 30000) {d : Int} (hd : 1 ≤ d ∧ d ≤ 1099511627776) {s : Evt}
  (hm : s.kind = 3 → 0 ≤ s.lp ∧ s.lp < c.lps.length ∧ c.look ≤ d) (ho : s.kind ≠ 3 → s.lp = e.lp ∧ 0 ≤ s.proc ∧ s.proc < x.procs.length ∧ (s.kind = 1 ∨ s.kind = 2)) :
  EInv c e i X pr p t0 (n + 1) (x.create d s) ∧ (s.kind = 2 → qrm t0 (x.create d s) x.kid):=by
 obtain ⟨c1,c2,c3⟩:=h.cnt
 have hw : w64 (x.n + 1) = x.n + 1:=qas (by omega) (by omega)
 have ht : w64 (x.ev.time + d) = e.time + d:=by rw [h.ev];exact qas (by omega) (by omega)
 have hown : ∃ q,(x.create d s).procs[i]? = some q ∧ q.prog = pr ∧ 0 ≤ q.pc ∧ q.pc ≤ p.length ∧ (q.timer = [] ∨ qrm t0 (x.create d s) q.timer):=by
  obtain ⟨q,h1,h2,h3,h4,h5⟩:=h.own
  exact ⟨q,h1,h2,h3,h4,h5.imp id fun g => g.create d s⟩
 have hgone : ∀ g ∈ (x.create d s).gone,qrm t0 (x.create d s) g:=fun g hg => (h.gone g hg).create d s
 have hkid : x.kid.length ≤ 40000:=by unfold Ex.kid;rw [h.ev];simp;omega
 by_cases hov : e.time + d > 1152921504606846976
 ·have hx : x.create d s = { x with n:=x.n + 1,over:=true }:=by unfold Ex.create;rw [hw,ht,if_pos hov,if_pos hov]
  rw [hx] at hown hgone ⊢
  refine ⟨⟨h.ev,h.len,hown,h.old,h.new,⟨by show 0 ≤ x.n + 1;omega,by show x.n + 1 ≤ ((n + 1 : Nat) : Int);omega,by show (x.out.length : Int) ≤ x.n + 1;omega⟩,fun k ev hk' => ?_,h.inc,hgone⟩,fun _ => ⟨hkid,.inl rfl⟩⟩
  obtain ⟨a,⟨m,b1,b2,b3⟩,d,f⟩:=h.outs k ev hk'
  exact ⟨a,⟨m,b1,b2,by show m < x.n + 1;omega⟩,d,f⟩
 ·have hx : x.create d s = { x with n:=x.n + 1,out:=x.out ++ [⟨e.time + d,e.key ++ [x.n],s.lp,s.kind,s.proc,s.arg⟩] }:=by unfold Ex.create Ex.kid;rw [hw,ht,if_neg hov,if_neg hov,h.ev]
  rw [hx] at hown hgone ⊢
  refine ⟨⟨h.ev,h.len,hown,h.old,h.new,⟨by show 0 ≤ x.n + 1;omega,by show x.n + 1 ≤ ((n + 1 : Nat) : Int);omega,by show ((x.out ++ _).length : Int) ≤ x.n + 1;simp;omega⟩,fun k ev hk' => ?_,?_,hgone⟩,fun hs => ⟨hkid,.inr (.inr ⟨_,List.mem_append_right _ (List.mem_singleton.2 rfl),hs,by unfold Ex.kid;rw [h.ev]⟩)⟩⟩
  ·change (x.out ++ [_])[k]? = some ev at hk'
   by_cases hkl : k < x.out.length
   ·rw [List.getElem?_append_left hkl] at hk'
    obtain ⟨a,⟨m,b1,b2,b3⟩,d,f⟩:=h.outs k ev hk'
    exact ⟨a,⟨m,b1,b2,by show m < x.n + 1;omega⟩,d,f⟩
   ·have hk2:=(List.getElem?_eq_some_iff.1 hk').1
    simp at hk2
    have hke : k = x.out.length:=by omega
    subst hke
    simp at hk'
    subst hk'
    refine ⟨⟨by show e.time < e.time + d;omega,by show e.time + d ≤ _;omega⟩,⟨x.n,rfl,c3,by show x.n < x.n + 1;omega⟩,fun hs => ?_,fun hs => ho hs⟩
    obtain ⟨m1,m2,m3⟩:=hm hs
    exact ⟨m1,m2,by show e.time + c.look ≤ e.time + d;omega,by omega⟩
  ·intro k ev ev' h1 h2
   change (x.out ++ [_])[k]? = some ev at h1
   change (x.out ++ [_])[k + 1]? = some ev' at h2
   have hk2:=(List.getElem?_eq_some_iff.1 h2).1
   simp at hk2
   rw [List.getElem?_append_left (by omega)] at h1
   by_cases hkl : k + 1 < x.out.length
   ·rw [List.getElem?_append_left hkl] at h2;exact h.inc k ev ev' h1 h2
   ·have hke : k + 1 = x.out.length:=by omega
    rw [hke] at h2
    simp at h2
    subst h2
    obtain ⟨m,b1,b2,b3⟩:=(h.outs k ev h1).key
    exact ⟨m,x.n,b1,rfl,b3⟩
theorem EInv.stop (h : EInv c e i X pr p t0 n x) (hiX : i < X.length) {q : Pr} (hq : x.procs[i]? = some q) : EInv c e i X pr p t0 n (x.stopE i q):=by
 obtain ⟨q',h1,h2,h3,h4,h5⟩:=h.own
 rw [hq] at h1;cases h1
 unfold Ex.stopE
 split
 next hl =>
  have hg : qrm t0 x q.timer:=by
   rcases h5 with h5 | h5
   ·rw [h5] at hl;simp at hl
   ·exact h5
  exact (h.push hg).setP (q:={ q with timer:=[] }) hiX h2 ⟨h3,h4⟩ (.inl rfl)
 next => exact h
theorem EInv.step (h : EInv c e i X pr p t0 n x) (hiX : i < X.length) (hn : n ≤ 90) (he : 0 ≤ e.time ∧ e.time ≤ 1152921504606846976) (hk : e.key.length ≤ 30000) (hpr : e.proc = i) {q : Pr} (hq : x.procs[i]? = some q) {op : OpI} (ho : OpFull c p op) :
  EInv c e i X pr p t0 (n + 1) (qdz x i q op).1:=by
 have hlt:=h.lt
 obtain ⟨q',h1,h2,h3,h4,h5⟩:=h.own
 rw [hq] at h1;cases h1
 unfold qdz
 split
 next k => exact (h.create hn he hk (ho.hold k) (fun hs => absurd hs (by show ¬ (1 : Int) = 3;decide)) (fun _ => ⟨by show x.ev.lp = e.lp;rw [h.ev],by show 0 ≤ x.ev.proc;rw [h.ev,hpr];omega,by show x.ev.proc < _;rw [h.ev,hpr];omega,.inl rfl⟩)).1
 split
 next k =>
  obtain ⟨s1,s2,s3,s4,s5⟩:=ho.send k
  exact (h.create hn he hk ⟨s3,s4⟩ (s:=⟨0,[],op.a,3,0,op.b⟩) (fun _ => ⟨s1,s2,s5⟩) (fun hs => absurd rfl hs)).1
 split
 next k =>
  obtain ⟨s1,s2,s3,s4⟩:=ho.timer k
  have hst:=h.stop hiX hq
  obtain ⟨g1,g2⟩:=hst.create hn he hk ⟨s1,s2⟩ (s:=x.ownE 2 x.ev.proc op.b) (fun hs => absurd hs (by show ¬ (2 : Int) = 3;decide)) (fun _ => ⟨by show x.ev.lp = e.lp;rw [h.ev],by show 0 ≤ x.ev.proc;rw [h.ev,hpr];omega,by show x.ev.proc < _;rw [h.ev,hpr];have:=hst.lt;omega,.inr rfl⟩)
  exact g1.setP (q:={ q with timer:=(x.stopE i q).kid }) hiX h2 ⟨h3,h4⟩ (.inr (g2 rfl))
 split
 next k => exact (h.stop hiX hq).more
 split
 next k =>
  obtain ⟨s1,s2,s3,s4⟩:=ho.spawn k
  unfold Ex.spawnE
  split
  next hl => exact ((h.spawn hiX hl ⟨s1,s2⟩).create hn he hk ⟨s3,s4⟩ (s:=x.ownE 1 x.procs.length 0) (fun hs => absurd hs (by show ¬ (1 : Int) = 3;decide)) (fun _ => ⟨by show x.ev.lp = e.lp;rw [h.ev],by show (0 : Int) ≤ (x.procs.length : Int);omega,by show (x.procs.length : Int) < _;simp;omega,.inl rfl⟩)).1
  next => exact h.more
 split
 next k => exact (h.reg _ _).more
 split
 next k =>
  obtain ⟨s1,s2⟩:=ho.to k
  split
  ·exact (h.setP (q:={ q with pc:=op.c }) hiX h2 ⟨s1,by show op.c ≤ _;omega⟩ h5).more
  ·exact h.more
 next => exact h.more
theorem EInv.kill (h : EInv c e i X pr p t0 n x) (hiX : i < X.length) : EInv c e i X pr p t0 n (qne x i):=by
 obtain ⟨q,h1,h2,h3,h4,h5⟩:=h.own
 unfold qne;rw [h1]
 exact h.setP (q:={ q with alive:=false }) hiX h2 ⟨h3,h4⟩ h5
theorem EInv.stepR (h : EInv c e i X pr p t0 n x) (hiX : i < X.length) (hn : n ≤ 90) (he : 0 ≤ e.time ∧ e.time ≤ 1152921504606846976) (hk : e.key.length ≤ 30000) (hpl : p.length ≤ 1000) (hpr : e.proc = i) {q : Pr} (hq : x.procs[i]? = some q) {op : OpI} (hop : p[q.pc.toNat]? = some op) (ho : OpFull c p op) :
  EInv c e i X pr p t0 (n + 1) (stepR x i q op).1:=by
 have hlt:=h.lt
 obtain ⟨q',h1,h2,h3,h4,h5⟩:=h.own
 rw [hq] at h1;cases h1
 have hpc:=(List.getElem?_eq_some_iff.1 hop).1
 have hw : w64 (q.pc + 1) = q.pc + 1:=qas (by omega) (by omega)
 have hz:=h.setP (q:=q.inc) hiX h2 ⟨by show 0 ≤ w64 (q.pc + 1);rw [hw];omega,by show w64 (q.pc + 1) ≤ _;rw [hw];omega⟩ h5
 have hzq : (x.setP i q.inc).procs[i]? = some q.inc:=by simp only [Ex.setP];rw [List.getElem?_set_self hlt]
 have hs:=hz.step hiX hn he hk hpr hzq ho
 unfold K.stepR
 split
 ·exact hs
 split
 ·exact hs.kill hiX
 ·exact hs
theorem EInv.act (hiX : i < X.length) (he : 0 ≤ e.time ∧ e.time ≤ 1152921504606846976) (hk : e.key.length ≤ 30000) (hpl : p.length ≤ 1000) (hpr : e.proc = i) (ho : ∀ op ∈ p,OpFull c p op) :
  ∀ (m n : Nat) (x : Ex),n + m ≤ 90 → EInv c e i X pr p t0 n x → EInv c e i X pr p t0 (n + m) (qmb p i m x)
 | 0,n,x,_,h => h.kill hiX
 | m + 1,n,x,hnm,h => by
  obtain ⟨q,h1,h2⟩:=h.own
  have mono : ∀ {k : Nat} {y : Ex},EInv c e i X pr p t0 k y → ∀ l,k ≤ l → EInv c e i X pr p t0 l y:=by
   intro k y hy l hl
   exact ⟨hy.ev,hy.len,hy.own,hy.old,hy.new,by have:=hy.cnt;omega,hy.outs,hy.inc,hy.gone⟩
  rw [q03 p i m x q h1]
  cases hop : p[q.pc.toNat]? with
  | none => exact mono (h.kill hiX) _ (by omega)
  | some op =>
   have hs:=h.stepR hiX (by omega) he hk hpl hpr h1 hop (ho op (List.mem_of_getElem? hop))
   simp only
   split
   ·exact mono hs _ (by omega)
   ·have:=EInv.act hiX he hk hpl hpr ho m (n + 1) _ (by omega) hs
    rw [show n + (m + 1) = n + 1 + m from by omega];exact this
end
set_option maxRecDepth 10000
def badP (c : Cfg) (q : Pr) : Bool:=!(decide (0 ≤ q.prog) && (decide (q.prog < c.progs.length) && (decide (0 ≤ q.pc) && decide (q.pc ≤ (((c.progs[q.prog.toNat]?).getD []).length : Int)))))
theorem not_lt_zero {x : Int} (h : ¬ x < 0) : 0 ≤ x:=by omega
set_option maxRecDepth 10000
set_option maxRecDepth 10000
structure Ready (c : Cfg) (x : Lp) (e : Evt) : Prop where
 valid : Valid c
 len : x.procs.length ≤ 8
 proc : ∀ q ∈ x.procs,0 ≤ q.prog ∧ q.prog < c.progs.length ∧ 0 ≤ q.pc ∧ q.pc ≤ ((c.progs[q.prog.toNat]?).getD []).length ∧ q.timer.length ≤ 30000
 time : 0 ≤ e.time ∧ e.time ≤ 1152921504606846976
 key : e.key.length ≤ 30000
 arg : ∀ q,qnl x e = some q → e.kind = 2 → 0 ≤ e.arg ∧ e.arg ≤ ((c.progs[q.prog.toNat]?).getD []).length
theorem qab9 {c : Cfg} {p : List OpI} {op : OpI} (h : OpFull c p op) (hp : p.length ≤ 16) : OpOk' op:=⟨h.code,h.reg,fun k => by have:=h.to k;omega⟩
section
variable {c : Cfg} {x : Lp} {e : Evt}
theorem q6e {q : Pr} (h : qnl x e = some q) : (e.kind = 1 ∨ e.kind = 2) ∧ 0 ≤ e.proc ∧ x.procs[e.proc.toNat]? = some q ∧ q.alive = true:=by
 unfold qnl at h
 split at h
 case isFalse => cases h
 rename_i hc
 rw [Option.bind_eq_some_iff] at h
 obtain ⟨q',hq,ha⟩:=h
 split at ha
 case isFalse => cases ha
 rename_i hal
 cases ha
 exact ⟨hc.1,hc.2,hq,hal⟩
theorem Ready.ops (h : Ready c x e) {p : List OpI} (hp : p ∈ c.progs) : p.length ≤ 16 ∧ ∀ op ∈ p,OpFull c p op:=⟨(h.valid.prog p hp).2.1,(h.valid.prog p hp).2.2⟩
theorem Ready.plen (h : Ready c x e) (k : Nat) : ((c.progs[k]?).getD []).length ≤ 16:=by
 cases hk : c.progs[k]? with
 | none => simp
 | some p => simpa using (h.ops (List.mem_of_getElem? hk)).1
theorem Ready.execOk (h : Ready c x e) {q : Pr} (ha : qnl x e = some q) : qvl c x e :=
 ⟨by have:=h.len;omega,by have:=h.key;omega,fun q hq => by obtain ⟨a,b,d,f,g⟩:=h.proc q hq;have:=h.plen q.prog.toNat;exact ⟨a,b,d,by omega,by omega⟩,
  fun p hp => ⟨by have:=(h.ops hp).1;omega,fun op ho => qab9 ((h.ops hp).2 op ho) (h.ops hp).1⟩,fun k => by have:=h.arg q ha k;have:=h.plen q.prog.toNat;omega⟩
theorem Ready.inv (h : Ready c x e) {q : Pr} (ha : qnl x e = some q) : ∃ (i : Nat) (p : List OpI),e.proc = i ∧ x.procs[i]? = some q ∧ p ∈ c.progs ∧ c.progs[q.prog.toNat]? = some p ∧ EInv c e i x.procs q.prog p q.timer 16 (qro c x e q):=by
 obtain ⟨a1,a2,a3,a4⟩:=q6e ha
 obtain ⟨i,hi⟩ : ∃ i : Nat,e.proc = i:=⟨_,(Int.toNat_of_nonneg a2).symm⟩
 have hin : e.proc.toNat = i:=by omega
 rw [hin] at a3
 obtain ⟨p1,p2,p3,p4,p5⟩:=h.proc q (List.mem_of_getElem? a3)
 obtain ⟨p,hp⟩ : ∃ p,c.progs[q.prog.toNat]? = some p:=⟨_,List.getElem?_eq_getElem (by omega)⟩
 have hpm:=List.mem_of_getElem? hp
 have hlt:=(List.getElem?_eq_some_iff.1 a3).1
 have hgd : ((c.progs[q.prog.toNat]?).getD []).length = p.length:=by rw [hp];rfl
 rw [hgd] at p4
 refine ⟨i,p,hi,a3,hpm,hp,?_⟩
 have hrun : qro c x e q = qmb p i 16 ((qda x e).setP i (qj1 e q)):=by unfold qro;rw [hin,hp];rfl
 rw [hrun]
 have hg : q.timer = [] ∨ qrm q.timer (qda x e) q.timer:=.inr ⟨by omega,.inr (.inl rfl)⟩
 have h0 : EInv c e i x.procs q.prog p q.timer 0 (qda x e):=by
  refine ⟨rfl,⟨Nat.le_refl _,h.len⟩,⟨q,a3,rfl,p3,p4,hg⟩,fun j _ _ => rfl,fun j q' hj hq' => ?_,⟨Int.le_refl 0,Int.le_refl 0,Int.le_refl 0⟩,fun k ev hk => by simp [qda] at hk,fun k ev ev' hk => by simp [qda] at hk,fun g hg => by simp [qda] at hg⟩
  have:=(List.getElem?_eq_some_iff.1 hq').1
  change j < x.procs.length at this
  omega
 have h1 : EInv c e i x.procs q.prog p q.timer 0 ((qda x e).setP i (qj1 e q)):=by
  refine h0.setP hlt (qzz e q) ?_ ?_
  ·unfold qj1;split
   next k => have:=h.arg q ha k;rw [hgd] at this;exact this
   next => exact ⟨p3,p4⟩
  ·unfold qj1;split
   ·by_cases ht : q.timer = e.key
    ·simp [ht]
    ·simp only [ht,if_false];exact hg
   ·exact hg
 have:=EInv.act hlt h.time (by have:=h.key;omega) (by have:=(h.ops hpm).1;omega) hi (h.ops hpm).2 16 0 _ (by omega) h1
 exact this
theorem ActInv.act {i : Nat} {p : List OpI} (hpl : p.length ≤ 1000) (ho : ∀ op ∈ p,OpOk' op) : ∀ (m n : Nat) (y : Ex),ActInv e i n y → ActInv e i (n + m) (qmb p i m y)
 | 0,n,y,h => by
  obtain ⟨q,h1,h2⟩:=h.has
  show ActInv e i n (qne y i)
  unfold qne;rw [h1];exact h.pc h1 h2 false
 | m + 1,n,y,h => by
  have mono : ∀ {k : Nat} {z : Ex},ActInv e i k z → ∀ l,k ≤ l → ActInv e i l z:=fun hz l hl => ⟨hz.ev,hz.has,hz.procs,by have:=hz.out;omega,by have:=hz.gone;omega⟩
  obtain ⟨q,h1,h2⟩:=h.has
  rw [q03 p i m y q h1]
  cases hop : p[q.pc.toNat]? with
  | none =>
   refine mono (k:=n) ?_ _ (by omega)
   show ActInv e i n (qne y i)
   unfold qne;rw [h1];exact h.pc h1 h2 false
  | some op =>
   have hlp:=(List.getElem?_eq_some_iff.1 hop).1
   have hs:=h.stepR h1 ⟨by omega,by omega⟩ (ho op (List.mem_of_getElem? hop))
   simp only
   split
   ·exact mono hs _ (by omega)
   ·have:=ActInv.act hpl ho m (n + 1) _ hs
    rw [show n + (m + 1) = n + 1 + m from by omega];exact this
theorem Ready.goneLen (h : Ready c x e) {q : Pr} (ha : qnl x e = some q) : (qro c x e q).gone.length ≤ 16:=by
 obtain ⟨i,p,hi,hq,hpm,hp,_⟩:=h.inv ha
 have hin : e.proc.toNat = i:=by omega
 have hrun : qro c x e q = qmb p i 16 ((qda x e).setP i (qj1 e q)):=by unfold qro;rw [hin,hp];rfl
 have h0:=q0y c x e (h.execOk ha) hi hq
 have:=ActInv.act (by have:=(h.ops hpm).1;omega) (fun op ho => qab9 ((h.ops hpm).2 op ho) (h.ops hpm).1) 16 0 _ h0
 rw [hrun];have:=this.gone;omega
structure XRes where
 lp : Lp
 out : List Evt
 gone : List (List Int)
 over : Bool
 nil : Bool
def qba (c : Cfg) (x : Lp) (e : Evt) : XRes :=
 if e.kind = 3 then ⟨⟨x.r0,x.r1,x.procs,w64 (x.sum + e.arg)⟩,[],[],false,true⟩
 else match qnl x e with
  | none => ⟨x,[],[],false,true⟩
  | some q => ⟨q5o (qro c x e q),(qro c x e q).out,(qro c x e q).gone,(qro c x e q).over,false⟩
theorem Exec_ev (h : Ready c x e) : qaz (evL T) qes [(.agg [(.fsl ((c.lps).map lpC) false),(.fsl ((c.progs).map qcs) false),(ii c.look),(ii c.fin),(ii c.cap)]),(.agg [(ii x.r0),(ii x.r1),(.fsl ((x.procs).map Pr.r) false),(ii x.sum)]),(.agg [(ii e.time),(.fsl ((e.key).map qb8) false),(ii e.lp),(ii e.kind),(ii e.proc),(ii e.arg)])] = some (.tup [(.agg [(ii ((qba c x e).lp.r0)),(ii ((qba c x e).lp.r1)),(.fsl (((qba c x e).lp.procs).map Pr.r) false),(ii ((qba c x e).lp.sum))]),(.fsl (((qba c x e).out).map Evt.r) (qba c x e).nil),(.fsl (((qba c x e).gone).map qfy) (qba c x e).nil),(bb ((qba c x e).over))]):=by
 unfold qba
 by_cases hk : e.kind = 3
 ·rw [if_pos hk];exact Exec_msg c x e hk
 rw [if_neg hk]
 cases ha : qnl x e with
 | none => exact qaaz c x e hk ha
 | some q => exact Exec_run c x e (h.execOk ha) ha
theorem RExec_ev (h : Ready c x e) : qaz (evL T) qfv [(.agg [(.fsl ((c.lps).map lpC) false),(.fsl ((c.progs).map qcs) false),(ii c.look),(ii c.fin),(ii c.cap)]),(.agg [(ii x.r0),(ii x.r1),(.fsl ((x.procs).map Pr.r) false),(ii x.sum)]),(.agg [(ii e.time),(.fsl ((e.key).map qb8) false),(ii e.lp),(ii e.kind),(ii e.proc),(ii e.arg)])] = some (.tup [(.agg [(ii ((qba c x e).lp.r0)),(ii ((qba c x e).lp.r1)),(.fsl (((qba c x e).lp.procs).map Pr.r) false),(ii ((qba c x e).lp.sum))]),(.fsl (((qba c x e).out).map Evt.r) (qba c x e).nil),(.fsl (((qba c x e).gone).map qfy) (qba c x e).nil),(bb ((qba c x e).over))]):=by
 unfold qba
 by_cases hk : e.kind = 3
 ·rw [if_pos hk];exact qabj c x e hk
 rw [if_neg hk]
 cases ha : qnl x e with
 | none => exact qaab c x e hk ha
 | some q => exact qabh c x e (h.execOk ha) ha
theorem Ready.sizes (h : Ready c x e) : (qba c x e).lp.procs.length ≤ 8 ∧ (∀ q ∈ (qba c x e).lp.procs,q.timer.length ≤ 40000) ∧ (qba c x e).out.length ≤ 16 ∧ (∀ ev ∈ (qba c x e).out,ev.key.length ≤ 40000) ∧ (∀ g ∈ (qba c x e).gone,g.length ≤ 40000) ∧ (qba c x e).gone.length ≤ 16:=by
 unfold qba
 by_cases hk : e.kind = 3
 ·rw [if_pos hk]
  exact ⟨h.len,fun q hq => by have:=(h.proc q hq).2.2.2.2;omega,by simp,fun _ h => by simp at h,fun _ h => by simp at h,by simp⟩
 rw [if_neg hk]
 cases ha : qnl x e with
 | none => exact ⟨h.len,fun q hq => by have:=(h.proc q hq).2.2.2.2;omega,by simp,fun _ h => by simp at h,fun _ h => by simp at h,by simp⟩
 | some q =>
  obtain ⟨i,p,hi,hq,hpm,hp,hI⟩:=h.inv ha
  refine ⟨hI.len.2,fun q' hq' => ?_,by have:=hI.cnt;show (qro c x e q).out.length ≤ 16;omega,fun ev hev => ?_,fun g hg => (hI.gone g hg).1,h.goneLen ha⟩
  ·obtain ⟨j,hj⟩:=List.mem_iff_getElem?.1 hq'
   change (qro c x e q).procs[j]? = some q' at hj
   by_cases hji : j = i
   ·obtain ⟨q2,b1,_,_,_,b5⟩:=hI.own
    subst hji
    rw [hj] at b1;cases b1
    rcases b5 with b5 | b5
    ·rw [b5];simp
    ·exact b5.1
   ·by_cases hjl : j < x.procs.length
    ·rw [hI.old j hji hjl] at hj
     have:=(h.proc q' (List.mem_of_getElem? hj)).2.2.2.2;omega
    ·rw [(hI.new j q' (by omega) hj).2.2.1];simp
  ·obtain ⟨k,hk'⟩:=List.mem_iff_getElem?.1 hev
   obtain ⟨m,hm,_⟩:=(hI.outs k ev hk').key
   rw [hm];have:=h.key;simp;omega
end
set_option maxRecDepth 10000
theorem itB_each {f : Env → qac → R3} {s : Env → qac → Option (Env × qac)} {τ : Type} (l : List τ) (E : Nat → Env) (σ : qac) (Q : CExit × Env × qac → Prop)
  (good : ∀ (i : Nat) (x : τ),i < l.length → l[i]? = some x → it1 f s (E i) σ = some (.inl (E (i + 1),σ)))
  (last : ∃ y,it1 f s (E l.length) σ = some (.inr y) ∧ Q y) : ∃ y,itB f s (E 0) σ = some y ∧ Q y:=by
 have H:=qh8 l E σ (fun _ => true) Q (fun _ _ => False) (fun i x h1 h2 _ => good i x h1 h2) (fun i x _ _ h => by cases h) last
 obtain ⟨y,h1,h2 | ⟨h2,_⟩⟩:=H
 ·exact ⟨y,h1,h2.2⟩
 ·simp at h2
section
variable {c : Cfg} {x : Lp} {e : Evt}
theorem Ready.cases (h : Ready c x e) : (e.kind = 3 ∧ qba c x e = ⟨⟨x.r0,x.r1,x.procs,w64 (x.sum + e.arg)⟩,[],[],false,true⟩) ∨ (¬ e.kind = 3 ∧ qnl x e = none ∧ qba c x e = ⟨x,[],[],false,true⟩) ∨
  ∃ q,¬ e.kind = 3 ∧ qnl x e = some q ∧ qba c x e = ⟨q5o (qro c x e q),(qro c x e q).out,(qro c x e q).gone,(qro c x e q).over,false⟩:=by
 unfold qba
 by_cases hk : e.kind = 3
 ·exact .inl ⟨hk,if_pos hk⟩
 ·rw [if_neg hk]
  cases ha : qnl x e with
  | none => exact .inr (.inl ⟨hk,rfl,rfl⟩)
  | some q => exact .inr (.inr ⟨q,hk,rfl,rfl⟩)
theorem Ready.outs (h : Ready c x e) : ∃ X : Ex,X.procs = (qba c x e).lp.procs ∧ (∀ k ev,(qba c x e).out[k]? = some ev → EvOk c e X k ev) ∧
  ∀ k ev ev',(qba c x e).out[k]? = some ev → (qba c x e).out[k + 1]? = some ev' → ∃ m m',ev.key = e.key ++ [m] ∧ ev'.key = e.key ++ [m'] ∧ m < m':=by
 rcases h.cases with ⟨_,hx⟩ | ⟨_,_,hx⟩ | ⟨q,_,ha,hx⟩
 ·rw [hx];exact ⟨qda x e,rfl,fun k ev hk => by simp at hk,fun k ev ev' hk => by simp at hk⟩
 ·rw [hx];exact ⟨qda x e,rfl,fun k ev hk => by simp at hk,fun k ev ev' hk => by simp at hk⟩
 ·rw [hx]
  obtain ⟨i,p,hi,hq,hpm,hp,hI⟩:=h.inv ha
  exact ⟨qro c x e q,rfl,hI.outs,hI.inc⟩
theorem Ready.state (h : Ready c x e) : x.procs.length ≤ (qba c x e).lp.procs.length ∧ ∀ (j : Nat) (q' : Pr),(qba c x e).lp.procs[j]? = some q' →
  (badP c q' = false ∧ (x.procs.length ≤ j → q'.alive = true ∧ q'.pc = 0) ∧ ∀ q,x.procs[j]? = some q → q'.prog = q.prog ∧ ((j : Int) ≠ e.proc → q' = q)):=by
 have old : ∀ q ∈ x.procs,badP c q = false:=by
  intro q hq
  obtain ⟨a,b,d,f,g⟩:=h.proc q hq
  simp only [badP,a,b,d,f,zgv,zfc,Bool.not_true]
 rcases h.cases with ⟨_,hx⟩ | ⟨_,_,hx⟩ | ⟨q0,_,ha,hx⟩
 ·rw [hx]
  refine ⟨Nat.le_refl _,fun j q' hj => ⟨old q' (List.mem_of_getElem? hj),fun hl => ?_,fun q hq => ?_⟩⟩
  ·have:=(List.getElem?_eq_some_iff.1 hj).1;simp only at this;omega
  ·simp only at hj;rw [hq] at hj;cases hj;exact ⟨rfl,fun _ => rfl⟩
 ·rw [hx]
  refine ⟨Nat.le_refl _,fun j q' hj => ⟨old q' (List.mem_of_getElem? hj),fun hl => ?_,fun q hq => ?_⟩⟩
  ·have:=(List.getElem?_eq_some_iff.1 hj).1;simp only at this;omega
  ·simp only at hj;rw [hq] at hj;cases hj;exact ⟨rfl,fun _ => rfl⟩
 ·rw [hx]
  obtain ⟨i,p,hi,hq0,hpm,hp,hI⟩:=h.inv ha
  have hlt:=(List.getElem?_eq_some_iff.1 hq0).1
  obtain ⟨p1,p2,p3,p4,p5⟩:=h.proc q0 (List.mem_of_getElem? hq0)
  refine ⟨hI.len.1,fun j q' hj => ?_⟩
  change (qro c x e q0).procs[j]? = some q' at hj
  by_cases hji : j = i
  ·subst hji
   obtain ⟨q2,b1,b2,b3,b4,b5⟩:=hI.own
   rw [hj] at b1;cases b1
   refine ⟨?_,fun hl => by omega,fun q hq => ?_⟩
   ·simp only [badP,b2,b3,b4,hp,p1,p2,Option.getD_some,zgv,zfc,Bool.not_true]
   ·rw [hq0] at hq;cases hq;exact ⟨b2,fun hne => absurd hi.symm hne⟩
  ·by_cases hjl : j < x.procs.length
   ·rw [hI.old j hji hjl] at hj
    refine ⟨old q' (List.mem_of_getElem? hj),fun hl => by omega,fun q hq => ?_⟩
    rw [hq] at hj;cases hj;exact ⟨rfl,fun _ => rfl⟩
   ·obtain ⟨n1,n2,n3,n4,n5⟩:=hI.new j q' (by omega) hj
    refine ⟨?_,fun _ => ⟨n1,n2⟩,fun q hq => ?_⟩
    ·simp [badP,n2,n4,n5]
    ·have:=(List.getElem?_eq_some_iff.1 hq).1;omega
end
set_option maxRecDepth 10000
structure TOk (e : Evt) (L : Nat) (ev : Evt) : Prop where
 tim : ev.kind = 2 → ev.proc = e.proc ∧ 0 ≤ ev.arg ∧ ev.arg < L
 msg : ev.kind = 3 → ev.proc = 0
def qst (e : Evt) (L B : Nat) (x : Ex) : Prop:=x.ev = e ∧ (∀ ev ∈ x.out,TOk e L ev) ∧ ∀ q ∈ x.procs,q.timer.length ≤ B
section
variable {e : Evt} {L B : Nat} {x : Ex}
theorem qst.same (h : qst e L B x) {y : Ex} (h1 : y.ev = x.ev) (h2 : y.out = x.out) (h3 : y.procs = x.procs) : qst e L B y:=⟨by rw [h1];exact h.1,by rw [h2];exact h.2.1,by rw [h3];exact h.2.2⟩
theorem qst.setP (h : qst e L B x) (i : Nat) {q : Pr} (hq : q.timer.length ≤ B) : qst e L B (x.setP i q):=by
 refine ⟨h.1,h.2.1,fun q' hq' => ?_⟩
 rcases List.mem_or_eq_of_mem_set hq' with hq' | rfl
 ·exact h.2.2 q' hq'
 ·exact hq
theorem qst.at (h : qst e L B x) {i : Nat} {q : Pr} (hq : x.procs[i]? = some q) : q.timer.length ≤ B:=h.2.2 q (List.mem_of_getElem? hq)
theorem qst.create (h : qst e L B x) (d : Int) {s : Evt} (hs : s.kind = 2 → s.proc = e.proc ∧ 0 ≤ s.arg ∧ s.arg < L) (hm : s.kind = 3 → s.proc = 0) : qst e L B (x.create d s):=by
 refine ⟨h.1,fun ev hev => ?_,h.2.2⟩
 unfold Ex.create at hev
 simp only at hev
 split at hev
 ·exact h.2.1 ev hev
 ·rcases List.mem_append.1 hev with hev | hev
  ·exact h.2.1 ev hev
  ·rw [List.mem_singleton] at hev;subst hev;exact ⟨hs,hm⟩
theorem qst.stop (h : qst e L B x) (i : Nat) (q : Pr) : qst e L B (x.stopE i q):=by
 unfold Ex.stopE;split
 ·exact qst.same (h.setP i (q:={ q with timer:=[] }) (Nat.zero_le _)) rfl rfl rfl
 ·exact h
theorem qst.kill (h : qst e L B x) (i : Nat) : qst e L B (qne x i):=by
 unfold qne;split
 next q hq => exact h.setP i (q:={ q with alive:=false }) (show q.timer.length ≤ B from h.at hq)
 ·exact h
theorem qst.step (h : qst e L B x) (i : Nat) (q : Pr) (op : OpI) (hq : q.timer.length ≤ B) (hB : e.key.length + 1 ≤ B) (ho : op.code = 3 → 0 ≤ op.b ∧ op.b < L) : qst e L B (qdz x i q op).1:=by
 have he:=h.1
 unfold qdz
 split
 ·exact h.create _ (fun k => absurd k (by show ¬ (1 : Int) = 2;decide)) (fun k => absurd k (by show ¬ (1 : Int) = 3;decide))
 split
 ·exact h.create _ (fun k => absurd k (by show ¬ (3 : Int) = 2;decide)) (fun _ => rfl)
 split
 next k =>
  show qst e L B (x.timerE i q op)
  unfold Ex.timerE
  refine qst.setP ((h.stop i q).create op.a (s:=x.ownE 2 x.ev.proc op.b) (fun _ => ⟨by show x.ev.proc = e.proc;rw [he],ho k⟩) (fun k => absurd k (by show ¬ (2 : Int) = 3;decide))) i ?_
  show (x.stopE i q).kid.length ≤ B
  unfold Ex.kid
  rw [(h.stop i q).1];simp;exact hB
 split
 ·exact h.stop i q
 split
 ·show qst e L B (x.spawnE op)
  unfold Ex.spawnE;split
  ·have h2 : qst e L B ({ x with procs:=x.procs ++ [⟨op.a,0,true,[]⟩] } : Ex):=by
    refine ⟨h.1,h.2.1,fun q' hq' => ?_⟩
    rcases List.mem_append.1 hq' with hq' | hq'
    ·exact h.2.2 q' hq'
    ·rw [List.mem_singleton] at hq';subst hq';exact Nat.zero_le _
   exact h2.create _ (fun k => absurd k (by show ¬ (1 : Int) = 2;decide)) (fun k => absurd k (by show ¬ (1 : Int) = 3;decide))
  ·exact h
 split
 ·show qst e L B (x.setReg _ _)
  unfold Ex.setReg;split <;> exact h.same rfl rfl rfl
 split
 ·show qst e L B (if _ then _ else _)
  split
  ·exact h.setP i (q:={ q with pc:=op.c }) hq
  ·exact h
 ·exact h
theorem qst.act {p : List OpI} (hB : e.key.length + 1 ≤ B) (ho : ∀ op ∈ p,op.code = 3 → 0 ≤ op.b ∧ op.b < L) (i : Nat) : ∀ (m : Nat) {x : Ex},qst e L B x → qst e L B (qmb p i m x)
 | 0,x,h => h.kill i
 | m + 1,x,h => by
  unfold qmb
  split
  ·exact h
  rename_i q hq
  split
  ·exact h.kill i
  rename_i op hop
  have h0 : qst e L B (x.setP i { q with pc:=w64 (q.pc + 1) }):=h.setP i (show q.timer.length ≤ B from h.at hq)
  have hs:=h0.step i { q with pc:=w64 (q.pc + 1) } op (show q.timer.length ≤ B from h.at hq) hB (ho op (List.mem_of_getElem? hop))
  split
  ·exact hs
  split
  ·exact hs.kill i
  ·exact qst.act hB ho i m hs
end
theorem Ready.tims {c : Cfg} {x : Lp} {e : Evt} (h : Ready c x e) {B : Nat} (hB : e.key.length + 1 ≤ B) (hx : ∀ q ∈ x.procs,q.timer.length ≤ B) : (∀ ev ∈ (qba c x e).out,(ev.kind = 3 → ev.proc = 0) ∧ (ev.kind = 2 → ∃ q p,x.procs[e.proc.toNat]? = some q ∧ c.progs[q.prog.toNat]? = some p ∧ ev.proc = e.proc ∧ 0 ≤ ev.arg ∧ ev.arg < p.length)) ∧ ∀ q ∈ (qba c x e).lp.procs,q.timer.length ≤ B:=by
 rcases h.cases with ⟨_,hx'⟩ | ⟨_,_,hx'⟩ | ⟨q,_,ha,hx'⟩
 ·rw [hx'];exact ⟨fun ev hev => by simp at hev,hx⟩
 ·rw [hx'];exact ⟨fun ev hev => by simp at hev,hx⟩
 ·rw [hx']
  obtain ⟨i,p,hi,hq,hpm,hp,_⟩:=h.inv ha
  have hw : (qj1 e q).timer.length ≤ B:=by
   have:=hx q (List.mem_of_getElem? hq)
   unfold qj1;split
   ·show (if q.timer = e.key then [] else q.timer).length ≤ B
    split
    ·exact Nat.zero_le _
    ·exact this
   ·exact this
  have h0 : qst e p.length B (qda x e):=⟨rfl,fun ev hev => (by cases hev),hx⟩
  have hT : qst e p.length B (qro c x e q):=by
   unfold qro
   rw [hp]
   exact qst.act hB (fun op ho k => by have:=((h.ops hpm).2 op ho).timer k;exact ⟨this.2.2.1,this.2.2.2⟩) _ 16 (h0.setP e.proc.toNat hw)
  refine ⟨fun ev hev => ?_,hT.2.2⟩
  have:=hT.2.1 ev hev
  exact ⟨this.msg,fun k => ⟨q,p,by rw [hi,Int.toNat_natCast];exact hq,hp,this.tim k⟩⟩
set_option maxRecDepth 10000
def qkd (k i : Nat) (s : Start) : Evt:=⟨s.time,[(k : Int),(i : Int)],k,1,i,0⟩
def qll (k : Nat) (l : List Start) : List Evt:=l.mapIdx (fun i s => qkd k i s)
def qk4 (lps : List (List Start)) : List Evt:=(lps.mapIdx (fun k l => qll k l)).flatten
theorem q7j (k : Nat) (l : List Start) (s : Start) : qll k (l ++ [s]) = qll k l ++ [qkd k l.length s]:=by simp [qll,List.mapIdx_append]
theorem q9c (lps : List (List Start)) (l : List Start) : qk4 (lps ++ [l]) = qk4 lps ++ qll lps.length l:=by simp [qk4,List.mapIdx_append]
theorem q3u (k : Nat) (l : List Start) : (qll k l).length = l.length:=by simp [qll]
theorem qqv {k : Nat} {l : List Start} {x : Evt} (h : x ∈ qll k l) : ∃ i s,l[i]? = some s ∧ x = qkd k i s:=by
 simp only [qll] at h
 obtain ⟨i,hi⟩:=List.mem_iff_getElem?.1 h
 rw [List.getElem?_mapIdx] at hi
 cases hl : l[i]? with
 | none => rw [hl] at hi;cases hi
 | some s => rw [hl] at hi;cases hi;exact ⟨i,s,hl,rfl⟩
theorem qvi {lps : List (List Start)} {x : Evt} (h : x ∈ qk4 lps) : ∃ k l i s,lps[k]? = some l ∧ l[i]? = some s ∧ x = qkd k i s:=by
 simp only [qk4,List.mem_flatten] at h
 obtain ⟨r,hr,hx⟩:=h
 obtain ⟨k,hk⟩:=List.mem_iff_getElem?.1 hr
 rw [List.getElem?_mapIdx] at hk
 cases hl : lps[k]? with
 | none => rw [hl] at hk;cases hk
 | some l =>
  rw [hl] at hk;cases hk
  obtain ⟨i,s,h1,h2⟩:=qqv hx
  exact ⟨k,l,i,s,hl,h1,h2⟩
theorem q9b (lps : List (List Start)) : qcj (qk4 lps):=by
 intro x hx
 obtain ⟨k,l,i,s,_,_,rfl⟩:=qvi hx
 simp [qkd]
theorem q6y {k k' i i' : Nat} {s s' : Start} (h : qqr (qkd k i s) (qkd k' i' s') = 0) : k = k' ∧ i = i':=by
 have:=((q5t _ _).1 h).2
 simp only [qkd,List.cons.injEq,and_true] at this
 omega
theorem qaal (lps : List (List Start)) : qr1 (qk4 lps):=by
 unfold qr1 qk4
 rw [List.pairwise_flatten]
 constructor
 ·intro r hr
  obtain ⟨k,hk⟩:=List.mem_iff_getElem?.1 hr
  rw [List.getElem?_mapIdx] at hk
  cases hl : lps[k]? with
  | none => rw [hl] at hk;cases hk
  | some l =>
   rw [hl] at hk;cases hk
   rw [List.pairwise_iff_getElem]
   intro i j hi hj hij h
   simp only [qll,List.getElem_mapIdx] at h
   have:=(q6y h).2;omega
 ·rw [List.pairwise_iff_getElem]
  intro k k' hk hk' hkk x hx y hy h
  simp only [List.getElem_mapIdx] at hx hy
  obtain ⟨i,s,_,rfl⟩:=qqv hx
  obtain ⟨i',s',_,rfl⟩:=qqv hy
  have:=(q6y h).1;omega
theorem q72 {k i : Nat} {l : List Start} {s : Start} (h : l[i]? = some s) : qll k (l.take (i + 1)) = qll k (l.take i) ++ [qkd k i s]:=by
 have hi : i < l.length:=(List.getElem?_eq_some_iff.1 h).1
 rw [qim h,q7j,List.length_take,Nat.min_eq_left (by omega)]
theorem q4f {k : Nat} {lps : List (List Start)} {l : List Start} (h : lps[k]? = some l) : qk4 (lps.take (k + 1)) = qk4 (lps.take k) ++ qll k l:=by
 have hi : k < lps.length:=(List.getElem?_eq_some_iff.1 h).1
 rw [qim h,q9c,List.length_take,Nat.min_eq_left (by omega)]
theorem q6s : ∀ {lps : List (List Start)} {m : Nat},(∀ l ∈ lps,l.length ≤ m) → (qk4 lps).length ≤ lps.length * m:=by
 intro lps m h
 have : ∀ n,n ≤ lps.length → (qk4 (lps.take n)).length ≤ n * m:=by
  intro n
  induction n with
  | zero => intro _;simp [qk4]
  | succ n ih =>
   intro hn
   obtain ⟨l,hl⟩ : ∃ l,lps[n]? = some l:=⟨_,List.getElem?_eq_getElem (by omega)⟩
   rw [q4f hl,List.length_append,q3u,Nat.succ_mul]
   have:=ih (by omega)
   have:=h l (List.mem_of_getElem? hl)
   omega
 have:=this lps.length (Nat.le_refl _)
 rwa [List.take_length] at this
section
variable (c : Cfg)
theorem qxi (out : List Evt) (e : List AV) : List.take out.length (out.map Evt.r) = out.map Evt.r ∧ List.take (out.length + 1) (out.map Evt.r ++ [e]) = out.map Evt.r ++ [e]:=⟨List.take_of_length_le (by simp),List.take_of_length_le (by simp)⟩
end
set_option maxRecDepth 10000
section
variable (c : Cfg)
structure Small12 (c : Cfg) : Prop where
 lps : c.lps.length ≤ 12
 lp : ∀ l ∈ c.lps,l.length ≤ 12
theorem Small12.len {c : Cfg} (h : Small12 c) (k : Nat) : (qk4 (c.lps.take k)).length ≤ 144:=by
 have:=q6s (lps:=c.lps.take k) (m:=12) (fun l hl => h.lp l (List.mem_of_mem_take hl))
 have:=List.length_take_le k c.lps
 have:=List.length_take_le' k c.lps
 have:=h.lps
 omega
end
set_option maxRecDepth 10000
def stP (s : Start) : Pr:=⟨s.prog,0,true,[]⟩
def stLp (ps : List Pr) : Lp × Bool:=(⟨0,0,ps,0⟩,decide (ps = []))
def q6v (σ : qac) (lim : Nat) (row : List AV) (ps : List Pr) : Prop :=
 ps = [] ∧ row = [(ii 0),(ii 0),.fsl [] true,(ii 0)] ∨ ps ≠ [] ∧ ∃ o g,0 < o ∧ o < lim ∧ row = [(ii 0),(ii 0),.sl o g 0 ps.length false,(ii 0)] ∧ σ[o]? = some (.row 4 (ps.map Pr.r) g)
theorem q6v.frz {σ : qac} {lim d : Nat} {row : List AV} {ps : List Pr} (h : q6v σ lim row ps) : qhv (Ev.frz σ (d + 1)) row = some (lpF (stLp ps)):=by
 rcases h with ⟨rfl,rfl⟩ | ⟨h1,o,g,_,_,rfl,h2⟩
 ·rfl
 ·have t1 : List.take ps.length (ps.map Pr.r) = ps.map Pr.r:=List.take_of_length_le (by simp)
  simp only [qd8,qfm,qfw,h2,t1,qea,qap,lpF,stLp,h1,qax,qal,qfw,qea,qfm,qd8,zgi,↓qs,↓reduceIte,zgg,zgw,zgx,zfd,Nat.le_refl,zgy]
def qmf (σ : qac) (lim : Nat) : List (List AV) → List (List Pr) → Prop
 | [],[] => True
 | r :: rs,p :: ps => q6v σ lim r p ∧ qmf σ lim rs ps
 | _,_ => False
theorem q6v.mono {σ σ' : qac} {lim lim' : Nat} {row : List AV} {ps : List Pr} (h : q6v σ lim row ps) (hl : lim ≤ lim') (hσ : ∀ o,0 < o → o < lim → σ'[o]? = σ[o]?) : q6v σ' lim' row ps:=by
 rcases h with h | ⟨h1,o,g,h2,h3,h4,h5⟩
 ·exact .inl h
 ·exact .inr ⟨h1,o,g,h2,by omega,h4,by rw [hσ o h2 h3];exact h5⟩
theorem qmf.mono {σ σ' : qac} {lim lim' : Nat} (hl : lim ≤ lim') (hσ : ∀ o,0 < o → o < lim → σ'[o]? = σ[o]?) : ∀ {rs : List (List AV)} {ps : List (List Pr)},qmf σ lim rs ps → qmf σ' lim' rs ps
 | [],[],h => trivial
 | r :: rs,p :: ps,h => ⟨h.1.mono hl hσ,qmf.mono hl hσ h.2⟩
 | [],_ :: _,h => h.elim
 | _ :: _,[],h => h.elim
theorem qmf.snoc {σ : qac} {lim : Nat} {r : List AV} {p : List Pr} (hr : q6v σ lim r p) : ∀ {rs : List (List AV)} {ps : List (List Pr)},qmf σ lim rs ps → qmf σ lim (rs ++ [r]) (ps ++ [p])
 | [],[],h => ⟨hr,trivial⟩
 | r' :: rs,p' :: ps,h => ⟨h.1,qmf.snoc hr h.2⟩
 | [],_ :: _,h => h.elim
 | _ :: _,[],h => h.elim
theorem qmf.frz {σ : qac} {lim d : Nat} : ∀ {rs : List (List AV)} {ps : List (List Pr)},qmf σ lim rs ps → qhv (qhv (Ev.frz σ (d + 1))) rs = some ((ps.map stLp).map lpF)
 | [],[],h => rfl
 | r :: rs,p :: ps,h => by rw [qd8,h.1.frz,qmf.frz h.2];rfl
 | [],_ :: _,h => h.elim
 | _ :: _,[],h => h.elim
theorem qmf.len {σ : qac} {lim : Nat} : ∀ {rs : List (List AV)} {ps : List (List Pr)},qmf σ lim rs ps → rs.length = ps.length
 | [],[],h => rfl
 | r :: rs,p :: ps,h => by rw [List.length_cons,List.length_cons,qmf.len h.2]
 | [],_ :: _,h => h.elim
 | _ :: _,[],h => h.elim
section
variable (c : Cfg)
end
set_option maxRecDepth 10000
def qaap (lps : List (List Start)) : List (List Pr):=lps.map fun l => l.map stP
def ql1 (lps : List (List Start)) : List (Lp × Bool):=(qaap lps).map stLp
section
variable (c : Cfg)
end
set_option maxRecDepth 10000
section
variable (c : Cfg)
def qacu (b i : Nat) (l : List Start) (W : qac) : Prop :=
 i = 0 ∧ W = [.row 4 [[(ii 0),(ii 0),.fsl [] true,(ii 0)]] 0] ∨ 0 < i ∧ ∃ g,W = [.row 4 [[(ii 0),(ii 0),.sl (b + 1 + 1) g 0 i false,(ii 0)]] 0,.row 4 (((l.take i).map stP).map Pr.r) g]
theorem qacu.row {b : Nat} {l : List Start} {τ0 W : qac} (hb : b = τ0.length) (h : qacu b l.length l W) :
  ∃ rk,(∃ w : List SObj,W = .row 4 [rk] 0 :: w) ∧ rk.length = 4 ∧ qx rk = true ∧ ∀ x : SObj,q6v (x :: (τ0 ++ W)) ((τ0 ++ W).length + 1) rk (l.map stP):=by
 rcases h with ⟨h1,rfl⟩ | ⟨h1,g,rfl⟩
 ·refine ⟨[(ii 0),(ii 0),.fsl [] true,(ii 0)],⟨[],rfl⟩,rfl,rfl,fun x => .inl ⟨?_,rfl⟩⟩
  rw [List.eq_nil_of_length_eq_zero h1];rfl
 ·refine ⟨_,⟨_,rfl⟩,rfl,rfl,fun x => .inr ⟨fun e => by rw [List.map_eq_nil_iff] at e;subst e;simp at h1,b + 1 + 1,g,by omega,by simp;omega,by rw [List.length_map],?_⟩⟩
  rw [List.take_length,List.getElem?_cons_succ,hb,List.getElem?_append_right (by omega)]
  simp
theorem q4u (k g b : Nat) (l : List Start) (R : List (List AV)) (hkl : c.lps[k]? = some l) (hl : l.length ≤ 12) (τ0 : qac) (hb : b = τ0.length) :
  ∃ y,itB (exec (evL T) itL none qhc) (qq [1,3,4,5,6] false (b + 1 + 1)) ⟨[(1,(.fptr [(.fsl ((c.lps).map lpC) false),(.fsl ((c.progs).map qcs) false),(ii c.look),(ii c.fin),(ii c.cap)])),(3,.sl 0 g 0 R.length false),(4,(ii k)),(5,.ptr (b + 1) 0 0 0),(6,(ii 0))],[]⟩ (.row 4 R g :: (τ0 ++ [.row 4 [[(ii 0),(ii 0),.fsl [] true,(ii 0)]] 0])) = some y ∧
   ∃ W : List SObj,y.1 = .exit 2 ∧ y.2.1.marks = [] ∧ y.2.2 = .row 4 R g :: (τ0 ++ W) ∧ qacu b l.length l W ∧ Ev.look y.2.1.vars 1 = some (.fptr [(.fsl ((c.lps).map lpC) false),(.fsl ((c.progs).map qcs) false),(ii c.look),(ii c.fin),(ii c.cap)]) ∧ Ev.look y.2.1.vars 3 = some (.sl 0 g 0 R.length false) ∧ Ev.look y.2.1.vars 4 = some (ii k) ∧ Ev.look y.2.1.vars 5 = some (.ptr (b + 1) 0 0 0):=by
 have key:=qen (f:=exec (evL T) itL none qhc) (s:=qq [1,3,4,5,6] false (b + 1 + 1)) (α:=List SObj)
  (fun i a => ⟨[(1,(.fptr [(.fsl ((c.lps).map lpC) false),(.fsl ((c.progs).map qcs) false),(ii c.look),(ii c.fin),(ii c.cap)])),(3,.sl 0 g 0 R.length false),(4,(ii k)),(5,.ptr (b + 1) 0 0 0),(6,(ii i))],[]⟩) (fun i a => .row 4 R g :: (τ0 ++ a))
  (fun i a => qacu b i l a) l.length
  (fun y => ∃ W : List SObj,y.1 = .exit 2 ∧ y.2.1.marks = [] ∧ y.2.2 = .row 4 R g :: (τ0 ++ W) ∧ qacu b l.length l W ∧ Ev.look y.2.1.vars 1 = some (.fptr [(.fsl ((c.lps).map lpC) false),(.fsl ((c.progs).map qcs) false),(ii c.look),(ii c.fin),(ii c.cap)]) ∧ Ev.look y.2.1.vars 3 = some (.sl 0 g 0 R.length false) ∧ Ev.look y.2.1.vars 4 = some (ii k) ∧ Ev.look y.2.1.vars 5 = some (.ptr (b + 1) 0 0 0)) ?_ ?_ 0 [.row 4 [[(ii 0),(ii 0),.fsl [] true,(ii 0)]] 0] (Nat.zero_le _) (.inl ⟨rfl,rfl⟩)
 ·exact key
 ·rintro i W hi h
  obtain ⟨x,hx⟩ : ∃ x,l[i]? = some x:=⟨_,List.getElem?_eq_getElem hi⟩
  have hi' : (i : Int) < (l.length : Int):=by omega
  have hw : IntKind.i64.wrap ((i : Int) + 1) = ((i + 1 : Nat) : Int):=by rw [qas (by omega) (by omega)];simp
  have tg : ∀ (v : SObj) (w : List SObj),(τ0 ++ v :: w)[b]? = some v:=fun v w => by rw [hb];simp
  have tg2 : ∀ v w : SObj,(τ0 ++ [v,w])[b + 1]? = some w:=fun v w => by rw [hb,List.getElem?_append_right (by omega)];simp
  have ts : ∀ (v u : SObj) (w : List SObj),(τ0 ++ v :: w).set b u = τ0 ++ u :: w:=fun v u w => by rw [hb];simp []
  have ts2 : ∀ v w u : SObj,(τ0 ++ [v,w]).set (b + 1) u = τ0 ++ [v,u]:=fun v w u => by rw [hb,List.set_append,if_neg (by omega)];simp
  obtain ⟨xp,xt⟩:=x
  have hbl : List.length τ0 = b:=hb.symm
  rcases h with ⟨hi0,rfl⟩ | ⟨h3,g',rfl⟩
  ·refine .inl ⟨[.row 4 [[(ii 0),(ii 0),.sl (b + 1 + 1) 0 0 1 false,(ii 0)]] 0,.row 4 [(stP ⟨xp,xt⟩).r] 0],?_,.inr ⟨by omega,0,?_⟩⟩
   ·simp only [qhc,zgs,zgr,zgq,zgt,hkl,hx,hi',hw,tg,ts,hbl,List.append_assoc,List.map_nil,Start.r,stP,Pr.r,lpC,Ev.exec,qb,qe,qc,qaj,qnz,Ev.Opnd.ev,Ev.Env.get,Ev.Env.set,Ev.look,qh,qbs,qad,qgp,qfl,Ev.AV.cells,Ev.AV.uc,qx,Ev.AV.plain,qaf,ql,qq,Ev.keep,qbh,qa8,List.replicate_one,zgi,↓qs,Ev.it1,↓reduceIte,zga,zgb,zgp,zgd,zge,zgc,zgo,zgf,zgg,zgm,zgl,zgj,zgk,zgh,Nat.reduceAdd,Nat.reduceEqDiff,Nat.reduceMul,Nat.reduceLT,Nat.reduceLeDiff,Nat.reducePow,zgv,zfc,zfa,zgx,ne_eq,zfb,not_true_eq_false,zff,zfd,zgu,zgy]
   ·rw [qim hx,hi0];simp
  ·have ln : (((l.take i).map stP).map Pr.r).length = i:=by simp;omega
   have tk : List.take i (((l.take i).map stP).map Pr.r) = ((l.take i).map stP).map Pr.r:=List.take_of_length_le (by simp;omega)
   have bd : (i + 1) * 48 ≤ 140737488355328:=by omega
   have il : i ≤ i:=Nat.le_refl _
   have nx : ((l.take (i + 1)).map stP).map Pr.r = ((l.take i).map stP).map Pr.r ++ [(stP ⟨xp,xt⟩).r]:=by rw [qim hx];simp
   refine .inl ⟨[.row 4 [[(ii 0),(ii 0),.sl (b + 1 + 1) (g' + 1) 0 (i + 1) false,(ii 0)]] 0,.row 4 (((l.take (i + 1)).map stP).map Pr.r) (g' + 1)],?_,.inr ⟨by omega,g' + 1,rfl⟩⟩
   rw [nx]
   generalize ((l.take i).map stP).map Pr.r = PR at ln tk ⊢
   simp only [qhc,zgs,zgr,zgq,zgt,hkl,hx,hi',hw,tg,tg2,ts,ts2,ln,tk,bd,il,List.map_nil,Start.r,stP,Pr.r,lpC,Ev.exec,qb,qe,qc,qaj,qnz,Ev.Opnd.ev,Ev.Env.get,Ev.Env.set,Ev.look,qh,qbs,qad,qgp,qfl,Ev.AV.cells,Ev.AV.uc,qx,Ev.AV.plain,qaf,ql,qq,Ev.keep,qbh,qa8,List.replicate_one,zgi,↓qs,Ev.it1,↓reduceIte,zga,zgb,zgd,zge,zgc,zgo,zgf,zgg,zgm,zgl,zgj,zgk,zgh,Nat.reduceAdd,Nat.reduceEqDiff,Nat.reduceMul,Nat.reduceLeDiff,Nat.reducePow,zgv,zfc,zfa,zgx,ne_eq,zfb,zff,zfd,zgu,zgy]
 ·rintro W h
  simp only [qhc,zgs,zgr,zgq,zgt,hkl,lpC,Int.lt_irrefl,Ev.exec,qb,qe,qc,qaj,Ev.Opnd.ev,Ev.Env.get,Ev.Env.set,Ev.look,qh,qad,ql,zgi,↓qs,Ev.it1,↓reduceIte,zga,zgb,zgg,zgh,Nat.reduceEqDiff,zgw,zfa,zfd,zgy]
  exact ⟨_,rfl,W,rfl,rfl,rfl,h,rfl,rfl,rfl,rfl⟩
theorem q5m (h : Small12 c) :
  ∃ y,itB (exec (evL T) itL none qha) (qq [1,3,4] false 1) ⟨[(1,(.fptr [(.fsl ((c.lps).map lpC) false),(.fsl ((c.progs).map qcs) false),(ii c.look),(ii c.fin),(ii c.cap)])),(3,.sl 0 0 0 0 false),(4,(ii 0))],[]⟩ [.row 4 [] 0] = some y ∧
   ∃ (R : List (List AV)) (g : Nat) (τ : qac),y.1 = .exit 0 ∧ y.2.1.marks = [] ∧ y.2.2 = .row 4 R g :: τ ∧ qmf y.2.2 (τ.length + 1) R (qaap c.lps) ∧ Ev.look y.2.1.vars 3 = some (.sl 0 g 0 R.length false):=by
 have key:=qen (f:=exec (evL T) itL none qha) (s:=qq [1,3,4] false 1) (α:=List (List AV) × Nat × qac)
  (fun i a => ⟨[(1,(.fptr [(.fsl ((c.lps).map lpC) false),(.fsl ((c.progs).map qcs) false),(ii c.look),(ii c.fin),(ii c.cap)])),(3,.sl 0 a.2.1 0 a.1.length false),(4,(ii i))],[]⟩) (fun i a => .row 4 a.1 a.2.1 :: a.2.2)
  (fun i a => ∀ x : SObj,qmf (x :: a.2.2) (a.2.2.length + 1) a.1 (qaap (c.lps.take i))) c.lps.length
  (fun y => ∃ (R : List (List AV)) (g : Nat) (τ : qac),y.1 = .exit 0 ∧ y.2.1.marks = [] ∧ y.2.2 = .row 4 R g :: τ ∧ qmf y.2.2 (τ.length + 1) R (qaap c.lps) ∧ Ev.look y.2.1.vars 3 = some (.sl 0 g 0 R.length false)) ?_ ?_ 0 ([],0,[]) (Nat.zero_le _) (fun _ => trivial)
 ·exact key
 ·rintro i ⟨R,g,τ⟩ hi hR
  simp only at hR ⊢
  obtain ⟨x,hx⟩ : ∃ x,c.lps[i]? = some x:=⟨_,List.getElem?_eq_getElem hi⟩
  have hlps:=h.lps
  have hi' : (i : Int) < (c.lps.length : Int):=by omega
  have hw : IntKind.i64.wrap ((i : Int) + 1) = ((i + 1 : Nat) : Int):=by rw [qas (by omega) (by omega)];simp
  have hRl : R.length = i:=by rw [(hR .dead).len];simp [qaap];omega
  obtain ⟨b,hb⟩ : ∃ b,b = τ.length:=⟨_,rfl⟩
  have hbl : List.length τ = b:=hb.symm
  obtain ⟨⟨y,e,σ⟩,k1,W,k2,k3,k4,k5,k6,k7,k8,k9⟩:=q4u c i g b x R hx (h.lp _ (List.mem_of_getElem? hx)) τ hb
  simp only at k1 k2 k3 k4 k6 k7 k8 k9
  subst k2;subst k4
  obtain ⟨rk,⟨w,hW⟩,_,_,hrow⟩:=k5.row hb
  have tg : ∀ (v : SObj) (w : List SObj),(τ ++ v :: w)[b]? = some v:=fun v w => by rw [hb];simp
  have bd : (i + 1) * 48 ≤ 140737488355328:=by omega
  have il : i ≤ i:=Nat.le_refl _
  have tk : List.take i R = R:=List.take_of_length_le (by omega)
  refine .inl ⟨(R ++ [rk],g + 1,τ ++ W),?_,fun z => ?_⟩
  ·simp only [zgp,zga,zgb,hRl] at k1 k7 ⊢
   rcases k5 with ⟨_,rfl⟩ | ⟨_,g',rfl⟩
   ·simp only [List.cons.injEq,SObj.row.injEq,true_and,and_true] at hW
    obtain ⟨rfl,rfl⟩:=hW
    simp only [qha,hi',hw,hbl,hRl,k1,k3,k6,k7,k8,k9,tg,bd,il,tk,Ev.exec,qb,qe,qc,qaj,qnz,Ev.Opnd.ev,Ev.Env.get,Ev.Env.set,Ev.look,qh,qbs,qad,qfl,Ev.AV.cells,qx,Ev.AV.plain,qaf,ql,qq,Ev.keep,qbh,qa8,List.replicate_one,zgi,↓qs,↓qan,Ev.it1,↓reduceIte,zga,zgb,zgp,zgd,zge,zgc,zfe,zgg,zgm,zgj,zgh,Nat.reduceAdd,Nat.reduceEqDiff,Nat.reduceMul,Nat.reduceLeDiff,Nat.reducePow,zgv,zfc,zfa,zgx,ne_eq,zfb,zff,zfd,zgu,Nat.le_refl,zgy]
   ·simp only [List.cons.injEq,SObj.row.injEq,true_and,and_true] at hW
    obtain ⟨rfl,rfl⟩:=hW
    simp only [qha,hi',hw,hbl,hRl,k1,k3,k6,k7,k8,k9,tg,bd,il,tk,Ev.exec,qb,qe,qc,qaj,qnz,Ev.Opnd.ev,Ev.Env.get,Ev.Env.set,Ev.look,qh,qbs,qad,qfl,Ev.AV.cells,qx,Ev.AV.plain,qaf,ql,qq,Ev.keep,qbh,qa8,List.replicate_one,List.take_length,zgi,↓qs,↓qan,Ev.it1,↓reduceIte,zga,zgb,zgp,zgd,zge,zgc,zfe,zgg,zgm,zgj,zgh,Nat.reduceAdd,Nat.reduceEqDiff,Nat.reduceMul,Nat.reduceLeDiff,Nat.reducePow,zgv,zfc,zfa,zgx,ne_eq,zfb,zff,zfd,zgu,Nat.le_refl,zgy]
  ·have : qaap (c.lps.take (i + 1)) = qaap (c.lps.take i) ++ [x.map stP]:=by rw [qim hx];simp [qaap]
   simp only
   rw [this]
   refine qmf.snoc (hrow z) ((hR z).mono (by simp) (fun o h1 h2 => ?_))
   obtain ⟨o,rfl⟩ : ∃ p,o = p + 1:=⟨o - 1,by omega⟩
   rw [List.getElem?_cons_succ,List.getElem?_cons_succ]
   exact List.getElem?_append_left (by omega)
 ·rintro ⟨R,g,τ⟩ hR
  rw [List.take_length] at hR
  simp only at hR ⊢
  simp only [qha,Int.lt_irrefl,Ev.exec,qb,qe,qc,qaj,Ev.Opnd.ev,Ev.Env.get,Ev.Env.set,Ev.look,qh,qad,ql,zgi,↓qs,Ev.it1,↓reduceIte,zgg,zgh,Nat.reduceEqDiff,zgw,zfa,zgy]
  exact ⟨_,rfl,R,g,τ,rfl,rfl,rfl,hR _,rfl⟩
theorem q2e (h : Small12 c) : qaz (evL T) qg4 [(.agg [(.fsl ((c.lps).map lpC) false),(.fsl ((c.progs).map qcs) false),(ii c.look),(ii c.fin),(ii c.cap)])] = some (.fsl ((ql1 c.lps).map lpF) false):=by
 obtain ⟨⟨y,e,σ⟩,k1,R,g,τ,k2,k3,k4,k5,k6⟩:=q5m c h
 simp only at k1 k2 k3 k4 k5 k6
 subst k2;subst k4
 have tk : List.take R.length R = R:=List.take_length
 have hf:=fun d => k5.frz (d:=d)
 have hle : R.length ≤ R.length:=Nat.le_refl _
 rw [qaz,qy qyq qw8]
 simp only [qm9,k1,k3,k6,hle,tk,qn,Ev.exec,qb,qe,qc,qaj,Ev.Opnd.ev,Ev.Env.get,Ev.Env.set,Ev.look,qo,Ev.AV.cells,qx,Ev.AV.plain,qm,qab,qak,Ev.kill,qai,qq,Ev.keep,qd,qbj,qfw,↓qs,↓qan,↓reduceIte,zga,zgb,zgd,zgo,zgg,zgl,Nat.reduceEqDiff,Nat.reduceLT,zgw,zfc,zfa,zgx,and_true,ne_eq,zfb,zff,zfd,zgy]
 rw [show (5 : Nat) = 4 + 1 from rfl,hf 4]
 rfl
end
set_option maxRecDepth 10000
structure Sim where
 trace : List (List Evt)
 lps : List Lp
 pend : List Evt
 n : Nat
 over : Bool
def lpAt (s : Sim) (i : Int) : Lp:=(s.lps[i.toNat]?).getD ⟨0,0,[],0⟩
def qrq (s : Sim) (i : Int) : List Evt:=(s.trace[i.toNat]?).getD []
def qk7 (gone : List (List Int)) (x : Evt) : Bool:=!(gone.any fun g => decide (g = x.key))
def Sim.step (c : Cfg) (s : Sim) (e : Evt) (rest : List Evt) : Sim :=
 ⟨s.trace.set e.lp.toNat (qrq s e.lp ++ [e]),s.lps.set e.lp.toNat (qba c (lpAt s e.lp) e).lp,sortL ((rest ++ (qba c (lpAt s e.lp) e).out).filter (qk7 (qba c (lpAt s e.lp) e).gone)),s.n + 1,s.over || (qba c (lpAt s e.lp) e).over⟩
def Sim.ready (c : Cfg) (s : Sim) : Bool:=match s.pend with
 | [] => false
 | e :: _ => decide (e.time < c.fin)
def Sim.go (c : Cfg) (s : Sim) : Sim:=match s.pend with
 | [] => s
 | e :: rest => s.step c e rest
def Sim.run (c : Cfg) : Nat → Sim → Sim
 | 0,s => s
 | k + 1,s => if s.ready c = true then Sim.run c k (s.go c) else s
def start (c : Cfg) : Sim:=⟨List.replicate c.lps.length [],(ql1 c.lps).map Prod.fst,sortL (qk4 c.lps),0,false⟩
structure EvG (c : Cfg) (n : Nat) (e : Evt) : Prop where
 lp : 0 ≤ e.lp ∧ e.lp < c.lps.length
 time : 0 ≤ e.time ∧ e.time ≤ 1152921504606846976
 key : 2 ≤ e.key.length ∧ e.key.length ≤ 2 + n
 proc : 0 ≤ e.proc ∧ e.proc < 8
 arg : e.kind = 2 → 0 ≤ e.arg ∧ e.arg < 16
theorem EvG.mono {c : Cfg} {n m : Nat} {e : Evt} (h : EvG c n e) (hm : n ≤ m) : EvG c m e:=⟨h.lp,h.time,⟨h.key.1,by have:=h.key.2;omega⟩,h.proc,h.arg⟩
def LpG (c : Cfg) (n : Nat) (x : Lp) : Prop:=x.procs.length ≤ 8 ∧ ∀ q ∈ x.procs,0 ≤ q.prog ∧ q.prog < c.progs.length ∧ 0 ≤ q.pc ∧ q.pc ≤ ((c.progs[q.prog.toNat]?).getD []).length ∧ q.timer.length ≤ 2 + n
def qlb (l : List Evt) : Prop:=l.Pairwise (fun a b => ¬ a.key = b.key)
def qab1 (c : Cfg) (x : Lp) (l : List Evt) : Lp:=l.foldl (fun x e => (qba c x e).lp) x
def qbq (h : List Evt) (i : Nat) : List Evt:=h.filter fun e => decide (e.lp = i)
structure SInvK (c : Cfg) (s : Sim) (h : List Evt) : Prop where
 valid : Valid c
 n : s.n = h.length
 trl : s.trace.length = c.lps.length
 tr : ∀ i,i < c.lps.length → s.trace[i]? = some (qbq h i)
 lpl : s.lps.length = c.lps.length
 lp : ∀ x ∈ s.lps,LpG c h.length x
 keys : qlb (h ++ s.pend)
 ev : ∀ e ∈ h ++ s.pend,EvG c h.length e
 tim : ∀ e ∈ s.pend,e.kind = 2 → ∃ x q p,s.lps[e.lp.toNat]? = some x ∧ x.procs[e.proc.toNat]? = some q ∧ c.progs[q.prog.toNat]? = some p ∧ 0 ≤ e.arg ∧ e.arg < p.length
 par : ∀ e ∈ h ++ s.pend,e.key.length = 2 ∨ ∃ p ∈ h,∃ m,e.key = p.key ++ [m] ∧ p.time < e.time
 len : s.pend.length ≤ 64 + 16 * h.length
 rep : ∀ i,i < c.lps.length → s.lps[i]? = some (qab1 c ((((ql1 c.lps).map Prod.fst)[i]?).getD ⟨0,0,[],0⟩) (qbq h i))
 rdy : ∀ i,i < c.lps.length → ∀ k e,(qbq h i)[k]? = some e → Ready c (qab1 c ((((ql1 c.lps).map Prod.fst)[i]?).getD ⟨0,0,[],0⟩) ((qbq h i).take k)) e
structure SInv (c : Cfg) (s : Sim) (h : List Evt) : Prop extends SInvK c s h where
 sorted : s.pend.Pairwise leE
 ord : h.Pairwise leE
 ord2 : ∀ a ∈ h,∀ b ∈ s.pend,leE a b
 fin : ∀ e ∈ h,e.time < c.fin
theorem qlb.dist {l : List Evt} (h : qlb l) : qr1 l:=h.imp fun hk hc => hk ((q5t _ _).1 hc).2
theorem qlb.perm {l l' : List Evt} (h : qlb l) (p : l'.Perm l) : qlb l':=(p.pairwise_iff (fun {x y} hxy hyx => hxy hyx.symm)).2 h
theorem leE_time {a b : Evt} (h : a.time < b.time) : leE a b:=by
 have:=qj5 a.time b.time
 unfold leE qqr
 rw [if_neg (by omega)];omega
theorem q7f {a b : Evt} (h : leE a b) : a.time ≤ b.time:=by
 have:=qj5 a.time b.time
 unfold leE qqr at h
 by_cases e : qqh a.time b.time = 0
 ·omega
 ·rw [if_neg e] at h;omega
section
variable {c : Cfg} {s : Sim} {h : List Evt}
theorem SInvK.headM (H : SInvK c s h) {e : Evt} (hm : e ∈ s.pend) (hn : h.length ≤ 20000) : ∃ x,s.lps[e.lp.toNat]? = some x ∧ lpAt s e.lp = x ∧ Ready c x e:=by
 have he : e ∈ h ++ s.pend:=List.mem_append_right _ hm
 have g:=H.ev e he
 obtain ⟨x,hx⟩ : ∃ x,s.lps[e.lp.toNat]? = some x:=⟨_,List.getElem?_eq_getElem (by rw [H.lpl];have:=g.lp;omega)⟩
 have hl:=H.lp x (List.mem_of_getElem? hx)
 refine ⟨x,hx,by unfold lpAt;rw [hx];rfl,H.valid,hl.1,fun q hq => ?_,g.time,by have:=g.key;omega,fun q ha hk => ?_⟩
 ·obtain ⟨a,b,d,f,k⟩:=hl.2 q hq;exact ⟨a,b,d,f,by omega⟩
 ·obtain ⟨_,_,hq,_⟩:=q6e ha
  obtain ⟨x',q',p,h1,h2,h3,h4,h5⟩:=H.tim e hm hk
  rw [hx] at h1;cases h1
  rw [hq] at h2;cases h2
  rw [h3];exact ⟨h4,by show e.arg ≤ (p.length : Int);omega⟩
theorem SInv.head (H : SInv c s h) {e : Evt} {rest : List Evt} (hp : s.pend = e :: rest) (hn : h.length ≤ 20000) : ∃ x,s.lps[e.lp.toNat]? = some x ∧ lpAt s e.lp = x ∧ Ready c x e :=
 H.toSInvK.headM (by rw [hp];simp) hn
theorem q80 {e : Evt} {out : List Evt} (h : ∀ k ev ev',out[k]? = some ev → out[k + 1]? = some ev' → ∃ m m' : Int,ev.key = e.key ++ [m] ∧ ev'.key = e.key ++ [m'] ∧ m < m') :
  ∀ (d i : Nat) (a b : Evt),out[i]? = some a → out[i + d + 1]? = some b → ∃ m m' : Int,a.key = e.key ++ [m] ∧ b.key = e.key ++ [m'] ∧ m < m'
 | 0,i,a,b,ha,hb => h i a b ha hb
 | d + 1,i,a,b,ha,hb => by
  have hlt:=(List.getElem?_eq_some_iff.1 hb).1
  obtain ⟨x,hx⟩ : ∃ x,out[i + d + 1]? = some x:=⟨_,List.getElem?_eq_getElem (by omega)⟩
  obtain ⟨m,m1,h1,h2,h3⟩:=q80 h d i a x ha hx
  obtain ⟨m2,m3,h4,h5,h6⟩:=h (i + d + 1) x b hx hb
  rw [h2] at h4
  have:=List.append_cancel_left h4
  simp only [List.cons.injEq,and_true] at this
  exact ⟨m,m3,h1,h5,by omega⟩
theorem q9v {e : Evt} {out : List Evt} (h : ∀ k ev ev',out[k]? = some ev → out[k + 1]? = some ev' → ∃ m m' : Int,ev.key = e.key ++ [m] ∧ ev'.key = e.key ++ [m'] ∧ m < m') : qlb out:=by
 unfold qlb
 rw [List.pairwise_iff_getElem]
 intro i j hi hj hij hk
 obtain ⟨m,m',h1,h2,h3⟩:=q80 h (j - i - 1) i out[i] out[j] (List.getElem?_eq_getElem hi) (by rw [show i + (j - i - 1) + 1 = j by omega];exact List.getElem?_eq_getElem hj)
 rw [hk,h2] at h1
 have:=List.append_cancel_left h1
 simp only [List.cons.injEq,and_true] at this
 omega
theorem SInvK.keyNeP (H : SInvK c s h) {e : Evt} {rest : List Evt} (hp : s.pend.Perm (e :: rest)) (hn : h.length ≤ 20000) : qlb ((h ++ [e]) ++ (rest ++ (qba c (lpAt s e.lp) e).out)):=by
 have hme : e ∈ s.pend:=hp.mem_iff.2 (by simp)
 obtain ⟨x,hx,hlx,R⟩:=H.headM hme hn
 rw [hlx]
 obtain ⟨X,_,o1,o2⟩:=R.outs
 have hk : qlb (h ++ e :: rest):=qlb.perm H.keys (hp.symm.append_left h)
 have e1 : (h ++ [e]) ++ (rest ++ (qba c x e).out) = (h ++ e :: rest) ++ (qba c x e).out:=by simp
 rw [e1]
 unfold qlb at hk ⊢
 rw [List.pairwise_append]
 refine ⟨hk,q9v o2,fun a ha b hb hab => ?_⟩
 obtain ⟨k,hkb⟩:=List.mem_iff_getElem?.1 hb
 obtain ⟨m,hm,_⟩:=(o1 k b hkb).key
 have ha' : a ∈ h ++ s.pend:=by
  rcases List.mem_append.1 ha with ha | ha
  ·exact List.mem_append_left _ ha
  ·exact List.mem_append_right _ (hp.mem_iff.2 ha)
 have ge:=H.ev e (List.mem_append_right _ hme)
 rw [hm] at hab
 rcases H.par a ha' with h2 | ⟨p,hp1,m',h2,_⟩
 ·rw [hab] at h2;simp at h2;have:=ge.key;omega
 ·rw [hab] at h2
  have hlen:=congrArg List.length h2
  simp at hlen
  have:=(List.append_inj h2 hlen).1
  rw [List.pairwise_append] at hk
  exact hk.2.2 p hp1 e (by simp) this.symm
theorem SInv.keyNe (H : SInv c s h) {e : Evt} {rest : List Evt} (hp : s.pend = e :: rest) (hn : h.length ≤ 20000) : qlb ((h ++ [e]) ++ (rest ++ (qba c (lpAt s e.lp) e).out)) :=
 H.toSInvK.keyNeP (by rw [hp]) hn
end
set_option maxRecDepth 10000
section
variable (G : List (List Int)) (c : Bool) (x : Evt)
end
set_option maxRecDepth 10000
structure GoneAt (σ : qac) (p : Nat) (G : List (List Int)) : Prop where
 at_ : σ[p]? = some (.row 1 [[(.fsl ((G).map qfy) false)]] 1)
 len : G.length ≤ 1000
 key : ∀ k ∈ G,k.length ≤ 9223372036854775807
section
variable (σ : qac) (p o g : Nat) (G : List (List Int)) (D : List Evt)
def zEvt : Evt:=⟨0,[],0,0,0,0⟩
theorem zEvt_r : zEvt.r = [(ii 0),.fsl [] false,(ii 0),(ii 0),(ii 0),(ii 0)]:=rfl
structure DelInv (G : List (List Int)) (D : List Evt) (j : Nat) (E : List Evt) : Prop where
 len : E.length = D.length
 kept : E.take ((D.take j).filter (qk7 G)).length = (D.take j).filter (qk7 G)
 rest : E.drop j = D.drop j
 lt : ((D.take j).filter (qk7 G)).length < j
end
set_option maxRecDepth 10000
section
variable (σ : qac) (p o g n : Nat) (G : List (List Int)) (D : List Evt)
structure Grown (τ : qac) (n o : Nat) (R : List (List AV)) (g : Nat) : Prop where
 len : τ.length = n
 lt : o < n
 at_ : τ[o]? = some (.row 6 R g)
 lo : qd n τ = true
theorem Grown.of {τ : qac} (hn : σ.length = n) (ho : o < n) (hl : qd n σ = true) (E : List Evt) : Grown (σ.set o (.row 6 ((E).map Evt.r) g)) n o (E.map Evt.r) g :=
 ⟨by rw [List.length_set];exact hn,ho,by rw [List.getElem?_set_self (by omega)],qmx hl o (by simp only [SObj.lo,qv])⟩
end
set_option maxRecDepth 10000
def qbc (l : List Evt) : List AV:=[(.fsl ((l).map Evt.r) false)]
theorem q8u (n : Nat) (l : List Evt) : los n (qbc l) = true:=by simp only [qbc,los,AV.lo,qv,zfc]
theorem evtsC_pl (l : List Evt) : (qbc l).length = 1 ∧ qx (qbc l) = true:=⟨rfl,rfl⟩
theorem qdk (n : Nat) (l : List (List Evt)) : qhl n (l.map qbc) = true:=qmk (q8u n) l
theorem q7x (l : List (List Evt)) : qc5 1 (l.map qbc) = true:=qmy evtsC_pl l
theorem grow_ev (n : Nat) (h : n ≤ 1000000) : (evL T).call qbb [.fsl [] true,(ii n)] [] =
  if n = 0 then some (.fsl [] true,[]) else some (.sl 0 0 0 0 false,[.row 6 ((List.replicate n zEvt).map Evt.r) 0]):=by
 have c1 : ¬ (n : Int) < 0:=by omega
 have w : IntKind.i64.wrap ((n : Int) - ((0 : Nat) : Int)) = n:=by rw [qas (by omega) (by omega)];omega
 have w0 : IntKind.i64.wrap 0 = 0:=rfl
 have w1 : IntKind.i64.wrap ((n : Int) - 0) = n:=by rw [qas (by omega) (by omega)];omega
 have ok:=qem (List.replicate n zEvt)
 rw [List.map_replicate] at ok ⊢
 have b : n * 64 ≤ 140737488355328:=by omega
 rw [qy qj4 qi9]
 by_cases h0 : n = 0
 ·subst h0
  rw [if_pos rfl]
  simp only [qcg,Int.lt_irrefl,w0,Int.sub_zero,gt_iff_lt,qn,Ev.exec,qb,qe,qc,qaj,Ev.Opnd.ev,Ev.Env.get,Ev.Env.set,Ev.look,qo,qcl,ql,qau,qm,qab,qak,Ev.kill,qai,qd,qu,qaa,↓qs,↓reduceIte,zga,zgb,zfe,Nat.reduceAdd,Nat.reduceEqDiff,Int.cast_ofNat_Int,reduceCtorEq,zgw,zfa,zgx,zfd,zgy]
 ·have c2 : (n : Int) > 0:=by omega
  rw [if_neg h0]
  simp only [zEvt_r] at ok ⊢
  simp only [qcg,zgr,c1,c2,w0,w1,ok,b,zgs,Nat.sub_zero,Int.le_refl,qn,Ev.exec,qb,qe,qc,qaj,Ev.Opnd.ev,Ev.Env.get,Ev.Env.set,Ev.look,qo,qfx,qcl,ql,qau,qm,qab,qak,Ev.kill,qai,qd,qbj,qbh,↓qs,↓reduceIte,zga,zgb,zgd,zgo,zfe,List.drop_nil,zgl,Nat.reduceAdd,Nat.reduceEqDiff,Nat.reduceLT,Nat.reducePow,Int.reduceSub,Int.reduceToNat,Int.cast_ofNat_Int,reduceCtorEq,zgv,zgw,zfc,zfa,zgx,and_true,zfd,Nat.add_zero,Option.isSome_some,Option.isSome_none,zgy,implies_true,Bool.false_and]
set_option maxRecDepth 10000
section
variable (xs : List (List Evt)) (cl : Bool)
theorem qsf {xs : List (List Evt)} {i : Nat} {x : List Evt} (h : xs[i]? = some x) : (xs.take (i + 1)).flatten = (xs.take i).flatten ++ x:=by rw [qim h,List.flatten_append];simp
theorem q75 (xs : List (List Evt)) (i : Nat) : (xs.take i).flatten.length ≤ xs.flatten.length:=by
 have : xs.flatten = (xs.take i).flatten ++ (xs.drop i).flatten:=by rw [← List.flatten_append,List.take_append_drop]
 rw [this,List.length_append];omega
theorem qac6 (hx : xs.length ≤ 1000000) (hT : xs.flatten.length ≤ 1000000) :
  ∃ y,itB (exec (evL T) itL none qby) (qq [0,3,9,10,11] true 0) ⟨[(0,(.fsl ((xs).map qbc) cl)),(3,(ii 0)),(9,(.fsl ((xs).map qbc) cl)),(10,(ii xs.length)),(11,(ii 0))],[]⟩ [] = some y ∧
   y.1 = .exit 0 ∧ y.2.1.marks = [] ∧ y.2.2 = [] ∧ Ev.look y.2.1.vars 0 = some (.fsl ((xs).map qbc) cl) ∧ Ev.look y.2.1.vars 3 = some (ii xs.flatten.length):=by
 have key:=qen (f:=exec (evL T) itL none qby) (s:=qq [0,3,9,10,11] true 0) (α:=Unit)
  (fun i _ => ⟨[(0,(.fsl ((xs).map qbc) cl)),(3,(ii ((xs.take i).flatten.length))),(9,(.fsl ((xs).map qbc) cl)),(10,(ii xs.length)),(11,(ii i))],[]⟩) (fun _ _ => [])
  (fun _ _ => True) xs.length (fun y => y.1 = .exit 0 ∧ y.2.1.marks = [] ∧ y.2.2 = [] ∧ Ev.look y.2.1.vars 0 = some (.fsl ((xs).map qbc) cl) ∧ Ev.look y.2.1.vars 3 = some (ii xs.flatten.length)) ?_ ?_ 0 () (Nat.zero_le _) trivial
 ·exact key
 ·rintro i _ hi _
  obtain ⟨x,hx'⟩ : ∃ x,xs[i]? = some x:=⟨_,List.getElem?_eq_getElem hi⟩
  have hi' : (i : Int) < (xs.length : Int):=by omega
  have hw : IntKind.i64.wrap ((i : Int) + 1) = ((i + 1 : Nat) : Int):=by rw [qas (by omega) (by omega)];simp
  have h1:=q75 xs (i + 1)
  rw [qsf hx',List.length_append] at h1
  have h2 : IntKind.i64.wrap (((xs.take i).flatten.length : Int) + (x.length : Int)) = (((xs.take i).flatten.length + x.length : Nat) : Int):=qmh (by omega)
  refine .inl ⟨(),?_,trivial⟩
  rw [qsf hx',List.length_append]
  generalize (xs.take i).flatten.length = m at h2 h1 ⊢
  have h3 : ¬ ((m + x.length : Nat) : Int) < 0:=by omega
  simp only [qby,zgs,zgr,zgq,zgt,hx',hi',hw,h2,h3,qbc,qdk,Ev.exec,qb,qe,qc,qaj,Ev.Opnd.ev,Ev.Env.get,Ev.Env.set,Ev.look,qh,qad,qaf,ql,qq,Ev.keep,qae,qw,qd,qax,qu,zgi,↓qs,Ev.it1,↓reduceIte,zga,zgb,zfe,zgh,Nat.reduceEqDiff,reduceCtorEq,zgv,zgw,zfc,zfa,zgx,zfd,zgy]
 ·rintro _ _
  simp only [qby,Int.lt_irrefl,List.take_length,Ev.exec,qb,qe,qc,qaj,Ev.Opnd.ev,Ev.Env.get,Ev.Env.set,Ev.look,ql,List.take_length,↓qs,Ev.it1,↓reduceIte,Nat.reduceEqDiff,reduceCtorEq,zgw,zfa,zgy]
  exact ⟨_,rfl,rfl,rfl,rfl,rfl,rfl⟩
def CInv (xs : List (List Evt)) (i : Nat) (a : AV × qac) : Prop :=
 (i = 0 ∧ xs.flatten.length = 0 ∧ a = (.fsl [] true,[])) ∨
 ∃ (g : Nat) (W : List Evt),a = (.sl 0 g 0 (xs.take i).flatten.length false,[.row 6 (W.map Evt.r) g]) ∧ (W = (xs.take i).flatten ∨ (xs.take i).flatten = [] ∧ 0 < xs.flatten.length)
theorem qabr (hx : xs.length ≤ 1000000) (hT : xs.flatten.length ≤ 1000000) (a : AV × qac) (ha : CInv xs 0 a) (n : Nat) :
  ∃ y,itB (exec (evL T) itL none qa6) (qq [6,25,26,27] false n) ⟨[(6,a.1),(25,(.fsl ((xs).map qbc) cl)),(26,(ii xs.length)),(27,(ii 0))],[]⟩ a.2 = some y ∧
   ∃ b,CInv xs xs.length b ∧ y.1 = .exit 2 ∧ y.2.1.marks = [] ∧ y.2.2 = b.2 ∧ Ev.look y.2.1.vars 6 = some b.1:=by
 have key:=qen (f:=exec (evL T) itL none qa6) (s:=qq [6,25,26,27] false n) (α:=AV × qac)
  (fun i a => ⟨[(6,a.1),(25,(.fsl ((xs).map qbc) cl)),(26,(ii xs.length)),(27,(ii i))],[]⟩) (fun _ a => a.2)
  (fun i a => CInv xs i a) xs.length (fun y => ∃ b,CInv xs xs.length b ∧ y.1 = .exit 2 ∧ y.2.1.marks = [] ∧ y.2.2 = b.2 ∧ Ev.look y.2.1.vars 6 = some b.1) ?_ ?_ 0 a (Nat.zero_le _) ha
 ·exact key
 ·rintro i a hi ha
  obtain ⟨x,hx'⟩ : ∃ x,xs[i]? = some x:=⟨_,List.getElem?_eq_getElem hi⟩
  have hi' : (i : Int) < (xs.length : Int):=by omega
  have hw : IntKind.i64.wrap ((i : Int) + 1) = ((i + 1 : Nat) : Int):=by rw [qas (by omega) (by omega)];simp
  have h1:=q75 xs (i + 1)
  have hfl:=qsf hx'
  rw [hfl,List.length_append] at h1
  have ok:=qem x
  rcases ha with ⟨hi0,h0,rfl⟩ | ⟨g,W,rfl,hW⟩
  ·have hfi : (xs.take i).flatten = []:=by rw [hi0];rfl
   have hx0 : x = []:=List.eq_nil_of_length_eq_zero (by omega)
   subst hx0
   refine .inl ⟨(.sl 0 0 0 0 false,[.row 6 [] 0]),?_,.inr ⟨0,[],?_,.inl ?_⟩⟩
   ·simp only [qa6,zgs,zgr,zgq,zgt,hx',hi',hw,qbc,List.map_nil,Nat.zero_mul,Nat.zero_le,Ev.exec,qb,qe,qc,qaj,qnz,Ev.Opnd.ev,Ev.Env.get,Ev.Env.set,Ev.look,qh,qbs,qad,qaf,ql,qq,Ev.keep,qbh,↓qs,Ev.it1,↓reduceIte,zga,zgb,zgl,zgn,zgh,Nat.reduceEqDiff,Nat.reduceLT,Nat.reducePow,zgv,zfa,zgx,ne_eq,not_true_eq_false,zfd,Nat.add_zero,zgy,and_false]
   ·rw [hfl,hfi];simp
   ·rw [hfl,hfi];simp
  ·by_cases hx0 : x = []
   ·subst hx0
    rw [List.append_nil] at hfl
    refine .inl ⟨(.sl 0 g 0 (xs.take i).flatten.length false,[.row 6 (W.map Evt.r) g]),?_,.inr ⟨g,W,by rw [hfl],by rw [hfl];exact hW⟩⟩
    have hWl : (xs.take i).flatten.length ≤ W.length:=by
     rcases hW with rfl | ⟨h,_⟩
     ·exact Nat.le_refl _
     ·rw [h];exact Nat.zero_le _
    have b : (xs.take i).flatten.length * 64 ≤ 140737488355328:=by have:=h1;simp at this;omega
    simp only [qa6,zgs,zgr,zgq,zgt,hx',hi',hw,qbc,List.map_nil,hWl,b,Ev.exec,qb,qe,qc,qaj,qnz,Ev.Opnd.ev,Ev.Env.get,Ev.Env.set,Ev.look,qh,qbs,qad,qaf,ql,qq,Ev.keep,qbh,zgi,↓qs,Ev.it1,↓reduceIte,zga,zgb,zgd,zgh,Nat.reduceEqDiff,Nat.reducePow,zgv,zfa,zgx,zfd,Nat.add_zero,zgy]
   ·have hWl : (xs.take i).flatten.length ≤ W.length ∧ W.take (xs.take i).flatten.length = (xs.take i).flatten:=by
     rcases hW with rfl | ⟨h,_⟩
     ·exact ⟨Nat.le_refl _,List.take_length⟩
     ·rw [h];exact ⟨Nat.zero_le _,rfl⟩
    obtain ⟨w1,w2⟩:=hWl
    have hm : x.map Evt.r ≠ []:=by simpa using hx0
    have w3 : (W.map Evt.r).take (xs.take i).flatten.length = ((xs.take i).flatten).map Evt.r:=by rw [← List.map_take,w2]
    have b : ((xs.take i).flatten.length + x.length) * 64 ≤ 140737488355328:=by omega
    refine .inl ⟨(.sl 0 (g + 1) 0 ((xs.take i).flatten.length + x.length) false,[.row 6 (((xs.take i).flatten ++ x).map Evt.r) (g + 1)]),?_,.inr ⟨g + 1,_,by rw [hfl,List.length_append],.inl hfl.symm⟩⟩
    rw [List.map_append]
    generalize (xs.take i).flatten = F at *
    simp only [qa6,zgs,zgr,zgq,zgt,hx',hi',hw,qbc,ok,hm,w1,w3,b,Ev.exec,qb,qe,qc,qaj,qnz,Ev.Opnd.ev,Ev.Env.get,Ev.Env.set,Ev.look,qh,qbs,qad,qaf,ql,qq,Ev.keep,zgi,↓qs,Ev.it1,↓reduceIte,zga,zgb,zgd,zgj,zgh,Nat.reduceEqDiff,Nat.reducePow,zgv,zfa,zgx,zfd,zgy]
 ·rintro a ha
  simp only [qa6,Int.lt_irrefl,Ev.exec,qb,qe,qc,qaj,Ev.Opnd.ev,Ev.Env.get,Ev.Env.set,Ev.look,ql,↓qs,Ev.it1,↓reduceIte,Nat.reduceEqDiff,zgw,zfa,zgy]
  exact ⟨_,rfl,a,ha,rfl,rfl,rfl,rfl⟩
theorem q6l (hx : xs.length ≤ 1000000) (hT : xs.flatten.length ≤ 1000000) (hne : xs ≠ []) :
  ∃ g : Nat,(evL T).call qaw [(.fsl ((xs).map qbc) cl)] [] = some (.sl 0 g 0 xs.flatten.length false,[.row 6 (xs.flatten.map Evt.r) g]):=by
 obtain ⟨⟨y,e,σ⟩,k1,k2,k3,k4,k5,k6⟩:=qac6 xs cl hx hT
 simp only at k1 k2 k3 k4 k5 k6
 subst k2;subst k4
 have hg:=grow_ev xs.flatten.length hT
 obtain ⟨a,n,ha,hc,hn⟩ : ∃ (a : AV × qac) (n : Nat),CInv xs 0 a ∧ (evL T).call qbb [.fsl [] true,(ii xs.flatten.length)] [] = some a ∧ a.2.length = n:=by
  by_cases h0 : xs.flatten.length = 0
  ·exact ⟨_,_,.inl ⟨rfl,h0,rfl⟩,by rw [hg,if_pos h0],rfl⟩
  ·exact ⟨(.sl 0 0 0 0 false,[.row 6 ((List.replicate xs.flatten.length zEvt).map Evt.r) 0]),_,.inr ⟨0,_,rfl,.inr ⟨rfl,by omega⟩⟩,by rw [hg,if_neg h0],rfl⟩
 obtain ⟨⟨y',e',σ'⟩,l1,b,hb,l2,l3,l4,l5⟩:=qabr xs cl hx hT a ha n
 simp only at l1 l2 l3 l4 l5
 subst l2;subst l4
 have hb' : ∃ g : Nat,b = (.sl 0 g 0 xs.flatten.length false,[.row 6 (xs.flatten.map Evt.r) g]):=by
  rcases hb with ⟨h,_⟩ | ⟨g,W,rfl,hW⟩
  ·exact absurd (List.eq_nil_of_length_eq_zero h) hne
  ·rw [List.take_length] at hW ⊢
   rcases hW with rfl | ⟨h,h2⟩
   ·exact ⟨g,rfl⟩
   ·rw [h] at h2;simp at h2
 obtain ⟨g,rfl⟩:=hb'
 refine ⟨g,?_⟩
 have himp : qhv (q4e 0) a.2 = some a.2 ∧ a.1.shift 0 = a.1:=by
  rcases ha with ⟨_,_,rfl⟩ | ⟨g,W,rfl,_⟩
  ·exact ⟨rfl,rfl⟩
  ·refine ⟨?_,rfl⟩
   simp only [q4e,qd8,qfm,qf1,qv,q4e,qfm,qd8,qf1,↓qs,zgy]
 obtain ⟨i1,i2⟩:=himp
 rw [qy qiz qis]
 simp only [qc1,k1,k3,k5,k6,hc,hn,i1,i2,l1,l3,l5,qdk,qn,Ev.exec,qb,qe,qc,qqj,qaj,Ev.evs,Ev.Opnd.ev,Ev.Env.get,Ev.Env.set,Ev.look,qo,qm,qab,qak,Ev.kill,qai,qq,Ev.keep,qae,qw,qd,qax,qu,qbj,qg,qf,qaa,zgi,↓qs,↓qan,↓reduceIte,zga,zgb,zgo,zfe,zgl,Nat.reduceEqDiff,Nat.reduceLT,reduceCtorEq,zgw,zfc,zfa,zgx,and_true,zfd,zgy]
theorem q9q (cl : Bool) : (evL T).call qaw [.fsl [] cl] [] = some (.fsl [] true,[]):=by
 cases cl
 ·exact q5b 6 (by kernel_rfl)
 ·exact q5b 6 (by kernel_rfl)
end
set_option maxRecDepth 10000
section
variable (l : List Evt) (c : Bool) (k : List Int) (d : Bool)
theorem q98 (x : Evt) (kx : x.key.length ≤ 9223372036854775807) (kk : k.length ≤ 9223372036854775807) : (evL T).call qdn [(.agg [(ii x.time),(.fsl ((x.key).map qb8) false),(ii x.lp),(ii x.kind),(ii x.proc),(ii x.arg)]),(.fptr [(.fsl ((k).map qb8) d)])] [] = some ((bb (decide (x.key = k))),[]):=by
 have h:=qsj x.key k false d kx kk
 obtain ⟨xt,xk,xl,xi,xp,xa⟩:=x
 simp only at h
 rw [qy qtq qsg]
 simp only [qkg,h,qah,qn,Ev.exec,qb,qe,qc,qa0,qaj,Ev.evs,Ev.Opnd.ev,Ev.Env.get,Ev.Env.set,Ev.look,qo,qh,qad,Ev.AV.cells,qx,Ev.AV.plain,qm,qab,qak,Ev.kill,qai,qd,qax,qu,qg,qf,↓qs,↓reduceIte,zga,zgb,zfe,zgf,zgg,zgh,Nat.reduceAdd,Nat.reduceEqDiff,reduceCtorEq,zfc,zfa,zgx,ne_eq,zfb,zff,zfd,zgy]
theorem canIdx_L (hl : l.length ≤ 1000000) (hk : qcj l) (kk : k.length ≤ 9223372036854775807) :
  ∃ y,itB (exec (evL T) itL none qbg) (qq [0,1,7,8] true 0) ⟨[(0,(.fsl ((l).map Evt.r) c)),(1,(.fn (.func qdn) [] [(.fptr [(.fsl ((k).map qb8) d)])])),(7,(ii l.length)),(8,(ii 0))],[]⟩ [] = some y ∧
   ((y.1 = .exit 0 ∧ y.2.1.marks = [] ∧ y.2.2 = [] ∧ qd9 l k = (l,false)) ∨
    ∃ (i : Nat) (x : Evt),y.1 = .ret ∧ y.2.1.marks = [] ∧ y.2.2 = [] ∧ Ev.look y.2.1.vars 4 = some (ii i) ∧ l[i]? = some x ∧ qd9 l k = (l.take i ++ l.drop (i + 1),true)):=by
 have key:=qen (f:=exec (evL T) itL none qbg) (s:=qq [0,1,7,8] true 0) (α:=Unit)
  (fun i a => ⟨[(0,(.fsl ((l).map Evt.r) c)),(1,(.fn (.func qdn) [] [(.fptr [(.fsl ((k).map qb8) d)])])),(7,(ii l.length)),(8,(ii i))],[]⟩) (fun i a => [])
  (fun i a => ∀ (j : Nat) (z : Evt),j < i → l[j]? = some z → ¬ z.key = k) l.length
  (fun y => ((y.1 = .exit 0 ∧ y.2.1.marks = [] ∧ y.2.2 = [] ∧ qd9 l k = (l,false)) ∨
    ∃ (i : Nat) (x : Evt),y.1 = .ret ∧ y.2.1.marks = [] ∧ y.2.2 = [] ∧ Ev.look y.2.1.vars 4 = some (ii i) ∧ l[i]? = some x ∧ qd9 l k = (l.take i ++ l.drop (i + 1),true))) ?_ ?_ 0 () (Nat.zero_le _) (fun j z h => by omega)
 ·exact key
 ·rintro i _ hi hinv
  obtain ⟨x,hx⟩ : ∃ x,l[i]? = some x:=⟨_,List.getElem?_eq_getElem hi⟩
  have hi' : (i : Int) < (l.length : Int):=by omega
  have hw : IntKind.i64.wrap ((i : Int) + 1) = ((i + 1 : Nat) : Int):=qme (by omega)
  have hc:=q98 k d x (hk x (List.mem_of_getElem? hx)) kk
  by_cases hxk : x.key = k
  ·have hE:=q6c l k hx hxk hinv
   rw [decide_eq_true hxk] at hc
   refine .inr ?_
   generalize qd9 l k = R at *
   have hx':=hx
   clear hinv hxk
   obtain ⟨xt,xk,xl,xi,xp,xa⟩:=x
   simp only at hc
   simp only [qbg,zgs,zgr,zgq,zgt,hx,hi',hc,Evt.r,Ev.exec,qb,qe,qc,qk9,qaj,Ev.evs,Ev.Opnd.ev,Ev.Env.get,Ev.Env.set,Ev.look,qh,qad,ql,↓qs,Ev.it1,↓reduceIte,zga,zgb,zgc,zfe,zgm,zgl,Nat.reduceAdd,Nat.reduceEqDiff,reduceCtorEq,zgv,zfd,Nat.le_refl,zgy]
   exact ⟨_,rfl,.inr ⟨i,_,rfl,rfl,rfl,rfl,hx',hE⟩⟩
  ·refine .inl ⟨(),?_,fun j z hj hz => ?_⟩
   ·rw [decide_eq_false hxk] at hc
    clear hinv
    obtain ⟨xt,xk,xl,xi,xp,xa⟩:=x
    simp only at hc
    simp only [qbg,zgs,zgr,zgq,zgt,hx,hi',hw,hc,Evt.r,qv,qah,Ev.exec,qb,qe,qc,qk9,qaj,Ev.evs,Ev.Opnd.ev,Ev.Env.get,Ev.Env.set,Ev.look,qh,qad,qaf,ql,qq,Ev.keep,qae,qw,qd,qax,qu,qbt,qfc,qg,qf,↓qs,Ev.it1,↓reduceIte,zga,zgb,zgc,zfe,zgm,zgl,Nat.reduceAdd,Nat.reduceEqDiff,reduceCtorEq,zgv,zfc,zfa,zgx,zfd,Nat.le_refl,zgy]
   ·rcases Nat.lt_or_ge j i with h1 | h1
    ·exact hinv j z h1 hz
    ·have : j = i:=by omega
     subst this
     rw [hx] at hz;cases hz;exact hxk
 ·rintro _ hinv
  have hE:=q0x l k fun x hx => by
   obtain ⟨j,hj⟩:=List.mem_iff_getElem?.1 hx
   exact hinv j x (List.getElem?_eq_some_iff.1 hj).1 hj
  generalize qd9 l k = R at *
  simp only [qbg,Int.lt_irrefl,Ev.exec,qb,qe,qc,qaj,Ev.Opnd.ev,Ev.Env.get,Ev.Env.set,Ev.look,ql,↓qs,Ev.it1,↓reduceIte,Nat.reduceEqDiff,reduceCtorEq,zgw,zfa,zgy]
  exact ⟨_,rfl,.inl ⟨rfl,rfl,rfl,hE⟩⟩
theorem qaco (hl : l.length ≤ 1000000) (hk : qcj l) (kk : k.length ≤ 9223372036854775807) :
  ∃ z : Int,(evL T).call qa9 [(.fsl ((l).map Evt.r) c),(.fn (.func qdn) [] [(.fptr [(.fsl ((k).map qb8) d)])])] [] = some ((ii z),[]) ∧ ((z = -1 ∧ qd9 l k = (l,false)) ∨ ∃ (i : Nat) (x : Evt),z = i ∧ l[i]? = some x ∧ qd9 l k = (l.take i ++ l.drop (i + 1),true)):=by
 obtain ⟨⟨y,e,σ⟩,h1,h⟩:=canIdx_L l c k d hl hk kk
 rw [qy qid qhw]
 rcases h with ⟨h2,h3,h4,h5⟩ | ⟨i,x,h2,h3,h4,h5,h6,h7⟩ <;> simp only at h2 h3 h4 <;> subst h2 <;> subst h4
 ·refine ⟨-1,?_,.inl ⟨rfl,h5⟩⟩
  simp only [qb1,h1,h3,qv,qah,qn,Ev.exec,qb,qe,qc,qaj,Ev.Opnd.ev,Ev.Env.get,Ev.Env.set,Ev.look,qo,qm,qab,qak,Ev.kill,qai,qq,Ev.keep,qae,qw,qd,qax,qu,qbt,qfc,qg,qf,zgi,↓qs,↓qan,↓reduceIte,zga,zgb,zfe,Nat.reduceAdd,Nat.reduceEqDiff,Int.reduceNeg,reduceCtorEq,zfc,zgx,zfd,zgy]
 ·refine ⟨i,?_,.inr ⟨i,x,rfl,h6,h7⟩⟩
  simp only at h5
  simp only [qb1,h1,h3,h5,qv,qah,qn,Ev.exec,qb,qe,qc,qaj,Ev.Opnd.ev,Ev.Env.get,Ev.Env.set,Ev.look,qo,qm,qab,qak,Ev.kill,qai,qq,Ev.keep,qae,qw,qd,qax,qu,qbt,qfc,qg,qf,zgi,↓qs,↓qan,↓reduceIte,zga,zgb,zfe,Nat.reduceAdd,Nat.reduceEqDiff,Int.reduceNeg,reduceCtorEq,zfc,zgx,zfd,zgy]
theorem qwn (hl : l.length ≤ 1000000) (hk : qcj l) (kk : k.length ≤ 9223372036854775807) (hc0 : l ≠ [] → c = false) :
  ∃ cf : Bool,((qd9 l k).1 ≠ [] → cf = false) ∧ qaz (evL T) qgo [(.fsl ((l).map Evt.r) c),(.fsl ((k).map qb8) d)] = some (.tup [(.fsl (((qd9 l k).1).map Evt.r) cf),(bb ((qd9 l k).2))]):=by
 obtain ⟨z,h1,h⟩:=qaco l c k false hl hk kk
 rcases h with ⟨rfl,h2⟩ | ⟨i,x,rfl,hx,h2⟩
 ·rw [h2]
  refine ⟨c,hc0,?_⟩
  rw [qaz,qy qpj qol]
  simp only [qjs,h1,qv,qn,Ev.exec,qb,qe,qc,qd6,qaj,Ev.evs,Ev.Opnd.ev,Ev.Env.get,Ev.Env.set,Ev.look,qo,Ev.AV.cells,Ev.AV.uc,qx,Ev.AV.plain,ql,qm,qab,qak,Ev.kill,qai,qd,qax,qa3,qu,qg,qf,qal,↓qs,↓reduceIte,zga,zgb,zfe,Nat.reduceAdd,Nat.reduceEqDiff,Int.reduceLT,Int.reduceNeg,reduceCtorEq,zgv,zfc,zgx,ne_eq,zfb,zff,zfd,zgy]
 ·rw [h2]
  obtain ⟨hi,_⟩:=List.getElem?_eq_some_iff.1 hx
  obtain rfl : c = false:=hc0 (by intro h;subst h;simp at hi)
  refine ⟨false,fun _ => rfl,?_⟩
  have c0 : ¬ (i : Int) < 0:=by omega
  have c1 : (i : Int) ≤ (l.length : Int):=by omega
  have c2 : (0 : Int) ≤ (i : Int):=by omega
  have c3 : ((i + 1 : Nat) : Int) ≤ (l.length : Int):=by omega
  have c4 : (0 : Int) ≤ ((i + 1 : Nat) : Int):=by omega
  have hw : IntKind.i64.wrap ((i : Int) + 1) = ((i + 1 : Nat) : Int):=qme (by omega)
  obtain ⟨g,hcc⟩:=q6l [l.take i,l.drop (i + 1)] true (by simp) (by simp;omega) (by simp)
  simp only [List.flatten_cons,List.flatten_nil,zgn,List.map_cons,List.map_nil,qbc] at hcc
  have tk : List.take i (l.map Evt.r) = (l.take i).map Evt.r:=by rw [List.map_take]
  have dr : List.drop (i + 1) (l.map Evt.r) = (l.drop (i + 1)).map Evt.r:=by rw [List.map_drop]
  have tb : List.take (l.length - (i + 1)) ((l.drop (i + 1)).map Evt.r) = (l.drop (i + 1)).map Evt.r:=List.take_of_length_le (by simp)
  have okl:=qem l
  have htk : ∀ R : List Evt,(R.map Evt.r).take R.length = R.map Evt.r:=fun R => List.take_of_length_le (by simp)
  have htk2 : List.take ((l.take i).length + (l.drop (i + 1)).length) ((l.take i ++ l.drop (i + 1)).map Evt.r) = (l.take i ++ l.drop (i + 1)).map Evt.r:=List.take_of_length_le (by rw [List.length_map,List.length_append];exact Nat.le_refl _)
  rw [qaz,qy qpj qol]
  simp only [qjs,zgr,h1,htk2,c0,c1,c2,c3,c4,hw,hcc,tk,dr,tb,okl,Int.le_refl,Nat.sub_zero,zgg,imp_self,show ∀ v : List AV,List.replicate 2 v = [v,v] from fun _ => rfl,Int.toNat_zero,qv,qn,Ev.exec,qb,qe,qc,qqj,qd6,q4e,Ev.AV.shift,qaj,Ev.evs,Ev.Opnd.ev,Ev.Env.get,Ev.Env.set,Ev.look,qo,qfx,qfl,Ev.AV.cells,Ev.AV.uc,qx,Ev.AV.plain,qaf,ql,qm,qab,qak,Ev.kill,qai,qd,qax,qa3,qu,qbj,qg,qf,qaa,qag,qal,qsu,qfw,qea,qfm,qd8,qf1,zgi,↓qs,↓reduceIte,zga,zgb,zgp,zgd,zgo,zgg,zgl,zgj,zgk,Nat.reduceAdd,Nat.reduceEqDiff,Nat.reduceMul,Nat.reduceLT,Nat.reduceLeDiff,Nat.reducePow,reduceCtorEq,zgv,zgw,zfc,Bool.and_true,zfa,zgx,and_true,ne_eq,zfb,zff,zfd,Nat.add_zero,zgu,Nat.le_refl,Option.isSome_some,Option.isSome_none,zgy,implies_true,Bool.false_and]
end
set_option maxRecDepth 10000
section
variable {c : Cfg} {s : Sim} {h : List Evt}
theorem qmz (h : List Evt) (e : Evt) (i : Nat) : qbq (h ++ [e]) i = if e.lp = i then qbq h i ++ [e] else qbq h i:=by
 unfold qbq
 rw [List.filter_append,List.filter_cons,List.filter_nil]
 by_cases k : e.lp = i
 ·rw [if_pos k,if_pos (by simpa using k)]
 ·rw [if_neg k,if_neg (by simpa using k),List.append_nil]
theorem badP_iff {c : Cfg} {q : Pr} (h : badP c q = false) : 0 ≤ q.prog ∧ q.prog < c.progs.length ∧ 0 ≤ q.pc ∧ q.pc ≤ ((c.progs[q.prog.toNat]?).getD []).length:=by
 simp only [badP,Bool.not_eq_false',Bool.and_eq_true,decide_eq_true_eq] at h
 omega
theorem SInvK.stepP (H : SInvK c s h) {e : Evt} {rest P T : List Evt} (ov : Bool) (hp : s.pend.Perm (e :: rest)) (hn : h.length ≤ 20000) (hP : (P ++ T).Perm (rest ++ (qba c (lpAt s e.lp) e).out)) :
  SInvK c ⟨s.trace.set e.lp.toNat (qrq s e.lp ++ [e]),s.lps.set e.lp.toNat (qba c (lpAt s e.lp) e).lp,P,s.n + 1,ov⟩ (h ++ [e]):=by
 have hme : e ∈ s.pend:=hp.mem_iff.2 (by simp)
 obtain ⟨x,hx,hlx,R⟩:=H.headM hme hn
 have hkn:=H.keyNeP hp hn
 have ge:=H.ev e (List.mem_append_right _ hme)
 have hxl:=H.lp x (List.mem_of_getElem? hx)
 obtain ⟨X,oX,o1,o2⟩:=R.outs
 obtain ⟨z1,_,z3,_,_,_⟩:=R.sizes
 obtain ⟨t1,t2⟩:=R.tims (B:=2 + (h.length + 1)) (by have:=ge.key;omega) (fun q hq => by have:=(hxl.2 q hq).2.2.2.2;omega)
 obtain ⟨st1,st2⟩:=R.state
 rw [hlx] at hkn hP
 have hmem : ∀ b,b ∈ P → b ∈ rest ∨ b ∈ (qba c x e).out:=fun b hb => List.mem_append.1 (hP.mem_iff.1 (List.mem_append_left _ hb))
 have hlpn : e.lp.toNat < c.lps.length:=by have:=ge.lp;omega
 have hout : ∀ b ∈ (qba c x e).out,∃ k,EvOk c e X k b:=fun b hb => by
  obtain ⟨k,hk⟩:=List.mem_iff_getElem?.1 hb
  exact ⟨k,o1 k b hk⟩
 have rpe : ∀ b ∈ rest,b ∈ s.pend:=fun b hb => hp.mem_iff.2 (List.mem_cons_of_mem _ hb)
 have rev : ∀ b ∈ rest,b ∈ h ++ s.pend:=fun b hb => List.mem_append_right _ (rpe b hb)
 have evOut : ∀ b ∈ (qba c x e).out,EvG c (h.length + 1) b:=fun b hb => by
  obtain ⟨k,a1,⟨m,hm,_⟩,a3,a4⟩:=hout b hb
  obtain ⟨u1,u2⟩:=t1 b hb
  have hkl : b.key.length = e.key.length + 1:=by rw [hm];simp
  by_cases k3 : b.kind = 3
  ·obtain ⟨c1,c2,_⟩:=a3 k3
   exact ⟨⟨c1,c2⟩,by have:=ge.time;omega,by have:=ge.key;omega,by rw [u1 k3];omega,fun k2 => by omega⟩
  ·obtain ⟨c1,c2,c3,c4⟩:=a4 k3
   rw [oX] at c3
   refine ⟨by rw [c1];exact ge.lp,by have:=ge.time;omega,by have:=ge.key;omega,by omega,fun k2 => ?_⟩
   obtain ⟨q,p,_,hpp,_,d1,d2⟩:=u2 k2
   have:=(H.valid.prog p (List.mem_of_getElem? hpp)).2.1
   omega
 have newProg : ∀ (j : Nat) (q : Pr),x.procs[j]? = some q → ∃ q',(qba c x e).lp.procs[j]? = some q' ∧ q'.prog = q.prog:=fun j q hq => by
  have hj:=(List.getElem?_eq_some_iff.1 hq).1
  obtain ⟨q',hq'⟩ : ∃ q',(qba c x e).lp.procs[j]? = some q':=⟨_,List.getElem?_eq_getElem (by omega)⟩
  exact ⟨q',hq',((st2 j q' hq').2.2 q hq).1⟩
 have setSelf : (s.lps.set e.lp.toNat (qba c x e).lp)[e.lp.toNat]? = some (qba c x e).lp:=List.getElem?_set_self (by rw [H.lpl];exact hlpn)
 rw [hlx]
 refine ⟨H.valid,by show s.n + 1 = _;rw [H.n];simp,by show (s.trace.set _ _).length = _;rw [List.length_set];exact H.trl,?_,by show (s.lps.set _ _).length = _;rw [List.length_set];exact H.lpl,?_,?_,?_,?_,?_,?_,?_,?_⟩
 ·intro i hi
  show (s.trace.set e.lp.toNat (qrq s e.lp ++ [e]))[i]? = _
  rw [qmz]
  by_cases k : e.lp = i
  ·have : e.lp.toNat = i:=by omega
   rw [if_pos k,this,List.getElem?_set_self (by rw [H.trl];exact hi)]
   unfold qrq
   rw [this,H.tr i hi];rfl
  ·rw [if_neg k,List.getElem?_set_ne (by have:=ge.lp;omega)];exact H.tr i hi
 ·intro y hy
  rw [List.length_append]
  rcases List.mem_or_eq_of_mem_set hy with hy | rfl
  ·have:=H.lp y hy
   exact ⟨this.1,fun q hq => by obtain ⟨a,b,d,f,g⟩:=this.2 q hq;exact ⟨a,b,d,f,by omega⟩⟩
  ·refine ⟨z1,fun q hq => ?_⟩
   obtain ⟨j,hj⟩:=List.mem_iff_getElem?.1 hq
   obtain ⟨a,b,d,f⟩:=badP_iff (st2 j q hj).1
   exact ⟨a,b,d,f,t2 q hq⟩
 ·show qlb ((h ++ [e]) ++ P)
  have:=qlb.perm hkn (hP.append_left (h ++ [e]))
  exact List.Pairwise.sublist ((List.sublist_append_left P T).append_left _) this
 ·intro b hb
  rw [List.length_append]
  rcases List.mem_append.1 hb with hb | hb
  ·refine (H.ev b ?_).mono (by simp)
   rcases List.mem_append.1 hb with hb | hb
   ·exact List.mem_append_left _ hb
   ·rw [List.mem_singleton] at hb;subst hb;exact List.mem_append_right _ hme
  ·rcases hmem b hb with hb | hb
   ·exact (H.ev b (rev b hb)).mono (by simp)
   ·exact evOut b hb
 ·intro b hb hk
  show ∃ x' q p,(s.lps.set e.lp.toNat (qba c x e).lp)[b.lp.toNat]? = some x' ∧ _
  rcases hmem b hb with hb | hb
  ·obtain ⟨x',q,p,h1,h2,h3,h4⟩:=H.tim b (rpe b hb) hk
   by_cases k : e.lp.toNat = b.lp.toNat
   ·rw [← k] at h1;rw [hx] at h1;cases h1
    obtain ⟨q',g1,g2⟩:=newProg _ q h2
    exact ⟨_,q',p,by rw [← k];exact setSelf,g1,by rw [g2];exact h3,h4⟩
   ·exact ⟨x',q,p,by rw [List.getElem?_set_ne k];exact h1,h2,h3,h4⟩
  ·obtain ⟨k,_,_,_,a4⟩:=hout b hb
   obtain ⟨c1,_⟩:=a4 (by omega)
   obtain ⟨q,p,g1,g2,g3,g4⟩:=(t1 b hb).2 hk
   obtain ⟨q',g5,g6⟩:=newProg _ q g1
   exact ⟨_,q',p,by rw [c1];exact setSelf,by rw [g3];exact g5,by rw [g6];exact g2,g4⟩
 ·intro b hb
  have old : b ∈ h ++ s.pend → b.key.length = 2 ∨ ∃ p ∈ h ++ [e],∃ m,b.key = p.key ++ [m] ∧ p.time < b.time:=fun hb => by
   rcases H.par b hb with g | ⟨p,g1,g2⟩
   ·exact .inl g
   ·exact .inr ⟨p,List.mem_append_left _ g1,g2⟩
  rcases List.mem_append.1 hb with hb | hb
  ·refine old ?_
   rcases List.mem_append.1 hb with hb | hb
   ·exact List.mem_append_left _ hb
   ·rw [List.mem_singleton] at hb;subst hb;exact List.mem_append_right _ hme
  ·rcases hmem b hb with hb | hb
   ·exact old (rev b hb)
   ·obtain ⟨k,a1,⟨m,hm,_⟩,_⟩:=hout b hb
    exact .inr ⟨e,by simp,m,hm,a1.1⟩
 ·show P.length ≤ _
  have h1:=hP.length_eq
  have h2:=H.len
  rw [hp.length_eq] at h2
  simp only [zgp,zga,zgb] at h1 h2 ⊢
  omega
 ·intro i hi
  show (s.lps.set e.lp.toNat (qba c x e).lp)[i]? = _
  rw [qmz]
  by_cases k : e.lp = i
  ·have hki : e.lp.toNat = i:=by omega
   have hr:=H.rep i hi
   rw [← hki,hx,hki] at hr
   rw [if_pos k]
   unfold qab1 at hr ⊢
   rw [List.foldl_append,List.foldl_cons,List.foldl_nil,← Option.some.inj hr]
   have:=setSelf;rw [hki] at this ⊢;exact this
  ·rw [if_neg k,List.getElem?_set_ne (by have:=ge.lp;omega)];exact H.rep i hi
 ·intro i hi k b hb
  rw [qmz] at hb ⊢
  by_cases hl : e.lp = i
  ·rw [if_pos hl] at hb ⊢
   by_cases hk : k < (qbq h i).length
   ·rw [List.getElem?_append_left hk] at hb
    rw [List.take_append_of_le_length (by omega)]
    exact H.rdy i hi k b hb
   ·have hk2:=(List.getElem?_eq_some_iff.1 hb).1
    simp at hk2
    obtain rfl : k = (qbq h i).length:=by omega
    simp at hb
    subst hb
    rw [List.take_append_of_le_length (Nat.le_refl _),List.take_length]
    have hr:=H.rep i hi
    have hki : e.lp.toNat = i:=by omega
    rw [← hki,hx,hki] at hr
    rw [← Option.some.inj hr]
    exact R
  ·rw [if_neg hl] at hb ⊢
   exact H.rdy i hi k b hb
theorem SInv.step (H : SInv c s h) {e : Evt} {rest : List Evt} (hp : s.pend = e :: rest) (hn : h.length ≤ 20000) (hf : e.time < c.fin) : SInv c (s.step c e rest) (h ++ [e]):=by
 obtain ⟨x,hx,hlx,R⟩:=H.head hp hn
 obtain ⟨X,oX,o1,o2⟩:=R.outs
 have hP : ∃ T,(sortL ((rest ++ (qba c (lpAt s e.lp) e).out).filter (qk7 (qba c (lpAt s e.lp) e).gone)) ++ T).Perm (rest ++ (qba c (lpAt s e.lp) e).out) :=
  ⟨_,((qd0 _).append_right _).trans (List.filter_append_perm _ _)⟩
 obtain ⟨T,hT⟩:=hP
 refine ⟨H.toSInvK.stepP _ (by rw [hp]) hn hT,qgc _,?_,?_,?_⟩
 ·rw [List.pairwise_append]
  exact ⟨H.ord,List.pairwise_singleton _ _,fun a ha b hb => by rw [List.mem_singleton] at hb;subst hb;exact H.ord2 a ha b (by rw [hp];simp)⟩
 ·intro a ha b hb
  have hb' : b ∈ rest ∨ b ∈ (qba c x e).out:=by
   rw [← hlx];exact List.mem_append.1 (hT.mem_iff.1 (List.mem_append_left _ hb))
  have lee : leE e b:=by
   rcases hb' with hb | hb
   ·have:=H.sorted;rw [hp,List.pairwise_cons] at this;exact this.1 b hb
   ·obtain ⟨k,hk⟩:=List.mem_iff_getElem?.1 hb;exact leE_time (o1 k b hk).1.1
  rcases List.mem_append.1 ha with ha | ha
  ·exact qlk a e b (H.ord2 a ha e (by rw [hp];simp)) lee
  ·rw [List.mem_singleton] at ha;subst ha;exact lee
 ·intro a ha
  rcases List.mem_append.1 ha with ha | ha
  ·exact H.fin a ha
  ·rw [List.mem_singleton] at ha;subst ha;exact hf
end
set_option maxRecDepth 10000
theorem q7q (lps : List (List Start)) : qlb (qk4 lps):=by
 have ne : ∀ {k k' i i' : Nat} {s s' : Start},(qkd k i s).key = (qkd k' i' s').key → k = k' ∧ i = i':=by
  intro k k' i i' s s' h
  simp only [qkd,List.cons.injEq,and_true] at h
  omega
 unfold qlb qk4
 rw [List.pairwise_flatten]
 constructor
 ·intro r hr
  obtain ⟨k,hk⟩:=List.mem_iff_getElem?.1 hr
  rw [List.getElem?_mapIdx] at hk
  cases hl : lps[k]? with
  | none => rw [hl] at hk;cases hk
  | some l =>
   rw [hl] at hk;cases hk
   rw [List.pairwise_iff_getElem]
   intro i j hi hj hij h
   simp only [qll,List.getElem_mapIdx] at h
   have:=(ne h).2;omega
 ·rw [List.pairwise_iff_getElem]
  intro k k' hk hk' hkk x hx y hy h
  simp only [List.getElem_mapIdx] at hx hy
  obtain ⟨i,s,_,rfl⟩:=qqv hx
  obtain ⟨i',s',_,rfl⟩:=qqv hy
  have:=(ne h).1;omega
section
variable {c : Cfg}
theorem q6t (c : Cfg) : (start c).lps = (qaap c.lps).map fun ps => (⟨0,0,ps,0⟩ : Lp):=by
 simp only [start,ql1,List.map_map];rfl
theorem SInv.start (hv : Valid c) : SInv c (start c) []:=by
 have hm : ∀ e ∈ sortL (qk4 c.lps),e ∈ qk4 c.lps:=fun e he => (qd0 _).mem_iff.1 he
 have hv1:=hv.lps
 refine ⟨⟨hv,rfl,by simp [K.start],fun i hi => ?_,by rw [q6t];simp [qaap],?_,?_,?_,?_,?_,?_,?_,fun i hi k e he => by simp [qbq] at he⟩,qgc _,.nil,fun a ha => by simp at ha,fun e he => by simp at he⟩
 ·simp [K.start,qbq,hi]
 ·intro x hx
  rw [q6t,List.mem_map] at hx
  obtain ⟨ps,hps,rfl⟩:=hx
  simp only [qaap,List.mem_map] at hps
  obtain ⟨l,hl,rfl⟩:=hps
  refine ⟨by have:=hv.lp l hl;simp;omega,fun q hq => ?_⟩
  simp only [List.mem_map] at hq
  obtain ⟨st,hst,rfl⟩:=hq
  obtain ⟨a,b,_⟩:=hv.start l hl st hst
  exact ⟨a,b,by simp [stP],by simp [stP],by simp [stP]⟩
 ·rw [List.nil_append];exact qlb.perm (q7q _) (qd0 _)
 ·intro e he
  rw [List.nil_append] at he
  obtain ⟨k,l,i,s,h1,h2,rfl⟩:=qvi (hm e he)
  have k1:=(List.getElem?_eq_some_iff.1 h1).1
  have k2:=(List.getElem?_eq_some_iff.1 h2).1
  have k3:=hv.lp l (List.mem_of_getElem? h1)
  obtain ⟨a,b,d,f⟩:=hv.start l (List.mem_of_getElem? h1) s (List.mem_of_getElem? h2)
  exact ⟨by simp only [qkd];omega,⟨d,f⟩,by simp [qkd],by simp only [qkd];omega,fun hk => by simp [qkd] at hk⟩
 ·intro e he hk
  obtain ⟨k,l,i,s,h1,h2,rfl⟩:=qvi (hm e he)
  simp [qkd] at hk
 ·intro e he
  rw [List.nil_append] at he
  obtain ⟨k,l,i,s,h1,h2,rfl⟩:=qvi (hm e he)
  exact .inl (by simp [qkd])
 ·show (sortL _).length ≤ _
  rw [(qd0 _).length_eq]
  have:=q6s (lps:=c.lps) (m:=8) (fun l hl => hv.lp l hl)
  simp only [zgb];omega
 ·intro i hi
  show ((ql1 c.lps).map Prod.fst)[i]? = _
  have : i < ((ql1 c.lps).map Prod.fst).length:=by simp [ql1,qaap];exact hi
  rw [List.getElem?_eq_getElem this];rfl
variable {s : Sim} {h : List Evt}
theorem q3v (hr : s.ready c = true) : ∃ e rest,s.pend = e :: rest ∧ e.time < c.fin:=by
 unfold Sim.ready at hr
 split at hr
 ·cases hr
 next e rest hp => exact ⟨e,rest,hp,of_decide_eq_true hr⟩
theorem go_eq {e : Evt} {rest : List Evt} (hp : s.pend = e :: rest) : s.go c = s.step c e rest:=by unfold Sim.go;rw [hp]
theorem SInv.run : ∀ (k : Nat) {s : Sim} {h : List Evt},SInv c s h → h.length + k ≤ 20000 → ∃ h',SInv c (Sim.run c k s) (h ++ h') ∧ h'.length ≤ k ∧ (h'.length = k ∨ (Sim.run c k s).ready c = false)
 | 0,s,h,H,_ => ⟨[],by rw [List.append_nil];exact H,Nat.le_refl _,.inl rfl⟩
 | k + 1,s,h,H,hk => by
  unfold Sim.run
  by_cases hr : s.ready c = true
  ·rw [if_pos hr]
   obtain ⟨e,rest,hp,hf⟩:=q3v hr
   rw [go_eq hp]
   obtain ⟨h',g1,g2,g3⟩:=SInv.run k (H.step hp (by omega) hf) (by simp;omega)
   refine ⟨e :: h',by simpa using g1,by simp;omega,?_⟩
   rcases g3 with g3 | g3
   ·exact .inl (by simp;omega)
   ·exact .inr g3
  ·rw [if_neg hr]
   exact ⟨[],by rw [List.append_nil];exact H,Nat.zero_le _,.inr (by simpa using hr)⟩
end
set_option maxRecDepth 10000
structure WSt where
 lp : Lp
 box : List Evt
 done : List Evt
 sent : List Evt
 over : Bool
def qmr (i : Int) (p : List Evt × List Evt) (n : Evt) : List Evt × List Evt:=if n.lp = i then (sortL (n :: p.1),p.2) else (p.1,p.2 ++ [n])
def qdq (i : Int) (p : List Evt × List Evt) (l : List Evt) : List Evt × List Evt:=l.foldl (qmr i) p
def qsw (b : List Evt) (g : List (List Int)) : List Evt:=g.foldl (fun b k => (qd9 b k).1) b
def WSt.step (c : Cfg) (w : WSt) (e : Evt) (rest : List Evt) : WSt :=
 ⟨(qba c w.lp e).lp,qsw (qdq e.lp (rest,w.sent) (qba c w.lp e).out).1 (qba c w.lp e).gone,w.done ++ [e],(qdq e.lp (rest,w.sent) (qba c w.lp e).out).2,w.over || (qba c w.lp e).over⟩
def WSt.run (c : Cfg) (hor : Int) : Nat → WSt → WSt
 | 0,w => w
 | k + 1,w => match w.box with
  | [] => w
  | e :: rest => if e.time < hor then WSt.run c hor k (w.step c e rest) else w
theorem q71 (l : List Evt) (k : List Int) : (qd9 l k).1.Sublist l:=List.eraseP_sublist
theorem qaak (b : List Evt) (k : List Int) (g : List (List Int)) : qsw b (k :: g) = qsw (qd9 b k).1 g:=rfl
theorem q32 (b : List Evt) (k : List Int) (g : List (List Int)) : qsw b (g ++ [k]) = (qd9 (qsw b g) k).1:=by unfold qsw;rw [List.foldl_append];rfl
theorem qoy : ∀ (g : List (List Int)) (b : List Evt),(qsw b g).Sublist b
 | [],b => List.Sublist.refl _
 | k :: g,b => by rw [qaak];exact (qoy g _).trans (q71 b k)
theorem q8f (i : Int) (p : List Evt × List Evt) (n : Evt) (l : List Evt) : qdq i p (n :: l) = qdq i (qmr i p n) l:=rfl
theorem q1u (i : Int) (p : List Evt × List Evt) (n : Evt) (l : List Evt) : qdq i p (l ++ [n]) = qmr i (qdq i p l) n:=by unfold qdq;rw [List.foldl_append];rfl
theorem qz5 (i : Int) (p : List Evt × List Evt) (n : Evt) (l : List Evt) : ((qmr i p n).1 ++ ((qmr i p n).2 ++ l)).Perm (p.1 ++ (p.2 ++ n :: l)):=by
 unfold qmr
 split
 ·refine ((qd0 (n :: p.1)).append_right _).trans ?_
  have h:=(List.perm_middle (a:=n) (l₁:=p.1 ++ p.2) (l₂:=l)).symm
  rw [List.append_assoc,List.append_assoc] at h
  rw [List.cons_append];exact h
 ·show (p.1 ++ ((p.2 ++ [n]) ++ l)).Perm _
  rw [List.append_assoc];exact .refl _
theorem qoo (i : Int) : ∀ (l : List Evt) (p : List Evt × List Evt) (m : List Evt),((qdq i p l).1 ++ ((qdq i p l).2 ++ m)).Perm (p.1 ++ (p.2 ++ (l ++ m)))
 | [],p,m => .refl _
 | n :: l,p,m => (qoo i l (qmr i p n) m).trans (qz5 i p n (l ++ m))
theorem qv1 (i : Int) : ∀ (l : List Evt) (p : List Evt × List Evt),p.1.Pairwise leE → (qdq i p l).1.Pairwise leE
 | [],p,h => h
 | n :: l,p,h => qv1 i l _ (by unfold qmr;split;exact qgc _;exact h)
theorem q36 (i : Int) : ∀ (l : List Evt) (p : List Evt × List Evt),(∀ b ∈ p.1,b.lp = i) → ∀ b ∈ (qdq i p l).1,b.lp = i
 | [],p,h => h
 | n :: l,p,h => q36 i l _ (by
  unfold qmr;split
  ·intro b hb
   rcases List.mem_cons.1 ((qd0 _).mem_iff.1 hb) with rfl | hb
   ·assumption
   ·exact h b hb
  ·exact h)
theorem qri (i : Int) : ∀ (l : List Evt) (p : List Evt × List Evt),(qdq i p l).2 = p.2 ++ l.filter (fun n => !decide (n.lp = i))
 | [],p => by simp [qdq]
 | n :: l,p => by
  rw [q8f,qri i l]
  unfold qmr
  by_cases h : n.lp = i
  ·rw [if_pos h,List.filter_cons,if_neg (by simp [h])]
  ·rw [if_neg h,List.filter_cons,if_pos (by simp [h])];simp
structure PlOk (p : List Evt × List Evt) (l : List Evt) : Prop where
 sorted : p.1.Pairwise leE
 keys : qlb (p.1 ++ (p.2 ++ l))
 len : (p.1 ++ (p.2 ++ l)).length ≤ 1000000
 ok : qcj (p.1 ++ (p.2 ++ l))
theorem PlOk.next {p : List Evt × List Evt} {n : Evt} {l : List Evt} (i : Int) (h : PlOk p (n :: l)) : PlOk (qmr i p n) l:=by
 have hp:=qz5 i p n l
 refine ⟨?_,qlb.perm h.keys hp,by rw [hp.length_eq];exact h.len,fun x hx => h.ok x (hp.mem_iff.1 hx)⟩
 unfold qmr;split
 ·exact qgc _
 ·exact h.sorted
theorem PlOk.at (i : Int) : ∀ {l : List Evt} {p : List Evt × List Evt} (h : PlOk p l) (j : Nat),PlOk (qdq i p (l.take j)) (l.drop j)
 | [],p,h,j => by simpa [qdq] using h
 | n :: l,p,h,0 => h
 | n :: l,p,h,j + 1 => PlOk.at i (h.next i) j
theorem PlOk.ins {p : List Evt × List Evt} {n : Evt} {l : List Evt} (h : PlOk p (n :: l)) : p.1.length ≤ 1000000 ∧ qcj p.1 ∧ n.key.length ≤ 9223372036854775807 ∧ p.1.Pairwise leE ∧ qr1 (n :: p.1):=by
 refine ⟨by have:=h.len;rw [List.length_append] at this;omega,fun x hx => h.ok x (by simp [hx]),h.ok n (by simp),h.sorted,?_⟩
 have hs : (p.1 ++ [n]).Sublist (p.1 ++ (p.2 ++ n :: l)):=List.Sublist.append_left ((List.singleton_sublist.2 (by simp))) p.1
 exact (qlb.dist (List.Pairwise.sublist hs h.keys)).perm (List.perm_append_singleton n p.1).symm
structure WInv (c : Cfg) (i : Nat) (w : WSt) (O : List Evt) (S : Sim) (H : List Evt) : Prop where
 K : SInvK c S H
 il : i < c.lps.length
 lp : S.lps[i]? = some w.lp
 sub : ∃ T,(w.box ++ (w.sent ++ (O ++ T))).Perm S.pend
 sorted : w.box.Pairwise leE
 own : ∀ b ∈ w.box,b.lp = i
section
variable {c : Cfg} {i : Nat} {w : WSt} {O : List Evt} {S : Sim} {H : List Evt}
theorem WInv.mem (h : WInv c i w O S H) {e : Evt} (he : e ∈ w.box ∨ e ∈ w.sent ∨ e ∈ O) : e ∈ S.pend:=by
 obtain ⟨T,hT⟩:=h.sub
 refine hT.mem_iff.1 ?_
 rcases he with he | he | he <;> simp [he]
theorem WInv.ready (h : WInv c i w O S H) (hn : H.length ≤ 20000) {e : Evt} {rest : List Evt} (hb : w.box = e :: rest) : e.lp = i ∧ Ready c w.lp e ∧ lpAt S e.lp = w.lp:=by
 have h1:=h.own e (by rw [hb];simp)
 obtain ⟨x,hx,hl,R⟩:=h.K.headM (h.mem (e:=e) (.inl (by rw [hb];simp))) hn
 rw [h1,Int.toNat_natCast,h.lp] at hx
 cases hx
 exact ⟨h1,R,hl⟩
theorem WInv.len (h : WInv c i w O S H) : w.box.length + (w.sent.length + O.length) ≤ 64 + 16 * H.length:=by
 obtain ⟨T,hT⟩:=h.sub
 have:=hT.length_eq
 have:=h.K.len
 simp only [zgp] at *
 omega
theorem WInv.keyLen (h : WInv c i w O S H) {e : Evt} (he : e ∈ w.box ∨ e ∈ w.sent ∨ e ∈ O) : e.key.length ≤ 2 + H.length:=(h.K.ev e (List.mem_append_right _ (h.mem he))).key.2
theorem WInv.plOk (h : WInv c i w O S H) (hn : H.length ≤ 20000) {e : Evt} {rest : List Evt} (hb : w.box = e :: rest) : PlOk (rest,w.sent) (qba c w.lp e).out:=by
 obtain ⟨h1,R,hl⟩:=h.ready hn hb
 obtain ⟨T,hT⟩:=h.sub
 rw [hb] at hT
 have hk:=h.K.keyNeP hT.symm hn
 rw [hl] at hk
 have hk2:=(List.pairwise_append.1 hk).2.1
 have hsub : (rest ++ (w.sent ++ (qba c w.lp e).out)).Sublist (rest ++ (w.sent ++ (O ++ T)) ++ (qba c w.lp e).out):=by
  rw [List.append_assoc]
  refine List.Sublist.append_left ?_ rest
  rw [List.append_assoc]
  exact List.Sublist.append_left (List.sublist_append_right _ _) _
 have hl1:=h.len
 have hz:=R.sizes
 rw [hb] at hl1
 refine ⟨?_,List.Pairwise.sublist hsub hk2,?_,?_⟩
 ·have:=h.sorted;rw [hb,List.pairwise_cons] at this;exact this.2
 ·simp only [zgp,zga] at hl1 ⊢;omega
 ·intro x hx
  simp only [List.mem_append] at hx
  rcases hx with hx | hx | hx
  ·have:=h.keyLen (e:=x) (.inl (by rw [hb];simp [hx]));omega
  ·have:=h.keyLen (e:=x) (.inr (.inl hx));omega
  ·have:=hz.2.2.2.1 x hx;omega
theorem WInv.step2 (h : WInv c i w O S H) (hn : H.length ≤ 20000) {e : Evt} {rest : List Evt} (hb : w.box = e :: rest) {T : List Evt} (hp : S.pend.Perm (e :: (rest ++ (w.sent ++ (O ++ T))))) :
  ∃ S' : Sim,WInv c i (w.step c e rest) O S' (H ++ [e]) ∧ S'.lps = S.lps.set i (w.step c e rest).lp ∧ S'.pend = rest ++ (w.sent ++ (O ++ T)) ++ (qba c w.lp e).out:=by
 obtain ⟨h1,R,hl⟩:=h.ready hn hb
 have hK:=h.K.stepP (P:=rest ++ (w.sent ++ (O ++ T)) ++ (qba c w.lp e).out) (T:=[]) false hp hn (by rw [hl,List.append_nil])
 rw [hl] at hK
 have hi : e.lp.toNat = i:=by omega
 refine ⟨_,⟨hK,h.il,?_,?_,?_,?_⟩,by rw [hi];rfl,rfl⟩
 ·show (S.lps.set e.lp.toNat (qba c w.lp e).lp)[i]? = _
  rw [hi,List.getElem?_set_self (by rw [h.K.lpl];exact h.il)];rfl
 ·show ∃ T',(qsw (qdq e.lp (rest,w.sent) (qba c w.lp e).out).1 (qba c w.lp e).gone ++ ((qdq e.lp (rest,w.sent) (qba c w.lp e).out).2 ++ (O ++ T'))).Perm (rest ++ (w.sent ++ (O ++ T)) ++ (qba c w.lp e).out)
  have hs:=qoy (qba c w.lp e).gone (qdq e.lp (rest,w.sent) (qba c w.lp e).out).1
  have hpl:=qoo e.lp (qba c w.lp e).out (rest,w.sent) (O ++ T)
  generalize (qdq e.lp (rest,w.sent) (qba c w.lp e).out).1 = B at *
  generalize (qdq e.lp (rest,w.sent) (qba c w.lp e).out).2 = Z at *
  generalize qsw B (qba c w.lp e).gone = B' at *
  obtain ⟨D,hD⟩ : ∃ D,(B' ++ D).Perm B:=by
   clear hpl hK
   induction hs with
   | slnil => exact ⟨[],.refl _⟩
   | cons a _ ih => obtain ⟨D,hD⟩:=ih;exact ⟨a :: D,List.perm_middle.trans (hD.cons a)⟩
   | cons_cons a _ ih => obtain ⟨D,hD⟩:=ih;exact ⟨D,hD.cons a⟩
  refine ⟨D ++ T,?_⟩
  have e1 : (B' ++ (Z ++ (O ++ (D ++ T)))).Perm ((B' ++ D) ++ (Z ++ (O ++ T))):=by
   rw [List.append_assoc]
   refine List.Perm.append_left B' ?_
   have : (Z ++ (O ++ (D ++ T))) = (Z ++ O) ++ (D ++ T):=by simp
   rw [this]
   refine (List.perm_append_comm_assoc (Z ++ O) D T).trans ?_
   simp
  refine e1.trans ((hD.append_right _).trans (hpl.trans ?_))
  simp only [List.append_assoc]
  refine List.Perm.append_left rest (List.Perm.append_left w.sent ?_)
  refine (List.perm_append_comm (l₁:=(qba c w.lp e).out) (l₂:=O ++ T)).trans ?_
  simp
 ·have hs:=qoy (qba c w.lp e).gone (qdq e.lp (rest,w.sent) (qba c w.lp e).out).1
  refine List.Pairwise.sublist hs (qv1 _ _ _ ?_)
  have:=h.sorted;rw [hb,List.pairwise_cons] at this;exact this.2
 ·intro b hbm
  have hs:=qoy (qba c w.lp e).gone (qdq e.lp (rest,w.sent) (qba c w.lp e).out).1
  have:=q36 e.lp (qba c w.lp e).out (rest,w.sent) (fun b hb' => by rw [h1];exact h.own b (by rw [hb];simp [hb'])) b (hs.subset hbm)
  rw [this,h1]
theorem WInv.step (h : WInv c i w O S H) (hn : H.length ≤ 20000) {e : Evt} {rest : List Evt} (hb : w.box = e :: rest) :
  ∃ S' : Sim,WInv c i (w.step c e rest) O S' (H ++ [e]) ∧ S'.lps = S.lps.set i (w.step c e rest).lp:=by
 obtain ⟨T,hT⟩:=h.sub
 obtain ⟨S',g1,g2,_⟩:=h.step2 hn hb (T:=T) (by rw [hb] at hT;exact hT.symm)
 exact ⟨S',g1,g2⟩
end
set_option maxRecDepth 10000
def qv7 (a b : Int) : Int:=if b < a then b else a
def qnb (bs : List (List Evt)) : List Int:=(bs.filterMap List.head?).map Evt.time
def qni (bs : List (List Evt)) : Option Int:=match qnb bs with
 | [] => none
 | x :: r => some (r.foldl qv7 x)
theorem q73 (bs : List (List Evt)) (b : List Evt) : qnb (bs ++ [b]) = qnb bs ++ (b.head?.map Evt.time).toList:=by
 unfold qnb
 rw [List.filterMap_append,List.map_append]
 cases b <;> simp
theorem q3p (bs : List (List Evt)) : (qnb bs).length ≤ bs.length:=by
 unfold qnb;rw [List.length_map];exact List.length_filterMap_le _ _
theorem min_ev (x : Int) (r : List Int) (c : Bool) (h : r.length ≤ 1000) : qaz (evL T) qed [(.fsl ((x :: r).map qb8) c)] = some (ii (r.foldl qv7 x)):=by
 have hL : ∃ y,itB (exec (evL T) itL none qe8) (qq [0,3,4] true 0) ⟨[(0,(.fsl ((x :: r).map qb8) c)),(3,(ii x)),(4,(ii ((1 : Nat))))],[]⟩ [] = some y ∧ (y.1 = .exit 0 ∧ y.2.1.marks = [] ∧ y.2.2 = [] ∧ Ev.look y.2.1.vars 3 = some (ii (r.foldl qv7 x))):=by
  have key:=qen (f:=exec (evL T) itL none qe8) (s:=qq [0,3,4] true 0) (α:=Int)
   (fun i a => ⟨[(0,(.fsl ((x :: r).map qb8) c)),(3,(ii a)),(4,(ii (i + 1 : Nat)))],[]⟩) (fun _ _ => []) (fun i a => a = (r.take i).foldl qv7 x) r.length
   (fun y => y.1 = .exit 0 ∧ y.2.1.marks = [] ∧ y.2.2 = [] ∧ Ev.look y.2.1.vars 3 = some (ii (r.foldl qv7 x))) ?_ ?_ 0 x (Nat.zero_le _) rfl
  ·exact key
  ·rintro i a hi rfl
   obtain ⟨v,hv⟩ : ∃ v,r[i]? = some v:=⟨_,List.getElem?_eq_getElem hi⟩
   have hi' : ((i + 1 : Nat) : Int) < ((r.length + 1 : Nat) : Int):=by omega
   have hw : IntKind.i64.wrap (((i + 1 : Nat) : Int) + 1) = ((i + 1 + 1 : Nat) : Int):=by rw [qas (by omega) (by omega)];simp
   refine .inl ⟨qv7 ((r.take i).foldl qv7 x) v,?_,?_⟩
   ·simp only [qe8,zgs,zgr,zgq,zgt,qv7,qb8,List.map_cons,hv,hi',hw,qah,Ev.exec,qb,qe,qc,qaj,Ev.Opnd.ev,Ev.Env.get,Ev.Env.set,Ev.look,qh,qad,qaf,ql,qq,Ev.keep,qae,qw,qd,qax,qu,qg,qf,qag,zgi,↓qs,Ev.it1,↓reduceIte,zga,zgb,zge,zfe,zgh,Nat.reduceEqDiff,reduceCtorEq,zgv,zfc,zfa,zgx,zfd,zgy]
   ·rw [List.take_add_one,hv,List.foldl_append];rfl
  ·rintro a rfl
   rw [List.take_length]
   simp only [qe8,qb8,List.map_cons,Int.lt_irrefl,Ev.exec,qb,qe,qc,qaj,Ev.Opnd.ev,Ev.Env.get,Ev.Env.set,Ev.look,ql,zgi,↓qs,Ev.it1,↓reduceIte,zga,Nat.reduceEqDiff,reduceCtorEq,zgw,zfa,zgy]
   exact ⟨_,rfl,rfl,rfl,rfl,rfl⟩
 obtain ⟨⟨y,e,σ⟩,k1,k2,k3,k4,k5⟩:=hL
 simp only at k2 k3 k4 k5
 subst k2;subst k4
 simp only [List.map_cons,qb8] at k1
 have c0 : ¬ ((r.length + 1 : Nat) : Int) < 1:=by omega
 have e1 : ((1 : Nat) : Int) = 1:=rfl
 rw [e1] at k1
 rw [qaz,qy qrg qqw]
 simp only [qh9,qb8,List.map_cons,c0,k1,k3,k5,qah,Int.le_refl,Int.toNat_zero,qn,Ev.exec,qb,qe,qc,qaj,Ev.Opnd.ev,Ev.Env.get,Ev.Env.set,Ev.look,qo,qh,qad,ql,qm,qab,qak,Ev.kill,qai,qq,Ev.keep,qae,qw,qd,qax,qu,qg,qf,qag,qal,zgi,↓qs,↓qan,↓reduceIte,zga,zgb,zgd,zfe,zgh,Nat.reduceEqDiff,reduceCtorEq,zgw,zfc,zfa,zgx,zfd,zgy]
theorem Floor_ev (bs : List (List Evt)) (c : Bool) (h : bs.length ≤ 1000) : qaz (evL T) qf4 [(.fsl ((bs).map qbc) c)] = some (.tup [(ii (((qni bs).getD 0))),(bb (((qni bs).isSome)))]):=by
 have hL : ∃ y,itB (exec (evL T) itL none qg8) (qq [4,7,8,9] true 1) ⟨[(4,.sl 0 0 0 0 false),(7,(.fsl ((bs).map qbc) c)),(8,(ii bs.length)),(9,(ii ((0 : Nat))))],[]⟩ [.row 1 [] 0] = some y ∧
   ∃ g : Nat,y.1 = .exit 0 ∧ y.2.1.marks = [] ∧ y.2.2 = [.row 1 ((qnb bs).map qb8) g] ∧ Ev.look y.2.1.vars 4 = some (.sl 0 g 0 (qnb bs).length false):=by
  have key:=qen (f:=exec (evL T) itL none qg8) (s:=qq [4,7,8,9] true 1) (α:=List Int × Nat)
   (fun i a => ⟨[(4,.sl 0 a.2 0 a.1.length false),(7,(.fsl ((bs).map qbc) c)),(8,(ii bs.length)),(9,(ii i))],[]⟩) (fun _ a => [.row 1 (a.1.map qb8) a.2]) (fun i a => a.1 = qnb (bs.take i)) bs.length
   (fun y => ∃ g : Nat,y.1 = .exit 0 ∧ y.2.1.marks = [] ∧ y.2.2 = [.row 1 ((qnb bs).map qb8) g] ∧ Ev.look y.2.1.vars 4 = some (.sl 0 g 0 (qnb bs).length false)) ?_ ?_ 0 ([],0) (Nat.zero_le _) rfl
  ·exact key
  ·rintro i ⟨l,g⟩ hi hl
   simp only at hl ⊢
   obtain ⟨v,hv⟩ : ∃ v,bs[i]? = some v:=⟨_,List.getElem?_eq_getElem hi⟩
   have hi' : (i : Int) < (bs.length : Int):=by omega
   have hw : IntKind.i64.wrap ((i : Int) + 1) = ((i + 1 : Nat) : Int):=by rw [qas (by omega) (by omega)];simp
   have hf : qnb (bs.take (i + 1)) = qnb (bs.take i) ++ (v.head?.map Evt.time).toList:=by rw [List.take_add_one,hv];exact q73 _ _
   have hll : l.length ≤ 1000:=by rw [hl];have:=q3p (bs.take i);have:=List.length_take_le i bs;omega
   cases v with
   | nil =>
    refine .inl ⟨(l,g),?_,by simp only;rw [hf,hl];exact (List.append_nil _).symm⟩
    simp only [qg8,zgs,zgr,zgq,zgt,hv,hi',hw,qbc,List.map_nil,gt_iff_lt,Int.lt_irrefl,qdk,qah,Ev.exec,qb,qe,qc,qaj,Ev.Opnd.ev,Ev.Env.get,Ev.Env.set,Ev.look,qh,qad,qaf,ql,qau,qq,Ev.keep,qae,qw,qd,Ev.SObj.lo,qax,qu,qbj,↓qs,Ev.it1,↓reduceIte,zga,zgb,zgc,zfe,zgh,Nat.reduceEqDiff,Int.cast_ofNat_Int,zgv,zgw,zfc,zfa,zgx,zfd,zgu,zgy]
   | cons e r =>
    refine .inl ⟨(l ++ [e.time],g + 1),?_,by simp only;rw [hf,hl];rfl⟩
    have c1 : ((r.length + 1 : Nat) : Int) > 0:=by omega
    have b : (l.length + 1) * 8 ≤ 140737488355328:=by omega
    have tk : List.take l.length (l.map qb8) = l.map qb8:=List.take_of_length_le (by simp)
    have lo:=qah 1 (l ++ [e.time])
    have hle : l.length ≤ l.length:=Nat.le_refl _
    rw [List.map_append] at lo
    simp only [List.map_cons,List.map_nil,qb8] at lo
    obtain ⟨et,ek,el,ei,ep,ea⟩:=e
    simp only [List.map_append,zgp,List.map_cons,List.map_nil,qb8] at lo ⊢
    simp only [qg8,zgs,zgr,zgq,zgt,hv,hi',hw,c1,b,tk,lo,hle,qbc,Evt.r,List.map_cons,Int.le_refl,Int.toNat_zero,qdk,Ev.exec,qb,qe,qc,qaj,qnz,Ev.Opnd.ev,Ev.Env.get,Ev.Env.set,Ev.look,qh,qbs,qad,qfl,Ev.AV.cells,Ev.AV.uc,qx,Ev.AV.plain,qaf,ql,qau,qq,Ev.keep,qae,qw,qd,Ev.SObj.lo,qax,qu,qbj,qbh,qa8,List.replicate_one,zgi,↓qs,Ev.it1,↓reduceIte,zga,zgb,zgd,zgc,zfe,zgg,zgj,zgh,Nat.reduceAdd,Nat.reduceEqDiff,Nat.reduceMul,Nat.reduceLeDiff,Nat.reducePow,zgv,zfc,zfa,zgx,ne_eq,zfb,zff,zfd,zgu,zgy]
  ·rintro ⟨l,g⟩ hl
   rw [List.take_length] at hl
   simp only at hl ⊢
   simp only [qg8,Int.lt_irrefl,Ev.exec,qb,qe,qc,qaj,Ev.Opnd.ev,Ev.Env.get,Ev.Env.set,Ev.look,ql,↓qs,Ev.it1,↓reduceIte,Nat.reduceEqDiff,zgw,zfa,zgy]
   exact ⟨_,rfl,g,rfl,rfl,by rw [hl],by rw [hl];rfl⟩
 obtain ⟨⟨y,e,σ⟩,k1,g,k2,k3,k4,k5⟩:=hL
 simp only [Int.ofNat_zero] at k1 k2 k3 k4 k5
 subst k2;subst k4
 have hfl:=q3p bs
 unfold qni
 rw [qaz,qy qye qwv]
 cases hf : qnb bs with
 | nil =>
  rw [hf] at k1 k5
  simp only [List.map_nil,zgb] at k1 k5
  simp only [qk8,k1,k3,k5,qdk,Option.getD_none,qn,Ev.exec,qb,qe,qc,qaj,Ev.Opnd.ev,Ev.Env.get,Ev.Env.set,Ev.look,qo,qam,qm,qab,qak,Ev.kill,qai,qq,Ev.keep,qae,qw,qd,Ev.SObj.lo,qax,qa3,qu,qbj,qg,qf,qaa,qal,zgi,↓qs,↓qan,↓reduceIte,zga,zgb,zgc,zgo,zfe,zgl,Nat.reduceEqDiff,Int.cast_ofNat_Int,reduceCtorEq,zgv,zfc,zgx,zfd,zgu,Option.isSome_none,zgy]
 | cons x r =>
  rw [hf] at k1 k5 hfl
  have hm:=min_ev x r false (by simp at hfl;omega)
  have c0 : ¬ ((r.length + 1 : Nat) : Int) = 0:=by omega
  have tk : List.take (r.length + 1) ((x :: r).map qb8) = (x :: r).map qb8:=List.take_of_length_le (by simp)
  have hln : ((x :: r).map qb8).length = r.length + 1:=by simp
  have hlo : qhl 0 ((x :: r).map qb8) = true:=qah _ _
  simp only [zga] at k1 k5
  generalize (x :: r).map qb8 = R at *
  simp only [qk8,k1,k3,k5,c0,tk,hln,hlo,hm,qdk,Nat.le_refl,Option.getD_some,qn,Ev.exec,qb,qe,qc,qa0,qaj,Ev.evs,Ev.Opnd.ev,Ev.Env.get,Ev.Env.set,Ev.look,qo,qam,qm,qab,qak,Ev.kill,qai,qq,Ev.keep,qae,qw,qd,Ev.SObj.lo,qax,qa3,qu,qbj,qg,qf,qaa,qal,zgi,↓qs,↓qan,↓reduceIte,zga,zgb,zgd,zgc,zgo,zfe,zgg,zgl,zgj,Nat.reduceEqDiff,reduceCtorEq,zgv,zgw,zfc,zfa,zgx,zfd,zgu,Nat.le_refl,Option.isSome_some,zgy]
theorem q9u (c : Cfg) (f : Int) (hf : 0 ≤ f ∧ f ≤ 1152921504606846976) (hl : 0 ≤ c.look ∧ c.look ≤ 9223372036854775807) (hF : 0 ≤ c.fin ∧ c.fin ≤ 1152921504606846976) : qaz (evL T) qeu [(.agg [(.fsl ((c.lps).map lpC) false),(.fsl ((c.progs).map qcs) false),(ii c.look),(ii c.fin),(ii c.cap)]),(ii f)] = some (ii (f + qv7 c.look (c.fin - f))):=by
 have w1 : IntKind.i64.wrap (c.fin - f) = c.fin - f:=qas (by omega) (by omega)
 have w2 : IntKind.i64.wrap (f + qv7 c.look (c.fin - f)) = f + qv7 c.look (c.fin - f):=by
  unfold qv7;split <;> exact qas (by omega) (by omega)
 unfold qv7 at w2 ⊢
 rw [qaz,qy qvt qui]
 simp only [qls,w1,w2,qn,Ev.exec,qb,qe,qc,qaj,Ev.Opnd.ev,Ev.Env.get,Ev.Env.set,Ev.look,qo,qh,qad,Ev.AV.cells,qx,Ev.AV.plain,qaf,qcl,qm,qab,qak,Ev.kill,qai,qd,qax,qal,↓qs,↓reduceIte,zga,zgb,zfe,zgf,zgg,zgh,Nat.reduceAdd,Nat.reduceEqDiff,reduceCtorEq,zfc,zfa,zgx,ne_eq,zfb,zff,zfd,zgy]
theorem q7b (c : Cfg) (f : Int) (hf : 0 ≤ f ∧ f ≤ 1152921504606846976) (hl : 0 ≤ c.look ∧ c.look ≤ 9223372036854775807) (hF : 0 ≤ c.fin ∧ c.fin ≤ 1152921504606846976) : qaz (evL T) qf9 [(.agg [(.fsl ((c.lps).map lpC) false),(.fsl ((c.progs).map qcs) false),(ii c.look),(ii c.fin),(ii c.cap)]),(ii f)] = some (ii (f + qv7 c.look (c.fin - f))):=by
 have w1 : IntKind.i64.wrap (c.fin - f) = c.fin - f:=qas (by omega) (by omega)
 unfold qv7
 rw [qaz,qy qwe qu6]
 by_cases h : c.look ≥ c.fin - f
 ·have e : f + (if c.fin - f < c.look then c.fin - f else c.look) = c.fin:=by split <;> omega
  rw [e]
  simp only [qkq,w1,h,qn,Ev.exec,qb,qe,qc,qaj,Ev.Opnd.ev,Ev.Env.get,Ev.Env.set,Ev.look,qo,qh,qad,Ev.AV.cells,qx,Ev.AV.plain,qcl,qcd,qm,qab,qak,Ev.kill,qai,qd,qax,qal,↓qs,↓reduceIte,zga,zgb,zfe,zgf,zgg,zgh,Nat.reduceAdd,Nat.reduceEqDiff,reduceCtorEq,zgv,zfc,zfa,zgx,ne_eq,zfb,zff,zfd,zgy]
 ·have e : f + (if c.fin - f < c.look then c.fin - f else c.look) = f + c.look:=by split <;> omega
  have w2 : IntKind.i64.wrap (f + c.look) = f + c.look:=qas (by omega) (by omega)
  rw [e]
  simp only [qkq,w1,w2,h,qn,Ev.exec,qb,qe,qc,qaj,Ev.Opnd.ev,Ev.Env.get,Ev.Env.set,Ev.look,qo,qh,qad,Ev.AV.cells,qx,Ev.AV.plain,qaf,qcl,qcd,qm,qab,qak,Ev.kill,qai,qd,qax,qal,↓qs,↓reduceIte,zga,zgb,zfe,zgf,zgg,zgh,Nat.reduceAdd,Nat.reduceEqDiff,reduceCtorEq,zgw,zfc,zfa,zgx,ne_eq,zfb,zff,zfd,zgy]
end Go.Proofs.YtbhhifdhlafklaaGreat.K
