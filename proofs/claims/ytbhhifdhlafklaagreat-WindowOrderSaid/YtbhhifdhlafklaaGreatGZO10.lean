/- For every input the statement of this claim returns true: texts of its proof, joined (part 11). -/
import Derived.Test.YtbhhifdhlafklaaGreatGZO06
import Derived.Test.YtbhhifdhlafklaaGreatGZO07
import Derived.Test.YtbhhifdhlafklaaGreatGZO08
import Derived.Test.YtbhhifdhlafklaaGreatGZO09
set_option linter.unusedSectionVars false
set_option linter.unusedSimpArgs false
set_option linter.unusedVariables false
namespace Go.Proofs.YtbhhifdhlafklaaGreat.K
open Go.Ev
set_option maxRecDepth 10000
def qxm (a b : Int) : Int := if b < a then b else a
def qmm (bs : List (List Evt)) : List Int := (bs.filterMap List.head?).map Evt.time
def q2m (bs : List (List Evt)) : Option Int := match qmm bs with
 | [] => none
 | x :: r => some (r.foldl qxm x)
theorem q55 (bs : List (List Evt)) (b : List Evt) : qmm (bs ++ [b]) = qmm bs ++ (b.head?.map Evt.time).toList := by
 unfold qmm
 rw [List.filterMap_append, List.map_append]
 cases b <;> simp
theorem q2h (bs : List (List Evt)) : (qmm bs).length ≤ bs.length := by
 unfold qmm; rw [List.length_map]; exact List.length_filterMap_le _ _
theorem min_ev (x : Int) (r : List Int) (c : Bool) (h : r.length ≤ 1000) : qa4 (evL T) qd5 [(.fsl ((x :: r).map qb9) c)] = some (ii (r.foldl qxm x)) := by
 have hL : ∃ y, itB (exec (evL T) itL none qe4) (qr [0, 3, 4] true 0) ⟨[(0, (.fsl ((x :: r).map qb9) c)), (3, (ii x)), (4, (ii ((1 : Nat))))], []⟩ [] = some y ∧ (y.1 = .exit 0 ∧ y.2.1.marks = [] ∧ y.2.2 = [] ∧ Ev.look y.2.1.vars 3 = some (ii (r.foldl qxm x))) := by
  have key := qeu (f := exec (evL T) itL none qe4) (s := qr [0, 3, 4] true 0) (α := Int)
   (fun i a => ⟨[(0, (.fsl ((x :: r).map qb9) c)), (3, (ii a)), (4, (ii (i + 1 : Nat)))], []⟩) (fun _ _ => []) (fun i a => a = (r.take i).foldl qxm x) r.length
   (fun y => y.1 = .exit 0 ∧ y.2.1.marks = [] ∧ y.2.2 = [] ∧ Ev.look y.2.1.vars 3 = some (ii (r.foldl qxm x))) ?_ ?_ 0 x (Nat.zero_le _) rfl
  ·exact key
  ·rintro i a hi rfl
   obtain ⟨v, hv⟩ : ∃ v, r[i]? = some v := ⟨_, List.getElem?_eq_getElem hi⟩
   have hi' : ((i + 1 : Nat) : Int) < ((r.length + 1 : Nat) : Int) := by omega
   have hw : IntKind.i64.wrap (((i + 1 : Nat) : Int) + 1) = ((i + 1 + 1 : Nat) : Int) := by rw [qaw (by omega) (by omega)]; simp
   refine .inl ⟨qxm ((r.take i).foldl qxm x) v, ?_, ?_⟩
   ·simp only [qe4, zgs, zgr, zgq, zgt, qxm, qb9, List.map_cons, hv, hi', hw, qag, Ev.exec, qb, qe, qc, qai, Ev.Opnd.ev, Ev.Env.get, Ev.Env.set, Ev.look, qk, qae, qaf, ql, qr, Ev.keep, qad, qw, qd, qa1, qu, qj, qh, qao, zgi, ↓qs, Ev.it1, ↓reduceIte, zga, zgb, zge, zfe, zgh, Nat.reduceEqDiff, reduceCtorEq, zgv, zfc, zfa, zgx, zfd, zgy]
   ·rw [List.take_add_one, hv, List.foldl_append]; rfl
  ·rintro a rfl
   rw [List.take_length]
   simp only [qe4, qb9, List.map_cons, Int.lt_irrefl, Ev.exec, qb, qe, qc, qai, Ev.Opnd.ev, Ev.Env.get, Ev.Env.set, Ev.look, ql, zgi, ↓qs, Ev.it1, ↓reduceIte, zga, Nat.reduceEqDiff, reduceCtorEq, zgw, zfa, zgy]
   exact ⟨_, rfl, rfl, rfl, rfl, rfl⟩
 obtain ⟨⟨y, e, σ⟩, k1, k2, k3, k4, k5⟩ := hL
 simp only at k2 k3 k4 k5
 subst k2; subst k4
 simp only [List.map_cons, qb9] at k1
 have c0 : ¬ ((r.length + 1 : Nat) : Int) < 1 := by omega
 have e1 : ((1 : Nat) : Int) = 1 := rfl
 rw [e1] at k1
 rw [qa4, qx qqi qp6]
 simp only [qhx, qb9, List.map_cons, c0, k1, k3, k5, qag, Int.le_refl, Int.toNat_zero, qn, Ev.exec, qb, qe, qc, qai, Ev.Opnd.ev, Ev.Env.get, Ev.Env.set, Ev.look, qo, qk, qae, ql, qm, qab, qaj, Ev.kill, qah, qr, Ev.keep, qad, qw, qd, qa1, qu, qj, qh, qao, qal, zgi, ↓qs, ↓qaq, ↓reduceIte, zga, zgb, zgd, zfe, zgh, Nat.reduceEqDiff, reduceCtorEq, zgw, zfc, zfa, zgx, zfd, zgy]
theorem Floor_ev (bs : List (List Evt)) (c : Bool) (h : bs.length ≤ 1000) : qa4 (evL T) qf3 [(.fsl ((bs).map qaz) c)] = some (.tup [(ii (((q2m bs).getD 0))), (bb (((q2m bs).isSome)))]) := by
 have hL : ∃ y, itB (exec (evL T) itL none qg4) (qr [4, 7, 8, 9] true 1) ⟨[(4, .sl 0 0 0 0 false), (7, (.fsl ((bs).map qaz) c)), (8, (ii bs.length)), (9, (ii ((0 : Nat))))], []⟩ [.row 1 [] 0] = some y ∧
   ∃ g : Nat, y.1 = .exit 0 ∧ y.2.1.marks = [] ∧ y.2.2 = [.row 1 ((qmm bs).map qb9) g] ∧ Ev.look y.2.1.vars 4 = some (.sl 0 g 0 (qmm bs).length false) := by
  have key := qeu (f := exec (evL T) itL none qg4) (s := qr [4, 7, 8, 9] true 1) (α := List Int × Nat)
   (fun i a => ⟨[(4, .sl 0 a.2 0 a.1.length false), (7, (.fsl ((bs).map qaz) c)), (8, (ii bs.length)), (9, (ii i))], []⟩) (fun _ a => [.row 1 (a.1.map qb9) a.2]) (fun i a => a.1 = qmm (bs.take i)) bs.length
   (fun y => ∃ g : Nat, y.1 = .exit 0 ∧ y.2.1.marks = [] ∧ y.2.2 = [.row 1 ((qmm bs).map qb9) g] ∧ Ev.look y.2.1.vars 4 = some (.sl 0 g 0 (qmm bs).length false)) ?_ ?_ 0 ([], 0) (Nat.zero_le _) rfl
  ·exact key
  ·rintro i ⟨l, g⟩ hi hl
   simp only at hl ⊢
   obtain ⟨v, hv⟩ : ∃ v, bs[i]? = some v := ⟨_, List.getElem?_eq_getElem hi⟩
   have hi' : (i : Int) < (bs.length : Int) := by omega
   have hw : IntKind.i64.wrap ((i : Int) + 1) = ((i + 1 : Nat) : Int) := by rw [qaw (by omega) (by omega)]; simp
   have hf : qmm (bs.take (i + 1)) = qmm (bs.take i) ++ (v.head?.map Evt.time).toList := by rw [List.take_add_one, hv]; exact q55 _ _
   have hll : l.length ≤ 1000 := by rw [hl]; have := q2h (bs.take i); have := List.length_take_le i bs; omega
   cases v with
   | nil =>
    refine .inl ⟨(l, g), ?_, by simp only; rw [hf, hl]; exact (List.append_nil _).symm⟩
    simp only [qg4, zgs, zgr, zgq, zgt, hv, hi', hw, qaz, List.map_nil, gt_iff_lt, Int.lt_irrefl, qdn, qag, Ev.exec, qb, qe, qc, qai, Ev.Opnd.ev, Ev.Env.get, Ev.Env.set, Ev.look, qk, qae, qaf, ql, qas, qr, Ev.keep, qad, qw, qd, Ev.SObj.lo, qa1, qu, qbn, ↓qs, Ev.it1, ↓reduceIte, zga, zgb, zgc, zfe, zgh, Nat.reduceEqDiff, Int.cast_ofNat_Int, zgv, zgw, zfc, zfa, zgx, zfd, zgu, zgy]
   | cons e r =>
    refine .inl ⟨(l ++ [e.time], g + 1), ?_, by simp only; rw [hf, hl]; rfl⟩
    have c1 : ((r.length + 1 : Nat) : Int) > 0 := by omega
    have b : (l.length + 1) * 8 ≤ 140737488355328 := by omega
    have tk : List.take l.length (l.map qb9) = l.map qb9 := List.take_of_length_le (by simp)
    have lo := qag 1 (l ++ [e.time])
    have hle : l.length ≤ l.length := Nat.le_refl _
    rw [List.map_append] at lo
    simp only [List.map_cons, List.map_nil, qb9] at lo
    obtain ⟨et, ek, el, ei, ep, ea⟩ := e
    simp only [List.map_append, zgp, List.map_cons, List.map_nil, qb9] at lo ⊢
    simp only [qg4, zgs, zgr, zgq, zgt, hv, hi', hw, c1, b, tk, lo, hle, qaz, Evt.r, List.map_cons, Int.le_refl, Int.toNat_zero, qdn, Ev.exec, qb, qe, qc, qai, qn9, Ev.Opnd.ev, Ev.Env.get, Ev.Env.set, Ev.look, qk, qb0, qae, qf6, Ev.AV.cells, Ev.AV.uc, qy, Ev.AV.plain, qaf, ql, qas, qr, Ev.keep, qad, qw, qd, Ev.SObj.lo, qa1, qu, qbn, qbl, qa9, List.replicate_one, zgi, ↓qs, Ev.it1, ↓reduceIte, zga, zgb, zgd, zgc, zfe, zgg, zgj, zgh, Nat.reduceAdd, Nat.reduceEqDiff, Nat.reduceMul, Nat.reduceLeDiff, Nat.reducePow, zgv, zfc, zfa, zgx, ne_eq, zfb, zff, zfd, zgu, zgy]
  ·rintro ⟨l, g⟩ hl
   rw [List.take_length] at hl
   simp only at hl ⊢
   simp only [qg4, Int.lt_irrefl, Ev.exec, qb, qe, qc, qai, Ev.Opnd.ev, Ev.Env.get, Ev.Env.set, Ev.look, ql, ↓qs, Ev.it1, ↓reduceIte, Nat.reduceEqDiff, zgw, zfa, zgy]
   exact ⟨_, rfl, g, rfl, rfl, by rw [hl], by rw [hl]; rfl⟩
 obtain ⟨⟨y, e, σ⟩, k1, g, k2, k3, k4, k5⟩ := hL
 simp only [Int.ofNat_zero] at k1 k2 k3 k4 k5
 subst k2; subst k4
 have hfl := q2h bs
 unfold q2m
 rw [qa4, qx qw7 qwa]
 cases hf : qmm bs with
 | nil =>
  rw [hf] at k1 k5
  simp only [List.map_nil, zgb] at k1 k5
  simp only [qk3, k1, k3, k5, qdn, Option.getD_none, qn, Ev.exec, qb, qe, qc, qai, Ev.Opnd.ev, Ev.Env.get, Ev.Env.set, Ev.look, qo, qam, qm, qab, qaj, Ev.kill, qah, qr, Ev.keep, qad, qw, qd, Ev.SObj.lo, qa1, qba, qu, qbn, qj, qh, qac, qal, zgi, ↓qs, ↓qaq, ↓reduceIte, zga, zgb, zgc, zgo, zfe, zgl, Nat.reduceEqDiff, Int.cast_ofNat_Int, reduceCtorEq, zgv, zfc, zgx, zfd, zgu, Option.isSome_none, zgy]
 | cons x r =>
  rw [hf] at k1 k5 hfl
  have hm := min_ev x r false (by simp at hfl; omega)
  have c0 : ¬ ((r.length + 1 : Nat) : Int) = 0 := by omega
  have tk : List.take (r.length + 1) ((x :: r).map qb9) = (x :: r).map qb9 := List.take_of_length_le (by simp)
  have hln : ((x :: r).map qb9).length = r.length + 1 := by simp
  have hlo : qg9 0 ((x :: r).map qb9) = true := qag _ _
  simp only [zga] at k1 k5
  generalize (x :: r).map qb9 = R at *
  simp only [qk3, k1, k3, k5, c0, tk, hln, hlo, hm, qdn, Nat.le_refl, Option.getD_some, qn, Ev.exec, qb, qe, qc, qa5, qai, Ev.evs, Ev.Opnd.ev, Ev.Env.get, Ev.Env.set, Ev.look, qo, qam, qm, qab, qaj, Ev.kill, qah, qr, Ev.keep, qad, qw, qd, Ev.SObj.lo, qa1, qba, qu, qbn, qj, qh, qac, qal, zgi, ↓qs, ↓qaq, ↓reduceIte, zga, zgb, zgd, zgc, zgo, zfe, zgg, zgl, zgj, Nat.reduceEqDiff, reduceCtorEq, zgv, zgw, zfc, zfa, zgx, zfd, zgu, Nat.le_refl, Option.isSome_some, zgy]
theorem q8c (c : Cfg) (f : Int) (hf : 0 ≤ f ∧ f ≤ 1152921504606846976) (hl : 0 ≤ c.look ∧ c.look ≤ 9223372036854775807) (hF : 0 ≤ c.fin ∧ c.fin ≤ 1152921504606846976) : qa4 (evL T) qer [(.agg [(.fsl ((c.lps).map lpC) false), (.fsl ((c.progs).map qc1) false), (ii c.look), (ii c.fin), (ii c.cap)]), (ii f)] = some (ii (f + qxm c.look (c.fin - f))) := by
 have w1 : IntKind.i64.wrap (c.fin - f) = c.fin - f := qaw (by omega) (by omega)
 have w2 : IntKind.i64.wrap (f + qxm c.look (c.fin - f)) = f + qxm c.look (c.fin - f) := by
  unfold qxm; split <;> exact qaw (by omega) (by omega)
 unfold qxm at w2 ⊢
 rw [qa4, qx qu2 qt1]
 simp only [qlg, w1, w2, qn, Ev.exec, qb, qe, qc, qai, Ev.Opnd.ev, Ev.Env.get, Ev.Env.set, Ev.look, qo, qk, qae, Ev.AV.cells, qy, Ev.AV.plain, qaf, qb8, qm, qab, qaj, Ev.kill, qah, qd, qa1, qal, ↓qs, ↓reduceIte, zga, zgb, zfe, zgf, zgg, zgh, Nat.reduceAdd, Nat.reduceEqDiff, reduceCtorEq, zfc, zfa, zgx, ne_eq, zfb, zff, zfd, zgy]
set_option maxRecDepth 10000
section
variable {c : Cfg} {x : Lp} {e : Evt}
theorem q4d (hp : x.procs = []) : qmy x e = none := by
 unfold qmy
 rw [hp]; simp
theorem q4o (hp : x.procs = []) : (qbp c x e).lp.procs = [] := by
 unfold qbp
 split
 ·exact hp
 ·rw [q4d hp]; exact hp
theorem Exec_evF (h : Ready c x e) (f : Bool) (hf : f = true → x.procs = []) : qa4 (evL T) qej [(.agg [(.fsl ((c.lps).map lpC) false), (.fsl ((c.progs).map qc1) false), (ii c.look), (ii c.fin), (ii c.cap)]), (.agg [(ii x.r0), (ii x.r1), (.fsl ((x.procs).map Pr.r) f), (ii x.sum)]), (.agg [(ii e.time), (.fsl ((e.key).map qb9) false), (ii e.lp), (ii e.kind), (ii e.proc), (ii e.arg)])] = some (.tup [(.agg [(ii ((qbp c x e).lp.r0)), (ii ((qbp c x e).lp.r1)), (.fsl (((qbp c x e).lp.procs).map Pr.r) f), (ii ((qbp c x e).lp.sum))]), (.fsl (((qbp c x e).out).map Evt.r) (qbp c x e).nil), (.fsl (((qbp c x e).gone).map qfz) (qbp c x e).nil), (bb ((qbp c x e).over))]) := by
 cases f with
 | false => exact Exec_ev h
 | true =>
  have hp := hf rfl
  unfold qbp
  rw [qa4, qx qla qks]
  rw [q4d hp]
  by_cases hk : e.kind = 3
  ·rw [if_pos hk]
   simp only [qb3, hk, hp, List.map_nil, qn, Ev.exec, qb, qe, qc, qai, Ev.Opnd.ev, Ev.Env.get, Ev.Env.set, Ev.look, qo, qk, qae, Ev.AV.cells, Ev.AV.uc, qy, Ev.AV.plain, qaf, qam, qm, qab, qaj, Ev.kill, qah, qd, qa1, qbd, qba, qu, qj, qh, qac, qal, ↓qs, ↓reduceIte, zga, zgb, zgd, zge, zgc, zgo, zfe, zgf, zgg, List.drop_nil, zgm, zgl, zgn, zgj, zgk, zgh, Nat.reduceAdd, Nat.reduceEqDiff, reduceCtorEq, zgv, zfc, zfa, zgx, ne_eq, zfb, zff, zfd, Nat.le_refl, zgy]
  rw [if_neg hk]
  by_cases h1 : e.proc < 0
  ·by_cases k1 : e.kind = 1
   ·simp only [qb3, k1, h1, hp, List.map_nil, qn, Ev.exec, qb, qe, qc, qai, Ev.Opnd.ev, Ev.Env.get, Ev.Env.set, Ev.Env.unset, Ev.look, qo, qk, qae, Ev.AV.cells, qy, Ev.AV.plain, qam, qbx, ql, qm, qab, qaj, Ev.kill, qah, qd, qa1, qbd, qba, qu, qj, qh, qac, qal, ↓qs, ↓reduceIte, zga, zgb, zgd, zge, zgc, zgo, zfe, zgf, zgg, List.drop_nil, zgm, zgl, zgn, zgj, zgk, zgh, Nat.reduceAdd, Nat.reduceEqDiff, Int.reduceEq, reduceCtorEq, zgv, zgw, zfc, zfa, zgx, ne_eq, zfb, not_true_eq_false, zff, zfd, Nat.le_refl, zgy]
   by_cases k2 : e.kind = 2
   ·simp only [qb3, k2, h1, hp, List.map_nil, qn, Ev.exec, qb, qe, qc, qai, Ev.Opnd.ev, Ev.Env.get, Ev.Env.set, Ev.look, qo, qk, qae, Ev.AV.cells, qy, Ev.AV.plain, qam, qbx, ql, qm, qab, qaj, Ev.kill, qah, qd, qa1, qbd, qba, qu, qj, qh, qac, qal, ↓qs, ↓reduceIte, zga, zgb, zgd, zge, zgc, zgo, zfe, zgf, zgg, List.drop_nil, zgm, zgl, zgn, zgj, zgk, zgh, Nat.reduceAdd, Nat.reduceEqDiff, Int.reduceEq, reduceCtorEq, zgv, zgw, zfc, zfa, zgx, ne_eq, zfb, not_true_eq_false, zff, zfd, Nat.le_refl, zgy]
   ·simp only [qb3, hk, k1, k2, hp, List.map_nil, qn, Ev.exec, qb, qe, qc, qai, Ev.Opnd.ev, Ev.Env.get, Ev.Env.set, Ev.look, qo, qk, qae, Ev.AV.cells, qy, Ev.AV.plain, qam, qbx, qm, qab, qaj, Ev.kill, qah, qd, qa1, qbd, qba, qu, qj, qh, qac, qal, ↓qs, ↓reduceIte, zga, zgb, zgd, zge, zgc, zgo, zfe, zgf, zgg, List.drop_nil, zgm, zgl, zgn, zgj, zgk, zgh, Nat.reduceAdd, Nat.reduceEqDiff, reduceCtorEq, zgv, zgw, zfc, zfa, zgx, ne_eq, zfb, zff, zfd, Nat.le_refl, zgy]
  have h2 : e.proc ≥ ((0 : Nat) : Int) := by omega
  have h2' : e.proc ≥ 0 := by omega
  ·by_cases k1 : e.kind = 1
   ·simp only [qb3, k1, h1, h2', hp, List.map_nil, qn, Ev.exec, qb, qe, qc, qai, Ev.Opnd.ev, Ev.Env.get, Ev.Env.set, Ev.Env.unset, Ev.look, qo, qk, qae, Ev.AV.cells, qy, Ev.AV.plain, qam, qbx, ql, qch, qm, qab, qaj, Ev.kill, qah, qd, qa1, qbd, qba, qu, qj, qh, qac, qal, ↓qs, ↓reduceIte, zga, zgb, zgd, zge, zgc, zgo, zfe, zgf, zgg, List.drop_nil, zgm, zgl, zgn, zgj, zgk, zgh, Nat.reduceAdd, Nat.reduceEqDiff, Int.reduceEq, Int.cast_ofNat_Int, reduceCtorEq, zgv, zgw, zfc, zfa, zgx, ne_eq, zfb, not_true_eq_false, zff, zfd, Nat.le_refl, zgy]
   by_cases k2 : e.kind = 2
   ·simp only [qb3, k2, h1, h2', hp, List.map_nil, qn, Ev.exec, qb, qe, qc, qai, Ev.Opnd.ev, Ev.Env.get, Ev.Env.set, Ev.look, qo, qk, qae, Ev.AV.cells, qy, Ev.AV.plain, qam, qbx, ql, qch, qm, qab, qaj, Ev.kill, qah, qd, qa1, qbd, qba, qu, qj, qh, qac, qal, ↓qs, ↓reduceIte, zga, zgb, zgd, zge, zgc, zgo, zfe, zgf, zgg, List.drop_nil, zgm, zgl, zgn, zgj, zgk, zgh, Nat.reduceAdd, Nat.reduceEqDiff, Int.reduceEq, Int.cast_ofNat_Int, reduceCtorEq, zgv, zgw, zfc, zfa, zgx, ne_eq, zfb, not_true_eq_false, zff, zfd, Nat.le_refl, zgy]
   ·simp only [qb3, hk, k1, k2, hp, List.map_nil, qn, Ev.exec, qb, qe, qc, qai, Ev.Opnd.ev, Ev.Env.get, Ev.Env.set, Ev.look, qo, qk, qae, Ev.AV.cells, qy, Ev.AV.plain, qam, qbx, qm, qab, qaj, Ev.kill, qah, qd, qa1, qbd, qba, qu, qj, qh, qac, qal, ↓qs, ↓reduceIte, zga, zgb, zgd, zge, zgc, zgo, zfe, zgf, zgg, List.drop_nil, zgm, zgl, zgn, zgj, zgk, zgh, Nat.reduceAdd, Nat.reduceEqDiff, reduceCtorEq, zgv, zgw, zfc, zfa, zgx, ne_eq, zfb, zff, zfd, Nat.le_refl, zgy]
theorem qaas (h : Ready c x e) (f : Bool) (hf : f = true → x.procs = []) : qa4 (evL T) qf8 [(.agg [(.fsl ((c.lps).map lpC) false), (.fsl ((c.progs).map qc1) false), (ii c.look), (ii c.fin), (ii c.cap)]), (.agg [(ii x.r0), (ii x.r1), (.fsl ((x.procs).map Pr.r) f), (ii x.sum)]), (.agg [(ii e.time), (.fsl ((e.key).map qb9) false), (ii e.lp), (ii e.kind), (ii e.proc), (ii e.arg)])] = some (.tup [(.agg [(ii ((qbp c x e).lp.r0)), (ii ((qbp c x e).lp.r1)), (.fsl (((qbp c x e).lp.procs).map Pr.r) f), (ii ((qbp c x e).lp.sum))]), (.fsl (((qbp c x e).out).map Evt.r) (qbp c x e).nil), (.fsl (((qbp c x e).gone).map qfz) (qbp c x e).nil), (bb ((qbp c x e).over))]) := by
 cases f with
 | false => exact RExec_ev h
 | true =>
  have hp := hf rfl
  unfold qbp
  rw [qa4, qx qmj qlw]
  rw [q4d hp]
  by_cases hk : e.kind = 3
  ·rw [if_pos hk]
   simp only [qci, hk, hp, List.map_nil, Nat.reduceLeDiff, qn, Ev.exec, qb, qe, qc, qai, Ev.Opnd.ev, Ev.Env.get, Ev.Env.set, Ev.look, qo, qk, qae, qg6, Ev.AV.cells, Ev.AV.uc, qy, Ev.AV.plain, qaf, qam, qm, qab, qaj, Ev.kill, qah, qd, qa1, qbd, qba, qu, qj, qh, qac, qal, ↓qs, ↓reduceIte, zga, zgb, zgd, zge, zgc, zgo, zfe, zgf, zgg, List.drop_nil, zgm, zgl, zgn, zgj, zgk, zgh, Nat.reduceAdd, Nat.reduceEqDiff, Nat.reduceLeDiff, reduceCtorEq, zgv, zfc, zfa, zgx, ne_eq, zfb, zff, zfd, Nat.add_zero, Nat.le_refl, zgy]
  rw [if_neg hk]
  by_cases h1 : e.proc < 0
  ·by_cases k1 : e.kind = 1
   ·simp only [qci, k1, h1, hp, List.map_nil, Nat.reduceLeDiff, qn, Ev.exec, qb, qe, qc, qai, Ev.Opnd.ev, Ev.Env.get, Ev.Env.set, Ev.Env.unset, Ev.look, qo, qk, qae, qg6, Ev.AV.cells, qy, Ev.AV.plain, qam, qbx, ql, qm, qab, qaj, Ev.kill, qah, qd, qa1, qbd, qba, qu, qj, qh, qac, qal, ↓qs, ↓reduceIte, zga, zgb, zgd, zge, zgc, zgo, zfe, zgf, zgg, List.drop_nil, zgm, zgl, zgn, zgj, zgk, zgh, Nat.reduceAdd, Nat.reduceEqDiff, Nat.reduceLeDiff, Int.reduceEq, reduceCtorEq, zgv, zgw, zfc, zfa, Bool.true_eq_false, zgx, ne_eq, zfb, not_true_eq_false, zff, zfd, Nat.le_refl, zgy]
   by_cases k2 : e.kind = 2
   ·simp only [qci, k2, h1, hp, List.map_nil, Nat.reduceLeDiff, qn, Ev.exec, qb, qe, qc, qai, Ev.Opnd.ev, Ev.Env.get, Ev.Env.set, Ev.Env.unset, Ev.look, qo, qk, qae, qg6, Ev.AV.cells, qy, Ev.AV.plain, qam, qbx, ql, qm, qab, qaj, Ev.kill, qah, qd, qa1, qbd, qba, qu, qj, qh, qac, qal, ↓qs, ↓reduceIte, zga, zgb, zgd, zge, zgc, zgo, zfe, zgf, zgg, List.drop_nil, zgm, zgl, zgn, zgj, zgk, zgh, Nat.reduceAdd, Nat.reduceEqDiff, Nat.reduceLeDiff, Int.reduceEq, reduceCtorEq, zgv, zgw, zfc, zfa, Bool.true_eq_false, zgx, ne_eq, zfb, not_true_eq_false, zff, zfd, Nat.le_refl, zgy]
   ·simp only [qci, hk, k1, k2, hp, List.map_nil, Nat.reduceLeDiff, qn, Ev.exec, qb, qe, qc, qai, Ev.Opnd.ev, Ev.Env.get, Ev.Env.set, Ev.Env.unset, Ev.look, qo, qk, qae, qg6, Ev.AV.cells, qy, Ev.AV.plain, qam, qbx, qm, qab, qaj, Ev.kill, qah, qd, qa1, qbd, qba, qu, qj, qh, qac, qal, ↓qs, ↓reduceIte, zga, zgb, zgd, zge, zgc, zgo, zfe, zgf, zgg, List.drop_nil, zgm, zgl, zgn, zgj, zgk, zgh, Nat.reduceAdd, Nat.reduceEqDiff, Nat.reduceLeDiff, reduceCtorEq, zgv, zgw, zfc, zfa, Bool.true_eq_false, zgx, ne_eq, zfb, zff, zfd, Nat.le_refl, zgy]
  have h2 : e.proc ≥ ((0 : Nat) : Int) := by omega
  have h2' : e.proc ≥ 0 := by omega
  ·by_cases k1 : e.kind = 1
   ·simp only [qci, k1, h1, h2', hp, List.map_nil, Nat.reduceLeDiff, qn, Ev.exec, qb, qe, qc, qai, Ev.Opnd.ev, Ev.Env.get, Ev.Env.set, Ev.Env.unset, Ev.look, qo, qk, qae, qg6, Ev.AV.cells, qy, Ev.AV.plain, qam, qbx, ql, qch, qm, qab, qaj, Ev.kill, qah, qd, qa1, qbd, qba, qu, qj, qh, qac, qal, ↓qs, ↓reduceIte, zga, zgb, zgd, zge, zgc, zgo, zfe, zgf, zgg, List.drop_nil, zgm, zgl, zgn, zgj, zgk, zgh, Nat.reduceAdd, Nat.reduceEqDiff, Nat.reduceLeDiff, Int.reduceEq, Int.cast_ofNat_Int, reduceCtorEq, zgv, zgw, zfc, zfa, Bool.true_eq_false, zgx, ne_eq, zfb, not_true_eq_false, zff, zfd, Nat.le_refl, zgy]
   by_cases k2 : e.kind = 2
   ·simp only [qci, k2, h1, h2', hp, List.map_nil, Nat.reduceLeDiff, qn, Ev.exec, qb, qe, qc, qai, Ev.Opnd.ev, Ev.Env.get, Ev.Env.set, Ev.Env.unset, Ev.look, qo, qk, qae, qg6, Ev.AV.cells, qy, Ev.AV.plain, qam, qbx, ql, qch, qm, qab, qaj, Ev.kill, qah, qd, qa1, qbd, qba, qu, qj, qh, qac, qal, ↓qs, ↓reduceIte, zga, zgb, zgd, zge, zgc, zgo, zfe, zgf, zgg, List.drop_nil, zgm, zgl, zgn, zgj, zgk, zgh, Nat.reduceAdd, Nat.reduceEqDiff, Nat.reduceLeDiff, Int.reduceEq, Int.cast_ofNat_Int, reduceCtorEq, zgv, zgw, zfc, zfa, Bool.true_eq_false, zgx, ne_eq, zfb, not_true_eq_false, zff, zfd, Nat.le_refl, zgy]
   ·simp only [qci, hk, k1, k2, hp, List.map_nil, Nat.reduceLeDiff, qn, Ev.exec, qb, qe, qc, qai, Ev.Opnd.ev, Ev.Env.get, Ev.Env.set, Ev.Env.unset, Ev.look, qo, qk, qae, qg6, Ev.AV.cells, qy, Ev.AV.plain, qam, qbx, qm, qab, qaj, Ev.kill, qah, qd, qa1, qbd, qba, qu, qj, qh, qac, qal, ↓qs, ↓reduceIte, zga, zgb, zgd, zge, zgc, zgo, zfe, zgf, zgg, List.drop_nil, zgm, zgl, zgn, zgj, zgk, zgh, Nat.reduceAdd, Nat.reduceEqDiff, Nat.reduceLeDiff, reduceCtorEq, zgv, zgw, zfc, zfa, Bool.true_eq_false, zgx, ne_eq, zfb, zff, zfd, Nat.le_refl, zgy]
end
set_option maxRecDepth 10000
section
variable {c : Cfg} {e : Evt} (R0 X4 X5 X6 X7 X8 X9 : SObj) (dn : List Evt) (g1 : Nat) (x : Lp) (o f : Bool)
theorem exec_l1 (h0 : R0.lo 10 = true) (h4 : X4.lo 10 = true) (h5 : X5.lo 10 = true) (h6 : X6.lo 10 = true) (h7 : X7.lo 10 = true) (h8 : X8.lo 10 = true) (h9 : X9.lo 10 = true) (out : List Evt) (co : Bool) (p : List Evt × List Evt) (g2 : Nat) (hP : PlOk p out) (v8 : AV) (hv8 : v8.lo 10 = true) :
  ∃ y, itB (exec (evL T) itL none qdj) (qr [0, 5, 8, 50, 51, 52] true 10) ⟨[(0, .ptr 3 0 0 0), (5, (.fptr [(ii e.time), (.fsl ((e.key).map qb9) false), (ii e.lp), (ii e.kind), (ii e.proc), (ii e.arg)])), (8, v8), (50, (.fsl ((out).map Evt.r) co)), (51, (ii out.length)), (52, (ii ((0 : Nat))))], []⟩ (R0 :: .row 6 ((dn).map Evt.r) g1 :: .row 6 ((p.2).map Evt.r) g2 :: .row 8 [[(ii ((x).r0)), (ii ((x).r1)), (.fsl (((x).procs).map Pr.r) f), (ii ((x).sum)), (.fsl ((p.1).map Evt.r) false), .sl 1 g1 0 (dn).length false, .sl 2 g2 0 (p.2).length false, (bb o)]] 0 :: [X4, X5, X6, X7, X8, X9]) = some y ∧
   ∃ g2' : Nat, y.1 = .exit 0 ∧ y.2.1.marks = [] ∧ y.2.2 = (R0 :: .row 6 ((dn).map Evt.r) g1 :: .row 6 (((qhi e.lp p out).2).map Evt.r) g2' :: .row 8 [[(ii ((x).r0)), (ii ((x).r1)), (.fsl (((x).procs).map Pr.r) f), (ii ((x).sum)), (.fsl (((qhi e.lp p out).1).map Evt.r) false), .sl 1 g1 0 (dn).length false, .sl 2 g2' 0 ((qhi e.lp p out).2).length false, (bb o)]] 0 :: [X4, X5, X6, X7, X8, X9]) ∧ Ev.look y.2.1.vars 0 = some (.ptr 3 0 0 0) ∧ Ev.look y.2.1.vars 8 = some v8 := by
 simp only [SObj.lo] at h0 h4 h5 h6 h7 h8 h9
 have key := qeu (f := exec (evL T) itL none qdj) (s := qr [0, 5, 8, 50, 51, 52] true 10) (α := (List Evt × List Evt) × Nat)
  (fun i a => ⟨[(0, .ptr 3 0 0 0), (5, (.fptr [(ii e.time), (.fsl ((e.key).map qb9) false), (ii e.lp), (ii e.kind), (ii e.proc), (ii e.arg)])), (8, v8), (50, (.fsl ((out).map Evt.r) co)), (51, (ii out.length)), (52, (ii i))], []⟩) (fun _ a => (R0 :: .row 6 ((dn).map Evt.r) g1 :: .row 6 ((a.1.2).map Evt.r) a.2 :: .row 8 [[(ii ((x).r0)), (ii ((x).r1)), (.fsl (((x).procs).map Pr.r) f), (ii ((x).sum)), (.fsl ((a.1.1).map Evt.r) false), .sl 1 g1 0 (dn).length false, .sl 2 a.2 0 (a.1.2).length false, (bb o)]] 0 :: [X4, X5, X6, X7, X8, X9])) (fun i a => a.1 = qhi e.lp p (out.take i)) out.length
  (fun y => ∃ g2' : Nat, y.1 = .exit 0 ∧ y.2.1.marks = [] ∧ y.2.2 = (R0 :: .row 6 ((dn).map Evt.r) g1 :: .row 6 (((qhi e.lp p out).2).map Evt.r) g2' :: .row 8 [[(ii ((x).r0)), (ii ((x).r1)), (.fsl (((x).procs).map Pr.r) f), (ii ((x).sum)), (.fsl (((qhi e.lp p out).1).map Evt.r) false), .sl 1 g1 0 (dn).length false, .sl 2 g2' 0 ((qhi e.lp p out).2).length false, (bb o)]] 0 :: [X4, X5, X6, X7, X8, X9]) ∧ Ev.look y.2.1.vars 0 = some (.ptr 3 0 0 0) ∧ Ev.look y.2.1.vars 8 = some v8) ?_ ?_ 0 (p, g2) (Nat.zero_le _) rfl
 ·exact key
 ·rintro i ⟨⟨b, s⟩, g⟩ hi hbs
  simp only at hbs ⊢
  obtain ⟨n, hn⟩ : ∃ n, out[i]? = some n := ⟨_, List.getElem?_eq_getElem hi⟩
  have hA := PlOk.at e.lp hP i
  rw [← hbs, show out.drop i = n :: out.drop (i + 1) by rw [List.drop_eq_getElem_cons hi]; rw [List.getElem?_eq_getElem hi] at hn; cases hn; rfl] at hA
  have hlen := hP.len
  simp only [zgp] at hlen
  have hi' : (i : Int) < (out.length : Int) := by omega
  have hw : IntKind.i64.wrap ((i : Int) + 1) = ((i + 1 : Nat) : Int) := by rw [qaw (by omega) (by omega)]; simp
  have hnx : qhi e.lp p (out.take (i + 1)) = qq0 e.lp (b, s) n := by rw [List.take_add_one, hn, hbs]; exact q6e _ _ _ _
  obtain ⟨i1, i2, i3, i4, i5⟩ := hA.ins
  have hsl := hA.len
  simp only [zgp] at hsl
  obtain ⟨et, ek, el, ei, ep, ea⟩ := e
  unfold qq0 at hnx
  by_cases hlp : n.lp = el
  ·refine .inl ⟨((sortL (n :: b), s), g), ?_, by simp only; rw [hnx, if_pos hlp]⟩
   have hI := qxb b false n i1 i2 i3 i4 i5
   obtain ⟨nt, nk, nl, ni, np, na⟩ := n
   simp only at hlp
   subst hlp
   generalize sortL (⟨nt, nk, nl, ni, np, na⟩ :: b) = B at *
   simp only at hI
   simp only [qdj, zgs, zgr, zgq, zgt, hn, hi', hw, hI, h0, h4, h5, h6, h7, h8, h9, hv8, Evt.r, qv, qag, qau, Ev.exec, qb, qe, qc, qa5, qai, Ev.evs, Ev.Opnd.ev, Ev.Env.get, Ev.Env.set, Ev.look, qk, qae, Ev.AV.cells, Ev.AV.uc, qy, Ev.AV.plain, qaf, qam, ql, qr, Ev.keep, qad, qw, qd, Ev.SObj.lo, qa1, qbd, qu, qb1, qbn, qf0, qj, qh, qac, qao, ↓qs, Ev.it1, ↓reduceIte, zga, zgb, zgd, zge, zgc, zgo, zfe, zgf, zgg, List.drop_nil, zgm, zgl, zgn, zgj, zgk, zgh, Nat.reduceAdd, Nat.reduceEqDiff, Nat.reduceLT, Nat.reduceLeDiff, reduceCtorEq, zgv, zfc, zfa, zgx, ne_eq, zfb, zff, zfd, Nat.le_refl, zgy]
  ·refine .inl ⟨((b, s ++ [n]), g + 1), ?_, by simp only; rw [hnx, if_neg hlp]⟩
   have bd : (s.length + 1) * 64 ≤ 140737488355328 := by omega
   have tk : List.take s.length (s.map Evt.r) = s.map Evt.r := List.take_of_length_le (by simp)
   have lo := qv 10 (s ++ [n])
   have hle : s.length ≤ s.length := Nat.le_refl _
   obtain ⟨nt, nk, nl, ni, np, na⟩ := n
   simp only at hlp
   rw [List.map_append] at lo
   simp only [List.map_append, zgp, List.map_cons, List.map_nil, Evt.r] at lo ⊢
   simp only [qdj, zgs, zgr, zgq, zgt, hn, hi', hw, hlp, bd, tk, lo, hle, h0, h4, h5, h6, h7, h8, h9, hv8, Evt.r, qv, qag, qau, Ev.exec, qb, qe, qc, qai, qn9, Ev.Opnd.ev, Ev.Env.get, Ev.Env.set, Ev.look, qk, qb0, qae, qf6, Ev.AV.cells, Ev.AV.uc, qy, Ev.AV.plain, qaf, qam, ql, qr, Ev.keep, qad, qw, qd, Ev.SObj.lo, qa1, qu, qb1, qbn, qf0, qj, qh, qac, qao, qbl, qa9, List.replicate_one, zgi, ↓qs, Ev.it1, ↓reduceIte, zga, zgb, zgd, zge, zgc, zgo, zfe, zgf, zgg, List.drop_nil, zgm, zgl, zgn, zgj, zgk, zgh, Nat.reduceAdd, Nat.reduceEqDiff, Nat.reduceMul, Nat.reduceLT, Nat.reduceLeDiff, Nat.reducePow, reduceCtorEq, zgv, zgw, zfc, zfa, zgx, ne_eq, zfb, zff, zfd, zgu, Nat.le_refl, zgy]
 ·rintro ⟨⟨b, s⟩, g⟩ hbs
  rw [List.take_length] at hbs
  simp only at hbs ⊢
  rw [← hbs]
  simp only [qdj, Int.lt_irrefl, Ev.exec, qb, qe, qc, qai, Ev.Opnd.ev, Ev.Env.get, Ev.Env.set, Ev.look, ql, ↓qs, Ev.it1, ↓reduceIte, Nat.reduceEqDiff, reduceCtorEq, zgw, zfa, zgy]
  exact ⟨_, rfl, g, rfl, rfl, rfl, rfl, rfl⟩
theorem exec_l2 (h0 : R0.lo 10 = true) (h4 : X4.lo 10 = true) (h5 : X5.lo 10 = true) (h6 : X6.lo 10 = true) (h7 : X7.lo 10 = true) (h8 : X8.lo 10 = true) (h9 : X9.lo 10 = true) (G : List (List Int)) (cg : Bool) (b : List Evt) (s : List Evt) (g2 : Nat) (hb : b.length ≤ 1000000) (hk : qcr b) (hG : G.length ≤ 1000000) (hGk : ∀ k ∈ G, k.length ≤ 9223372036854775807) :
  ∃ y, itB (exec (evL T) itL none qd6) (qr [0, 81, 82, 83] true 10) ⟨[(0, .ptr 3 0 0 0), (81, (.fsl ((G).map qfz) cg)), (82, (ii G.length)), (83, (ii ((0 : Nat))))], []⟩ (R0 :: .row 6 ((dn).map Evt.r) g1 :: .row 6 ((s).map Evt.r) g2 :: .row 8 [[(ii ((x).r0)), (ii ((x).r1)), (.fsl (((x).procs).map Pr.r) f), (ii ((x).sum)), (.fsl ((b).map Evt.r) false), .sl 1 g1 0 (dn).length false, .sl 2 g2 0 (s).length false, (bb o)]] 0 :: [X4, X5, X6, X7, X8, X9]) = some y ∧
   (y.1 = .exit 2 ∧ y.2.1.marks = [] ∧ y.2.2 = (R0 :: .row 6 ((dn).map Evt.r) g1 :: .row 6 ((s).map Evt.r) g2 :: .row 8 [[(ii ((x).r0)), (ii ((x).r1)), (.fsl (((x).procs).map Pr.r) f), (ii ((x).sum)), (.fsl (((qvv b G)).map Evt.r) false), .sl 1 g1 0 (dn).length false, .sl 2 g2 0 (s).length false, (bb o)]] 0 :: [X4, X5, X6, X7, X8, X9])) := by
 simp only [SObj.lo] at h0 h4 h5 h6 h7 h8 h9
 have key := qeu (f := exec (evL T) itL none qd6) (s := qr [0, 81, 82, 83] true 10) (α := List Evt)
  (fun i a => ⟨[(0, .ptr 3 0 0 0), (81, (.fsl ((G).map qfz) cg)), (82, (ii G.length)), (83, (ii i))], []⟩) (fun _ a => (R0 :: .row 6 ((dn).map Evt.r) g1 :: .row 6 ((s).map Evt.r) g2 :: .row 8 [[(ii ((x).r0)), (ii ((x).r1)), (.fsl (((x).procs).map Pr.r) f), (ii ((x).sum)), (.fsl ((a).map Evt.r) false), .sl 1 g1 0 (dn).length false, .sl 2 g2 0 (s).length false, (bb o)]] 0 :: [X4, X5, X6, X7, X8, X9])) (fun i a => a = qvv b (G.take i)) G.length
  (fun y => y.1 = .exit 2 ∧ y.2.1.marks = [] ∧ y.2.2 = (R0 :: .row 6 ((dn).map Evt.r) g1 :: .row 6 ((s).map Evt.r) g2 :: .row 8 [[(ii ((x).r0)), (ii ((x).r1)), (.fsl (((x).procs).map Pr.r) f), (ii ((x).sum)), (.fsl (((qvv b G)).map Evt.r) false), .sl 1 g1 0 (dn).length false, .sl 2 g2 0 (s).length false, (bb o)]] 0 :: [X4, X5, X6, X7, X8, X9])) ?_ ?_ 0 b (Nat.zero_le _) rfl
 ·exact key
 ·rintro i a hi ha
  obtain ⟨k, hkk⟩ : ∃ k, G[i]? = some k := ⟨_, List.getElem?_eq_getElem hi⟩
  have hi' : (i : Int) < (G.length : Int) := by omega
  have hw : IntKind.i64.wrap ((i : Int) + 1) = ((i + 1 : Nat) : Int) := by rw [qaw (by omega) (by omega)]; simp
  have hs : a.Sublist b := by rw [ha]; exact qri _ _
  obtain ⟨cf, _, hC⟩ := qwi a false k false (by have := hs.length_le; omega) (fun z hz => hk z (hs.subset hz)) (hGk k (List.mem_of_getElem? hkk)) (fun _ => rfl)
  refine .inl ⟨(qh8 a k).1, ?_, by rw [List.take_add_one, hkk, ha]; exact (q8o _ _ _).symm⟩
  generalize qh8 a k = ck at *
  obtain ⟨cl, cb⟩ := ck
  simp only at hC ⊢
  simp only [qd6, zgs, zgr, zgq, zgt, hkk, hi', hw, hC, qfz, h0, h4, h5, h6, h7, h8, h9, qv, qag, qbs, qau, Ev.exec, qb, qe, qc, qa5, qai, Ev.evs, Ev.Opnd.ev, Ev.Env.get, Ev.Env.set, Ev.look, qk, qae, Ev.AV.cells, Ev.AV.uc, qy, Ev.AV.plain, qaf, ql, qr, Ev.keep, qad, qw, qd, Ev.SObj.lo, qa1, qu, qbn, qf0, qj, qh, qac, qao, ↓qs, Ev.it1, ↓reduceIte, zga, zgb, zgd, zge, zgc, zgo, zfe, zgf, zgg, zgm, zgl, zgj, zgk, zgh, Nat.reduceAdd, Nat.reduceEqDiff, Nat.reduceLT, Nat.reduceLeDiff, reduceCtorEq, zgv, zfc, zfa, zgx, zfd, zgy]
 ·rintro a ha
  rw [List.take_length] at ha
  rw [← ha]
  simp only [qd6, Int.lt_irrefl, Ev.exec, qb, qe, qc, qai, Ev.Opnd.ev, Ev.Env.get, Ev.Env.set, Ev.look, ql, ↓qs, Ev.it1, ↓reduceIte, Nat.reduceEqDiff, reduceCtorEq, zgw, zfa, zgy]
  exact ⟨_, rfl, rfl, rfl, rfl⟩
theorem q70 (h0 : R0.lo 9 = true) (h4 : X4.lo 9 = true) (h5 : X5.lo 9 = true) (h6 : X6.lo 9 = true) (h7 : X7.lo 9 = true) (h8 : X8.lo 9 = true) (w : WSt) (rest : List Evt) (g2 : Nat) (R : Ready c w.lp e) (hf : f = true → w.lp.procs = []) (hP : PlOk (rest, w.sent) (qbp c w.lp e).out) (hd : w.done.length ≤ 100000) :
  ∃ g1' g2' : Nat, (evL T).call qdk [.ptr 3 0 0 0, (.agg [(.fsl ((c.lps).map lpC) false), (.fsl ((c.progs).map qc1) false), (ii c.look), (ii c.fin), (ii c.cap)]), (.agg [(ii e.time), (.fsl ((e.key).map qb9) false), (ii e.lp), (ii e.kind), (ii e.proc), (ii e.arg)])] (R0 :: .row 6 ((w.done).map Evt.r) g1 :: .row 6 ((w.sent).map Evt.r) g2 :: .row 8 [[(ii ((w.lp).r0)), (ii ((w.lp).r1)), (.fsl (((w.lp).procs).map Pr.r) f), (ii ((w.lp).sum)), (.fsl ((rest).map Evt.r) false), .sl 1 g1 0 (w.done).length false, .sl 2 g2 0 (w.sent).length false, (bb w.over)]] 0 :: [X4, X5, X6, X7, X8]) =
   some (.tup [], (R0 :: .row 6 (((w.step c e rest).done).map Evt.r) g1' :: .row 6 (((w.step c e rest).sent).map Evt.r) g2' :: .row 8 [[(ii (((w.step c e rest).lp).r0)), (ii (((w.step c e rest).lp).r1)), (.fsl ((((w.step c e rest).lp).procs).map Pr.r) f), (ii (((w.step c e rest).lp).sum)), (.fsl (((w.step c e rest).box).map Evt.r) false), .sl 1 g1' 0 ((w.step c e rest).done).length false, .sl 2 g2' 0 ((w.step c e rest).sent).length false, (bb ((w.step c e rest).over))]] 0 :: [X4, X5, X6, X7, X8])) := by
 have mono : ∀ {X : SObj}, X.lo 9 = true → X.lo 10 = true := fun h => q0z (by omega) _ h
 have hz := R.sizes
 have hE := Exec_evF R f hf
 obtain ⟨wl, wb, wd, ws, wo⟩ := w
 simp only at R hP hz hE hd hf ⊢
 unfold WSt.step
 simp only
 generalize hr : qbp c wl e = r at *
 obtain ⟨⟨y1, f1, σ1⟩, k1, g2', k2, k3, k4, k5, k6⟩ := exec_l1 (e := e) R0 X4 X5 X6 X7 X8 (.row 4 [[(ii r.lp.r0), (ii r.lp.r1), (.fsl ((r.lp.procs).map Pr.r) f), (ii r.lp.sum)]] 0) (wd ++ [e]) (g1 + 1) r.lp (wo || r.over) f (mono h0) (mono h4) (mono h5) (mono h6) (mono h7) (mono h8) (by simp only [qau, Ev.SObj.lo, qa1, qu, qj, qh, qac, qao, zfc, zgy]) r.out r.nil (rest, ws) g2 hP ((.fsl ((r.gone).map qfz) r.nil)) (by simp only [qbs, qu, zgy])
 have hpl := qt6 e.lp r.out (rest, ws) []
 have hln := hP.len
 have hkk := hP.ok
 rw [List.append_nil, List.append_nil] at hpl
 obtain ⟨⟨y2, f2, σ2⟩, m1, m2, m3, m4⟩ := exec_l2 R0 X4 X5 X6 X7 X8 (.row 4 [[(ii r.lp.r0), (ii r.lp.r1), (.fsl ((r.lp.procs).map Pr.r) f), (ii r.lp.sum)]] 0) (wd ++ [e]) (g1 + 1) r.lp (wo || r.over) f (mono h0) (mono h4) (mono h5) (mono h6) (mono h7) (mono h8) (by simp only [qau, Ev.SObj.lo, qa1, qu, qj, qh, qac, qao, zfc, zgy]) r.gone r.nil (qhi e.lp (rest, ws) r.out).1 (qhi e.lp (rest, ws) r.out).2 g2'
  (by have := hpl.length_eq; simp only [zgp] at this hln; omega) (fun z hz' => hkk z (hpl.mem_iff.1 (List.mem_append_left _ hz'))) (by omega) (fun k hk' => by have := hz.2.2.2.2.1 k hk'; omega)
 simp only [Int.ofNat_zero] at k1 k2 k3 k4 k5 k6 m1 m2 m3 m4
 subst k2; subst k4; subst m2; subst m4
 refine ⟨g1 + 1, g2', ?_⟩
 have bd : (wd.length + 1) * 64 ≤ 140737488355328 := by omega
 have tk : List.take wd.length (wd.map Evt.r) = wd.map Evt.r := List.take_of_length_le (by simp)
 have hle : wd.length ≤ wd.length := Nat.le_refl _
 have j0 := mono h0
 have j4 := mono h4
 have j5 := mono h5
 have j6 := mono h6
 have j7 := mono h7
 have j8 := mono h8
 simp only [SObj.lo] at h0 h4 h5 h6 h7 h8 j0 j4 j5 j6 j7 j8
 generalize (qhi e.lp (rest, ws) r.out).2 = Z at *
 generalize (qhi e.lp (rest, ws) r.out).1 = B at *
 generalize qvv B r.gone = B' at *
 obtain ⟨et, ek, el, ei, ep, ea⟩ := e
 obtain ⟨a0, a1, ap, as'⟩ := wl
 have lo := qv 9 (wd ++ [⟨et, ek, el, ei, ep, ea⟩])
 have lo10 := qv 10 (wd ++ [⟨et, ek, el, ei, ep, ea⟩])
 rw [List.map_append] at lo lo10 k1 m1
 simp only [List.map_append, zgp, List.map_cons, List.map_nil, zga, zgb, zfd, Evt.r] at lo lo10 k1 m1 ⊢
 rw [qx qoq qnr]
 cases wo with
 | true =>
  simp only [Bool.true_or] at k1 m1 ⊢
  simp only [qe5, hE, k1, k3, k5, k6, m1, m3, bd, tk, hle, lo, lo10, h0, h4, h5, h6, h7, h8, j0, j4, j5, j6, j7, j8, qv, qag, qbs, qau, qc4, qbe, qn, Ev.exec, qb, qe, qc, qa5, qai, qn9, Ev.evs, Ev.Opnd.ev, Ev.Env.get, Ev.Env.set, Ev.Env.unset, Ev.look, qo, qk, qb0, qae, qf6, Ev.AV.cells, Ev.AV.uc, qy, Ev.AV.plain, qm, qaj, Ev.kill, qah, qr, Ev.keep, qad, qw, qd, Ev.SObj.lo, qa1, qbd, qba, qu, qb1, qbn, qf0, qj, qh, qac, qao, qbl, qa9, List.replicate_one, zgi, ↓qs, ↓qaq, ↓reduceIte, zga, zgb, zgd, zge, zgc, zgo, zfe, zgf, zgg, List.drop_nil, zgm, zgl, zgn, zgj, zgk, zgh, Nat.reduceAdd, Nat.reduceEqDiff, Nat.reduceMul, Nat.reduceLT, Nat.reduceLeDiff, Nat.reducePow, reduceCtorEq, zgv, zfc, zfa, Bool.true_eq_false, zgx, ne_eq, zfb, zff, zfd, Nat.add_zero, zgu, Nat.le_refl, zgy]
 | false =>
  simp only [Bool.false_or] at k1 m1 ⊢
  simp only [qe5, hE, k1, k3, k5, k6, m1, m3, bd, tk, hle, lo, lo10, h0, h4, h5, h6, h7, h8, j0, j4, j5, j6, j7, j8, qv, qag, qbs, qau, qc4, qbe, qn, Ev.exec, qb, qe, qc, qa5, qai, qn9, Ev.evs, Ev.Opnd.ev, Ev.Env.get, Ev.Env.set, Ev.look, qo, qk, qb0, qae, qf6, Ev.AV.cells, Ev.AV.uc, qy, Ev.AV.plain, qm, qaj, Ev.kill, qah, qr, Ev.keep, qad, qw, qd, Ev.SObj.lo, qa1, qbd, qba, qu, qb1, qbn, qf0, qj, qh, qac, qao, qbl, qa9, List.replicate_one, zgi, ↓qs, ↓qaq, ↓reduceIte, zga, zgb, zgd, zge, zgc, zgo, zfe, zgf, zgg, List.drop_nil, zgm, zgl, zgn, zgj, zgk, zgh, Nat.reduceAdd, Nat.reduceEqDiff, Nat.reduceMul, Nat.reduceLT, Nat.reduceLeDiff, Nat.reducePow, reduceCtorEq, zgv, zfc, zfa, zgx, ne_eq, zfb, zff, zfd, Nat.add_zero, zgu, Nat.le_refl, zgy]
end
set_option maxRecDepth 10000
theorem WInv.run {c : Cfg} {i : Nat} {O : List Evt} (hor : Int) : ∀ (k : Nat) {w : WSt} {S : Sim} {H : List Evt}, WInv c i w O S H → H.length + k ≤ 20000 →
  ∃ (S' : Sim) (es : List Evt), WInv c i (WSt.run c hor k w) O S' (H ++ es) ∧ (WSt.run c hor k w).done = w.done ++ es ∧ S'.lps = S.lps.set i (WSt.run c hor k w).lp ∧ es.length ≤ k
 | 0, w, S, H, h, _ => ⟨S, [], by rw [List.append_nil]; exact h, (List.append_nil _).symm, (by
   have : S.lps.set i w.lp = S.lps := List.ext_getElem? fun j => by
    by_cases e : i = j
    ·subst e; rw [List.getElem?_set_self (by rw [h.K.lpl]; exact h.il), h.lp]
    ·rw [List.getElem?_set_ne e]
   exact this.symm), Nat.le_refl _⟩
 | k + 1, w, S, H, h, hk => by
  unfold WSt.run
  split
  ·obtain ⟨S', es, h1, h2, h3, h4⟩ := WInv.run hor 0 h (by omega)
   exact ⟨S', es, h1, h2, h3, by omega⟩
  next e rest hb =>
   split
   ·obtain ⟨S1, g1, g2⟩ := h.step (by omega) hb
    obtain ⟨S', es, h1, h2, h3, h4⟩ := WInv.run hor k g1 (by simp; omega)
    refine ⟨S', e :: es, by simpa using h1, by rw [h2]; simp [WSt.step], ?_, by simp; omega⟩
    rw [h3, g2, List.set_set]
   ·obtain ⟨S', es, h1, h2, h3, h4⟩ := WInv.run hor 0 h (by omega)
    exact ⟨S', es, h1, h2, h3, by omega⟩
def pL (c : Cfg) : SObj := .loop ⟨[(4, (.fptr [(.fsl ((c.lps).map lpC) false), (.fsl ((c.progs).map qc1) false), (ii c.look), (ii c.fin), (ii c.cap)])), (13, .ptr 4 0 0 0)], []⟩ [22] qew qex .ready none
def pLb (c : Cfg) : SObj := .loop ⟨[(4, (.fptr [(.fsl ((c.lps).map lpC) false), (.fsl ((c.progs).map qc1) false), (ii c.look), (ii c.fin), (ii c.cap)])), (13, .ptr 4 0 0 0)], []⟩ [22] qew qex .busy none
def pS (c : Cfg) (f : Bool) (w : WSt) (b : List Evt) (g1 g2 : Nat) : qaa := ((.row 4 [[(ii 0), (ii 0), .fsl [] false, (ii 0)]] 0) :: .row 6 ((w.done).map Evt.r) g1 :: .row 6 ((w.sent).map Evt.r) g2 :: .row 8 [[(ii ((w.lp).r0)), (ii ((w.lp).r1)), (.fsl (((w.lp).procs).map Pr.r) f), (ii ((w.lp).sum)), (.fsl ((b).map Evt.r) false), .sl 1 g1 0 (w.done).length false, .sl 2 g2 0 (w.sent).length false, (bb w.over)]] 0 :: [.row 1 [[.ptr 3 0 0 0]] 0, .defr, (pL c)])
section
variable {c : Cfg} {f : Bool}
theorem w_round {e : Evt} (w : WSt) (rest : List Evt) (g1 g2 : Nat) (R : Ready c w.lp e) (hf : f = true → w.lp.procs = []) (hP : PlOk (rest, w.sent) (qbp c w.lp e).out) (hd : w.done.length ≤ 100000) :
  ∃ g1' g2' : Nat, (evL T).round 6 [(.agg [(ii e.time), (.fsl ((e.key).map qb9) false), (ii e.lp), (ii e.kind), (ii e.proc), (ii e.arg)])] (pS c f w rest g1 g2 ++ [.row 6 [e.r] 0]) = some ((bb true), pS c f (w.step c e rest) (w.step c e rest).box g1' g2' ++ [.row 6 [e.r] 0]) := by
 obtain ⟨g1', g2', h⟩ := q70 (e := e) (.row 4 [[(ii 0), (ii 0), .fsl [] false, (ii 0)]] 0) (.row 1 [[.ptr 3 0 0 0]] 0) .defr (pLb c) (.row 6 [e.r] 0) (.row 6 [e.r] 0) g1 f (by simp only [Ev.SObj.lo, qa1, qu, qj, qh, qac, qao, zfc, zgy]) (by simp only [Ev.SObj.lo, qf0, qj, qh, qac, qao, Nat.reduceLT, zgv, zfc, zgy]) (by simp only [Ev.SObj.lo, zgy]) (by simp only [pLb, qc4, qbe, qad, Ev.SObj.lo, qa1, qu, qb1, qf0, qj, qh, Nat.reduceLT, zgv, zfc, zgy]) (by simp only [Evt.r, qag, Ev.SObj.lo, qa1, qu, qj, qh, qac, qao, zfc, zgy]) (by simp only [Evt.r, qag, Ev.SObj.lo, qa1, qu, qj, qh, qac, qao, zfc, zgy]) w rest g2 R hf hP hd
 refine ⟨g1', g2', ?_⟩
 rw [q49]
 generalize w.step c e rest = w' at *
 obtain ⟨et, ek, el, ei, ep, ea⟩ := e
 simp only [pLb, Evt.r, qew, qex] at h
 simp only [pS, pL, qew, qex, zgm, zgl, Evt.r, h, qv, qag, qau, qc4, qbe, qnl, qlz, Ev.exec, qb, qe, qc, qd3, qai, Ev.evs, Ev.Opnd.ev, Ev.Env.get, Ev.Env.set, Ev.look, qk, qae, Ev.AV.cells, qy, Ev.AV.plain, qah, qad, qd, Ev.SObj.lo, qa1, qu, qb1, qbn, qf0, qj, qh, qac, qao, ↓qs, ↓reduceIte, zga, zgb, zgd, zge, zgc, zgo, zfe, zgf, zgg, List.drop_nil, zgm, zgl, zgn, zgj, zgk, zgh, Nat.reduceAdd, Nat.reduceEqDiff, Nat.reduceLT, zgv, zfc, zfa, zgx, ne_eq, zfb, zff, zfd, Nat.le_refl, zgy]
theorem events_L (hor : Int) : ∀ (k : Nat) {w : WSt} {i : Nat} {O : List Evt} {S : Sim} {H : List Evt} (g1 g2 : Nat), w.done.length + k = 2000 → WInv c i w O S H → (f = true → w.lp.procs = []) → H.length + k ≤ 20000 →
  ∃ y, itB (exec (evL T) itL none qbz) (qr [0, 1, 2] true 7) ⟨[(0, .yld 6), (1, .fptr [.ptr 3 0 0 0]), (2, .fptr [(ii hor)])], []⟩ (pS c f w w.box g1 g2) = some y ∧
   ∃ g1' g2' : Nat, (y.1 = .exit 0 ∨ y.1 = .ret) ∧ y.2.1.marks = [] ∧ ∃ X : qaa, y.2.2 = pS c f (WSt.run c hor k w) (WSt.run c hor k w).box g1' g2' ++ X := by
 intro k
 induction k with
 | zero =>
  intro w i O S H g1 g2 hk h hf hn
  have c1 : ¬ (w.done.length : Int) < 2000 := by omega
  have hx : ∃ y, it1 (exec (evL T) itL none qbz) (qr [0, 1, 2] true 7) ⟨[(0, .yld 6), (1, .fptr [.ptr 3 0 0 0]), (2, .fptr [(ii hor)])], []⟩ (pS c f w w.box g1 g2) = some (.inr y) ∧ (y.1 = .exit 0 ∨ y.1 = .ret) ∧ y.2.1.marks = [] ∧ y.2.2 = pS c f w w.box g1 g2 := by
   simp only [qbz, pS, pL, c1, Ev.exec, qb, qe, qc, qai, Ev.Opnd.ev, Ev.Env.get, Ev.Env.set, Ev.look, qk, qae, ql, ↓qs, Ev.it1, ↓reduceIte, zgd, zge, zgf, zgg, zgh, reduceCtorEq, zgw, zfa, zfd, zgy]
   exact ⟨_, rfl, by simp, rfl, rfl⟩
  obtain ⟨y, h1, h2, h3, h4⟩ := hx
  exact ⟨y, qql h1, g1, g2, h2, h3, [], by rw [List.append_nil]; exact h4⟩
 | succ k ih =>
  intro w i O S H g1 g2 hk h hf hn
  have c1 : (w.done.length : Int) < 2000 := by omega
  have hl := h.len
  obtain ⟨cf, hT⟩ := qze w.box false hor (by omega)
  cases hb : w.box with
  | nil =>
   have hrun : WSt.run c hor (k + 1) w = w := by rw [WSt.run, hb]
   rw [hrun]
   rw [hb] at hT
   have hx : ∃ y, it1 (exec (evL T) itL none qbz) (qr [0, 1, 2] true 7) ⟨[(0, .yld 6), (1, .fptr [.ptr 3 0 0 0]), (2, .fptr [(ii hor)])], []⟩ (pS c f w [] g1 g2) = some (.inr y) ∧ (y.1 = .exit 0 ∨ y.1 = .ret) ∧ y.2.1.marks = [] ∧ ∃ X, y.2.2 = pS c f w w.box g1 g2 ++ X := by
    rw [hb]
    simp only [que, q72, List.map_nil] at hT
    simp only [qbz, pS, pL, c1, hT, List.map_nil, Ev.exec, qb, qe, qc, qa5, qai, Ev.evs, Ev.Opnd.ev, Ev.Env.get, Ev.Env.set, Ev.look, qk, qae, Ev.AV.cells, qy, Ev.AV.plain, ql, qa1, qu, qj, qh, qac, ↓qs, Ev.it1, ↓reduceIte, zga, zgb, zgd, zge, zgo, zgf, zgg, List.drop_nil, zgm, zgl, zgn, zgj, zgk, zgh, Nat.reduceAdd, Nat.reduceEqDiff, reduceCtorEq, zgv, zfc, Bool.not_false, zfa, zgx, ne_eq, zfb, zff, zfd, Nat.le_refl, zgy]
    exact ⟨_, rfl, by simp, rfl, _, rfl⟩
   obtain ⟨y, h1, h2, h3, h4⟩ := hx
   exact ⟨y, qql h1, g1, g2, h2, h3, h4⟩
  | cons e rest =>
   rw [hb] at hT
   by_cases ht : e.time < hor
   ·have hrun : WSt.run c hor (k + 1) w = WSt.run c hor k (w.step c e rest) := by rw [WSt.run, hb]; simp only [ht, if_true]
    rw [hrun]
    obtain ⟨_, R, _⟩ := h.ready (by omega) hb
    have hP := h.plOk (by omega) hb
    obtain ⟨S', hS, _⟩ := h.step (by omega) hb
    obtain ⟨g1', g2', hr⟩ := w_round w rest g1 g2 R hf hP (by omega)
    obtain ⟨y, k1, k2⟩ := ih (w := w.step c e rest) (S := S') (H := H ++ [e]) g1' g2' (by simp [WSt.step]; omega) hS (fun k => q4o (hf k)) (by simp; omega)
    refine ⟨y, q3n ?_ k1, k2⟩
    clear k1 k2 ih hP R hS hrun
    generalize w.step c e rest = w' at *
    obtain ⟨et, ek, el, ei, ep, ea⟩ := e
    simp only at ht
    simp only [que, ht, if_true, List.map_cons, Evt.r] at hT
    simp only [pS, pL, zgm, zgl, Evt.r] at hr
    have hlo' := fun (w : WSt) => qau 7 w.lp.procs
    simp only [qbz, pS, pL, c1, hT, hr, List.map_cons, Evt.r, zgm, qv, qag, qau, qc4, qbe, Ev.exec, qb, qe, qc, qa5, qk8, qai, Ev.evs, Ev.Opnd.ev, Ev.Env.get, Ev.Env.set, Ev.look, qk, qae, Ev.AV.cells, Ev.AV.uc, qy, Ev.AV.plain, ql, qr, Ev.keep, qad, qw, qd, Ev.SObj.lo, qa1, qu, qb1, qbn, qf0, qwy, qj, qh, qac, qao, ↓qs, Ev.it1, ↓reduceIte, zga, zgb, zgd, zge, zgc, zgo, zfe, zgf, zgg, List.drop_nil, zgm, zgl, zgn, zgj, zgk, zgh, Nat.reduceAdd, Nat.reduceEqDiff, Nat.reduceLT, Nat.reduceLeDiff, reduceCtorEq, zgv, zfc, Bool.not_true, zfa, zgx, ne_eq, zfb, zff, zfd, zgu, Nat.le_refl, zgy]
   ·have hrun : WSt.run c hor (k + 1) w = w := by rw [WSt.run, hb]; simp only [ht, if_false]
    rw [hrun]
    have hx : ∃ y, it1 (exec (evL T) itL none qbz) (qr [0, 1, 2] true 7) ⟨[(0, .yld 6), (1, .fptr [.ptr 3 0 0 0]), (2, .fptr [(ii hor)])], []⟩ (pS c f w (e :: rest) g1 g2) = some (.inr y) ∧ (y.1 = .exit 0 ∨ y.1 = .ret) ∧ y.2.1.marks = [] ∧ ∃ X, y.2.2 = pS c f w w.box g1 g2 ++ X := by
     rw [hb]
     obtain ⟨et, ek, el, ei, ep, ea⟩ := e
     simp only at ht
     simp only [que, ht, if_false, q72, List.map_cons, List.map_nil, Evt.r] at hT
     simp only [qbz, pS, pL, c1, hT, List.map_cons, Evt.r, qv, qag, Ev.exec, qb, qe, qc, qa5, qai, Ev.evs, Ev.Opnd.ev, Ev.Env.get, Ev.Env.set, Ev.look, qk, qae, Ev.AV.cells, qy, Ev.AV.plain, ql, qa1, qu, qj, qh, qao, ↓qs, Ev.it1, ↓reduceIte, zga, zgb, zgd, zge, zgo, zgf, zgg, List.drop_nil, zgm, zgl, zgn, zgj, zgk, zgh, Nat.reduceAdd, Nat.reduceEqDiff, reduceCtorEq, zgv, zfc, Bool.not_false, zfa, zgx, ne_eq, zfb, zff, zfd, Nat.le_refl, zgy]
     exact ⟨_, rfl, by simp, rfl, _, rfl⟩
    obtain ⟨y, h1, h2, h3, h4⟩ := hx
    exact ⟨y, qql h1, g1, g2, h2, h3, h4⟩
theorem q96 (hor : Int) {x : Lp} {b : List Evt} {i : Nat} {O : List Evt} {S : Sim} {H : List Evt} (h : WInv c i ⟨x, b, [], [], false⟩ O S H) (hf : f = true → x.procs = []) (hn : H.length ≤ 18000) :
  ∃ g1 g2 : Nat, (evL T).call qcx [.yld 6, .fptr [.ptr 3 0 0 0], .fptr [(ii hor)]] (pS c f ⟨x, b, [], [], false⟩ b 0 0) = some (.tup [], pS c f (WSt.run c hor 2000 ⟨x, b, [], [], false⟩) (WSt.run c hor 2000 ⟨x, b, [], [], false⟩).box g1 g2) := by
 obtain ⟨⟨y, e, σ⟩, k1, g1, g2, k2, k3, X, k4⟩ := events_L hor 2000 0 0 rfl h hf (by omega)
 simp only at k1 k2 k3 k4
 subst k4
 refine ⟨g1, g2, ?_⟩
 rw [qx qkb qng]
 generalize WSt.run c hor 2000 ⟨x, b, [], [], false⟩ = w at *
 have hn1 : ∀ (w : WSt) (b : List Evt) (g1 g2 : Nat), (pS c f w b g1 g2).length = 7 := fun _ _ _ _ => rfl
 have ht : ∀ (w : WSt) (b : List Evt) (g1 g2 : Nat) (X : qaa), (pS c f w b g1 g2 ++ X).take 7 = pS c f w b g1 g2 := fun _ _ _ _ _ => List.take_left' rfl
 have hlo : ∀ (w : WSt) (b : List Evt) (g1 g2 : Nat), qd 7 (pS c f w b g1 g2) = true := fun w b g1 g2 => by simp only [pS, pL, qv, qau, qc4, qbe, qad, qd, Ev.SObj.lo, qa1, qu, qb1, qbn, qf0, qj, qh, qac, qao, Nat.reduceLT, zgv, zfc, zgy]
 have ht0 : ∀ (w : WSt) (b : List Evt) (g1 g2 : Nat), (pS c f w b g1 g2).take 7 = pS c f w b g1 g2 := fun _ _ _ _ => rfl
 rcases k2 with rfl | rfl
 ·simp only [qek, hn1, ht, ht0, hlo, k1, k3, qn, Ev.exec, Ev.Env.get, Ev.look, qo, qm, qaj, Ev.kill, qah, qr, Ev.keep, qad, qw, qa1, qba, qb1, qf0, qwy, qj, qh, ↓qs, ↓qaq, ↓reduceIte, zga, zgb, Nat.reduceAdd, Nat.reduceEqDiff, Nat.reduceLT, reduceCtorEq, zgv, zfc, zgx, zfd, zgu, zgy]
 ·simp only [qek, hn1, ht, ht0, hlo, k1, k3, qn, Ev.exec, Ev.Env.get, Ev.look, qo, qm, qaj, Ev.kill, qah, qr, Ev.keep, qad, qw, qa1, qba, qb1, qf0, qwy, qj, qh, ↓qs, ↓qaq, ↓reduceIte, zga, zgb, Nat.reduceAdd, Nat.reduceEqDiff, Nat.reduceLT, reduceCtorEq, zgv, zfc, zgx, zfd, zgu, zgy]
theorem q4t (f : Bool) (w : WSt) (g1 g2 : Nat) (R0 X4 X5 X6 : SObj) (h0 : R0.lo 7 = true) (h4 : X4.lo 7 = true) (h5 : X5.lo 7 = true) (h6 : X6.lo 7 = true) : (evL T).call qdu [.ptr 3 0 0 0] (R0 :: .row 6 ((w.done).map Evt.r) g1 :: .row 6 ((w.sent).map Evt.r) g2 :: .row 8 [[(ii ((w.lp).r0)), (ii ((w.lp).r1)), (.fsl (((w.lp).procs).map Pr.r) f), (ii ((w.lp).sum)), (.fsl ((w.box).map Evt.r) false), .sl 1 g1 0 (w.done).length false, .sl 2 g2 0 (w.sent).length false, (bb w.over)]] 0 :: [X4, X5, X6]) =
  some (.tup [.agg [(ii w.lp.r0), (ii w.lp.r1), (.fsl ((w.lp.procs).map Pr.r) f), (ii w.lp.sum)], (.fsl ((w.box).map Evt.r) false), .sl 1 g1 0 w.done.length false, .sl 2 g2 0 w.sent.length false, (bb w.over)], (R0 :: .row 6 ((w.done).map Evt.r) g1 :: .row 6 ((w.sent).map Evt.r) g2 :: .row 8 [[(ii ((w.lp).r0)), (ii ((w.lp).r1)), (.fsl (((w.lp).procs).map Pr.r) f), (ii ((w.lp).sum)), (.fsl ((w.box).map Evt.r) false), .sl 1 g1 0 (w.done).length false, .sl 2 g2 0 (w.sent).length false, (bb w.over)]] 0 :: [X4, X5, X6])) := by
 simp only [SObj.lo] at h0 h4 h5 h6
 rw [qx qpf qol]
 simp only [qgu, h0, h4, h5, h6, qv, qau, qn, Ev.exec, qb, qe, qc, qai, Ev.Opnd.ev, Ev.Env.get, Ev.Env.set, Ev.look, qo, qk, qae, Ev.AV.cells, qy, Ev.AV.plain, qm, qab, qaj, Ev.kill, qah, qd, Ev.SObj.lo, qa1, qbd, qba, qu, qbn, qnh, Ev.AV.obj?, qj, qh, qac, qao, ↓qs, ↓reduceIte, zga, zgb, zgd, zge, zgc, zgo, zfe, zgf, zgg, List.drop_nil, zgm, zgl, zgn, zgj, zgk, zgh, Nat.reduceAdd, Nat.reduceEqDiff, Nat.reduceBEq, Nat.reduceLT, Nat.reduceLeDiff, reduceCtorEq, zgv, zfc, Bool.not_false, zfa, zgx, ne_eq, zfb, zff, zfd, Nat.add_zero, Nat.le_refl, zgy]
 try rfl
theorem q89 (hor : Int) {x : Lp} {b : List Evt} {cb : Bool} {i : Nat} {O : List Evt} {S : Sim} {H : List Evt} (h : WInv c i ⟨x, b, [], [], false⟩ O S H) (hf : f = true → x.procs = []) (hn : H.length ≤ 18000) :
  qa4 (evL T) qep [(.agg [(.fsl ((c.lps).map lpC) false), (.fsl ((c.progs).map qc1) false), (ii c.look), (ii c.fin), (ii c.cap)]), (.agg [(ii x.r0), (ii x.r1), (.fsl ((x.procs).map Pr.r) f), (ii x.sum)]), (.fsl ((b).map Evt.r) cb), (ii hor)] = some (.tup [(.agg [(ii ((WSt.run c hor 2000 ⟨x, b, [], [], false⟩).lp.r0)), (ii ((WSt.run c hor 2000 ⟨x, b, [], [], false⟩).lp.r1)), (.fsl (((WSt.run c hor 2000 ⟨x, b, [], [], false⟩).lp.procs).map Pr.r) f), (ii ((WSt.run c hor 2000 ⟨x, b, [], [], false⟩).lp.sum))]), (.fsl (((WSt.run c hor 2000 ⟨x, b, [], [], false⟩).box).map Evt.r) false), (.fsl (((WSt.run c hor 2000 ⟨x, b, [], [], false⟩).done).map Evt.r) false), (.fsl (((WSt.run c hor 2000 ⟨x, b, [], [], false⟩).sent).map Evt.r) false), (bb ((WSt.run c hor 2000 ⟨x, b, [], [], false⟩).over))]) := by
 obtain ⟨g1, g2, h1⟩ := q96 hor h hf hn
 generalize WSt.run c hor 2000 ⟨x, b, [], [], false⟩ = w at *
 have h2 := q4t f w g1 g2 (.row 4 [[(ii 0), (ii 0), .fsl [] false, (ii 0)]] 0) (.row 1 [[.ptr 3 0 0 0]] 0) .dead (.loop ⟨[(4, (.fptr [(.fsl ((c.lps).map lpC) false), (.fsl ((c.progs).map qc1) false), (ii c.look), (ii c.fin), (ii c.cap)])), (13, .ptr 4 0 0 0)], []⟩ [22] qew qex .exhausted none) (by simp only [Ev.SObj.lo, qa1, qu, qj, qh, qac, qao, zfc, zgy]) (by simp only [Ev.SObj.lo, qf0, qj, qh, qac, qao, Nat.reduceLT, zgv, zfc, zgy]) (by simp only [Ev.SObj.lo, zgy]) (by simp only [qc4, qbe, qad, Ev.SObj.lo, qa1, qu, qb1, qf0, qj, qh, Nat.reduceLT, zgv, zfc, zgy])
 have h2' := q4t f w g1 g2 (.row 4 [[(ii 0), (ii 0), .fsl [] false, (ii 0)]] 0) (.row 1 [[.ptr 3 0 0 0]] 0) .defr (.loop ⟨[(4, (.fptr [(.fsl ((c.lps).map lpC) false), (.fsl ((c.progs).map qc1) false), (ii c.look), (ii c.fin), (ii c.cap)])), (13, .ptr 4 0 0 0)], []⟩ [22] qew qex .exhausted none) (by simp only [Ev.SObj.lo, qa1, qu, qj, qh, qac, qao, zfc, zgy]) (by simp only [Ev.SObj.lo, qf0, qj, qh, qac, qao, Nat.reduceLT, zgv, zfc, zgy]) (by simp only [Ev.SObj.lo, zgy]) (by simp only [qc4, qbe, qad, Ev.SObj.lo, qa1, qu, qb1, qf0, qj, qh, Nat.reduceLT, zgv, zfc, zgy])
 have hev : ∀ σ : qaa, (evL T).call qdr [.ptr 3 0 0 0, (ii hor)] σ = some (.fn (.func qcx) [] [.fptr [.ptr 3 0 0 0], .fptr [(ii hor)]], σ) := fun σ => by
  rw [qx qpb qoe]
  simp only [qgt, ite_self, List.take_length, qn, Ev.exec, qb, qe, qc, qai, Ev.evs, Ev.Opnd.ev, Ev.Env.get, Ev.Env.set, Ev.look, qo, Ev.AV.cells, Ev.AV.uc, qy, Ev.AV.plain, qm, qab, qaj, Ev.kill, qah, qa1, qb1, qf0, qe3, qj, qh, List.take_length, ↓qs, ↓reduceIte, zga, zgb, Nat.reduceAdd, Nat.reduceEqDiff, reduceCtorEq, zfc, Bool.and_true, Bool.true_and, zgx, ne_eq, zfb, zff, zfd, zgy]
 have tk1 : List.take w.done.length (w.done.map Evt.r) = w.done.map Evt.r := List.take_of_length_le (by simp)
 have tk2 : List.take w.sent.length (w.sent.map Evt.r) = w.sent.map Evt.r := List.take_of_length_le (by simp)
 have hle : ∀ n : Nat, n ≤ n := fun n => Nat.le_refl n
 simp only [pS, pL, List.map_nil, zgb] at h1
 rw [qa4, qx qun qtf]
 simp only [qld, hev, h1, h2', tk1, tk2, hle, q98 qkb, qv, qau, qn, qo9, Ev.exec, qb, qe, qc, qd3, qai, q6t, Ev.evs, Ev.Opnd.ev, Ev.Env.get, Ev.Env.set, Ev.look, qo, qk, qae, qg6, Ev.AV.cells, Ev.AV.uc, qy, Ev.AV.plain, qm, qab, qaj, Ev.kill, qah, Ev.keep, qd, qa1, qbd, qba, qu, qbn, qj, qh, qal, qvm, qgx, qe8, qgi, qem, zgi, ↓qs, ↓reduceIte, zga, zgb, zgd, zge, zgc, zgo, zfe, zgf, zgg, List.drop_nil, zgm, zgl, zgn, zgj, zgk, zgh, Nat.reduceAdd, Nat.reduceEqDiff, Nat.reduceLT, Nat.reduceLeDiff, reduceCtorEq, zgw, zfc, Bool.and_true, zfa, zgx, and_true, ne_eq, zfb, zff, zfd, zgy, Bool.and_false]
end
set_option maxRecDepth 10000
structure SimSt (n : Nat) (s : Sim) (L : List (Lp × Bool)) (A : qaa) (O : List (List AV)) : Prop where
 len : A.length = n + 1
 lps : A[0]? = some (.row 4 (L.map lpF) 1)
 lpl : L.length = n
 lpf : L.map Prod.fst = s.lps
 flag : ∀ x ∈ L, x.2 = true → x.1.procs = []
 trl : s.trace.length = n
 ol : O.length = n
 tr : ∀ i : Nat, i < n → ∃ g, A[i + 1]? = some (.row 6 ((qt8 s i).map Evt.r) g) ∧ O[i]? = some [.sl (i + 1) g 0 (qt8 s i).length false]
 alo : qd (n + 1) A = true
 olo : qg9 (n + 1) O = true
structure Pre (A : qaa) (n : Nat) : Prop where
 len : A.length = n + 1
section
variable {A : qaa} {n : Nat} (h : A.length = n + 1) (B : qaa) (x : SObj)
include h
theorem pre_g1 : (A ++ B)[n + 1]? = B[0]? := by rw [← h, List.getElem?_append_right (Nat.le_refl _), Nat.sub_self]
theorem pre_g2 : (A ++ B)[n + 2]? = B[1]? := by rw [List.getElem?_append_right (by omega)]; congr 1; omega
theorem pre_s1 : (A ++ B).set (n + 1) x = A ++ B.set 0 x := by rw [List.set_append, if_neg (by omega)]; congr 2; omega
theorem pre_s2 : (A ++ B).set (n + 2) x = A ++ B.set 1 x := by rw [List.set_append, if_neg (by omega)]; congr 2; omega
theorem pre_old (i : Nat) (hi : i < n + 1) : (A ++ B)[i]? = A[i]? := List.getElem?_append_left (by omega)
theorem pre_oldS (i : Nat) (hi : i < n + 1) : (A ++ B).set i x = A.set i x ++ B := by rw [List.set_append, if_pos (by omega)]
end
section
variable (c : Cfg) (n : Nat) (A : qaa) (O : List (List AV)) (hA : A.length = n + 1) (rest : List Evt) (e : Evt) (k : Int) (ov : Bool)
include hA
end
set_option maxRecDepth 10000
def qim : List Evt → List Evt → List Evt
 | [], b => b
 | x :: ax, [] => x :: ax
 | x :: ax, y :: bs => if qoa y x < 0 then y :: qim (x :: ax) bs else x :: qim ax (y :: bs)
termination_by a b => a.length + b.length
theorem q2u (b : List Evt) : qim [] b = b := by rw [qim]
theorem q6q (a : List Evt) : qim a [] = a := by cases a <;> rw [qim]
theorem qn7 : ∀ (a b : List Evt), (qim a b).Perm (a ++ b)
 | [], b => by rw [qim]; exact List.Perm.refl _
 | x :: ax, [] => by rw [qim, List.append_nil]
 | x :: ax, y :: bs => by
  rw [qim]
  split
  ·exact (List.Perm.cons y (qn7 (x :: ax) bs)).trans List.perm_middle.symm
  ·exact List.Perm.cons x (qn7 ax (y :: bs))
termination_by a b => a.length + b.length
theorem qqu : ∀ (a b : List Evt), a.Pairwise leE → b.Pairwise leE → (qim a b).Pairwise leE
 | [], b, _, hb => by rw [qim]; exact hb
 | x :: ax, [], ha, _ => by rw [qim]; exact ha
 | x :: ax, y :: bs, ha, hb => by
  rw [qim]
  have ha' := List.pairwise_cons.1 ha
  have hb' := List.pairwise_cons.1 hb
  split
  ·rename_i h
   refine List.pairwise_cons.2 ⟨fun z hz => ?_, qqu (x :: ax) bs ha hb'.2⟩
   rcases List.mem_append.1 ((qn7 _ _).mem_iff.1 hz) with hz | hz
   ·rcases List.mem_cons.1 hz with rfl | hz
    ·exact q05 y _ h
    ·exact qk0 y x z (q05 y x h) (ha'.1 z hz)
   ·exact hb'.1 z hz
  ·rename_i h
   have hxy := qpu y x h
   refine List.pairwise_cons.2 ⟨fun z hz => ?_, qqu ax (y :: bs) ha'.2 hb⟩
   rcases List.mem_append.1 ((qn7 _ _).mem_iff.1 hz) with hz | hz
   ·exact ha'.1 z hz
   ·rcases List.mem_cons.1 hz with rfl | hz
    ·exact hxy
    ·exact qk0 x y z hxy (hb'.1 z hz)
termination_by a b => a.length + b.length
def mS (a b out : List Evt) (g : Nat) : qaa := [.row 1 [[(.fsl ((a).map Evt.r) false)]] 0, .row 1 [[(.fsl ((b).map Evt.r) false)]] 0, .row 6 (out.map Evt.r) g, .row 1 [[.sl 2 g 0 out.length false]] 0, .defr, .loop ⟨[(2, .ptr 3 0 0 0)], []⟩ [7] qcb qca .ready none]
theorem qx3 (a b out : List Evt) (g : Nat) (x : Evt) (h : out.length ≤ 1000000) : (evL T).round 5 [(.agg [(ii x.time), (.fsl ((x.key).map qb9) false), (ii x.lp), (ii x.kind), (ii x.proc), (ii x.arg)])] (mS a b out g) = some ((bb true), mS a b (out ++ [x]) (g + 1)) := by
 rw [q49]
 have hb : (out.length + 1) * 64 ≤ 140737488355328 := by omega
 have htk : (out.map Evt.r).take out.length = out.map Evt.r := List.take_of_length_le (by simp)
 have hr : (out ++ [x]).map Evt.r = out.map Evt.r ++ [x.r] := by rw [List.map_append]; rfl
 have hl : (out ++ [x]).length = out.length + 1 := by simp
 rw [mS, mS, hr, hl]
 obtain ⟨xt, xk, xl, xi, xp, xa⟩ := x
 simp only [qcb, qca, hb, htk, qj8, Evt.r, qv, qag, qnl, qlz, Ev.exec, qb, qe, qc, qai, qn9, Ev.Opnd.ev, Ev.Env.get, Ev.Env.set, Ev.look, qk, qb0, qae, qf6, Ev.AV.cells, Ev.AV.uc, qy, Ev.AV.plain, qah, qad, qd, Ev.SObj.lo, qa1, qu, qbn, qf0, qj, qh, qac, qao, qbl, qa9, List.replicate_one, zgi, ↓qs, ↓reduceIte, zga, zgb, zgd, zge, zgc, zgo, zfe, zgf, zgg, List.drop_nil, zgm, zgl, zgn, zgj, zgk, zgh, Nat.reduceAdd, Nat.reduceEqDiff, Nat.reduceMul, Nat.reduceLT, Nat.reduceLeDiff, Nat.reducePow, zgv, zfc, zfa, zgx, ne_eq, zfb, zff, zfd, zgu, Nat.le_refl, zgy]
section
variable (a0 b0 : List Evt)
structure MgInv (s : (List Evt × List Evt) × (List Evt × Nat)) : Prop where
 sum : s.2.1 ++ qim s.1.1 s.1.2 = qim a0 b0
 len : s.2.1.length + (s.1.1.length + s.1.2.length) ≤ 1000000
 ka : qcr s.1.1
 kb : qcr s.1.2
theorem mg_L (hl : (a0 ++ b0).length ≤ 1000000) (ha : qcr a0) (hb : qcr b0) :
  ∃ y, itB (exec (evL T) itL none qdp) (qr [0, 1, 2] true 6) ⟨[(0, .yld 5), (1, .ptr 0 0 0 0), (2, .ptr 1 0 0 0)], []⟩ (mS a0 b0 [] 0) = some y ∧ ∃ g : Nat, y.1 = .exit 0 ∧ y.2.1.marks = [] ∧ y.2.2 = mS [] [] (qim a0 b0) g := by
 have key := qhb (f := exec (evL T) itL none qdp) (s := qr [0, 1, 2] true 6) (τ := (List Evt × List Evt) × (List Evt × Nat)) (fun _ => ⟨[(0, .yld 5), (1, .ptr 0 0 0 0), (2, .ptr 1 0 0 0)], []⟩) (fun s => mS s.1.1 s.1.2 s.2.1 s.2.2) (fun s => s.1.1.length + s.1.2.length)
  (MgInv a0 b0) (fun y => ∃ g : Nat, y.1 = .exit 0 ∧ y.2.1.marks = [] ∧ y.2.2 = mS [] [] (qim a0 b0) g) ?_ ((a0, b0), ([], 0)) ⟨rfl, by simpa using hl, ha, hb⟩
 ·exact key
 rintro ⟨⟨a, b⟩, ⟨out, g⟩⟩ ⟨h1, h2, h3, h4⟩
 simp only at h1 h2 h3 h4 ⊢
 have w00 : IntKind.i64.wrap 0 = 0 := rfl
 rcases a with _ | ⟨x, ax⟩ <;> rcases b with _ | ⟨y, bs⟩
 ·right
  rw [q2u, List.append_nil] at h1
  rw [← h1]
  simp only [qdp, mS, List.map_nil, Int.add_zero, w00, Int.lt_irrefl, gt_iff_lt, Ev.exec, qb, qe, qc, qai, Ev.Opnd.ev, Ev.Env.get, Ev.Env.set, Ev.look, qk, qae, qaf, qas, ↓qs, Ev.it1, ↓reduceIte, zgb, zgd, zge, zgg, zgh, Nat.reduceEqDiff, Int.cast_ofNat_Int, reduceCtorEq, zgw, zfa, zgy]
  exact ⟨_, rfl, g, rfl, rfl, rfl⟩
 ·left
  have hr := qx3 [] (y :: bs) out g y (by omega)
  refine ⟨(([], bs), (out ++ [y], g + 1)), ?_, ⟨?_, by simp at h2 ⊢; omega, h3, fun z hz => h4 z (List.mem_cons_of_mem _ hz)⟩, by simp⟩
  ·have w1 : IntKind.i64.wrap ((0 : Int) + ((bs.length + 1 : Nat) : Int)) = ((bs.length + 1 : Nat) : Int) := by simp at h2; rw [qaw (by omega) (by omega)]; omega
   have w2 : ((bs.length + 1 : Nat) : Int) > 0 := by omega
   have w3 : (1 : Int) ≤ ((bs.length + 1 : Nat) : Int) := by omega
   have tk : (bs.map Evt.r).take bs.length = bs.map Evt.r := List.take_of_length_le (by simp)
   have ok := qfy bs
   clear h1 h4
   obtain ⟨yt, yk, yl, yi, yp, ya⟩ := y
   simp only [mS, List.map_cons, List.map_nil, Evt.r, zgp, zga, zgb, zfd] at hr
   simp only [qdp, mS, List.map_cons, List.map_nil, Evt.r, zgr, hr, w1, w2, w3, tk, ok, Int.le_refl, Nat.add_sub_cancel, imp_self, qv, Ev.exec, qb, qe, qc, qk8, qai, Ev.evs, Ev.Opnd.ev, Ev.Env.get, Ev.Env.set, Ev.Env.unset, Ev.look, qge, qk, qae, Ev.AV.cells, Ev.AV.uc, qy, Ev.AV.plain, qaf, qam, qas, qr, Ev.keep, qad, qw, qd, Ev.SObj.lo, qu, qbn, qf0, qwy, qj, qh, qac, qao, qa9, zgi, ↓qs, Ev.it1, ↓reduceIte, zga, zgb, zgp, zgd, zge, zgc, zgo, zfe, zgf, zgg, List.drop_nil, zgl, zgn, zgj, zgk, zgh, Nat.reduceAdd, Nat.reduceEqDiff, Nat.reduceLT, Int.reduceLE, Int.reduceToNat, Int.cast_ofNat_Int, reduceCtorEq, zgv, zfc, Bool.and_true, Bool.not_true, zfa, Bool.true_eq_false, zgx, zfd, zgu, Nat.le_refl, Option.isSome_none, zgy]
  ·rw [q2u] at h1 ⊢; rw [← h1]; simp
 ·left
  have hr := qx3 (x :: ax) [] out g x (by omega)
  refine ⟨((ax, []), (out ++ [x], g + 1)), ?_, ⟨?_, by simp at h2 ⊢; omega, fun z hz => h3 z (List.mem_cons_of_mem _ hz), h4⟩, by simp⟩
  ·have w1 : IntKind.i64.wrap (((ax.length + 1 : Nat) : Int) + (0 : Int)) = ((ax.length + 1 : Nat) : Int) := by simp at h2; rw [qaw (by omega) (by omega)]; omega
   have w2 : ((ax.length + 1 : Nat) : Int) > 0 := by omega
   have w3 : (1 : Int) ≤ ((ax.length + 1 : Nat) : Int) := by omega
   have w4 : ¬ ((ax.length + 1 : Nat) : Int) = 0 := by omega
   have tk : (ax.map Evt.r).take ax.length = ax.map Evt.r := List.take_of_length_le (by simp)
   have ok := qfy ax
   clear h1 h3
   obtain ⟨xt, xk, xl, xi, xp, xa⟩ := x
   simp only [mS, List.map_cons, List.map_nil, Evt.r, zgp, zga, zgb, zfd] at hr
   simp only [qdp, mS, List.map_cons, List.map_nil, Evt.r, zgr, hr, w1, w2, w3, w4, tk, ok, Int.lt_irrefl, gt_iff_lt, Int.le_refl, Nat.add_sub_cancel, imp_self, qv, Ev.exec, qb, qe, qc, qk8, qai, Ev.evs, Ev.Opnd.ev, Ev.Env.get, Ev.Env.set, Ev.Env.unset, Ev.look, qge, qk, qae, Ev.AV.cells, Ev.AV.uc, qy, Ev.AV.plain, qaf, qam, qas, qr, Ev.keep, qad, qw, qd, Ev.SObj.lo, qu, qbn, qf0, qwy, qj, qh, qac, qao, qa9, zgi, ↓qs, Ev.it1, ↓reduceIte, zga, zgb, zgp, zgd, zge, zgc, zgo, zfe, zgf, zgg, List.drop_nil, zgl, zgn, zgj, zgh, Nat.reduceAdd, Nat.reduceEqDiff, Nat.reduceLT, Int.reduceLE, Int.reduceToNat, Int.cast_ofNat_Int, reduceCtorEq, zgv, zgw, zfc, Bool.and_true, Bool.not_true, zfa, zgx, zfd, zgu, Nat.le_refl, Option.isSome_none, zgy]
  ·rw [q6q] at h1 ⊢; rw [← h1]; simp
 ·left
  have w1 : IntKind.i64.wrap (((ax.length + 1 : Nat) : Int) + ((bs.length + 1 : Nat) : Int)) = ((ax.length + 1 + (bs.length + 1) : Nat) : Int) := qke (by simp at h2; omega)
  have w2 : ((ax.length + 1 + (bs.length + 1) : Nat) : Int) > 0 := by omega
  have w3 : (1 : Int) ≤ ((ax.length + 1 : Nat) : Int) := by omega
  have w4 : ¬ ((ax.length + 1 : Nat) : Int) = 0 := by omega
  have w5 : ((bs.length + 1 : Nat) : Int) > 0 := by omega
  have w6 : (1 : Int) ≤ ((bs.length + 1 : Nat) : Int) := by omega
  have hc := qq3 y x (h4 y (by simp)) (h3 x (by simp))
  by_cases hlt : qoa y x < 0
  ·have hr := qx3 (x :: ax) (y :: bs) out g y (by omega)
   refine ⟨((x :: ax, bs), (out ++ [y], g + 1)), ?_, ⟨?_, by simp at h2 ⊢; omega, h3, fun z hz => h4 z (List.mem_cons_of_mem _ hz)⟩, by simp⟩
   ·have tk : (bs.map Evt.r).take bs.length = bs.map Evt.r := List.take_of_length_le (by simp)
    have ok := qfy bs
    clear h1 h3 h4
    obtain ⟨xt, xk, xl, xi, xp, xa⟩ := x
    obtain ⟨yt, yk, yl, yi, yp, ya⟩ := y
    simp only at hc
    simp only [mS, List.map_cons, Evt.r, zgp, zga, zgb, zfd] at hr
    simp only [qdp, mS, List.map_cons, Evt.r, zgr, hr, hc, hlt, w1, w2, w4, w5, w6, tk, ok, Int.le_refl, Nat.add_sub_cancel, imp_self, qv, qag, Ev.exec, qb, qe, qc, qa5, qk8, qai, Ev.evs, Ev.Opnd.ev, Ev.Env.get, Ev.Env.set, Ev.look, qge, qk, qae, Ev.AV.cells, Ev.AV.uc, qy, Ev.AV.plain, qaf, qam, ql, qas, qr, Ev.keep, qad, qw, qd, Ev.SObj.lo, qa1, qbd, qu, qbn, qf0, qwy, qj, qh, qac, qao, qa9, zgi, ↓qs, Ev.it1, ↓reduceIte, zga, zgb, zgp, zgd, zge, zgc, zgo, zfe, zgf, zgg, List.drop_nil, zgl, zgn, zgj, zgk, zgh, Nat.reduceAdd, Nat.reduceEqDiff, Nat.reduceLT, Int.reduceLE, Int.reduceToNat, reduceCtorEq, zgv, zgw, zfc, Bool.and_true, Bool.not_true, zfa, zgx, zfd, zgu, Nat.le_refl, Option.isSome_none, zgy]
   ·rw [qim, if_pos hlt] at h1; rw [← h1]; simp
  ·have hr := qx3 (x :: ax) (y :: bs) out g x (by omega)
   refine ⟨((ax, y :: bs), (out ++ [x], g + 1)), ?_, ⟨?_, by simp at h2 ⊢; omega, fun z hz => h3 z (List.mem_cons_of_mem _ hz), h4⟩, by simp⟩
   ·have tk : (ax.map Evt.r).take ax.length = ax.map Evt.r := List.take_of_length_le (by simp)
    have ok := qfy ax
    clear h1 h3 h4
    obtain ⟨xt, xk, xl, xi, xp, xa⟩ := x
    obtain ⟨yt, yk, yl, yi, yp, ya⟩ := y
    simp only at hc
    simp only [mS, List.map_cons, Evt.r, zgp, zga, zgb, zfd] at hr
    simp only [qdp, mS, List.map_cons, Evt.r, zgr, hr, hc, hlt, w1, w2, w3, w4, w5, tk, ok, Int.le_refl, Nat.add_sub_cancel, imp_self, qv, qag, Ev.exec, qb, qe, qc, qa5, qk8, qai, Ev.evs, Ev.Opnd.ev, Ev.Env.get, Ev.Env.set, Ev.look, qge, qk, qae, Ev.AV.cells, Ev.AV.uc, qy, Ev.AV.plain, qaf, qam, ql, qas, qr, Ev.keep, qad, qw, qd, Ev.SObj.lo, qa1, qbd, qu, qbn, qf0, qwy, qj, qh, qac, qao, qa9, zgi, ↓qs, Ev.it1, ↓reduceIte, zga, zgb, zgp, zgd, zge, zgc, zgo, zfe, zgf, zgg, List.drop_nil, zgl, zgn, zgj, zgh, Nat.reduceAdd, Nat.reduceEqDiff, Nat.reduceLT, Int.reduceLE, Int.reduceToNat, reduceCtorEq, zgv, zgw, zfc, Bool.and_true, Bool.not_true, zfa, zgx, zfd, zgu, Nat.le_refl, Option.isSome_none, zgy]
   ·rw [qim, if_neg hlt] at h1; rw [← h1]; simp
theorem q57 (hl : (a0 ++ b0).length ≤ 1000000) (ha : qcr a0) (hb : qcr b0) : ∃ g : Nat, (evL T).call qdm [.yld 5, .ptr 0 0 0 0, .ptr 1 0 0 0] (mS a0 b0 [] 0) = some (.tup [], mS [] [] (qim a0 b0) g) := by
 obtain ⟨⟨y, e, σ⟩, h1, g, h2, h3, h4⟩ := mg_L a0 b0 hl ha hb
 simp only at h2 h3 h4
 subst h2; subst h4
 refine ⟨g, ?_⟩
 rw [qx qm2 qrj]
 have hn : ∀ (a b out : List Evt) (g : Nat), (mS a b out g).length = 6 := fun _ _ _ _ => rfl
 have ht : ∀ (a b out : List Evt) (g : Nat), (mS a b out g).take 6 = mS a b out g := fun _ _ _ _ => rfl
 have hlo : ∀ (a b out : List Evt) (g : Nat), qd 6 (mS a b out g) = true := fun a b out g => by simp only [mS, qv, qad, qd, Ev.SObj.lo, qu, qbn, qf0, qj, qh, qac, qao, Nat.reduceLT, zgv, zfc, zgy]
 simp only [qj5, hn, ht, hlo, h1, h3, qn, Ev.exec, Ev.Env.get, Ev.look, qo, qm, qaj, Ev.kill, qah, qr, Ev.keep, qad, qw, qba, qf0, qwy, qj, ↓qs, ↓qaq, ↓reduceIte, zga, zgb, Nat.reduceAdd, Nat.reduceEqDiff, Nat.reduceLT, reduceCtorEq, zgv, zfc, zgx, zfd, zgu, zgy]
theorem q5k (hl : (a0 ++ b0).length ≤ 1000000) (ha : qcr a0) (hb : qcr b0) : ∃ (g : Nat) (τ : qaa), (evL T).call qa6 [.fsl [] true, .fn (.func qdm) [] [.ptr 0 0 0 0, .ptr 1 0 0 0]] [.row 1 [[(.fsl ((a0).map Evt.r) false)]] 0, .row 1 [[(.fsl ((b0).map Evt.r) false)]] 0] =
  some (.sl 2 g 0 (qim a0 b0).length false, [.row 1 [[(.fsl (([]).map Evt.r) false)]] 0, .row 1 [[(.fsl (([]).map Evt.r) false)]] 0, .row 6 ((qim a0 b0).map Evt.r) g] ++ τ) := by
 obtain ⟨g, h⟩ := q57 a0 b0 hl ha hb
 simp only [mS, List.map_nil, zgb] at h
 refine ⟨g, [.row 1 [[.sl 2 g 0 (qim a0 b0).length false]] 0, .dead, .loop ⟨[(2, .ptr 3 0 0 0)], []⟩ [7] qcb qca .exhausted none], ?_⟩
 rw [qx qh6 qhw]
 simp only [qcp, h, q98 qm2, List.map_nil, qn, qo9, Ev.exec, qb, qe, qc, qai, Ev.Opnd.ev, Ev.Env.get, Ev.Env.set, Ev.look, qo, qk, qae, qm, qab, qaj, Ev.kill, qah, Ev.keep, qd, Ev.SObj.lo, qu, qbn, qj, qh, qac, qao, ↓qs, ↓reduceIte, zga, zgb, zgd, zge, zgc, zgo, zgg, zgm, zgl, zgj, zgk, zgh, Nat.reduceAdd, Nat.reduceEqDiff, Nat.reduceLT, reduceCtorEq, zgw, zfc, zfa, and_true, ne_eq, zfb, zfd, zgy]
theorem qwn (c d : Bool) : (evL T).call qgl [(.fsl ((a0).map Evt.r) c), (.fsl ((b0).map Evt.r) d)] [] = some (.fn (.func qdm) [] [.ptr 0 0 0 0, .ptr 1 0 0 0], [.row 1 [[(.fsl ((a0).map Evt.r) false)]] 0, .row 1 [[(.fsl ((b0).map Evt.r) false)]] 0]) := by
 rw [qx quh qtd]
 simp only [qlc, qn, Ev.exec, qb, qe, qc, qai, Ev.evs, Ev.Opnd.ev, Ev.Env.get, Ev.Env.set, Ev.look, qo, Ev.AV.cells, Ev.AV.uc, qy, Ev.AV.plain, qm, qab, qaj, Ev.kill, qah, qd, qf0, qe3, qj, qh, ↓qs, ↓reduceIte, zga, zgb, zgo, zgm, zgl, Nat.reduceAdd, Nat.reduceEqDiff, Nat.reduceLT, reduceCtorEq, zgw, zfc, Bool.and_true, zfa, zgx, and_true, ne_eq, zfb, zff, zfd, zgy, Bool.and_false]
theorem q8v (hl : (a0 ++ b0).length ≤ 1000000) (ha : qcr a0) (hb : qcr b0) : ∃ (g : Nat) (τ : qaa), (evL T).call qcq [.fn (.func qdm) [] [.ptr 0 0 0 0, .ptr 1 0 0 0]] [.row 1 [[(.fsl ((a0).map Evt.r) false)]] 0, .row 1 [[(.fsl ((b0).map Evt.r) false)]] 0] =
  some (.sl 2 g 0 (qim a0 b0).length false, [.row 1 [[.fsl [] false]] 0, .row 1 [[.fsl [] false]] 0, .row 6 ((qim a0 b0).map Evt.r) g] ++ τ) := by
 obtain ⟨g, τ, h⟩ := q5k a0 b0 hl ha hb
 refine ⟨g, τ, ?_⟩
 simp only [List.map_nil, zgm, zgl] at h ⊢
 rw [qx qmd ql9]
 simp only [qen, h, qn, Ev.exec, qb, qe, qc, qd3, qai, Ev.evs, Ev.Opnd.ev, Ev.Env.get, Ev.Env.set, Ev.look, qo, qm, qab, qaj, Ev.kill, qah, qd, Ev.SObj.lo, qu, qbn, qj, qh, qac, qao, ↓qs, ↓reduceIte, zga, zgb, zgc, zgo, Nat.reduceAdd, Nat.reduceLT, reduceCtorEq, zgw, zfc, zfa, and_true, zfd, zgy]
theorem qxq (c d : Bool) (hl : (a0 ++ b0).length ≤ 1000000) (hk : qcr (a0 ++ b0)) (hs : a0.Pairwise leE) (hd : qsl (a0 ++ b0)) : qa4 (evL T) qhe [(.fsl ((a0).map Evt.r) c), (.fsl ((b0).map Evt.r) d)] = some (.fsl ((sortL (a0 ++ b0)).map Evt.r) false) := by
 have ka : qcr a0 := fun z hz => hk z (List.mem_append_left _ hz)
 have kb : qcr b0 := fun z hz => hk z (List.mem_append_right _ hz)
 have hlb : b0.length ≤ 1000000 := by rw [List.length_append] at hl; omega
 have h1 := qss b0 d hlb kb (hd.sub (List.sublist_append_right a0 b0))
 have h2 := qwn a0 (sortL b0) c false
 obtain ⟨g, τ, h3⟩ := q8v a0 (sortL b0) (by rw [List.length_append, qox, ← List.length_append]; exact hl) ka kb.sortL
 have hp : (qim a0 (sortL b0)).Perm (a0 ++ b0) := (qn7 _ _).trans (List.Perm.append_left a0 (qd2 b0))
 have he := qlp hd hp (qqu _ _ hs (qfj b0))
 rw [he] at h3
 generalize sortL (a0 ++ b0) = R at *
 have htk : (R.map Evt.r).take R.length = R.map Evt.r := List.take_of_length_le (by simp)
 simp only [zgm, zgl] at h3
 have s1 : qit 0 ([] : List AV) = [] := by simp only [qit]
 have s2 : qit 0 [AV.ptr 0 0 0 0, AV.ptr 1 0 0 0] = [AV.ptr 0 0 0 0, AV.ptr 1 0 0 0] := by simp only [qit, AV.shift, Nat.add_zero]
 rw [qa4, qx qwb qum]
 simp only [ql5, s1, s2, h1, h2, h3, htk, qv, qn, Ev.exec, qb, qe, qc, qa5, qps, qd3, q2k, Ev.AV.shift, qai, Ev.evs, Ev.Opnd.ev, Ev.Env.get, Ev.Env.set, Ev.look, qo, qm, qab, qaj, Ev.kill, qah, qd, qu, qbn, qj, qh, qac, qao, qgx, qe8, qgi, qem, qfw, zgi, ↓qs, ↓reduceIte, zga, zgb, zgd, zge, zgo, zgg, zgl, Nat.reduceAdd, Nat.reduceEqDiff, Nat.reduceLT, reduceCtorEq, zgw, zfc, zfa, zgx, and_true, zfd, Nat.le_refl, zgy]
end
set_option maxRecDepth 10000
def qd4 (bs : List (List Evt)) (l : List Evt) : List (List Evt) := bs.mapIdx fun i b => sortL (b ++ qcy l i)
structure DSt (n : Nat) (B : List (List AV)) (t : Nat → List Evt) (A : qaa) (O : List (List AV)) : Prop where
 len : A.length = n + 1
 box : A[0]? = some (.row 1 B 0)
 ol : O.length = n
 tr : ∀ i : Nat, i < n → ∃ g, A[i + 1]? = some (.row 6 ((t i).map Evt.r) g) ∧ O[i]? = some [.sl (i + 1) g 0 (t i).length false]
 alo : qd (n + 1) A = true
 olo : qg9 (n + 1) O = true
theorem q7i {n : Nat} : ∀ {O : List (List AV)} (i : Nat) (x : List AV), qg9 n O = true → los n x = true → qg9 n (O.set i x) = true
 | [], i, x, h, _ => h
 | a :: O, 0, x, h, hx => by
  simp only [qao, Bool.and_eq_true] at h
  rw [List.set_cons_zero, qao, hx, h.2]; rfl
 | a :: O, i + 1, x, h, hx => by
  simp only [qao, Bool.and_eq_true] at h
  rw [List.set_cons_succ, qao, h.1, q7i i x h.2 hx]; rfl
theorem DSt.step {n : Nat} {B : List (List AV)} {t : Nat → List Evt} {A : qaa} {O : List (List AV)} (S : DSt n B t A O) {i : Nat} (hi : i < n) (e : Evt) {g : Nat} :
  DSt n B (fun j => if i = j then t i ++ [e] else t j) (A.set (i + 1) (.row 6 ((t i ++ [e]).map Evt.r) (g + 1))) (O.set i [.sl (i + 1) (g + 1) 0 ((t i).length + 1) false]) := by
 have c1 : i + 1 < n + 1 := by omega
 refine ⟨by rw [List.length_set]; exact S.len, by rw [List.getElem?_set_ne (by omega)]; exact S.box, by rw [List.length_set]; exact S.ol, fun j hj => ?_, qt7 S.alo _ (show qg9 (n + 1) _ = true from qv _ _), q7i i _ S.olo (by simp only [qh, qj, qbn, c1, zgv, zfc])⟩
 by_cases e1 : i = j
 ·subst e1
  exact ⟨g + 1, by rw [if_pos rfl, List.getElem?_set_self (by rw [S.len]; omega)], by rw [if_pos rfl, List.getElem?_set_self (by rw [S.ol]; omega), List.length_append]; rfl⟩
 ·obtain ⟨g', h1, h2⟩ := S.tr j hj
  exact ⟨g', by rw [if_neg e1, List.getElem?_set_ne (by omega)]; exact h1, by rw [if_neg e1, List.getElem?_set_ne e1]; exact h2⟩
section
variable (n : Nat) (B : List (List AV)) (D : List Evt) (cd : Bool)
theorem q86 (hD : D.length ≤ 1000000) (hl : ∀ e ∈ D, 0 ≤ e.lp ∧ e.lp < (n : Int)) (cb : Bool) {A : qaa} {O : List (List AV)} (S : DSt n B (fun _ => []) A O) :
  ∃ y, itB (exec (evL T) itL none qhc) (qr [5, 6, 17, 18, 19] true (n + 2)) ⟨[(5, .sl 0 0 0 n cb), (6, .sl (n + 1) 0 0 n true), (17, (.fsl ((D).map Evt.r) cd)), (18, (ii D.length)), (19, (ii ((0 : Nat))))], []⟩ (A ++ [.row 1 O 0]) = some y ∧
   ∃ (A' : qaa) (O' : List (List AV)), DSt n B (fun i => qcy D i) A' O' ∧ y.1 = .exit 0 ∧ y.2.1.marks = [] ∧ y.2.2 = A' ++ [.row 1 O' 0] ∧ Ev.look y.2.1.vars 5 = some (.sl 0 0 0 n cb) ∧ Ev.look y.2.1.vars 6 = some (.sl (n + 1) 0 0 n true) := by
 have key := qeu (f := exec (evL T) itL none qhc) (s := qr [5, 6, 17, 18, 19] true (n + 2)) (α := qaa × List (List AV))
  (fun i a => ⟨[(5, .sl 0 0 0 n cb), (6, .sl (n + 1) 0 0 n true), (17, (.fsl ((D).map Evt.r) cd)), (18, (ii D.length)), (19, (ii i))], []⟩) (fun _ a => a.1 ++ [.row 1 a.2 0]) (fun i a => DSt n B (fun j => qcy (D.take i) j) a.1 a.2) D.length
  (fun y => ∃ (A' : qaa) (O' : List (List AV)), DSt n B (fun i => qcy D i) A' O' ∧ y.1 = .exit 0 ∧ y.2.1.marks = [] ∧ y.2.2 = A' ++ [.row 1 O' 0] ∧ Ev.look y.2.1.vars 5 = some (.sl 0 0 0 n cb) ∧ Ev.look y.2.1.vars 6 = some (.sl (n + 1) 0 0 n true)) ?_ ?_ 0 (A, O) (Nat.zero_le _) S
 ·exact key
 ·rintro k ⟨A, O⟩ hk S
  simp only at S ⊢
  obtain ⟨e, he⟩ : ∃ e, D[k]? = some e := ⟨_, List.getElem?_eq_getElem hk⟩
  have hk' : (k : Int) < (D.length : Int) := by omega
  have hw : IntKind.i64.wrap ((k : Int) + 1) = ((k + 1 : Nat) : Int) := by rw [qaw (by omega) (by omega)]; simp
  obtain ⟨l1, l2⟩ := hl e (List.mem_of_getElem? he)
  obtain ⟨i, hi⟩ : ∃ i : Nat, e.lp = i := ⟨_, (Int.toNat_of_nonneg l1).symm⟩
  have hin : i < n := by omega
  obtain ⟨g, t1, t2⟩ := S.tr i hin
  have hS := S.step hin e (g := g)
  have ht : (fun j => if i = j then qcy (D.take k) i ++ [e] else qcy (D.take k) j) = (fun j => qcy (D.take (k + 1)) j) := by
   funext j
   rw [List.take_add_one, he]
   show _ = qcy (D.take k ++ [e]) j
   unfold qcy
   rw [List.filter_append, List.filter_cons, List.filter_nil]
   by_cases e1 : i = j
   ·subst e1; rw [if_pos rfl, if_pos (by simpa using hi)]
   ·rw [if_neg e1, if_neg (by simp only [decide_eq_true_eq]; omega), List.append_nil]
  rw [ht] at hS
  refine .inl ⟨(A.set (i + 1) (.row 6 ((qcy (D.take k) i ++ [e]).map Evt.r) (g + 1)), O.set i [.sl (i + 1) (g + 1) 0 ((qcy (D.take k) i).length + 1) false]), ?_, hS⟩
  simp only
  have hA := S.len
  have hown : (qcy (D.take k) i).length ≤ 1000000 := by
   unfold qcy
   have := List.length_filter_le (fun e : Evt => decide (e.lp = i)) (D.take k)
   have := List.length_take_le' k D; omega
  generalize qcy (D.take k) i = t at *
  have p1 := fun B => pre_old hA B (i + 1) (by omega)
  have p2 := fun B x => pre_oldS hA B x (i + 1) (by omega)
  have b1 : ((n + 1) == (i + 1)) = false := by rw [beq_eq_false_iff_ne]; omega
  have b2 : ((n + 2) == (i + 1)) = false := by rw [beq_eq_false_iff_ne]; omega
  have b3 : ((n + 2) == n + 2) = true := by simp
  have tk : List.take t.length (t.map Evt.r) = t.map Evt.r := List.take_of_length_le (by simp)
  have bd : (t.length + 1) * 64 ≤ 140737488355328 := by omega
  have hA2 : ∀ v, (A.set (i + 1) v).length = n + 1 := fun v => by rw [List.length_set]; exact hA
  have q1 := fun v B => pre_g1 (hA2 v) B
  have q2 := fun v B => pre_g2 (hA2 v) B
  have q4 := fun v B x => pre_s1 (hA2 v) B x
  have hle : t.length ≤ t.length := Nat.le_refl _
  have lo1 : qd (n + 2) (A.set (i + 1) (.row 6 ((t ++ [e]).map Evt.r) (g + 1))) = true := qmu (by omega) hS.alo
  have lo2 : qg9 (n + 2) (O.set i [.sl (i + 1) (g + 1) 0 (t.length + 1) false]) = true := qkj (by omega) _ hS.olo
  have t3 : ∀ v (B : qaa), (A.set (i + 1) v ++ B).take (n + 2) = A.set (i + 1) v ++ B.take 1 := fun v B => by
   rw [List.take_append, List.take_of_length_le (by rw [hA2]; omega), hA2]; congr 2; omega
  have d0 : 0 < n + 2 := by omega
  have d1 : n + 1 < n + 2 := by omega
  rw [List.map_append] at lo1 ⊢
  obtain ⟨et, ek, el, ei, ep, ea⟩ := e
  simp only at hi
  subst hi
  simp only [List.map_cons, List.map_nil, Evt.r] at lo1 ⊢
  simp only [qhc, zgs, zgr, zgq, zgt, he, hk', hw, pre_g1 hA, pre_g2 hA, pre_s2 hA, hA, Nat.add_assoc, List.append_assoc, p1, p2, q1, q4, t1, t2, b2, b3, tk, bd, hle, hin, lo1, lo2, t3, d0, d1, qnx, Evt.r, qv, Ev.exec, qb, qe, qc, q8k, qai, qn9, Ev.Opnd.ev, Ev.Env.get, Ev.Env.set, Ev.look, qk, qb0, qae, qf6, Ev.AV.cells, Ev.AV.uc, qy, Ev.AV.plain, qaf, ql, qr, Ev.keep, qad, qw, qd, Ev.SObj.lo, qa1, qu, qbn, qnh, Ev.AV.obj?, qbl, qa9, List.replicate_one, zgi, ↓qs, Ev.it1, ↓reduceIte, zga, zgb, zgp, zgd, zge, zgc, zgo, zfe, zgf, zgg, List.drop_nil, zgm, zgl, zgn, zgj, zgk, zgh, Nat.reduceAdd, Nat.reduceEqDiff, Nat.reduceMul, Nat.reduceLeDiff, Nat.reducePow, zgv, zfc, Bool.not_false, zfa, zgx, ne_eq, zfb, zff, zfd, zgu, Nat.le_refl, zgy]
 ·rintro ⟨A, O⟩ S
  simp only [List.take_length] at S
  have hA := S.len
  have lo1 : qd (n + 2) A = true := qmu (by omega) S.alo
  have lo2 : qg9 (n + 2) O = true := qkj (by omega) _ S.olo
  have t3 : ∀ (B : qaa), (A ++ B).take (n + 2) = A ++ B.take 1 := fun B => by
   rw [List.take_append, List.take_of_length_le (by omega)]; congr 2; omega
  have d0 : 0 < n + 2 := by omega
  have d1 : n + 1 < n + 2 := by omega
  simp only [qhc, Int.lt_irrefl, Ev.exec, qb, qe, qc, qai, Ev.Opnd.ev, Ev.Env.get, Ev.Env.set, Ev.look, ql, ↓qs, Ev.it1, ↓reduceIte, Nat.reduceEqDiff, zgw, zfa, zgy]
  exact ⟨_, rfl, A, O, S, rfl, rfl, rfl, rfl, rfl⟩
theorem q8g (D : List Evt) (bs : List (List Evt)) (hbn : bs.length = n) (hn : n ≤ 1000) (hD : (bs.flatten ++ D).length ≤ 1000000) (hk : qcr (bs.flatten ++ D)) (hs : ∀ b ∈ bs, b.Pairwise leE) (hd : ∀ i b, bs[i]? = some b → qsl (b ++ qcy D i)) (cb : Bool) {A : qaa} {O : List (List AV)} (S : DSt n (bs.map qaz) (fun i => qcy D i) A O) :
  ∃ y, itB (exec (evL T) itL none qfx) (qr [5, 36, 37, 38] true (n + 2)) ⟨[(5, .sl 0 0 0 n cb), (36, .sl (n + 1) 0 0 n true), (37, (ii n)), (38, (ii ((0 : Nat))))], []⟩ (A ++ [.row 1 O 0]) = some y ∧
   (y.1 = .exit 2 ∧ y.2.1.marks = [] ∧ ∃ X : qaa, y.2.2 = .row 1 ((qd4 bs D).map qaz) 0 :: X) ∧ Ev.look y.2.1.vars 5 = some (.sl 0 0 0 n cb) := by
 have mem : ∀ {i : Nat} {b : List Evt}, bs[i]? = some b → ∀ e ∈ b, e ∈ bs.flatten := fun h e he => List.mem_flatten.2 ⟨_, List.mem_of_getElem? h, he⟩
 have bl : ∀ {i : Nat} {b : List Evt}, bs[i]? = some b → b.length ≤ bs.flatten.length := fun h => (List.sublist_flatten_of_mem (List.mem_of_getElem? h)).length_le
 have hDl := hD
 rw [List.length_append] at hDl
 have key := qeu (f := exec (evL T) itL none qfx) (s := qr [5, 36, 37, 38] true (n + 2)) (α := qaa × List (List Evt))
  (fun i a => ⟨[(5, .sl 0 0 0 n cb), (36, .sl (n + 1) 0 0 n true), (37, (ii n)), (38, (ii i))], []⟩) (fun _ a => .row 1 (a.2.map qaz) 0 :: a.1 ++ [.row 1 O 0])
  (fun i a => a.2.length = n ∧ (∀ j, j < n → a.2[j]? = if j < i then (qd4 bs D)[j]? else bs[j]?) ∧ a.1.length = n ∧ qd (n + 1) a.1 = true ∧ ∀ j, i ≤ j → j < n → ∃ g, a.1[j]? = some (.row 6 ((qcy D j).map Evt.r) g) ∧ O[j]? = some [.sl (j + 1) g 0 (qcy D j).length false]) n
  (fun y => (y.1 = .exit 2 ∧ y.2.1.marks = [] ∧ ∃ X : qaa, y.2.2 = .row 1 ((qd4 bs D).map qaz) 0 :: X) ∧ Ev.look y.2.1.vars 5 = some (.sl 0 0 0 n cb)) ?_ ?_
 ·obtain ⟨A0, hA0, hAl⟩ : ∃ A0 : qaa, A = .row 1 (bs.map qaz) 0 :: A0 ∧ A0.length = n := by
   have hb := S.box; have hl := S.len
   cases A with
   | nil => simp at hb
   | cons a A0 => simp only [zgd, Option.some.injEq] at hb; exact ⟨A0, by rw [hb], by simpa using hl⟩
  rw [hA0]
  refine key 0 (A0, bs) (Nat.zero_le _) ⟨hbn, fun j hj => by rw [if_neg (by omega)], hAl, ?_, fun j _ hj => ?_⟩
  ·have := S.alo; rw [hA0, qlk] at this; rw [qlk]; exact fun x hx => this x (List.mem_cons_of_mem _ hx)
  ·have := S.tr j hj; rw [hA0, List.getElem?_cons_succ] at this; exact this
 ·rintro i ⟨A1, L⟩ hi ⟨h1, h2, h3, h4, h5⟩
  simp only at h1 h2 h3 h4 h5 ⊢
  obtain ⟨g, t1, t2⟩ := h5 i (Nat.le_refl _) hi
  obtain ⟨b, hb⟩ : ∃ b, bs[i]? = some b := ⟨_, List.getElem?_eq_getElem (by omega)⟩
  have hLi : L[i]? = some b := by rw [h2 i hi, if_neg (by omega), hb]
  have hdl : (qd4 bs D)[i]? = some (sortL (b ++ qcy D i)) := by unfold qd4; rw [List.getElem?_mapIdx, hb]; rfl
  have hi' : (i : Int) < (n : Int) := by omega
  have hw : IntKind.i64.wrap ((i : Int) + 1) = ((i + 1 : Nat) : Int) := by rw [qaw (by omega) (by omega)]; simp
  have lo1 : qd (n + 2) A1 = true := qmu (by omega) h4
  have lo2 : qg9 (n + 2) O = true := qkj (by omega) _ S.olo
  have loL := qdn (n + 2) L
  have d0 : 0 < n + 2 := by omega
  have d1 : n + 1 < n + 2 := by omega
  have g1 : ∀ x : SObj, (x :: (A1 ++ [.row 1 O 0]))[n + 1]? = some (.row 1 O 0) := fun x => by
   rw [List.getElem?_cons_succ, List.getElem?_append_right (by omega), h3]; simp
  have tk0 : ∀ x : SObj, List.take (n + 2) (x :: (A1 ++ [.row 1 O 0])) = x :: (A1 ++ [.row 1 O 0]) := fun x => List.take_of_length_le (by simp; omega)
  have hnl : ∀ x : SObj, (x :: (A1 ++ [.row 1 O 0])).length = n + 2 := fun x => by simp [h3]
  by_cases ho : (qcy D i).length = 0
  ·have ho' := List.eq_nil_of_length_eq_zero ho
   have hds : sortL (b ++ qcy D i) = b := by
    rw [ho', List.append_nil]
    have := hd i b hb
    rw [ho', List.append_nil] at this
    exact (q9l this (hs b (List.mem_of_getElem? hb))).symm
   refine .inl ⟨(A1, L), ?_, h1, fun j hj => ?_, h3, h4, fun j hj1 hj2 => h5 j (by omega) hj2⟩
   ·have c0 : ¬ ((0 : Nat) : Int) > 0 := by omega
    rw [ho] at t2
    simp only [qfx, zgs, zgr, hi', hi, hw, g1, t2, lo1, lo2, loL, d0, d1, tk0, qnx, zgm, gt_iff_lt, Int.lt_irrefl, Ev.exec, qb, qe, qc, qai, Ev.Opnd.ev, Ev.Env.get, Ev.Env.set, Ev.look, qk, qae, qaf, ql, qas, qr, Ev.keep, qad, qw, qd, Ev.SObj.lo, qa1, qbn, ↓qs, Ev.it1, ↓reduceIte, zgg, zgm, zgh, Nat.reduceEqDiff, Int.cast_ofNat_Int, zgv, zgw, zfc, zfa, zgx, zfd, zgy]
   ·rw [h2 j hj]
    by_cases e1 : j = i
    ·subst e1; rw [if_neg (by omega), if_pos (by omega), hb, hdl, hds]
    ·by_cases e2 : j < i
     ·rw [if_pos e2, if_pos (by omega)]
     ·rw [if_neg e2, if_neg (by omega)]
  ·have c0 : ((qcy D i).length : Int) > 0 := by omega
   have sb : (b ++ qcy D i).length ≤ 1000000 := by
    have := bl hb
    have := List.length_filter_le (fun e : Evt => decide (e.lp = i)) D
    rw [List.length_append]; unfold qcy; omega
   have hM := qxq (a0 := b) (b0 := qcy D i) false false sb (fun z hz => by
    rcases List.mem_append.1 hz with hz | hz
    ·exact hk z (List.mem_append_left _ (mem hb z hz))
    ·exact hk z (List.mem_append_right _ (List.mem_filter.1 hz).1)) (hs b (List.mem_of_getElem? hb)) (hd i b hb)
   have tk : List.take (qcy D i).length ((qcy D i).map Evt.r) = (qcy D i).map Evt.r := List.take_of_length_le (by simp)
   have ok := qfy (qcy D i)
   have a1 : ∀ x : SObj, (x :: (A1 ++ [.row 1 O 0]))[i + 1]? = some (.row 6 ((qcy D i).map Evt.r) g) := fun x => by
    rw [List.getElem?_cons_succ, List.getElem?_append_left (by omega)]; exact t1
   have a2 : ∀ x y : SObj, (x :: (A1 ++ [.row 1 O 0])).set (i + 1) y = x :: (A1.set i y ++ [.row 1 O 0]) := fun x y => by
    rw [List.set_cons_succ, List.set_append, if_pos (by omega)]
   have hLm : (L.map qaz)[i]? = some (qaz b) := by rw [List.getElem?_map, hLi]; rfl
   have hset : (L.map qaz).set i [(.fsl (((sortL (b ++ qcy D i))).map Evt.r) false)] = (L.set i (sortL (b ++ qcy D i))).map qaz := by rw [List.map_set]; rfl
   have loL' := qdn (n + 2) (L.set i (sortL (b ++ qcy D i)))
   have lo1' : qd (n + 2) (A1.set i .dead) = true := qt7 lo1 _ rfl
   have tk1 : ∀ x : SObj, List.take (n + 2) (x :: (A1.set i .dead ++ [.row 1 O 0])) = x :: (A1.set i .dead ++ [.row 1 O 0]) := fun x => List.take_of_length_le (by simp; omega)
   refine .inl ⟨(A1.set i .dead, L.set i (sortL (b ++ qcy D i))), ?_, by rw [List.length_set]; exact h1, fun j hj => ?_, by rw [List.length_set]; exact h3, qt7 h4 _ rfl, fun j hj1 hj2 => by rw [List.getElem?_set_ne (by omega)]; exact h5 j (by omega) hj2⟩
   ·have hle : (qcy D i).length ≤ (qcy D i).length := Nat.le_refl _
    have hll : ((qcy D i).map Evt.r).length = (qcy D i).length := List.length_map ..
    have lob : qg9 0 (b.map Evt.r) = true := qv _ _
    have loo : qg9 0 ((qcy D i).map Evt.r) = true := qv _ _
    simp only
    rw [← hset] at loL' ⊢
    have hLl : (L.map qaz).length = n := by rw [List.length_map]; exact h1
    clear hb hdl hd hs hk h2 h5 bl mem hset
    generalize sortL (b ++ qcy D i) = R at *
    generalize (qcy D i).map Evt.r = OR at *
    generalize (qcy D i).length = ol at *
    generalize L.map qaz = LM at *
    simp only [qaz] at hLm
    simp only [qfx, zgs, zgr, hi', hi, hw, g1, t2, c0, a1, a2, hM, tk, hle, hll, hLm, lob, loo, lo1', lo2, loL', d0, d1, tk1, qnx, zgm, Ev.exec, qb, qe, qc, Ev.item_F, Ev.giveG, qzg, qai, q5i, Ev.evs, Ev.Opnd.ev, Ev.Env.get, Ev.Env.set, Ev.look, qk, qae, Ev.AV.cells, Ev.AV.uc, qy, Ev.AV.plain, qaf, ql, qas, qr, Ev.keep, qad, qw, qd, Ev.SObj.lo, qa1, qu, qbn, qj, qh, ↓qs, Ev.it1, ↓reduceIte, zga, zgb, zgd, zgo, zgf, zgg, List.drop_nil, zgm, zgl, zgn, zgj, zgh, Nat.reduceEqDiff, zgv, zfc, zfa, zgx, zfd, Nat.le_refl, zgy]
   ·by_cases e1 : j = i
    ·subst e1; rw [List.getElem?_set_self (by omega), if_pos (by omega), hdl]
    ·rw [List.getElem?_set_ne (by omega), h2 j hj]
     by_cases e2 : j < i
     ·rw [if_pos e2, if_pos (by omega)]
     ·rw [if_neg e2, if_neg (by omega)]
 ·rintro ⟨A1, L⟩ ⟨h1, h2, h3, h4, h5⟩
  simp only at h1 h2 h3 h4 h5 ⊢
  have hL : L = qd4 bs D := List.ext_getElem? fun j => by
   by_cases hj : j < n
   ·rw [h2 j hj, if_pos hj]
   ·rw [List.getElem?_eq_none (by omega), List.getElem?_eq_none (by unfold qd4; rw [List.length_mapIdx]; omega)]
  rw [hL]
  have lo1 : qd (n + 2) A1 = true := qmu (by omega) h4
  have lo2 : qg9 (n + 2) O = true := qkj (by omega) _ S.olo
  have d0 : 0 < n + 2 := by omega
  have d1 : n + 1 < n + 2 := by omega
  have tk0 : ∀ x : SObj, List.take (n + 2) (x :: (A1 ++ [.row 1 O 0])) = x :: (A1 ++ [.row 1 O 0]) := fun x => List.take_of_length_le (by simp; omega)
  simp only [qfx, Int.lt_irrefl, zgm, Ev.exec, qb, qe, qc, qai, Ev.Opnd.ev, Ev.Env.get, Ev.Env.set, Ev.look, ql, ↓qs, Ev.it1, ↓reduceIte, zgm, Nat.reduceEqDiff, zgw, zfa, zgy]
  exact ⟨_, rfl, ⟨rfl, rfl, _, rfl⟩, rfl⟩
theorem DSt.start (bs : List (List Evt)) (n : Nat) (hn : bs.length = n) : DSt n (bs.map qaz) (fun i => qcy [] i) (.row 1 (bs.map qaz) 0 :: List.replicate n (.row 6 [] 0)) ((List.range n).map fun i => [(.sl (1 + i) 0 0 0 false : AV)]) := by
 refine ⟨by simp, rfl, by simp, fun i hi => ⟨0, ?_, ?_⟩, ?_, ?_⟩
 ·rw [List.getElem?_cons_succ, List.getElem?_replicate, if_pos hi]; rfl
 ·rw [List.getElem?_map, List.getElem?_range hi]
  simp only [zgt, Nat.add_comm 1 i]; rfl
 ·rw [qlk]
  intro x hx
  rcases List.mem_cons.1 hx with rfl | hx
  ·exact qdn _ _
  ·rw [List.eq_of_mem_replicate hx]; rfl
 ·have : ∀ (l : List Nat), (∀ i ∈ l, i < n) → qg9 (n + 1) (l.map fun i => [(.sl (1 + i) 0 0 0 false : AV)]) = true := by
   intro l
   induction l with
   | nil => intro _; rfl
   | cons a l ih =>
    intro h
    have h1 : 1 + a < n + 1 := by have := h a (by simp); omega
    simp only [List.map_cons, qao, qh, qj, qbn, h1, zgv, zfc, Bool.true_and]
    exact ih fun i hi => h i (by simp [hi])
  exact this _ fun i hi => List.mem_range.1 hi
theorem q9c (ss : List (List Evt)) (cs : Bool) (h1 : ss.length ≤ 1000000) (h2 : ss.flatten.length ≤ 1000000) : ∃ cf : Bool, qa4 (evL T) qav [(.fsl ((ss).map qaz) cs)] = some (.fsl ((ss.flatten).map Evt.r) cf) := by
 by_cases h : ss = []
 ·subst h
  refine ⟨true, ?_⟩
  have := q84 cs
  simp only [List.map_nil] at this ⊢
  rw [qa4, this]; rfl
 ·obtain ⟨g, hc⟩ := q4k ss cs h1 h2 h
  refine ⟨false, ?_⟩
  have tk : List.take ss.flatten.length (ss.flatten.map Evt.r) = ss.flatten.map Evt.r := List.take_of_length_le (by rw [List.length_map]; exact Nat.le_refl _)
  rw [qa4, hc]
  have hl : ss.flatten.length ≤ (ss.flatten.map Evt.r).length := by rw [List.length_map]; exact Nat.le_refl _
  simp only [tk, qv, Nat.le_refl, qgx, qe8, zgi, ↓qs, ↓reduceIte, zgd, zgg, zgx, zfd, Nat.le_refl, zgy]
theorem q2f (bs ss : List (List Evt)) (c1 c2 : Bool) (hn : bs.length ≤ 1000) (hs1 : ss.length ≤ 1000000) (hD : (bs.flatten ++ ss.flatten).length ≤ 1000000) (hk : qcr (bs.flatten ++ ss.flatten)) (hs : ∀ b ∈ bs, b.Pairwise leE) (hd : ∀ i b, bs[i]? = some b → qsl (b ++ qcy ss.flatten i)) (hl : ∀ e ∈ ss.flatten, 0 ≤ e.lp ∧ e.lp < (bs.length : Int)) :
  qa4 (evL T) qeb [(.fsl ((bs).map qaz) c1), (.fsl ((ss).map qaz) c2)] = some (.fsl (((qd4 bs ss.flatten)).map qaz) false) := by
 have hDl := hD
 rw [List.length_append] at hDl
 obtain ⟨cf, hc⟩ := q9c ss c2 hs1 (by omega)
 obtain ⟨n, hbn⟩ : ∃ n, bs.length = n := ⟨_, rfl⟩
 rw [hbn] at hl hn
 obtain ⟨⟨y, e, σ⟩, k1, A', O', S', k2, k3, k4, k5, k6⟩ := q86 n (bs.map qaz) ss.flatten cf (by omega) hl false (DSt.start bs n hbn)
 obtain ⟨⟨y2, e2, σ2⟩, m1, ⟨m2, m3, X, m4⟩, m5⟩ := q8g n ss.flatten bs hbn hn hD hk hs hd false S'
 simp only [Int.ofNat_zero] at k1 k2 k3 k4 k5 k6 m1 m2 m3 m4 m5
 subst k2; subst k4; subst m2; subst m4
 have hcl : (evL T).call qb4 [(.fsl ((bs).map qaz) c1)] [] = some (.sl 0 0 0 bs.length false, [.row 1 (bs.map qaz) 0]) := by
  have h' : bs.length * 24 ≤ 140737488355328 := by omega
  rw [q3t qif]
  simp only [qr7, qdn, q9s, h', zgu, qu, qj, qh, zgi, ↓reduceIte, Nat.reducePow, zfc, zgx, zgu, zgy]
 rw [hbn] at hcl
 have b1 : 24 * (n : Int) ≤ 140737488355328 := by omega
 have b2 : (n : Int) ≤ 4611686018427387904 := by omega
 have hdl : (qd4 bs ss.flatten).length = n := by unfold qd4; rw [List.length_mapIdx]; exact hbn
 have tk : List.take n ((qd4 bs ss.flatten).map qaz) = (qd4 bs ss.flatten).map qaz := List.take_of_length_le (by simp [hdl])
 have hle : n ≤ n := Nat.le_refl _
 have lo := qdn 0 (qd4 bs ss.flatten)
 simp only [zgm] at k1
 have hA := S'.len
 have S0 := DSt.start bs n hbn
 have lo1 : qd (n + 2) (List.replicate n (.row 6 [] 0)) = true := by
  rw [qlk]; intro x hx; rw [List.eq_of_mem_replicate hx]; rfl
 have lo2 : qg9 (n + 2) ((List.range n).map fun i => [(.sl (1 + i) 0 0 0 false : AV)]) = true := qkj (by omega) _ S0.olo
 have lo3 : qd (n + 2) A' = true := qmu (by omega) S'.alo
 have lo4 : qg9 (n + 2) O' = true := qkj (by omega) _ S'.olo
 have t1 : ∀ x : SObj, List.take (n + 1) (List.replicate n (.row 6 [] 0) ++ [x]) = List.replicate n (.row 6 [] 0) ++ [x] := fun x => List.take_of_length_le (by simp)
 have t2 : ∀ x : SObj, List.take (n + 2) (A' ++ [x]) = A' ++ [x] := fun x => List.take_of_length_le (by simp [hA])
 have e1 : n + 1 + 1 = n + 2 := rfl
 have d0 : 0 < n + 2 := by omega
 have d1 : n + 1 < n + 2 := by omega
 have e2 : 1 + n = n + 1 := Nat.add_comm 1 n
 rw [qa4, qx qve qtp]
 simp only [qlb, zgs, zgr, hA, lo1, lo2, lo3, lo4, t1, t2, e1, e2, d0, d1, qnx, hcl, hc, b1, b2, k1, k3, k5, k6, m1, m3, m5, hdl, tk, hle, lo, qfw, zgm, qdn, qv, qn, Ev.exec, qb, qe, qc, qa5, qps, q2k, Ev.AV.shift, qai, Ev.evs, Ev.Opnd.ev, Ev.Env.get, Ev.Env.set, Ev.look, qo, qm, qab, qaj, Ev.kill, qah, qr, Ev.keep, qad, qw, qd, Ev.SObj.lo, qa1, qu, qbn, qj, qh, qgx, qe8, qgi, qem, qfw, List.length_replicate, zgi, ↓qs, ↓qaq, ↓reduceIte, zga, zgb, zgp, zgd, zgc, zgo, zgg, zgm, zgl, Nat.reduceAdd, Nat.reduceEqDiff, Nat.reduceLT, Int.reducePow, Int.cast_ofNat_Int, reduceCtorEq, zgv, zgw, zfc, zfa, zgx, and_true, zfd, Nat.add_zero, zgy]
end
set_option maxRecDepth 10000
section
variable (c : Cfg) (n : Nat) (A : qaa) (O : List (List AV)) (hA : A.length = n + 1) (rest : List Evt) (et ei ep ea : Int) (ek : List Int) (i : Nat) (hi : i < n) (k : Int) (ov : Bool)
include hA
end
set_option maxRecDepth 10000
section
variable (c : Cfg) (n : Nat) (A : qaa) (O : List (List AV)) (hA : A.length = n + 1) (rest : List Evt) (et ei ep ea : Int) (ek : List Int) (i : Nat) (hi : i < n) (k : Int) (ov : Bool)
include hA
end
set_option maxRecDepth 10000
section
variable {c : Cfg} {s : Sim} {h : List Evt} {n : Nat} {L : List (Lp × Bool)} {A : qaa} {O : List (List AV)}
end
set_option maxRecDepth 10000
section
variable {c : Cfg} {s : Sim} {h : List Evt} {n : Nat} {L : List (Lp × Bool)} {A : qaa} {O : List (List AV)}
end
set_option maxRecDepth 10000
section
variable (n ps lps look : Int) (x : OpI)
end
section
variable (p : List OpI) (c : Bool) (n ps lps look : Int)
end
set_option maxRecDepth 10000
section
variable (k : Nat) (cap : List AV) (hcap : los 0 cap = true)
include hcap
end
set_option maxRecDepth 10000
section
variable (c : Cfg)
structure CfgOk (c : Cfg) : Prop where
 lps : c.lps.length < 2 ^ 62
 progs : c.progs.length < 2 ^ 62
 prog : ∀ p ∈ c.progs, p.length < 2 ^ 62
 lp : ∀ l ∈ c.lps, l.length < 2 ^ 62
end
set_option maxRecDepth 10000
set_option maxRecDepth 10000
section
variable {c : Cfg} {s : Sim} {h : List Evt} {n : Nat} {L : List (Lp × Bool)} {A : qaa} {O : List (List AV)}
end
set_option maxRecDepth 10000
theorem q5o (h : List Evt) : ∀ n : Nat, ((List.range n).map fun i => qcy h i).flatten.Perm (h.filter fun e => decide (0 ≤ e.lp ∧ e.lp < (n : Int)))
 | 0 => by
  have : h.filter (fun e => decide (0 ≤ e.lp ∧ e.lp < ((0 : Nat) : Int))) = [] := List.filter_eq_nil_iff.2 (fun e _ => by simp only [decide_eq_true_eq]; omega)
  rw [this]; exact .refl _
 | n + 1 => by
  rw [List.range_succ, List.map_append, List.flatten_append]
  refine (List.Perm.append (q5o h n) (.refl _)).trans ?_
  have e1 : h.filter (fun e => decide (0 ≤ e.lp ∧ e.lp < (n : Int))) = (h.filter fun e => decide (0 ≤ e.lp ∧ e.lp < ((n + 1 : Nat) : Int))).filter (fun e => decide (e.lp < (n : Int))) := by
   rw [List.filter_filter]
   refine List.filter_congr (fun e _ => ?_)
   rw [← Bool.decide_and]
   refine decide_eq_decide.2 ?_
   omega
  have e2 : ([qcy h n].flatten : List Evt) = (h.filter fun e => decide (0 ≤ e.lp ∧ e.lp < ((n + 1 : Nat) : Int))).filter (fun e => !decide (e.lp < (n : Int))) := by
   rw [List.filter_filter, List.flatten_cons, List.flatten_nil, List.append_nil]
   refine List.filter_congr (fun e _ => ?_)
   rw [← decide_not, ← Bool.decide_and]
   refine decide_eq_decide.2 ?_
   omega
  rw [e1, List.map_cons, List.map_nil, e2]
  exact List.filter_append_perm _ _
theorem q7m {h : List Evt} {n : Nat} (hl : ∀ e ∈ h, 0 ≤ e.lp ∧ e.lp < (n : Int)) : ((List.range n).map fun i => qcy h i).flatten.Perm h := by
 have := q5o h n
 rwa [List.filter_eq_self.2 (fun e he => by simpa using hl e he)] at this
section
variable {c : Cfg} {s : Sim} {h : List Evt}
theorem ran (hv : Valid c) (lim : Nat) (hl : lim ≤ 60) : ∃ h, SInv c (Sim.run c lim (start c)) h ∧ h.length ≤ lim ∧ (h.length = lim ∨ (Sim.run c lim (start c)).ready c = false) := by
 obtain ⟨h, h1, h2, h3⟩ := SInv.run lim (SInv.start hv) (by simp; omega)
 exact ⟨h, by simpa using h1, h2, h3⟩
end
set_option maxRecDepth 10000
structure Good (c : Cfg) : Prop where
 h12 : Small12 c
 v : Valid c
theorem good_of {c : Cfg} (h : okB c = true) : Good c := by
 simp only [okB, Bool.and_eq_true, Bool.not_eq_true', decide_eq_true_eq] at h
 obtain ⟨h1, h2⟩ := h
 obtain ⟨g1, g2, g3, g4⟩ := q06 c h1
 exact ⟨⟨g1, g3⟩, valid_of h2⟩
def runS (c : Cfg) (lim : Nat) : Sim := Sim.run c lim (start c)
structure RunF (c : Cfg) (s : Sim) (h : List Evt) : Prop where
 inv : SInv c s h
 len : h.length ≤ 60
set_option maxRecDepth 10000
section
variable (l : List Evt) (cl : Bool)
theorem q5y (out : List Evt) (x : Evt) (i : Nat) (cf : Bool) (hx : l[i]? = some x) (ho : out.length ≤ 1000000) (hk : qcr out) (hkx : x.key.length ≤ 9223372036854775807) :
  ∃ y, itB (exec (evL T) itL none qf9) (qr [0, 3, 4, 5] true 0) ⟨[(0, (.fsl ((l).map Evt.r) cl)), (3, (.fsl ((out).map Evt.r) cf)), (4, (ii i)), (5, (ii out.length))], []⟩ [] = some y ∧
   ∃ k : Nat, y.1 = .exit 2 ∧ y.2.1.marks = [] ∧ y.2.2 = [] ∧ Ev.look y.2.1.vars 0 = some (.fsl ((l).map Evt.r) cl) ∧ Ev.look y.2.1.vars 3 = some (.fsl ((out).map Evt.r) cf) ∧ Ev.look y.2.1.vars 4 = some (ii i) ∧ Ev.look y.2.1.vars 5 = some (ii k) ∧
    k ≤ out.length ∧ (∀ u, 0 < k → out[k - 1]? = some u → leE u x) ∧ (∀ v, out[k]? = some v → leE x v) := by
 refine qhb (τ := Nat) (fun k => ⟨[(0, (.fsl ((l).map Evt.r) cl)), (3, (.fsl ((out).map Evt.r) cf)), (4, (ii i)), (5, (ii k))], []⟩) (fun _ => []) (fun k => k)
  (fun k => k ≤ out.length ∧ (∀ v, out[k]? = some v → leE x v)) _ ?_ out.length ⟨Nat.le_refl _, fun v hv => by simp at hv⟩
 rintro k ⟨h1, h2⟩
 cases k with
 | zero =>
  right
  simp only [qf9, Int.lt_irrefl, Ev.exec, qb, qe, qc, qai, Ev.Opnd.ev, Ev.Env.get, Ev.Env.set, Ev.Env.unset, Ev.look, qas, ↓qs, Ev.it1, ↓reduceIte, Nat.reduceEqDiff, Int.cast_ofNat_Int, reduceCtorEq, zgw, zfa, zgy]
  exact ⟨_, rfl, 0, rfl, rfl, rfl, rfl, rfl, rfl, rfl, Nat.zero_le _, fun u h => by omega, h2⟩
 | succ j =>
  obtain ⟨y, hy⟩ : ∃ y, out[j]? = some y := ⟨_, List.getElem?_eq_getElem (by omega)⟩
  obtain ⟨k, hk1⟩ : ∃ k, k = j + 1 := ⟨_, rfl⟩
  rw [← hk1] at h1 h2 ⊢
  have c1 : (k : Int) > 0 := by omega
  have w1 : IntKind.i64.wrap ((k : Int) - 1) = (j : Int) := qqj hk1 (by omega)
  have hc := qjz y x (hk y (List.mem_of_getElem? hy)) hkx
  by_cases hlt : qoa y x > 0
  ·left
   refine ⟨j, ?_, ⟨by omega, fun v hv => by rw [hy] at hv; cases hv; exact (by have := qoy y x; unfold leE; omega)⟩, by omega⟩
   obtain ⟨xt, xk, xl, xi, xp, xa⟩ := x
   obtain ⟨yt, yk, yl, yi, yp, ya⟩ := y
   simp only at hc
   simp only [qf9, zgs, zgr, zgq, zgt, hx, hy, c1, w1, hc, hlt, Evt.r, qv, qag, Ev.exec, qb, qe, qc, qa5, qai, Ev.evs, Ev.Opnd.ev, Ev.Env.get, Ev.Env.set, Ev.look, qk, qae, qb8, qas, qr, Ev.keep, qad, qw, qd, qa1, qbd, qu, qj, qh, ↓qs, Ev.it1, ↓reduceIte, zga, zgb, zgc, zfe, Nat.reduceAdd, Nat.reduceEqDiff, reduceCtorEq, zgv, zfc, zgx, zfd, Nat.le_refl, zgy]
  ·right
   have hle : leE y x := by unfold leE; omega
   have h3 : ∀ u, 0 < k → out[k - 1]? = some u → leE u x := fun u _ hu => by
    rw [hk1, Nat.add_sub_cancel, hy] at hu; cases hu; exact hle
   clear hle
   obtain ⟨xt, xk, xl, xi, xp, xa⟩ := x
   obtain ⟨yt, yk, yl, yi, yp, ya⟩ := y
   simp only at hc
   simp only [qf9, zgs, zgr, zgq, zgt, hx, hy, c1, w1, hc, hlt, Evt.r, qag, Ev.exec, qb, qe, qc, qa5, qai, Ev.evs, Ev.Opnd.ev, Ev.Env.get, Ev.Env.set, Ev.look, qk, qae, qb8, qas, qa1, qbd, qu, qj, qh, ↓qs, Ev.it1, ↓reduceIte, zga, zgb, zgc, zfe, Nat.reduceAdd, Nat.reduceEqDiff, reduceCtorEq, zgv, zgw, zfc, zfa, zfd, Nat.le_refl, zgy]
   exact ⟨_, rfl, k, rfl, rfl, rfl, rfl, rfl, rfl, rfl, h1, h3, h2⟩
theorem q6o (hl : l.length ≤ 1000000) (hk : qcr l) :
  ∃ y, itB (exec (evL T) itL none qdo) (qr [0, 3, 4] true 0) ⟨[(0, (.fsl ((l).map Evt.r) cl)), (3, .fsl [] true), (4, (ii 0))], []⟩ [] = some y ∧
   ∃ (l' : List Evt) (cf : Bool), y.1 = .exit 0 ∧ y.2.1.marks = [] ∧ y.2.2 = [] ∧ Ev.look y.2.1.vars 3 = some (.fsl ((l').map Evt.r) cf) ∧ l'.Perm l ∧ l'.Pairwise leE ∧ (l ≠ [] → cf = false) := by
 have key := qeu (f := exec (evL T) itL none qdo) (s := qr [0, 3, 4] true 0) (α := List Evt × Bool)
  (fun i a => ⟨[(0, (.fsl ((l).map Evt.r) cl)), (3, (.fsl ((a.1).map Evt.r) a.2)), (4, (ii i))], []⟩) (fun i a => [])
  (fun i a => a.1.Perm (l.take i) ∧ a.1.Pairwise leE ∧ (i ≠ 0 → a.2 = false)) l.length
  (fun y => ∃ (l' : List Evt) (cf : Bool), y.1 = .exit 0 ∧ y.2.1.marks = [] ∧ y.2.2 = [] ∧ Ev.look y.2.1.vars 3 = some (.fsl ((l').map Evt.r) cf) ∧ l'.Perm l ∧ l'.Pairwise leE ∧ (l ≠ [] → cf = false)) ?_ ?_ 0 ([], true) (Nat.zero_le _) ⟨by simp, .nil, fun h => absurd rfl h⟩
 ·exact key
 ·rintro i ⟨out, cf⟩ hi ⟨hp, hs, _⟩
  simp only at hp hs ⊢
  obtain ⟨x, hx⟩ : ∃ x, l[i]? = some x := ⟨_, List.getElem?_eq_getElem hi⟩
  have hi' : (i : Int) < (l.length : Int) := by omega
  have hw : IntKind.i64.wrap ((i : Int) + 1) = ((i + 1 : Nat) : Int) := by rw [qaw (by omega) (by omega)]; simp
  have hol : out.length ≤ 1000000 := by have := hp.length_eq; rw [List.length_take] at this; omega
  obtain ⟨⟨y, e, σ⟩, k1, k, k2, k3, k4, k5, k6, k7, k8, k9, k10, k11⟩ := q5y l cl out x i cf hx hol (fun z hz => hk z (List.mem_of_mem_take (hp.mem_iff.1 hz))) (hk x (List.mem_of_getElem? hx))
  simp only at k1 k2 k3 k4 k5 k6 k7 k8
  subst k2; subst k4
  obtain ⟨A, B, rfl, hA⟩ : ∃ A B, out = A ++ B ∧ A.length = k := ⟨out.take k, out.drop k, (List.take_append_drop _ _).symm, by simp; omega⟩
  subst hA
  have c1 : (A.length : Int) ≤ ((A ++ B).length : Int) := by rw [List.length_append]; omega
  have c2 : (0 : Int) ≤ (A.length : Int) := by omega
  have tk : List.take A.length ((A ++ B).map Evt.r) = A.map Evt.r := by rw [List.map_append]; exact List.take_left' (by simp)
  have dr : List.drop A.length ((A ++ B).map Evt.r) = B.map Evt.r := by rw [List.map_append]; exact List.drop_left' (by simp)
  have hlen : A.length + B.length ≤ 1000000 := by rw [List.length_append] at hol; exact hol
  have new : (A ++ x :: B).Perm (l.take (i + 1)) ∧ (A ++ x :: B).Pairwise leE := by
   constructor
   ·rw [qio hx]
    exact (List.perm_middle.trans ((List.Perm.cons x hp))).trans (List.perm_append_singleton x _).symm
   ·refine qms qk0 hs (fun u hu => ?_) (fun v hv => ?_)
    ·have hlt : A.length - 1 < A.length := (List.getElem?_eq_some_iff.1 hu).1
     refine k10 u (by omega) ?_
     rw [List.getElem?_append_left hlt]; exact hu
    ·refine k11 v ?_
     rw [List.getElem?_append_right (Nat.le_refl _), Nat.sub_self]; exact hv
  refine .inl ⟨(A ++ x :: B, false), ?_, new.1, new.2, fun _ => rfl⟩
  have b1 : A.length * 64 ≤ 140737488355328 := by omega
  have b2 : (A.length + 1) * 64 ≤ 140737488355328 := by omega
  have b3 : (A.length + 1 + B.length) * 64 ≤ 140737488355328 := by omega
  have tb : List.take ((A ++ B).length - A.length) (B.map Evt.r) = B.map Evt.r := List.take_of_length_le (by simp)
  have ta : List.take A.length (A.map Evt.r) = A.map Evt.r := List.take_of_length_le (by simp)
  have ta2 : ∀ e : List AV, List.take (A.length + 1) (A.map Evt.r ++ [e]) = A.map Evt.r ++ [e] := fun e => List.take_of_length_le (by simp)
  have ta3 : ∀ e : List AV, List.take (A.length + 1 + B.length) (A.map Evt.r ++ e :: B.map Evt.r) = A.map Evt.r ++ e :: B.map Evt.r := fun e => List.take_of_length_le (by simp; omega)
  have okAB : qc3 6 ((A ++ B).map Evt.r) = true := qfy _
  have goal' : (AV.fsl ((A ++ x :: B).map Evt.r) false) = AV.fsl (A.map Evt.r ++ x.r :: B.map Evt.r) false := by rw [List.map_append, List.map_cons]
  have n1 : ∀ p q : Nat, p + 1 + q ≤ p + (q + 1) := fun p q => by omega
  have n2 : ∀ q : Nat, 1 + q ≤ q + 1 := fun q => by omega
  simp only
  rw [goal']
  rcases A with _ | ⟨a, A⟩ <;> rcases B with _ | ⟨b, B⟩
  ·obtain ⟨xt, xk, xl, xi, xp, xa⟩ := x
   simp only [zgl, zgb, List.map_nil, Int.ofNat_zero] at *
   simp only [qdo, zgs, zgr, zgq, zgt, hx, hi', hw, k1, k3, k5, k6, k7, k8, c1, tk, dr, b1, b2, ta2, okAB, imp_self, Nat.sub_zero, Int.toNat_zero, Evt.r, qv, qag, Ev.exec, qb, qe, qc, qai, qn9, Ev.Opnd.ev, Ev.Env.get, Ev.Env.set, Ev.look, qge, qk, qb0, qae, qf6, Ev.AV.cells, qy, Ev.AV.plain, qaf, ql, qr, Ev.keep, qad, qw, qd, qa1, qu, qj, qh, qac, qao, qa9, List.replicate_one, zgi, ↓qs, ↓qaq, Ev.it1, ↓reduceIte, zga, zgb, zgd, zgc, zgo, zfe, zgg, zgl, zgj, Nat.reduceAdd, Nat.reduceEqDiff, Nat.reduceMul, Nat.reduceLT, Nat.reduceLeDiff, Nat.reducePow, Int.cast_ofNat_Int, reduceCtorEq, zgv, zfc, Bool.and_true, zfa, zgx, ne_eq, zfb, zff, zfd, Nat.add_zero, zgu, Nat.le_refl, Option.isSome_some, Option.isSome_none, zgy, implies_true]
  ·generalize hRB : List.map Evt.r (b :: B) = RB at *
   have nB : ¬ RB = [] := by rw [← hRB]; simp
   have lB : RB.length = (b :: B).length := by rw [← hRB]; simp
   have oB : qc3 6 RB = true := by rw [← hRB]; exact qfy _
   have loB : ∀ n, qg9 n RB = true := fun n => by rw [← hRB]; exact qv n _
   obtain ⟨xt, xk, xl, xi, xp, xa⟩ := x
   simp only [zgl, zgb, List.map_nil, Int.ofNat_zero, hRB, Nat.sub_zero, zgg] at *
   generalize hrb : (b :: B).length = nb at *
   simp only [qdo, zgs, zgr, zgq, zgt, hx, hi', hw, k1, k3, k5, k6, k7, k8, c1, c2, tk, b1, b2, b3, ta, ta2, ta3, tb, okAB, imp_self, n2, Int.le_refl, Nat.sub_zero, nB, lB, loB, qbl, Int.toNat_zero, Evt.r, qv, qag, Ev.exec, qb, qe, qc, qai, qn9, Ev.Opnd.ev, Ev.Env.get, Ev.Env.set, Ev.look, qge, qk, qb0, qae, qf6, Ev.AV.cells, qy, Ev.AV.plain, qaf, ql, qr, Ev.keep, qad, qw, qd, qa1, qu, qj, qh, qao, qbl, qa9, List.replicate_one, zgi, ↓qs, ↓qaq, Ev.it1, ↓reduceIte, zga, zgb, zgd, zgc, zgo, zfe, zgg, zgm, zgl, zgj, Nat.reduceAdd, Nat.reduceEqDiff, Nat.reduceMul, Nat.reduceLT, Nat.reduceLeDiff, Nat.reducePow, reduceCtorEq, zgv, zfc, Bool.and_true, zfa, zgx, ne_eq, zfb, zff, zfd, Nat.add_zero, zgu, Nat.le_refl, Option.isSome_some, Option.isSome_none, zgy, implies_true]
  ·generalize hRA : List.map Evt.r (a :: A) = RA at *
   have nA : ¬ RA = [] := by rw [← hRA]; simp
   have lA : RA.length = (a :: A).length := by rw [← hRA]; simp
   have oA : qc3 6 RA = true := by rw [← hRA]; exact qfy _
   have loA : ∀ n, qg9 n RA = true := fun n => by rw [← hRA]; exact qv n _
   obtain ⟨xt, xk, xl, xi, xp, xa⟩ := x
   simp only [zgn, zgb, List.map_nil, hRA, Nat.add_zero, Nat.sub_self] at *
   generalize hra : (a :: A).length = na at *
   simp only [qdo, zgs, zgr, zgq, zgt, hx, hi', hw, k1, k3, k5, k6, k7, k8, c1, c2, tk, dr, b1, b2, ta2, tb, okAB, imp_self, Int.le_refl, Nat.sub_zero, nA, lA, loA, qbl, zfe, qj8, Evt.r, qv, qag, Ev.exec, qb, qe, qc, qai, qn9, Ev.Opnd.ev, Ev.Env.get, Ev.Env.set, Ev.look, qge, qk, qb0, qae, qf6, Ev.AV.cells, qy, Ev.AV.plain, qaf, ql, qr, Ev.keep, qad, qw, qd, qa1, qu, qj, qh, qac, qao, qbl, qa9, List.replicate_one, zgi, ↓qs, ↓qaq, Ev.it1, ↓reduceIte, zga, zgb, zgp, zgd, zgc, zgo, zfe, zgg, zgl, zgj, Nat.reduceAdd, Nat.reduceEqDiff, Nat.reduceMul, Nat.reduceLT, Nat.reduceLeDiff, Nat.reducePow, Int.reduceToNat, reduceCtorEq, zgv, zfc, Bool.and_true, zfa, zgx, ne_eq, zfb, zff, zfd, Nat.add_zero, zgu, Nat.le_refl, Option.isSome_some, Option.isSome_none, zgy, implies_true]
  ·generalize hRA : List.map Evt.r (a :: A) = RA at *
   generalize hRB : List.map Evt.r (b :: B) = RB at *
   have nA : ¬ RA = [] := by rw [← hRA]; simp
   have nB : ¬ RB = [] := by rw [← hRB]; simp
   have lA : RA.length = (a :: A).length := by rw [← hRA]; simp
   have lB : RB.length = (b :: B).length := by rw [← hRB]; simp
   have oA : qc3 6 RA = true := by rw [← hRA]; exact qfy _
   have oB : qc3 6 RB = true := by rw [← hRB]; exact qfy _
   have loA : ∀ n, qg9 n RA = true := fun n => by rw [← hRA]; exact qv n _
   have loB : ∀ n, qg9 n RB = true := fun n => by rw [← hRB]; exact qv n _
   generalize hra : (a :: A).length = na at *
   generalize hrb : (b :: B).length = nb at *
   generalize (a :: A) ++ (b :: B) = AB at *
   obtain ⟨xt, xk, xl, xi, xp, xa⟩ := x
   simp only [qdo, zgs, zgr, zgq, zgt, hx, hi', hw, k1, k3, k5, k6, k7, k8, c1, c2, tk, dr, b1, b2, b3, ta, ta2, ta3, tb, okAB, imp_self, n1, List.append_assoc, Int.le_refl, Nat.sub_zero, nA, nB, lA, lB, oA, oB, loA, loB, qj8, Evt.r, qv, qag, Ev.exec, qb, qe, qc, qai, qn9, Ev.Opnd.ev, Ev.Env.get, Ev.Env.set, Ev.look, qge, qk, qb0, qae, qf6, Ev.AV.cells, qy, Ev.AV.plain, qaf, ql, qr, Ev.keep, qad, qw, qd, qa1, qu, qj, qh, qao, qbl, qa9, List.replicate_one, zgi, ↓qs, ↓qaq, Ev.it1, ↓reduceIte, zga, zgb, zgp, zgd, zgc, zgo, zfe, zgg, zgm, zgl, zgj, Nat.reduceAdd, Nat.reduceEqDiff, Nat.reduceMul, Nat.reduceLT, Nat.reduceLeDiff, Nat.reducePow, Int.reduceToNat, reduceCtorEq, zgv, zfc, Bool.and_true, zfa, zgx, ne_eq, zfb, zff, zfd, zgu, Nat.le_refl, Option.isSome_some, Option.isSome_none, zgy, implies_true]
 ·rintro ⟨out, cf⟩ ⟨hp, hs, hc⟩
  rw [List.take_length] at hp
  simp only at hp hs hc ⊢
  simp only [qdo, Int.lt_irrefl, Ev.exec, qb, qe, qc, qai, Ev.Opnd.ev, Ev.Env.get, Ev.Env.set, Ev.look, ql, zgi, ↓qs, Ev.it1, ↓reduceIte, Nat.reduceEqDiff, reduceCtorEq, zgw, zfa, ne_eq, zgy]
  exact ⟨_, rfl, out, cf, rfl, rfl, rfl, rfl, hp, hs, fun h => hc (by intro e; exact h (List.eq_nil_of_length_eq_zero e))⟩
theorem qtz (hl : l.length ≤ 1000000) (hk : qcr l) : ∃ (l' : List Evt) (cf : Bool), l'.Perm l ∧ l'.Pairwise leE ∧ (l ≠ [] → cf = false) ∧ qa4 (evL T) qd0 [(.fsl ((l).map Evt.r) cl)] = some (.fsl ((l').map Evt.r) cf) := by
 obtain ⟨⟨y, e, σ⟩, k1, l', cf, k2, k3, k4, k5, k6, k7, k8⟩ := q6o l cl hl hk
 simp only at k1 k2 k3 k4 k5
 subst k2; subst k4
 refine ⟨l', cf, k6, k7, k8, ?_⟩
 rw [qa4, qx qsx qrb]
 simp only [qj2, k1, k3, k5, qv, qn, Ev.exec, qb, qe, qc, qai, Ev.Opnd.ev, Ev.Env.get, Ev.Env.set, Ev.look, qo, qm, qab, qaj, Ev.kill, qah, qr, Ev.keep, qad, qw, qd, qa1, qu, qac, qal, ↓qs, ↓qaq, ↓reduceIte, zga, zgb, zfe, Nat.reduceEqDiff, reduceCtorEq, zfc, zgx, zfd, zgy]
theorem qm3 (hl : l.length ≤ 1000000) (hk : qcr l) (hd : qsl l) : ∃ cf : Bool, (l ≠ [] → cf = false) ∧ qa4 (evL T) qd0 [(.fsl ((l).map Evt.r) cl)] = some (.fsl ((sortL l).map Evt.r) cf) := by
 obtain ⟨l', cf, h1, h2, h3, h4⟩ := qtz l cl hl hk
 rw [← qlp hd h1 h2]; exact ⟨cf, h3, h4⟩
end
set_option maxRecDepth 10000
section
variable (c : Cfg)
theorem q6g (k : Nat) (l : List Start) (hkl : c.lps[k]? = some l) (o0 : List Evt) (g0 : Nat) (hl : l.length ≤ 12) (hk : k ≤ 12) (ho : o0.length ≤ 1000) :
  ∃ y, itB (exec (evL T) itL none qhu) (qr [1, 3, 4, 5] true 1) ⟨[(1, (.fptr [(.fsl ((c.lps).map lpC) false), (.fsl ((c.progs).map qc1) false), (ii c.look), (ii c.fin), (ii c.cap)])), (3, .sl 0 g0 0 o0.length false), (4, (ii k)), (5, (ii 0))], []⟩ [.row 6 (o0.map Evt.r) g0] = some y ∧
   ∃ g : Nat, y.1 = .exit 2 ∧ y.2.1.marks = [] ∧ y.2.2 = [.row 6 ((o0 ++ qk2 k l).map Evt.r) g] ∧ Ev.look y.2.1.vars 3 = some (.sl 0 g 0 (o0 ++ qk2 k l).length false) ∧ Ev.look y.2.1.vars 1 = some (.fptr [(.fsl ((c.lps).map lpC) false), (.fsl ((c.progs).map qc1) false), (ii c.look), (ii c.fin), (ii c.cap)]) ∧ Ev.look y.2.1.vars 4 = some (ii k) := by
 have key := qeu (f := exec (evL T) itL none qhu) (s := qr [1, 3, 4, 5] true 1) (α := List Evt × Nat)
  (fun i a => ⟨[(1, (.fptr [(.fsl ((c.lps).map lpC) false), (.fsl ((c.progs).map qc1) false), (ii c.look), (ii c.fin), (ii c.cap)])), (3, .sl 0 a.2 0 a.1.length false), (4, (ii k)), (5, (ii i))], []⟩) (fun i a => [.row 6 (a.1.map Evt.r) a.2])
  (fun i a => a.1 = o0 ++ qk2 k (l.take i)) l.length
  (fun y => ∃ g : Nat, y.1 = .exit 2 ∧ y.2.1.marks = [] ∧ y.2.2 = [.row 6 ((o0 ++ qk2 k l).map Evt.r) g] ∧ Ev.look y.2.1.vars 3 = some (.sl 0 g 0 (o0 ++ qk2 k l).length false) ∧ Ev.look y.2.1.vars 1 = some (.fptr [(.fsl ((c.lps).map lpC) false), (.fsl ((c.progs).map qc1) false), (ii c.look), (ii c.fin), (ii c.cap)]) ∧ Ev.look y.2.1.vars 4 = some (ii k)) ?_ ?_ 0 (o0, g0) (Nat.zero_le _) (by simp [qk2])
 ·exact key
 ·rintro i ⟨out, g⟩ hi hout
  simp only at hout ⊢
  obtain ⟨x, hx⟩ : ∃ x, l[i]? = some x := ⟨_, List.getElem?_eq_getElem hi⟩
  have hi' : (i : Int) < (l.length : Int) := by omega
  have hw : IntKind.i64.wrap ((i : Int) + 1) = ((i + 1 : Nat) : Int) := by rw [qaw (by omega) (by omega)]; simp
  have ho2 : out.length ≤ 1012 := by rw [hout, List.length_append, q22]; have := List.length_take_le i l; omega
  have hb : (out.length + 1) * 64 ≤ 140737488355328 := by omega
  obtain ⟨t1, t2⟩ := qwp out (qj4 k i x).r
  have hr : (out ++ [qj4 k i x]).map Evt.r = out.map Evt.r ++ [(qj4 k i x).r] := by rw [List.map_append]; rfl
  refine .inl ⟨(out ++ [qj4 k i x], g + 1), ?_, by simp only; rw [q6k hx, hout, List.append_assoc]⟩
  have hlo := qv 1 (out ++ [qj4 k i x])
  simp only
  rw [hr, List.length_append]
  rw [hr] at hlo
  have hrep : ∀ v : List AV, List.replicate 2 v = [v, v] := fun _ => rfl
  simp only [qj4, Evt.r, List.map_cons, List.map_nil, qb9] at t2 hlo ⊢
  simp only [qhu, zgs, zgr, zgq, zgt, hx, hkl, hi', hw, hb, t1, hlo, hrep, lpC, Start.r, qc4, qbe, Ev.exec, qb, qe, qc, qai, qn9, Ev.Opnd.ev, Ev.Env.get, Ev.Env.set, Ev.look, qk, qb0, qae, qg6, qf6, Ev.AV.cells, Ev.AV.uc, qy, Ev.AV.plain, qaf, ql, qr, Ev.keep, qad, qw, qd, Ev.SObj.lo, qa1, qu, qb1, qbn, qj, qh, qbl, qa9, List.replicate_one, zgi, ↓qs, Ev.it1, ↓reduceIte, zga, zgb, zgd, zgc, zgo, zfe, zgf, zgg, zgm, zgl, zgj, zgk, zgh, Nat.reduceAdd, Nat.reduceEqDiff, Nat.reduceMul, Nat.reduceLT, Nat.reduceLeDiff, Nat.reducePow, zgv, zfc, zfa, zgx, ne_eq, zfb, zff, zfd, zgu, Nat.le_refl, zgy]
 ·rintro ⟨out, g⟩ hout
  rw [List.take_length] at hout
  simp only at hout ⊢
  simp only [qhu, zgs, zgr, zgq, zgt, hkl, lpC, Int.lt_irrefl, Ev.exec, qb, qe, qc, qai, Ev.Opnd.ev, Ev.Env.get, Ev.Env.set, Ev.look, qk, qae, ql, zgi, ↓qs, Ev.it1, ↓reduceIte, zga, zgb, zgp, zgg, zgh, Nat.reduceEqDiff, zgw, zfa, zfd, zgy]
  exact ⟨_, rfl, g, rfl, rfl, by rw [hout], by rw [hout, List.length_append]; rfl, rfl, rfl⟩
theorem q5w (h : Small12 c) :
  ∃ y, itB (exec (evL T) itL none qhz) (qr [1, 3, 4] true 1) ⟨[(1, (.fptr [(.fsl ((c.lps).map lpC) false), (.fsl ((c.progs).map qc1) false), (ii c.look), (ii c.fin), (ii c.cap)])), (3, .sl 0 0 0 0 false), (4, (ii 0))], []⟩ [.row 6 [] 0] = some y ∧
   ∃ g : Nat, y.1 = .exit 0 ∧ y.2.1.marks = [] ∧ y.2.2 = [.row 6 ((qkx c.lps).map Evt.r) g] ∧ Ev.look y.2.1.vars 3 = some (.sl 0 g 0 (qkx c.lps).length false) := by
 have key := qeu (f := exec (evL T) itL none qhz) (s := qr [1, 3, 4] true 1) (α := List Evt × Nat)
  (fun i a => ⟨[(1, (.fptr [(.fsl ((c.lps).map lpC) false), (.fsl ((c.progs).map qc1) false), (ii c.look), (ii c.fin), (ii c.cap)])), (3, .sl 0 a.2 0 a.1.length false), (4, (ii i))], []⟩) (fun i a => [.row 6 (a.1.map Evt.r) a.2])
  (fun i a => a.1 = qkx (c.lps.take i)) c.lps.length
  (fun y => ∃ g : Nat, y.1 = .exit 0 ∧ y.2.1.marks = [] ∧ y.2.2 = [.row 6 ((qkx c.lps).map Evt.r) g] ∧ Ev.look y.2.1.vars 3 = some (.sl 0 g 0 (qkx c.lps).length false)) ?_ ?_ 0 ([], 0) (Nat.zero_le _) (by simp [qkx])
 ·exact key
 ·rintro i ⟨out, g⟩ hi hout
  simp only at hout ⊢
  obtain ⟨x, hx⟩ : ∃ x, c.lps[i]? = some x := ⟨_, List.getElem?_eq_getElem hi⟩
  have hlps := h.lps
  have hi' : (i : Int) < (c.lps.length : Int) := by omega
  have hw : IntKind.i64.wrap ((i : Int) + 1) = ((i + 1 : Nat) : Int) := by rw [qaw (by omega) (by omega)]; simp
  have hl := h.len i
  obtain ⟨⟨y, e, σ⟩, k1, g', k2, k3, k4, k5, k6, k7⟩ := q6g c i x hx out g (h.lp _ (List.mem_of_getElem? hx)) (by omega) (by rw [hout]; omega)
  simp only at k1 k2 k3 k4 k5 k6 k7
  subst k2; subst k4
  refine .inl ⟨(out ++ qk2 i x, g'), ?_, by simp only; rw [q23 hx, hout]⟩
  simp only [zgp] at k5 ⊢
  simp only [qhz, hi', hw, k1, k3, k5, k6, k7, qv, qc4, qbe, Ev.exec, qb, qe, qc, qai, Ev.Opnd.ev, Ev.Env.get, Ev.Env.set, Ev.look, qk, qae, qaf, ql, qr, Ev.keep, qad, qw, qd, Ev.SObj.lo, qa1, qu, qb1, qbn, qj, qh, zgi, ↓qs, ↓qaq, Ev.it1, ↓reduceIte, zga, zgb, zgc, zfe, zgg, zgh, Nat.reduceEqDiff, zgv, zfc, zfa, zgx, zfd, zgu, zgy]
 ·rintro ⟨out, g⟩ hout
  rw [List.take_length] at hout
  simp only at hout ⊢
  simp only [qhz, Int.lt_irrefl, Ev.exec, qb, qe, qc, qai, Ev.Opnd.ev, Ev.Env.get, Ev.Env.set, Ev.look, qk, qae, ql, zgi, ↓qs, Ev.it1, ↓reduceIte, zgg, zgh, Nat.reduceEqDiff, zgw, zfa, zgy]
  exact ⟨_, rfl, g, rfl, rfl, by rw [hout], by rw [hout]; rfl⟩
theorem qxw (h : Small12 c) : ∃ cf : Bool, qa4 (evL T) qf5 [(.agg [(.fsl ((c.lps).map lpC) false), (.fsl ((c.progs).map qc1) false), (ii c.look), (ii c.fin), (ii c.cap)])] = some (.fsl ((sortL (qkx c.lps)).map Evt.r) cf) := by
 obtain ⟨⟨y, e, σ⟩, k1, g, k2, k3, k4, k5⟩ := q5w c h
 simp only at k1 k2 k3 k4 k5
 subst k2; subst k4
 have hl := h.len c.lps.length
 rw [List.take_length] at hl
 obtain ⟨cf, _, hs⟩ := qm3 (qkx c.lps) false (by omega) (q8m _) (q9e _)
 refine ⟨cf, ?_⟩
 have t1 := (qwp (qkx c.lps) []).1
 rw [qa4, qx qvk quz]
 simp only [ql0, k1, k3, k5, hs, t1, qv, qc4, qbe, qn, Ev.exec, qb, qe, qc, qa5, qai, Ev.evs, Ev.Opnd.ev, Ev.Env.get, Ev.Env.set, Ev.look, qo, Ev.AV.cells, qy, Ev.AV.plain, qm, qab, qaj, Ev.kill, qah, qr, Ev.keep, qad, qw, qd, Ev.SObj.lo, qa1, qu, qb1, qbn, qj, qh, qac, qal, zgi, ↓qs, ↓qaq, ↓reduceIte, zga, zgb, zgd, zgc, zgo, zfe, zgg, zgl, zgj, Nat.reduceEqDiff, Nat.reduceLT, zgv, zfc, zgx, ne_eq, zfb, zff, zfd, zgu, Nat.le_refl, zgy]
end
set_option maxRecDepth 10000
section
variable (D : List Evt) (G : List (List Int)) (cd cg : Bool)
theorem q6a (o : List Evt) (g i : Nat) (x : Evt) (hx : D[i]? = some x) (hG : G.length ≤ 1000) (hk : ∀ k ∈ G, k.length ≤ 9223372036854775807) (hxk : x.key.length ≤ 9223372036854775807) :
  ∃ y, itB (exec (evL T) itL none qh3) (qr [0, 1, 5, 6, 7, 8] true 1) ⟨[(0, (.fsl ((D).map Evt.r) cd)), (1, (.fsl ((G).map qfz) cg)), (5, .sl 0 g 0 o.length false), (6, (ii i)), (7, (bb false)), (8, (ii ((0 : Nat))))], []⟩ [.row 6 (o.map Evt.r) g] = some y ∧
   (y.1 = .exit 2 ∧ y.2.1.marks = [] ∧ y.2.2 = [.row 6 (o.map Evt.r) g] ∧ Ev.look y.2.1.vars 0 = some (.fsl ((D).map Evt.r) cd) ∧ Ev.look y.2.1.vars 1 = some (.fsl ((G).map qfz) cg) ∧ Ev.look y.2.1.vars 5 = some (.sl 0 g 0 o.length false) ∧ Ev.look y.2.1.vars 6 = some (ii i) ∧ Ev.look y.2.1.vars 7 = some (bb (!qku G x))) := by
 have hb : (!qku G x) = G.any fun k => decide (x.key = k) := by
  unfold qku
  rw [Bool.not_not]
  congr 1; funext k; exact decide_eq_decide.2 eq_comm
 rw [hb]
 have key := qeu (f := exec (evL T) itL none qh3) (s := qr [0, 1, 5, 6, 7, 8] true 1) (α := Unit)
  (fun j _ => ⟨[(0, (.fsl ((D).map Evt.r) cd)), (1, (.fsl ((G).map qfz) cg)), (5, .sl 0 g 0 o.length false), (6, (ii i)), (7, (bb (((G.take j).any fun k => decide (x.key = k))))), (8, (ii j))], []⟩) (fun _ _ => [.row 6 (o.map Evt.r) g])
  (fun _ _ => True) G.length
  (fun y => y.1 = .exit 2 ∧ y.2.1.marks = [] ∧ y.2.2 = [.row 6 (o.map Evt.r) g] ∧ Ev.look y.2.1.vars 0 = some (.fsl ((D).map Evt.r) cd) ∧ Ev.look y.2.1.vars 1 = some (.fsl ((G).map qfz) cg) ∧ Ev.look y.2.1.vars 5 = some (.sl 0 g 0 o.length false) ∧ Ev.look y.2.1.vars 6 = some (ii i) ∧ Ev.look y.2.1.vars 7 = some (bb ((G.any fun k => decide (x.key = k))))) ?_ ?_ 0 () (Nat.zero_le _) trivial
 ·exact key
 ·rintro j _ hj _
  obtain ⟨z, hz⟩ : ∃ z, G[j]? = some z := ⟨_, List.getElem?_eq_getElem hj⟩
  have hj' : (j : Int) < (G.length : Int) := by omega
  have hw : IntKind.i64.wrap ((j : Int) + 1) = ((j + 1 : Nat) : Int) := by rw [qaw (by omega) (by omega)]; simp
  have e1 : ((G.take (j + 1)).any fun k => decide (x.key = k)) = (((G.take j).any fun k => decide (x.key = k)) || decide (x.key = z)) := by rw [qio hz, List.any_append]; simp
  have sk := qwk x.key z false false hxk (hk z (List.mem_of_getElem? hz))
  refine .inl ⟨(), ?_, trivial⟩
  rw [e1]
  generalize ((G.take j).any fun k => decide (x.key = k)) = f
  generalize decide (x.key = z) = f2 at *
  obtain ⟨xt, xk, xl, xi, xp, xa⟩ := x
  cases f <;> simp only [qh3, zgs, zgr, zgq, zgt, hx, hz, hj', hw, sk, Evt.r, qfz, qbs, qv, qag, Ev.exec, qb, qe, qc, qa5, qai, Ev.evs, Ev.Opnd.ev, Ev.Env.get, Ev.Env.set, Ev.Env.unset, Ev.look, qk, qae, qaf, ql, qr, Ev.keep, qad, qw, qd, Ev.SObj.lo, qa1, qu, qbn, qj, qh, zgi, ↓qs, Ev.it1, ↓reduceIte, zga, zgb, zgc, zfe, zgf, zgg, zgh, Nat.reduceAdd, Nat.reduceEqDiff, reduceCtorEq, zgv, zfc, Bool.true_or, Bool.false_or, zfa, Bool.true_eq_false, zgx, zfd, zgu, zgy]
 ·rintro _ _
  simp only [List.take_length]
  simp only [qh3, Int.lt_irrefl, Ev.exec, qb, qe, qc, qai, Ev.Opnd.ev, Ev.Env.get, Ev.Env.set, Ev.look, ql, zgi, ↓qs, Ev.it1, ↓reduceIte, Nat.reduceEqDiff, reduceCtorEq, zgw, zfa, zgy]
  exact ⟨_, rfl, rfl, rfl, rfl, rfl, rfl, rfl, rfl, rfl⟩
theorem q83 (hD : D.length ≤ 1000000) (hDk : qcr D) (hG : G.length ≤ 1000) (hk : ∀ k ∈ G, k.length ≤ 9223372036854775807) :
  qa4 (evL T) qhd [(.fsl ((D).map Evt.r) cd), (.fsl ((G).map qfz) cg)] = some (.fsl (((D.filter (qku G))).map Evt.r) false) := by
 have hL : ∃ y, itB (exec (evL T) itL none qgf) (qr [0, 1, 5, 6] true 1) ⟨[(0, (.fsl ((D).map Evt.r) cd)), (1, (.fsl ((G).map qfz) cg)), (5, .sl 0 0 0 0 false), (6, (ii ((0 : Nat))))], []⟩ [.row 6 [] 0] = some y ∧
   ∃ g : Nat, y.1 = .exit 0 ∧ y.2.1.marks = [] ∧ y.2.2 = [.row 6 ((D.filter (qku G)).map Evt.r) g] ∧ Ev.look y.2.1.vars 5 = some (.sl 0 g 0 (D.filter (qku G)).length false) := by
  have key := qeu (f := exec (evL T) itL none qgf) (s := qr [0, 1, 5, 6] true 1) (α := Nat)
   (fun i g => ⟨[(0, (.fsl ((D).map Evt.r) cd)), (1, (.fsl ((G).map qfz) cg)), (5, .sl 0 g 0 ((D.take i).filter (qku G)).length false), (6, (ii i))], []⟩) (fun i g => [.row 6 (((D.take i).filter (qku G)).map Evt.r) g])
   (fun _ _ => True) D.length
   (fun y => ∃ g : Nat, y.1 = .exit 0 ∧ y.2.1.marks = [] ∧ y.2.2 = [.row 6 ((D.filter (qku G)).map Evt.r) g] ∧ Ev.look y.2.1.vars 5 = some (.sl 0 g 0 (D.filter (qku G)).length false)) ?_ ?_ 0 0 (Nat.zero_le _) trivial
  ·exact key
  ·rintro i g hi _
   obtain ⟨x, hx⟩ : ∃ z, D[i]? = some z := ⟨_, List.getElem?_eq_getElem hi⟩
   have hi' : (i : Int) < (D.length : Int) := by omega
   have hw : IntKind.i64.wrap ((i : Int) + 1) = ((i + 1 : Nat) : Int) := by rw [qaw (by omega) (by omega)]; simp
   obtain ⟨⟨y, e, σ⟩, k1, k2, k3, k4, k5, k6, k7, k8, k9⟩ := q6a D G cd cg ((D.take i).filter (qku G)) g i x hx hG hk (hDk x (List.mem_of_getElem? hx))
   simp only [Int.ofNat_zero] at k1 k2 k3 k4 k5 k6 k7 k8 k9
   subst k2; subst k4
   have hle : ((D.take i).filter (qku G)).length ≤ 1000000 := by
    have h1 := List.length_filter_le (qku G) (D.take i)
    have h2 := List.length_take_le' i D
    omega
   cases hb : qku G x with
   | true =>
    rw [hb] at k9
    have e1 : (D.take (i + 1)).filter (qku G) = (D.take i).filter (qku G) ++ [x] := by rw [qio hx, List.filter_append]; simp [hb]
    refine .inl ⟨g + 1, ?_, trivial⟩
    rw [e1]
    generalize (D.take i).filter (qku G) = W at *
    have tk : List.take W.length (W.map Evt.r) = W.map Evt.r := List.take_of_length_le (by simp)
    have b : (W.length + 1) * 64 ≤ 140737488355328 := by omega
    have hm : (W ++ [x]).map Evt.r = W.map Evt.r ++ [x.r] := by rw [List.map_append]; rfl
    have hlo : qg9 1 (W.map Evt.r ++ [x.r]) = true := by rw [← hm]; exact qv _ _
    rw [hm, List.length_append]
    obtain ⟨xt, xk, xl, xi, xp, xa⟩ := x
    simp only [Evt.r] at hlo
    simp only [qgf, zgs, zgr, zgq, zgt, hx, hi', hw, k1, k3, k5, k6, k7, k8, k9, tk, b, hlo, Evt.r, qbs, qv, Ev.exec, qb, qe, qc, qai, qn9, Ev.Opnd.ev, Ev.Env.get, Ev.Env.set, Ev.look, qk, qb0, qae, qf6, Ev.AV.cells, qy, Ev.AV.plain, qaf, ql, qr, Ev.keep, qad, qw, qd, Ev.SObj.lo, qa1, qu, qbn, qbl, qa9, List.replicate_one, zgi, ↓qs, ↓qaq, Ev.it1, ↓reduceIte, zga, zgb, zgd, zgc, zfe, zgj, Nat.reduceAdd, Nat.reduceEqDiff, Nat.reduceMul, Nat.reduceLeDiff, Nat.reducePow, reduceCtorEq, zgv, zfc, Bool.not_true, Bool.not_false, zgx, ne_eq, zfb, zff, zfd, zgu, Nat.le_refl, zgy]
   | false =>
    rw [hb] at k9
    have e1 : (D.take (i + 1)).filter (qku G) = (D.take i).filter (qku G) := by rw [qio hx, List.filter_append]; simp [hb]
    refine .inl ⟨g, ?_, trivial⟩
    rw [e1]
    generalize (D.take i).filter (qku G) = W at *
    simp only [qgf, hi', hw, k1, k3, k5, k6, k7, k8, k9, qbs, qv, Ev.exec, qb, qe, qc, qai, Ev.Opnd.ev, Ev.Env.get, Ev.Env.set, Ev.look, qaf, ql, qr, Ev.keep, qad, qw, qd, Ev.SObj.lo, qa1, qu, qbn, zgi, ↓qs, ↓qaq, Ev.it1, ↓reduceIte, zga, zgb, zgc, zfe, Nat.reduceEqDiff, reduceCtorEq, zgv, zfc, Bool.not_true, Bool.not_false, zfa, zgx, zfd, zgu, zgy]
  ·rintro g _
   simp only [List.take_length]
   simp only [qgf, Int.lt_irrefl, Ev.exec, qb, qe, qc, qai, Ev.Opnd.ev, Ev.Env.get, Ev.Env.set, Ev.look, ql, zgi, ↓qs, Ev.it1, ↓reduceIte, Nat.reduceEqDiff, reduceCtorEq, zgw, zfa, zgy]
   exact ⟨_, rfl, g, rfl, rfl, rfl, rfl⟩
 obtain ⟨⟨y, e, σ⟩, k1, g, k2, k3, k4, k5⟩ := hL
 simp only [Int.ofNat_zero] at k1 k2 k3 k4 k5
 subst k2; subst k4
 have tk : List.take (D.filter (qku G)).length ((D.filter (qku G)).map Evt.r) = (D.filter (qku G)).map Evt.r := List.take_of_length_le (by simp)
 generalize D.filter (qku G) = W at *
 rw [qa4, qx qvy qub]
 simp only [ql2, k1, k3, k5, tk, qbs, qv, qn, Ev.exec, qb, qe, qc, qai, Ev.Opnd.ev, Ev.Env.get, Ev.Env.set, Ev.look, qo, qm, qab, qaj, Ev.kill, qah, qr, Ev.keep, qad, qw, qd, Ev.SObj.lo, qa1, qu, qbn, qac, qgx, qe8, zgi, ↓qs, ↓qaq, ↓reduceIte, zga, zgb, zgd, zgc, zgo, zfe, zgg, zgl, Nat.reduceAdd, Nat.reduceEqDiff, Nat.reduceLT, reduceCtorEq, zgv, zgw, zfc, zfa, zgx, and_true, zfd, zgu, Nat.le_refl, zgy]
end
theorem q4a (a : List (List Evt)) (ca cb : Bool) (hal : a.length ≤ 1000000) (hs : ∀ x ∈ a, x.length ≤ 1000000) (hk : ∀ x ∈ a, ∀ e ∈ x, e.key.length ≤ 9223372036854775807) :
  qa4 (evL T) qff [(.fsl ((a).map qaz) ca), (.fsl ((a).map qaz) cb)] = some (bb true) := by
 have hL : ∃ y, itB (exec (evL T) itL none qhy) (qr [0, 1, 5] true 0) ⟨[(0, (.fsl ((a).map qaz) ca)), (1, (.fsl ((a).map qaz) cb)), (5, (ii ((0 : Nat))))], []⟩ [] = some y ∧ (y.1 = .exit 0 ∧ y.2.1.marks = [] ∧ y.2.2 = []) := by
  refine itB_each a (fun i => ⟨[(0, (.fsl ((a).map qaz) ca)), (1, (.fsl ((a).map qaz) cb)), (5, (ii i))], []⟩) [] _ ?_ ?_
  ·intro i x hi hx
   have hi' : (i : Int) < (a.length : Int) := by omega
   have hw : IntKind.i64.wrap ((i : Int) + 1) = ((i + 1 : Nat) : Int) := by rw [qaw (by omega) (by omega)]; simp
   have hxl := hs _ (List.mem_of_getElem? hx)
   have hxk := hk _ (List.mem_of_getElem? hx)
   have he := q3c x x false false (by omega) (by omega) hxk hxk
   rw [decide_eq_true rfl] at he
   simp only [qhy, zgs, zgr, zgq, zgt, hx, hi', hw, he, qaz, qdn, qv, Ev.exec, qb, qe, qc, qa5, qai, Ev.evs, Ev.Opnd.ev, Ev.Env.get, Ev.Env.set, Ev.look, qk, qae, qaf, ql, qr, Ev.keep, qad, qw, qd, qa1, qu, qj, qh, zgi, ↓qs, Ev.it1, ↓reduceIte, zga, zgb, zfe, zgh, Nat.reduceEqDiff, reduceCtorEq, zgv, zfc, Bool.not_true, zfa, zgx, zfd, zgy]
  ·simp only [qhy, Int.lt_irrefl, Ev.exec, qb, qe, qc, qai, Ev.Opnd.ev, Ev.Env.get, Ev.Env.set, Ev.look, ql, zgi, ↓qs, Ev.it1, ↓reduceIte, Nat.reduceEqDiff, reduceCtorEq, zgw, zfa, zgy]
   exact ⟨_, rfl, rfl, rfl, rfl⟩
 obtain ⟨⟨y, e, σ⟩, k1, k2, k3, k4⟩ := hL
 simp only [Int.ofNat_zero] at k1 k2 k3 k4
 subst k2; subst k4
 rw [qa4, qx qsw qrr]
 simp only [qj3, k1, k3, qdn, qn, Ev.exec, qb, qe, qc, qai, Ev.Opnd.ev, Ev.Env.get, Ev.Env.set, Ev.look, qo, qbx, qm, qab, qaj, Ev.kill, qah, qr, Ev.keep, qad, qw, qd, qa1, qu, qal, zgi, ↓qs, ↓qaq, ↓reduceIte, zga, zgb, zfe, Nat.reduceAdd, Nat.reduceEqDiff, reduceCtorEq, zgw, zfc, zfa, zgx, ne_eq, not_true_eq_false, zfd, zgy]
set_option maxRecDepth 10000
theorem qaay (c : Cfg) (h : Small12 c) (h1 : 1 ≤ c.lps.length) : qa4 (evL T) qi0 [(.agg [(.fsl ((c.lps).map lpC) false), (.fsl ((c.progs).map qc1) false), (ii c.look), (ii c.fin), (ii c.cap)])] = some (.agg [(.fsl (((start c).trace).map qaz) false), (.fsl (((qlo c.lps)).map lpF) false), (.fsl (((start c).pend).map Evt.r) false), (ii ((start c).n)), (bb ((start c).over))]) := by
 have hs := qzk c h
 obtain ⟨cf, hi⟩ := qxw c h
 have hlps := h.lps
 have hL : ∃ y, itB (exec (evL T) itL none qhk) (qr [1, 2, 3, 4] false 2) ⟨[(1, (.fptr [(.fsl ((c.lps).map lpC) false), (.fsl ((c.progs).map qc1) false), (ii c.look), (ii c.fin), (ii c.cap)])), (2, .ptr 0 0 0 0), (3, .ptr 1 0 0 0), (4, (ii ((0 : Nat))))], []⟩ (.row 5 [[.fsl [] false, .fsl [] false, .fsl [] false, (ii 0), (bb false)]] 0 :: .row 5 [[.fsl [] true, (.fsl (((qlo c.lps)).map lpF) false), (.fsl (((sortL (qkx c.lps))).map Evt.r) false), (ii 0), (bb false)]] 0 :: []) = some y ∧
   ∃ g : Nat, y.1 = .exit 0 ∧ y.2.1.marks = [] ∧ y.2.2 = [.row 5 [[.fsl [] false, .fsl [] false, .fsl [] false, (ii 0), (bb false)]] 0, .row 5 [[.sl 2 g 0 c.lps.length false, (.fsl (((qlo c.lps)).map lpF) false), (.fsl (((sortL (qkx c.lps))).map Evt.r) false), (ii 0), (bb false)]] 0, .row 1 (List.replicate c.lps.length (qaz [])) g] ∧ Ev.look y.2.1.vars 2 = some (.ptr 0 0 0 0) ∧ Ev.look y.2.1.vars 3 = some (.ptr 1 0 0 0) := by
  have key := qeu (f := exec (evL T) itL none qhk) (s := qr [1, 2, 3, 4] false 2) (α := AV × qaa)
   (fun i a => ⟨[(1, (.fptr [(.fsl ((c.lps).map lpC) false), (.fsl ((c.progs).map qc1) false), (ii c.look), (ii c.fin), (ii c.cap)])), (2, .ptr 0 0 0 0), (3, .ptr 1 0 0 0), (4, (ii i))], []⟩) (fun i a => .row 5 [[.fsl [] false, .fsl [] false, .fsl [] false, (ii 0), (bb false)]] 0 :: .row 5 [[a.1, (.fsl (((qlo c.lps)).map lpF) false), (.fsl (((sortL (qkx c.lps))).map Evt.r) false), (ii 0), (bb false)]] 0 :: a.2)
   (fun i a => i = 0 ∧ a = (.fsl [] true, []) ∨ 0 < i ∧ ∃ g : Nat, a = (.sl 2 g 0 i false, [.row 1 (List.replicate i (qaz [])) g])) c.lps.length
   (fun y => ∃ g : Nat, y.1 = .exit 0 ∧ y.2.1.marks = [] ∧ y.2.2 = [.row 5 [[.fsl [] false, .fsl [] false, .fsl [] false, (ii 0), (bb false)]] 0, .row 5 [[.sl 2 g 0 c.lps.length false, (.fsl (((qlo c.lps)).map lpF) false), (.fsl (((sortL (qkx c.lps))).map Evt.r) false), (ii 0), (bb false)]] 0, .row 1 (List.replicate c.lps.length (qaz [])) g] ∧ Ev.look y.2.1.vars 2 = some (.ptr 0 0 0 0) ∧ Ev.look y.2.1.vars 3 = some (.ptr 1 0 0 0)) ?_ ?_ 0 (.fsl [] true, []) (Nat.zero_le _) (.inl ⟨rfl, rfl⟩)
  ·exact key
  ·rintro i a hi ha
   have hi' : (i : Int) < (c.lps.length : Int) := by omega
   have hw : IntKind.i64.wrap ((i : Int) + 1) = ((i + 1 : Nat) : Int) := by rw [qaw (by omega) (by omega)]; simp
   rcases ha with ⟨h0, rfl⟩ | ⟨h0, g, rfl⟩
   ·refine .inl ⟨(.sl 2 0 0 (i + 1) false, [.row 1 (List.replicate (i + 1) (qaz [])) 0]), ?_, .inr ⟨by omega, 0, rfl⟩⟩
    have e1 : i + 1 = 1 := by omega
    have e2 : List.replicate (i + 1) (qaz []) = [[.fsl [] false]] := by rw [e1]; rfl
    rw [e2]
    have e3 : (AV.sl 2 0 0 (i + 1) false) = .sl 2 0 0 1 false := by rw [e1]
    simp only [e3]
    simp only [qhk, hi', hw, Ev.exec, qb, qe, qc, qai, qn9, Ev.Opnd.ev, Ev.Env.get, Ev.Env.set, Ev.look, qk, qb0, qae, qf6, Ev.AV.cells, Ev.AV.uc, qy, Ev.AV.plain, qaf, ql, qr, Ev.keep, qbl, qa9, List.replicate_one, zgi, ↓qs, Ev.it1, ↓reduceIte, zga, zgb, zgd, zge, zgo, zgf, zgg, zgm, zgl, zgj, zgk, zgh, Nat.reduceAdd, Nat.reduceEqDiff, Nat.reduceMul, Nat.reduceLeDiff, Nat.reducePow, zgv, zfc, zfa, zgx, ne_eq, zfb, not_true_eq_false, zff, zfd, Nat.add_zero, zgu, zgy]
   ·refine .inl ⟨(.sl 2 (g + 1) 0 (i + 1) false, [.row 1 (List.replicate (i + 1) (qaz [])) (g + 1)]), ?_, .inr ⟨by omega, g + 1, rfl⟩⟩
    have e1 : List.replicate (i + 1) (qaz []) = List.replicate i (qaz []) ++ [[.fsl [] false]] := by rw [List.replicate_succ']; rfl
    have b : (i + 1) * 24 ≤ 140737488355328 := by omega
    have hl : (List.replicate i (qaz [])).length = i := List.length_replicate
    have tk : List.take i (List.replicate i (qaz [])) = List.replicate i (qaz []) := List.take_of_length_le (by simp)
    rw [e1]
    generalize List.replicate i (qaz []) = RR at *
    have hle : i ≤ i := Nat.le_refl _
    simp only [qhk, hi', hw, b, hl, tk, hle, Ev.exec, qb, qe, qc, qai, qn9, Ev.Opnd.ev, Ev.Env.get, Ev.Env.set, Ev.look, qk, qb0, qae, qf6, Ev.AV.cells, Ev.AV.uc, qy, Ev.AV.plain, qaf, ql, qr, Ev.keep, qbl, qa9, List.replicate_one, zgi, ↓qs, Ev.it1, ↓reduceIte, zga, zgb, zgd, zge, zgo, zgf, zgg, zgm, zgl, zgj, zgk, zgh, Nat.reduceAdd, Nat.reduceEqDiff, Nat.reduceMul, Nat.reduceLeDiff, Nat.reducePow, zgv, zfc, zfa, zgx, ne_eq, zfb, zff, zfd, Nat.add_zero, zgu, zgy]
  ·rintro a ha
   rcases ha with ⟨h0, rfl⟩ | ⟨h0, g, rfl⟩
   ·omega
   ·simp only [qhk, Int.lt_irrefl, Ev.exec, qb, qe, qc, qai, Ev.Opnd.ev, Ev.Env.get, Ev.Env.set, Ev.look, qk, qae, ql, zgi, ↓qs, Ev.it1, ↓reduceIte, zgg, zgh, Nat.reduceEqDiff, zgw, zfa, zgy]
    exact ⟨_, rfl, g, rfl, rfl, rfl, rfl, rfl⟩
 obtain ⟨⟨y, e, σ⟩, k1, g, k2, k3, k4, k5, k6⟩ := hL
 simp only [Int.ofNat_zero] at k1 k2 k3 k4 k5 k6
 subst k2; subst k4
 have e1 : (start c).trace.map qaz = List.replicate c.lps.length (qaz []) := by simp [K.start]
 have e2 : (start c).pend = sortL (qkx c.lps) := rfl
 have e3 : (start c).n = 0 := rfl
 have e4 : (start c).over = false := rfl
 rw [e1, e2, e3, e4]
 have tk : List.take c.lps.length (List.replicate c.lps.length (qaz [])) = List.replicate c.lps.length (qaz []) := List.take_of_length_le (by simp)
 have hlo : qg9 0 (List.replicate c.lps.length (qaz [])) = true := q1j _ _ _ (q7h _ _)
 have hl : (List.replicate c.lps.length (qaz [])).length = c.lps.length := List.length_replicate
 generalize List.replicate c.lps.length (qaz []) = RR at *
 have hle : c.lps.length ≤ c.lps.length := Nat.le_refl _
 rw [qa4, qx qy1 qxi]
 simp only [qm4, hs, hi, k1, k3, k5, k6, tk, hlo, hl, hle, qc4, qbe, qv, qqr, qn, Ev.exec, qb, qe, qc, qa5, qai, Ev.evs, Ev.Opnd.ev, Ev.Env.get, Ev.Env.set, Ev.look, qo, qk, qae, qg6, Ev.AV.cells, Ev.AV.uc, qy, Ev.AV.plain, qm, qab, qaj, Ev.kill, qah, qr, Ev.keep, qd, qa1, qbd, qu, qbn, qj, qh, qal, q3e, qgx, qe8, qgi, qem, ↓qs, ↓qaq, ↓reduceIte, zga, zgb, zgd, zge, zgc, zgo, zfe, zgf, zgg, List.drop_nil, zgm, zgl, zgn, zgj, zgk, Nat.reduceAdd, Nat.reduceEqDiff, Nat.reduceLT, Nat.reduceLeDiff, Int.cast_ofNat_Int, zgw, zfc, Bool.and_true, zfa, zgx, and_true, ne_eq, zfb, zff, zfd, Nat.le_refl, zgy]
section
variable {c : Cfg} {s : Sim} {h : List Evt}
theorem q9f (H : SInv c s h) {e : Evt} {rest : List Evt} (hp : s.pend = e :: rest) (hh : h.length ≤ 60) (L : List (Lp × Bool)) (hL : L.map Prod.fst = s.lps) (hfl : ∀ x ∈ L, x.2 = true → x.1.procs = []) :
  ∃ L' : List (Lp × Bool), L'.map Prod.fst = (s.step c e rest).lps ∧ (∀ x ∈ L', x.2 = true → x.1.procs = []) ∧
   qa4 (evL T) qh9 [(.agg [(.fsl ((c.lps).map lpC) false), (.fsl ((c.progs).map qc1) false), (ii c.look), (ii c.fin), (ii c.cap)]), (.agg [(.fsl ((s.trace).map qaz) false), (.fsl ((L).map lpF) false), (.fsl ((s.pend).map Evt.r) false), (ii s.n), (bb s.over)])] = some (.agg [(.fsl (((s.step c e rest).trace).map qaz) false), (.fsl ((L').map lpF) false), (.fsl (((s.step c e rest).pend).map Evt.r) false), (ii ((s.step c e rest).n)), (bb ((s.step c e rest).over))]) := by
 obtain ⟨x, hx, hlx, R⟩ := H.head hp (by omega)
 have ge := H.ev e (by rw [hp]; simp)
 obtain ⟨i, hi⟩ : ∃ i : Nat, e.lp = i := ⟨_, (Int.toNat_of_nonneg ge.lp.1).symm⟩
 have hin : i < c.lps.length := by have := ge.lp; omega
 rw [hi, Int.toNat_natCast] at hx
 obtain ⟨z, hz⟩ : ∃ z, L[i]? = some z := ⟨_, List.getElem?_eq_getElem (by have := congrArg List.length hL; rw [List.length_map, H.lpl] at this; omega)⟩
 have hz1 : z.1 = x := by
  have : s.lps[i]? = some z.1 := by rw [← hL, List.getElem?_map, hz]; rfl
  rw [hx] at this; exact (Option.some.inj this).symm
 obtain ⟨z1, f⟩ := z
 simp only at hz1
 subst hz1
 have hf := hfl _ (List.mem_of_getElem? hz)
 simp only at hf
 have hsz := R.sizes
 have hkn := H.keyNe hp (by omega)
 rw [hlx] at hkn
 obtain ⟨q1, _, q3, q4, q5, q6⟩ := hsz
 have hlen := H.len
 rw [hp] at hlen
 have ht : s.trace[i]? = some (qt8 s i) := by unfold qt8; rw [Int.toNat_natCast, List.getElem?_eq_getElem (by rw [H.trl]; exact hin)]; rfl
 have htl : (qt8 s i).length ≤ 1000 := by
  have h1 := H.tr i hin
  have : qt8 s i = qcy h i := by unfold qt8; rw [Int.toNat_natCast, h1]; rfl
  rw [this]
  have := List.length_filter_le (fun e : Evt => decide (e.lp = i)) h
  unfold qcy; omega
 have hE := qaas R f hf
 have hkr : ql8 (rest ++ (qbp c z1 e).out) := (List.pairwise_append.1 hkn).2.1
 have hko : qcr (rest ++ (qbp c z1 e).out) := by
  intro y hy
  rcases List.mem_append.1 hy with hy | hy
  ·have := (H.ev y (by rw [hp]; simp [hy])).key; omega
  ·have := q4 y hy; omega
 have hsub : ((rest ++ (qbp c z1 e).out).filter (qku (qbp c z1 e).gone)).Sublist (rest ++ (qbp c z1 e).out) := List.filter_sublist
 have hDl : (rest ++ (qbp c z1 e).out).length ≤ 1000000 := by simp only [zgp, zga] at hlen ⊢; omega
 have hW := q83 (rest ++ (qbp c z1 e).out) (qbp c z1 e).gone false (qbp c z1 e).nil hDl hko (by omega) (fun k hk => by have := q5 k hk; omega)
 obtain ⟨cf, _, hS⟩ := qm3 ((rest ++ (qbp c z1 e).out).filter (qku (qbp c z1 e).gone)) false (by have := hsub.length_le; omega) (fun x hx => hko x (hsub.subset hx)) (List.Pairwise.sublist hsub hkr.dist)
 have hstep : s.step c e rest = ⟨s.trace.set i (qt8 s i ++ [e]), s.lps.set i (qbp c z1 e).lp, sortL ((rest ++ (qbp c z1 e).out).filter (qku (qbp c z1 e).gone)), s.n + 1, s.over || (qbp c z1 e).over⟩ := by
  unfold Sim.step; rw [hlx, hi, Int.toNat_natCast]
 refine ⟨L.set i ((qbp c z1 e).lp, f), by rw [hstep, List.map_set, hL], fun y hy hyf => ?_, ?_⟩
 ·rcases List.mem_or_eq_of_mem_set hy with hy | rfl
  ·exact hfl y hy hyf
  ·exact q4o (hf hyf)
 rw [hstep, hp]
 have hw : IntKind.i64.wrap ((s.n : Int) + 1) = ((s.n + 1 : Nat) : Int) := by
  have := H.n; rw [qaw (by omega) (by omega)]; simp
 have htr := H.trl
 have hLl : L.length = c.lps.length := by have := congrArg List.length hL; rw [List.length_map, H.lpl] at this; exact this
 have hn8 := H.valid.lps.2
 have hnz : 1 ≤ c.lps.length := H.valid.lps.1
 simp only
 generalize hr : qbp c z1 e = r at *
 rw [List.map_set, List.map_set]
 have g1 : (s.trace.map qaz)[i]? = some (qaz (qt8 s i)) := by rw [List.getElem?_map, ht]; rfl
 have g2 : (L.map lpF)[i]? = some (lpF (z1, f)) := by rw [List.getElem?_map, hz]; rfl
 have ok1 := q9s s.trace
 have ok2 := lpFs_ok L
 have ok3 := qfy (qt8 s i)
 have ok4 := qfy rest
 have ok5 := qfy (e :: rest)
 have ok6 := qfy r.out
 have lo1 := qdn 0 (s.trace.set i (qt8 s i ++ [e]))
 have lo2 := qqr 0 (L.set i (r.lp, f))
 rw [List.map_set] at lo1 lo2
 have b1 : c.lps.length * 24 ≤ 140737488355328 := by omega
 have b2 : c.lps.length * 48 ≤ 140737488355328 := by omega
 have b3 : (qt8 s i).length * 64 ≤ 140737488355328 := by omega
 have b4 : ((qt8 s i).length + 1) * 64 ≤ 140737488355328 := by omega
 have b5 : rest.length * 64 ≤ 140737488355328 := by simp only [zga] at hlen; omega
 have b6 : (rest.length + r.out.length) * 64 ≤ 140737488355328 := by simp only [zga] at hlen; omega
 have n1 : (s.trace.map qaz) ≠ [] := by intro k; have := congrArg List.length k; simp at this; rw [this] at htr; simp at htr; omega
 have l1 : (s.trace.map qaz).length = c.lps.length := by rw [List.length_map, htr]
 have l2 : (L.map lpF).length = c.lps.length := by rw [List.length_map, hLl]
 have tk1 : ∀ v, List.take c.lps.length ((s.trace.map qaz).set i v) = (s.trace.map qaz).set i v := fun v => List.take_of_length_le (by rw [List.length_set, l1]; exact Nat.le_refl _)
 have tk2 : ∀ v, List.take c.lps.length ((L.map lpF).set i v) = (L.map lpF).set i v := fun v => List.take_of_length_le (by rw [List.length_set, l2]; exact Nat.le_refl _)
 have tk3 : List.take (qt8 s i).length ((qt8 s i).map Evt.r) = (qt8 s i).map Evt.r := List.take_of_length_le (by simp)
 have tk4 : List.take rest.length (rest.map Evt.r) = rest.map Evt.r := List.take_of_length_le (by simp)
 have tk5 : ∀ v, List.take ((qt8 s i).length + 1) ((qt8 s i).map Evt.r ++ [v]) = (qt8 s i).map Evt.r ++ [v] := fun v => List.take_of_length_le (by simp)
 have tk6 : List.take (rest.length + r.out.length) (rest.map Evt.r ++ r.out.map Evt.r) = rest.map Evt.r ++ r.out.map Evt.r := List.take_of_length_le (by simp)
 have hle : c.lps.length ≤ c.lps.length := Nat.le_refl _
 have c1 : (1 : Int) ≤ ((rest.length + 1 : Nat) : Int) := by omega
 have c2 : (((rest.length + 1 : Nat) : Int)).toNat - 1 = rest.length := by omega
 have hm : (qt8 s i ++ [e]).map Evt.r = (qt8 s i).map Evt.r ++ [e.r] := by rw [List.map_append]; rfl
 have lo3 : qg9 0 ((qt8 s i).map Evt.r ++ [e.r]) = true := by rw [← hm]; exact qv _ _
 have hmo : (rest ++ r.out).map Evt.r = rest.map Evt.r ++ r.out.map Evt.r := List.map_append
 have ev1 : qaz (qt8 s i ++ [e]) = [.fsl ((qt8 s i).map Evt.r ++ [e.r]) false] := by unfold qaz; rw [hm]
 have ev2 : qaz (qt8 s i) = [(.fsl (((qt8 s i)).map Evt.r) false)] := rfl
 rw [hmo] at hW
 generalize (rest ++ r.out).filter (qku r.gone) = F at hW hS ⊢
 rw [ev1] at lo1 ⊢
 rw [ev2] at g1
 obtain ⟨et, ek, el, ei, ep, ea⟩ := e
 simp only at hi
 subst hi
 simp only [List.map_cons] at ok5 ⊢
 simp only [Evt.r] at lo1 lo3 tk5 ok5 ⊢
 simp only [lpF] at g2 lo2
 rw [qa4, qx qw8 qwl]
 have hrep : List.replicate 1 ([(ii 0), .fsl [] false, (ii 0), (ii 0), (ii 0), (ii 0)] : List AV) = [[(ii 0), .fsl [] false, (ii 0), (ii 0), (ii 0), (ii 0)]] := rfl
 by_cases ho : r.out = []
 ·have ho1 : r.out.map Evt.r = [] := by rw [ho]; rfl
  have ho2 : r.out.length = 0 := by rw [ho]; rfl
  rw [ho1] at hW hE tk6
  simp only [zgn, ho2, Nat.add_zero] at hW b6 tk6
  cases hov : s.over <;> simp only [qk6, hrep, g1, g2, ok1, ok2, ok3, ok4, ok5, b1, b2, b3, b4, b5, n1, l1, l2, tk1, tk2, tk3, tk4, tk5, hle, c1, lo1, lo2, hE, hW, hS, hw, hin, lpF, zgs, zgr, Int.toNat_zero, Int.toNat_one, Int.le_refl, imp_self, Nat.zero_mul, Nat.zero_le, Nat.add_sub_cancel, qv, qc4, qbe, qau, qag, qbs, qn, Ev.exec, qb, qe, qc, qa5, qai, qn9, Ev.evs, Ev.Opnd.ev, Ev.Env.get, Ev.Env.set, Ev.Env.unset, Ev.look, qo, qge, qk, qb0, qae, qf6, Ev.AV.cells, Ev.AV.uc, qy, Ev.AV.plain, qaf, qm, qab, qaj, Ev.kill, qah, qd, qa1, qbd, qu, qj, qh, qbl, qa9, qal, List.length_set, List.replicate_zero, zgi, ↓qs, ↓reduceIte, zga, zgb, zgp, zgd, zge, zgc, zgo, zfe, zgf, zgg, List.drop_nil, zgm, zgl, zgn, zgj, zgk, zgh, Nat.reduceAdd, Nat.reduceEqDiff, Nat.reduceMul, Nat.reduceLT, Nat.reduceLeDiff, Nat.reducePow, Int.reduceLE, reduceCtorEq, zgv, zfc, Bool.and_true, Bool.true_or, Bool.false_or, zfa, Bool.true_eq_false, zgx, ne_eq, zfb, not_true_eq_false, zff, zfd, Nat.add_zero, zgu, Nat.le_refl, Option.isSome_none, zgy, and_false]
  all_goals done
 ·have ho1 : ¬ r.out.map Evt.r = [] := by simpa using ho
  cases hov : s.over <;> simp only [qk6, hrep, g1, g2, ok1, ok2, ok3, ok4, ok5, ok6, b1, b2, b3, b4, b5, b6, n1, l1, l2, tk1, tk2, tk3, tk4, tk5, tk6, hle, c1, lo1, lo2, hE, hW, hS, hw, hin, ho1, lpF, zgs, zgr, Int.toNat_zero, Int.toNat_one, Int.le_refl, imp_self, Nat.zero_mul, Nat.zero_le, Nat.add_sub_cancel, qj8, qv, qc4, qbe, qau, qag, qbs, qn, Ev.exec, qb, qe, qc, qa5, qai, qn9, Ev.evs, Ev.Opnd.ev, Ev.Env.get, Ev.Env.set, Ev.Env.unset, Ev.look, qo, qge, qk, qb0, qae, qf6, Ev.AV.cells, Ev.AV.uc, qy, Ev.AV.plain, qaf, qm, qab, qaj, Ev.kill, qah, qd, qa1, qbd, qu, qj, qh, qbl, qa9, qal, List.length_set, List.replicate_zero, zgi, ↓qs, ↓reduceIte, zga, zgb, zgp, zgd, zge, zgc, zgo, zfe, zgf, zgg, List.drop_nil, zgm, zgl, zgn, zgj, zgk, zgh, Nat.reduceAdd, Nat.reduceEqDiff, Nat.reduceMul, Nat.reduceLT, Nat.reduceLeDiff, Nat.reducePow, Int.reduceLE, reduceCtorEq, zgv, zfc, Bool.and_true, Bool.true_or, Bool.false_or, zfa, Bool.true_eq_false, zgx, ne_eq, zfb, not_true_eq_false, zff, zfd, Nat.add_zero, zgu, Nat.le_refl, Option.isSome_none, zgy, and_false]
  all_goals done
end
end Go.Proofs.YtbhhifdhlafklaaGreat.K
