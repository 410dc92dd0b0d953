/- For every input the statement of this claim returns true: texts of its proof, joined (part 7). -/
import Derived.Test.YtbhhifdhlafklaaProg
import Derived.KernelRfl
import Derived.Test.YtbhhifdhlafklaaEWP3
import Derived.Test.YtbhhifdhlafklaaSKWP
set_option linter.unusedSectionVars false
set_option linter.unusedSimpArgs false
set_option linter.unusedVariables false
namespace Go.Proofs.Ytbhhifdhlafklaa.K
open Go.Ev
set_option maxRecDepth 100000
theorem qp9 : qg9 Try.prog { frz := [2], frzv := [125, 126], own := [11, 12], loops := [([2, 5, 6, 7, 8, 10, 11, 12, 13, 14], true)] } qei = some qc4 := by kernel_rfl
theorem q2f : qg9 Try.prog {  } qj4 = some qq8 := by kernel_rfl
theorem q4v : qg9 Try.prog { frz := [1] } ql3 = some qr3 := by kernel_rfl
theorem q03 : qg9 Try.prog { frz := [2] } qi5 = some qmu := by kernel_rfl
theorem qzq : qg9 Try.prog { frzv := [27], own := [4], loops := [([4, 7, 8, 9], true)] } qfd = some qkt := by kernel_rfl
theorem quw : qg9 Try.prog { frz := [2] } qeo = some qk0 := by kernel_rfl
theorem quv : qg9 Try.prog { frz := [4, 5], mI := [21, 26, 28], ownB := [(17, (5, 6)), (17, (6, 6))], loops := [([4, 13], true)] } qes = some qky := by kernel_rfl
theorem qt4 : qg9 Try.prog { frz := [2, 3] } qfp = some qdx := by kernel_rfl
theorem qvf : qg9 Try.prog { mA := [12], mF := [53], topZ := [15], ownS := [(15, 6)], appB := [(33, 8)], ldB := [(25, 8)], loops := [([5, 6, 17, 18, 19], true), ([5, 36, 37, 38], true)] } qep = some qkz := by kernel_rfl
theorem q2r : qg9 Try.prog {  } qle = some qq7 := by kernel_rfl
theorem qzm : qg9 Try.prog { mF := [9] } qjl = some qo3 := by kernel_rfl
theorem qwo : qg9 Try.prog { frz := [1], frzv := [41], own := [3], loops := [([1, 3, 4], true), ([1, 3, 4, 5], true)] } qf0 = some qls := by kernel_rfl
theorem qzs : qg9 Try.prog { frz := [1], own := [3], topZ := [5], loops := [([1, 3, 4], false), ([1, 3, 4, 5, 6], false)] } qgs = some ql4 := by kernel_rfl
theorem q0s : qg9 Try.prog { frz := [1], loops := [([1, 3, 4, 5], true), ([1, 3, 4, 6], true), ([1, 3, 4, 6, 7], true)] } qio = some qgp := by kernel_rfl
theorem qu2 : qg9 Try.prog { frz := [2], loops := [([1, 2, 4, 5], true)] } qgd = some qkw := by kernel_rfl
theorem q0u : qg9 Try.prog { own := [5], loops := [([0, 1, 5, 6], true), ([0, 1, 5, 6, 7, 8], true)] } qit = some qm0 := by kernel_rfl
theorem qqm : qg9 Try.prog { bad := true, loops := [([0, 3, 4], true)] } qd4 = some qhm := by kernel_rfl
theorem qpg : qg9 Try.prog { frz := [2, 3] } qds = some qgq := by kernel_rfl
theorem qo5 : qg9 Try.prog { frz := [4, 5], loops := [([0, 5, 8, 50, 51, 52], true), ([0, 81, 82, 83], true)] } qdg = some qe0 := by kernel_rfl
theorem qps : qg9 Try.prog { ldx := [(14, 2), (18, 2), (22, 2), (26, 2)] } qdt = some qgm := by kernel_rfl
theorem qqs : qg9 Try.prog { frz := [2, 3] } qdo = some qfz := by kernel_rfl
theorem qww : qg9 Try.prog {  } qfg = some qj6 := by kernel_rfl
theorem qi1 : qg9 Try.prog { mA := [24], bad := true, loops := [([0, 3, 9, 10, 11], true), ([6, 25, 26, 27], false)] } qav = some qc1 := by kernel_rfl
theorem qw1 : qg9 Try.prog { mA := [8], mI := [9] } qg2 = some qll := by kernel_rfl
theorem qst : qg9 Try.prog { frzv := [49], own := [6], loops := [([0, 3, 4], true), ([0, 3, 4, 5], true)] } qd2 = some qjo := by kernel_rfl
theorem q0q : qg9 Try.prog { frz := [1], loops := [([1, 3], true), ([1, 4], true)] } qiw = some qhj := by kernel_rfl
theorem q0p : qg9 Try.prog { frz := [1], loops := [([1, 3], true), ([1, 5], true), ([1, 5, 6], true)] } qiv = some qhp := by kernel_rfl
theorem q06 : qg9 Try.prog { frz := [1], topZ := [9], loops := [([1, 2, 3, 4], false)] } qi4 = some qm6 := by kernel_rfl
theorem qzj : qg9 Try.prog { frz := [2], appN := [21, 28, 57, 69], frzv := [36, 38, 63, 73] } qhx = some qko := by kernel_rfl
theorem qyw : qg9 Try.prog { frz := [3], own := [6], loops := [([0, 3, 5], true)] } qgv = some qhu := by kernel_rfl
theorem qnv : qg9 Try.prog { loops := [([0, 1, 2], true)] } qcz = some qej := by kernel_rfl
theorem qxr : qg9 Try.prog { mA := [20] } qhs = some qjj := by kernel_rfl
theorem qx7 : qg9 Try.prog { frz := [3, 5], mA := [52], mI := [59, 82, 88], ldF := [80], ldx := [(96, 6), (100, 6), (104, 6)], ownB := [(56, (10, 6)), (56, (12, 1))] } qek = some qb3 := by kernel_rfl
theorem qu4 : qg9 Try.prog { frz := [3], mA := [14], mI := [18] } qfn = some qk1 := by kernel_rfl
theorem qvs : qg9 Try.prog { frz := [3], mA := [21], mI := [9] } qgh = some qi9 := by kernel_rfl
theorem qwk : qg9 Try.prog {  } qfj = some qia := by kernel_rfl
theorem qr5 : qg9 Try.prog { loops := [([0, 1, 5], true)] } qd5 = some qg3 := by kernel_rfl
theorem qjm : qg9 Try.prog { bad := true } qba = some qce := by kernel_rfl
theorem qmd : qg9 Try.prog { mI := [4] } qcr = some qeq := by kernel_rfl
theorem qvn : qg9 Try.prog {  } qge = some qkx := by kernel_rfl
theorem qs1 : qg9 Try.prog { mA := [5], mI := [7] } qeg = some qjt := by kernel_rfl
theorem q09 : qg9 Try.prog { frz := [1], loops := [([1, 3], true)] } qim = some qer := by kernel_rfl
theorem q0n : qg9 Try.prog { loops := [([0, 1, 2, 3, 9], true), ([0, 2, 3, 10], true), ([0, 3, 11], true)] } qiz = some qhr := by kernel_rfl
theorem q2n : qg9 Try.prog { frz := [3, 4, 5], ldx := [(96, 6), (98, 6), (100, 6)] } qf1 = some qci := by kernel_rfl
theorem qw3 : qg9 Try.prog { own := [5], loops := [([0, 1, 5, 6], true), ([0, 1, 5, 6, 7, 8], true)] } qg7 = some qln := by kernel_rfl
theorem qo1 : qg9 Try.prog {  } qaz = some qe1 := by kernel_rfl
theorem qpq : qg9 Try.prog { loops := [([0, 1, 12, 13], true)] } qc9 = some qeb := by kernel_rfl
theorem qmm : qg9 Try.prog { mA := [6], mI := [10, 19, 44, 49], loops := [([0, 1, 4, 7], true)] } qcv = some qd1 := by kernel_rfl
theorem qe7 : qg9 Try.prog { frz := [4], loops := [([0, 2, 4, 8, 9, 10], true)] } qao = some qax := by kernel_rfl
theorem qqn : qg9 Try.prog { frz := [2, 3] } qq = some qe2 := by kernel_rfl
theorem qh1 : qg9 Try.prog { loops := [([0, 1, 7, 8], true)] } qa6 = some qbw := by kernel_rfl
theorem qsx : qg9 Try.prog { frz := [2] } qdl = some qjv := by kernel_rfl
theorem qh0 : qg9 Try.prog { own := [2], loops := [([2], true)] } qa8 = some qck := by kernel_rfl
theorem qsw : qg9 Try.prog { loops := [([0, 1, 2], true)] } qdk = some qjs := by kernel_rfl
theorem qg5 : qg9 Try.prog { mI := [8] } qaw = some qb7 := by kernel_rfl
theorem q0k : qg9 Try.prog { loops := [([0, 3], true)] } qik = some qi3 := by kernel_rfl
theorem qvw : qg9 Try.prog { frz := [3] } qgg = some qd9 := by kernel_rfl
theorem q4d : qg9 Try.prog { frz := [5], appN := [12], frzv := [17] } qex = some qp3 := by kernel_rfl
theorem qu0 : qg9 Try.prog { frz := [3], loops := [([2, 3, 4, 6, 7], true)] } qgf = some qhb := by kernel_rfl
theorem qpy : qg9 Try.prog {  } qd0 = some qg8 := by kernel_rfl
theorem q0m : qg9 Try.prog {  } qis = some qm5 := by kernel_rfl
theorem qt1 : qg9 Try.prog {  } qe5 = some qg1 := by kernel_rfl
theorem qr4 : qg9 Try.prog {  } qew = some qil := by kernel_rfl
theorem qkl : qg9 Try.prog { mI := [18, 27, 43, 60], loops := [([0, 1, 2, 6, 7, 8], true), ([0, 1, 2, 6], true), ([0, 1, 2, 6, 7, 8], true)] } qbr = some qdq := by kernel_rfl
theorem q0h : qg9 Try.prog {  } qfx = some qm1 := by kernel_rfl
theorem q02 : qg9 Try.prog {  } qgr = some qmr := by kernel_rfl
theorem q3a : qg9 Try.prog { frz := [5], appN := [134], frzv := [141] } qdm = some qdy := by kernel_rfl
theorem qoq : qg9 Try.prog { frz := [3], mI := [14, 15], ldF := [7] } qcm = some qf5 := by kernel_rfl
theorem qow : qg9 Try.prog { frz := [3], mI := [13] } qcl = some qgc := by kernel_rfl
theorem qn5 : qg9 Try.prog { frz := [3], mI := [7, 21, 22], mR := [9], ldF := [12] } qcg = some qfy := by kernel_rfl
theorem qos : qg9 Try.prog { frz := [3], mI := [7] } qb9 = some qe3 := by kernel_rfl
theorem qn6 : qg9 Try.prog { frz := [3], mI := [33, 34], ldF := [30] } qch = some qel := by kernel_rfl
theorem qpe : qg9 Try.prog { frz := [3] } qcu = some qfh := by kernel_rfl
theorem qo2 : qg9 Try.prog { frz := [3], mI := [17], ldF := [19] } qco = some qdi := by kernel_rfl
theorem qpm : qg9 Try.prog { frz := [3] } qcw = some qgn := by kernel_rfl
theorem q2o : qg9 Try.prog { loops := [([3, 6, 7, 8], true)] } qjx = some ql8 := by kernel_rfl
theorem qw7 : qg9 Try.prog {  } qf4 = some qlp := by kernel_rfl
theorem qn0 : qg9 Try.prog { loops := [([0, 1, 9, 10, 11], true)] } qdb = some qdc := by kernel_rfl
theorem qi2 : qg9 Try.prog { loops := [([0, 1, 2, 3, 8], true), ([0, 1, 2, 3, 8, 9], true)] } qa1 = some qc0 := by kernel_rfl
theorem qkc : qg9 Try.prog { mI := [191, 205, 219], loops := [([0, 1, 4, 10, 11], true), ([0, 10, 13], true), ([0, 2, 4, 14, 15], true), ([0, 14, 17], true), ([0, 1, 2, 3, 4, 18, 19, 20, 21, 22], true)] } qau = some qg := by kernel_rfl
theorem qyj : qg9 Try.prog { appN := [36], frzv := [41], ldx := [(32, 6), (45, 6)] } qfc = some qku := by kernel_rfl
theorem quh : qg9 Try.prog { appN := [8] } qe8 = some qkb := by kernel_rfl
theorem qnc : qg9 Try.prog {  } qbs = some qed := by kernel_rfl
theorem qpv : qg9 Try.prog {  } qcx = some qgk := by kernel_rfl
theorem qkp : qg9 Try.prog { mI := [31, 46, 57], loops := [([0, 2, 4, 10, 11], true)] } qbd = some qdr := by kernel_rfl
theorem q0l : qg9 Try.prog { appN := [8] } qij = some qmt := by kernel_rfl
theorem q0w : qg9 Try.prog { mA := [6] } qin = some qmz := by kernel_rfl
theorem qj1 : qg9 Try.prog { loops := [([0, 1, 2, 3, 10], true)] } qa3 = some qdd := by kernel_rfl
theorem qib : qso Try.prog qb5 = some (1, 24) := by kernel_rfl
theorem qiu : qso Try.prog qbf = some (6, 64) := by kernel_rfl
theorem qk6 : qso Try.prog qda = some (4, 48) := by kernel_rfl
theorem qol : qso Try.prog qff = some (1, 8) := by kernel_rfl
theorem qig : InsB Try.prog qbo 6 64 75 39 4 := ⟨by kernel_rfl, by kernel_rfl, by kernel_rfl, by kernel_rfl, by kernel_rfl, by kernel_rfl, by kernel_rfl, by kernel_rfl, by kernel_rfl, by kernel_rfl, by kernel_rfl, by kernel_rfl, by kernel_rfl, by kernel_rfl, by kernel_rfl, by kernel_rfl, by kernel_rfl, by kernel_rfl, by kernel_rfl, by kernel_rfl, by kernel_rfl, by kernel_rfl, by kernel_rfl, by kernel_rfl⟩
def codeL : List (Nat × CFunc) := [(qei, qc4), (qj4, qq8), (ql3, qr3), (qi5, qmu), (qfd, qkt), (qeo, qk0), (qes, qky), (qfp, qdx), (qep, qkz), (qle, qq7), (qjl, qo3), (qf0, qls), (qgs, ql4), (qio, qgp), (qgd, qkw), (qit, qm0), (qd4, qhm), (qds, qgq), (qdg, qe0), (qdt, qgm), (qdo, qfz), (qfg, qj6), (qav, qc1), (qg2, qll), (qd2, qjo), (qiw, qhj), (qiv, qhp), (qi4, qm6), (qhx, qko), (qgv, qhu), (qcz, qej), (qhs, qjj), (qek, qb3), (qfn, qk1), (qgh, qi9), (qfj, qia), (qd5, qg3), (qba, qce), (qcr, qeq), (qge, qkx), (qeg, qjt), (qim, qer), (qiz, qhr), (qf1, qci), (qg7, qln), (qaz, qe1), (qc9, qeb), (qcv, qd1), (qao, qax), (qq, qe2), (qa6, qbw), (qdl, qjv), (qa8, qck), (qdk, qjs), (qaw, qb7), (qik, qi3), (qgg, qd9), (qex, qp3), (qgf, qhb), (qd0, qg8), (qis, qm5), (qe5, qg1), (qew, qil), (qbr, qdq), (qfx, qm1), (qgr, qmr), (qdm, qdy), (qcm, qf5), (qcl, qgc), (qcg, qfy), (qb9, qe3), (qch, qel), (qcu, qfh), (qco, qdi), (qcw, qgn), (qjx, ql8), (qf4, qlp), (qdb, qdc), (qa1, qc0), (qau, qg), (qfc, qku), (qe8, qkb), (qbs, qed), (qcx, qgk), (qbd, qdr), (qij, qmt), (qin, qmz), (qa3, qdd)]
def extL : List (Nat × (Nat × Nat)) := [(qb5, (1, 24)), (qbf, (6, 64)), (qda, (4, 48)), (qff, (1, 8))]
def insL : List (Nat × (Nat × Nat)) := [(qbo, (6, 64))]
def q49 {α : Type} : List (Nat × α) → Nat → Option α
 | [], _ => none
 | (k, x) :: l, i => if k = i then some x else q49 l i
theorem quj {α : Type} : ∀ {l : List (Nat × α)} {i : Nat} {x : α}, q49 l i = some x → (i, x) ∈ l
 | [], _, _, h => by simp [q49] at h
 | (k, y) :: l, i, x, h => by
  simp only [q49] at h
  split at h
  ·rename_i hk; subst hk; cases h; simp
  ·exact List.mem_cons_of_mem _ (quj h)
def T : Tab := { code := q49 codeL, ext := fun k => (q49 extL k).map fun p => qrd p.1 p.2, ins := q49 insL }
theorem codeL_ok : ∀ x ∈ codeL, ∃ h, qg9 Try.prog h x.1 = some x.2 := by
 intro x hx
 simp only [codeL, List.mem_cons, List.not_mem_nil, or_false] at hx
 rcases hx with rfl | rfl | rfl | rfl | rfl | rfl | rfl | rfl | rfl | rfl | rfl | rfl | rfl | rfl | rfl | rfl | rfl | rfl | rfl | rfl | rfl | rfl | rfl | rfl | rfl | rfl | rfl | rfl | rfl | rfl | rfl | rfl | rfl | rfl | rfl | rfl | rfl | rfl | rfl | rfl | rfl | rfl | rfl | rfl | rfl | rfl | rfl | rfl | rfl | rfl | rfl | rfl | rfl | rfl | rfl | rfl | rfl | rfl | rfl | rfl | rfl | rfl | rfl | rfl | rfl | rfl | rfl | rfl | rfl | rfl | rfl | rfl | rfl | rfl | rfl | rfl | rfl | rfl | rfl | rfl | rfl | rfl | rfl | rfl | rfl | rfl | rfl | rfl
 ·exact ⟨_, qp9⟩
 ·exact ⟨_, q2f⟩
 ·exact ⟨_, q4v⟩
 ·exact ⟨_, q03⟩
 ·exact ⟨_, qzq⟩
 ·exact ⟨_, quw⟩
 ·exact ⟨_, quv⟩
 ·exact ⟨_, qt4⟩
 ·exact ⟨_, qvf⟩
 ·exact ⟨_, q2r⟩
 ·exact ⟨_, qzm⟩
 ·exact ⟨_, qwo⟩
 ·exact ⟨_, qzs⟩
 ·exact ⟨_, q0s⟩
 ·exact ⟨_, qu2⟩
 ·exact ⟨_, q0u⟩
 ·exact ⟨_, qqm⟩
 ·exact ⟨_, qpg⟩
 ·exact ⟨_, qo5⟩
 ·exact ⟨_, qps⟩
 ·exact ⟨_, qqs⟩
 ·exact ⟨_, qww⟩
 ·exact ⟨_, qi1⟩
 ·exact ⟨_, qw1⟩
 ·exact ⟨_, qst⟩
 ·exact ⟨_, q0q⟩
 ·exact ⟨_, q0p⟩
 ·exact ⟨_, q06⟩
 ·exact ⟨_, qzj⟩
 ·exact ⟨_, qyw⟩
 ·exact ⟨_, qnv⟩
 ·exact ⟨_, qxr⟩
 ·exact ⟨_, qx7⟩
 ·exact ⟨_, qu4⟩
 ·exact ⟨_, qvs⟩
 ·exact ⟨_, qwk⟩
 ·exact ⟨_, qr5⟩
 ·exact ⟨_, qjm⟩
 ·exact ⟨_, qmd⟩
 ·exact ⟨_, qvn⟩
 ·exact ⟨_, qs1⟩
 ·exact ⟨_, q09⟩
 ·exact ⟨_, q0n⟩
 ·exact ⟨_, q2n⟩
 ·exact ⟨_, qw3⟩
 ·exact ⟨_, qo1⟩
 ·exact ⟨_, qpq⟩
 ·exact ⟨_, qmm⟩
 ·exact ⟨_, qe7⟩
 ·exact ⟨_, qqn⟩
 ·exact ⟨_, qh1⟩
 ·exact ⟨_, qsx⟩
 ·exact ⟨_, qh0⟩
 ·exact ⟨_, qsw⟩
 ·exact ⟨_, qg5⟩
 ·exact ⟨_, q0k⟩
 ·exact ⟨_, qvw⟩
 ·exact ⟨_, q4d⟩
 ·exact ⟨_, qu0⟩
 ·exact ⟨_, qpy⟩
 ·exact ⟨_, q0m⟩
 ·exact ⟨_, qt1⟩
 ·exact ⟨_, qr4⟩
 ·exact ⟨_, qkl⟩
 ·exact ⟨_, q0h⟩
 ·exact ⟨_, q02⟩
 ·exact ⟨_, q3a⟩
 ·exact ⟨_, qoq⟩
 ·exact ⟨_, qow⟩
 ·exact ⟨_, qn5⟩
 ·exact ⟨_, qos⟩
 ·exact ⟨_, qn6⟩
 ·exact ⟨_, qpe⟩
 ·exact ⟨_, qo2⟩
 ·exact ⟨_, qpm⟩
 ·exact ⟨_, q2o⟩
 ·exact ⟨_, qw7⟩
 ·exact ⟨_, qn0⟩
 ·exact ⟨_, qi2⟩
 ·exact ⟨_, qkc⟩
 ·exact ⟨_, qyj⟩
 ·exact ⟨_, quh⟩
 ·exact ⟨_, qnc⟩
 ·exact ⟨_, qpv⟩
 ·exact ⟨_, qkp⟩
 ·exact ⟨_, q0l⟩
 ·exact ⟨_, q0w⟩
 ·exact ⟨_, qj1⟩
theorem extL_ok : ∀ x ∈ extL, qso Try.prog x.1 = some x.2 := by
 intro x hx
 simp only [extL, List.mem_cons, List.not_mem_nil, or_false] at hx
 rcases hx with rfl | rfl | rfl | rfl
 ·exact qib
 ·exact qiu
 ·exact qk6
 ·exact qol
theorem mixed : Try.prog.follows .mixedOrders = true := by kernel_rfl
theorem insL_ok : ∀ x ∈ insL, InsOk Try.prog x.1 (insF x.2.1 x.2.2) := by
 intro x hx
 simp only [insL, List.mem_cons, List.not_mem_nil, or_false] at hx
 rcases hx with rfl
 ·exact ins_ok mixed qig
theorem T_ok : TabOk Try.prog T where
 code k f h := codeL_ok _ (quj h)
 ext k F h := by
  simp only [T, Option.map_eq_some_iff] at h
  obtain ⟨p, h1, rfl⟩ := h
  exact clone_ok mixed (extL_ok _ (quj h1))
 ins k p h := insL_ok (k, p) (quj h)
 mixed := mixed
theorem qks : T.code qei = some qc4 := rfl
theorem qaa5 : T.code qj4 = some qq8 := rfl
theorem q25 : T.code ql3 = some qr3 := rfl
theorem qwd : T.code qi5 = some qmu := rfl
theorem qvq : T.code qfd = some qkt := rfl
theorem qss : T.code qeo = some qk0 := rfl
theorem qs8 : T.code qes = some qky := rfl
theorem qr7 : T.code qfp = some qdx := rfl
theorem qs4 : T.code qep = some qkz := rfl
theorem qaan : T.code qle = some qq7 := rfl
theorem q6y : T.code qjl = some qo3 := rfl
theorem qtv : T.code qf0 = some qls := rfl
theorem qvc : T.code qgs = some ql4 := rfl
theorem qwj : T.code qio = some qgp := rfl
theorem qs9 : T.code qgd = some qkw := rfl
theorem qw5 : T.code qit = some qm0 := rfl
theorem qpn : T.code qd4 = some qhm := rfl
theorem qn3 : T.code qds = some qgq := rfl
theorem qng : T.code qdg = some qe0 := rfl
theorem qn4 : T.code qdt = some qgm := rfl
theorem qpw : T.code qdo = some qfz := rfl
theorem qud : T.code qfg = some qj6 := rfl
theorem qh4 : T.code qav = some qc1 := rfl
theorem qtp : T.code qg2 = some qll := rfl
theorem qq1 : T.code qd2 = some qjo := rfl
theorem qwf : T.code qiw = some qhj := rfl
theorem qwl : T.code qiv = some qhp := rfl
theorem qwi : T.code qi4 = some qm6 := rfl
theorem qvh : T.code qhx = some qko := rfl
theorem qut : T.code qgv = some qhu := rfl
theorem qmv : T.code qcz = some qej := rfl
theorem qvm : T.code qhs = some qjj := rfl
theorem qka : T.code qek = some qb3 := rfl
theorem qs3 : T.code qfn = some qk1 := rfl
theorem qnr : T.code qgh = some qi9 := rfl
theorem qui : T.code qfj = some qia := rfl
theorem qqq : T.code qd5 = some qg3 := rfl
theorem qix : T.code qba = some qce := rfl
theorem qlu : T.code qcr = some qeq := rfl
theorem qsr : T.code qge = some qkx := rfl
theorem qq4 : T.code qeg = some qjt := rfl
theorem qwu : T.code qim = some qer := rfl
theorem qw6 : T.code qiz = some qhr := rfl
theorem qlj : T.code qf1 = some qci := rfl
theorem qtr : T.code qg7 = some qln := rfl
theorem qjz : T.code qaz = some qe1 := rfl
theorem qoa : T.code qc9 = some qeb := rfl
theorem qly : T.code qcv = some qd1 := rfl
theorem qen : T.code qao = some qax := rfl
theorem qh7 : T.code qq = some qe2 := rfl
theorem qhq : T.code qa6 = some qbw := rfl
theorem qri : T.code qdl = some qjv := rfl
theorem qhl : T.code qa8 = some qck := rfl
theorem qrl : T.code qdk = some qjs := rfl
theorem qgo : T.code qaw = some qb7 := rfl
theorem qwr : T.code qik = some qi3 := rfl
theorem qsq : T.code qgg = some qd9 := rfl
theorem q05 : T.code qex = some qp3 := rfl
theorem qtb : T.code qgf = some qhb := rfl
theorem qo0 : T.code qd0 = some qg8 := rfl
theorem qws : T.code qis = some qm5 := rfl
theorem qsb : T.code qe5 = some qg1 := rfl
theorem qqo : T.code qew = some qil := rfl
theorem qj9 : T.code qbr = some qdq := rfl
theorem qwg : T.code qfx = some qm1 := rfl
theorem qw0 : T.code qgr = some qmr := rfl
theorem qdj : T.code qdm = some qdy := rfl
theorem qnd : T.code qcm = some qf5 := rfl
theorem qne : T.code qcl = some qgc := rfl
theorem qm7 : T.code qcg = some qfy := rfl
theorem qnq : T.code qb9 = some qe3 := rfl
theorem qmx : T.code qch = some qel := rfl
theorem qn8 : T.code qcu = some qfh := rfl
theorem qnt : T.code qco = some qdi := rfl
theorem qn7 : T.code qcw = some qgn := rfl
theorem qzr : T.code qjx = some ql8 := rfl
theorem qul : T.code qf4 = some qlp := rfl
theorem qm3 : T.code qdb = some qdc := rfl
theorem qic : T.code qa1 = some qc0 := rfl
theorem qf : T.code qau = some qg := rfl
theorem qu1 : T.code qfc = some qku := rfl
theorem qr9 : T.code qe8 = some qkb := rfl
theorem qml : T.code qbs = some qed := rfl
theorem qnx : T.code qcx = some qgk := rfl
theorem qj7 : T.code qbd = some qdr := rfl
theorem qwq : T.code qij = some qmt := rfl
theorem qwp : T.code qin = some qmz := rfl
theorem qjn : T.code qa3 = some qdd := rfl
theorem qpp : T.ext qei = none ∧ T.ins qei = none := ⟨rfl, rfl⟩
theorem ext_law23_head : T.ext qj4 = none ∧ T.ins qj4 = none := ⟨rfl, rfl⟩
theorem q32 : T.ext ql3 = none ∧ T.ins ql3 = none := ⟨rfl, rfl⟩
theorem qxt : T.ext qi5 = none ∧ T.ins qi5 = none := ⟨rfl, rfl⟩
theorem qwv : T.ext qfd = none ∧ T.ins qfd = none := ⟨rfl, rfl⟩
theorem qug : T.ext qeo = none ∧ T.ins qeo = none := ⟨rfl, rfl⟩
theorem qt0 : T.ext qes = none ∧ T.ins qes = none := ⟨rfl, rfl⟩
theorem qs0 : T.ext qfp = none ∧ T.ins qfp = none := ⟨rfl, rfl⟩
theorem qua : T.ext qep = none ∧ T.ins qep = none := ⟨rfl, rfl⟩
theorem ext_law19_Base : T.ext qle = none ∧ T.ins qle = none := ⟨rfl, rfl⟩
theorem q8s : T.ext qjl = none ∧ T.ins qjl = none := ⟨rfl, rfl⟩
theorem qvv : T.ext qf0 = none ∧ T.ins qf0 = none := ⟨rfl, rfl⟩
theorem qwz : T.ext qgs = none ∧ T.ins qgs = none := ⟨rfl, rfl⟩
theorem qxw : T.ext qio = none ∧ T.ins qio = none := ⟨rfl, rfl⟩
theorem qto : T.ext qgd = none ∧ T.ins qgd = none := ⟨rfl, rfl⟩
theorem qzx : T.ext qit = none ∧ T.ins qit = none := ⟨rfl, rfl⟩
theorem qqf : T.ext qd4 = none ∧ T.ins qd4 = none := ⟨rfl, rfl⟩
theorem qot : T.ext qds = none ∧ T.ins qds = none := ⟨rfl, rfl⟩
theorem qnw : T.ext qdg = none ∧ T.ins qdg = none := ⟨rfl, rfl⟩
theorem qoo : T.ext qdt = none ∧ T.ins qdt = none := ⟨rfl, rfl⟩
theorem qpz : T.ext qdo = none ∧ T.ins qdo = none := ⟨rfl, rfl⟩
theorem qvj : T.ext qfg = none ∧ T.ins qfg = none := ⟨rfl, rfl⟩
theorem qid : T.ext qav = none ∧ T.ins qav = none := ⟨rfl, rfl⟩
theorem qvl : T.ext qg2 = none ∧ T.ins qg2 = none := ⟨rfl, rfl⟩
theorem qsc : T.ext qd2 = none ∧ T.ins qd2 = none := ⟨rfl, rfl⟩
theorem qzi : T.ext qiw = none ∧ T.ins qiw = none := ⟨rfl, rfl⟩
theorem qxi : T.ext qiv = none ∧ T.ins qiv = none := ⟨rfl, rfl⟩
theorem qx3 : T.ext qi4 = none ∧ T.ins qi4 = none := ⟨rfl, rfl⟩
theorem qwn : T.ext qhx = none ∧ T.ins qhx = none := ⟨rfl, rfl⟩
theorem qw2 : T.ext qgv = none ∧ T.ins qgv = none := ⟨rfl, rfl⟩
theorem qj2 : T.ext qcz = none ∧ T.ins qcz = none := ⟨rfl, rfl⟩
theorem qwe : T.ext qhs = none ∧ T.ins qhs = none := ⟨rfl, rfl⟩
theorem qkv : T.ext qek = none ∧ T.ins qek = none := ⟨rfl, rfl⟩
theorem qt7 : T.ext qfn = none ∧ T.ins qfn = none := ⟨rfl, rfl⟩
theorem qod : T.ext qgh = none ∧ T.ins qgh = none := ⟨rfl, rfl⟩
theorem qu5 : T.ext qfj = none ∧ T.ins qfj = none := ⟨rfl, rfl⟩
theorem qrk : T.ext qd5 = none ∧ T.ins qd5 = none := ⟨rfl, rfl⟩
theorem qjh : T.ext qba = none ∧ T.ins qba = none := ⟨rfl, rfl⟩
theorem qlz : T.ext qcr = none ∧ T.ins qcr = none := ⟨rfl, rfl⟩
theorem qtn : T.ext qge = none ∧ T.ins qge = none := ⟨rfl, rfl⟩
theorem qr8 : T.ext qeg = none ∧ T.ins qeg = none := ⟨rfl, rfl⟩
theorem qx4 : T.ext qim = none ∧ T.ins qim = none := ⟨rfl, rfl⟩
theorem qxu : T.ext qiz = none ∧ T.ins qiz = none := ⟨rfl, rfl⟩
theorem ql6 : T.ext qf1 = none ∧ T.ins qf1 = none := ⟨rfl, rfl⟩
theorem qu7 : T.ext qg7 = none ∧ T.ins qg7 = none := ⟨rfl, rfl⟩
theorem qkd : T.ext qaz = none ∧ T.ins qaz = none := ⟨rfl, rfl⟩
theorem qo6 : T.ext qc9 = none ∧ T.ins qc9 = none := ⟨rfl, rfl⟩
theorem qmf : T.ext qcv = none ∧ T.ins qcv = none := ⟨rfl, rfl⟩
theorem qeu : T.ext qao = none ∧ T.ins qao = none := ⟨rfl, rfl⟩
theorem qir : T.ext qq = none ∧ T.ins qq = none := ⟨rfl, rfl⟩
theorem qhw : T.ext qa6 = none ∧ T.ins qa6 = none := ⟨rfl, rfl⟩
theorem qsa : T.ext qdl = none ∧ T.ins qdl = none := ⟨rfl, rfl⟩
theorem qhy : T.ext qa8 = none ∧ T.ins qa8 = none := ⟨rfl, rfl⟩
theorem qmo : T.ext qdk = none ∧ T.ins qdk = none := ⟨rfl, rfl⟩
theorem qgy : T.ext qaw = none ∧ T.ins qaw = none := ⟨rfl, rfl⟩
theorem qzc : T.ext qik = none ∧ T.ins qik = none := ⟨rfl, rfl⟩
theorem qtl : T.ext qgg = none ∧ T.ins qgg = none := ⟨rfl, rfl⟩
theorem q2l : T.ext qex = none ∧ T.ins qex = none := ⟨rfl, rfl⟩
theorem qub : T.ext qgf = none ∧ T.ins qgf = none := ⟨rfl, rfl⟩
theorem qpf : T.ext qd0 = none ∧ T.ins qd0 = none := ⟨rfl, rfl⟩
theorem qzn : T.ext qis = none ∧ T.ins qis = none := ⟨rfl, rfl⟩
theorem qtf : T.ext qe5 = none ∧ T.ins qe5 = none := ⟨rfl, rfl⟩
theorem qq0 : T.ext qew = none ∧ T.ins qew = none := ⟨rfl, rfl⟩
theorem qkj : T.ext qbr = none ∧ T.ins qbr = none := ⟨rfl, rfl⟩
theorem qzl : T.ext qfx = none ∧ T.ins qfx = none := ⟨rfl, rfl⟩
theorem q0f : T.ext qgr = none ∧ T.ins qgr = none := ⟨rfl, rfl⟩
theorem qdu : T.ext qdm = none ∧ T.ins qdm = none := ⟨rfl, rfl⟩
theorem qn1 : T.ext qcm = none ∧ T.ins qcm = none := ⟨rfl, rfl⟩
theorem qn2 : T.ext qcl = none ∧ T.ins qcl = none := ⟨rfl, rfl⟩
theorem qnn : T.ext qcg = none ∧ T.ins qcg = none := ⟨rfl, rfl⟩
theorem qn9 : T.ext qb9 = none ∧ T.ins qb9 = none := ⟨rfl, rfl⟩
theorem qnm : T.ext qch = none ∧ T.ins qch = none := ⟨rfl, rfl⟩
theorem qon : T.ext qcu = none ∧ T.ins qcu = none := ⟨rfl, rfl⟩
theorem qnz : T.ext qco = none ∧ T.ins qco = none := ⟨rfl, rfl⟩
theorem qou : T.ext qcw = none ∧ T.ins qcw = none := ⟨rfl, rfl⟩
theorem q0x : T.ext qjx = none ∧ T.ins qjx = none := ⟨rfl, rfl⟩
theorem qu6 : T.ext qf4 = none ∧ T.ins qf4 = none := ⟨rfl, rfl⟩
theorem qnk : T.ext qdb = none ∧ T.ins qdb = none := ⟨rfl, rfl⟩
theorem qif : T.ext qa1 = none ∧ T.ins qa1 = none := ⟨rfl, rfl⟩
theorem qi : T.ext qau = none ∧ T.ins qau = none := ⟨rfl, rfl⟩
theorem qwt : T.ext qfc = none ∧ T.ins qfc = none := ⟨rfl, rfl⟩
theorem qtd : T.ext qe8 = none ∧ T.ins qe8 = none := ⟨rfl, rfl⟩
theorem qmw : T.ext qbs = none ∧ T.ins qbs = none := ⟨rfl, rfl⟩
theorem qov : T.ext qcx = none ∧ T.ins qcx = none := ⟨rfl, rfl⟩
theorem qkg : T.ext qbd = none ∧ T.ins qbd = none := ⟨rfl, rfl⟩
theorem qzf : T.ext qij = none ∧ T.ins qij = none := ⟨rfl, rfl⟩
theorem qyh : T.ext qin = none ∧ T.ins qin = none := ⟨rfl, rfl⟩
theorem qjw : T.ext qa3 = none ∧ T.ins qa3 = none := ⟨rfl, rfl⟩
theorem qh9 : T.ext qb5 = some (qrd 1 24) := rfl
theorem qiq : T.ext qbf = some (qrd 6 64) := rfl
theorem qk7 : T.ext qda = some (qrd 4 48) := rfl
theorem qox : T.ext qff = some (qrd 1 8) := rfl
theorem qie : T.ins qbo = some (6, 64) := rfl
theorem qh5 : T.ext qbo = none := rfl
def qca (n : Int) : List AV := [(ii n)]
theorem int_lo (n : Nat) (x : Int) : los n (qca x) = true := rfl
theorem int_pl (x : Int) : (qca x).length = 1 ∧ qw (qca x) = true := ⟨rfl, rfl⟩
theorem qag (n : Nat) (l : List Int) : qh2 n (l.map qca) = true := qlo (int_lo n) l
theorem q9b (l : List Int) : qc5 1 (l.map qca) = true := ql1 int_pl l
def qfv (l : List Int) : List AV := [(.fsl ((l).map qca) false)]
theorem key_lo (n : Nat) (l : List Int) : los n (qfv l) = true := by simp only [qfv, los, AV.lo, qag, zfc]
theorem key_pl (l : List Int) : (qfv l).length = 1 ∧ qw (qfv l) = true := ⟨rfl, rfl⟩
theorem qbx (n : Nat) (l : List (List Int)) : qh2 n (l.map qfv) = true := qlo (key_lo n) l
theorem keys_ok (l : List (List Int)) : qc5 1 (l.map qfv) = true := ql1 key_pl l
structure OpI where
 code : Int
 a : Int
 b : Int
 c : Int
 deriving DecidableEq
def OpI.r (x : OpI) : List AV := [(ii x.code), (ii x.a), (ii x.b), (ii x.c)]
theorem op_lo (n : Nat) (x : OpI) : los n x.r = true := rfl
theorem qiy (n : Nat) (l : List OpI) : qh2 n (l.map OpI.r) = true := qlo (op_lo n) l
def qc2 (p : List OpI) : List AV := [(.fsl ((p).map OpI.r) false)]
theorem progC_lo (n : Nat) (l : List OpI) : los n (qc2 l) = true := by simp only [qc2, los, AV.lo, qiy, zfc]
theorem qa0 (n : Nat) (l : List (List OpI)) : qh2 n (l.map qc2) = true := qlo (progC_lo n) l
structure Start where
 prog : Int
 time : Int
 deriving DecidableEq
def Start.r (x : Start) : List AV := [(ii x.prog), (ii x.time)]
theorem start_lo (n : Nat) (x : Start) : los n x.r = true := rfl
theorem qaa1 (n : Nat) (l : List Start) : qh2 n (l.map Start.r) = true := qlo (start_lo n) l
def lpC (p : List Start) : List AV := [(.fsl ((p).map Start.r) false)]
theorem lpC_lo (n : Nat) (l : List Start) : los n (lpC l) = true := by simp only [lpC, los, AV.lo, qaa1, zfc]
theorem qcj (n : Nat) (l : List (List Start)) : qh2 n (l.map lpC) = true := qlo (lpC_lo n) l
structure Cfg where
 lps : List (List Start)
 progs : List (List OpI)
 look : Int
 fin : Int
 cap : Int
def qrg (n : Int) : Bool := decide (n ≥ 1) && decide (n ≤ 1099511627776)
def qv2 (n : Int) : Bool := decide (n ≥ -1073741824) && decide (n ≤ 1073741824)
theorem ql7 (n : Int) : qbb (evL T) qfx [(ii n)] = some (bb (qrg n)) := by
 rw [qbb, qy qzl qwg]
 by_cases h1 : n ≥ 1 <;> simp only [qrg, qm1, h1, qn, Ev.exec, qb, qe, qc, qai, Ev.Opnd.ev, Ev.Env.get, Ev.Env.set, Ev.Env.unset, Ev.look, qo, qmj, qb2, qm, qab, qaj, Ev.kill, qah, qd, qa4, qap, ↓qr, ↓reduceIte, zga, zgb, zfe, Nat.reduceEqDiff, reduceCtorEq, zgv, zgw, Bool.true_and, zfa, zgx, zfd, zgy, Bool.false_and]
theorem qoz (n : Int) : qbb (evL T) qgr [(ii n)] = some (bb (qv2 n)) := by
 rw [qbb, qy q0f qw0]
 by_cases h1 : n ≥ -1073741824 <;> simp only [qv2, qmr, h1, qn, Ev.exec, qb, qe, qc, qai, Ev.Opnd.ev, Ev.Env.get, Ev.Env.set, Ev.Env.unset, Ev.look, qo, qmj, qb2, qm, qab, qaj, Ev.kill, qah, qd, qa4, qap, ↓qr, ↓reduceIte, zga, zgb, zfe, Nat.reduceEqDiff, Int.reduceNeg, reduceCtorEq, zgv, zgw, Bool.true_and, zfa, zgx, zfd, zgy, Bool.false_and]
def q00 (x : OpI) (n ps : Int) : Bool :=
 if x.code = 1 then qrg x.a && (decide (x.b = 0) && decide (x.c = 0))
 else if x.code = 2 then decide (x.a ≥ 0) && (qv2 x.b && qrg x.c)
 else if x.code = 3 then qrg x.a && (decide (x.b ≥ 0) && (decide (x.b < n) && decide (x.c = 0)))
 else if x.code = 5 then decide (x.a ≥ 0) && (decide (x.a < ps) && (qrg x.b && decide (x.c = 0)))
 else if x.code = 6 then decide (x.a ≥ 0) && (decide (x.a < 2) && (qv2 x.b && decide (x.c = 0)))
 else if x.code = 7 then decide (x.a ≥ 0) && (decide (x.a < 2) && (qv2 x.b && (decide (x.c ≥ 0) && decide (x.c < n))))
 else decide (x.a = 0) && (decide (x.b = 0) && decide (x.c = 0))
theorem qpl (x : OpI) (n ps : Int) : qbb (evL T) qgg [(.agg [(ii x.code), (ii x.a), (ii x.b), (ii x.c)]), (ii n), (ii ps)] = some (bb (q00 x n ps)) := by
 obtain ⟨k, a, b, c⟩ := x
 rw [qbb, qy qtl qsq]
 simp only [q00]
 by_cases k1 : k = 1
 ·subst k1
  cases h1 : qrg a <;> by_cases h2 : b = 0 <;> simp only [qd9, ql7, h1, h2, qn, Ev.exec, qb, qe, qc, qa2, qai, Ev.evs, Ev.Opnd.ev, Ev.Env.get, Ev.Env.set, Ev.Env.unset, Ev.look, qo, qk, qad, Ev.AV.cells, qw, Ev.AV.plain, qak, qm, qab, qaj, Ev.kill, qah, qd, qa4, qj, qh, qap, ↓qr, ↓reduceIte, zga, zgb, zfe, zgf, zgg, zgh, Nat.reduceAdd, Nat.reduceEqDiff, zgv, zgw, zfc, Bool.true_and, zfa, zgx, ne_eq, zfb, zff, zfd, zgy, Bool.false_and, Bool.and_false]
 by_cases k2 : k = 2
 ·subst k2
  by_cases h1 : a ≥ 0 <;> cases h2 : qv2 b <;> simp only [qd9, ql7, qoz, h1, h2, qn, Ev.exec, qb, qe, qc, qa2, qai, Ev.evs, Ev.Opnd.ev, Ev.Env.get, Ev.Env.set, Ev.Env.unset, Ev.look, qo, qk, qad, Ev.AV.cells, qw, Ev.AV.plain, qak, qb2, qm, qab, qaj, Ev.kill, qah, qd, qa4, qj, qh, qap, ↓qr, ↓reduceIte, zga, zgb, zfe, zgf, zgg, zgh, Nat.reduceAdd, Nat.reduceEqDiff, Int.reduceEq, zgv, zgw, zfc, Bool.true_and, zfa, zgx, ne_eq, zfb, zff, zfd, zgy, Bool.false_and, Bool.and_false]
 by_cases k3 : k = 3
 ·subst k3
  cases h1 : qrg a <;> by_cases h2 : b ≥ 0 <;> by_cases h3 : b < n <;> simp only [qd9, ql7, h1, h2, h3, qn, Ev.exec, qb, qe, qc, qa2, qai, Ev.evs, Ev.Opnd.ev, Ev.Env.get, Ev.Env.set, Ev.Env.unset, Ev.look, qo, qk, qad, Ev.AV.cells, qw, Ev.AV.plain, qak, ql, qb2, qm, qab, qaj, Ev.kill, qah, qd, qa4, qj, qh, qap, ↓qr, ↓reduceIte, zga, zgb, zfe, zgf, zgg, zgh, Nat.reduceAdd, Nat.reduceEqDiff, Int.reduceEq, reduceCtorEq, zgv, zgw, zfc, Bool.true_and, zfa, zgx, ne_eq, zfb, zff, zfd, zgy, Bool.false_and, Bool.and_false]
 by_cases k5 : k = 5
 ·subst k5
  by_cases h1 : a ≥ 0 <;> by_cases h2 : a < ps <;> cases h3 : qrg b <;> simp only [qd9, ql7, h1, h2, h3, qn, Ev.exec, qb, qe, qc, qa2, qai, Ev.evs, Ev.Opnd.ev, Ev.Env.get, Ev.Env.set, Ev.Env.unset, Ev.look, qo, qk, qad, Ev.AV.cells, qw, Ev.AV.plain, qak, ql, qb2, qm, qab, qaj, Ev.kill, qah, qd, qa4, qj, qh, qap, ↓qr, ↓reduceIte, zga, zgb, zfe, zgf, zgg, zgh, Nat.reduceAdd, Nat.reduceEqDiff, Int.reduceEq, reduceCtorEq, zgv, zgw, zfc, Bool.true_and, zfa, zgx, ne_eq, zfb, zff, zfd, zgy, Bool.false_and, Bool.and_false]
 by_cases k6 : k = 6
 ·subst k6
  by_cases h1 : a ≥ 0 <;> by_cases h2 : a < 2 <;> cases h3 : qv2 b <;> simp only [qd9, qoz, h1, h2, h3, qn, Ev.exec, qb, qe, qc, qa2, qai, Ev.evs, Ev.Opnd.ev, Ev.Env.get, Ev.Env.set, Ev.Env.unset, Ev.look, qo, qk, qad, Ev.AV.cells, qw, Ev.AV.plain, qak, ql, qb2, qm, qab, qaj, Ev.kill, qah, qd, qa4, qj, qh, qap, ↓qr, ↓reduceIte, zga, zgb, zfe, zgf, zgg, zgh, Nat.reduceAdd, Nat.reduceEqDiff, Int.reduceEq, zgv, zgw, zfc, Bool.true_and, zfa, zgx, ne_eq, zfb, zff, zfd, zgy, Bool.false_and, Bool.and_false]
 by_cases k7 : k = 7
 ·subst k7
  by_cases h1 : a ≥ 0 <;> by_cases h2 : a < 2 <;> cases h3 : qv2 b <;> by_cases h4 : c ≥ 0 <;> simp only [qd9, qoz, h1, h2, h3, h4, qn, Ev.exec, qb, qe, qc, qa2, qai, Ev.evs, Ev.Opnd.ev, Ev.Env.get, Ev.Env.set, Ev.Env.unset, Ev.look, qo, qk, qad, Ev.AV.cells, qw, Ev.AV.plain, qak, ql, qb2, qm, qab, qaj, Ev.kill, qah, qd, qa4, qj, qh, qap, ↓qr, ↓reduceIte, zga, zgb, zfe, zgf, zgg, zgh, Nat.reduceAdd, Nat.reduceEqDiff, Int.reduceEq, reduceCtorEq, zgv, zgw, zfc, Bool.true_and, zfa, zgx, ne_eq, zfb, zff, zfd, zgy, Bool.false_and, Bool.and_false]
 by_cases h1 : a = 0 <;> by_cases h2 : b = 0 <;> simp only [qd9, k1, k2, k3, k5, k6, k7, h1, h2, qn, Ev.exec, qb, qe, qc, qai, Ev.Opnd.ev, Ev.Env.get, Ev.Env.set, Ev.Env.unset, Ev.look, qo, qk, qad, Ev.AV.cells, qw, Ev.AV.plain, qak, qm, qab, qaj, Ev.kill, qah, qd, qa4, qap, ↓qr, ↓reduceIte, zga, zgb, zfe, zgf, zgg, zgh, Nat.reduceAdd, Nat.reduceEqDiff, zgv, zgw, zfc, Bool.true_and, zfa, zgx, ne_eq, zfb, zff, zfd, zgy, Bool.false_and, Bool.and_false]
def q3v (x : OpI) : Bool := decide (x.code ≥ 1) && decide (x.code ≤ 8)
def qrf (p : List OpI) : Bool := decide (1 ≤ p.length ∧ p.length ≤ 16) && p.all q3v
def qaal (lps : Int) (x : OpI) : Bool := !(decide (x.code = 2) && decide (x.a ≥ lps))
def qqv (look : Int) (x : OpI) : Bool := !(decide (x.code = 2) && decide (x.c < look))
def qqh (p : List OpI) (ps lps look : Int) : Int :=
 if qrf p = false then 22 else if p.all (fun x => q00 x p.length ps) = false then 22 else if p.all (qaal lps) = false then 23 else if p.all (qqv look) = false then 21 else 0
section
variable (p : List OpI) (c : Bool) (ps lps look : Int)
theorem q2k (hl : p.length ≤ 16) :
  ∃ y, itB (exec (evL T) itL none qha) (qs [0, 3] true 0) ⟨[(0, (.fsl ((p).map OpI.r) c)), (3, (ii 0))], []⟩ [] = some y ∧ (p.all q3v = true ∧ (y.1 = .exit 0 ∧ y.2.1.marks = [] ∧ y.2.2 = []) ∨
   p.all q3v = false ∧ ∃ x, p.find? (fun x => !q3v x) = some x ∧ (y.1 = .ret ∧ y.2.1.marks = [] ∧ y.2.2 = [] ∧ Ev.look y.2.1.vars 2 = some (bb false))) := by
 refine qju p (fun i => ⟨[(0, (.fsl ((p).map OpI.r) c)), (3, (ii i))], []⟩) [] q3v _ (fun _ y => _) ?_ ?_ ?_
 ·intro i x hi hx hp
  have hi' : (i : Int) < (p.length : Int) := by omega
  have hw : IntKind.i64.wrap ((i : Int) + 1) = ((i + 1 : Nat) : Int) := by rw [qay (by omega) (by omega)]; simp
  simp only [q3v, Bool.and_eq_true, decide_eq_true_eq] at hp
  have h1 : ¬ x.code < 1 := by omega
  have h2 : ¬ x.code > 8 := by omega
  simp only [qha, zgs, zgr, zgq, zgt, OpI.r, hx, hi', hw, h1, h2, qiy, Ev.exec, qb, qe, qc, qai, Ev.Opnd.ev, Ev.Env.get, Ev.Env.set, Ev.look, qk, qad, qaf, ql, qaq, qs, Ev.keep, qae, qx, qd, qa4, qu, zgi, ↓qr, Ev.it1, ↓reduceIte, zga, zgb, zfe, zgg, zgh, Nat.reduceAdd, Nat.reduceEqDiff, reduceCtorEq, zgv, zgw, zfc, zfa, zgx, zfd, zgy]
 ·intro i x hi hx hp
  have hi' : (i : Int) < (p.length : Int) := by omega
  simp only [q3v, Bool.and_eq_false_iff, decide_eq_false_iff_not] at hp
  by_cases h1 : x.code < 1
  ·simp only [qha, zgs, zgr, zgq, zgt, OpI.r, hx, hi', h1, Ev.exec, qb, qe, qc, qai, Ev.Opnd.ev, Ev.Env.get, Ev.Env.set, Ev.Env.unset, Ev.look, qk, qad, ql, zgi, ↓qr, Ev.it1, ↓reduceIte, zga, zgb, zgg, zgh, Nat.reduceAdd, Nat.reduceEqDiff, reduceCtorEq, zgv, zfa, Bool.true_eq_false, zfd, zgy]
   exact ⟨_, rfl, rfl, rfl, rfl, rfl⟩
  ·have h2 : x.code > 8 := by omega
   simp only [qha, zgs, zgr, zgq, zgt, OpI.r, hx, hi', h1, h2, Ev.exec, qb, qe, qc, qai, Ev.Opnd.ev, Ev.Env.get, Ev.Env.set, Ev.look, qk, qad, ql, qaq, zgi, ↓qr, Ev.it1, ↓reduceIte, zga, zgb, zgg, zgh, Nat.reduceAdd, Nat.reduceEqDiff, reduceCtorEq, zgv, zgw, zfa, zfd, zgy]
   exact ⟨_, rfl, rfl, rfl, rfl, rfl⟩
 ·simp only [qha, Int.lt_irrefl, Ev.exec, qb, qe, qc, qai, Ev.Opnd.ev, Ev.Env.get, Ev.Env.set, Ev.look, ql, zgi, ↓qr, Ev.it1, ↓reduceIte, Nat.reduceEqDiff, reduceCtorEq, zgw, zfa, zgy]
  exact ⟨_, rfl, rfl, rfl, rfl⟩
theorem q0v : qbb (evL T) qik [(.fsl ((p).map OpI.r) c)] = some (bb (qrf p)) := by
 rw [qbb, qy qzc qwr]
 by_cases h1 : (p.length : Int) < 1
 ·have : ¬ (1 ≤ p.length ∧ p.length ≤ 16) := by omega
  simp only [qi3, qrf, this, h1, qn, Ev.exec, qb, qe, qc, qai, Ev.Opnd.ev, Ev.Env.get, Ev.Env.set, Ev.Env.unset, Ev.look, qo, ql, qm, qab, qaj, Ev.kill, qah, qd, qa4, qap, zgi, ↓qr, ↓reduceIte, zga, zgb, zfe, Nat.reduceEqDiff, reduceCtorEq, zgv, zgw, Bool.true_eq_false, zgx, zfd, zgy, Bool.false_and]
 by_cases h2 : (p.length : Int) > 16
 ·have : ¬ (1 ≤ p.length ∧ p.length ≤ 16) := by omega
  simp only [qi3, qrf, this, h1, h2, qn, Ev.exec, qb, qe, qc, qai, Ev.Opnd.ev, Ev.Env.get, Ev.Env.set, Ev.look, qo, ql, qaq, qm, qab, qaj, Ev.kill, qah, qd, qa4, qap, zgi, ↓qr, ↓reduceIte, zga, zgb, zfe, Nat.reduceEqDiff, reduceCtorEq, zgv, zgw, zfa, zgx, zfd, zgy, Bool.false_and]
 have h3 : 1 ≤ p.length ∧ p.length ≤ 16 := by omega
 obtain ⟨⟨y, e, σ⟩, k1, k2⟩ := q2k p c h3.2
 simp only at k2
 rcases k2 with ⟨k3, rfl, k4, rfl⟩ | ⟨k3, x, _, rfl, k4, rfl, k5⟩
 ·simp only [qi3, qrf, h3, h1, h2, k1, k3, k4, qiy, qn, Ev.exec, qb, qe, qc, qai, Ev.Opnd.ev, Ev.Env.get, Ev.Env.set, Ev.look, qo, ql, qaq, qm, qab, qaj, Ev.kill, qah, qs, Ev.keep, qae, qx, qd, qa4, qu, qap, zgi, ↓qr, ↓qar, ↓reduceIte, zga, zgb, zfe, Nat.reduceEqDiff, reduceCtorEq, zgv, zgw, zfc, zfa, zgx, zfd, zgy]
 ·simp only [qi3, qrf, h3, h1, h2, k1, k3, k4, k5, qiy, qn, Ev.exec, qb, qe, qc, qai, Ev.Opnd.ev, Ev.Env.get, Ev.Env.set, Ev.look, qo, ql, qaq, qm, qab, qaj, Ev.kill, qah, qs, Ev.keep, qae, qx, qd, qa4, qu, qap, zgi, ↓qr, ↓qar, ↓reduceIte, zga, zgb, zfe, Nat.reduceEqDiff, reduceCtorEq, zgv, zgw, zfc, zfa, zgx, zfd, zgy, Bool.and_false]
theorem q0j (hl : p.length ≤ 16) :
  ∃ y, itB (exec (evL T) itL none qjd) (qs [0, 1, 2, 3, 9] true 0) ⟨[(0, (.fsl ((p).map OpI.r) c)), (1, (ii ps)), (2, (ii lps)), (3, (ii look)), (9, (ii 0))], []⟩ [] = some y ∧
   (p.all (fun x => q00 x p.length ps) = true ∧ (y.1 = .exit 0 ∧ y.2.1.marks = [] ∧ y.2.2 = [] ∧ Ev.look y.2.1.vars 0 = some (.fsl ((p).map OpI.r) c) ∧ Ev.look y.2.1.vars 2 = some (ii lps) ∧ Ev.look y.2.1.vars 3 = some (ii look)) ∨
   p.all (fun x => q00 x p.length ps) = false ∧ ∃ x, p.find? (fun x => !q00 x p.length ps) = some x ∧ (y.1 = .ret ∧ y.2.1.marks = [] ∧ y.2.2 = [] ∧ Ev.look y.2.1.vars 8 = some (ii 22))) := by
 refine qju p (fun i => ⟨[(0, (.fsl ((p).map OpI.r) c)), (1, (ii ps)), (2, (ii lps)), (3, (ii look)), (9, (ii i))], []⟩) [] (fun x => q00 x p.length ps) _ (fun _ y => _) ?_ ?_ ?_
 ·intro i x hi hx hp
  have hi' : (i : Int) < (p.length : Int) := by omega
  have hw : IntKind.i64.wrap ((i : Int) + 1) = ((i + 1 : Nat) : Int) := by rw [qay (by omega) (by omega)]; simp
  simp only [qjd, zgs, zgr, zgq, zgt, OpI.r, hx, hi', hw, qpl, hp, qiy, Ev.exec, qb, qe, qc, qa2, qai, Ev.evs, Ev.Opnd.ev, Ev.Env.get, Ev.Env.set, Ev.look, qk, qad, qaf, ql, qs, Ev.keep, qae, qx, qd, qa4, qbc, qu, qj, qh, zgi, ↓qr, Ev.it1, ↓reduceIte, zga, zgb, zgc, zfe, Nat.reduceAdd, Nat.reduceEqDiff, reduceCtorEq, zgv, zfc, Bool.not_true, zfa, zgx, zfd, Nat.le_refl, zgy]
 ·intro i x hi hx hp
  have hi' : (i : Int) < (p.length : Int) := by omega
  simp only [qjd, zgs, zgr, zgq, zgt, OpI.r, hx, hi', qpl, hp, Ev.exec, qb, qe, qc, qa2, qai, Ev.evs, Ev.Opnd.ev, Ev.Env.get, Ev.Env.set, Ev.look, qk, qad, ql, qa4, qbc, qj, qh, zgi, ↓qr, Ev.it1, ↓reduceIte, zga, zgb, zgc, zfe, Nat.reduceAdd, Nat.reduceEqDiff, reduceCtorEq, zgv, zfc, Bool.not_false, zfd, Nat.le_refl, zgy]
  exact ⟨_, rfl, rfl, rfl, rfl, rfl⟩
 ·simp only [qjd, Int.lt_irrefl, Ev.exec, qb, qe, qc, qai, Ev.Opnd.ev, Ev.Env.get, Ev.Env.set, Ev.look, ql, zgi, ↓qr, Ev.it1, ↓reduceIte, Nat.reduceEqDiff, reduceCtorEq, zgw, zfa, zgy]
  exact ⟨_, rfl, rfl, rfl, rfl, rfl, rfl, rfl⟩
theorem q0t (hl : p.length ≤ 16) :
  ∃ y, itB (exec (evL T) itL none qhg) (qs [0, 2, 3, 10] true 0) ⟨[(0, (.fsl ((p).map OpI.r) c)), (2, (ii lps)), (3, (ii look)), (10, (ii 0))], []⟩ [] = some y ∧
   (p.all (qaal lps) = true ∧ (y.1 = .exit 2 ∧ y.2.1.marks = [] ∧ y.2.2 = [] ∧ Ev.look y.2.1.vars 0 = some (.fsl ((p).map OpI.r) c) ∧ Ev.look y.2.1.vars 3 = some (ii look)) ∨
   p.all (qaal lps) = false ∧ ∃ x, p.find? (fun x => !qaal lps x) = some x ∧ (y.1 = .ret ∧ y.2.1.marks = [] ∧ y.2.2 = [] ∧ Ev.look y.2.1.vars 8 = some (ii 23))) := by
 refine qju p (fun i => ⟨[(0, (.fsl ((p).map OpI.r) c)), (2, (ii lps)), (3, (ii look)), (10, (ii i))], []⟩) [] (qaal lps) _ (fun _ y => _) ?_ ?_ ?_
 ·intro i x hi hx hp
  have hi' : (i : Int) < (p.length : Int) := by omega
  have hw : IntKind.i64.wrap ((i : Int) + 1) = ((i + 1 : Nat) : Int) := by rw [qay (by omega) (by omega)]; simp
  by_cases h1 : x.code = 2
  ·have h2 : ¬ x.a ≥ lps := by simpa [qaal, h1] using hp
   simp only [qhg, zgs, zgr, zgq, zgt, OpI.r, hx, hi', hw, h1, h2, qiy, Ev.exec, qb, qe, qc, qai, Ev.Opnd.ev, Ev.Env.get, Ev.Env.set, Ev.look, qk, qad, qaf, qak, ql, qb2, qs, Ev.keep, qae, qx, qd, qa4, qu, zgi, ↓qr, Ev.it1, ↓reduceIte, zga, zgb, zfe, zgf, zgg, zgh, Nat.reduceAdd, Nat.reduceEqDiff, reduceCtorEq, zgv, zgw, zfc, zfa, zgx, zfd, zgy]
  ·simp only [qhg, zgs, zgr, zgq, zgt, OpI.r, hx, hi', hw, h1, qiy, Ev.exec, qb, qe, qc, qai, Ev.Opnd.ev, Ev.Env.get, Ev.Env.set, Ev.Env.unset, Ev.look, qk, qad, qaf, qak, ql, qs, Ev.keep, qae, qx, qd, qa4, qu, zgi, ↓qr, Ev.it1, ↓reduceIte, zga, zgb, zfe, zgg, zgh, Nat.reduceAdd, Nat.reduceEqDiff, reduceCtorEq, zgv, zgw, zfc, zfa, zgx, zfd, zgy]
 ·intro i x hi hx hp
  have hi' : (i : Int) < (p.length : Int) := by omega
  have h1 : x.code = 2 := by
   by_cases h1 : x.code = 2
   ·exact h1
   ·simp [qaal, h1] at hp
  have h2 : x.a ≥ lps := by simpa [qaal, h1] using hp
  simp only [qhg, zgs, zgr, zgq, zgt, OpI.r, hx, hi', h1, h2, Ev.exec, qb, qe, qc, qai, Ev.Opnd.ev, Ev.Env.get, Ev.Env.set, Ev.look, qk, qad, qak, ql, qb2, zgi, ↓qr, Ev.it1, ↓reduceIte, zga, zgb, zgf, zgg, zgh, Nat.reduceAdd, Nat.reduceEqDiff, reduceCtorEq, zgv, zfa, zfd, zgy]
  exact ⟨_, rfl, rfl, rfl, rfl, rfl⟩
 ·simp only [qhg, Int.lt_irrefl, Ev.exec, qb, qe, qc, qai, Ev.Opnd.ev, Ev.Env.get, Ev.Env.set, Ev.look, ql, zgi, ↓qr, Ev.it1, ↓reduceIte, Nat.reduceEqDiff, reduceCtorEq, zgw, zfa, zgy]
  exact ⟨_, rfl, rfl, rfl, rfl, rfl, rfl⟩
theorem q0r (hl : p.length ≤ 16) :
  ∃ y, itB (exec (evL T) itL none qhd) (qs [0, 3, 11] true 0) ⟨[(0, (.fsl ((p).map OpI.r) c)), (3, (ii look)), (11, (ii 0))], []⟩ [] = some y ∧
   (p.all (qqv look) = true ∧ (y.1 = .exit 4 ∧ y.2.1.marks = [] ∧ y.2.2 = []) ∨
   p.all (qqv look) = false ∧ ∃ x, p.find? (fun x => !qqv look x) = some x ∧ (y.1 = .ret ∧ y.2.1.marks = [] ∧ y.2.2 = [] ∧ Ev.look y.2.1.vars 8 = some (ii 21))) := by
 refine qju p (fun i => ⟨[(0, (.fsl ((p).map OpI.r) c)), (3, (ii look)), (11, (ii i))], []⟩) [] (qqv look) _ (fun _ y => _) ?_ ?_ ?_
 ·intro i x hi hx hp
  have hi' : (i : Int) < (p.length : Int) := by omega
  have hw : IntKind.i64.wrap ((i : Int) + 1) = ((i + 1 : Nat) : Int) := by rw [qay (by omega) (by omega)]; simp
  by_cases h1 : x.code = 2
  ·have h2 : ¬ x.c < look := by simpa [qqv, h1] using hp
   simp only [qhd, zgs, zgr, zgq, zgt, OpI.r, hx, hi', hw, h1, h2, qiy, Ev.exec, qb, qe, qc, qai, Ev.Opnd.ev, Ev.Env.get, Ev.Env.set, Ev.look, qk, qad, qaf, qak, ql, qs, Ev.keep, qae, qx, qd, qa4, qu, zgi, ↓qr, Ev.it1, ↓reduceIte, zga, zgb, zfe, zgf, zgg, zgh, Nat.reduceAdd, Nat.reduceEqDiff, reduceCtorEq, zgv, zgw, zfc, zfa, zgx, zfd, zgy]
  ·simp only [qhd, zgs, zgr, zgq, zgt, OpI.r, hx, hi', hw, h1, qiy, Ev.exec, qb, qe, qc, qai, Ev.Opnd.ev, Ev.Env.get, Ev.Env.set, Ev.Env.unset, Ev.look, qk, qad, qaf, qak, ql, qs, Ev.keep, qae, qx, qd, qa4, qu, zgi, ↓qr, Ev.it1, ↓reduceIte, zga, zgb, zfe, zgg, zgh, Nat.reduceAdd, Nat.reduceEqDiff, reduceCtorEq, zgv, zgw, zfc, zfa, zgx, zfd, zgy]
 ·intro i x hi hx hp
  have hi' : (i : Int) < (p.length : Int) := by omega
  have h1 : x.code = 2 := by
   by_cases h1 : x.code = 2
   ·exact h1
   ·simp [qqv, h1] at hp
  have h2 : x.c < look := by simpa [qqv, h1] using hp
  simp only [qhd, zgs, zgr, zgq, zgt, OpI.r, hx, hi', h1, h2, Ev.exec, qb, qe, qc, qai, Ev.Opnd.ev, Ev.Env.get, Ev.Env.set, Ev.look, qk, qad, qak, ql, zgi, ↓qr, Ev.it1, ↓reduceIte, zga, zgb, zgf, zgg, zgh, Nat.reduceAdd, Nat.reduceEqDiff, reduceCtorEq, zgv, zfa, zfd, zgy]
  exact ⟨_, rfl, rfl, rfl, rfl, rfl⟩
 ·simp only [qhd, Int.lt_irrefl, Ev.exec, qb, qe, qc, qai, Ev.Opnd.ev, Ev.Env.get, Ev.Env.set, Ev.look, ql, zgi, ↓qr, Ev.it1, ↓reduceIte, Nat.reduceEqDiff, reduceCtorEq, zgw, zfa, zgy]
  exact ⟨_, rfl, rfl, rfl, rfl⟩
theorem qsi : qbb (evL T) qiz [(.fsl ((p).map OpI.r) c), (ii ps), (ii lps), (ii look)] = some (ii (qqh p ps lps look)) := by
 have h0 := q0v p c
 rw [qbb, qy qxu qw6]
 cases hs : qrf p with
 | false =>
  rw [hs] at h0
  simp only [qhr, qqh, h0, hs, qiy, qn, Ev.exec, qb, qe, qc, qa2, qai, Ev.evs, Ev.Opnd.ev, Ev.Env.get, Ev.Env.set, Ev.look, qo, qm, qab, qaj, Ev.kill, qah, qd, qa4, qu, qj, qh, qap, ↓qr, ↓reduceIte, zga, zgb, zfe, Nat.reduceAdd, reduceCtorEq, zfc, Bool.not_false, zgx, zfd, zgy]
 | true =>
  rw [hs] at h0
  have hl : p.length ≤ 16 := by simp only [qrf, Bool.and_eq_true, decide_eq_true_eq] at hs; exact hs.1.2
  obtain ⟨⟨y1, e1, σ1⟩, k1, k2⟩ := q0j p c ps lps look hl
  obtain ⟨⟨y2, e2, σ2⟩, m1, m2⟩ := q0t p c lps look hl
  obtain ⟨⟨y3, e3, σ3⟩, n1, n2⟩ := q0r p c look hl
  simp only at k2 m2 n2
  rcases k2 with ⟨q1, rfl, q2, rfl, q3, q4, q5⟩ | ⟨q1, x, _, rfl, q2, rfl, q3⟩
  ·rcases m2 with ⟨r1, rfl, r2, rfl, r3, r4⟩ | ⟨r1, x, _, rfl, r2, rfl, r3⟩
   ·rcases n2 with ⟨t1, rfl, t2, rfl⟩ | ⟨t1, x, _, rfl, t2, rfl, t3⟩
    ·simp only [qhr, qqh, h0, hs, k1, q1, q2, q3, q4, q5, m1, r1, r2, r3, r4, n1, t1, t2, qiy, qn, Ev.exec, qb, qe, qc, qa2, qai, Ev.evs, Ev.Opnd.ev, Ev.Env.get, Ev.Env.set, Ev.look, qo, qm, qab, qaj, Ev.kill, qah, qs, Ev.keep, qae, qx, qd, qa4, qu, qj, qh, qap, ↓qr, ↓qar, ↓reduceIte, zga, zgb, zfe, Nat.reduceAdd, Nat.reduceEqDiff, reduceCtorEq, zfc, Bool.not_true, zfa, Bool.true_eq_false, zgx, zfd, zgy]
    ·simp only [qhr, qqh, h0, hs, k1, q1, q2, q3, q4, q5, m1, r1, r2, r3, r4, n1, t1, t2, t3, qiy, qn, Ev.exec, qb, qe, qc, qa2, qai, Ev.evs, Ev.Opnd.ev, Ev.Env.get, Ev.Env.set, Ev.look, qo, qm, qab, qaj, Ev.kill, qah, qs, Ev.keep, qae, qx, qd, qa4, qu, qj, qh, qap, ↓qr, ↓qar, ↓reduceIte, zga, zgb, zfe, Nat.reduceAdd, Nat.reduceEqDiff, reduceCtorEq, zfc, Bool.not_true, zfa, Bool.true_eq_false, zgx, zfd, zgy]
   ·simp only [qhr, qqh, h0, hs, k1, q1, q2, q3, q4, q5, m1, r1, r2, r3, qiy, qn, Ev.exec, qb, qe, qc, qa2, qai, Ev.evs, Ev.Opnd.ev, Ev.Env.get, Ev.Env.set, Ev.look, qo, qm, qab, qaj, Ev.kill, qah, qs, Ev.keep, qae, qx, qd, qa4, qu, qj, qh, qap, ↓qr, ↓qar, ↓reduceIte, zga, zgb, zfe, Nat.reduceAdd, Nat.reduceEqDiff, reduceCtorEq, zfc, Bool.not_true, zfa, Bool.true_eq_false, zgx, zfd, zgy]
  ·simp only [qhr, qqh, h0, hs, k1, q1, q2, q3, qiy, qn, Ev.exec, qb, qe, qc, qa2, qai, Ev.evs, Ev.Opnd.ev, Ev.Env.get, Ev.Env.set, Ev.look, qo, qm, qab, qaj, Ev.kill, qah, qs, Ev.keep, qae, qx, qd, qa4, qu, qj, qh, qap, ↓qr, ↓qar, ↓reduceIte, zga, zgb, zfe, Nat.reduceAdd, Nat.reduceEqDiff, reduceCtorEq, zfc, Bool.not_true, zfa, Bool.true_eq_false, zgx, zfd, zgy]
end
set_option maxRecDepth 10000
structure Pr where
 prog : Int
 pc : Int
 alive : Bool
 timer : List Int
 deriving DecidableEq
def Pr.r (x : Pr) : List AV := [(ii x.prog), (ii x.pc), (bb x.alive), (.fsl ((x.timer).map qca) false)]
theorem pr_lo (n : Nat) (x : Pr) : los n x.r = true := by simp only [Pr.r, qag, qa4, qu, qj, qh, zfc, zgy]
theorem pr_pl (x : Pr) : x.r.length = 4 ∧ qw x.r = true := ⟨rfl, rfl⟩
theorem qas (n : Nat) (l : List Pr) : qh2 n (l.map Pr.r) = true := qlo (pr_lo n) l
theorem q2t (l : List Pr) : qc5 4 (l.map Pr.r) = true := ql1 pr_pl l
structure Evt where
 time : Int
 key : List Int
 lp : Int
 kind : Int
 proc : Int
 arg : Int
 deriving DecidableEq
def Evt.r (x : Evt) : List AV := [(ii x.time), (.fsl ((x.key).map qca) false), (ii x.lp), (ii x.kind), (ii x.proc), (ii x.arg)]
theorem evt_lo (n : Nat) (x : Evt) : los n x.r = true := by simp only [Evt.r, qag, qa4, qu, qj, qh, zfc, zgy]
theorem evt_pl (x : Evt) : x.r.length = 6 ∧ qw x.r = true := ⟨rfl, rfl⟩
theorem qv (n : Nat) (l : List Evt) : qh2 n (l.map Evt.r) = true := qlo (evt_lo n) l
theorem qfr (l : List Evt) : qc5 6 (l.map Evt.r) = true := ql1 evt_pl l
structure Lp where
 r0 : Int
 r1 : Int
 procs : List Pr
 sum : Int
 deriving DecidableEq
def Lp.r (x : Lp) : List AV := [(ii x.r0), (ii x.r1), (.fsl ((x.procs).map Pr.r) false), (ii x.sum)]
structure Ex where
 r0 : Int
 r1 : Int
 procs : List Pr
 sum : Int
 ev : Evt
 out : List Evt
 n : Int
 gone : List (List Int)
 over : Bool
def Ex.kid (x : Ex) : List Int := x.ev.key ++ [x.n]
def Ex.create (x : Ex) (d : Int) (e : Evt) : Ex :=
 { x with n := w64 (x.n + 1), out := if w64 (x.ev.time + d) > 1152921504606846976 then x.out else x.out ++ [⟨w64 (x.ev.time + d), x.kid, e.lp, e.kind, e.proc, e.arg⟩],
      over := if w64 (x.ev.time + d) > 1152921504606846976 then true else x.over }
structure Ex.Small (x : Ex) : Prop where
 procs : x.procs.length ≤ 1000
 out : x.out.length ≤ 1000
 gone : x.gone.length ≤ 1000
 key : x.ev.key.length ≤ 100000
theorem q3c (l : List Int) : qqr (l.map qca) (l.map qca) = true := qrj (fun x => by simp only [qca, qtk, qqy, q22, zgv, zfc, zgy]) l
theorem eq_procs (l : List Pr) : qqr (l.map Pr.r) (l.map Pr.r) = true := qrj (fun x => by simp only [Pr.r, q3c, qtk, qqy, q22, q6o, q29, zgv, zfc, zgy, beq_self_eq_true]) l
theorem eq_evts (l : List Evt) : qqr (l.map Evt.r) (l.map Evt.r) = true := qrj (fun x => by simp only [Evt.r, q3c, qtk, qqy, q22, q29, zgv, zfc, zgy, beq_self_eq_true]) l
theorem eq_keys (l : List (List Int)) : qqr (l.map qfv) (l.map qfv) = true := qrj (fun x => by simp only [qfv, q3c, qtk, qqy, q29, zfc, zgy, beq_self_eq_true]) l
set_option maxRecDepth 10000
def qo8 (a b : Int) : Int := if a < b then -1 else if a > b then 1 else 0
theorem qmi (a b : Int) : qbb (evL T) qfj [(ii a), (ii b)] = some (ii (qo8 a b)) := by
 rw [qbb, qy qu5 qui]
 by_cases h1 : a < b
 ·simp only [qia, qo8, h1, qn, Ev.exec, qb, qe, qc, qai, Ev.Opnd.ev, Ev.Env.get, Ev.Env.set, Ev.look, qo, ql, qm, qab, qaj, Ev.kill, qah, qd, qa4, qap, ↓qr, ↓reduceIte, zga, zgb, zfe, Nat.reduceAdd, Nat.reduceEqDiff, Int.reduceNeg, reduceCtorEq, zgv, zgx, zfd, zgy]
 by_cases h2 : a > b
 ·simp only [qia, qo8, h1, h2, qn, Ev.exec, qb, qe, qc, qai, Ev.Opnd.ev, Ev.Env.get, Ev.Env.set, Ev.look, qo, ql, qaq, qm, qab, qaj, Ev.kill, qah, qd, qa4, qap, ↓qr, ↓reduceIte, zga, zgb, zfe, Nat.reduceAdd, Nat.reduceEqDiff, Int.reduceNeg, reduceCtorEq, zgv, zgw, zfa, zgx, zfd, zgy]
 ·simp only [qia, qo8, h1, h2, qn, Ev.exec, qb, qe, qc, qai, Ev.Opnd.ev, Ev.Env.get, Ev.Env.set, Ev.look, qo, ql, qaq, qm, qab, qaj, Ev.kill, qah, qd, qa4, qap, ↓qr, ↓reduceIte, zga, zgb, zfe, Nat.reduceAdd, Nat.reduceEqDiff, Int.reduceNeg, reduceCtorEq, zgw, zfa, zgx, zfd, zgy]
def qla : List Int → List Int → Int
 | x :: a, y :: b => if x = y then qla a b else qo8 x y
 | [], b => if b.length = 0 then 0 else -1
 | _ :: _, [] => 1
theorem qvr : ∀ a b : List Int, ((a.zip b).all (fun z => decide (z.1 = z.2)) = true → qla a b = qo8 a.length b.length) ∧ ∀ x, (a.zip b).find? (fun z => !decide (z.1 = z.2)) = some x → qla a b = qo8 x.1 x.2
 | [], b => by
  refine ⟨fun _ => ?_, fun x h => by simp at h⟩
  cases b with
  | nil => rfl
  | cons y b =>
   have : ((0 : Nat) : Int) < ((y :: b).length : Int) := by simp only [zga]; omega
   simp only [qla, zga, Nat.succ_ne_zero, if_false, qo8, zgb]
   rw [if_pos (by omega)]
 | x :: a, [] => by
  refine ⟨fun _ => ?_, fun x h => by simp at h⟩
  simp only [qla, qo8, zga, zgb]
  rw [if_neg (by omega), if_pos (by omega)]
 | x :: a, y :: b => by
  obtain ⟨h1, h2⟩ := qvr a b
  simp only [List.zip_cons_cons, List.all_cons, List.find?_cons, qla, zga]
  by_cases h : x = y
  ·simp only [h, zgv, Bool.true_and, if_true, Bool.not_true]
   refine ⟨fun k => ?_, h2⟩
   rw [h1 k]; unfold qo8
   have e1 : ((a.length : Int) < b.length) ↔ (((a.length + 1 : Nat) : Int) < ((b.length + 1 : Nat) : Int)) := by omega
   have e2 : ((a.length : Int) > b.length) ↔ (((a.length + 1 : Nat) : Int) > ((b.length + 1 : Nat) : Int)) := by omega
   simp only [e1, e2]
  ·simp only [h, zgw, Bool.false_and, if_false, Bool.not_false]
   exact ⟨fun k => by simp at k, fun z k => by simp at k; rw [← k]⟩
theorem qye (a b : Int) : qo8 a b = 0 ↔ a = b := by
 unfold qo8; split
 ·constructor <;> intro h <;> omega
 split
 ·constructor <;> intro h <;> omega
 ·constructor <;> intro h <;> omega
theorem qur : ∀ a b : List Int, qla a b = 0 ↔ a = b
 | [], [] => by simp [qla]
 | [], y :: b => by simp [qla]
 | x :: a, [] => by simp [qla]
 | x :: a, y :: b => by
  simp only [qla, List.cons.injEq]
  split
  next h => rw [qur a b]; simp [h]
  next h => rw [qye]; simp [h]
section
variable (a b : List Int) (c d : Bool)
theorem q2p (h1 : a.length ≤ 9223372036854775807) (h2 : b.length ≤ 9223372036854775807) :
  ∃ y, itB (exec (evL T) itL none qeh) (qs [0, 1, 5] true 0) ⟨[(0, (.fsl ((a).map qca) c)), (1, (.fsl ((b).map qca) d)), (5, (ii 0))], []⟩ [] = some y ∧
   ((a.zip b).all (fun z => decide (z.1 = z.2)) = true ∧ (y.1 = .exit 0 ∧ y.2.1.marks = [] ∧ y.2.2 = [] ∧ Ev.look y.2.1.vars 0 = some (.fsl ((a).map qca) c) ∧ Ev.look y.2.1.vars 1 = some (.fsl ((b).map qca) d)) ∨
   (a.zip b).all (fun z => decide (z.1 = z.2)) = false ∧ ∃ x, (a.zip b).find? (fun z => !decide (z.1 = z.2)) = some x ∧ (y.1 = .ret ∧ y.2.1.marks = [] ∧ y.2.2 = [] ∧ Ev.look y.2.1.vars 4 = some (ii (qo8 x.1 x.2)))) := by
 have hzl : (a.zip b).length = min a.length b.length := List.length_zip
 refine qju (a.zip b) (fun i => ⟨[(0, (.fsl ((a).map qca) c)), (1, (.fsl ((b).map qca) d)), (5, (ii i))], []⟩) [] (fun z => decide (z.1 = z.2)) _ (fun x y => _) ?_ ?_ ?_
 ·intro i x hi hx hp
  rw [hzl] at hi
  have hi' : (i : Int) < (a.length : Int) := by omega
  have hi2 : (i : Int) < (b.length : Int) := by omega
  have hw : IntKind.i64.wrap ((i : Int) + 1) = ((i + 1 : Nat) : Int) := by rw [qay (by omega) (by omega)]; simp
  obtain ⟨hxa, hxb⟩ := List.getElem?_zip_eq_some.1 hx
  have hp' := of_decide_eq_true hp
  simp only [qeh, zgs, zgr, zgq, zgt, hxa, hxb, hi', hi2, hw, hp', qag, qca, Ev.exec, qb, qe, qc, qai, Ev.Opnd.ev, Ev.Env.get, Ev.Env.set, Ev.look, qk, qad, qaf, qb6, ql, qs, Ev.keep, qae, qx, qd, qa4, qu, zgi, ↓qr, Ev.it1, ↓reduceIte, zga, zgb, zfe, zgh, Nat.reduceEqDiff, reduceCtorEq, zgv, zgw, zfc, zfa, zgx, ne_eq, not_true_eq_false, zfd, zgy]
 ·intro i x hi hx hp
  rw [hzl] at hi
  have hi' : (i : Int) < (a.length : Int) := by omega
  have hi2 : (i : Int) < (b.length : Int) := by omega
  obtain ⟨hxa, hxb⟩ := List.getElem?_zip_eq_some.1 hx
  have hp' : ¬ x.1 = x.2 := of_decide_eq_false hp
  have hc := qmi x.1 x.2
  simp only [qeh, zgs, zgr, zgq, zgt, hxa, hxb, hi', hi2, hp', hc, qca, Ev.exec, qb, qe, qc, qa2, qai, Ev.evs, Ev.Opnd.ev, Ev.Env.get, Ev.Env.set, Ev.look, qk, qad, qb6, ql, qa4, qj, qh, zgi, ↓qr, Ev.it1, ↓reduceIte, zga, zgb, zgh, Nat.reduceEqDiff, reduceCtorEq, zgv, zfc, zfa, ne_eq, zfb, zfd, zgy]
  exact ⟨_, rfl, rfl, rfl, rfl, rfl⟩
 ·rw [hzl]
  by_cases hab : a.length ≤ b.length
  ·rw [Nat.min_eq_left hab]
   simp only [qeh, Int.lt_irrefl, Ev.exec, qb, qe, qc, qai, Ev.Opnd.ev, Ev.Env.get, Ev.Env.set, Ev.Env.unset, Ev.look, ql, zgi, ↓qr, Ev.it1, ↓reduceIte, Nat.reduceEqDiff, reduceCtorEq, zgw, zfa, zgy]
   exact ⟨_, rfl, rfl, rfl, rfl, rfl, rfl⟩
  ·rw [Nat.min_eq_right (by omega)]
   have h3 : (b.length : Int) < (a.length : Int) := by omega
   simp only [qeh, Int.lt_irrefl, h3, Ev.exec, qb, qe, qc, qai, Ev.Opnd.ev, Ev.Env.get, Ev.Env.set, Ev.look, ql, zgi, ↓qr, Ev.it1, ↓reduceIte, Nat.reduceEqDiff, reduceCtorEq, zgv, zgw, zfa, zgy]
   exact ⟨_, rfl, rfl, rfl, rfl, rfl, rfl⟩
theorem qsm (h1 : a.length ≤ 9223372036854775807) (h2 : b.length ≤ 9223372036854775807) : qbb (evL T) qd5 [(.fsl ((a).map qca) c), (.fsl ((b).map qca) d)] = some (ii (qla a b)) := by
 obtain ⟨⟨y, e, σ⟩, k1, k2⟩ := q2p a b c d h1 h2
 simp only at k2
 obtain ⟨z1, z2⟩ := qvr a b
 rw [qbb, qy qrk qqq]
 rcases k2 with ⟨k3, rfl, k4, rfl, k5, k6⟩ | ⟨k3, x, k7, rfl, k4, rfl, k5⟩
 ·have hc := qmi a.length b.length
  rw [z1 k3]
  simp only [qg3, k1, k4, k5, k6, hc, qag, qn, Ev.exec, qb, qe, qc, qa2, qai, Ev.evs, Ev.Opnd.ev, Ev.Env.get, Ev.Env.set, Ev.look, qo, qm, qab, qaj, Ev.kill, qah, qs, Ev.keep, qae, qx, qd, qa4, qu, qj, qh, qap, zgi, ↓qr, ↓qar, ↓reduceIte, zga, zgb, zfe, Nat.reduceAdd, Nat.reduceEqDiff, reduceCtorEq, zfc, zgx, zfd, zgy]
 ·rw [z2 x k7]
  simp only [qg3, k1, k4, k5, qag, qn, Ev.exec, qb, qe, qc, qai, Ev.Opnd.ev, Ev.Env.get, Ev.Env.set, Ev.look, qo, qm, qab, qaj, Ev.kill, qah, qs, Ev.keep, qae, qx, qd, qa4, qu, qap, ↓qr, ↓qar, ↓reduceIte, zga, zgb, zfe, Nat.reduceAdd, Nat.reduceEqDiff, reduceCtorEq, zfc, zgx, zfd, zgy]
theorem qve (h1 : a.length ≤ 9223372036854775807) (h2 : b.length ≤ 9223372036854775807) : qbb (evL T) qfg [(.fsl ((a).map qca) c), (.fsl ((b).map qca) d)] = some (bb (decide (a = b))) := by
 have hk := qsm a b c d h1 h2
 have hz := qur a b
 rw [qbb, qy qvj qud]
 by_cases h : a = b
 ·have h3 := hz.2 h
  rw [h3] at hk
  simp only [h, zgv]
  simp only [h] at hk
  simp only [qj6, hk, qag, qn, Ev.exec, qb, qe, qc, qa2, qai, Ev.evs, Ev.Opnd.ev, Ev.Env.get, Ev.Env.set, Ev.look, qo, qak, qm, qab, qaj, Ev.kill, qah, qd, qa4, qu, qj, qh, qap, ↓qr, ↓reduceIte, zga, zgb, zfe, Nat.reduceAdd, Nat.reduceEqDiff, reduceCtorEq, zgv, zfc, zgx, zfd, zgy]
 ·have h3 : ¬ qla a b = 0 := fun k => h (hz.1 k)
  simp only [h, zgw]
  simp only [qj6, hk, h3, qag, qn, Ev.exec, qb, qe, qc, qa2, qai, Ev.evs, Ev.Opnd.ev, Ev.Env.get, Ev.Env.set, Ev.look, qo, qak, qm, qab, qaj, Ev.kill, qah, qd, qa4, qu, qj, qh, qap, ↓qr, ↓reduceIte, zga, zgb, zfe, Nat.reduceAdd, Nat.reduceEqDiff, reduceCtorEq, zgw, zfc, zgx, zfd, zgy]
end
structure Evt.Short (x : Evt) : Prop where
 key : x.key.length ≤ 9223372036854775807
theorem q39 (x y : Evt) (hx : x.key.length ≤ 9223372036854775807) (hy : y.key.length ≤ 9223372036854775807) : qbb (evL T) qfp [(.agg [(ii x.time), (.fsl ((x.key).map qca) false), (ii x.lp), (ii x.kind), (ii x.proc), (ii x.arg)]), (.agg [(ii y.time), (.fsl ((y.key).map qca) false), (ii y.lp), (ii y.kind), (ii y.proc), (ii y.arg)])] = some (bb (decide (x = y))) := by
 obtain ⟨xt, xk, xl, xi, xp, xa⟩ := x
 obtain ⟨yt, yk, yl, yi, yp, ya⟩ := y
 have hk := qve xk yk false false hx hy
 simp only [Evt.mk.injEq]
 rw [qbb, qy qs0 qr7]
 by_cases h1 : xt = yt
 case neg => simp only [qdx, h1, false_and, zgw, qn, Ev.exec, qb, qe, qc, qai, Ev.Opnd.ev, Ev.Env.get, Ev.Env.set, Ev.Env.unset, Ev.look, qo, qk, qad, Ev.AV.cells, qw, Ev.AV.plain, qak, qm, qab, qaj, Ev.kill, qah, qd, qa4, qap, ↓qr, ↓reduceIte, zga, zgb, zfe, zgg, zgh, Nat.reduceAdd, Nat.reduceEqDiff, reduceCtorEq, zgw, zfc, zfa, zgx, ne_eq, zfb, zff, zfd, zgy, false_and]
 by_cases h2 : xk = yk
 case neg =>
  simp only [h2, zgw] at hk
  simp only [qdx, h1, h2, hk, qag, false_and, and_false, zgw, qn, Ev.exec, qb, qe, qc, qa2, qai, Ev.evs, Ev.Opnd.ev, Ev.Env.get, Ev.Env.set, Ev.Env.unset, Ev.look, qo, qk, qad, Ev.AV.cells, qw, Ev.AV.plain, qak, qm, qab, qaj, Ev.kill, qah, qd, qa4, qu, qj, qh, qap, ↓qr, ↓reduceIte, zga, zgb, zfe, zgf, zgg, zgh, Nat.reduceAdd, Nat.reduceEqDiff, reduceCtorEq, zgv, zgw, zfc, zfa, zgx, ne_eq, zfb, zff, zfd, zgy, false_and, and_false]
 simp only [h2, zgv] at hk
 by_cases h3 : xl = yl
 case neg => simp only [qdx, h1, h2, h3, hk, qag, false_and, and_false, zgw, qn, Ev.exec, qb, qe, qc, qa2, qai, Ev.evs, Ev.Opnd.ev, Ev.Env.get, Ev.Env.set, Ev.Env.unset, Ev.look, qo, qk, qad, Ev.AV.cells, qw, Ev.AV.plain, qak, qm, qab, qaj, Ev.kill, qah, qd, qa4, qu, qj, qh, qap, ↓qr, ↓reduceIte, zga, zgb, zfe, zgf, zgg, zgh, Nat.reduceAdd, Nat.reduceEqDiff, reduceCtorEq, zgv, zgw, zfc, zfa, zgx, ne_eq, zfb, zff, zfd, zgy, false_and, and_false]
 by_cases h4 : xi = yi
 case neg => simp only [qdx, h1, h2, h3, h4, hk, qag, false_and, and_false, zgw, qn, Ev.exec, qb, qe, qc, qa2, qai, Ev.evs, Ev.Opnd.ev, Ev.Env.get, Ev.Env.set, Ev.Env.unset, Ev.look, qo, qk, qad, Ev.AV.cells, qw, Ev.AV.plain, qak, qm, qab, qaj, Ev.kill, qah, qd, qa4, qu, qj, qh, qap, ↓qr, ↓reduceIte, zga, zgb, zfe, zgf, zgg, zgh, Nat.reduceAdd, Nat.reduceEqDiff, reduceCtorEq, zgv, zgw, zfc, zfa, zgx, ne_eq, zfb, zff, zfd, zgy, false_and, and_false]
 by_cases h5 : xp = yp
 case neg => simp only [qdx, h1, h2, h3, h4, h5, hk, qag, false_and, and_false, zgw, qn, Ev.exec, qb, qe, qc, qa2, qai, Ev.evs, Ev.Opnd.ev, Ev.Env.get, Ev.Env.set, Ev.Env.unset, Ev.look, qo, qk, qad, Ev.AV.cells, qw, Ev.AV.plain, qak, qm, qab, qaj, Ev.kill, qah, qd, qa4, qu, qj, qh, qap, ↓qr, ↓reduceIte, zga, zgb, zfe, zgf, zgg, zgh, Nat.reduceAdd, Nat.reduceEqDiff, reduceCtorEq, zgv, zgw, zfc, zfa, zgx, ne_eq, zfb, zff, zfd, zgy, false_and, and_false]
 by_cases h6 : xa = ya
 case neg => simp only [qdx, h1, h2, h3, h4, h5, h6, hk, qag, and_false, zgw, qn, Ev.exec, qb, qe, qc, qa2, qai, Ev.evs, Ev.Opnd.ev, Ev.Env.get, Ev.Env.set, Ev.look, qo, qk, qad, Ev.AV.cells, qw, Ev.AV.plain, qak, qm, qab, qaj, Ev.kill, qah, qd, qa4, qu, qj, qh, qap, ↓qr, ↓reduceIte, zga, zgb, zfe, zgf, zgg, zgh, Nat.reduceAdd, Nat.reduceEqDiff, reduceCtorEq, zgv, zgw, zfc, zfa, zgx, ne_eq, zfb, zff, zfd, zgy, and_false]
 simp only [qdx, h1, h2, h3, h4, h5, h6, hk, qag, zgx, zgv, qn, Ev.exec, qb, qe, qc, qa2, qai, Ev.evs, Ev.Opnd.ev, Ev.Env.get, Ev.Env.set, Ev.look, qo, qk, qad, Ev.AV.cells, qw, Ev.AV.plain, qak, qm, qab, qaj, Ev.kill, qah, qd, qa4, qu, qj, qh, qap, ↓qr, ↓reduceIte, zga, zgb, zfe, zgf, zgg, zgh, Nat.reduceAdd, Nat.reduceEqDiff, reduceCtorEq, zgv, zfc, zfa, zgx, ne_eq, zfb, zff, zfd, zgy]
section
variable (a b : List Evt) (c d : Bool)
end
set_option maxRecDepth 10000
theorem q4r (a : Int) : qbb (evL T) qf4 [(ii a)] = some (bb false) := by
 rw [qbb, qy qu6 qul]
 simp only [qlp, qn, Ev.exec, qb, qe, qc, qai, Ev.Opnd.ev, Ev.Env.get, Ev.Env.set, Ev.look, qo, qb6, qm, qab, qaj, Ev.kill, qah, qd, qa4, qap, ↓qr, ↓reduceIte, zga, zgb, zfe, Nat.reduceEqDiff, reduceCtorEq, zgw, zgx, ne_eq, not_true_eq_false, zfd, zgy]
theorem qkk (a b : Int) : qbb (evL T) qe5 [(ii a), (ii b)] = some (ii (qo8 a b)) := by
 have h0 := q4r
 rw [qbb, qy qtf qsb]
 by_cases h1 : a < b
 ·simp only [qg1, qo8, h0, h1, qn, Ev.exec, qb, qe, qc, qa2, qai, Ev.evs, Ev.Opnd.ev, Ev.Env.get, Ev.Env.set, Ev.look, qo, ql, qm, qab, qaj, Ev.kill, qah, qd, qa4, qj, qh, qap, ↓qr, ↓reduceIte, zga, zgb, zfe, Nat.reduceAdd, Nat.reduceEqDiff, Int.reduceNeg, reduceCtorEq, zgv, zfc, zfa, zgx, zfd, zgy]
 by_cases h2 : a > b
 ·simp only [qg1, qo8, h0, h1, h2, qn, Ev.exec, qb, qe, qc, qa2, qai, Ev.evs, Ev.Opnd.ev, Ev.Env.get, Ev.Env.set, Ev.look, qo, ql, qaq, qm, qab, qaj, Ev.kill, qah, qd, qa4, qj, qh, qap, ↓qr, ↓reduceIte, zga, zgb, zfe, Nat.reduceAdd, Nat.reduceEqDiff, Int.reduceNeg, reduceCtorEq, zgv, zgw, zfc, zfa, zgx, zfd, zgy]
 ·simp only [qg1, qo8, h0, h1, h2, qn, Ev.exec, qb, qe, qc, qa2, qai, Ev.evs, Ev.Opnd.ev, Ev.Env.get, Ev.Env.set, Ev.look, qo, ql, qaq, qm, qab, qaj, Ev.kill, qah, qd, qa4, qj, qh, qap, ↓qr, ↓reduceIte, zga, zgb, zfe, Nat.reduceAdd, Nat.reduceEqDiff, Int.reduceNeg, reduceCtorEq, zgw, zfc, zfa, zgx, zfd, zgy]
theorem q85 (x z : Int) (c : Bool) : qbb (evL T) qjx [(.fsl (([x, z]).map qca) c)] = some (ii (if x = 0 then z else x)) := by
 have hL : ∃ y, itB (exec (evL T) itL none qj3) (qs [3, 6, 7, 8] true 0) ⟨[(3, (ii 0)), (6, (.fsl (([x, z]).map qca) c)), (7, (ii 2)), (8, (ii 0))], []⟩ [] = some y ∧ ([x, z].all (fun v => decide (v = 0)) = true ∧ (y.1 = .exit 0 ∧ y.2.1.marks = [] ∧ y.2.2 = [] ∧ Ev.look y.2.1.vars 3 = some (ii 0)) ∨
   [x, z].all (fun v => decide (v = 0)) = false ∧ ∃ v, [x, z].find? (fun v => !decide (v = 0)) = some v ∧ (y.1 = .ret ∧ y.2.1.marks = [] ∧ y.2.2 = [] ∧ Ev.look y.2.1.vars 2 = some (ii v))) := by
  refine qju [x, z] (fun i => ⟨[(3, (ii 0)), (6, (.fsl (([x, z]).map qca) c)), (7, (ii 2)), (8, (ii i))], []⟩) [] (fun v => decide (v = 0)) _ (fun v y => _) ?_ ?_ ?_
  ·intro i v hi hv hp
   have hi2 : (i : Int) < 2 := by simp at hi; omega
   have hw : IntKind.i64.wrap ((i : Int) + 1) = ((i + 1 : Nat) : Int) := by rw [qay (by omega) (by omega)]; simp
   have hp' := of_decide_eq_true hp
   subst hp'
   have hl := qag 0 [x, z]
   generalize [x, z] = l at hv hl ⊢
   simp only [qj3, zgs, zgr, zgq, zgt, hv, hl, hi2, hw, qca, Ev.exec, qb, qe, qc, qai, Ev.Opnd.ev, Ev.Env.get, Ev.Env.set, Ev.look, qk, qad, qaf, qb6, ql, qs, Ev.keep, qae, qx, qd, qa4, qu, ↓qr, Ev.it1, ↓reduceIte, zga, zgb, zfe, zgh, Nat.reduceEqDiff, zgv, zgw, zfc, zfa, zgx, ne_eq, not_true_eq_false, zfd, zgy]
  ·intro i v hi hv hp
   have hi2 : (i : Int) < 2 := by simp at hi; omega
   have hp' : ¬ v = 0 := of_decide_eq_false hp
   have hl := qag 0 [x, z]
   generalize [x, z] = l at hv hl ⊢
   simp only [qj3, zgs, zgr, zgq, zgt, hv, hi2, hp', qca, Ev.exec, qb, qe, qc, qai, Ev.Opnd.ev, Ev.Env.get, Ev.Env.set, Ev.look, qk, qad, qb6, ql, ↓qr, Ev.it1, ↓reduceIte, zga, zgb, zgh, Nat.reduceEqDiff, zgv, zfa, ne_eq, zfb, zfd, zgy]
   exact ⟨_, rfl, rfl, rfl, rfl, rfl⟩
  ·have hl := qag 0 [x, z]
   rw [show ([x, z] : List Int).length = 2 from rfl]
   simp only [qj3, Int.lt_irrefl, Int.cast_ofNat_Int, Ev.exec, qb, qe, qc, qai, Ev.Opnd.ev, Ev.Env.get, Ev.Env.set, Ev.look, ql, ↓qr, Ev.it1, ↓reduceIte, Nat.reduceEqDiff, Int.cast_ofNat_Int, zgw, zfa, zgy]
   exact ⟨_, rfl, rfl, rfl, rfl, rfl⟩
 obtain ⟨⟨y, e, σ⟩, k1, k2⟩ := hL
 simp only at k2
 have hl := qag 0 [x, z]
 have hn : ([x, z].map qca).length = 2 := rfl
 rw [qbb, qy q0x qzr]
 rcases k2 with ⟨k3, rfl, k4, rfl, k5⟩ | ⟨k3, v, k6, rfl, k4, rfl, k5⟩
 ·have h1 : x = 0 ∧ z = 0 := by simpa using k3
  have h2 : (if x = 0 then z else x) = 0 := by rw [if_pos h1.1, h1.2]
  rw [h2]
  generalize [x, z].map qca = l at k1 hl hn ⊢
  simp only [ql8, hn, Int.cast_ofNat_Int, k1, k4, k5, hl, qn, Ev.exec, qb, qe, qc, qai, Ev.Opnd.ev, Ev.Env.get, Ev.Env.set, Ev.look, qo, qm, qab, qaj, Ev.kill, qah, qs, Ev.keep, qae, qx, qd, qa4, qu, qap, ↓qr, ↓qar, ↓reduceIte, zga, zgb, zfe, Nat.reduceEqDiff, Int.cast_ofNat_Int, reduceCtorEq, zfc, zgx, zfd, zgy]
 ·have h1 : (if x = 0 then z else x) = v := by
   rw [List.find?_cons] at k6
   by_cases hx : x = 0
   ·rw [if_pos hx]; simp [hx] at k6; exact k6.2
   ·rw [if_neg hx]; simp [hx] at k6; exact k6
  rw [h1]
  generalize [x, z].map qca = l at k1 hl hn ⊢
  simp only [ql8, hn, Int.cast_ofNat_Int, k1, k4, k5, hl, qn, Ev.exec, qb, qe, qc, qai, Ev.Opnd.ev, Ev.Env.get, Ev.Env.set, Ev.look, qo, qm, qab, qaj, Ev.kill, qah, qs, Ev.keep, qae, qx, qd, qa4, qu, qap, ↓qr, ↓qar, ↓reduceIte, zga, zgb, zfe, Nat.reduceEqDiff, Int.cast_ofNat_Int, reduceCtorEq, zfc, zgx, zfd, zgy]
theorem qop (x z : Int) (c : Bool) : qbb (evL T) qis [(.fsl (([x, z]).map qca) c)] = some (ii (if x = 0 then z else x)) := by
 have h := q85 x z c
 have hl := qag 0 [x, z]
 generalize [x, z].map qca = l at h hl ⊢
 rw [qbb, qy qzn qws]
 simp only [qm5, h, hl, qn, Ev.exec, qb, qe, qc, qa2, qai, Ev.evs, Ev.Opnd.ev, Ev.Env.get, Ev.Env.set, Ev.look, qo, qm, qab, qaj, Ev.kill, qah, qd, qa4, qu, qj, qh, qap, ↓qr, ↓reduceIte, zga, zgb, zfe, reduceCtorEq, zfc, zgx, zfd, zgy]
section
variable (a b : List Int) (c d : Bool)
theorem qwy (h1 : a.length ≤ 9223372036854775807) (h2 : b.length ≤ 9223372036854775807) :
  ∃ y, itB (exec (evL T) itL none qdf) (qs [0, 1, 9, 10, 11] true 0) ⟨[(0, (.fsl ((a).map qca) c)), (1, (.fsl ((b).map qca) d)), (9, (.fsl ((a).map qca) c)), (10, (ii a.length)), (11, (ii 0))], []⟩ [] = some y ∧
   ((a.zip b).all (fun z => decide (z.1 = z.2)) = true ∧ (a.length ≤ b.length ∧ y.1 = .exit 0 ∧ y.2.1.marks = [] ∧ y.2.2 = [] ∧ Ev.look y.2.1.vars 0 = some (.fsl ((a).map qca) c) ∧ Ev.look y.2.1.vars 1 = some (.fsl ((b).map qca) d) ∨ b.length < a.length ∧ y.1 = .ret ∧ y.2.1.marks = [] ∧ y.2.2 = [] ∧ Ev.look y.2.1.vars 4 = some (ii 1)) ∨
   (a.zip b).all (fun z => decide (z.1 = z.2)) = false ∧ ∃ x, (a.zip b).find? (fun z => !decide (z.1 = z.2)) = some x ∧ (y.1 = .ret ∧ y.2.1.marks = [] ∧ y.2.2 = [] ∧ Ev.look y.2.1.vars 4 = some (ii (qo8 x.1 x.2)))) := by
 have hzl : (a.zip b).length = min a.length b.length := List.length_zip
 refine qju (a.zip b) (fun i => ⟨[(0, (.fsl ((a).map qca) c)), (1, (.fsl ((b).map qca) d)), (9, (.fsl ((a).map qca) c)), (10, (ii a.length)), (11, (ii i))], []⟩) [] (fun z => decide (z.1 = z.2)) _ (fun x y => _) ?_ ?_ ?_
 ·intro i x hi hx hp
  rw [hzl] at hi
  have hi' : (i : Int) < (a.length : Int) := by omega
  have hi2 : ¬ (i : Int) ≥ (b.length : Int) := by omega
  have hw : IntKind.i64.wrap ((i : Int) + 1) = ((i + 1 : Nat) : Int) := by rw [qay (by omega) (by omega)]; simp
  obtain ⟨hxa, hxb⟩ := List.getElem?_zip_eq_some.1 hx
  have hp' := of_decide_eq_true hp
  have hc := qkk x.1 x.2
  rw [(qye x.1 x.2).2 hp'] at hc
  simp only [qdf, zgs, zgr, zgq, zgt, hxa, hxb, hi', hi2, hw, hc, qag, qca, Ev.exec, qb, qe, qc, qa2, qai, Ev.evs, Ev.Opnd.ev, Ev.Env.get, Ev.Env.set, Ev.look, qk, qad, qaf, qb6, ql, qb2, qs, Ev.keep, qae, qx, qd, qa4, qu, qj, qh, zgi, ↓qr, Ev.it1, ↓reduceIte, zga, zgb, zfe, zgh, Nat.reduceEqDiff, reduceCtorEq, zgv, zgw, zfc, zfa, zgx, ne_eq, not_true_eq_false, zfd, zgy]
 ·intro i x hi hx hp
  rw [hzl] at hi
  have hi' : (i : Int) < (a.length : Int) := by omega
  have hi2 : ¬ (i : Int) ≥ (b.length : Int) := by omega
  obtain ⟨hxa, hxb⟩ := List.getElem?_zip_eq_some.1 hx
  have hp' : ¬ x.1 = x.2 := of_decide_eq_false hp
  have hc := qkk x.1 x.2
  have hz : ¬ qo8 x.1 x.2 = 0 := fun h => hp' ((qye _ _).1 h)
  simp only [qdf, zgs, zgr, zgq, zgt, hxa, hxb, hi', hi2, hz, hc, qca, Ev.exec, qb, qe, qc, qa2, qai, Ev.evs, Ev.Opnd.ev, Ev.Env.get, Ev.Env.set, Ev.look, qk, qad, qb6, ql, qb2, qa4, qj, qh, zgi, ↓qr, Ev.it1, ↓reduceIte, zga, zgb, zgh, Nat.reduceEqDiff, reduceCtorEq, zgv, zgw, zfc, zfa, ne_eq, zfb, zfd, zgy]
  exact ⟨_, rfl, rfl, rfl, rfl, rfl⟩
 ·rw [hzl]
  by_cases hab : a.length ≤ b.length
  ·rw [Nat.min_eq_left hab]
   simp only [qdf, Int.lt_irrefl, Ev.exec, qb, qe, qc, qai, Ev.Opnd.ev, Ev.Env.get, Ev.Env.set, Ev.look, ql, ↓qr, Ev.it1, ↓reduceIte, Nat.reduceEqDiff, reduceCtorEq, zgw, zfa, zgy]
   exact ⟨_, rfl, .inl ⟨hab, rfl, rfl, rfl, rfl, rfl⟩⟩
  ·rw [Nat.min_eq_right (by omega)]
   have h3 : (b.length : Int) < (a.length : Int) := by omega
   obtain ⟨x, hx⟩ : ∃ x, a[b.length]? = some x := ⟨_, List.getElem?_eq_getElem (by omega)⟩
   have h4 : (b.length : Int) ≥ (b.length : Int) := Int.le_refl _
   simp only [qdf, zgs, zgr, zgq, zgt, h3, h4, hx, qca, Ev.exec, qb, qe, qc, qai, Ev.Opnd.ev, Ev.Env.get, Ev.Env.set, Ev.look, qk, qad, ql, qb2, zgi, ↓qr, Ev.it1, ↓reduceIte, zga, zgb, zgh, Nat.reduceEqDiff, reduceCtorEq, zgv, zfa, zfd, zgy]
   exact ⟨_, rfl, .inr ⟨by omega, rfl, rfl, rfl, rfl⟩⟩
theorem qvi (h1 : a.length ≤ 9223372036854775807) (h2 : b.length ≤ 9223372036854775807) : qbb (evL T) qdb [(.fsl ((a).map qca) c), (.fsl ((b).map qca) d)] = some (ii (qla a b)) := by
 obtain ⟨⟨y, e, σ⟩, k1, k2⟩ := qwy a b c d h1 h2
 simp only at k2
 obtain ⟨z1, z2⟩ := qvr a b
 rw [qbb, qy qnk qm3]
 rcases k2 with ⟨k3, ⟨k7, rfl, k4, rfl, k5, k6⟩ | ⟨k7, rfl, k4, rfl, k5⟩⟩ | ⟨k3, x, k7, rfl, k4, rfl, k5⟩
 ·rw [z1 k3]
  by_cases hl : (a.length : Int) < (b.length : Int)
  ·simp only [qdc, k1, k4, k5, k6, hl, qo8, qag, qn, Ev.exec, qb, qe, qc, qai, Ev.Opnd.ev, Ev.Env.get, Ev.Env.set, Ev.look, qo, ql, qm, qab, qaj, Ev.kill, qah, qs, Ev.keep, qae, qx, qd, qa4, qu, qap, zgi, ↓qr, ↓qar, ↓reduceIte, zga, zgb, zfe, Nat.reduceAdd, Nat.reduceEqDiff, Int.reduceNeg, reduceCtorEq, zgv, zfc, zgx, zfd, zgy]
  ·have hg : ¬ (a.length : Int) > (b.length : Int) := by omega
   simp only [qdc, k1, k4, k5, k6, hl, hg, qo8, qag, qn, Ev.exec, qb, qe, qc, qai, Ev.Opnd.ev, Ev.Env.get, Ev.Env.set, Ev.look, qo, ql, qm, qab, qaj, Ev.kill, qah, qs, Ev.keep, qae, qx, qd, qa4, qu, qap, zgi, ↓qr, ↓qar, ↓reduceIte, zga, zgb, zfe, Nat.reduceAdd, Nat.reduceEqDiff, Int.reduceNeg, reduceCtorEq, zgw, zfc, zfa, zgx, zfd, zgy]
 ·have hl : ¬ (a.length : Int) < (b.length : Int) := by omega
  have hg : (a.length : Int) > (b.length : Int) := by omega
  rw [z1 k3]
  simp only [qdc, k1, k4, k5, hl, hg, qo8, qag, qn, Ev.exec, qb, qe, qc, qai, Ev.Opnd.ev, Ev.Env.get, Ev.Env.set, Ev.look, qo, qm, qab, qaj, Ev.kill, qah, qs, Ev.keep, qae, qx, qd, qa4, qu, qap, zgi, ↓qr, ↓qar, ↓reduceIte, zga, zgb, zfe, Nat.reduceAdd, Nat.reduceEqDiff, Int.reduceNeg, reduceCtorEq, zfc, zgx, zfd, zgy]
 ·rw [z2 x k7]
  simp only [qdc, k1, k4, k5, qag, qn, Ev.exec, qb, qe, qc, qai, Ev.Opnd.ev, Ev.Env.get, Ev.Env.set, Ev.look, qo, qm, qab, qaj, Ev.kill, qah, qs, Ev.keep, qae, qx, qd, qa4, qu, qap, zgi, ↓qr, ↓qar, ↓reduceIte, zga, zgb, zfe, Nat.reduceAdd, Nat.reduceEqDiff, Int.reduceNeg, reduceCtorEq, zfc, zgx, zfd, zgy]
theorem qkf (h1 : a.length ≤ 9223372036854775807) (h2 : b.length ≤ 9223372036854775807) : qbb (evL T) qew [(.fsl ((a).map qca) c), (.fsl ((b).map qca) d)] = some (ii (qla a b)) := by
 have h := qvi a b c d h1 h2
 rw [qbb, qy qq0 qqo]
 simp only [qil, h, qag, qn, Ev.exec, qb, qe, qc, qa2, qai, Ev.evs, Ev.Opnd.ev, Ev.Env.get, Ev.Env.set, Ev.look, qo, qm, qab, qaj, Ev.kill, qah, qd, qa4, qu, qj, qh, qap, ↓qr, ↓reduceIte, zga, zgb, zfe, Nat.reduceAdd, Nat.reduceEqDiff, reduceCtorEq, zfc, zgx, zfd, zgy]
end
def qpu (x y : Evt) : Int := if qo8 x.time y.time = 0 then qla x.key y.key else qo8 x.time y.time
theorem qj8 (x y : Evt) (hx : x.key.length ≤ 9223372036854775807) (hy : y.key.length ≤ 9223372036854775807) (rs : Nat) (es : List (List AV)) (g : Nat) :
  (evL T).call qq [(.agg [(ii x.time), (.fsl ((x.key).map qca) false), (ii x.lp), (ii x.kind), (ii x.proc), (ii x.arg)]), (.agg [(ii y.time), (.fsl ((y.key).map qca) false), (ii y.lp), (ii y.kind), (ii y.proc), (ii y.arg)])] [.row rs es g] = some ((ii (qpu x y)), [.row rs es g]) := by
 obtain ⟨xt, xk, xl, xi, xp, xa⟩ := x
 obtain ⟨yt, yk, yl, yi, yp, ya⟩ := y
 have hc := qkk xt yt
 have hk := qkf xk yk false false hx hy
 have hf := qop (qo8 xt yt) (qla xk yk) true
 simp only [List.map_cons, List.map_nil, qca] at hf
 rw [qy qir qh7]
 simp only [qe2, show ∀ v : List AV, List.replicate 2 v = [v, v] from fun _ => rfl, hc, hk, hf, qpu, ite_self, qag, qn, Ev.exec, qb, qe, qc, qa2, qai, Ev.evs, Ev.Opnd.ev, Ev.Env.get, Ev.Env.set, Ev.look, qo, qk, qad, qf3, Ev.AV.cells, Ev.AV.uc, qw, Ev.AV.plain, qm, qab, qaj, Ev.kill, qah, qd, Ev.SObj.lo, qa4, qu, qj, qh, qac, qan, ↓qr, ↓reduceIte, zga, zgb, zgc, zfe, zgf, zgg, zgj, zgk, zgh, Nat.reduceAdd, Nat.reduceEqDiff, Nat.reduceMul, Nat.reduceLT, Nat.reduceLeDiff, Nat.reducePow, reduceCtorEq, zfc, Bool.and_true, zfa, zgx, true_and, ne_eq, zfb, zff, zfd, zgu, zgy]
theorem qqp (x y : Evt) (hx : x.key.length ≤ 9223372036854775807) (hy : y.key.length ≤ 9223372036854775807) :
  qbb (evL T) qq [(.agg [(ii x.time), (.fsl ((x.key).map qca) false), (ii x.lp), (ii x.kind), (ii x.proc), (ii x.arg)]), (.agg [(ii y.time), (.fsl ((y.key).map qca) false), (ii y.lp), (ii y.kind), (ii y.proc), (ii y.arg)])] = some (ii (qpu x y)) := by
 obtain ⟨xt, xk, xl, xi, xp, xa⟩ := x
 obtain ⟨yt, yk, yl, yi, yp, ya⟩ := y
 have hc := qkk xt yt
 have hk := qkf xk yk false false hx hy
 have hf := qop (qo8 xt yt) (qla xk yk) true
 simp only [List.map_cons, List.map_nil, qca] at hf
 rw [qbb, qy qir qh7]
 simp only [qe2, show ∀ v : List AV, List.replicate 2 v = [v, v] from fun _ => rfl, hc, hk, hf, qpu, qag, qn, Ev.exec, qb, qe, qc, qa2, qai, Ev.evs, Ev.Opnd.ev, Ev.Env.get, Ev.Env.set, Ev.look, qo, qk, qad, qf3, Ev.AV.cells, Ev.AV.uc, qw, Ev.AV.plain, qm, qab, qaj, Ev.kill, qah, qd, qa4, qu, qj, qh, qac, qan, qap, ↓qr, ↓reduceIte, zga, zgb, zfe, zgf, zgg, zgj, zgk, zgh, Nat.reduceAdd, Nat.reduceEqDiff, Nat.reduceMul, Nat.reduceLT, Nat.reduceLeDiff, Nat.reducePow, reduceCtorEq, zfc, zfa, zgx, ne_eq, zfb, zff, zfd, zgu, zgy]
end Go.Proofs.Ytbhhifdhlafklaa.K
namespace Go.Ev
section
variable {α : Type}
theorem qor {D L M : List α} {x : α} {n : Nat} (h : D = L ++ x :: M) (hn : n = L.length) : D[n]? = some x := by
 subst h hn; simp
theorem qvy {D L X M : List α} {i n : Nat} (h : D = L ++ (X ++ M)) (hi : i < X.length) (hn : n = L.length + i) : D[n]? = X[i]? := by
 subst h hn
 rw [List.getElem?_append_right (by omega), List.getElem?_append_left (by omega)]
 congr 1; omega
theorem q4u {D L M : List α} {x y : α} {n m : Nat} (h : D = L ++ y :: x :: M) (hn : n = L.length) (hm : m = n + 1) : (D.set m y).set n x = L ++ x :: y :: M := by
 subst h hm hn; simp []
theorem q8e {D L M : List α} {x y : α} {n m : Nat} (h : D = L ++ y :: x :: M) (hn : n = L.length) (hm : m = n + 1) : (D.set n x).set m y = L ++ x :: y :: M := by
 subst h hm hn; simp []
theorem swap_far {D L M N : List α} {x y : α} {n m : Nat} (h : D = L ++ x :: (M ++ y :: N)) (hn : n = L.length) (hm : m = n + 1 + M.length) : (D.set n y).set m x = L ++ y :: (M ++ x :: N) := by
 subst h hm hn
 rw [List.set_append, if_neg (Nat.lt_irrefl _), Nat.sub_self, List.set_cons_zero, List.set_append, if_neg (by omega), show L.length + 1 + M.length - L.length = M.length + 1 by omega, List.set_cons_succ, List.set_append, if_neg (Nat.lt_irrefl _), Nat.sub_self, List.set_cons_zero]
variable {R : α → α → Prop}
theorem cross (tr : ∀ a b c, R a b → R b c → R a c) {X Y : List α} (hX : X.Pairwise R) (hY : Y.Pairwise R) (h : ∀ u v, X[X.length - 1]? = some u → Y[0]? = some v → R u v) : ∀ a ∈ X, ∀ b ∈ Y, R a b := by
 intro a ha b hb
 obtain ⟨i, hi⟩ := List.mem_iff_getElem?.1 ha
 obtain ⟨j, hj⟩ := List.mem_iff_getElem?.1 hb
 obtain ⟨hi', hi⟩ := List.getElem?_eq_some_iff.1 hi
 obtain ⟨hj', hj⟩ := List.getElem?_eq_some_iff.1 hj
 rw [List.pairwise_iff_getElem] at hX hY
 have h0 := h _ _ (List.getElem?_eq_getElem (by omega)) (List.getElem?_eq_getElem (by omega))
 have h1 : R a Y[0] := by
  by_cases c : i = X.length - 1
  ·subst c; rw [← hi]; exact h0
  ·exact tr _ _ _ (by rw [← hi]; exact hX i (X.length - 1) hi' (by omega) (by omega)) h0
 by_cases c : j = 0
 ·subst c; rw [← hj]; exact h1
 ·exact tr _ _ _ h1 (by rw [← hj]; exact hY 0 j (by omega) hj' (by omega))
theorem q5i (tr : ∀ a b c, R a b → R b c → R a c) {X1 X2 Y1 Y2 Z1 Z2 : List α} (hX : (X1 ++ X2).Pairwise R) (hY : (Y1 ++ Y2).Pairwise R)
  (h1 : ∀ u v, X1[X1.length - 1]? = some u → Y2[0]? = some v → R u v) (h2 : ∀ u v, Y1[Y1.length - 1]? = some u → X2[0]? = some v → R u v)
  (p1 : Z1.Perm (X1 ++ Y1)) (p2 : Z2.Perm (X2 ++ Y2)) (s1 : Z1.Pairwise R) (s2 : Z2.Pairwise R) : (Z1 ++ Z2).Perm (X1 ++ X2 ++ (Y1 ++ Y2)) ∧ (Z1 ++ Z2).Pairwise R := by
 obtain ⟨x1, x2, x3⟩ := List.pairwise_append.1 hX
 obtain ⟨y1, y2, y3⟩ := List.pairwise_append.1 hY
 have c1 := cross tr x1 y2 h1
 have c2 := cross tr y1 x2 h2
 refine ⟨(p1.append p2).trans ?_, List.pairwise_append.2 ⟨s1, s2, ?_⟩⟩
 ·rw [List.append_assoc, List.append_assoc]
  refine List.Perm.append_left X1 ?_
  rw [← List.append_assoc, ← List.append_assoc]
  exact List.Perm.append_right Y2 List.perm_append_comm
 ·intro a ha b hb
  rw [p1.mem_iff, List.mem_append] at ha
  rw [p2.mem_iff, List.mem_append] at hb
  rcases ha with ha | ha <;> rcases hb with hb | hb
  ·exact x3 a ha b hb
  ·exact c1 a ha b hb
  ·exact c2 a ha b hb
  ·exact y3 a ha b hb
theorem qmg (tr : ∀ a b c, R a b → R b c → R a c) {A B : List α} {x : α} (h : (A ++ B).Pairwise R) (h1 : ∀ u, A[A.length - 1]? = some u → R u x) (h2 : ∀ v, B[0]? = some v → R x v) : (A ++ x :: B).Pairwise R := by
 obtain ⟨a1, a2, a3⟩ := List.pairwise_append.1 h
 have c1 := cross tr a1 (List.pairwise_singleton R x) (fun u v hu hv => by simp at hv; subst hv; exact h1 u hu)
 have c2 := cross tr (List.pairwise_singleton R x) a2 (fun u v hu hv => by simp at hu; subst hu; exact h2 v hv)
 refine List.pairwise_append.2 ⟨a1, List.pairwise_cons.2 ⟨fun b hb => c2 x (by simp) b hb, a2⟩, fun a ha b hb => ?_⟩
 rcases List.mem_cons.1 hb with rfl | hb
 ·exact c1 a ha _ (by simp)
 ·exact a3 a ha b hb
inductive Blk (R : α → α → Prop) (s : Nat) : List α → Prop
 | last {l : List α} : l.length ≤ s → l.Pairwise R → Blk R s l
 | more {X Y : List α} : X.length = s → X.Pairwise R → Blk R s Y → Blk R s (X ++ Y)
theorem Blk.sorted {s : Nat} {l : List α} (h : Blk R s l) (hs : l.length ≤ s) : l.Pairwise R := by
 cases h with
 | last _ h => exact h
 | @more X Y h1 h2 h3 =>
  rw [List.length_append] at hs
  obtain rfl := List.eq_nil_of_length_eq_zero (l := Y) (by omega)
  simpa using h2
theorem Blk.split {s : Nat} {l : List α} (h : Blk R s l) (hs : s < l.length) : ∃ X Y, l = X ++ Y ∧ X.length = s ∧ X.Pairwise R ∧ Blk R s Y := by
 cases h with
 | last h1 _ => omega
 | @more X Y h1 h2 h3 => exact ⟨X, Y, rfl, h1, h2, h3⟩
theorem Blk.nil {s : Nat} : Blk R s ([] : List α) := .last (Nat.zero_le _) .nil
theorem qg4 {f : Env → qaa → R3} {s : Env → qaa → Option (Env × qaa)} {τ : Type} (E : τ → Env) (S : τ → qaa) (m : τ → Nat) (Inv : τ → Prop) (Q : CExit × Env × qaa → Prop)
  (step : ∀ a, Inv a → (∃ a', it1 f s (E a) (S a) = some (.inl (E a', S a')) ∧ Inv a' ∧ m a' < m a) ∨ ∃ y, it1 f s (E a) (S a) = some (.inr y) ∧ Q y) :
  ∀ a, Inv a → ∃ y, itB f s (E a) (S a) = some y ∧ Q y := by
 have : ∀ k a, m a ≤ k → Inv a → ∃ y, itB f s (E a) (S a) = some y ∧ Q y := by
  intro k
  induction k with
  | zero =>
   intro a hk ha
   rcases step a ha with ⟨a', h1, h2, h3⟩ | ⟨y, h1, h2⟩
   ·omega
   ·exact ⟨y, qqb h1, h2⟩
  | succ k ih =>
   intro a hk ha
   rcases step a ha with ⟨a', h1, h2, h3⟩ | ⟨y, h1, h2⟩
   ·obtain ⟨y, h4, h5⟩ := ih a' (by omega) h2
    exact ⟨y, q2x h1 h4, h5⟩
   ·exact ⟨y, qqb h1, h2⟩
 exact fun a => this (m a) a (Nat.le_refl _)
end
end Go.Ev
namespace Go.Proofs.Ytbhhifdhlafklaa.K
open Go.Ev
set_option maxRecDepth 10000
theorem qk4 {a b : Nat} (h : a + b < 2 ^ 62) : IntKind.i64.wrap ((a : Int) + (b : Int)) = ((a + b : Nat) : Int) := by rw [qay (by omega) (by omega)]; simp
theorem ql5 {a : Nat} (h : a < 2 ^ 62) : IntKind.i64.wrap ((a : Int) + 1) = ((a + 1 : Nat) : Int) := by rw [qay (by omega) (by omega)]; simp
theorem qfi {a b c : Nat} (h : a = b + c) (h2 : a < 2 ^ 62) : IntKind.i64.wrap ((a : Int) - (b : Int)) = (c : Int) := by rw [qay (by omega) (by omega)]; omega
theorem qrx {a c : Nat} (h : a = c + 1) (h2 : a < 2 ^ 62) : IntKind.i64.wrap ((a : Int) - 1) = (c : Int) := by rw [qay (by omega) (by omega)]; omega
section
variable (g : Nat) (cl : Bool) (n : Nat)
theorem qre (L X M Y N : List Evt) (hXY : Y.length = X.length) (hn : n = (L ++ (X ++ (M ++ (Y ++ N)))).length) (hb : n < 2 ^ 61) (a b : Nat) (ha : a = L.length) (hbb : b = L.length + X.length + M.length) :
  (evL T).call qa3 [.sl 0 g 0 n cl, (ii a), (ii b), (ii X.length), (.fn (.func qq) [] [])] [.row 6 ((L ++ (X ++ (M ++ (Y ++ N)))).map Evt.r) g] = some (.tup [], [.row 6 ((L ++ (Y ++ (M ++ (X ++ N)))).map Evt.r) g]) := by
 have hlen : n = L.length + (X.length + (M.length + (Y.length + N.length))) := by rw [hn]; simp
 have key := qft (f := exec (evL T) itL none qc3) (s := qs [0, 1, 2, 3, 10] true 1) (α := List Evt)
  (fun i D => ⟨[(0, .sl 0 g 0 n cl), (1, (ii a)), (2, (ii b)), (3, (ii X.length)), (10, (ii i))], []⟩) (fun i D => [.row 6 ((D).map Evt.r) g])
  (fun i D => D = L ++ ((Y.take i ++ X.drop i) ++ (M ++ ((X.take i ++ Y.drop i) ++ N)))) X.length
  (fun y => y.1 = .exit 0 ∧ y.2.1.marks = [] ∧ y.2.2 = [.row 6 ((L ++ (Y ++ (M ++ (X ++ N)))).map Evt.r) g]) ?_ ?_ 0 _ (Nat.zero_le _) rfl
 ·obtain ⟨⟨y, e, σ⟩, k1, k2, k3, k4⟩ := key
  simp only [zgo, zgg, zgl, Int.cast_ofNat_Int] at k1 k2 k3 k4
  subst k2; subst k4
  rw [qy qjw qjn]
  simp only [qdd, k1, k3, qv, qn, Ev.exec, qb, qe, qc, qai, Ev.Opnd.ev, Ev.Env.get, Ev.Env.set, Ev.look, qo, qm, qaj, Ev.kill, qah, qs, Ev.keep, qae, qx, qd, Ev.SObj.lo, qa4, qa9, qbm, qj, ↓qr, ↓qar, ↓reduceIte, zga, zgb, zgc, zfe, Nat.reduceAdd, Nat.reduceEqDiff, reduceCtorEq, zgv, zfc, zgx, zfd, zgu, zgy]
 ·rintro i D hi hD
  obtain ⟨x, hx⟩ : ∃ x, X[i]? = some x := ⟨_, List.getElem?_eq_getElem hi⟩
  obtain ⟨y, hy⟩ : ∃ y, Y[i]? = some y := ⟨_, List.getElem?_eq_getElem (by omega)⟩
  have dx : X.drop i = x :: X.drop (i + 1) := by obtain ⟨_, rfl⟩ := List.getElem?_eq_some_iff.1 hx; exact List.drop_eq_getElem_cons hi
  have dy : Y.drop i = y :: Y.drop (i + 1) := by obtain ⟨_, rfl⟩ := List.getElem?_eq_some_iff.1 hy; exact List.drop_eq_getElem_cons (by omega)
  have e1 : D = (L ++ Y.take i) ++ x :: ((X.drop (i + 1) ++ (M ++ X.take i)) ++ y :: (Y.drop (i + 1) ++ N)) := by rw [hD, dx, dy]; simp
  have l1 : a + i = (L ++ Y.take i).length := by simp; omega
  have l2 : b + i = a + i + 1 + (X.drop (i + 1) ++ (M ++ X.take i)).length := by simp; omega
  have gx : D[a + i]? = some x := qor e1 l1
  have gy : D[b + i]? = some y := by
   refine qor (L := (L ++ Y.take i) ++ x :: (X.drop (i + 1) ++ (M ++ X.take i))) (M := Y.drop (i + 1) ++ N) (by rw [e1]; simp) ?_
   rw [l2, l1]; simp; omega
  have ge : D.length = n := by rw [e1, hlen]; simp; omega
  have sw := swap_far e1 l1 l2
  have hne : ¬ (a + i = b + i) := by omega
  have hi' : (i : Int) < (X.length : Int) := by omega
  have wa : IntKind.i64.wrap ((a : Int) + (i : Int)) = ((a + i : Nat) : Int) := qk4 (by omega)
  have wb : IntKind.i64.wrap ((b : Int) + (i : Int)) = ((b + i : Nat) : Int) := qk4 (by omega)
  have wi : IntKind.i64.wrap ((i : Int) + 1) = ((i + 1 : Nat) : Int) := ql5 (by omega)
  have ra : a + i < n := by omega
  have rb : b + i < n := by omega
  obtain ⟨xt, xk, xl, xi, xp, xa⟩ := x
  obtain ⟨yt, yk, yl, yi, yp, ya⟩ := y
  have hs : ∀ v, ((D.map Evt.r).set (a + i) v)[b + i]? = some (Evt.r ⟨yt, yk, yl, yi, yp, ya⟩) := fun v => by rw [List.getElem?_set_ne hne, List.getElem?_map, gy]; rfl
  have hlo := qv 1 ((D.set (a + i) ⟨yt, yk, yl, yi, yp, ya⟩).set (b + i) ⟨xt, xk, xl, xi, xp, xa⟩)
  simp only [List.map_set, Evt.r] at hlo
  refine .inl ⟨(D.set (a + i) ⟨yt, yk, yl, yi, yp, ya⟩).set (b + i) ⟨xt, xk, xl, xi, xp, xa⟩, ?_, ?_⟩
  ·simp only [qc3, zgs, zgr, zgq, zgt, gx, gy, hs, hi', wa, wb, wi, ra, rb, hlo, List.map_set, Evt.r, Ev.exec, qb, qe, qc, qai, Ev.Opnd.ev, Ev.Env.get, Ev.Env.set, Ev.look, qk, qad, Ev.AV.cells, qw, Ev.AV.plain, qaf, ql, qs, Ev.keep, qae, qx, qd, Ev.SObj.lo, qa4, qbm, ↓qr, Ev.it1, ↓reduceIte, zga, zgb, zgd, zgc, zgo, zfe, zgf, zgg, List.drop_nil, zgl, zgn, zgj, Nat.reduceAdd, Nat.reduceEqDiff, reduceCtorEq, zgv, zfc, zgx, zfd, zgu, Nat.le_refl, zgy]
  ·rw [sw, qh8 hx, qh8 hy]; simp
 ·rintro D hD
  have hD' : D = L ++ (Y ++ (M ++ (X ++ N))) := by rw [hD, ← hXY, List.take_length, List.drop_length, hXY, List.take_length, List.drop_length]; simp
  subst hD'
  simp only [qc3, Int.lt_irrefl, Ev.exec, qb, qe, qc, qai, Ev.Opnd.ev, Ev.Env.get, Ev.Env.set, Ev.look, ql, ↓qr, Ev.it1, ↓reduceIte, Nat.reduceEqDiff, reduceCtorEq, zgw, zfa, zgy]
  exact ⟨_, rfl, rfl, rfl, rfl⟩
end
open Go.Ev
theorem q55 (a b : Int) : qo8 b a = -qo8 a b := by unfold qo8; split <;> split <;> (try split) <;> omega
theorem qjk (a b : Int) : (qo8 a b < 0 ↔ a < b) ∧ (qo8 a b = 0 ↔ a = b) ∧ (0 < qo8 a b ↔ b < a) := by
 unfold qo8
 split
 ·refine ⟨?_, ?_, ?_⟩ <;> omega
 split
 ·refine ⟨?_, ?_, ?_⟩ <;> omega
 ·refine ⟨?_, ?_, ?_⟩ <;> omega
theorem q3m : ∀ a b : List Int, qla b a = -qla a b
 | [], [] => rfl
 | [], y :: b => by simp [qla]
 | x :: a, [] => by simp [qla]
 | x :: a, y :: b => by
  simp only [qla]
  by_cases h : x = y
  ·subst h; simp only [if_true]; exact q3m a b
  ·rw [if_neg h, if_neg (fun e => h e.symm)]; exact q55 x y
theorem qyq : ∀ a b c : List Int, qla a b ≤ 0 → qla b c ≤ 0 → qla a c ≤ 0
 | [], b, c, _, _ => by cases c <;> simp [qla]
 | x :: a, [], c, h, _ => by simp [qla] at h
 | x :: a, y :: b, [], _, h => by simp [qla] at h
 | x :: a, y :: b, z :: c, h1, h2 => by
  simp only [qla] at h1 h2 ⊢
  have c1 := qjk x y
  have c2 := qjk y z
  have c3 := qjk x z
  by_cases e1 : x = y
  ·subst e1
   rw [if_pos rfl] at h1
   by_cases e2 : x = z
   ·subst e2; rw [if_pos rfl] at h2 ⊢; exact qyq a b c h1 h2
   ·rw [if_neg e2] at h2 ⊢; exact h2
  ·rw [if_neg e1] at h1
   by_cases e2 : y = z
   ·subst e2; rw [if_neg e1]; exact h1
   ·rw [if_neg e2] at h2
    have : ¬ x = z := by intro e; omega
    rw [if_neg this]
    omega
def leE (x y : Evt) : Prop := qpu x y ≤ 0
theorem qoi (x y : Evt) : qpu y x = -qpu x y := by
 unfold qpu
 have := q55 x.time y.time
 have := q3m x.key y.key
 by_cases h : qo8 x.time y.time = 0
 ·rw [if_pos h, if_pos (by omega)]; assumption
 ·rw [if_neg h, if_neg (by omega)]; assumption
theorem qkq (x y z : Evt) (h1 : leE x y) (h2 : leE y z) : leE x z := by
 unfold leE qpu at *
 have c1 := qjk x.time y.time
 have c2 := qjk y.time z.time
 have c3 := qjk x.time z.time
 by_cases e1 : qo8 x.time y.time = 0
 ·rw [if_pos e1] at h1
  by_cases e2 : qo8 y.time z.time = 0
  ·rw [if_pos e2] at h2
   rw [if_pos (by omega)]; exact qyq _ _ _ h1 h2
  ·rw [if_neg e2] at h2
   rw [if_neg (by omega)]; omega
 ·rw [if_neg e1] at h1
  by_cases e2 : qo8 y.time z.time = 0
  ·rw [if_neg (by omega)]; omega
  ·rw [if_neg e2] at h2
   rw [if_neg (by omega)]; omega
theorem qpd (x y : Evt) (h : ¬ qpu x y < 0) : leE y x := by unfold leE; have := qoi x y; omega
theorem qyr (x y : Evt) (h : qpu x y < 0) : leE x y := by unfold leE; omega
theorem q4a (x y : Evt) : qpu x y = 0 ↔ x.time = y.time ∧ x.key = y.key := by
 unfold qpu
 have := qjk x.time y.time
 have := qur x.key y.key
 by_cases h : qo8 x.time y.time = 0
 ·rw [if_pos h]; constructor
  ·intro k; exact ⟨by omega, by simpa [k] using this⟩
  ·intro k; exact this.2 k.2
 ·rw [if_neg h]; constructor
  ·intro k; exact absurd k h
  ·intro k; omega
open Go.Ev
set_option maxRecDepth 10000
section
variable (g : Nat) (cl : Bool) (n : Nat)
def qct (D : List Evt) : Prop := ∀ x ∈ D, x.key.length ≤ 9223372036854775807
theorem qz9 (P S Q : List Evt) (x : Evt) (hn : n = (P ++ (S ++ x :: Q)).length) (hb : n < 2 ^ 61) (hk : qct (P ++ (S ++ x :: Q))) (hS : S.Pairwise leE) (a : Nat) (ha : a = P.length) (b i : Int) :
  ∃ y, itB (exec (evL T) itL none qby) (qs [0, 1, 2, 3, 8, 9] true 1) ⟨[(0, .sl 0 g 0 n cl), (1, (ii a)), (2, (ii b)), (3, (.fn (.func qq) [] [])), (8, (ii i)), (9, (ii ((a + S.length : Nat))))], []⟩ [.row 6 ((P ++ (S ++ x :: Q)).map Evt.r) g] = some y ∧
   (y.1 = .exit 2 ∧ y.2.1.marks = [] ∧ Ev.look y.2.1.vars 0 = some (.sl 0 g 0 n cl) ∧ Ev.look y.2.1.vars 1 = some (ii a) ∧ Ev.look y.2.1.vars 2 = some (ii b) ∧ Ev.look y.2.1.vars 3 = some (.fn (.func qq) [] []) ∧ Ev.look y.2.1.vars 8 = some (ii i) ∧ ∃ S' : List Evt, S'.Perm (x :: S) ∧ S'.Pairwise leE ∧ y.2.2 = [.row 6 ((P ++ (S' ++ Q)).map Evt.r) g]) := by
 refine qg4 (τ := List Evt × Nat) (fun s => ⟨[(0, .sl 0 g 0 n cl), (1, (ii a)), (2, (ii b)), (3, (.fn (.func qq) [] [])), (8, (ii i)), (9, (ii s.2))], []⟩) (fun s => [.row 6 ((s.1).map Evt.r) g]) (fun s => s.2)
  (fun s => ∃ A B, s.1 = P ++ (A ++ x :: (B ++ Q)) ∧ s.2 = a + A.length ∧ A ++ B = S ∧ ∀ v, B[0]? = some v → leE x v) _ ?_ (P ++ (S ++ x :: Q), a + S.length) ⟨S, [], by simp, rfl, by simp, by simp⟩
 rintro ⟨D, j⟩ ⟨A, B, hD, hj, hAB, hB⟩
 simp only at hD hj ⊢
 have hlen : n = P.length + (S.length + (Q.length + 1)) := by rw [hn]; simp
 have hSl : S.length = A.length + B.length := by rw [← hAB]; simp
 have fin : (∀ u, A[A.length - 1]? = some u → leE u x) → ∃ S' : List Evt, S'.Perm (x :: S) ∧ S'.Pairwise leE ∧ ([.row 6 ((D).map Evt.r) g] : qaa) = [.row 6 ((P ++ (S' ++ Q)).map Evt.r) g] := fun h => by
  refine ⟨A ++ x :: B, ?_, qmg qkq (by rw [hAB]; exact hS) h hB, by rw [hD]; simp⟩
  rw [← hAB]; exact List.perm_middle
 rcases List.eq_nil_or_concat A with rfl | ⟨A0, y, rfl⟩
 ·have h1 : ¬ (j : Int) > (a : Int) := by simp at hj; omega
  refine .inr ?_
  simp only [qby, h1, Ev.exec, qb, qe, qc, qai, Ev.Opnd.ev, Ev.Env.get, Ev.Env.set, Ev.Env.unset, Ev.look, qaq, ↓qr, Ev.it1, ↓reduceIte, Nat.reduceEqDiff, reduceCtorEq, zgw, zfa, zgy]
  exact ⟨_, rfl, rfl, rfl, rfl, rfl, rfl, rfl, rfl, fin (by simp)⟩
 ·simp only [List.concat_eq_append, zgp, zga, zgb] at hD hj hSl hAB fin
  obtain ⟨k, hk1⟩ : ∃ k, k = a + A0.length := ⟨_, rfl⟩
  have hjk : j = k + 1 := by omega
  have h1 : (j : Int) > (a : Int) := by omega
  have e1 : D = (P ++ A0) ++ y :: x :: (B ++ Q) := by rw [hD]; simp
  have l1 : k = (P ++ A0).length := by simp; omega
  have gy : D[k]? = some y := qor e1 l1
  have gx : D[j]? = some x := qor (L := P ++ A0 ++ [y]) (M := B ++ Q) (by rw [e1]; simp) (by simp; omega)
  have ge : D.length = n := by rw [e1, hlen]; simp; omega
  have ws : IntKind.i64.wrap ((j : Int) - 1) = (k : Int) := qrx hjk (by omega)
  have rj : j < n := by omega
  have rk : k < n := by omega
  have kx : x.key.length ≤ 9223372036854775807 := hk x (by simp)
  have ky : y.key.length ≤ 9223372036854775807 := hk y (by rw [← hAB]; simp)
  have hc := qj8 x y kx ky 6 (D.map Evt.r) g
  have sw := q4u e1 l1 hjk
  have hne : ¬ (j = k) := by omega
  by_cases hlt : qpu x y < 0
  ·left
   have hle := qyr x y hlt
   obtain ⟨x', rfl⟩ : ∃ z, x = z := ⟨x, rfl⟩
   have hlo := qv 1 ((D.set j y).set k x)
   refine ⟨((D.set j y).set k x, k), ?_, ⟨A0, y :: B, by rw [sw]; simp, hk1, by rw [← hAB]; simp, fun v hv => by simp at hv; rw [← hv]; exact hle⟩, by simp only; omega⟩
   obtain ⟨xt, xk, xl, xi, xp, xa⟩ := x
   obtain ⟨yt, yk, yl, yi, yp, ya⟩ := y
   have hs : ∀ v, ((D.map Evt.r).set j v)[k]? = some (Evt.r ⟨yt, yk, yl, yi, yp, ya⟩) := fun v => by rw [List.getElem?_set_ne hne, List.getElem?_map, gy]; rfl
   simp only [List.map_set, Evt.r] at hlo
   simp only at hc
   simp only [qby, zgs, zgr, zgq, zgt, gx, gy, hs, h1, ws, rj, rk, hc, hlt, hlo, List.map_set, Evt.r, Ev.exec, qb, qe, qc, qkn, qai, Ev.evs, Ev.Opnd.ev, Ev.Env.get, Ev.Env.set, Ev.look, qk, qad, Ev.AV.cells, qw, Ev.AV.plain, qcs, ql, qaq, qs, Ev.keep, qae, qx, qd, Ev.SObj.lo, qa4, qbm, qe4, qj, ↓qr, Ev.it1, ↓reduceIte, zga, zgb, zgd, zgc, zgo, zfe, zgf, zgg, List.drop_nil, zgl, zgn, zgj, Nat.reduceAdd, Nat.reduceEqDiff, reduceCtorEq, zgv, zfc, zgx, zfd, zgu, Nat.le_refl, zgy]
  ·right
   have hf := fin (fun u hu => by simp at hu; rw [← hu]; exact qpd x y hlt)
   obtain ⟨xt, xk, xl, xi, xp, xa⟩ := x
   obtain ⟨yt, yk, yl, yi, yp, ya⟩ := y
   simp only at hc
   simp only [qby, zgs, zgr, zgq, zgt, gx, gy, h1, ws, rj, rk, hc, hlt, Evt.r, Ev.exec, qb, qe, qc, qkn, qai, Ev.evs, Ev.Opnd.ev, Ev.Env.get, Ev.Env.set, Ev.look, qk, qad, qcs, ql, qaq, ↓qr, Ev.it1, ↓reduceIte, zga, zgb, zgd, zgc, zfe, zgg, zgl, zgn, Nat.reduceAdd, Nat.reduceEqDiff, reduceCtorEq, zgv, zgw, zfa, zgx, zfd, Nat.le_refl, zgy]
   exact ⟨_, rfl, rfl, rfl, rfl, rfl, rfl, rfl, rfl, hf⟩
theorem qv0 (P S Q : List Evt) (hn : n = (P ++ (S ++ Q)).length) (hb : n < 2 ^ 61) (hk : qct (P ++ (S ++ Q))) (a b : Nat) (ha : a = P.length) (hbb : b = a + S.length) :
  ∃ S' : List Evt, S'.Perm S ∧ S'.Pairwise leE ∧ (evL T).call qa1 [.sl 0 g 0 n cl, (ii a), (ii b), (.fn (.func qq) [] [])] [.row 6 ((P ++ (S ++ Q)).map Evt.r) g] = some (.tup [], [.row 6 ((P ++ (S' ++ Q)).map Evt.r) g]) := by
 have hlen : n = P.length + (S.length + Q.length) := by rw [hn]; simp
 have key := qg4 (f := exec (evL T) itL none qbu) (s := qs [0, 1, 2, 3, 8] true 1) (τ := List Evt × Nat)
  (fun s => ⟨[(0, .sl 0 g 0 n cl), (1, (ii a)), (2, (ii b)), (3, (.fn (.func qq) [] [])), (8, (ii s.2))], []⟩) (fun s => [.row 6 ((s.1).map Evt.r) g]) (fun s => b - s.2)
  (fun s => (∃ A B, s.1 = P ++ (A ++ (B ++ Q)) ∧ s.2 = a + A.length ∧ (A ++ B).Perm S ∧ A.Pairwise leE) ∨ S = [] ∧ s.1 = P ++ Q ∧ s.2 = a + 1)
  (fun y => y.1 = .exit 0 ∧ y.2.1.marks = [] ∧ ∃ S' : List Evt, S'.Perm S ∧ S'.Pairwise leE ∧ y.2.2 = [.row 6 ((P ++ (S' ++ Q)).map Evt.r) g]) ?_ (P ++ (S ++ Q), a + 1) ?_
 ·obtain ⟨⟨y, e, σ⟩, k1, k2, k3, S', k4, k5, k6⟩ := key
  simp only at k1 k2 k3 k6
  subst k2; subst k6
  refine ⟨S', k4, k5, ?_⟩
  have w1 : IntKind.i64.wrap ((a : Int) + 1) = ((a + 1 : Nat) : Int) := ql5 (by omega)
  rw [qy qif qic]
  simp only [qc0, w1, k1, k3, qv, qn, Ev.exec, qb, qe, qc, qai, Ev.Opnd.ev, Ev.Env.get, Ev.Env.set, Ev.look, qo, qaf, qm, qaj, Ev.kill, qah, qs, Ev.keep, qae, qx, qd, Ev.SObj.lo, qa4, qa9, qbm, qe4, qj, ↓qr, ↓qar, ↓reduceIte, zga, zgb, zgc, zfe, Nat.reduceAdd, Nat.reduceEqDiff, reduceCtorEq, zgv, zfc, zgx, zfd, zgu, zgy]
 ·rintro ⟨D, i⟩ (⟨A, B, hD, hi, hAB, hA⟩ | ⟨hS, hD, hi⟩)
  ·simp only at hD hi ⊢
   have hl := hAB.length_eq
   rw [List.length_append] at hl
   cases B with
   | nil =>
    have h1 : ¬ (i : Int) < (b : Int) := by simp at hl; omega
    right
    simp only [qbu, h1, Ev.exec, qb, qe, qc, qai, Ev.Opnd.ev, Ev.Env.get, Ev.Env.set, Ev.look, ql, ↓qr, Ev.it1, ↓reduceIte, Nat.reduceEqDiff, reduceCtorEq, zgw, zfa, zgy]
    exact ⟨_, rfl, rfl, rfl, A, by simpa using hAB, hA, by rw [hD]; simp⟩
   | cons x B =>
    rw [List.length_cons] at hl
    have h1 : (i : Int) < (b : Int) := by omega
    have hkD : qct (P ++ (A ++ x :: (B ++ Q))) := by
     intro z hz
     refine hk z ?_
     simp only [List.mem_append, List.mem_cons] at hz ⊢
     have := hAB.mem_iff (a := z)
     simp only [List.mem_append, List.mem_cons] at this
     rcases hz with h | h | h | h | h
     ·exact .inl h
     ·exact .inr (.inl (this.1 (.inl h)))
     ·exact .inr (.inl (this.1 (.inr (.inl h))))
     ·exact .inr (.inl (this.1 (.inr (.inr h))))
     ·exact .inr (.inr h)
    obtain ⟨⟨y, e, σ⟩, k1, k2, k3, k4, k5, k6, k7, k8, S', k9, k10, k11⟩ := qz9 g cl n P A (B ++ Q) x (by rw [hlen]; simp; omega) hb hkD hA a ha b i
    simp only at k1 k2 k3 k4 k5 k6 k7 k8 k11
    subst k2; subst k11
    have w1 : IntKind.i64.wrap ((i : Int) + 1) = ((i + 1 : Nat) : Int) := ql5 (by omega)
    left
    refine ⟨(P ++ (S' ++ (B ++ Q)), i + 1), ?_, .inl ⟨S', B, rfl, ?_, ?_, k10⟩, ?_⟩
    ·rw [← hi] at k1
     rw [hD]
     simp only [zgm] at k1 ⊢
     simp only [qbu, h1, w1, k1, k3, k4, k5, k6, k7, k8, qv, Ev.exec, qb, qe, qc, qai, Ev.Opnd.ev, Ev.Env.get, Ev.Env.set, Ev.look, qaf, ql, qs, Ev.keep, qae, qx, qd, Ev.SObj.lo, qa4, qbm, qe4, qj, ↓qr, ↓qar, Ev.it1, ↓reduceIte, zga, zgb, zgc, zfe, Nat.reduceEqDiff, reduceCtorEq, zgv, zfc, zgx, zfd, zgu, zgy]
    ·have := k9.length_eq; rw [List.length_cons] at this; simp only; omega
    ·exact ((k9.append_right B).trans List.perm_middle.symm).trans hAB
    ·simp only; omega
  ·simp only at hD hi ⊢
   subst hS
   have h1 : ¬ (i : Int) < (b : Int) := by simp at hbb; omega
   right
   simp only [qbu, h1, Ev.exec, qb, qe, qc, qai, Ev.Opnd.ev, Ev.Env.get, Ev.Env.set, Ev.look, ql, ↓qr, Ev.it1, ↓reduceIte, Nat.reduceEqDiff, reduceCtorEq, zgw, zfa, zgy]
   exact ⟨_, rfl, rfl, rfl, [], List.Perm.nil, List.Pairwise.nil, by rw [hD]; simp⟩
 ·cases S with
  | nil => exact .inr ⟨rfl, by simp, rfl⟩
  | cons x S => exact .inl ⟨[x], S, by simp, by simp, by simp, List.pairwise_singleton _ _⟩
end
open Go.Ev
set_option maxRecDepth 10000
section
variable (g : Nat) (cl : Bool) (n : Nat)
theorem qaax (L X Y N : List Evt) (hX : 0 < X.length) (hY : 0 < Y.length) (hn : n = (L ++ (X ++ (Y ++ N))).length) (hb : n < 2 ^ 61) (a m b : Nat) (ha : a = L.length) (hm : m = a + X.length) (hbb : b = m + Y.length) :
  (evL T).call qbd [.sl 0 g 0 n cl, (ii a), (ii m), (ii b), (.fn (.func qq) [] [])] [.row 6 ((L ++ (X ++ (Y ++ N))).map Evt.r) g] = some (.tup [], [.row 6 ((L ++ (Y ++ (X ++ N))).map Evt.r) g]) := by
 have hlen : n = L.length + (X.length + (Y.length + N.length)) := by rw [hn]; simp
 have key := qg4 (f := exec (evL T) itL none qcp) (s := qs [0, 2, 4, 10, 11] true 1) (τ := List Evt × Nat × Nat)
  (fun s => ⟨[(0, .sl 0 g 0 n cl), (2, (ii m)), (4, (.fn (.func qq) [] [])), (10, (ii s.2.1)), (11, (ii s.2.2))], []⟩) (fun s => [.row 6 ((s.1).map Evt.r) g]) (fun s => s.2.1 + s.2.2)
  (fun s => ∃ L' X' Y' N', s.1 = L' ++ (X' ++ (Y' ++ N')) ∧ s.2.1 = X'.length ∧ s.2.2 = Y'.length ∧ 0 < X'.length ∧ 0 < Y'.length ∧ m = L'.length + X'.length ∧ L' ++ (Y' ++ (X' ++ N')) = L ++ (Y ++ (X ++ N)))
  (fun y => ∃ i : Nat, y.1 = .exit 0 ∧ y.2.1.marks = [] ∧ Ev.look y.2.1.vars 0 = some (.sl 0 g 0 n cl) ∧ Ev.look y.2.1.vars 2 = some (ii m) ∧ Ev.look y.2.1.vars 4 = some (.fn (.func qq) [] []) ∧ Ev.look y.2.1.vars 10 = some (ii i) ∧
   ∃ L' X' Y' N' : List Evt, y.2.2 = [.row 6 ((L' ++ (X' ++ (Y' ++ N'))).map Evt.r) g] ∧ i = X'.length ∧ i = Y'.length ∧ m = L'.length + X'.length ∧ L' ++ (Y' ++ (X' ++ N')) = L ++ (Y ++ (X ++ N))) ?_ (L ++ (X ++ (Y ++ N)), X.length, Y.length) ⟨L, X, Y, N, rfl, rfl, rfl, hX, hY, by omega, rfl⟩
 ·obtain ⟨⟨y, e, σ⟩, k1, i, k2, k3, k4, k5, k6, k7, L', X', Y', N', k8, k9, k10, k11, k12⟩ := key
  simp only at k1 k2 k3 k4 k5 k6 k7 k8
  subst k2; subst k8
  have hl2 := congrArg List.length k12
  simp only [zgp] at hl2
  have w1 : IntKind.i64.wrap ((m : Int) - (a : Int)) = (X.length : Int) := qfi hm (by omega)
  have w2 : IntKind.i64.wrap ((b : Int) - (m : Int)) = (Y.length : Int) := qfi hbb (by omega)
  have w3 : IntKind.i64.wrap ((m : Int) - (i : Int)) = (L'.length : Int) := qfi (by omega) (by omega)
  have sw := qre g cl n L' X' [] Y' N' (by omega) (by simp; omega) hb L'.length m rfl (by simp; omega)
  simp only [zgl] at sw
  rw [← k9, k12] at sw
  rw [qy qkg qj7]
  simp only [qdr, w1, w2, w3, k1, k3, k4, k5, k6, k7, sw, qv, qn, Ev.exec, qb, qe, qc, qd3, qai, Ev.evs, Ev.Opnd.ev, Ev.Env.get, Ev.Env.set, Ev.look, qo, qcs, qm, qaj, Ev.kill, qah, qs, Ev.keep, qae, qx, qd, Ev.SObj.lo, qa4, qa9, qbm, qe4, qj, ↓qr, ↓qar, ↓reduceIte, zga, zgb, zgc, zfe, Nat.reduceAdd, Nat.reduceEqDiff, reduceCtorEq, zgv, zfc, zgx, zfd, zgu, zgy]
 ·rintro ⟨D, i, j⟩ ⟨L', X', Y', N', hD, hi, hj, hX', hY', hm', heq⟩
  simp only at hD hi hj ⊢
  have hl2 := congrArg List.length heq
  simp only [zgp] at hl2
  by_cases hij : i = j
  ·right
   have h1 : (i : Int) = (j : Int) := by omega
   subst hij
   simp only [qcp, Ev.exec, qb, qe, qc, qai, Ev.Opnd.ev, Ev.Env.get, Ev.Env.set, Ev.look, qb6, ↓qr, Ev.it1, ↓reduceIte, Nat.reduceEqDiff, reduceCtorEq, zgw, zfa, ne_eq, not_true_eq_false, zgy]
   exact ⟨_, rfl, i, rfl, rfl, rfl, rfl, rfl, rfl, L', X', Y', N', by rw [hD], hi, hj, hm', heq⟩
  have h1 : ¬ (i : Int) = (j : Int) := by omega
  left
  by_cases hgt : j < i
  ·have h2 : (i : Int) > (j : Int) := by omega
   obtain ⟨X1, X2, rfl, hX1⟩ : ∃ X1 X2, X' = X1 ++ X2 ∧ X1.length = j := ⟨X'.take j, X'.drop j, (List.take_append_drop _ _).symm, by simp; omega⟩
   rw [List.length_append] at hi hX' hm' hl2
   have sw := qre g cl n L' X1 X2 Y' N' (by omega) (by simp; omega) hb L'.length m rfl (by omega)
   rw [show L' ++ (X1 ++ (X2 ++ (Y' ++ N'))) = D by rw [hD]; simp, hX1] at sw
   have w3 : IntKind.i64.wrap ((m : Int) - (i : Int)) = (L'.length : Int) := qfi (by omega) (by omega)
   have w4 : IntKind.i64.wrap ((i : Int) - (j : Int)) = (X2.length : Int) := qfi (by omega) (by omega)
   refine ⟨(L' ++ (Y' ++ (X2 ++ (X1 ++ N'))), X2.length, j), ?_, ⟨L' ++ Y', X2, X1, N', by simp, rfl, hX1.symm, by omega, by omega, by simp; omega, by rw [← heq]; simp⟩, by first | omega | (simp only; omega)⟩
   simp only [qcp, h1, h2, w3, w4, sw, qv, Ev.exec, qb, qe, qc, qd3, qai, Ev.evs, Ev.Opnd.ev, Ev.Env.get, Ev.Env.set, Ev.look, qcs, qb6, qaq, qs, Ev.keep, qae, qx, qd, Ev.SObj.lo, qa4, qbm, qe4, qj, ↓qr, Ev.it1, ↓reduceIte, zgc, zfe, Nat.reduceEqDiff, reduceCtorEq, zgv, zfc, zgx, ne_eq, zfb, zgu, zgy]
  ·have h2 : ¬ (i : Int) > (j : Int) := by omega
   obtain ⟨Y1, Y2, rfl, hY2⟩ : ∃ Y1 Y2, Y' = Y1 ++ Y2 ∧ Y2.length = i := ⟨Y'.take (j - i), Y'.drop (j - i), (List.take_append_drop _ _).symm, by simp; omega⟩
   rw [List.length_append] at hj hY' hl2
   have sw := qre g cl n L' X' Y1 Y2 N' (by omega) (by simp; omega) hb L'.length (m + Y1.length) rfl (by omega)
   rw [show L' ++ (X' ++ (Y1 ++ (Y2 ++ N'))) = D by rw [hD]; simp, ← hi] at sw
   have w3 : IntKind.i64.wrap ((m : Int) - (i : Int)) = (L'.length : Int) := qfi (by omega) (by omega)
   have w4 : IntKind.i64.wrap ((m : Int) + (j : Int)) = ((m + j : Nat) : Int) := qk4 (by omega)
   have w5 : IntKind.i64.wrap (((m + j : Nat) : Int) - (i : Int)) = ((m + Y1.length : Nat) : Int) := qfi (by omega) (by omega)
   have w6 : IntKind.i64.wrap ((j : Int) - (i : Int)) = (Y1.length : Int) := qfi (by omega) (by omega)
   refine ⟨(L' ++ (Y2 ++ (Y1 ++ (X' ++ N'))), i, Y1.length), ?_, ⟨L', Y2, Y1, X' ++ N', rfl, hY2.symm, rfl, by omega, by omega, by omega, by rw [← heq]; simp⟩, by first | omega | (simp only; omega)⟩
   simp only [qcp, h1, h2, w3, w4, w5, w6, sw, qv, Ev.exec, qb, qe, qc, qd3, qai, Ev.evs, Ev.Opnd.ev, Ev.Env.get, Ev.Env.set, Ev.look, qaf, qcs, qb6, qaq, qs, Ev.keep, qae, qx, qd, Ev.SObj.lo, qa4, qbm, qe4, qj, ↓qr, Ev.it1, ↓reduceIte, zgc, zfe, Nat.reduceEqDiff, reduceCtorEq, zgv, zgw, zfc, zfa, zgx, ne_eq, zfb, zgu, zgy]
end
open Go.Ev
set_option maxRecDepth 10000
theorem qum (s h : Nat) (hh : h = s / 2) : qlx .shr (.v (.int .u64 (s : Int))) (.v (.int .u64 1)) = some (.v (.int .u64 (h : Int))) := by
 subst hh
 show (if (1 : Int) < 0 then none else some (AV.v (.int .u64 ((s : Int).fdiv (2 ^ (min (1 : Int).toNat IntKind.u64.bits)))))) = _
 rw [if_neg (by omega), show (2 : Int) ^ (min (1 : Int).toNat IntKind.u64.bits) = 2 from rfl, Int.fdiv_eq_ediv_of_nonneg _ (by omega)]
 rw [show (s : Int) / 2 = ((s / 2 : Nat) : Int) by omega]
theorem qqt {n : Nat} (h : n < 2 ^ 63) : IntKind.u64.wrap (n : Int) = (n : Int) := by
 have h3 : IntKind.u64.bits = 64 := rfl
 have h4 : IntKind.u64.signed = false := rfl
 simp only [IntKind.wrap, h3, h4, Bool.false_and, zfa, if_false]
 omega
theorem qq6 {n : Nat} (h : n < 2 ^ 63) : IntKind.i64.wrap (n : Int) = (n : Int) := qay (by omega) (by omega)
section
variable (g : Nat) (cl : Bool) (n : Nat)
theorem q47 (D : List Evt) (x : Evt) (hn : n = D.length) (hb : n < 2 ^ 61) (hk : qct D) (a m b : Nat) (ha : D[a]? = some x) (hmb : m ≤ b) (hbn : b ≤ n) (han : a < n) :
  ∃ y, itB (exec (evL T) itL none qcd) (qs [0, 1, 4, 10, 11] true 1) ⟨[(0, .sl 0 g 0 n cl), (1, (ii a)), (4, (.fn (.func qq) [] [])), (10, (ii m)), (11, (ii b))], []⟩ [.row 6 ((D).map Evt.r) g] = some y ∧
   ∃ i : Nat, y.1 = .exit 0 ∧ y.2.1.marks = [] ∧ y.2.2 = [.row 6 ((D).map Evt.r) g] ∧ Ev.look y.2.1.vars 0 = some (.sl 0 g 0 n cl) ∧ Ev.look y.2.1.vars 1 = some (ii a) ∧ Ev.look y.2.1.vars 10 = some (ii i) ∧ m ≤ i ∧ i ≤ b ∧ (i = m ∨ ∀ v, D[i - 1]? = some v → leE v x) ∧ (i = b ∨ ∀ v, D[i]? = some v → leE x v) := by
 refine qg4 (τ := Nat × Nat) (fun s => ⟨[(0, .sl 0 g 0 n cl), (1, (ii a)), (4, (.fn (.func qq) [] [])), (10, (ii s.1)), (11, (ii s.2))], []⟩) (fun _ => [.row 6 ((D).map Evt.r) g]) (fun s => s.2 - s.1)
  (fun s => m ≤ s.1 ∧ s.1 ≤ s.2 ∧ s.2 ≤ b ∧ (s.1 = m ∨ ∀ v, D[s.1 - 1]? = some v → leE v x) ∧ (s.2 = b ∨ ∀ v, D[s.2]? = some v → leE x v)) _ ?_ (m, b) ⟨Nat.le_refl _, hmb, Nat.le_refl _, .inl rfl, .inl rfl⟩
 rintro ⟨i, j⟩ ⟨h1, h2, h3, h4, h5⟩
 simp only at h1 h2 h3 h4 h5 ⊢
 by_cases hij : i < j
 case neg =>
  have c1 : ¬ (i : Int) < (j : Int) := by omega
  right
  simp only [qcd, c1, Ev.exec, qb, qe, qc, qai, Ev.Opnd.ev, Ev.Env.get, Ev.Env.set, Ev.look, ql, ↓qr, Ev.it1, ↓reduceIte, Nat.reduceEqDiff, reduceCtorEq, zgw, zfa, zgy]
  refine ⟨_, rfl, i, rfl, rfl, rfl, rfl, rfl, rfl, h1, by omega, h4, ?_⟩
  obtain rfl : i = j := by omega
  exact h5
 obtain ⟨h, hh⟩ : ∃ h, h = (i + j) / 2 := ⟨_, rfl⟩
 have c1 : (i : Int) < (j : Int) := by omega
 obtain ⟨y, hy⟩ : ∃ y, D[h]? = some y := ⟨_, List.getElem?_eq_getElem (by omega)⟩
 have w1 : IntKind.i64.wrap ((i : Int) + (j : Int)) = ((i + j : Nat) : Int) := qk4 (by omega)
 have w2 : IntKind.u64.wrap ((i + j : Nat) : Int) = ((i + j : Nat) : Int) := qqt (by omega)
 have w3 := qum (i + j) h hh
 have w4 : IntKind.i64.wrap (h : Int) = (h : Int) := qq6 (by omega)
 have w5 : IntKind.i64.wrap ((h : Int) + 1) = ((h + 1 : Nat) : Int) := ql5 (by omega)
 have rh : h < n := by omega
 have kx : x.key.length ≤ 9223372036854775807 := hk x (List.mem_of_getElem? ha)
 have ky : y.key.length ≤ 9223372036854775807 := hk y (List.mem_of_getElem? hy)
 have hc := qj8 y x ky kx 6 (D.map Evt.r) g
 left
 by_cases hlt : qpu y x < 0
 ·refine ⟨(h + 1, j), ?_, ⟨by simp only; omega, by simp only; omega, h3, .inr fun v hv => ?_, h5⟩, by simp only; omega⟩
  ·obtain ⟨xt, xk, xl, xi, xp, xa⟩ := x
   obtain ⟨yt, yk, yl, yi, yp, ya⟩ := y
   simp only at hc
   simp only [qcd, zgs, zgr, zgq, zgt, ha, hy, c1, w1, w2, w3, w4, w5, rh, han, hc, hlt, Evt.r, qv, Ev.exec, qb, qe, qc, qkn, qai, Ev.evs, Ev.Opnd.ev, Ev.Env.get, Ev.Env.set, Ev.look, qk, qad, qaf, ql, qs, Ev.keep, qae, qx, qd, Ev.SObj.lo, qa4, qbm, qe4, qj, ↓qr, Ev.it1, ↓reduceIte, zga, zgb, zgd, zgc, zfe, zgg, zgl, zgn, Nat.reduceAdd, Nat.reduceEqDiff, reduceCtorEq, zgv, zfc, zgx, zfd, zgu, Nat.le_refl, zgy]
  ·simp only [Nat.add_sub_cancel] at hv
   rw [hy] at hv; cases hv; exact qyr y x hlt
 ·refine ⟨(i, h), ?_, ⟨h1, by simp only; omega, by simp only; omega, h4, .inr fun v hv => ?_⟩, by simp only; omega⟩
  ·obtain ⟨xt, xk, xl, xi, xp, xa⟩ := x
   obtain ⟨yt, yk, yl, yi, yp, ya⟩ := y
   simp only at hc
   simp only [qcd, zgs, zgr, zgq, zgt, ha, hy, c1, w1, w2, w3, w4, rh, han, hc, hlt, Evt.r, qv, Ev.exec, qb, qe, qc, qkn, qai, Ev.evs, Ev.Opnd.ev, Ev.Env.get, Ev.Env.set, Ev.look, qk, qad, qaf, ql, qs, Ev.keep, qae, qx, qd, Ev.SObj.lo, qa4, qbm, qe4, qj, ↓qr, Ev.it1, ↓reduceIte, zga, zgb, zgd, zgc, zfe, zgg, zgl, zgn, Nat.reduceAdd, Nat.reduceEqDiff, reduceCtorEq, zgv, zgw, zfc, zfa, zgx, zfd, zgu, Nat.le_refl, zgy]
  ·simp only at hv
   rw [hy] at hv; cases hv; exact qpd y x hlt
theorem q5l (D : List Evt) (x : Evt) (hn : n = D.length) (hb : n < 2 ^ 61) (hk : qct D) (a m : Nat) (hm : D[m]? = some x) (ham : a ≤ m) (hmn : m < n) :
  ∃ y, itB (exec (evL T) itL none qcf) (qs [0, 2, 4, 14, 15] true 1) ⟨[(0, .sl 0 g 0 n cl), (2, (ii m)), (4, (.fn (.func qq) [] [])), (14, (ii a)), (15, (ii m))], []⟩ [.row 6 ((D).map Evt.r) g] = some y ∧
   ∃ i : Nat, y.1 = .exit 4 ∧ y.2.1.marks = [] ∧ y.2.2 = [.row 6 ((D).map Evt.r) g] ∧ Ev.look y.2.1.vars 0 = some (.sl 0 g 0 n cl) ∧ Ev.look y.2.1.vars 2 = some (ii m) ∧ Ev.look y.2.1.vars 14 = some (ii i) ∧ a ≤ i ∧ i ≤ m ∧ (i = a ∨ ∀ v, D[i - 1]? = some v → leE v x) ∧ (i = m ∨ ∀ v, D[i]? = some v → leE x v) := by
 refine qg4 (τ := Nat × Nat) (fun s => ⟨[(0, .sl 0 g 0 n cl), (2, (ii m)), (4, (.fn (.func qq) [] [])), (14, (ii s.1)), (15, (ii s.2))], []⟩) (fun _ => [.row 6 ((D).map Evt.r) g]) (fun s => s.2 - s.1)
  (fun s => a ≤ s.1 ∧ s.1 ≤ s.2 ∧ s.2 ≤ m ∧ (s.1 = a ∨ ∀ v, D[s.1 - 1]? = some v → leE v x) ∧ (s.2 = m ∨ ∀ v, D[s.2]? = some v → leE x v)) _ ?_ (a, m) ⟨Nat.le_refl _, ham, Nat.le_refl _, .inl rfl, .inl rfl⟩
 rintro ⟨i, j⟩ ⟨h1, h2, h3, h4, h5⟩
 simp only at h1 h2 h3 h4 h5 ⊢
 by_cases hij : i < j
 case neg =>
  have c1 : ¬ (i : Int) < (j : Int) := by omega
  right
  simp only [qcf, c1, Ev.exec, qb, qe, qc, qai, Ev.Opnd.ev, Ev.Env.get, Ev.Env.set, Ev.look, ql, ↓qr, Ev.it1, ↓reduceIte, Nat.reduceEqDiff, reduceCtorEq, zgw, zfa, zgy]
  refine ⟨_, rfl, i, rfl, rfl, rfl, rfl, rfl, rfl, h1, by omega, h4, ?_⟩
  obtain rfl : i = j := by omega
  exact h5
 obtain ⟨h, hh⟩ : ∃ h, h = (i + j) / 2 := ⟨_, rfl⟩
 have c1 : (i : Int) < (j : Int) := by omega
 obtain ⟨y, hy⟩ : ∃ y, D[h]? = some y := ⟨_, List.getElem?_eq_getElem (by omega)⟩
 have w1 : IntKind.i64.wrap ((i : Int) + (j : Int)) = ((i + j : Nat) : Int) := qk4 (by omega)
 have w2 : IntKind.u64.wrap ((i + j : Nat) : Int) = ((i + j : Nat) : Int) := qqt (by omega)
 have w3 := qum (i + j) h hh
 have w4 : IntKind.i64.wrap (h : Int) = (h : Int) := qq6 (by omega)
 have w5 : IntKind.i64.wrap ((h : Int) + 1) = ((h + 1 : Nat) : Int) := ql5 (by omega)
 have rh : h < n := by omega
 have kx : x.key.length ≤ 9223372036854775807 := hk x (List.mem_of_getElem? hm)
 have ky : y.key.length ≤ 9223372036854775807 := hk y (List.mem_of_getElem? hy)
 have hc := qj8 x y kx ky 6 (D.map Evt.r) g
 left
 by_cases hlt : qpu x y < 0
 ·refine ⟨(i, h), ?_, ⟨h1, by simp only; omega, by simp only; omega, h4, .inr fun v hv => ?_⟩, by simp only; omega⟩
  ·obtain ⟨xt, xk, xl, xi, xp, xa⟩ := x
   obtain ⟨yt, yk, yl, yi, yp, ya⟩ := y
   simp only at hc
   simp only [qcf, zgs, zgr, zgq, zgt, hm, hy, c1, w1, w2, w3, w4, rh, hmn, hc, hlt, Evt.r, qv, Ev.exec, qb, qe, qc, qkn, qai, Ev.evs, Ev.Opnd.ev, Ev.Env.get, Ev.Env.set, Ev.look, qk, qad, qaf, ql, qs, Ev.keep, qae, qx, qd, Ev.SObj.lo, qa4, qbm, qe4, qj, ↓qr, Ev.it1, ↓reduceIte, zga, zgb, zgd, zgc, zfe, zgg, zgl, zgn, Nat.reduceAdd, Nat.reduceEqDiff, reduceCtorEq, zgv, zfc, Bool.not_true, zfa, zgx, zfd, zgu, Nat.le_refl, zgy]
  ·simp only at hv
   rw [hy] at hv; cases hv; exact qyr x y hlt
 ·refine ⟨(h + 1, j), ?_, ⟨by simp only; omega, by simp only; omega, h3, .inr fun v hv => ?_, h5⟩, by simp only; omega⟩
  ·obtain ⟨xt, xk, xl, xi, xp, xa⟩ := x
   obtain ⟨yt, yk, yl, yi, yp, ya⟩ := y
   simp only at hc
   simp only [qcf, zgs, zgr, zgq, zgt, hm, hy, c1, w1, w2, w3, w4, w5, rh, hmn, hc, hlt, Evt.r, qv, Ev.exec, qb, qe, qc, qkn, qai, Ev.evs, Ev.Opnd.ev, Ev.Env.get, Ev.Env.set, Ev.look, qk, qad, qaf, ql, qs, Ev.keep, qae, qx, qd, Ev.SObj.lo, qa4, qbm, qe4, qj, ↓qr, Ev.it1, ↓reduceIte, zga, zgb, zgd, zgc, zfe, zgg, zgl, zgn, Nat.reduceAdd, Nat.reduceEqDiff, reduceCtorEq, zgv, zgw, zfc, Bool.not_false, zgx, zfd, zgu, Nat.le_refl, zgy]
  ·simp only [Nat.add_sub_cancel] at hv
   rw [hy] at hv; cases hv; exact qpd x y hlt
theorem q41 (D : List Evt) (hn : n = D.length) (hb : n < 2 ^ 61) (hk : qct D) (a m b mid nn p lo hi : Nat) (hp : nn = p + 1) (hlh : lo ≤ hi) (hdom : ∀ c, lo ≤ c → c < hi → c < n ∧ c ≤ p ∧ p - c < n) (hnn : nn < 2 ^ 62) (hhn : hi ≤ n) :
  ∃ y, itB (exec (evL T) itL none qbj) (qs [0, 1, 2, 3, 4, 18, 19, 20, 21, 22] true 1) ⟨[(0, .sl 0 g 0 n cl), (1, (ii a)), (2, (ii m)), (3, (ii b)), (4, (.fn (.func qq) [] [])), (18, (ii mid)), (19, (ii nn)), (20, (ii lo)), (21, (ii hi)), (22, (ii p))], []⟩ [.row 6 ((D).map Evt.r) g] = some y ∧
   ∃ i : Nat, y.1 = .exit 8 ∧ y.2.1.marks = [] ∧ y.2.2 = [.row 6 ((D).map Evt.r) g] ∧ Ev.look y.2.1.vars 0 = some (.sl 0 g 0 n cl) ∧ Ev.look y.2.1.vars 1 = some (ii a) ∧ Ev.look y.2.1.vars 2 = some (ii m) ∧ Ev.look y.2.1.vars 3 = some (ii b) ∧ Ev.look y.2.1.vars 4 = some (.fn (.func qq) [] []) ∧ Ev.look y.2.1.vars 18 = some (ii mid) ∧
    Ev.look y.2.1.vars 19 = some (ii nn) ∧ Ev.look y.2.1.vars 20 = some (ii i) ∧ lo ≤ i ∧ i ≤ hi ∧ (i = lo ∨ ∀ u v, D[i - 1]? = some u → D[p - (i - 1)]? = some v → leE u v) ∧ (i = hi ∨ ∀ u v, D[p - i]? = some u → D[i]? = some v → leE u v) := by
 refine qg4 (τ := Nat × Nat) (fun s => ⟨[(0, .sl 0 g 0 n cl), (1, (ii a)), (2, (ii m)), (3, (ii b)), (4, (.fn (.func qq) [] [])), (18, (ii mid)), (19, (ii nn)), (20, (ii s.1)), (21, (ii s.2)), (22, (ii p))], []⟩) (fun _ => [.row 6 ((D).map Evt.r) g]) (fun s => s.2 - s.1)
  (fun s => lo ≤ s.1 ∧ s.1 ≤ s.2 ∧ s.2 ≤ hi ∧ (s.1 = lo ∨ ∀ u v, D[s.1 - 1]? = some u → D[p - (s.1 - 1)]? = some v → leE u v) ∧ (s.2 = hi ∨ ∀ u v, D[p - s.2]? = some u → D[s.2]? = some v → leE u v)) _ ?_ (lo, hi) ⟨Nat.le_refl _, hlh, Nat.le_refl _, .inl rfl, .inl rfl⟩
 rintro ⟨i, j⟩ ⟨h1, h2, h3, h4, h5⟩
 simp only at h1 h2 h3 h4 h5 ⊢
 by_cases hij : i < j
 case neg =>
  have c1 : ¬ (i : Int) < (j : Int) := by omega
  right
  simp only [qbj, c1, Ev.exec, qb, qe, qc, qai, Ev.Opnd.ev, Ev.Env.get, Ev.Env.set, Ev.look, ql, ↓qr, Ev.it1, ↓reduceIte, Nat.reduceEqDiff, reduceCtorEq, zgw, zfa, zgy]
  refine ⟨_, rfl, i, rfl, rfl, rfl, rfl, rfl, rfl, rfl, rfl, rfl, rfl, rfl, h1, by omega, h4, ?_⟩
  obtain rfl : i = j := by omega
  exact h5
 obtain ⟨h, hh⟩ : ∃ h, h = (i + j) / 2 := ⟨_, rfl⟩
 have c1 : (i : Int) < (j : Int) := by omega
 obtain ⟨d1, d2, d3⟩ := hdom h (by omega) (by omega)
 obtain ⟨q, hq⟩ : ∃ q, q = p - h := ⟨_, rfl⟩
 obtain ⟨y, hy⟩ : ∃ y, D[h]? = some y := ⟨_, List.getElem?_eq_getElem (by omega)⟩
 obtain ⟨x, hx⟩ : ∃ x, D[q]? = some x := ⟨_, List.getElem?_eq_getElem (by omega)⟩
 have w1 : IntKind.i64.wrap ((i : Int) + (j : Int)) = ((i + j : Nat) : Int) := qk4 (by omega)
 have w2 : IntKind.u64.wrap ((i + j : Nat) : Int) = ((i + j : Nat) : Int) := qqt (by omega)
 have w3 := qum (i + j) h hh
 have w4 : IntKind.i64.wrap (h : Int) = (h : Int) := qq6 (by omega)
 have w5 : IntKind.i64.wrap ((h : Int) + 1) = ((h + 1 : Nat) : Int) := ql5 (by omega)
 have w6 : IntKind.i64.wrap ((p : Int) - (h : Int)) = (q : Int) := qfi (by omega) (by omega)
 have rq : q < n := by omega
 have kx : x.key.length ≤ 9223372036854775807 := hk x (List.mem_of_getElem? hx)
 have ky : y.key.length ≤ 9223372036854775807 := hk y (List.mem_of_getElem? hy)
 have hc := qj8 x y kx ky 6 (D.map Evt.r) g
 left
 by_cases hlt : qpu x y < 0
 ·refine ⟨(i, h), ?_, ⟨h1, by simp only; omega, by simp only; omega, h4, .inr fun u v hu hv => ?_⟩, by simp only; omega⟩
  ·obtain ⟨xt, xk, xl, xi, xp, xa⟩ := x
   obtain ⟨yt, yk, yl, yi, yp, ya⟩ := y
   simp only at hc
   simp only [qbj, zgs, zgr, zgq, zgt, hx, hy, c1, w1, w2, w3, w4, w6, d1, rq, hc, hlt, Evt.r, qv, Ev.exec, qb, qe, qc, qkn, qai, Ev.evs, Ev.Opnd.ev, Ev.Env.get, Ev.Env.set, Ev.look, qk, qad, qaf, qcs, ql, qs, Ev.keep, qae, qx, qd, Ev.SObj.lo, qa4, qbm, qe4, qj, ↓qr, Ev.it1, ↓reduceIte, zga, zgb, zgd, zgc, zfe, zgg, zgl, zgn, Nat.reduceAdd, Nat.reduceEqDiff, reduceCtorEq, zgv, zfc, Bool.not_true, zfa, zgx, zfd, zgu, Nat.le_refl, zgy]
  ·simp only at hu hv
   rw [← hq, hx] at hu; cases hu
   rw [hy] at hv; cases hv; exact qyr x y hlt
 ·refine ⟨(h + 1, j), ?_, ⟨by simp only; omega, by simp only; omega, h3, .inr fun u v hu hv => ?_, h5⟩, by simp only; omega⟩
  ·obtain ⟨xt, xk, xl, xi, xp, xa⟩ := x
   obtain ⟨yt, yk, yl, yi, yp, ya⟩ := y
   simp only at hc
   simp only [qbj, zgs, zgr, zgq, zgt, hx, hy, c1, w1, w2, w3, w4, w5, w6, d1, rq, hc, hlt, Evt.r, qv, Ev.exec, qb, qe, qc, qkn, qai, Ev.evs, Ev.Opnd.ev, Ev.Env.get, Ev.Env.set, Ev.look, qk, qad, qaf, qcs, ql, qs, Ev.keep, qae, qx, qd, Ev.SObj.lo, qa4, qbm, qe4, qj, ↓qr, Ev.it1, ↓reduceIte, zga, zgb, zgd, zgc, zfe, zgg, zgl, zgn, Nat.reduceAdd, Nat.reduceEqDiff, reduceCtorEq, zgv, zgw, zfc, Bool.not_false, zgx, zfd, zgu, Nat.le_refl, zgy]
  ·simp only [Nat.add_sub_cancel] at hu hv
   rw [← hq, hx] at hv; cases hv
   rw [hy] at hu; cases hu; exact qpd x y hlt
end
open Go.Ev
set_option maxRecDepth 10000
section
variable (g : Nat) (cl : Bool) (n : Nat)
theorem q52 (P S Q : List Evt) (x : Evt) (hn : n = (P ++ x :: (S ++ Q)).length) (hb : n < 2 ^ 61) (a i : Nat) (ha : a = P.length) (hi : i = a + S.length + 1) :
  ∃ y, itB (exec (evL T) itL none qc7) (qs [0, 10, 13] true 1) ⟨[(0, .sl 0 g 0 n cl), (10, (ii i)), (13, (ii a))], []⟩ [.row 6 ((P ++ x :: (S ++ Q)).map Evt.r) g] = some y ∧
   (y.1 = .exit 2 ∧ y.2.1.marks = [] ∧ y.2.2 = [.row 6 ((P ++ (S ++ x :: Q)).map Evt.r) g]) := by
 refine qg4 (τ := List Evt × Nat) (fun s => ⟨[(0, .sl 0 g 0 n cl), (10, (ii i)), (13, (ii s.2))], []⟩) (fun s => [.row 6 ((s.1).map Evt.r) g]) (fun s => i - s.2)
  (fun s => ∃ A B, s.1 = P ++ (A ++ x :: (B ++ Q)) ∧ s.2 = a + A.length ∧ A ++ B = S) _ ?_ (P ++ x :: (S ++ Q), a) ⟨[], S, by simp, rfl, by simp⟩
 rintro ⟨D, k⟩ ⟨A, B, hD, hk, hAB⟩
 simp only at hD hk ⊢
 have hlen : n = P.length + (S.length + (Q.length + 1)) := by rw [hn]; simp; omega
 have hSl : S.length = A.length + B.length := by rw [← hAB]; simp
 obtain ⟨i', hi'⟩ : ∃ i', i' = a + S.length := ⟨_, rfl⟩
 have w1 : IntKind.i64.wrap ((i : Int) - 1) = (i' : Int) := qrx (by omega) (by omega)
 cases B with
 | nil =>
  have h1 : ¬ (k : Int) < (i' : Int) := by simp at hSl; omega
  right
  simp only [qc7, w1, h1, Ev.exec, qb, qe, qc, qai, Ev.Opnd.ev, Ev.Env.get, Ev.Env.set, Ev.look, qcs, ql, ↓qr, Ev.it1, ↓reduceIte, Nat.reduceEqDiff, reduceCtorEq, zgw, zfa, zgy]
  refine ⟨_, rfl, rfl, rfl, ?_⟩
  rw [hD, ← hAB]; simp
 | cons y B =>
  rw [List.length_cons] at hSl
  have h1 : (k : Int) < (i' : Int) := by omega
  have e1 : D = (P ++ A) ++ x :: y :: (B ++ Q) := by rw [hD]; simp
  have l1 : k = (P ++ A).length := by simp; omega
  obtain ⟨j, hj⟩ : ∃ j, j = k + 1 := ⟨_, rfl⟩
  have gx : D[k]? = some x := qor e1 l1
  have gy : D[j]? = some y := qor (L := P ++ A ++ [x]) (M := B ++ Q) (by rw [e1]; simp) (by simp; omega)
  have ge : D.length = n := by rw [e1, hlen]; simp; omega
  have w2 : IntKind.i64.wrap ((k : Int) + 1) = (j : Int) := by rw [hj]; exact ql5 (by omega)
  have rj : j < n := by omega
  have rk : k < n := by omega
  have sw := q8e e1 l1 hj
  have hne : ¬ (k = j) := by omega
  left
  have hlo := qv 1 ((D.set k y).set j x)
  refine ⟨((D.set k y).set j x, j), ?_, ⟨A ++ [y], B, by rw [sw]; simp, by simp; omega, by rw [← hAB]; simp⟩, by simp only; omega⟩
  obtain ⟨xt, xk, xl, xi, xp, xa⟩ := x
  obtain ⟨yt, yk, yl, yi, yp, ya⟩ := y
  have hs : ∀ v, ((D.map Evt.r).set k v)[j]? = some (Evt.r ⟨yt, yk, yl, yi, yp, ya⟩) := fun v => by rw [List.getElem?_set_ne hne, List.getElem?_map, gy]; rfl
  simp only [List.map_set, Evt.r] at hlo
  simp only [qc7, zgs, zgr, zgq, zgt, gx, gy, hs, h1, w1, w2, rj, rk, hlo, List.map_set, Evt.r, Ev.exec, qb, qe, qc, qai, Ev.Opnd.ev, Ev.Env.get, Ev.Env.set, Ev.look, qk, qad, Ev.AV.cells, qw, Ev.AV.plain, qaf, qcs, ql, qs, Ev.keep, qae, qx, qd, Ev.SObj.lo, qa4, qbm, ↓qr, Ev.it1, ↓reduceIte, zga, zgb, zgd, zgc, zgo, zfe, zgf, zgg, List.drop_nil, zgl, zgn, zgj, Nat.reduceAdd, Nat.reduceEqDiff, reduceCtorEq, zgv, zfc, zgx, zfd, zgu, Nat.le_refl, zgy]
theorem q5d (P S Q : List Evt) (x : Evt) (hn : n = (P ++ (S ++ x :: Q)).length) (hb : n < 2 ^ 61) (m i : Nat) (hi : i = P.length) (hm : m = i + S.length) :
  ∃ y, itB (exec (evL T) itL none qc6) (qs [0, 14, 17] true 1) ⟨[(0, .sl 0 g 0 n cl), (14, (ii i)), (17, (ii m))], []⟩ [.row 6 ((P ++ (S ++ x :: Q)).map Evt.r) g] = some y ∧
   (y.1 = .exit 6 ∧ y.2.1.marks = [] ∧ y.2.2 = [.row 6 ((P ++ x :: (S ++ Q)).map Evt.r) g]) := by
 refine qg4 (τ := List Evt × Nat) (fun s => ⟨[(0, .sl 0 g 0 n cl), (14, (ii i)), (17, (ii s.2))], []⟩) (fun s => [.row 6 ((s.1).map Evt.r) g]) (fun s => s.2)
  (fun s => ∃ A B, s.1 = P ++ (A ++ x :: (B ++ Q)) ∧ s.2 = i + A.length ∧ A ++ B = S) _ ?_ (P ++ (S ++ x :: Q), m) ⟨S, [], by simp, hm, by simp⟩
 rintro ⟨D, j⟩ ⟨A, B, hD, hj, hAB⟩
 simp only at hD hj ⊢
 have hlen : n = P.length + (S.length + (Q.length + 1)) := by rw [hn]; simp
 have hSl : S.length = A.length + B.length := by rw [← hAB]; simp
 rcases List.eq_nil_or_concat A with rfl | ⟨A0, y, rfl⟩
 ·have h1 : ¬ (j : Int) > (i : Int) := by simp at hj; omega
  right
  simp only [qc6, h1, Ev.exec, qb, qe, qc, qai, Ev.Opnd.ev, Ev.Env.get, Ev.Env.set, Ev.look, qaq, ↓qr, Ev.it1, ↓reduceIte, Nat.reduceEqDiff, reduceCtorEq, zgw, zfa, zgy]
  refine ⟨_, rfl, rfl, rfl, ?_⟩
  rw [hD, ← hAB]; simp
 ·simp only [List.concat_eq_append, zgp, zga, zgb] at hD hj hSl hAB
  obtain ⟨k, hk1⟩ : ∃ k, k = i + A0.length := ⟨_, rfl⟩
  have hjk : j = k + 1 := by omega
  have h1 : (j : Int) > (i : Int) := by omega
  have e1 : D = (P ++ A0) ++ y :: x :: (B ++ Q) := by rw [hD]; simp
  have l1 : k = (P ++ A0).length := by simp; omega
  have gy : D[k]? = some y := qor e1 l1
  have gx : D[j]? = some x := qor (L := P ++ A0 ++ [y]) (M := B ++ Q) (by rw [e1]; simp) (by simp; omega)
  have ge : D.length = n := by rw [e1, hlen]; simp; omega
  have ws : IntKind.i64.wrap ((j : Int) - 1) = (k : Int) := qrx hjk (by omega)
  have rj : j < n := by omega
  have rk : k < n := by omega
  have sw := q4u e1 l1 hjk
  have hne : ¬ (j = k) := by omega
  left
  have hlo := qv 1 ((D.set j y).set k x)
  refine ⟨((D.set j y).set k x, k), ?_, ⟨A0, y :: B, by rw [sw]; simp, hk1, by rw [← hAB]; simp⟩, by simp only; omega⟩
  obtain ⟨xt, xk, xl, xi, xp, xa⟩ := x
  obtain ⟨yt, yk, yl, yi, yp, ya⟩ := y
  have hs : ∀ v, ((D.map Evt.r).set j v)[k]? = some (Evt.r ⟨yt, yk, yl, yi, yp, ya⟩) := fun v => by rw [List.getElem?_set_ne hne, List.getElem?_map, gy]; rfl
  simp only [List.map_set, Evt.r] at hlo
  simp only [qc6, zgs, zgr, zgq, zgt, gx, gy, hs, h1, ws, rj, rk, hlo, List.map_set, Evt.r, Ev.exec, qb, qe, qc, qai, Ev.Opnd.ev, Ev.Env.get, Ev.Env.set, Ev.look, qk, qad, Ev.AV.cells, qw, Ev.AV.plain, qcs, qaq, qs, Ev.keep, qae, qx, qd, Ev.SObj.lo, qa4, qbm, ↓qr, Ev.it1, ↓reduceIte, zga, zgb, zgd, zgc, zgo, zfe, zgf, zgg, List.drop_nil, zgl, zgn, zgj, Nat.reduceAdd, Nat.reduceEqDiff, reduceCtorEq, zgv, zfc, zgx, zfd, zgu, Nat.le_refl, zgy]
theorem qct.perm {D E : List Evt} (h : qct D) (p : E.Perm D) : qct E := fun x hx => h x (p.mem_iff.1 hx)
theorem q8d (P Y Q : List Evt) (x : Evt) (hY : Y.Pairwise leE) (hY0 : 0 < Y.length) (hn : n = (P ++ x :: (Y ++ Q)).length) (hb : n < 2 ^ 61) (hk : qct (P ++ x :: (Y ++ Q))) (a m b : Nat) (ha : a = P.length) (hm : m = a + 1) (hbb : b = m + Y.length) :
  ∃ Z : List Evt, Z.Perm (x :: Y) ∧ Z.Pairwise leE ∧ (evL T).call qau [.sl 0 g 0 n cl, (ii a), (ii m), (ii b), (.fn (.func qq) [] [])] [.row 6 ((P ++ x :: (Y ++ Q)).map Evt.r) g] = some (.tup [], [.row 6 ((P ++ (Z ++ Q)).map Evt.r) g]) := by
 have hlen : n = P.length + (1 + (Y.length + Q.length)) := by rw [hn]; simp; omega
 obtain ⟨⟨y, e, σ⟩, k1, i, k2, k3, k4, k5, k6, k7, k8, k9, k10, k11⟩ := q47 g cl n (P ++ x :: (Y ++ Q)) x hn hb hk a m b (qor rfl ha) (by omega) (by omega) (by omega)
 simp only at k1 k2 k3 k4 k5 k6 k7
 subst k2; subst k4
 obtain ⟨Y1, Y2, rfl, hY1⟩ : ∃ Y1 Y2, Y = Y1 ++ Y2 ∧ Y1.length = i - m := ⟨Y.take (i - m), Y.drop (i - m), (List.take_append_drop _ _).symm, by simp; omega⟩
 rw [List.length_append] at hbb hlen hY0
 obtain ⟨⟨y', e', σ'⟩, l1, l2, l3, l4⟩ := q52 g cl n P Y1 (Y2 ++ Q) x (by rw [hlen]; simp; omega) hb a i ha (by omega)
 simp only at l1 l2 l3 l4
 subst l2; subst l4
 rw [List.append_assoc] at hk
 refine ⟨Y1 ++ x :: Y2, List.perm_middle, qmg qkq hY ?_ ?_, ?_⟩
 ·intro u hu
  rcases k10 with h | h
  ·rw [show Y1 = [] from List.eq_nil_of_length_eq_zero (by omega)] at hu; simp at hu
  ·have hlt : Y1.length - 1 < Y1.length := (List.getElem?_eq_some_iff.1 hu).1
   refine h u ?_
   rw [← hu]
   exact qvy (L := P ++ [x]) (X := Y1) (M := Y2 ++ Q) (by simp) hlt (by simp; omega)
 ·intro v hv
  rcases k11 with h | h
  ·rw [show Y2 = [] from List.eq_nil_of_length_eq_zero (by omega)] at hv; simp at hv
  ·have hlt : 0 < Y2.length := (List.getElem?_eq_some_iff.1 hv).1
   refine h v ?_
   rw [← hv]
   exact qvy (L := P ++ x :: Y1) (X := Y2) (M := Q) (by simp) hlt (by simp; omega)
 ·have c1 : (m : Int) - (a : Int) = 1 := by omega
  have w1 : IntKind.i64.wrap ((m : Int) - (a : Int)) = 1 := by rw [c1]; exact qay (by omega) (by omega)
  rw [List.append_assoc] at k1 ⊢
  rw [qy qi qf]
  simp only [List.append_assoc, zgm]
  simp only [qg, w1, k1, k3, k5, k6, k7, l1, l3, qv, qn, Ev.exec, qb, qe, qc, qai, Ev.Opnd.ev, Ev.Env.get, Ev.Env.set, Ev.look, qo, qcs, qak, qm, qaj, Ev.kill, qah, qs, Ev.keep, qae, qx, qd, Ev.SObj.lo, qa4, qa9, qbm, qe4, qj, ↓qr, ↓qar, ↓reduceIte, zga, zgb, zgc, zfe, Nat.reduceAdd, Nat.reduceEqDiff, reduceCtorEq, zgv, zfc, zgx, zfd, zgu, zgy]
theorem q7u (P X Q : List Evt) (x : Evt) (hX : X.Pairwise leE) (hX0 : 1 < X.length) (hn : n = (P ++ (X ++ x :: Q)).length) (hb : n < 2 ^ 61) (hk : qct (P ++ (X ++ x :: Q))) (a m b : Nat) (ha : a = P.length) (hm : m = a + X.length) (hbb : b = m + 1) :
  ∃ Z : List Evt, Z.Perm (X ++ [x]) ∧ Z.Pairwise leE ∧ (evL T).call qau [.sl 0 g 0 n cl, (ii a), (ii m), (ii b), (.fn (.func qq) [] [])] [.row 6 ((P ++ (X ++ x :: Q)).map Evt.r) g] = some (.tup [], [.row 6 ((P ++ (Z ++ Q)).map Evt.r) g]) := by
 have hlen : n = P.length + (X.length + (Q.length + 1)) := by rw [hn]; simp
 obtain ⟨⟨y, e, σ⟩, k1, i, k2, k3, k4, k5, k6, k7, k8, k9, k10, k11⟩ := q5l g cl n (P ++ (X ++ x :: Q)) x hn hb hk a m (qor (L := P ++ X) (M := Q) (by simp) (by simp; omega)) (by omega) (by omega)
 simp only at k1 k2 k3 k4 k5 k6 k7
 subst k2; subst k4
 obtain ⟨X1, X2, rfl, hX1⟩ : ∃ X1 X2, X = X1 ++ X2 ∧ X1.length = i - a := ⟨X.take (i - a), X.drop (i - a), (List.take_append_drop _ _).symm, by simp; omega⟩
 rw [List.length_append] at hm hlen hX0
 obtain ⟨⟨y', e', σ'⟩, l1, l2, l3, l4⟩ := q5d g cl n (P ++ X1) X2 Q x (by rw [hlen]; simp; omega) hb m i (by simp; omega) (by omega)
 simp only at l1 l2 l3 l4
 subst l2; subst l4
 refine ⟨X1 ++ x :: X2, ?_, qmg qkq hX ?_ ?_, ?_⟩
 ·rw [List.append_assoc]
  exact List.Perm.append_left X1 (List.perm_append_singleton x X2).symm
 ·intro u hu
  rcases k10 with h | h
  ·rw [show X1 = [] from List.eq_nil_of_length_eq_zero (by omega)] at hu; simp at hu
  ·have hlt : X1.length - 1 < X1.length := (List.getElem?_eq_some_iff.1 hu).1
   refine h u ?_
   rw [← hu]
   exact qvy (L := P) (X := X1) (M := X2 ++ x :: Q) (by simp) hlt (by omega)
 ·intro v hv
  rcases k11 with h | h
  ·rw [show X2 = [] from List.eq_nil_of_length_eq_zero (by omega)] at hv; simp at hv
  ·have hlt : 0 < X2.length := (List.getElem?_eq_some_iff.1 hv).1
   refine h v ?_
   rw [← hv]
   exact qvy (L := P ++ X1) (X := X2) (M := x :: Q) (by simp) hlt (by simp; omega)
 ·have w1 : IntKind.i64.wrap ((m : Int) - (a : Int)) = ((X1.length + X2.length : Nat) : Int) := qfi hm (by omega)
  have h1 : ¬ ((X1.length + X2.length : Nat) : Int) = 1 := by omega
  have w2 : IntKind.i64.wrap ((b : Int) - (m : Int)) = 1 := by rw [show (b : Int) - (m : Int) = 1 by omega]; exact qay (by omega) (by omega)
  rw [qy qi qf]
  simp only [List.append_assoc, zgm] at k1 l1 ⊢
  simp only [qg, w1, w2, h1, k1, k3, k5, k6, k7, l1, l3, qv, qn, Ev.exec, qb, qe, qc, qai, Ev.Opnd.ev, Ev.Env.get, Ev.Env.set, Ev.look, qo, qcs, qak, qm, qaj, Ev.kill, qah, qs, Ev.keep, qae, qx, qd, Ev.SObj.lo, qa4, qa9, qbm, qe4, qj, ↓qr, ↓qar, ↓reduceIte, zga, zgb, zgc, zfe, Nat.reduceAdd, Nat.reduceEqDiff, reduceCtorEq, zgv, zgw, zfc, zfa, zgx, zfd, zgu, zgy]
end
end Go.Proofs.Ytbhhifdhlafklaa.K
