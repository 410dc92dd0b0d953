/- For every input the statement of this claim returns true: texts of its proof, joined (part 7). -/
import Derived.Test.YtbhhifdhlafklaaGreatProg
import Derived.KernelRfl
import Derived.Test.YtbhhifdhlafklaaGreatEZO3
import Derived.Test.YtbhhifdhlafklaaGreatSKZO
set_option linter.unusedSectionVars false
set_option linter.unusedSimpArgs false
set_option linter.unusedVariables false
namespace Go.Proofs.YtbhhifdhlafklaaGreat.K
open Go.Ev
set_option maxRecDepth 100000
theorem qsp : qg5 Tryz.prog { frz := [3], frzv := [121, 125, 127, 128], own := [13, 14, 22, 24], ice := [(30, 13)], loops := [([2, 3, 7, 8, 9, 12, 13, 14, 15, 16], true), ([2, 7, 8, 13, 14, 15, 22, 23], true), ([2, 7, 8, 13, 14, 15, 22, 23, 24, 25, 26], true), ([7, 8, 15, 27, 28, 29], true)] } qfu = some qfv := by kernel_rfl
theorem q38 : qg5 Tryz.prog {  } qki = some qrd := by kernel_rfl
theorem q5x : qg5 Tryz.prog { frz := [1] } qmc = some qsm := by kernel_rfl
theorem q2d : qg5 Tryz.prog { frz := [2] } qjd = some qm6 := by kernel_rfl
theorem qyy : qg5 Tryz.prog { frzv := [27], own := [4], loops := [([4, 7, 8, 9], true)] } qf3 = some qk3 := by kernel_rfl
theorem qvh : qg5 Tryz.prog { frz := [4, 5], mI := [21, 26, 28], ownB := [(17, (5, 6)), (17, (6, 6))], loops := [([4, 13], true)] } qep = some qld := by kernel_rfl
theorem qtx : qg5 Tryz.prog { loops := [([0, 1, 5], true)] } qfc = some qgg := by kernel_rfl
theorem qvq : qg5 Tryz.prog { frz := [2] } qer = some qlg := by kernel_rfl
theorem qvc : qg5 Tryz.prog {  } qfs = some qkp := by kernel_rfl
theorem qzz : qg5 Tryz.prog { mF := [9] } qjw = some qo4 := by kernel_rfl
theorem q1h : qg5 Tryz.prog { own := [5], loops := [([0, 1, 5, 6], true), ([0, 1, 5, 6, 7, 8], true)] } qi7 = some qnc := by kernel_rfl
theorem qvn : qg5 Tryz.prog { mA := [12], mF := [53], topZ := [15], ownS := [(15, 6)], appB := [(33, 8)], ldB := [(25, 8)], loops := [([5, 6, 17, 18, 19], true), ([5, 36, 37, 38], true)] } qeb = some qlb := by kernel_rfl
theorem q1r : qg5 Tryz.prog { loops := [([0, 3], true)] } qh0 = some ql3 := by kernel_rfl
theorem q3j : qg5 Tryz.prog {  } qlq = some qrf := by kernel_rfl
theorem qxe : qg5 Tryz.prog { frz := [1], frzv := [41], own := [3], loops := [([1, 3, 4], true), ([1, 3, 4, 5], true)] } qf5 = some ql0 := by kernel_rfl
theorem qyx : qg5 Tryz.prog { frz := [1], own := [3], topZ := [5], loops := [([1, 3, 4], false), ([1, 3, 4, 5, 6], false)] } qg2 = some qml := by kernel_rfl
theorem q2e : qg5 Tryz.prog { frz := [1], loops := [([1, 3, 4, 5], true), ([1, 3, 4, 6], true), ([1, 3, 4, 6, 7], true)] } qi5 = some qgs := by kernel_rfl
theorem qwh : qg5 Tryz.prog { frz := [2], loops := [([1, 2, 4, 5], true)] } qgm = some qle := by kernel_rfl
theorem qq2 : qg5 Tryz.prog { bad := true, loops := [([0, 3, 4], true)] } qd5 = some qhx := by kernel_rfl
theorem qp2 : qg5 Tryz.prog { frz := [2, 3] } qdr = some qgt := by kernel_rfl
theorem qpi : qg5 Tryz.prog { frz := [4, 5], loops := [([0, 5, 8, 50, 51, 52], true), ([0, 81, 82, 83], true)] } qdk = some qe5 := by kernel_rfl
theorem qp8 : qg5 Tryz.prog { ldx := [(14, 2), (18, 2), (22, 2), (26, 2)] } qdu = some qgu := by kernel_rfl
theorem q3z : qg5 Tryz.prog { frz := [3, 4, 5], ldx := [(96, 6), (98, 6), (100, 6)] } qf8 = some qci := by kernel_rfl
theorem qxy : qg5 Tryz.prog {  } qfb = some qkk := by kernel_rfl
theorem qva : qg5 Tryz.prog { frz := [2, 3] } qft = some qdx := by kernel_rfl
theorem qtv : qg5 Tryz.prog { loops := [([0, 1, 5], true)] } qff = some qj3 := by kernel_rfl
theorem q0q : qg5 Tryz.prog { frz := [3], own := [6], loops := [([0, 3, 5], true)] } qgz = some qia := by kernel_rfl
theorem qjc : qg5 Tryz.prog { mA := [24], bad := true, loops := [([0, 3, 9, 10, 11], true), ([6, 25, 26, 27], false)] } qav = some qc0 := by kernel_rfl
theorem qx0 : qg5 Tryz.prog { mA := [8], mI := [9] } qhe = some ql5 := by kernel_rfl
theorem qq4 : qg5 Tryz.prog { frz := [2, 3] } qc8 = some qf4 := by kernel_rfl
theorem qt4 : qg5 Tryz.prog { frzv := [49], own := [6], loops := [([0, 3, 4], true), ([0, 3, 4, 5], true)] } qd0 = some qj2 := by kernel_rfl
theorem q09 : qg5 Tryz.prog { frz := [1], loops := [([1, 3], true), ([1, 4], true)] } qjf = some qhv := by kernel_rfl
theorem q2a : qg5 Tryz.prog { frz := [1], loops := [([1, 3], true), ([1, 5], true), ([1, 5, 6], true)] } qjh = some qhr := by kernel_rfl
theorem q1q : qg5 Tryz.prog { frz := [1], topZ := [9], loops := [([1, 2, 3, 4], false)] } qi0 = some qm4 := by kernel_rfl
theorem qym : qg5 Tryz.prog { frz := [2], appN := [21, 28, 57, 69], frzv := [36, 38, 63, 73] } qh9 = some qk6 := by kernel_rfl
theorem qom : qg5 Tryz.prog { loops := [([0, 1, 2], true)] } qcx = some qek := by kernel_rfl
theorem qzo : qg5 Tryz.prog { mA := [20] } qh5 = some qjv := by kernel_rfl
theorem q0t : qg5 Tryz.prog { frz := [3, 5], mA := [52], mI := [59, 82, 88], ldF := [80], ldx := [(96, 6), (100, 6), (104, 6)], ownB := [(56, (10, 6)), (56, (12, 1))] } qej = some qb3 := by kernel_rfl
theorem qv9 : qg5 Tryz.prog { frz := [3], mA := [14], mI := [18] } qfl = some qlf := by kernel_rfl
theorem qwf : qg5 Tryz.prog { frz := [3], mA := [21], mI := [9] } qgo = some qjm := by kernel_rfl
theorem q4w : qg5 Tryz.prog { frz := [5], appN := [12], frzv := [17] } qey = some qqf := by kernel_rfl
theorem qvt : qg5 Tryz.prog { frz := [3], loops := [([2, 3, 4, 6, 7], true)] } qgk = some qhj := by kernel_rfl
theorem qso : qg5 Tryz.prog { loops := [([0, 1, 5], true)] } qd8 = some qhg := by kernel_rfl
theorem qjy : qg5 Tryz.prog { bad := true } qbb = some qcc := by kernel_rfl
theorem qmr : qg5 Tryz.prog { mI := [4] } qcq = some qen := by kernel_rfl
theorem qvl : qg5 Tryz.prog {  } qgl = some qlc := by kernel_rfl
theorem qto : qg5 Tryz.prog { mA := [5], mI := [7] } qeg = some qj6 := by kernel_rfl
theorem qxs : qg5 Tryz.prog {  } qfi = some qij := by kernel_rfl
theorem q1m : qg5 Tryz.prog { frz := [1], loops := [([1, 3], true)] } qiw = some qeq := by kernel_rfl
theorem q1y : qg5 Tryz.prog { loops := [([0, 1, 2, 3, 9], true), ([0, 2, 3, 10], true), ([0, 3, 11], true)] } qi4 = some qh1 := by kernel_rfl
theorem qxl : qg5 Tryz.prog { own := [5], loops := [([0, 1, 5, 6], true), ([0, 1, 5, 6, 7, 8], true)] } qhd = some ql2 := by kernel_rfl
theorem qpd : qg5 Tryz.prog {  } qa0 = some qe6 := by kernel_rfl
theorem qp3 : qg5 Tryz.prog { loops := [([0, 1, 12, 13], true)] } qdb = some qed := by kernel_rfl
theorem qm0 : qg5 Tryz.prog { mA := [6], mI := [10, 19, 44, 49], loops := [([0, 1, 4, 7], true)] } qcv = some qd1 := by kernel_rfl
theorem qe7 : qg5 Tryz.prog { frz := [4], loops := [([0, 2, 4, 8, 9, 10], true)] } qap = some qay := by kernel_rfl
theorem qq7 : qg5 Tryz.prog { frz := [2, 3] } qq = some qe2 := by kernel_rfl
theorem qic : qg5 Tryz.prog { loops := [([0, 1, 7, 8], true)] } qa7 = some qbv := by kernel_rfl
theorem qtb : qg5 Tryz.prog { frz := [2] } qdl = some qj7 := by kernel_rfl
theorem q3s : qg5 Tryz.prog { frz := [5], appN := [134], frzv := [141] } qdq = some qdy := by kernel_rfl
theorem qid : qg5 Tryz.prog { own := [2], loops := [([2], true)] } qa6 = some qcp := by kernel_rfl
theorem qt5 : qg5 Tryz.prog { loops := [([0, 1, 2], true)] } qdm = some qj5 := by kernel_rfl
theorem qhf : qg5 Tryz.prog { mI := [8] } qax = some qb5 := by kernel_rfl
theorem q1u : qg5 Tryz.prog { loops := [([0, 3], true)] } qi6 = some qi3 := by kernel_rfl
theorem qwm : qg5 Tryz.prog { frz := [3] } qgn = some qea := by kernel_rfl
theorem qqq : qg5 Tryz.prog {  } qdz = some qhh := by kernel_rfl
theorem q1a : qg5 Tryz.prog {  } qiv = some qm7 := by kernel_rfl
theorem qvb : qg5 Tryz.prog {  } qez = some qha := by kernel_rfl
theorem qsv : qg5 Tryz.prog {  } qev = some qiy := by kernel_rfl
theorem q0s : qg5 Tryz.prog { appN := [36], frzv := [41], ldx := [(32, 6), (45, 6)] } qe9 = some qk5 := by kernel_rfl
theorem qux : qg5 Tryz.prog { appN := [8] } qe0 = some qkm := by kernel_rfl
theorem qk4 : qg5 Tryz.prog { mI := [18, 27, 43, 60], loops := [([0, 1, 2, 6, 7, 8], true), ([0, 1, 2, 6], true), ([0, 1, 2, 6, 7, 8], true)] } qbq = some qds := by kernel_rfl
theorem q1s : qg5 Tryz.prog {  } qf1 = some qm9 := by kernel_rfl
theorem q1g : qg5 Tryz.prog {  } qgr = some qnf := by kernel_rfl
theorem qpj : qg5 Tryz.prog { frz := [3], mI := [14, 15], ldF := [7] } qck = some qgh := by kernel_rfl
theorem qo3 : qg5 Tryz.prog { frz := [3], mI := [13] } qcj = some qgc := by kernel_rfl
theorem qof : qg5 Tryz.prog { frz := [3], mI := [7, 21, 22], mR := [9], ldF := [12] } qcf = some qf2 := by kernel_rfl
theorem qpn : qg5 Tryz.prog { frz := [3], mI := [7] } qb7 = some qe1 := by kernel_rfl
theorem qop : qg5 Tryz.prog { frz := [3], mI := [33, 34], ldF := [30] } qcg = some qel := by kernel_rfl
theorem qp9 : qg5 Tryz.prog { frz := [3] } qct = some qfa := by kernel_rfl
theorem qo7 : qg5 Tryz.prog { frz := [3], mI := [17], ldF := [19] } qcn = some qdh := by kernel_rfl
theorem qp5 : qg5 Tryz.prog { frz := [3] } qcu = some qgv := by kernel_rfl
theorem q3k : qg5 Tryz.prog { loops := [([3, 6, 7, 8], true)] } qkf = some qmn := by kernel_rfl
theorem qw3 : qg5 Tryz.prog {  } qf7 = some qly := by kernel_rfl
theorem qob : qg5 Tryz.prog { loops := [([0, 1, 9, 10, 11], true)] } qdc = some qdd := by kernel_rfl
theorem q1k : qg5 Tryz.prog { appN := [8] } qjb = some qnd := by kernel_rfl
theorem qjg : qg5 Tryz.prog { loops := [([0, 1, 2, 3, 8], true), ([0, 1, 2, 3, 8, 9], true)] } qa2 = some qcz := by kernel_rfl
theorem qko : qg5 Tryz.prog { mI := [191, 205, 219], loops := [([0, 1, 4, 10, 11], true), ([0, 10, 13], true), ([0, 2, 4, 14, 15], true), ([0, 14, 17], true), ([0, 1, 2, 3, 4, 18, 19, 20, 21, 22], true)] } qat = some qg := by kernel_rfl
theorem qn0 : qg5 Tryz.prog {  } qbr = some qee := by kernel_rfl
theorem qqa : qg5 Tryz.prog {  } qcw = some qgy := by kernel_rfl
theorem qk7 : qg5 Tryz.prog { mI := [31, 46, 57], loops := [([0, 2, 4, 10, 11], true)] } qbc = some qdt := by kernel_rfl
theorem q1c : qg5 Tryz.prog { mA := [6] } qja = some qnm := by kernel_rfl
theorem qkh : qg5 Tryz.prog { loops := [([0, 1, 2, 3, 10], true)] } qa3 = some qdg := by kernel_rfl
theorem qii : qts Tryz.prog qb4 = some (1, 24) := by kernel_rfl
theorem qi8 : qts Tryz.prog qbg = some (6, 64) := by kernel_rfl
theorem qlm : qts Tryz.prog qda = some (4, 48) := by kernel_rfl
theorem qph : qts Tryz.prog qfe = some (1, 8) := by kernel_rfl
theorem qip : InsB Tryz.prog qbo 6 64 84 40 4 := ⟨by kernel_rfl, by kernel_rfl, by kernel_rfl, by kernel_rfl, by kernel_rfl, by kernel_rfl, by kernel_rfl, by kernel_rfl, by kernel_rfl, by kernel_rfl, by kernel_rfl, by kernel_rfl, by kernel_rfl, by kernel_rfl, by kernel_rfl, by kernel_rfl, by kernel_rfl, by kernel_rfl, by kernel_rfl, by kernel_rfl, by kernel_rfl, by kernel_rfl, by kernel_rfl, by kernel_rfl⟩
def codeL : List (Nat × CFunc) := [(qfu, qfv), (qki, qrd), (qmc, qsm), (qjd, qm6), (qf3, qk3), (qep, qld), (qfc, qgg), (qer, qlg), (qfs, qkp), (qjw, qo4), (qi7, qnc), (qeb, qlb), (qh0, ql3), (qlq, qrf), (qf5, ql0), (qg2, qml), (qi5, qgs), (qgm, qle), (qd5, qhx), (qdr, qgt), (qdk, qe5), (qdu, qgu), (qf8, qci), (qfb, qkk), (qft, qdx), (qff, qj3), (qgz, qia), (qav, qc0), (qhe, ql5), (qc8, qf4), (qd0, qj2), (qjf, qhv), (qjh, qhr), (qi0, qm4), (qh9, qk6), (qcx, qek), (qh5, qjv), (qej, qb3), (qfl, qlf), (qgo, qjm), (qey, qqf), (qgk, qhj), (qd8, qhg), (qbb, qcc), (qcq, qen), (qgl, qlc), (qeg, qj6), (qfi, qij), (qiw, qeq), (qi4, qh1), (qhd, ql2), (qa0, qe6), (qdb, qed), (qcv, qd1), (qap, qay), (qq, qe2), (qa7, qbv), (qdl, qj7), (qdq, qdy), (qa6, qcp), (qdm, qj5), (qax, qb5), (qi6, qi3), (qgn, qea), (qdz, qhh), (qiv, qm7), (qez, qha), (qev, qiy), (qe9, qk5), (qe0, qkm), (qbq, qds), (qf1, qm9), (qgr, qnf), (qck, qgh), (qcj, qgc), (qcf, qf2), (qb7, qe1), (qcg, qel), (qct, qfa), (qcn, qdh), (qcu, qgv), (qkf, qmn), (qf7, qly), (qdc, qdd), (qjb, qnd), (qa2, qcz), (qat, qg), (qbr, qee), (qcw, qgy), (qbc, qdt), (qja, qnm), (qa3, qdg)]
def extL : List (Nat × (Nat × Nat)) := [(qb4, (1, 24)), (qbg, (6, 64)), (qda, (4, 48)), (qfe, (1, 8))]
def insL : List (Nat × (Nat × Nat)) := [(qbo, (6, 64))]
def q6m {α : Type} : List (Nat × α) → Nat → Option α
 | [], _ => none
 | (k, x) :: l, i => if k = i then some x else q6m l i
theorem qui {α : Type} : ∀ {l : List (Nat × α)} {i : Nat} {x : α}, q6m l i = some x → (i, x) ∈ l
 | [], _, _, h => by simp [q6m] at h
 | (k, y) :: l, i, x, h => by
  simp only [q6m] at h
  split at h
  ·rename_i hk; subst hk; cases h; simp
  ·exact List.mem_cons_of_mem _ (qui h)
def T : Tab := { code := q6m codeL, ext := fun k => (q6m extL k).map fun p => qr7 p.1 p.2, ins := q6m insL }
theorem codeL_ok : ∀ x ∈ codeL, ∃ h, qg5 Tryz.prog h x.1 = some x.2 := by
 intro x hx
 simp only [codeL, List.mem_cons, List.not_mem_nil, or_false] at hx
 rcases hx with rfl | rfl | rfl | rfl | rfl | rfl | rfl | rfl | rfl | rfl | rfl | rfl | rfl | rfl | rfl | rfl | rfl | rfl | rfl | rfl | rfl | rfl | rfl | rfl | rfl | rfl | rfl | rfl | rfl | rfl | rfl | rfl | rfl | rfl | rfl | rfl | rfl | rfl | rfl | rfl | rfl | rfl | rfl | rfl | rfl | rfl | rfl | rfl | rfl | rfl | rfl | rfl | rfl | rfl | rfl | rfl | rfl | rfl | rfl | rfl | rfl | rfl | rfl | rfl | rfl | rfl | rfl | rfl | rfl | rfl | rfl | rfl | rfl | rfl | rfl | rfl | rfl | rfl | rfl | rfl | rfl | rfl | rfl | rfl | rfl | rfl | rfl | rfl | rfl | rfl | rfl | rfl
 ·exact ⟨_, qsp⟩
 ·exact ⟨_, q38⟩
 ·exact ⟨_, q5x⟩
 ·exact ⟨_, q2d⟩
 ·exact ⟨_, qyy⟩
 ·exact ⟨_, qvh⟩
 ·exact ⟨_, qtx⟩
 ·exact ⟨_, qvq⟩
 ·exact ⟨_, qvc⟩
 ·exact ⟨_, qzz⟩
 ·exact ⟨_, q1h⟩
 ·exact ⟨_, qvn⟩
 ·exact ⟨_, q1r⟩
 ·exact ⟨_, q3j⟩
 ·exact ⟨_, qxe⟩
 ·exact ⟨_, qyx⟩
 ·exact ⟨_, q2e⟩
 ·exact ⟨_, qwh⟩
 ·exact ⟨_, qq2⟩
 ·exact ⟨_, qp2⟩
 ·exact ⟨_, qpi⟩
 ·exact ⟨_, qp8⟩
 ·exact ⟨_, q3z⟩
 ·exact ⟨_, qxy⟩
 ·exact ⟨_, qva⟩
 ·exact ⟨_, qtv⟩
 ·exact ⟨_, q0q⟩
 ·exact ⟨_, qjc⟩
 ·exact ⟨_, qx0⟩
 ·exact ⟨_, qq4⟩
 ·exact ⟨_, qt4⟩
 ·exact ⟨_, q09⟩
 ·exact ⟨_, q2a⟩
 ·exact ⟨_, q1q⟩
 ·exact ⟨_, qym⟩
 ·exact ⟨_, qom⟩
 ·exact ⟨_, qzo⟩
 ·exact ⟨_, q0t⟩
 ·exact ⟨_, qv9⟩
 ·exact ⟨_, qwf⟩
 ·exact ⟨_, q4w⟩
 ·exact ⟨_, qvt⟩
 ·exact ⟨_, qso⟩
 ·exact ⟨_, qjy⟩
 ·exact ⟨_, qmr⟩
 ·exact ⟨_, qvl⟩
 ·exact ⟨_, qto⟩
 ·exact ⟨_, qxs⟩
 ·exact ⟨_, q1m⟩
 ·exact ⟨_, q1y⟩
 ·exact ⟨_, qxl⟩
 ·exact ⟨_, qpd⟩
 ·exact ⟨_, qp3⟩
 ·exact ⟨_, qm0⟩
 ·exact ⟨_, qe7⟩
 ·exact ⟨_, qq7⟩
 ·exact ⟨_, qic⟩
 ·exact ⟨_, qtb⟩
 ·exact ⟨_, q3s⟩
 ·exact ⟨_, qid⟩
 ·exact ⟨_, qt5⟩
 ·exact ⟨_, qhf⟩
 ·exact ⟨_, q1u⟩
 ·exact ⟨_, qwm⟩
 ·exact ⟨_, qqq⟩
 ·exact ⟨_, q1a⟩
 ·exact ⟨_, qvb⟩
 ·exact ⟨_, qsv⟩
 ·exact ⟨_, q0s⟩
 ·exact ⟨_, qux⟩
 ·exact ⟨_, qk4⟩
 ·exact ⟨_, q1s⟩
 ·exact ⟨_, q1g⟩
 ·exact ⟨_, qpj⟩
 ·exact ⟨_, qo3⟩
 ·exact ⟨_, qof⟩
 ·exact ⟨_, qpn⟩
 ·exact ⟨_, qop⟩
 ·exact ⟨_, qp9⟩
 ·exact ⟨_, qo7⟩
 ·exact ⟨_, qp5⟩
 ·exact ⟨_, q3k⟩
 ·exact ⟨_, qw3⟩
 ·exact ⟨_, qob⟩
 ·exact ⟨_, q1k⟩
 ·exact ⟨_, qjg⟩
 ·exact ⟨_, qko⟩
 ·exact ⟨_, qn0⟩
 ·exact ⟨_, qqa⟩
 ·exact ⟨_, qk7⟩
 ·exact ⟨_, q1c⟩
 ·exact ⟨_, qkh⟩
theorem extL_ok : ∀ x ∈ extL, qts Tryz.prog x.1 = some x.2 := by
 intro x hx
 simp only [extL, List.mem_cons, List.not_mem_nil, or_false] at hx
 rcases hx with rfl | rfl | rfl | rfl
 ·exact qii
 ·exact qi8
 ·exact qlm
 ·exact qph
theorem mixed : Tryz.prog.follows .mixedOrders = true := by kernel_rfl
theorem insL_ok : ∀ x ∈ insL, InsOk Tryz.prog x.1 (insF x.2.1 x.2.2) := by
 intro x hx
 simp only [insL, List.mem_cons, List.not_mem_nil, or_false] at hx
 rcases hx with rfl
 ·exact ins_ok mixed qip
theorem T_ok : TabOk Tryz.prog T where
 code k f h := codeL_ok _ (qui h)
 ext k F h := by
  simp only [T, Option.map_eq_some_iff] at h
  obtain ⟨p, h1, rfl⟩ := h
  exact clone_ok mixed (extL_ok _ (qui h1))
 ins k p h := insL_ok (k, p) (qui h)
 mixed := mixed
theorem qma : T.code qfu = some qfv := rfl
theorem qaa7 : T.code qki = some qrd := rfl
theorem q3h : T.code qmc = some qsm := rfl
theorem qxd : T.code qjd = some qm6 := rfl
theorem qwa : T.code qf3 = some qk3 := rfl
theorem qtf : T.code qep = some qld := rfl
theorem qrm : T.code qfc = some qgg := rfl
theorem qt1 : T.code qer = some qlg := rfl
theorem qsr : T.code qfs = some qkp := rfl
theorem q8h : T.code qjw = some qo4 := rfl
theorem qxo : T.code qi7 = some qnc := rfl
theorem qtp : T.code qeb = some qlb := rfl
theorem qw9 : T.code qh0 = some ql3 := rfl
theorem q92 : T.code qlq = some qrf := rfl
theorem quz : T.code qf5 = some ql0 := rfl
theorem qvp : T.code qg2 = some qml := rfl
theorem qw6 : T.code qi5 = some qgs := rfl
theorem qtw : T.code qgm = some qle := rfl
theorem qp6 : T.code qd5 = some qhx := rfl
theorem qoe : T.code qdr = some qgt := rfl
theorem qnr : T.code qdk = some qe5 := rfl
theorem qol : T.code qdu = some qgu := rfl
theorem qlw : T.code qf8 = some qci := rfl
theorem qup : T.code qfb = some qkk := rfl
theorem qsz : T.code qft = some qdx := rfl
theorem qrr : T.code qff = some qj3 := rfl
theorem qv1 : T.code qgz = some qia := rfl
theorem qin : T.code qav = some qc0 := rfl
theorem qum : T.code qhe = some ql5 := rfl
theorem qp0 : T.code qc8 = some qf4 := rfl
theorem qrb : T.code qd0 = some qj2 := rfl
theorem qxc : T.code qjf = some qhv := rfl
theorem qxk : T.code qjh = some qhr := rfl
theorem qxi : T.code qi0 = some qm4 := rfl
theorem qwl : T.code qh9 = some qk6 := rfl
theorem qng : T.code qcx = some qek := rfl
theorem qvw : T.code qh5 = some qjv := rfl
theorem qks : T.code qej = some qb3 := rfl
theorem qt3 : T.code qfl = some qlf := rfl
theorem qnq : T.code qgo = some qjm := rfl
theorem q1v : T.code qey = some qqf := rfl
theorem qtj : T.code qgk = some qhj := rfl
theorem qq8 : T.code qd8 = some qhg := rfl
theorem qiz : T.code qbb = some qcc := rfl
theorem ql9 : T.code qcq = some qen := rfl
theorem qtd : T.code qgl = some qlc := rfl
theorem qrv : T.code qeg = some qj6 := rfl
theorem quj : T.code qfi = some qij := rfl
theorem qxu : T.code qiw = some qeq := rfl
theorem qxt : T.code qi4 = some qh1 := rfl
theorem qub : T.code qhd = some ql2 := rfl
theorem qkl : T.code qa0 = some qe6 := rfl
theorem qoi : T.code qdb = some qed := rfl
theorem qmi : T.code qcv = some qd1 := rfl
theorem qeo : T.code qap = some qay := rfl
theorem qik : T.code qq = some qe2 := rfl
theorem qht : T.code qa7 = some qbv := rfl
theorem qq9 : T.code qdl = some qj7 := rfl
theorem qdi : T.code qdq = some qdy := rfl
theorem qhw : T.code qa6 = some qcp := rfl
theorem qrj : T.code qdm = some qj5 := rfl
theorem qgw : T.code qax = some qb5 := rfl
theorem qxn : T.code qi6 = some qi3 := rfl
theorem qt2 : T.code qgn = some qea := rfl
theorem qpo : T.code qdz = some qhh := rfl
theorem qw4 : T.code qiv = some qm7 := rfl
theorem qsn : T.code qez = some qha := rfl
theorem qq5 : T.code qev = some qiy := rfl
theorem qwj : T.code qe9 = some qk5 := rfl
theorem qsu : T.code qe0 = some qkm := rfl
theorem qkr : T.code qbq = some qds := rfl
theorem qxf : T.code qf1 = some qm9 := rfl
theorem qxv : T.code qgr = some qnf := rfl
theorem qnz : T.code qck = some qgh := rfl
theorem qn1 : T.code qcj = some qgc := rfl
theorem qna : T.code qcf = some qf2 := rfl
theorem qn8 : T.code qb7 = some qe1 := rfl
theorem qm8 : T.code qcg = some qel := rfl
theorem qon : T.code qct = some qfa := rfl
theorem qn6 : T.code qcn = some qdh := rfl
theorem qog : T.code qcu = some qgv := rfl
theorem qyk : T.code qkf = some qmn := rfl
theorem qul : T.code qf7 = some qly := rfl
theorem qne : T.code qdc = some qdd := rfl
theorem qxh : T.code qjb = some qnd := rfl
theorem qil : T.code qa2 = some qcz := rfl
theorem qf : T.code qat = some qg := rfl
theorem qmw : T.code qbr = some qee := rfl
theorem qok : T.code qcw = some qgy := rfl
theorem qkq : T.code qbc = some qdt := rfl
theorem qxz : T.code qja = some qnm := rfl
theorem qj0 : T.code qa3 = some qdg := rfl
theorem qre : T.ext qfu = none ∧ T.ins qfu = none := ⟨rfl, rfl⟩
theorem ext_law23_head : T.ext qki = none ∧ T.ins qki = none := ⟨rfl, rfl⟩
theorem q4x : T.ext qmc = none ∧ T.ins qmc = none := ⟨rfl, rfl⟩
theorem qyc : T.ext qjd = none ∧ T.ins qjd = none := ⟨rfl, rfl⟩
theorem qw7 : T.ext qf3 = none ∧ T.ins qf3 = none := ⟨rfl, rfl⟩
theorem qun : T.ext qep = none ∧ T.ins qep = none := ⟨rfl, rfl⟩
theorem qsy : T.ext qfc = none ∧ T.ins qfc = none := ⟨rfl, rfl⟩
theorem qu2 : T.ext qer = none ∧ T.ins qer = none := ⟨rfl, rfl⟩
theorem qtl : T.ext qfs = none ∧ T.ins qfs = none := ⟨rfl, rfl⟩
theorem q9q : T.ext qjw = none ∧ T.ins qjw = none := ⟨rfl, rfl⟩
theorem qzr : T.ext qi7 = none ∧ T.ins qi7 = none := ⟨rfl, rfl⟩
theorem qve : T.ext qeb = none ∧ T.ins qeb = none := ⟨rfl, rfl⟩
theorem qyo : T.ext qh0 = none ∧ T.ins qh0 = none := ⟨rfl, rfl⟩
theorem ext_law19_Base : T.ext qlq = none ∧ T.ins qlq = none := ⟨rfl, rfl⟩
theorem qvk : T.ext qf5 = none ∧ T.ins qf5 = none := ⟨rfl, rfl⟩
theorem qxj : T.ext qg2 = none ∧ T.ins qg2 = none := ⟨rfl, rfl⟩
theorem qzt : T.ext qi5 = none ∧ T.ins qi5 = none := ⟨rfl, rfl⟩
theorem quc : T.ext qgm = none ∧ T.ins qgm = none := ⟨rfl, rfl⟩
theorem qqi : T.ext qd5 = none ∧ T.ins qd5 = none := ⟨rfl, rfl⟩
theorem qpb : T.ext qdr = none ∧ T.ins qdr = none := ⟨rfl, rfl⟩
theorem qoq : T.ext qdk = none ∧ T.ins qdk = none := ⟨rfl, rfl⟩
theorem qpf : T.ext qdu = none ∧ T.ins qdu = none := ⟨rfl, rfl⟩
theorem qmj : T.ext qf8 = none ∧ T.ins qf8 = none := ⟨rfl, rfl⟩
theorem qv8 : T.ext qfb = none ∧ T.ins qfb = none := ⟨rfl, rfl⟩
theorem qti : T.ext qft = none ∧ T.ins qft = none := ⟨rfl, rfl⟩
theorem qsw : T.ext qff = none ∧ T.ins qff = none := ⟨rfl, rfl⟩
theorem qxr : T.ext qgz = none ∧ T.ins qgz = none := ⟨rfl, rfl⟩
theorem qir : T.ext qav = none ∧ T.ins qav = none := ⟨rfl, rfl⟩
theorem qwb : T.ext qhe = none ∧ T.ins qhe = none := ⟨rfl, rfl⟩
theorem qqt : T.ext qc8 = none ∧ T.ins qc8 = none := ⟨rfl, rfl⟩
theorem qsx : T.ext qd0 = none ∧ T.ins qd0 = none := ⟨rfl, rfl⟩
theorem qz1 : T.ext qjf = none ∧ T.ins qjf = none := ⟨rfl, rfl⟩
theorem qyt : T.ext qjh = none ∧ T.ins qjh = none := ⟨rfl, rfl⟩
theorem qy1 : T.ext qi0 = none ∧ T.ins qi0 = none := ⟨rfl, rfl⟩
theorem qw8 : T.ext qh9 = none ∧ T.ins qh9 = none := ⟨rfl, rfl⟩
theorem qkb : T.ext qcx = none ∧ T.ins qcx = none := ⟨rfl, rfl⟩
theorem qxa : T.ext qh5 = none ∧ T.ins qh5 = none := ⟨rfl, rfl⟩
theorem qla : T.ext qej = none ∧ T.ins qej = none := ⟨rfl, rfl⟩
theorem qug : T.ext qfl = none ∧ T.ins qfl = none := ⟨rfl, rfl⟩
theorem qov : T.ext qgo = none ∧ T.ins qgo = none := ⟨rfl, rfl⟩
theorem q3x : T.ext qey = none ∧ T.ins qey = none := ⟨rfl, rfl⟩
theorem quu : T.ext qgk = none ∧ T.ins qgk = none := ⟨rfl, rfl⟩
theorem qro : T.ext qd8 = none ∧ T.ins qd8 = none := ⟨rfl, rfl⟩
theorem qji : T.ext qbb = none ∧ T.ins qbb = none := ⟨rfl, rfl⟩
theorem qmd : T.ext qcq = none ∧ T.ins qcq = none := ⟨rfl, rfl⟩
theorem quh : T.ext qgl = none ∧ T.ins qgl = none := ⟨rfl, rfl⟩
theorem qsq : T.ext qeg = none ∧ T.ins qeg = none := ⟨rfl, rfl⟩
theorem qv7 : T.ext qfi = none ∧ T.ins qfi = none := ⟨rfl, rfl⟩
theorem qzw : T.ext qiw = none ∧ T.ins qiw = none := ⟨rfl, rfl⟩
theorem qz2 : T.ext qi4 = none ∧ T.ins qi4 = none := ⟨rfl, rfl⟩
theorem qvy : T.ext qhd = none ∧ T.ins qhd = none := ⟨rfl, rfl⟩
theorem qkt : T.ext qa0 = none ∧ T.ins qa0 = none := ⟨rfl, rfl⟩
theorem qo6 : T.ext qdb = none ∧ T.ins qdb = none := ⟨rfl, rfl⟩
theorem qmt : T.ext qcv = none ∧ T.ins qcv = none := ⟨rfl, rfl⟩
theorem qet : T.ext qap = none ∧ T.ins qap = none := ⟨rfl, rfl⟩
theorem qje : T.ext qq = none ∧ T.ins qq = none := ⟨rfl, rfl⟩
theorem qh4 : T.ext qa7 = none ∧ T.ins qa7 = none := ⟨rfl, rfl⟩
theorem qs0 : T.ext qdl = none ∧ T.ins qdl = none := ⟨rfl, rfl⟩
theorem qdw : T.ext qdq = none ∧ T.ins qdq = none := ⟨rfl, rfl⟩
theorem qh6 : T.ext qa6 = none ∧ T.ins qa6 = none := ⟨rfl, rfl⟩
theorem qm2 : T.ext qdm = none ∧ T.ins qdm = none := ⟨rfl, rfl⟩
theorem qg8 : T.ext qax = none ∧ T.ins qax = none := ⟨rfl, rfl⟩
theorem qyn : T.ext qi6 = none ∧ T.ins qi6 = none := ⟨rfl, rfl⟩
theorem qu9 : T.ext qgn = none ∧ T.ins qgn = none := ⟨rfl, rfl⟩
theorem qpt : T.ext qdz = none ∧ T.ins qdz = none := ⟨rfl, rfl⟩
theorem q00 : T.ext qiv = none ∧ T.ins qiv = none := ⟨rfl, rfl⟩
theorem qtc : T.ext qez = none ∧ T.ins qez = none := ⟨rfl, rfl⟩
theorem qr0 : T.ext qev = none ∧ T.ins qev = none := ⟨rfl, rfl⟩
theorem qxx : T.ext qe9 = none ∧ T.ins qe9 = none := ⟨rfl, rfl⟩
theorem qtt : T.ext qe0 = none ∧ T.ins qe0 = none := ⟨rfl, rfl⟩
theorem qkz : T.ext qbq = none ∧ T.ins qbq = none := ⟨rfl, rfl⟩
theorem q0d : T.ext qf1 = none ∧ T.ins qf1 = none := ⟨rfl, rfl⟩
theorem q0r : T.ext qgr = none ∧ T.ins qgr = none := ⟨rfl, rfl⟩
theorem qoj : T.ext qck = none ∧ T.ins qck = none := ⟨rfl, rfl⟩
theorem qoh : T.ext qcj = none ∧ T.ins qcj = none := ⟨rfl, rfl⟩
theorem qnt : T.ext qcf = none ∧ T.ins qcf = none := ⟨rfl, rfl⟩
theorem qoc : T.ext qb7 = none ∧ T.ins qb7 = none := ⟨rfl, rfl⟩
theorem qnw : T.ext qcg = none ∧ T.ins qcg = none := ⟨rfl, rfl⟩
theorem qo2 : T.ext qct = none ∧ T.ins qct = none := ⟨rfl, rfl⟩
theorem qoo : T.ext qcn = none ∧ T.ins qcn = none := ⟨rfl, rfl⟩
theorem qpl : T.ext qcu = none ∧ T.ins qcu = none := ⟨rfl, rfl⟩
theorem q1p : T.ext qkf = none ∧ T.ins qkf = none := ⟨rfl, rfl⟩
theorem qvr : T.ext qf7 = none ∧ T.ins qf7 = none := ⟨rfl, rfl⟩
theorem qnv : T.ext qdc = none ∧ T.ins qdc = none := ⟨rfl, rfl⟩
theorem q0e : T.ext qjb = none ∧ T.ins qjb = none := ⟨rfl, rfl⟩
theorem qiq : T.ext qa2 = none ∧ T.ins qa2 = none := ⟨rfl, rfl⟩
theorem qi : T.ext qat = none ∧ T.ins qat = none := ⟨rfl, rfl⟩
theorem qnj : T.ext qbr = none ∧ T.ins qbr = none := ⟨rfl, rfl⟩
theorem qpp : T.ext qcw = none ∧ T.ins qcw = none := ⟨rfl, rfl⟩
theorem qkv : T.ext qbc = none ∧ T.ins qbc = none := ⟨rfl, rfl⟩
theorem qyu : T.ext qja = none ∧ T.ins qja = none := ⟨rfl, rfl⟩
theorem qj9 : T.ext qa3 = none ∧ T.ins qa3 = none := ⟨rfl, rfl⟩
theorem qif : T.ext qb4 = some (qr7 1 24) := rfl
theorem qi2 : T.ext qbg = some (qr7 6 64) := rfl
theorem qlh : T.ext qda = some (qr7 4 48) := rfl
theorem qpa : T.ext qfe = some (qr7 1 8) := rfl
theorem qis : T.ins qbo = some (6, 64) := rfl
theorem qih : T.ext qbo = none := rfl
def qb9 (n : Int) : List AV := [(ii n)]
theorem int_lo (n : Nat) (x : Int) : los n (qb9 x) = true := rfl
theorem int_pl (x : Int) : (qb9 x).length = 1 ∧ qy (qb9 x) = true := ⟨rfl, rfl⟩
theorem qag (n : Nat) (l : List Int) : qg9 n (l.map qb9) = true := ql6 (int_lo n) l
theorem qabt (l : List Int) : qc3 1 (l.map qb9) = true := qme int_pl l
def qfz (l : List Int) : List AV := [(.fsl ((l).map qb9) false)]
theorem key_lo (n : Nat) (l : List Int) : los n (qfz l) = true := by simp only [qfz, los, AV.lo, qag, zfc]
theorem key_pl (l : List Int) : (qfz l).length = 1 ∧ qy (qfz l) = true := ⟨rfl, rfl⟩
theorem qbs (n : Nat) (l : List (List Int)) : qg9 n (l.map qfz) = true := ql6 (key_lo n) l
theorem keys_ok (l : List (List Int)) : qc3 1 (l.map qfz) = true := qme key_pl l
structure OpI where
 code : Int
 a : Int
 b : Int
 c : Int
 deriving DecidableEq
def OpI.r (x : OpI) : List AV := [(ii x.code), (ii x.a), (ii x.b), (ii x.c)]
theorem op_lo (n : Nat) (x : OpI) : los n x.r = true := rfl
theorem qi9 (n : Nat) (l : List OpI) : qg9 n (l.map OpI.r) = true := ql6 (op_lo n) l
def qc1 (p : List OpI) : List AV := [(.fsl ((p).map OpI.r) false)]
theorem progC_lo (n : Nat) (l : List OpI) : los n (qc1 l) = true := by simp only [qc1, los, AV.lo, qi9, zfc]
theorem qbe (n : Nat) (l : List (List OpI)) : qg9 n (l.map qc1) = true := ql6 (progC_lo n) l
structure Start where
 prog : Int
 time : Int
 deriving DecidableEq
def Start.r (x : Start) : List AV := [(ii x.prog), (ii x.time)]
theorem start_lo (n : Nat) (x : Start) : los n x.r = true := rfl
theorem qab4 (n : Nat) (l : List Start) : qg9 n (l.map Start.r) = true := ql6 (start_lo n) l
def lpC (p : List Start) : List AV := [(.fsl ((p).map Start.r) false)]
theorem lpC_lo (n : Nat) (l : List Start) : los n (lpC l) = true := by simp only [lpC, los, AV.lo, qab4, zfc]
theorem qc4 (n : Nat) (l : List (List Start)) : qg9 n (l.map lpC) = true := ql6 (lpC_lo n) l
structure Cfg where
 lps : List (List Start)
 progs : List (List OpI)
 look : Int
 fin : Int
 cap : Int
def qrh (n : Int) : Bool := decide (n ≥ 1) && decide (n ≤ 1099511627776)
def qw0 (n : Int) : Bool := decide (n ≥ -1073741824) && decide (n ≤ 1073741824)
theorem qmk (n : Int) : qa4 (evL T) qf1 [(ii n)] = some (bb (qrh n)) := by
 rw [qa4, qx q0d qxf]
 by_cases h1 : n ≥ 1 <;> simp only [qrh, qm9, h1, qn, Ev.exec, qb, qe, qc, qai, Ev.Opnd.ev, Ev.Env.get, Ev.Env.set, Ev.Env.unset, Ev.look, qo, qmv, qch, qm, qab, qaj, Ev.kill, qah, qd, qa1, qal, ↓qs, ↓reduceIte, zga, zgb, zfe, Nat.reduceEqDiff, reduceCtorEq, zgv, zgw, Bool.true_and, zfa, zgx, zfd, zgy, Bool.false_and]
theorem qo5 (n : Int) : qa4 (evL T) qgr [(ii n)] = some (bb (qw0 n)) := by
 rw [qa4, qx q0r qxv]
 by_cases h1 : n ≥ -1073741824 <;> simp only [qw0, qnf, h1, qn, Ev.exec, qb, qe, qc, qai, Ev.Opnd.ev, Ev.Env.get, Ev.Env.set, Ev.Env.unset, Ev.look, qo, qmv, qch, qm, qab, qaj, Ev.kill, qah, qd, qa1, qal, ↓qs, ↓reduceIte, zga, zgb, zfe, Nat.reduceEqDiff, Int.reduceNeg, reduceCtorEq, zgv, zgw, Bool.true_and, zfa, zgx, zfd, zgy, Bool.false_and]
def q1l (x : OpI) (n ps : Int) : Bool :=
 if x.code = 1 then qrh x.a && (decide (x.b = 0) && decide (x.c = 0))
 else if x.code = 2 then decide (x.a ≥ 0) && (qw0 x.b && qrh x.c)
 else if x.code = 3 then qrh x.a && (decide (x.b ≥ 0) && (decide (x.b < n) && decide (x.c = 0)))
 else if x.code = 5 then decide (x.a ≥ 0) && (decide (x.a < ps) && (qrh x.b && decide (x.c = 0)))
 else if x.code = 6 then decide (x.a ≥ 0) && (decide (x.a < 2) && (qw0 x.b && decide (x.c = 0)))
 else if x.code = 7 then decide (x.a ≥ 0) && (decide (x.a < 2) && (qw0 x.b && (decide (x.c ≥ 0) && decide (x.c < n))))
 else decide (x.a = 0) && (decide (x.b = 0) && decide (x.c = 0))
theorem qp7 (x : OpI) (n ps : Int) : qa4 (evL T) qgn [(.agg [(ii x.code), (ii x.a), (ii x.b), (ii x.c)]), (ii n), (ii ps)] = some (bb (q1l x n ps)) := by
 obtain ⟨k, a, b, c⟩ := x
 rw [qa4, qx qu9 qt2]
 simp only [q1l]
 by_cases k1 : k = 1
 ·subst k1
  cases h1 : qrh a <;> by_cases h2 : b = 0 <;> simp only [qea, qmk, h1, h2, qn, Ev.exec, qb, qe, qc, qa5, qai, Ev.evs, Ev.Opnd.ev, Ev.Env.get, Ev.Env.set, Ev.Env.unset, Ev.look, qo, qk, qae, Ev.AV.cells, qy, Ev.AV.plain, qam, qm, qab, qaj, Ev.kill, qah, qd, qa1, qj, qh, qal, ↓qs, ↓reduceIte, zga, zgb, zfe, zgf, zgg, zgh, Nat.reduceAdd, Nat.reduceEqDiff, zgv, zgw, zfc, Bool.true_and, zfa, zgx, ne_eq, zfb, zff, zfd, zgy, Bool.false_and, Bool.and_false]
 by_cases k2 : k = 2
 ·subst k2
  by_cases h1 : a ≥ 0 <;> cases h2 : qw0 b <;> simp only [qea, qmk, qo5, h1, h2, qn, Ev.exec, qb, qe, qc, qa5, qai, Ev.evs, Ev.Opnd.ev, Ev.Env.get, Ev.Env.set, Ev.Env.unset, Ev.look, qo, qk, qae, Ev.AV.cells, qy, Ev.AV.plain, qam, qch, qm, qab, qaj, Ev.kill, qah, qd, qa1, qj, qh, qal, ↓qs, ↓reduceIte, zga, zgb, zfe, zgf, zgg, zgh, Nat.reduceAdd, Nat.reduceEqDiff, Int.reduceEq, zgv, zgw, zfc, Bool.true_and, zfa, zgx, ne_eq, zfb, zff, zfd, zgy, Bool.false_and, Bool.and_false]
 by_cases k3 : k = 3
 ·subst k3
  cases h1 : qrh a <;> by_cases h2 : b ≥ 0 <;> by_cases h3 : b < n <;> simp only [qea, qmk, h1, h2, h3, qn, Ev.exec, qb, qe, qc, qa5, qai, Ev.evs, Ev.Opnd.ev, Ev.Env.get, Ev.Env.set, Ev.Env.unset, Ev.look, qo, qk, qae, Ev.AV.cells, qy, Ev.AV.plain, qam, ql, qch, qm, qab, qaj, Ev.kill, qah, qd, qa1, qj, qh, qal, ↓qs, ↓reduceIte, zga, zgb, zfe, zgf, zgg, zgh, Nat.reduceAdd, Nat.reduceEqDiff, Int.reduceEq, reduceCtorEq, zgv, zgw, zfc, Bool.true_and, zfa, zgx, ne_eq, zfb, zff, zfd, zgy, Bool.false_and, Bool.and_false]
 by_cases k5 : k = 5
 ·subst k5
  by_cases h1 : a ≥ 0 <;> by_cases h2 : a < ps <;> cases h3 : qrh b <;> simp only [qea, qmk, h1, h2, h3, qn, Ev.exec, qb, qe, qc, qa5, qai, Ev.evs, Ev.Opnd.ev, Ev.Env.get, Ev.Env.set, Ev.Env.unset, Ev.look, qo, qk, qae, Ev.AV.cells, qy, Ev.AV.plain, qam, ql, qch, qm, qab, qaj, Ev.kill, qah, qd, qa1, qj, qh, qal, ↓qs, ↓reduceIte, zga, zgb, zfe, zgf, zgg, zgh, Nat.reduceAdd, Nat.reduceEqDiff, Int.reduceEq, reduceCtorEq, zgv, zgw, zfc, Bool.true_and, zfa, zgx, ne_eq, zfb, zff, zfd, zgy, Bool.false_and, Bool.and_false]
 by_cases k6 : k = 6
 ·subst k6
  by_cases h1 : a ≥ 0 <;> by_cases h2 : a < 2 <;> cases h3 : qw0 b <;> simp only [qea, qo5, h1, h2, h3, qn, Ev.exec, qb, qe, qc, qa5, qai, Ev.evs, Ev.Opnd.ev, Ev.Env.get, Ev.Env.set, Ev.Env.unset, Ev.look, qo, qk, qae, Ev.AV.cells, qy, Ev.AV.plain, qam, ql, qch, qm, qab, qaj, Ev.kill, qah, qd, qa1, qj, qh, qal, ↓qs, ↓reduceIte, zga, zgb, zfe, zgf, zgg, zgh, Nat.reduceAdd, Nat.reduceEqDiff, Int.reduceEq, zgv, zgw, zfc, Bool.true_and, zfa, zgx, ne_eq, zfb, zff, zfd, zgy, Bool.false_and, Bool.and_false]
 by_cases k7 : k = 7
 ·subst k7
  by_cases h1 : a ≥ 0 <;> by_cases h2 : a < 2 <;> cases h3 : qw0 b <;> by_cases h4 : c ≥ 0 <;> simp only [qea, qo5, h1, h2, h3, h4, qn, Ev.exec, qb, qe, qc, qa5, qai, Ev.evs, Ev.Opnd.ev, Ev.Env.get, Ev.Env.set, Ev.Env.unset, Ev.look, qo, qk, qae, Ev.AV.cells, qy, Ev.AV.plain, qam, ql, qch, qm, qab, qaj, Ev.kill, qah, qd, qa1, qj, qh, qal, ↓qs, ↓reduceIte, zga, zgb, zfe, zgf, zgg, zgh, Nat.reduceAdd, Nat.reduceEqDiff, Int.reduceEq, reduceCtorEq, zgv, zgw, zfc, Bool.true_and, zfa, zgx, ne_eq, zfb, zff, zfd, zgy, Bool.false_and, Bool.and_false]
 by_cases h1 : a = 0 <;> by_cases h2 : b = 0 <;> simp only [qea, k1, k2, k3, k5, k6, k7, h1, h2, qn, Ev.exec, qb, qe, qc, qai, Ev.Opnd.ev, Ev.Env.get, Ev.Env.set, Ev.Env.unset, Ev.look, qo, qk, qae, Ev.AV.cells, qy, Ev.AV.plain, qam, qm, qab, qaj, Ev.kill, qah, qd, qa1, qal, ↓qs, ↓reduceIte, zga, zgb, zfe, zgf, zgg, zgh, Nat.reduceAdd, Nat.reduceEqDiff, zgv, zgw, zfc, Bool.true_and, zfa, zgx, ne_eq, zfb, zff, zfd, zgy, Bool.false_and, Bool.and_false]
def q44 (x : OpI) : Bool := decide (x.code ≥ 1) && decide (x.code ≤ 8)
def qrw (p : List OpI) : Bool := decide (1 ≤ p.length ∧ p.length ≤ 16) && p.all q44
def qab0 (lps : Int) (x : OpI) : Bool := !(decide (x.code = 2) && decide (x.a ≥ lps))
def qrk (look : Int) (x : OpI) : Bool := !(decide (x.code = 2) && decide (x.c < look))
def qqw (p : List OpI) (ps lps look : Int) : Int :=
 if qrw p = false then 22 else if p.all (fun x => q1l x p.length ps) = false then 22 else if p.all (qab0 lps) = false then 23 else if p.all (qrk look) = false then 21 else 0
section
variable (p : List OpI) (c : Bool) (ps lps look : Int)
theorem q3p (hl : p.length ≤ 16) :
  ∃ y, itB (exec (evL T) itL none qho) (qr [0, 3] true 0) ⟨[(0, (.fsl ((p).map OpI.r) c)), (3, (ii 0))], []⟩ [] = some y ∧ (p.all q44 = true ∧ (y.1 = .exit 0 ∧ y.2.1.marks = [] ∧ y.2.2 = []) ∨
   p.all q44 = false ∧ ∃ x, p.find? (fun x => !q44 x) = some x ∧ (y.1 = .ret ∧ y.2.1.marks = [] ∧ y.2.2 = [] ∧ Ev.look y.2.1.vars 2 = some (bb false))) := by
 refine qie p (fun i => ⟨[(0, (.fsl ((p).map OpI.r) c)), (3, (ii i))], []⟩) [] q44 _ (fun _ y => _) ?_ ?_ ?_
 ·intro i x hi hx hp
  have hi' : (i : Int) < (p.length : Int) := by omega
  have hw : IntKind.i64.wrap ((i : Int) + 1) = ((i + 1 : Nat) : Int) := by rw [qaw (by omega) (by omega)]; simp
  simp only [q44, Bool.and_eq_true, decide_eq_true_eq] at hp
  have h1 : ¬ x.code < 1 := by omega
  have h2 : ¬ x.code > 8 := by omega
  simp only [qho, zgs, zgr, zgq, zgt, OpI.r, hx, hi', hw, h1, h2, qi9, Ev.exec, qb, qe, qc, qai, Ev.Opnd.ev, Ev.Env.get, Ev.Env.set, Ev.look, qk, qae, qaf, ql, qas, qr, Ev.keep, qad, qw, qd, qa1, qu, zgi, ↓qs, Ev.it1, ↓reduceIte, zga, zgb, zfe, zgg, zgh, Nat.reduceAdd, Nat.reduceEqDiff, reduceCtorEq, zgv, zgw, zfc, zfa, zgx, zfd, zgy]
 ·intro i x hi hx hp
  have hi' : (i : Int) < (p.length : Int) := by omega
  simp only [q44, Bool.and_eq_false_iff, decide_eq_false_iff_not] at hp
  by_cases h1 : x.code < 1
  ·simp only [qho, zgs, zgr, zgq, zgt, OpI.r, hx, hi', h1, Ev.exec, qb, qe, qc, qai, Ev.Opnd.ev, Ev.Env.get, Ev.Env.set, Ev.Env.unset, Ev.look, qk, qae, ql, zgi, ↓qs, Ev.it1, ↓reduceIte, zga, zgb, zgg, zgh, Nat.reduceAdd, Nat.reduceEqDiff, reduceCtorEq, zgv, zfa, Bool.true_eq_false, zfd, zgy]
   exact ⟨_, rfl, rfl, rfl, rfl, rfl⟩
  ·have h2 : x.code > 8 := by omega
   simp only [qho, zgs, zgr, zgq, zgt, OpI.r, hx, hi', h1, h2, Ev.exec, qb, qe, qc, qai, Ev.Opnd.ev, Ev.Env.get, Ev.Env.set, Ev.look, qk, qae, ql, qas, zgi, ↓qs, Ev.it1, ↓reduceIte, zga, zgb, zgg, zgh, Nat.reduceAdd, Nat.reduceEqDiff, reduceCtorEq, zgv, zgw, zfa, zfd, zgy]
   exact ⟨_, rfl, rfl, rfl, rfl, rfl⟩
 ·simp only [qho, Int.lt_irrefl, Ev.exec, qb, qe, qc, qai, Ev.Opnd.ev, Ev.Env.get, Ev.Env.set, Ev.look, ql, zgi, ↓qs, Ev.it1, ↓reduceIte, Nat.reduceEqDiff, reduceCtorEq, zgw, zfa, zgy]
  exact ⟨_, rfl, rfl, rfl, rfl⟩
theorem q1x : qa4 (evL T) qi6 [(.fsl ((p).map OpI.r) c)] = some (bb (qrw p)) := by
 rw [qa4, qx qyn qxn]
 by_cases h1 : (p.length : Int) < 1
 ·have : ¬ (1 ≤ p.length ∧ p.length ≤ 16) := by omega
  simp only [qi3, qrw, this, h1, qn, Ev.exec, qb, qe, qc, qai, Ev.Opnd.ev, Ev.Env.get, Ev.Env.set, Ev.Env.unset, Ev.look, qo, ql, qm, qab, qaj, Ev.kill, qah, qd, qa1, qal, zgi, ↓qs, ↓reduceIte, zga, zgb, zfe, Nat.reduceEqDiff, reduceCtorEq, zgv, zgw, Bool.true_eq_false, zgx, zfd, zgy, Bool.false_and]
 by_cases h2 : (p.length : Int) > 16
 ·have : ¬ (1 ≤ p.length ∧ p.length ≤ 16) := by omega
  simp only [qi3, qrw, this, h1, h2, qn, Ev.exec, qb, qe, qc, qai, Ev.Opnd.ev, Ev.Env.get, Ev.Env.set, Ev.look, qo, ql, qas, qm, qab, qaj, Ev.kill, qah, qd, qa1, qal, zgi, ↓qs, ↓reduceIte, zga, zgb, zfe, Nat.reduceEqDiff, reduceCtorEq, zgv, zgw, zfa, zgx, zfd, zgy, Bool.false_and]
 have h3 : 1 ≤ p.length ∧ p.length ≤ 16 := by omega
 obtain ⟨⟨y, e, σ⟩, k1, k2⟩ := q3p p c h3.2
 simp only at k2
 rcases k2 with ⟨k3, rfl, k4, rfl⟩ | ⟨k3, x, _, rfl, k4, rfl, k5⟩
 ·simp only [qi3, qrw, h3, h1, h2, k1, k3, k4, qi9, qn, Ev.exec, qb, qe, qc, qai, Ev.Opnd.ev, Ev.Env.get, Ev.Env.set, Ev.look, qo, ql, qas, qm, qab, qaj, Ev.kill, qah, qr, Ev.keep, qad, qw, qd, qa1, qu, qal, zgi, ↓qs, ↓qaq, ↓reduceIte, zga, zgb, zfe, Nat.reduceEqDiff, reduceCtorEq, zgv, zgw, zfc, zfa, zgx, zfd, zgy]
 ·simp only [qi3, qrw, h3, h1, h2, k1, k3, k4, k5, qi9, qn, Ev.exec, qb, qe, qc, qai, Ev.Opnd.ev, Ev.Env.get, Ev.Env.set, Ev.look, qo, ql, qas, qm, qab, qaj, Ev.kill, qah, qr, Ev.keep, qad, qw, qd, qa1, qu, qal, zgi, ↓qs, ↓qaq, ↓reduceIte, zga, zgb, zfe, Nat.reduceEqDiff, reduceCtorEq, zgv, zgw, zfc, zfa, zgx, zfd, zgy, Bool.and_false]
theorem q1i (hl : p.length ≤ 16) :
  ∃ y, itB (exec (evL T) itL none qjs) (qr [0, 1, 2, 3, 9] true 0) ⟨[(0, (.fsl ((p).map OpI.r) c)), (1, (ii ps)), (2, (ii lps)), (3, (ii look)), (9, (ii 0))], []⟩ [] = some y ∧
   (p.all (fun x => q1l x p.length ps) = true ∧ (y.1 = .exit 0 ∧ y.2.1.marks = [] ∧ y.2.2 = [] ∧ Ev.look y.2.1.vars 0 = some (.fsl ((p).map OpI.r) c) ∧ Ev.look y.2.1.vars 2 = some (ii lps) ∧ Ev.look y.2.1.vars 3 = some (ii look)) ∨
   p.all (fun x => q1l x p.length ps) = false ∧ ∃ x, p.find? (fun x => !q1l x p.length ps) = some x ∧ (y.1 = .ret ∧ y.2.1.marks = [] ∧ y.2.2 = [] ∧ Ev.look y.2.1.vars 8 = some (ii 22))) := by
 refine qie p (fun i => ⟨[(0, (.fsl ((p).map OpI.r) c)), (1, (ii ps)), (2, (ii lps)), (3, (ii look)), (9, (ii i))], []⟩) [] (fun x => q1l x p.length ps) _ (fun _ y => _) ?_ ?_ ?_
 ·intro i x hi hx hp
  have hi' : (i : Int) < (p.length : Int) := by omega
  have hw : IntKind.i64.wrap ((i : Int) + 1) = ((i + 1 : Nat) : Int) := by rw [qaw (by omega) (by omega)]; simp
  simp only [qjs, zgs, zgr, zgq, zgt, OpI.r, hx, hi', hw, qp7, hp, qi9, Ev.exec, qb, qe, qc, qa5, qai, Ev.evs, Ev.Opnd.ev, Ev.Env.get, Ev.Env.set, Ev.look, qk, qae, qaf, ql, qr, Ev.keep, qad, qw, qd, qa1, qbd, qu, qj, qh, zgi, ↓qs, Ev.it1, ↓reduceIte, zga, zgb, zgc, zfe, Nat.reduceAdd, Nat.reduceEqDiff, reduceCtorEq, zgv, zfc, Bool.not_true, zfa, zgx, zfd, Nat.le_refl, zgy]
 ·intro i x hi hx hp
  have hi' : (i : Int) < (p.length : Int) := by omega
  simp only [qjs, zgs, zgr, zgq, zgt, OpI.r, hx, hi', qp7, hp, Ev.exec, qb, qe, qc, qa5, qai, Ev.evs, Ev.Opnd.ev, Ev.Env.get, Ev.Env.set, Ev.look, qk, qae, ql, qa1, qbd, qj, qh, zgi, ↓qs, Ev.it1, ↓reduceIte, zga, zgb, zgc, zfe, Nat.reduceAdd, Nat.reduceEqDiff, reduceCtorEq, zgv, zfc, Bool.not_false, zfd, Nat.le_refl, zgy]
  exact ⟨_, rfl, rfl, rfl, rfl, rfl⟩
 ·simp only [qjs, Int.lt_irrefl, Ev.exec, qb, qe, qc, qai, Ev.Opnd.ev, Ev.Env.get, Ev.Env.set, Ev.look, ql, zgi, ↓qs, Ev.it1, ↓reduceIte, Nat.reduceEqDiff, reduceCtorEq, zgw, zfa, zgy]
  exact ⟨_, rfl, rfl, rfl, rfl, rfl, rfl, rfl⟩
theorem q1f (hl : p.length ≤ 16) :
  ∃ y, itB (exec (evL T) itL none qhl) (qr [0, 2, 3, 10] true 0) ⟨[(0, (.fsl ((p).map OpI.r) c)), (2, (ii lps)), (3, (ii look)), (10, (ii 0))], []⟩ [] = some y ∧
   (p.all (qab0 lps) = true ∧ (y.1 = .exit 2 ∧ y.2.1.marks = [] ∧ y.2.2 = [] ∧ Ev.look y.2.1.vars 0 = some (.fsl ((p).map OpI.r) c) ∧ Ev.look y.2.1.vars 3 = some (ii look)) ∨
   p.all (qab0 lps) = false ∧ ∃ x, p.find? (fun x => !qab0 lps x) = some x ∧ (y.1 = .ret ∧ y.2.1.marks = [] ∧ y.2.2 = [] ∧ Ev.look y.2.1.vars 8 = some (ii 23))) := by
 refine qie p (fun i => ⟨[(0, (.fsl ((p).map OpI.r) c)), (2, (ii lps)), (3, (ii look)), (10, (ii i))], []⟩) [] (qab0 lps) _ (fun _ y => _) ?_ ?_ ?_
 ·intro i x hi hx hp
  have hi' : (i : Int) < (p.length : Int) := by omega
  have hw : IntKind.i64.wrap ((i : Int) + 1) = ((i + 1 : Nat) : Int) := by rw [qaw (by omega) (by omega)]; simp
  by_cases h1 : x.code = 2
  ·have h2 : ¬ x.a ≥ lps := by simpa [qab0, h1] using hp
   simp only [qhl, zgs, zgr, zgq, zgt, OpI.r, hx, hi', hw, h1, h2, qi9, Ev.exec, qb, qe, qc, qai, Ev.Opnd.ev, Ev.Env.get, Ev.Env.set, Ev.look, qk, qae, qaf, qam, ql, qch, qr, Ev.keep, qad, qw, qd, qa1, qu, zgi, ↓qs, Ev.it1, ↓reduceIte, zga, zgb, zfe, zgf, zgg, zgh, Nat.reduceAdd, Nat.reduceEqDiff, reduceCtorEq, zgv, zgw, zfc, zfa, zgx, zfd, zgy]
  ·simp only [qhl, zgs, zgr, zgq, zgt, OpI.r, hx, hi', hw, h1, qi9, Ev.exec, qb, qe, qc, qai, Ev.Opnd.ev, Ev.Env.get, Ev.Env.set, Ev.Env.unset, Ev.look, qk, qae, qaf, qam, ql, qr, Ev.keep, qad, qw, qd, qa1, qu, zgi, ↓qs, Ev.it1, ↓reduceIte, zga, zgb, zfe, zgg, zgh, Nat.reduceAdd, Nat.reduceEqDiff, reduceCtorEq, zgv, zgw, zfc, zfa, zgx, zfd, zgy]
 ·intro i x hi hx hp
  have hi' : (i : Int) < (p.length : Int) := by omega
  have h1 : x.code = 2 := by
   by_cases h1 : x.code = 2
   ·exact h1
   ·simp [qab0, h1] at hp
  have h2 : x.a ≥ lps := by simpa [qab0, h1] using hp
  simp only [qhl, zgs, zgr, zgq, zgt, OpI.r, hx, hi', h1, h2, Ev.exec, qb, qe, qc, qai, Ev.Opnd.ev, Ev.Env.get, Ev.Env.set, Ev.look, qk, qae, qam, ql, qch, zgi, ↓qs, Ev.it1, ↓reduceIte, zga, zgb, zgf, zgg, zgh, Nat.reduceAdd, Nat.reduceEqDiff, reduceCtorEq, zgv, zfa, zfd, zgy]
  exact ⟨_, rfl, rfl, rfl, rfl, rfl⟩
 ·simp only [qhl, Int.lt_irrefl, Ev.exec, qb, qe, qc, qai, Ev.Opnd.ev, Ev.Env.get, Ev.Env.set, Ev.look, ql, zgi, ↓qs, Ev.it1, ↓reduceIte, Nat.reduceEqDiff, reduceCtorEq, zgw, zfa, zgy]
  exact ⟨_, rfl, rfl, rfl, rfl, rfl, rfl⟩
theorem q1o (hl : p.length ≤ 16) :
  ∃ y, itB (exec (evL T) itL none qhq) (qr [0, 3, 11] true 0) ⟨[(0, (.fsl ((p).map OpI.r) c)), (3, (ii look)), (11, (ii 0))], []⟩ [] = some y ∧
   (p.all (qrk look) = true ∧ (y.1 = .exit 4 ∧ y.2.1.marks = [] ∧ y.2.2 = []) ∨
   p.all (qrk look) = false ∧ ∃ x, p.find? (fun x => !qrk look x) = some x ∧ (y.1 = .ret ∧ y.2.1.marks = [] ∧ y.2.2 = [] ∧ Ev.look y.2.1.vars 8 = some (ii 21))) := by
 refine qie p (fun i => ⟨[(0, (.fsl ((p).map OpI.r) c)), (3, (ii look)), (11, (ii i))], []⟩) [] (qrk look) _ (fun _ y => _) ?_ ?_ ?_
 ·intro i x hi hx hp
  have hi' : (i : Int) < (p.length : Int) := by omega
  have hw : IntKind.i64.wrap ((i : Int) + 1) = ((i + 1 : Nat) : Int) := by rw [qaw (by omega) (by omega)]; simp
  by_cases h1 : x.code = 2
  ·have h2 : ¬ x.c < look := by simpa [qrk, h1] using hp
   simp only [qhq, zgs, zgr, zgq, zgt, OpI.r, hx, hi', hw, h1, h2, qi9, Ev.exec, qb, qe, qc, qai, Ev.Opnd.ev, Ev.Env.get, Ev.Env.set, Ev.look, qk, qae, qaf, qam, ql, qr, Ev.keep, qad, qw, qd, qa1, qu, zgi, ↓qs, Ev.it1, ↓reduceIte, zga, zgb, zfe, zgf, zgg, zgh, Nat.reduceAdd, Nat.reduceEqDiff, reduceCtorEq, zgv, zgw, zfc, zfa, zgx, zfd, zgy]
  ·simp only [qhq, zgs, zgr, zgq, zgt, OpI.r, hx, hi', hw, h1, qi9, Ev.exec, qb, qe, qc, qai, Ev.Opnd.ev, Ev.Env.get, Ev.Env.set, Ev.Env.unset, Ev.look, qk, qae, qaf, qam, ql, qr, Ev.keep, qad, qw, qd, qa1, qu, zgi, ↓qs, Ev.it1, ↓reduceIte, zga, zgb, zfe, zgg, zgh, Nat.reduceAdd, Nat.reduceEqDiff, reduceCtorEq, zgv, zgw, zfc, zfa, zgx, zfd, zgy]
 ·intro i x hi hx hp
  have hi' : (i : Int) < (p.length : Int) := by omega
  have h1 : x.code = 2 := by
   by_cases h1 : x.code = 2
   ·exact h1
   ·simp [qrk, h1] at hp
  have h2 : x.c < look := by simpa [qrk, h1] using hp
  simp only [qhq, zgs, zgr, zgq, zgt, OpI.r, hx, hi', h1, h2, Ev.exec, qb, qe, qc, qai, Ev.Opnd.ev, Ev.Env.get, Ev.Env.set, Ev.look, qk, qae, qam, ql, zgi, ↓qs, Ev.it1, ↓reduceIte, zga, zgb, zgf, zgg, zgh, Nat.reduceAdd, Nat.reduceEqDiff, reduceCtorEq, zgv, zfa, zfd, zgy]
  exact ⟨_, rfl, rfl, rfl, rfl, rfl⟩
 ·simp only [qhq, Int.lt_irrefl, Ev.exec, qb, qe, qc, qai, Ev.Opnd.ev, Ev.Env.get, Ev.Env.set, Ev.look, ql, zgi, ↓qs, Ev.it1, ↓reduceIte, Nat.reduceEqDiff, reduceCtorEq, zgw, zfa, zgy]
  exact ⟨_, rfl, rfl, rfl, rfl⟩
theorem qs6 : qa4 (evL T) qi4 [(.fsl ((p).map OpI.r) c), (ii ps), (ii lps), (ii look)] = some (ii (qqw p ps lps look)) := by
 have h0 := q1x p c
 rw [qa4, qx qz2 qxt]
 cases hs : qrw p with
 | false =>
  rw [hs] at h0
  simp only [qh1, qqw, h0, hs, qi9, qn, Ev.exec, qb, qe, qc, qa5, qai, Ev.evs, Ev.Opnd.ev, Ev.Env.get, Ev.Env.set, Ev.look, qo, qm, qab, qaj, Ev.kill, qah, qd, qa1, qu, qj, qh, qal, ↓qs, ↓reduceIte, zga, zgb, zfe, Nat.reduceAdd, reduceCtorEq, zfc, Bool.not_false, zgx, zfd, zgy]
 | true =>
  rw [hs] at h0
  have hl : p.length ≤ 16 := by simp only [qrw, Bool.and_eq_true, decide_eq_true_eq] at hs; exact hs.1.2
  obtain ⟨⟨y1, e1, σ1⟩, k1, k2⟩ := q1i p c ps lps look hl
  obtain ⟨⟨y2, e2, σ2⟩, m1, m2⟩ := q1f p c lps look hl
  obtain ⟨⟨y3, e3, σ3⟩, n1, n2⟩ := q1o p c look hl
  simp only at k2 m2 n2
  rcases k2 with ⟨q1, rfl, q2, rfl, q3, q4, q5⟩ | ⟨q1, x, _, rfl, q2, rfl, q3⟩
  ·rcases m2 with ⟨r1, rfl, r2, rfl, r3, r4⟩ | ⟨r1, x, _, rfl, r2, rfl, r3⟩
   ·rcases n2 with ⟨t1, rfl, t2, rfl⟩ | ⟨t1, x, _, rfl, t2, rfl, t3⟩
    ·simp only [qh1, qqw, h0, hs, k1, q1, q2, q3, q4, q5, m1, r1, r2, r3, r4, n1, t1, t2, qi9, qn, Ev.exec, qb, qe, qc, qa5, qai, Ev.evs, Ev.Opnd.ev, Ev.Env.get, Ev.Env.set, Ev.look, qo, qm, qab, qaj, Ev.kill, qah, qr, Ev.keep, qad, qw, qd, qa1, qu, qj, qh, qal, ↓qs, ↓qaq, ↓reduceIte, zga, zgb, zfe, Nat.reduceAdd, Nat.reduceEqDiff, reduceCtorEq, zfc, Bool.not_true, zfa, Bool.true_eq_false, zgx, zfd, zgy]
    ·simp only [qh1, qqw, h0, hs, k1, q1, q2, q3, q4, q5, m1, r1, r2, r3, r4, n1, t1, t2, t3, qi9, qn, Ev.exec, qb, qe, qc, qa5, qai, Ev.evs, Ev.Opnd.ev, Ev.Env.get, Ev.Env.set, Ev.look, qo, qm, qab, qaj, Ev.kill, qah, qr, Ev.keep, qad, qw, qd, qa1, qu, qj, qh, qal, ↓qs, ↓qaq, ↓reduceIte, zga, zgb, zfe, Nat.reduceAdd, Nat.reduceEqDiff, reduceCtorEq, zfc, Bool.not_true, zfa, Bool.true_eq_false, zgx, zfd, zgy]
   ·simp only [qh1, qqw, h0, hs, k1, q1, q2, q3, q4, q5, m1, r1, r2, r3, qi9, qn, Ev.exec, qb, qe, qc, qa5, qai, Ev.evs, Ev.Opnd.ev, Ev.Env.get, Ev.Env.set, Ev.look, qo, qm, qab, qaj, Ev.kill, qah, qr, Ev.keep, qad, qw, qd, qa1, qu, qj, qh, qal, ↓qs, ↓qaq, ↓reduceIte, zga, zgb, zfe, Nat.reduceAdd, Nat.reduceEqDiff, reduceCtorEq, zfc, Bool.not_true, zfa, Bool.true_eq_false, zgx, zfd, zgy]
  ·simp only [qh1, qqw, h0, hs, k1, q1, q2, q3, qi9, qn, Ev.exec, qb, qe, qc, qa5, qai, Ev.evs, Ev.Opnd.ev, Ev.Env.get, Ev.Env.set, Ev.look, qo, qm, qab, qaj, Ev.kill, qah, qr, Ev.keep, qad, qw, qd, qa1, qu, qj, qh, qal, ↓qs, ↓qaq, ↓reduceIte, zga, zgb, zfe, Nat.reduceAdd, Nat.reduceEqDiff, reduceCtorEq, zfc, Bool.not_true, zfa, Bool.true_eq_false, zgx, zfd, zgy]
end
set_option maxRecDepth 10000
structure Pr where
 prog : Int
 pc : Int
 alive : Bool
 timer : List Int
 deriving DecidableEq
def Pr.r (x : Pr) : List AV := [(ii x.prog), (ii x.pc), (bb x.alive), (.fsl ((x.timer).map qb9) false)]
theorem pr_lo (n : Nat) (x : Pr) : los n x.r = true := by simp only [Pr.r, qag, qa1, qu, qj, qh, zfc, zgy]
theorem pr_pl (x : Pr) : x.r.length = 4 ∧ qy x.r = true := ⟨rfl, rfl⟩
theorem qau (n : Nat) (l : List Pr) : qg9 n (l.map Pr.r) = true := ql6 (pr_lo n) l
theorem q35 (l : List Pr) : qc3 4 (l.map Pr.r) = true := qme pr_pl l
structure Evt where
 time : Int
 key : List Int
 lp : Int
 kind : Int
 proc : Int
 arg : Int
 deriving DecidableEq
def Evt.r (x : Evt) : List AV := [(ii x.time), (.fsl ((x.key).map qb9) false), (ii x.lp), (ii x.kind), (ii x.proc), (ii x.arg)]
theorem evt_lo (n : Nat) (x : Evt) : los n x.r = true := by simp only [Evt.r, qag, qa1, qu, qj, qh, zfc, zgy]
theorem evt_pl (x : Evt) : x.r.length = 6 ∧ qy x.r = true := ⟨rfl, rfl⟩
theorem qv (n : Nat) (l : List Evt) : qg9 n (l.map Evt.r) = true := ql6 (evt_lo n) l
theorem qfy (l : List Evt) : qc3 6 (l.map Evt.r) = true := qme evt_pl l
structure Lp where
 r0 : Int
 r1 : Int
 procs : List Pr
 sum : Int
 deriving DecidableEq
def Lp.r (x : Lp) : List AV := [(ii x.r0), (ii x.r1), (.fsl ((x.procs).map Pr.r) false), (ii x.sum)]
structure Ex where
 r0 : Int
 r1 : Int
 procs : List Pr
 sum : Int
 ev : Evt
 out : List Evt
 n : Int
 gone : List (List Int)
 over : Bool
def Ex.kid (x : Ex) : List Int := x.ev.key ++ [x.n]
def Ex.create (x : Ex) (d : Int) (e : Evt) : Ex :=
 { x with n := w64 (x.n + 1), out := if w64 (x.ev.time + d) > 1152921504606846976 then x.out else x.out ++ [⟨w64 (x.ev.time + d), x.kid, e.lp, e.kind, e.proc, e.arg⟩], over := if w64 (x.ev.time + d) > 1152921504606846976 then true else x.over }

structure Ex.Small (x : Ex) : Prop where
 procs : x.procs.length ≤ 1000
 out : x.out.length ≤ 1000
 gone : x.gone.length ≤ 1000
 key : x.ev.key.length ≤ 100000
theorem q3l (l : List Int) : qq6 (l.map qb9) (l.map qb9) = true := qrl (fun x => by simp only [qb9, qu7, qrg, q3m, zgv, zfc, zgy]) l
theorem eq_procs (l : List Pr) : qq6 (l.map Pr.r) (l.map Pr.r) = true := qrl (fun x => by simp only [Pr.r, q3l, qu7, qrg, q3m, q7w, q3o, zgv, zfc, zgy, beq_self_eq_true]) l
theorem eq_evts (l : List Evt) : qq6 (l.map Evt.r) (l.map Evt.r) = true := qrl (fun x => by simp only [Evt.r, q3l, qu7, qrg, q3m, q3o, zgv, zfc, zgy, beq_self_eq_true]) l
theorem eq_keys (l : List (List Int)) : qq6 (l.map qfz) (l.map qfz) = true := qrl (fun x => by simp only [qfz, q3l, qu7, qrg, q3o, zfc, zgy, beq_self_eq_true]) l
set_option maxRecDepth 10000
def qpq (a b : Int) : Int := if a < b then -1 else if a > b then 1 else 0
theorem qmz (a b : Int) : qa4 (evL T) qfi [(ii a), (ii b)] = some (ii (qpq a b)) := by
 rw [qa4, qx qv7 quj]
 by_cases h1 : a < b
 ·simp only [qij, qpq, h1, qn, Ev.exec, qb, qe, qc, qai, Ev.Opnd.ev, Ev.Env.get, Ev.Env.set, Ev.look, qo, ql, qm, qab, qaj, Ev.kill, qah, qd, qa1, qal, ↓qs, ↓reduceIte, zga, zgb, zfe, Nat.reduceAdd, Nat.reduceEqDiff, Int.reduceNeg, reduceCtorEq, zgv, zgx, zfd, zgy]
 by_cases h2 : a > b
 ·simp only [qij, qpq, h1, h2, qn, Ev.exec, qb, qe, qc, qai, Ev.Opnd.ev, Ev.Env.get, Ev.Env.set, Ev.look, qo, ql, qas, qm, qab, qaj, Ev.kill, qah, qd, qa1, qal, ↓qs, ↓reduceIte, zga, zgb, zfe, Nat.reduceAdd, Nat.reduceEqDiff, Int.reduceNeg, reduceCtorEq, zgv, zgw, zfa, zgx, zfd, zgy]
 ·simp only [qij, qpq, h1, h2, qn, Ev.exec, qb, qe, qc, qai, Ev.Opnd.ev, Ev.Env.get, Ev.Env.set, Ev.look, qo, ql, qas, qm, qab, qaj, Ev.kill, qah, qd, qa1, qal, ↓qs, ↓reduceIte, zga, zgb, zfe, Nat.reduceAdd, Nat.reduceEqDiff, Int.reduceNeg, reduceCtorEq, zgw, zfa, zgx, zfd, zgy]
def qll : List Int → List Int → Int
 | x :: a, y :: b => if x = y then qll a b else qpq x y
 | [], b => if b.length = 0 then 0 else -1
 | _ :: _, [] => 1
theorem qvx : ∀ a b : List Int, ((a.zip b).all (fun z => decide (z.1 = z.2)) = true → qll a b = qpq a.length b.length) ∧ ∀ x, (a.zip b).find? (fun z => !decide (z.1 = z.2)) = some x → qll a b = qpq x.1 x.2
 | [], b => by
  refine ⟨fun _ => ?_, fun x h => by simp at h⟩
  cases b with
  | nil => rfl
  | cons y b =>
   have : ((0 : Nat) : Int) < ((y :: b).length : Int) := by simp only [zga]; omega
   simp only [qll, zga, Nat.succ_ne_zero, if_false, qpq, zgb]
   rw [if_pos (by omega)]
 | x :: a, [] => by
  refine ⟨fun _ => ?_, fun x h => by simp at h⟩
  simp only [qll, qpq, zga, zgb]
  rw [if_neg (by omega), if_pos (by omega)]
 | x :: a, y :: b => by
  obtain ⟨h1, h2⟩ := qvx a b
  simp only [List.zip_cons_cons, List.all_cons, List.find?_cons, qll, zga]
  by_cases h : x = y
  ·simp only [h, zgv, Bool.true_and, if_true, Bool.not_true]
   refine ⟨fun k => ?_, h2⟩
   rw [h1 k]; unfold qpq
   have e1 : ((a.length : Int) < b.length) ↔ (((a.length + 1 : Nat) : Int) < ((b.length + 1 : Nat) : Int)) := by omega
   have e2 : ((a.length : Int) > b.length) ↔ (((a.length + 1 : Nat) : Int) > ((b.length + 1 : Nat) : Int)) := by omega
   simp only [e1, e2]
  ·simp only [h, zgw, Bool.false_and, if_false, Bool.not_false]
   exact ⟨fun k => by simp at k, fun z k => by simp at k; rw [← k]⟩
theorem qyf (a b : Int) : qpq a b = 0 ↔ a = b := by
 unfold qpq; split
 ·constructor <;> intro h <;> omega
 split
 ·constructor <;> intro h <;> omega
 ·constructor <;> intro h <;> omega
theorem qwe : ∀ a b : List Int, qll a b = 0 ↔ a = b
 | [], [] => by simp [qll]
 | [], y :: b => by simp [qll]
 | x :: a, [] => by simp [qll]
 | x :: a, y :: b => by
  simp only [qll, List.cons.injEq]
  split
  next h => rw [qwe a b]; simp [h]
  next h => rw [qyf]; simp [h]
section
variable (a b : List Int) (c d : Bool)
theorem q37 (h1 : a.length ≤ 9223372036854775807) (h2 : b.length ≤ 9223372036854775807) :
  ∃ y, itB (exec (evL T) itL none qei) (qr [0, 1, 5] true 0) ⟨[(0, (.fsl ((a).map qb9) c)), (1, (.fsl ((b).map qb9) d)), (5, (ii 0))], []⟩ [] = some y ∧
   ((a.zip b).all (fun z => decide (z.1 = z.2)) = true ∧ (y.1 = .exit 0 ∧ y.2.1.marks = [] ∧ y.2.2 = [] ∧ Ev.look y.2.1.vars 0 = some (.fsl ((a).map qb9) c) ∧ Ev.look y.2.1.vars 1 = some (.fsl ((b).map qb9) d)) ∨
   (a.zip b).all (fun z => decide (z.1 = z.2)) = false ∧ ∃ x, (a.zip b).find? (fun z => !decide (z.1 = z.2)) = some x ∧ (y.1 = .ret ∧ y.2.1.marks = [] ∧ y.2.2 = [] ∧ Ev.look y.2.1.vars 4 = some (ii (qpq x.1 x.2)))) := by
 have hzl : (a.zip b).length = min a.length b.length := List.length_zip
 refine qie (a.zip b) (fun i => ⟨[(0, (.fsl ((a).map qb9) c)), (1, (.fsl ((b).map qb9) d)), (5, (ii i))], []⟩) [] (fun z => decide (z.1 = z.2)) _ (fun x y => _) ?_ ?_ ?_
 ·intro i x hi hx hp
  rw [hzl] at hi
  have hi' : (i : Int) < (a.length : Int) := by omega
  have hi2 : (i : Int) < (b.length : Int) := by omega
  have hw : IntKind.i64.wrap ((i : Int) + 1) = ((i + 1 : Nat) : Int) := by rw [qaw (by omega) (by omega)]; simp
  obtain ⟨hxa, hxb⟩ := List.getElem?_zip_eq_some.1 hx
  have hp' := of_decide_eq_true hp
  simp only [qei, zgs, zgr, zgq, zgt, hxa, hxb, hi', hi2, hw, hp', qag, qb9, Ev.exec, qb, qe, qc, qai, Ev.Opnd.ev, Ev.Env.get, Ev.Env.set, Ev.look, qk, qae, qaf, qbx, ql, qr, Ev.keep, qad, qw, qd, qa1, qu, zgi, ↓qs, Ev.it1, ↓reduceIte, zga, zgb, zfe, zgh, Nat.reduceEqDiff, reduceCtorEq, zgv, zgw, zfc, zfa, zgx, ne_eq, not_true_eq_false, zfd, zgy]
 ·intro i x hi hx hp
  rw [hzl] at hi
  have hi' : (i : Int) < (a.length : Int) := by omega
  have hi2 : (i : Int) < (b.length : Int) := by omega
  obtain ⟨hxa, hxb⟩ := List.getElem?_zip_eq_some.1 hx
  have hp' : ¬ x.1 = x.2 := of_decide_eq_false hp
  have hc := qmz x.1 x.2
  simp only [qei, zgs, zgr, zgq, zgt, hxa, hxb, hi', hi2, hp', hc, qb9, Ev.exec, qb, qe, qc, qa5, qai, Ev.evs, Ev.Opnd.ev, Ev.Env.get, Ev.Env.set, Ev.look, qk, qae, qbx, ql, qa1, qj, qh, zgi, ↓qs, Ev.it1, ↓reduceIte, zga, zgb, zgh, Nat.reduceEqDiff, reduceCtorEq, zgv, zfc, zfa, ne_eq, zfb, zfd, zgy]
  exact ⟨_, rfl, rfl, rfl, rfl, rfl⟩
 ·rw [hzl]
  by_cases hab : a.length ≤ b.length
  ·rw [Nat.min_eq_left hab]
   simp only [qei, Int.lt_irrefl, Ev.exec, qb, qe, qc, qai, Ev.Opnd.ev, Ev.Env.get, Ev.Env.set, Ev.Env.unset, Ev.look, ql, zgi, ↓qs, Ev.it1, ↓reduceIte, Nat.reduceEqDiff, reduceCtorEq, zgw, zfa, zgy]
   exact ⟨_, rfl, rfl, rfl, rfl, rfl, rfl⟩
  ·rw [Nat.min_eq_right (by omega)]
   have h3 : (b.length : Int) < (a.length : Int) := by omega
   simp only [qei, Int.lt_irrefl, h3, Ev.exec, qb, qe, qc, qai, Ev.Opnd.ev, Ev.Env.get, Ev.Env.set, Ev.look, ql, zgi, ↓qs, Ev.it1, ↓reduceIte, Nat.reduceEqDiff, reduceCtorEq, zgv, zgw, zfa, zgy]
   exact ⟨_, rfl, rfl, rfl, rfl, rfl, rfl⟩
theorem qs2 (h1 : a.length ≤ 9223372036854775807) (h2 : b.length ≤ 9223372036854775807) : qa4 (evL T) qd8 [(.fsl ((a).map qb9) c), (.fsl ((b).map qb9) d)] = some (ii (qll a b)) := by
 obtain ⟨⟨y, e, σ⟩, k1, k2⟩ := q37 a b c d h1 h2
 simp only at k2
 obtain ⟨z1, z2⟩ := qvx a b
 rw [qa4, qx qro qq8]
 rcases k2 with ⟨k3, rfl, k4, rfl, k5, k6⟩ | ⟨k3, x, k7, rfl, k4, rfl, k5⟩
 ·have hc := qmz a.length b.length
  rw [z1 k3]
  simp only [qhg, k1, k4, k5, k6, hc, qag, qn, Ev.exec, qb, qe, qc, qa5, qai, Ev.evs, Ev.Opnd.ev, Ev.Env.get, Ev.Env.set, Ev.look, qo, qm, qab, qaj, Ev.kill, qah, qr, Ev.keep, qad, qw, qd, qa1, qu, qj, qh, qal, zgi, ↓qs, ↓qaq, ↓reduceIte, zga, zgb, zfe, Nat.reduceAdd, Nat.reduceEqDiff, reduceCtorEq, zfc, zgx, zfd, zgy]
 ·rw [z2 x k7]
  simp only [qhg, k1, k4, k5, qag, qn, Ev.exec, qb, qe, qc, qai, Ev.Opnd.ev, Ev.Env.get, Ev.Env.set, Ev.look, qo, qm, qab, qaj, Ev.kill, qah, qr, Ev.keep, qad, qw, qd, qa1, qu, qal, ↓qs, ↓qaq, ↓reduceIte, zga, zgb, zfe, Nat.reduceAdd, Nat.reduceEqDiff, reduceCtorEq, zfc, zgx, zfd, zgy]
theorem qwk (h1 : a.length ≤ 9223372036854775807) (h2 : b.length ≤ 9223372036854775807) : qa4 (evL T) qfb [(.fsl ((a).map qb9) c), (.fsl ((b).map qb9) d)] = some (bb (decide (a = b))) := by
 have hk := qs2 a b c d h1 h2
 have hz := qwe a b
 rw [qa4, qx qv8 qup]
 by_cases h : a = b
 ·have h3 := hz.2 h
  rw [h3] at hk
  simp only [h, zgv]
  simp only [h] at hk
  simp only [qkk, hk, qag, qn, Ev.exec, qb, qe, qc, qa5, qai, Ev.evs, Ev.Opnd.ev, Ev.Env.get, Ev.Env.set, Ev.look, qo, qam, qm, qab, qaj, Ev.kill, qah, qd, qa1, qu, qj, qh, qal, ↓qs, ↓reduceIte, zga, zgb, zfe, Nat.reduceAdd, Nat.reduceEqDiff, reduceCtorEq, zgv, zfc, zgx, zfd, zgy]
 ·have h3 : ¬ qll a b = 0 := fun k => h (hz.1 k)
  simp only [h, zgw]
  simp only [qkk, hk, h3, qag, qn, Ev.exec, qb, qe, qc, qa5, qai, Ev.evs, Ev.Opnd.ev, Ev.Env.get, Ev.Env.set, Ev.look, qo, qam, qm, qab, qaj, Ev.kill, qah, qd, qa1, qu, qj, qh, qal, ↓qs, ↓reduceIte, zga, zgb, zfe, Nat.reduceAdd, Nat.reduceEqDiff, reduceCtorEq, zgw, zfc, zgx, zfd, zgy]
end
structure Evt.Short (x : Evt) : Prop where
 key : x.key.length ≤ 9223372036854775807
theorem qwv (x y : Evt) (hx : x.key.length ≤ 9223372036854775807) (hy : y.key.length ≤ 9223372036854775807) : qa4 (evL T) qft [(.agg [(ii x.time), (.fsl ((x.key).map qb9) false), (ii x.lp), (ii x.kind), (ii x.proc), (ii x.arg)]), (.agg [(ii y.time), (.fsl ((y.key).map qb9) false), (ii y.lp), (ii y.kind), (ii y.proc), (ii y.arg)])] = some (bb (decide (x = y))) := by
 obtain ⟨xt, xk, xl, xi, xp, xa⟩ := x
 obtain ⟨yt, yk, yl, yi, yp, ya⟩ := y
 have hk := qwk xk yk false false hx hy
 simp only [Evt.mk.injEq]
 rw [qa4, qx qti qsz]
 by_cases h1 : xt = yt
 case neg => simp only [qdx, h1, false_and, zgw, qn, Ev.exec, qb, qe, qc, qai, Ev.Opnd.ev, Ev.Env.get, Ev.Env.set, Ev.Env.unset, Ev.look, qo, qk, qae, Ev.AV.cells, qy, Ev.AV.plain, qam, qm, qab, qaj, Ev.kill, qah, qd, qa1, qal, ↓qs, ↓reduceIte, zga, zgb, zfe, zgg, zgh, Nat.reduceAdd, Nat.reduceEqDiff, reduceCtorEq, zgw, zfc, zfa, zgx, ne_eq, zfb, zff, zfd, zgy, false_and]
 by_cases h2 : xk = yk
 case neg =>
  simp only [h2, zgw] at hk
  simp only [qdx, h1, h2, hk, qag, false_and, and_false, zgw, qn, Ev.exec, qb, qe, qc, qa5, qai, Ev.evs, Ev.Opnd.ev, Ev.Env.get, Ev.Env.set, Ev.Env.unset, Ev.look, qo, qk, qae, Ev.AV.cells, qy, Ev.AV.plain, qam, qm, qab, qaj, Ev.kill, qah, qd, qa1, qu, qj, qh, qal, ↓qs, ↓reduceIte, zga, zgb, zfe, zgf, zgg, zgh, Nat.reduceAdd, Nat.reduceEqDiff, reduceCtorEq, zgv, zgw, zfc, zfa, zgx, ne_eq, zfb, zff, zfd, zgy, false_and, and_false]
 simp only [h2, zgv] at hk
 by_cases h3 : xl = yl
 case neg => simp only [qdx, h1, h2, h3, hk, qag, false_and, and_false, zgw, qn, Ev.exec, qb, qe, qc, qa5, qai, Ev.evs, Ev.Opnd.ev, Ev.Env.get, Ev.Env.set, Ev.Env.unset, Ev.look, qo, qk, qae, Ev.AV.cells, qy, Ev.AV.plain, qam, qm, qab, qaj, Ev.kill, qah, qd, qa1, qu, qj, qh, qal, ↓qs, ↓reduceIte, zga, zgb, zfe, zgf, zgg, zgh, Nat.reduceAdd, Nat.reduceEqDiff, reduceCtorEq, zgv, zgw, zfc, zfa, zgx, ne_eq, zfb, zff, zfd, zgy, false_and, and_false]
 by_cases h4 : xi = yi
 case neg => simp only [qdx, h1, h2, h3, h4, hk, qag, false_and, and_false, zgw, qn, Ev.exec, qb, qe, qc, qa5, qai, Ev.evs, Ev.Opnd.ev, Ev.Env.get, Ev.Env.set, Ev.Env.unset, Ev.look, qo, qk, qae, Ev.AV.cells, qy, Ev.AV.plain, qam, qm, qab, qaj, Ev.kill, qah, qd, qa1, qu, qj, qh, qal, ↓qs, ↓reduceIte, zga, zgb, zfe, zgf, zgg, zgh, Nat.reduceAdd, Nat.reduceEqDiff, reduceCtorEq, zgv, zgw, zfc, zfa, zgx, ne_eq, zfb, zff, zfd, zgy, false_and, and_false]
 by_cases h5 : xp = yp
 case neg => simp only [qdx, h1, h2, h3, h4, h5, hk, qag, false_and, and_false, zgw, qn, Ev.exec, qb, qe, qc, qa5, qai, Ev.evs, Ev.Opnd.ev, Ev.Env.get, Ev.Env.set, Ev.Env.unset, Ev.look, qo, qk, qae, Ev.AV.cells, qy, Ev.AV.plain, qam, qm, qab, qaj, Ev.kill, qah, qd, qa1, qu, qj, qh, qal, ↓qs, ↓reduceIte, zga, zgb, zfe, zgf, zgg, zgh, Nat.reduceAdd, Nat.reduceEqDiff, reduceCtorEq, zgv, zgw, zfc, zfa, zgx, ne_eq, zfb, zff, zfd, zgy, false_and, and_false]
 by_cases h6 : xa = ya
 case neg => simp only [qdx, h1, h2, h3, h4, h5, h6, hk, qag, and_false, zgw, qn, Ev.exec, qb, qe, qc, qa5, qai, Ev.evs, Ev.Opnd.ev, Ev.Env.get, Ev.Env.set, Ev.look, qo, qk, qae, Ev.AV.cells, qy, Ev.AV.plain, qam, qm, qab, qaj, Ev.kill, qah, qd, qa1, qu, qj, qh, qal, ↓qs, ↓reduceIte, zga, zgb, zfe, zgf, zgg, zgh, Nat.reduceAdd, Nat.reduceEqDiff, reduceCtorEq, zgv, zgw, zfc, zfa, zgx, ne_eq, zfb, zff, zfd, zgy, and_false]
 simp only [qdx, h1, h2, h3, h4, h5, h6, hk, qag, zgx, zgv, qn, Ev.exec, qb, qe, qc, qa5, qai, Ev.evs, Ev.Opnd.ev, Ev.Env.get, Ev.Env.set, Ev.look, qo, qk, qae, Ev.AV.cells, qy, Ev.AV.plain, qam, qm, qab, qaj, Ev.kill, qah, qd, qa1, qu, qj, qh, qal, ↓qs, ↓reduceIte, zga, zgb, zfe, zgf, zgg, zgh, Nat.reduceAdd, Nat.reduceEqDiff, reduceCtorEq, zgv, zfc, zfa, zgx, ne_eq, zfb, zff, zfd, zgy]
theorem qtq {α : Type} [DecidableEq α] : ∀ {a b : List α}, a.length = b.length → ((a.zip b).all (fun z => decide (z.1 = z.2)) = true ↔ a = b)
 | [], [], _ => by simp
 | x :: a, y :: b, h => by
  rw [List.zip_cons_cons, List.all_cons, Bool.and_eq_true, decide_eq_true_eq, qtq (a := a) (b := b) (by simpa using h), List.cons.injEq]
 | [], _ :: _, h => by simp at h
 | _ :: _, [], h => by simp at h
section
variable (a b : List Evt) (c d : Bool)
theorem q3c (h1 : a.length ≤ 9223372036854775807) (h2 : b.length ≤ 9223372036854775807) (ha : ∀ x ∈ a, x.key.length ≤ 9223372036854775807) (hb : ∀ x ∈ b, x.key.length ≤ 9223372036854775807) :
  qa4 (evL T) qfc [(.fsl ((a).map Evt.r) c), (.fsl ((b).map Evt.r) d)] = some (bb (decide (a = b))) := by
 rw [qa4, qx qsy qrm]
 by_cases hab : a.length = b.length
 case neg =>
  have hab' : ¬ (a.length : Int) = (b.length : Int) := by omega
  have : ¬ a = b := fun h => hab (by rw [h])
  simp only [qgg, hab', this, qn, Ev.exec, qb, qe, qc, qai, Ev.Opnd.ev, Ev.Env.get, Ev.Env.set, Ev.look, qo, qbx, qm, qab, qaj, Ev.kill, qah, qd, qa1, qal, zgi, ↓qs, ↓reduceIte, zga, zgb, zfe, Nat.reduceAdd, Nat.reduceEqDiff, reduceCtorEq, zgv, zgw, zgx, ne_eq, zfb, zfd, zgy]
 have hab' : (a.length : Int) = (b.length : Int) := by omega
 have hzl : (a.zip b).length = a.length := by rw [List.length_zip, ← hab, Nat.min_self]
 have hL : ∃ y, itB (exec (evL T) itL none qga) (qr [0, 1, 5] true 0) ⟨[(0, (.fsl ((a).map Evt.r) c)), (1, (.fsl ((b).map Evt.r) d)), (5, (ii 0))], []⟩ [] = some y ∧ ((a.zip b).all (fun z => decide (z.1 = z.2)) = true ∧ (y.1 = .exit 0 ∧ y.2.1.marks = [] ∧ y.2.2 = []) ∨
   (a.zip b).all (fun z => decide (z.1 = z.2)) = false ∧ ∃ x, (a.zip b).find? (fun z => !decide (z.1 = z.2)) = some x ∧ (y.1 = .ret ∧ y.2.1.marks = [] ∧ y.2.2 = [] ∧ Ev.look y.2.1.vars 4 = some (bb false))) := by
  refine qie (a.zip b) (fun i => ⟨[(0, (.fsl ((a).map Evt.r) c)), (1, (.fsl ((b).map Evt.r) d)), (5, (ii i))], []⟩) [] (fun z => decide (z.1 = z.2)) _ (fun _ y => _) ?_ ?_ ?_
  ·intro i x hi hx hp
   rw [hzl] at hi
   have hi' : (i : Int) < (a.length : Int) := by omega
   have hw : IntKind.i64.wrap ((i : Int) + 1) = ((i + 1 : Nat) : Int) := by rw [qaw (by omega) (by omega)]; simp
   obtain ⟨hxa, hxb⟩ := List.getElem?_zip_eq_some.1 hx
   have hv := qwv x.1 x.2 (ha _ (List.mem_of_getElem? hxa)) (hb _ (List.mem_of_getElem? hxb))
   rw [hp] at hv
   simp only [qga, zgs, zgr, zgq, zgt, hxa, hxb, hi', hw, hv, qv, qag, Evt.r, Ev.exec, qb, qe, qc, qa5, qai, Ev.evs, Ev.Opnd.ev, Ev.Env.get, Ev.Env.set, Ev.look, qk, qae, qaf, ql, qr, Ev.keep, qad, qw, qd, qa1, qbd, qu, qj, qh, zgi, ↓qs, Ev.it1, ↓reduceIte, zga, zgb, zgc, zfe, Nat.reduceAdd, Nat.reduceEqDiff, reduceCtorEq, zgv, zfc, Bool.not_true, zfa, zgx, zfd, Nat.le_refl, zgy]
  ·intro i x hi hx hp
   rw [hzl] at hi
   have hi' : (i : Int) < (a.length : Int) := by omega
   obtain ⟨hxa, hxb⟩ := List.getElem?_zip_eq_some.1 hx
   have hv := qwv x.1 x.2 (ha _ (List.mem_of_getElem? hxa)) (hb _ (List.mem_of_getElem? hxb))
   rw [hp] at hv
   simp only [qga, zgs, zgr, zgq, zgt, hxa, hxb, hi', hv, qag, Evt.r, Ev.exec, qb, qe, qc, qa5, qai, Ev.evs, Ev.Opnd.ev, Ev.Env.get, Ev.Env.set, Ev.look, qk, qae, ql, qa1, qbd, qu, qj, qh, zgi, ↓qs, Ev.it1, ↓reduceIte, zga, zgb, zgc, zfe, Nat.reduceAdd, Nat.reduceEqDiff, reduceCtorEq, zgv, zfc, Bool.not_false, zfd, Nat.le_refl, zgy]
   exact ⟨_, rfl, rfl, rfl, rfl, rfl⟩
  ·rw [hzl]
   simp only [qga, Int.lt_irrefl, Ev.exec, qb, qe, qc, qai, Ev.Opnd.ev, Ev.Env.get, Ev.Env.set, Ev.look, ql, zgi, ↓qs, Ev.it1, ↓reduceIte, Nat.reduceEqDiff, reduceCtorEq, zgw, zfa, zgy]
   exact ⟨_, rfl, rfl, rfl, rfl⟩
 obtain ⟨⟨y, e, σ⟩, k1, k2⟩ := hL
 simp only at k2
 rcases k2 with ⟨k3, rfl, k4, rfl⟩ | ⟨k3, x, _, rfl, k4, rfl, k5⟩
 ·have : a = b := (qtq hab).1 k3
  subst this
  simp only [qgg, k1, k4, qv, qn, Ev.exec, qb, qe, qc, qai, Ev.Opnd.ev, Ev.Env.get, Ev.Env.set, Ev.look, qo, qbx, qm, qab, qaj, Ev.kill, qah, qr, Ev.keep, qad, qw, qd, qa1, qu, qal, zgi, ↓qs, ↓qaq, ↓reduceIte, zga, zgb, zfe, Nat.reduceAdd, Nat.reduceEqDiff, reduceCtorEq, zgv, zgw, zfc, zfa, zgx, ne_eq, not_true_eq_false, zfd, zgy]
 ·have : ¬ a = b := fun h => by rw [(qtq hab).2 h] at k3; cases k3
  simp only [this]
  simp only [qgg, hab', k1, k4, k5, qv, qn, Ev.exec, qb, qe, qc, qai, Ev.Opnd.ev, Ev.Env.get, Ev.Env.set, Ev.look, qo, qbx, qm, qab, qaj, Ev.kill, qah, qr, Ev.keep, qad, qw, qd, qa1, qu, qal, zgi, ↓qs, ↓qaq, ↓reduceIte, zga, zgb, zfe, Nat.reduceAdd, Nat.reduceEqDiff, reduceCtorEq, zgw, zfc, zfa, zgx, ne_eq, not_true_eq_false, zfd, zgy]
end
set_option maxRecDepth 10000
theorem q4u (a : Int) : qa4 (evL T) qf7 [(ii a)] = some (bb false) := by
 rw [qa4, qx qvr qul]
 simp only [qly, qn, Ev.exec, qb, qe, qc, qai, Ev.Opnd.ev, Ev.Env.get, Ev.Env.set, Ev.look, qo, qbx, qm, qab, qaj, Ev.kill, qah, qd, qa1, qal, ↓qs, ↓reduceIte, zga, zgb, zfe, Nat.reduceEqDiff, reduceCtorEq, zgw, zgx, ne_eq, not_true_eq_false, zfd, zgy]
theorem qk1 (a b : Int) : qa4 (evL T) qez [(ii a), (ii b)] = some (ii (qpq a b)) := by
 have h0 := q4u
 rw [qa4, qx qtc qsn]
 by_cases h1 : a < b
 ·simp only [qha, qpq, h0, h1, qn, Ev.exec, qb, qe, qc, qa5, qai, Ev.evs, Ev.Opnd.ev, Ev.Env.get, Ev.Env.set, Ev.look, qo, ql, qm, qab, qaj, Ev.kill, qah, qd, qa1, qj, qh, qal, ↓qs, ↓reduceIte, zga, zgb, zfe, Nat.reduceAdd, Nat.reduceEqDiff, Int.reduceNeg, reduceCtorEq, zgv, zfc, zfa, zgx, zfd, zgy]
 by_cases h2 : a > b
 ·simp only [qha, qpq, h0, h1, h2, qn, Ev.exec, qb, qe, qc, qa5, qai, Ev.evs, Ev.Opnd.ev, Ev.Env.get, Ev.Env.set, Ev.look, qo, ql, qas, qm, qab, qaj, Ev.kill, qah, qd, qa1, qj, qh, qal, ↓qs, ↓reduceIte, zga, zgb, zfe, Nat.reduceAdd, Nat.reduceEqDiff, Int.reduceNeg, reduceCtorEq, zgv, zgw, zfc, zfa, zgx, zfd, zgy]
 ·simp only [qha, qpq, h0, h1, h2, qn, Ev.exec, qb, qe, qc, qa5, qai, Ev.evs, Ev.Opnd.ev, Ev.Env.get, Ev.Env.set, Ev.look, qo, ql, qas, qm, qab, qaj, Ev.kill, qah, qd, qa1, qj, qh, qal, ↓qs, ↓reduceIte, zga, zgb, zfe, Nat.reduceAdd, Nat.reduceEqDiff, Int.reduceNeg, reduceCtorEq, zgw, zfc, zfa, zgx, zfd, zgy]
theorem qaak (x z : Int) (c : Bool) : qa4 (evL T) qkf [(.fsl (([x, z]).map qb9) c)] = some (ii (if x = 0 then z else x)) := by
 have hL : ∃ y, itB (exec (evL T) itL none qkg) (qr [3, 6, 7, 8] true 0) ⟨[(3, (ii 0)), (6, (.fsl (([x, z]).map qb9) c)), (7, (ii 2)), (8, (ii 0))], []⟩ [] = some y ∧ ([x, z].all (fun v => decide (v = 0)) = true ∧ (y.1 = .exit 0 ∧ y.2.1.marks = [] ∧ y.2.2 = [] ∧ Ev.look y.2.1.vars 3 = some (ii 0)) ∨
   [x, z].all (fun v => decide (v = 0)) = false ∧ ∃ v, [x, z].find? (fun v => !decide (v = 0)) = some v ∧ (y.1 = .ret ∧ y.2.1.marks = [] ∧ y.2.2 = [] ∧ Ev.look y.2.1.vars 2 = some (ii v))) := by
  refine qie [x, z] (fun i => ⟨[(3, (ii 0)), (6, (.fsl (([x, z]).map qb9) c)), (7, (ii 2)), (8, (ii i))], []⟩) [] (fun v => decide (v = 0)) _ (fun v y => _) ?_ ?_ ?_
  ·intro i v hi hv hp
   have hi2 : (i : Int) < 2 := by simp at hi; omega
   have hw : IntKind.i64.wrap ((i : Int) + 1) = ((i + 1 : Nat) : Int) := by rw [qaw (by omega) (by omega)]; simp
   have hp' := of_decide_eq_true hp
   subst hp'
   have hl := qag 0 [x, z]
   generalize [x, z] = l at hv hl ⊢
   simp only [qkg, zgs, zgr, zgq, zgt, hv, hl, hi2, hw, qb9, Ev.exec, qb, qe, qc, qai, Ev.Opnd.ev, Ev.Env.get, Ev.Env.set, Ev.look, qk, qae, qaf, qbx, ql, qr, Ev.keep, qad, qw, qd, qa1, qu, ↓qs, Ev.it1, ↓reduceIte, zga, zgb, zfe, zgh, Nat.reduceEqDiff, zgv, zgw, zfc, zfa, zgx, ne_eq, not_true_eq_false, zfd, zgy]
  ·intro i v hi hv hp
   have hi2 : (i : Int) < 2 := by simp at hi; omega
   have hp' : ¬ v = 0 := of_decide_eq_false hp
   have hl := qag 0 [x, z]
   generalize [x, z] = l at hv hl ⊢
   simp only [qkg, zgs, zgr, zgq, zgt, hv, hi2, hp', qb9, Ev.exec, qb, qe, qc, qai, Ev.Opnd.ev, Ev.Env.get, Ev.Env.set, Ev.look, qk, qae, qbx, ql, ↓qs, Ev.it1, ↓reduceIte, zga, zgb, zgh, Nat.reduceEqDiff, zgv, zfa, ne_eq, zfb, zfd, zgy]
   exact ⟨_, rfl, rfl, rfl, rfl, rfl⟩
  ·have hl := qag 0 [x, z]
   rw [show ([x, z] : List Int).length = 2 from rfl]
   simp only [qkg, Int.lt_irrefl, Int.cast_ofNat_Int, Ev.exec, qb, qe, qc, qai, Ev.Opnd.ev, Ev.Env.get, Ev.Env.set, Ev.look, ql, ↓qs, Ev.it1, ↓reduceIte, Nat.reduceEqDiff, Int.cast_ofNat_Int, zgw, zfa, zgy]
   exact ⟨_, rfl, rfl, rfl, rfl, rfl⟩
 obtain ⟨⟨y, e, σ⟩, k1, k2⟩ := hL
 simp only at k2
 have hl := qag 0 [x, z]
 have hn : ([x, z].map qb9).length = 2 := rfl
 rw [qa4, qx q1p qyk]
 rcases k2 with ⟨k3, rfl, k4, rfl, k5⟩ | ⟨k3, v, k6, rfl, k4, rfl, k5⟩
 ·have h1 : x = 0 ∧ z = 0 := by simpa using k3
  have h2 : (if x = 0 then z else x) = 0 := by rw [if_pos h1.1, h1.2]
  rw [h2]
  generalize [x, z].map qb9 = l at k1 hl hn ⊢
  simp only [qmn, hn, Int.cast_ofNat_Int, k1, k4, k5, hl, qn, Ev.exec, qb, qe, qc, qai, Ev.Opnd.ev, Ev.Env.get, Ev.Env.set, Ev.look, qo, qm, qab, qaj, Ev.kill, qah, qr, Ev.keep, qad, qw, qd, qa1, qu, qal, ↓qs, ↓qaq, ↓reduceIte, zga, zgb, zfe, Nat.reduceEqDiff, Int.cast_ofNat_Int, reduceCtorEq, zfc, zgx, zfd, zgy]
 ·have h1 : (if x = 0 then z else x) = v := by
   rw [List.find?_cons] at k6
   by_cases hx : x = 0
   ·rw [if_pos hx]; simp [hx] at k6; exact k6.2
   ·rw [if_neg hx]; simp [hx] at k6; exact k6
  rw [h1]
  generalize [x, z].map qb9 = l at k1 hl hn ⊢
  simp only [qmn, hn, Int.cast_ofNat_Int, k1, k4, k5, hl, qn, Ev.exec, qb, qe, qc, qai, Ev.Opnd.ev, Ev.Env.get, Ev.Env.set, Ev.look, qo, qm, qab, qaj, Ev.kill, qah, qr, Ev.keep, qad, qw, qd, qa1, qu, qal, ↓qs, ↓qaq, ↓reduceIte, zga, zgb, zfe, Nat.reduceEqDiff, Int.cast_ofNat_Int, reduceCtorEq, zfc, zgx, zfd, zgy]
theorem qpg (x z : Int) (c : Bool) : qa4 (evL T) qiv [(.fsl (([x, z]).map qb9) c)] = some (ii (if x = 0 then z else x)) := by
 have h := qaak x z c
 have hl := qag 0 [x, z]
 generalize [x, z].map qb9 = l at h hl ⊢
 rw [qa4, qx q00 qw4]
 simp only [qm7, h, hl, qn, Ev.exec, qb, qe, qc, qa5, qai, Ev.evs, Ev.Opnd.ev, Ev.Env.get, Ev.Env.set, Ev.look, qo, qm, qab, qaj, Ev.kill, qah, qd, qa1, qu, qj, qh, qal, ↓qs, ↓reduceIte, zga, zgb, zfe, reduceCtorEq, zfc, zgx, zfd, zgy]
section
variable (a b : List Int) (c d : Bool)
theorem qxg (h1 : a.length ≤ 9223372036854775807) (h2 : b.length ≤ 9223372036854775807) :
  ∃ y, itB (exec (evL T) itL none qde) (qr [0, 1, 9, 10, 11] true 0) ⟨[(0, (.fsl ((a).map qb9) c)), (1, (.fsl ((b).map qb9) d)), (9, (.fsl ((a).map qb9) c)), (10, (ii a.length)), (11, (ii 0))], []⟩ [] = some y ∧
   ((a.zip b).all (fun z => decide (z.1 = z.2)) = true ∧ (a.length ≤ b.length ∧ y.1 = .exit 0 ∧ y.2.1.marks = [] ∧ y.2.2 = [] ∧ Ev.look y.2.1.vars 0 = some (.fsl ((a).map qb9) c) ∧ Ev.look y.2.1.vars 1 = some (.fsl ((b).map qb9) d) ∨ b.length < a.length ∧ y.1 = .ret ∧ y.2.1.marks = [] ∧ y.2.2 = [] ∧ Ev.look y.2.1.vars 4 = some (ii 1)) ∨
   (a.zip b).all (fun z => decide (z.1 = z.2)) = false ∧ ∃ x, (a.zip b).find? (fun z => !decide (z.1 = z.2)) = some x ∧ (y.1 = .ret ∧ y.2.1.marks = [] ∧ y.2.2 = [] ∧ Ev.look y.2.1.vars 4 = some (ii (qpq x.1 x.2)))) := by
 have hzl : (a.zip b).length = min a.length b.length := List.length_zip
 refine qie (a.zip b) (fun i => ⟨[(0, (.fsl ((a).map qb9) c)), (1, (.fsl ((b).map qb9) d)), (9, (.fsl ((a).map qb9) c)), (10, (ii a.length)), (11, (ii i))], []⟩) [] (fun z => decide (z.1 = z.2)) _ (fun x y => _) ?_ ?_ ?_
 ·intro i x hi hx hp
  rw [hzl] at hi
  have hi' : (i : Int) < (a.length : Int) := by omega
  have hi2 : ¬ (i : Int) ≥ (b.length : Int) := by omega
  have hw : IntKind.i64.wrap ((i : Int) + 1) = ((i + 1 : Nat) : Int) := by rw [qaw (by omega) (by omega)]; simp
  obtain ⟨hxa, hxb⟩ := List.getElem?_zip_eq_some.1 hx
  have hp' := of_decide_eq_true hp
  have hc := qk1 x.1 x.2
  rw [(qyf x.1 x.2).2 hp'] at hc
  simp only [qde, zgs, zgr, zgq, zgt, hxa, hxb, hi', hi2, hw, hc, qag, qb9, Ev.exec, qb, qe, qc, qa5, qai, Ev.evs, Ev.Opnd.ev, Ev.Env.get, Ev.Env.set, Ev.look, qk, qae, qaf, qbx, ql, qch, qr, Ev.keep, qad, qw, qd, qa1, qu, qj, qh, zgi, ↓qs, Ev.it1, ↓reduceIte, zga, zgb, zfe, zgh, Nat.reduceEqDiff, reduceCtorEq, zgv, zgw, zfc, zfa, zgx, ne_eq, not_true_eq_false, zfd, zgy]
 ·intro i x hi hx hp
  rw [hzl] at hi
  have hi' : (i : Int) < (a.length : Int) := by omega
  have hi2 : ¬ (i : Int) ≥ (b.length : Int) := by omega
  obtain ⟨hxa, hxb⟩ := List.getElem?_zip_eq_some.1 hx
  have hp' : ¬ x.1 = x.2 := of_decide_eq_false hp
  have hc := qk1 x.1 x.2
  have hz : ¬ qpq x.1 x.2 = 0 := fun h => hp' ((qyf _ _).1 h)
  simp only [qde, zgs, zgr, zgq, zgt, hxa, hxb, hi', hi2, hz, hc, qb9, Ev.exec, qb, qe, qc, qa5, qai, Ev.evs, Ev.Opnd.ev, Ev.Env.get, Ev.Env.set, Ev.look, qk, qae, qbx, ql, qch, qa1, qj, qh, zgi, ↓qs, Ev.it1, ↓reduceIte, zga, zgb, zgh, Nat.reduceEqDiff, reduceCtorEq, zgv, zgw, zfc, zfa, ne_eq, zfb, zfd, zgy]
  exact ⟨_, rfl, rfl, rfl, rfl, rfl⟩
 ·rw [hzl]
  by_cases hab : a.length ≤ b.length
  ·rw [Nat.min_eq_left hab]
   simp only [qde, Int.lt_irrefl, Ev.exec, qb, qe, qc, qai, Ev.Opnd.ev, Ev.Env.get, Ev.Env.set, Ev.look, ql, ↓qs, Ev.it1, ↓reduceIte, Nat.reduceEqDiff, reduceCtorEq, zgw, zfa, zgy]
   exact ⟨_, rfl, .inl ⟨hab, rfl, rfl, rfl, rfl, rfl⟩⟩
  ·rw [Nat.min_eq_right (by omega)]
   have h3 : (b.length : Int) < (a.length : Int) := by omega
   obtain ⟨x, hx⟩ : ∃ x, a[b.length]? = some x := ⟨_, List.getElem?_eq_getElem (by omega)⟩
   have h4 : (b.length : Int) ≥ (b.length : Int) := Int.le_refl _
   simp only [qde, zgs, zgr, zgq, zgt, h3, h4, hx, qb9, Ev.exec, qb, qe, qc, qai, Ev.Opnd.ev, Ev.Env.get, Ev.Env.set, Ev.look, qk, qae, ql, qch, zgi, ↓qs, Ev.it1, ↓reduceIte, zga, zgb, zgh, Nat.reduceEqDiff, reduceCtorEq, zgv, zfa, zfd, zgy]
   exact ⟨_, rfl, .inr ⟨by omega, rfl, rfl, rfl, rfl⟩⟩
theorem qvs (h1 : a.length ≤ 9223372036854775807) (h2 : b.length ≤ 9223372036854775807) : qa4 (evL T) qdc [(.fsl ((a).map qb9) c), (.fsl ((b).map qb9) d)] = some (ii (qll a b)) := by
 obtain ⟨⟨y, e, σ⟩, k1, k2⟩ := qxg a b c d h1 h2
 simp only at k2
 obtain ⟨z1, z2⟩ := qvx a b
 rw [qa4, qx qnv qne]
 rcases k2 with ⟨k3, ⟨k7, rfl, k4, rfl, k5, k6⟩ | ⟨k7, rfl, k4, rfl, k5⟩⟩ | ⟨k3, x, k7, rfl, k4, rfl, k5⟩
 ·rw [z1 k3]
  by_cases hl : (a.length : Int) < (b.length : Int)
  ·simp only [qdd, k1, k4, k5, k6, hl, qpq, qag, qn, Ev.exec, qb, qe, qc, qai, Ev.Opnd.ev, Ev.Env.get, Ev.Env.set, Ev.look, qo, ql, qm, qab, qaj, Ev.kill, qah, qr, Ev.keep, qad, qw, qd, qa1, qu, qal, zgi, ↓qs, ↓qaq, ↓reduceIte, zga, zgb, zfe, Nat.reduceAdd, Nat.reduceEqDiff, Int.reduceNeg, reduceCtorEq, zgv, zfc, zgx, zfd, zgy]
  ·have hg : ¬ (a.length : Int) > (b.length : Int) := by omega
   simp only [qdd, k1, k4, k5, k6, hl, hg, qpq, qag, qn, Ev.exec, qb, qe, qc, qai, Ev.Opnd.ev, Ev.Env.get, Ev.Env.set, Ev.look, qo, ql, qm, qab, qaj, Ev.kill, qah, qr, Ev.keep, qad, qw, qd, qa1, qu, qal, zgi, ↓qs, ↓qaq, ↓reduceIte, zga, zgb, zfe, Nat.reduceAdd, Nat.reduceEqDiff, Int.reduceNeg, reduceCtorEq, zgw, zfc, zfa, zgx, zfd, zgy]
 ·have hl : ¬ (a.length : Int) < (b.length : Int) := by omega
  have hg : (a.length : Int) > (b.length : Int) := by omega
  rw [z1 k3]
  simp only [qdd, k1, k4, k5, hl, hg, qpq, qag, qn, Ev.exec, qb, qe, qc, qai, Ev.Opnd.ev, Ev.Env.get, Ev.Env.set, Ev.look, qo, qm, qab, qaj, Ev.kill, qah, qr, Ev.keep, qad, qw, qd, qa1, qu, qal, zgi, ↓qs, ↓qaq, ↓reduceIte, zga, zgb, zfe, Nat.reduceAdd, Nat.reduceEqDiff, Int.reduceNeg, reduceCtorEq, zfc, zgx, zfd, zgy]
 ·rw [z2 x k7]
  simp only [qdd, k1, k4, k5, qag, qn, Ev.exec, qb, qe, qc, qai, Ev.Opnd.ev, Ev.Env.get, Ev.Env.set, Ev.look, qo, qm, qab, qaj, Ev.kill, qah, qr, Ev.keep, qad, qw, qd, qa1, qu, qal, zgi, ↓qs, ↓qaq, ↓reduceIte, zga, zgb, zfe, Nat.reduceAdd, Nat.reduceEqDiff, Int.reduceNeg, reduceCtorEq, zfc, zgx, zfd, zgy]
theorem qkw (h1 : a.length ≤ 9223372036854775807) (h2 : b.length ≤ 9223372036854775807) : qa4 (evL T) qev [(.fsl ((a).map qb9) c), (.fsl ((b).map qb9) d)] = some (ii (qll a b)) := by
 have h := qvs a b c d h1 h2
 rw [qa4, qx qr0 qq5]
 simp only [qiy, h, qag, qn, Ev.exec, qb, qe, qc, qa5, qai, Ev.evs, Ev.Opnd.ev, Ev.Env.get, Ev.Env.set, Ev.look, qo, qm, qab, qaj, Ev.kill, qah, qd, qa1, qu, qj, qh, qal, ↓qs, ↓reduceIte, zga, zgb, zfe, Nat.reduceAdd, Nat.reduceEqDiff, reduceCtorEq, zfc, zgx, zfd, zgy]
end
def qoa (x y : Evt) : Int := if qpq x.time y.time = 0 then qll x.key y.key else qpq x.time y.time
theorem qkn (x y : Evt) (hx : x.key.length ≤ 9223372036854775807) (hy : y.key.length ≤ 9223372036854775807) (rs : Nat) (es : List (List AV)) (g : Nat) :
  (evL T).call qq [(.agg [(ii x.time), (.fsl ((x.key).map qb9) false), (ii x.lp), (ii x.kind), (ii x.proc), (ii x.arg)]), (.agg [(ii y.time), (.fsl ((y.key).map qb9) false), (ii y.lp), (ii y.kind), (ii y.proc), (ii y.arg)])] [.row rs es g] = some ((ii (qoa x y)), [.row rs es g]) := by
 obtain ⟨xt, xk, xl, xi, xp, xa⟩ := x
 obtain ⟨yt, yk, yl, yi, yp, ya⟩ := y
 have hc := qk1 xt yt
 have hk := qkw xk yk false false hx hy
 have hf := qpg (qpq xt yt) (qll xk yk) true
 simp only [List.map_cons, List.map_nil, qb9] at hf
 rw [qx qje qik]
 simp only [qe2, show ∀ v : List AV, List.replicate 2 v = [v, v] from fun _ => rfl, hc, hk, hf, qoa, ite_self, qag, qn, Ev.exec, qb, qe, qc, qa5, qai, Ev.evs, Ev.Opnd.ev, Ev.Env.get, Ev.Env.set, Ev.look, qo, qk, qae, qf6, Ev.AV.cells, Ev.AV.uc, qy, Ev.AV.plain, qm, qab, qaj, Ev.kill, qah, qd, Ev.SObj.lo, qa1, qu, qj, qh, qac, qao, ↓qs, ↓reduceIte, zga, zgb, zgc, zfe, zgf, zgg, zgj, zgk, zgh, Nat.reduceAdd, Nat.reduceEqDiff, Nat.reduceMul, Nat.reduceLT, Nat.reduceLeDiff, Nat.reducePow, reduceCtorEq, zfc, Bool.and_true, zfa, zgx, true_and, ne_eq, zfb, zff, zfd, zgu, zgy]
theorem qq3 (x y : Evt) (hx : x.key.length ≤ 9223372036854775807) (hy : y.key.length ≤ 9223372036854775807) :
  qa4 (evL T) qq [(.agg [(ii x.time), (.fsl ((x.key).map qb9) false), (ii x.lp), (ii x.kind), (ii x.proc), (ii x.arg)]), (.agg [(ii y.time), (.fsl ((y.key).map qb9) false), (ii y.lp), (ii y.kind), (ii y.proc), (ii y.arg)])] = some (ii (qoa x y)) := by
 obtain ⟨xt, xk, xl, xi, xp, xa⟩ := x
 obtain ⟨yt, yk, yl, yi, yp, ya⟩ := y
 have hc := qk1 xt yt
 have hk := qkw xk yk false false hx hy
 have hf := qpg (qpq xt yt) (qll xk yk) true
 simp only [List.map_cons, List.map_nil, qb9] at hf
 rw [qa4, qx qje qik]
 simp only [qe2, show ∀ v : List AV, List.replicate 2 v = [v, v] from fun _ => rfl, hc, hk, hf, qoa, qag, qn, Ev.exec, qb, qe, qc, qa5, qai, Ev.evs, Ev.Opnd.ev, Ev.Env.get, Ev.Env.set, Ev.look, qo, qk, qae, qf6, Ev.AV.cells, Ev.AV.uc, qy, Ev.AV.plain, qm, qab, qaj, Ev.kill, qah, qd, qa1, qu, qj, qh, qac, qao, qal, ↓qs, ↓reduceIte, zga, zgb, zfe, zgf, zgg, zgj, zgk, zgh, Nat.reduceAdd, Nat.reduceEqDiff, Nat.reduceMul, Nat.reduceLT, Nat.reduceLeDiff, Nat.reducePow, reduceCtorEq, zfc, zfa, zgx, ne_eq, zfb, zff, zfd, zgu, zgy]
end Go.Proofs.YtbhhifdhlafklaaGreat.K
namespace Go.Ev
section
variable {α : Type}
theorem qpm {D L M : List α} {x : α} {n : Nat} (h : D = L ++ x :: M) (hn : n = L.length) : D[n]? = some x := by
 subst h hn; simp
theorem qwz {D L X M : List α} {i n : Nat} (h : D = L ++ (X ++ M)) (hi : i < X.length) (hn : n = L.length + i) : D[n]? = X[i]? := by
 subst h hn
 rw [List.getElem?_append_right (by omega), List.getElem?_append_left (by omega)]
 congr 1; omega
theorem q5j {D L M : List α} {x y : α} {n m : Nat} (h : D = L ++ y :: x :: M) (hn : n = L.length) (hm : m = n + 1) : (D.set m y).set n x = L ++ x :: y :: M := by
 subst h hm hn; simp []
theorem q79 {D L M : List α} {x y : α} {n m : Nat} (h : D = L ++ y :: x :: M) (hn : n = L.length) (hm : m = n + 1) : (D.set n x).set m y = L ++ x :: y :: M := by
 subst h hm hn; simp []
theorem swap_far {D L M N : List α} {x y : α} {n m : Nat} (h : D = L ++ x :: (M ++ y :: N)) (hn : n = L.length) (hm : m = n + 1 + M.length) : (D.set n y).set m x = L ++ y :: (M ++ x :: N) := by
 subst h hm hn
 rw [List.set_append, if_neg (Nat.lt_irrefl _), Nat.sub_self, List.set_cons_zero, List.set_append, if_neg (by omega), show L.length + 1 + M.length - L.length = M.length + 1 by omega, List.set_cons_succ, List.set_append, if_neg (Nat.lt_irrefl _), Nat.sub_self, List.set_cons_zero]
variable {R : α → α → Prop}
theorem cross (tr : ∀ a b c, R a b → R b c → R a c) {X Y : List α} (hX : X.Pairwise R) (hY : Y.Pairwise R) (h : ∀ u v, X[X.length - 1]? = some u → Y[0]? = some v → R u v) : ∀ a ∈ X, ∀ b ∈ Y, R a b := by
 intro a ha b hb
 obtain ⟨i, hi⟩ := List.mem_iff_getElem?.1 ha
 obtain ⟨j, hj⟩ := List.mem_iff_getElem?.1 hb
 obtain ⟨hi', hi⟩ := List.getElem?_eq_some_iff.1 hi
 obtain ⟨hj', hj⟩ := List.getElem?_eq_some_iff.1 hj
 rw [List.pairwise_iff_getElem] at hX hY
 have h0 := h _ _ (List.getElem?_eq_getElem (by omega)) (List.getElem?_eq_getElem (by omega))
 have h1 : R a Y[0] := by
  by_cases c : i = X.length - 1
  ·subst c; rw [← hi]; exact h0
  ·exact tr _ _ _ (by rw [← hi]; exact hX i (X.length - 1) hi' (by omega) (by omega)) h0
 by_cases c : j = 0
 ·subst c; rw [← hj]; exact h1
 ·exact tr _ _ _ h1 (by rw [← hj]; exact hY 0 j (by omega) hj' (by omega))
theorem q56 (tr : ∀ a b c, R a b → R b c → R a c) {X1 X2 Y1 Y2 Z1 Z2 : List α} (hX : (X1 ++ X2).Pairwise R) (hY : (Y1 ++ Y2).Pairwise R)
  (h1 : ∀ u v, X1[X1.length - 1]? = some u → Y2[0]? = some v → R u v) (h2 : ∀ u v, Y1[Y1.length - 1]? = some u → X2[0]? = some v → R u v)
  (p1 : Z1.Perm (X1 ++ Y1)) (p2 : Z2.Perm (X2 ++ Y2)) (s1 : Z1.Pairwise R) (s2 : Z2.Pairwise R) : (Z1 ++ Z2).Perm (X1 ++ X2 ++ (Y1 ++ Y2)) ∧ (Z1 ++ Z2).Pairwise R := by
 obtain ⟨x1, x2, x3⟩ := List.pairwise_append.1 hX
 obtain ⟨y1, y2, y3⟩ := List.pairwise_append.1 hY
 have c1 := cross tr x1 y2 h1
 have c2 := cross tr y1 x2 h2
 refine ⟨(p1.append p2).trans ?_, List.pairwise_append.2 ⟨s1, s2, ?_⟩⟩
 ·rw [List.append_assoc, List.append_assoc]
  refine List.Perm.append_left X1 ?_
  rw [← List.append_assoc, ← List.append_assoc]
  exact List.Perm.append_right Y2 List.perm_append_comm
 ·intro a ha b hb
  rw [p1.mem_iff, List.mem_append] at ha
  rw [p2.mem_iff, List.mem_append] at hb
  rcases ha with ha | ha <;> rcases hb with hb | hb
  ·exact x3 a ha b hb
  ·exact c1 a ha b hb
  ·exact c2 a ha b hb
  ·exact y3 a ha b hb
theorem qms (tr : ∀ a b c, R a b → R b c → R a c) {A B : List α} {x : α} (h : (A ++ B).Pairwise R) (h1 : ∀ u, A[A.length - 1]? = some u → R u x) (h2 : ∀ v, B[0]? = some v → R x v) : (A ++ x :: B).Pairwise R := by
 obtain ⟨a1, a2, a3⟩ := List.pairwise_append.1 h
 have c1 := cross tr a1 (List.pairwise_singleton R x) (fun u v hu hv => by simp at hv; subst hv; exact h1 u hu)
 have c2 := cross tr (List.pairwise_singleton R x) a2 (fun u v hu hv => by simp at hu; subst hu; exact h2 v hv)
 refine List.pairwise_append.2 ⟨a1, List.pairwise_cons.2 ⟨fun b hb => c2 x (by simp) b hb, a2⟩, fun a ha b hb => ?_⟩
 rcases List.mem_cons.1 hb with rfl | hb
 ·exact c1 a ha _ (by simp)
 ·exact a3 a ha b hb
inductive Blk (R : α → α → Prop) (s : Nat) : List α → Prop
 | last {l : List α} : l.length ≤ s → l.Pairwise R → Blk R s l
 | more {X Y : List α} : X.length = s → X.Pairwise R → Blk R s Y → Blk R s (X ++ Y)
theorem Blk.sorted {s : Nat} {l : List α} (h : Blk R s l) (hs : l.length ≤ s) : l.Pairwise R := by
 cases h with
 | last _ h => exact h
 | @more X Y h1 h2 h3 =>
  rw [List.length_append] at hs
  obtain rfl := List.eq_nil_of_length_eq_zero (l := Y) (by omega)
  simpa using h2
theorem Blk.split {s : Nat} {l : List α} (h : Blk R s l) (hs : s < l.length) : ∃ X Y, l = X ++ Y ∧ X.length = s ∧ X.Pairwise R ∧ Blk R s Y := by
 cases h with
 | last h1 _ => omega
 | @more X Y h1 h2 h3 => exact ⟨X, Y, rfl, h1, h2, h3⟩
theorem Blk.nil {s : Nat} : Blk R s ([] : List α) := .last (Nat.zero_le _) .nil
theorem qhb {f : Env → qaa → R3} {s : Env → qaa → Option (Env × qaa)} {τ : Type} (E : τ → Env) (S : τ → qaa) (m : τ → Nat) (Inv : τ → Prop) (Q : CExit × Env × qaa → Prop)
  (step : ∀ a, Inv a → (∃ a', it1 f s (E a) (S a) = some (.inl (E a', S a')) ∧ Inv a' ∧ m a' < m a) ∨ ∃ y, it1 f s (E a) (S a) = some (.inr y) ∧ Q y) :
  ∀ a, Inv a → ∃ y, itB f s (E a) (S a) = some y ∧ Q y := by
 have : ∀ k a, m a ≤ k → Inv a → ∃ y, itB f s (E a) (S a) = some y ∧ Q y := by
  intro k
  induction k with
  | zero =>
   intro a hk ha
   rcases step a ha with ⟨a', h1, h2, h3⟩ | ⟨y, h1, h2⟩
   ·omega
   ·exact ⟨y, qql h1, h2⟩
  | succ k ih =>
   intro a hk ha
   rcases step a ha with ⟨a', h1, h2, h3⟩ | ⟨y, h1, h2⟩
   ·obtain ⟨y, h4, h5⟩ := ih a' (by omega) h2
    exact ⟨y, q3n h1 h4, h5⟩
   ·exact ⟨y, qql h1, h2⟩
 exact fun a => this (m a) a (Nat.le_refl _)
end
end Go.Ev
namespace Go.Proofs.YtbhhifdhlafklaaGreat.K
open Go.Ev
set_option maxRecDepth 10000
theorem qke {a b : Nat} (h : a + b < 2 ^ 62) : IntKind.i64.wrap ((a : Int) + (b : Int)) = ((a + b : Nat) : Int) := by rw [qaw (by omega) (by omega)]; simp
theorem ql7 {a : Nat} (h : a < 2 ^ 62) : IntKind.i64.wrap ((a : Int) + 1) = ((a + 1 : Nat) : Int) := by rw [qaw (by omega) (by omega)]; simp
theorem qfh {a b c : Nat} (h : a = b + c) (h2 : a < 2 ^ 62) : IntKind.i64.wrap ((a : Int) - (b : Int)) = (c : Int) := by rw [qaw (by omega) (by omega)]; omega
theorem qqj {a c : Nat} (h : a = c + 1) (h2 : a < 2 ^ 62) : IntKind.i64.wrap ((a : Int) - 1) = (c : Int) := by rw [qaw (by omega) (by omega)]; omega
section
variable (g : Nat) (cl : Bool) (n : Nat)
theorem qr6 (L X M Y N : List Evt) (hXY : Y.length = X.length) (hn : n = (L ++ (X ++ (M ++ (Y ++ N)))).length) (hb : n < 2 ^ 61) (a b : Nat) (ha : a = L.length) (hbb : b = L.length + X.length + M.length) :
  (evL T).call qa3 [.sl 0 g 0 n cl, (ii a), (ii b), (ii X.length), (.fn (.func qq) [] [])] [.row 6 ((L ++ (X ++ (M ++ (Y ++ N)))).map Evt.r) g] = some (.tup [], [.row 6 ((L ++ (Y ++ (M ++ (X ++ N)))).map Evt.r) g]) := by
 have hlen : n = L.length + (X.length + (M.length + (Y.length + N.length))) := by rw [hn]; simp
 have key := qeu (f := exec (evL T) itL none qc2) (s := qr [0, 1, 2, 3, 10] true 1) (α := List Evt)
  (fun i D => ⟨[(0, .sl 0 g 0 n cl), (1, (ii a)), (2, (ii b)), (3, (ii X.length)), (10, (ii i))], []⟩) (fun i D => [.row 6 ((D).map Evt.r) g])
  (fun i D => D = L ++ ((Y.take i ++ X.drop i) ++ (M ++ ((X.take i ++ Y.drop i) ++ N)))) X.length
  (fun y => y.1 = .exit 0 ∧ y.2.1.marks = [] ∧ y.2.2 = [.row 6 ((L ++ (Y ++ (M ++ (X ++ N)))).map Evt.r) g]) ?_ ?_ 0 _ (Nat.zero_le _) rfl
 ·obtain ⟨⟨y, e, σ⟩, k1, k2, k3, k4⟩ := key
  simp only [zgo, zgg, zgl, Int.cast_ofNat_Int] at k1 k2 k3 k4
  subst k2; subst k4
  rw [qx qj9 qj0]
  simp only [qdg, k1, k3, qv, qn, Ev.exec, qb, qe, qc, qai, Ev.Opnd.ev, Ev.Env.get, Ev.Env.set, Ev.look, qo, qm, qaj, Ev.kill, qah, qr, Ev.keep, qad, qw, qd, Ev.SObj.lo, qa1, qba, qbn, qj, ↓qs, ↓qaq, ↓reduceIte, zga, zgb, zgc, zfe, Nat.reduceAdd, Nat.reduceEqDiff, reduceCtorEq, zgv, zfc, zgx, zfd, zgu, zgy]
 ·rintro i D hi hD
  obtain ⟨x, hx⟩ : ∃ x, X[i]? = some x := ⟨_, List.getElem?_eq_getElem hi⟩
  obtain ⟨y, hy⟩ : ∃ y, Y[i]? = some y := ⟨_, List.getElem?_eq_getElem (by omega)⟩
  have dx : X.drop i = x :: X.drop (i + 1) := by obtain ⟨_, rfl⟩ := List.getElem?_eq_some_iff.1 hx; exact List.drop_eq_getElem_cons hi
  have dy : Y.drop i = y :: Y.drop (i + 1) := by obtain ⟨_, rfl⟩ := List.getElem?_eq_some_iff.1 hy; exact List.drop_eq_getElem_cons (by omega)
  have e1 : D = (L ++ Y.take i) ++ x :: ((X.drop (i + 1) ++ (M ++ X.take i)) ++ y :: (Y.drop (i + 1) ++ N)) := by rw [hD, dx, dy]; simp
  have l1 : a + i = (L ++ Y.take i).length := by simp; omega
  have l2 : b + i = a + i + 1 + (X.drop (i + 1) ++ (M ++ X.take i)).length := by simp; omega
  have gx : D[a + i]? = some x := qpm e1 l1
  have gy : D[b + i]? = some y := by
   refine qpm (L := (L ++ Y.take i) ++ x :: (X.drop (i + 1) ++ (M ++ X.take i))) (M := Y.drop (i + 1) ++ N) (by rw [e1]; simp) ?_
   rw [l2, l1]; simp; omega
  have ge : D.length = n := by rw [e1, hlen]; simp; omega
  have sw := swap_far e1 l1 l2
  have hne : ¬ (a + i = b + i) := by omega
  have hi' : (i : Int) < (X.length : Int) := by omega
  have wa : IntKind.i64.wrap ((a : Int) + (i : Int)) = ((a + i : Nat) : Int) := qke (by omega)
  have wb : IntKind.i64.wrap ((b : Int) + (i : Int)) = ((b + i : Nat) : Int) := qke (by omega)
  have wi : IntKind.i64.wrap ((i : Int) + 1) = ((i + 1 : Nat) : Int) := ql7 (by omega)
  have ra : a + i < n := by omega
  have rb : b + i < n := by omega
  obtain ⟨xt, xk, xl, xi, xp, xa⟩ := x
  obtain ⟨yt, yk, yl, yi, yp, ya⟩ := y
  have hs : ∀ v, ((D.map Evt.r).set (a + i) v)[b + i]? = some (Evt.r ⟨yt, yk, yl, yi, yp, ya⟩) := fun v => by rw [List.getElem?_set_ne hne, List.getElem?_map, gy]; rfl
  have hlo := qv 1 ((D.set (a + i) ⟨yt, yk, yl, yi, yp, ya⟩).set (b + i) ⟨xt, xk, xl, xi, xp, xa⟩)
  simp only [List.map_set, Evt.r] at hlo
  refine .inl ⟨(D.set (a + i) ⟨yt, yk, yl, yi, yp, ya⟩).set (b + i) ⟨xt, xk, xl, xi, xp, xa⟩, ?_, ?_⟩
  ·simp only [qc2, zgs, zgr, zgq, zgt, gx, gy, hs, hi', wa, wb, wi, ra, rb, hlo, List.map_set, Evt.r, Ev.exec, qb, qe, qc, qai, Ev.Opnd.ev, Ev.Env.get, Ev.Env.set, Ev.look, qk, qae, Ev.AV.cells, qy, Ev.AV.plain, qaf, ql, qr, Ev.keep, qad, qw, qd, Ev.SObj.lo, qa1, qbn, ↓qs, Ev.it1, ↓reduceIte, zga, zgb, zgd, zgc, zgo, zfe, zgf, zgg, List.drop_nil, zgl, zgn, zgj, Nat.reduceAdd, Nat.reduceEqDiff, reduceCtorEq, zgv, zfc, zgx, zfd, zgu, Nat.le_refl, zgy]
  ·rw [sw, qio hx, qio hy]; simp
 ·rintro D hD
  have hD' : D = L ++ (Y ++ (M ++ (X ++ N))) := by rw [hD, ← hXY, List.take_length, List.drop_length, hXY, List.take_length, List.drop_length]; simp
  subst hD'
  simp only [qc2, Int.lt_irrefl, Ev.exec, qb, qe, qc, qai, Ev.Opnd.ev, Ev.Env.get, Ev.Env.set, Ev.look, ql, ↓qs, Ev.it1, ↓reduceIte, Nat.reduceEqDiff, reduceCtorEq, zgw, zfa, zgy]
  exact ⟨_, rfl, rfl, rfl, rfl⟩
end
open Go.Ev
theorem q63 (a b : Int) : qpq b a = -qpq a b := by unfold qpq; split <;> split <;> (try split) <;> omega
theorem qjx (a b : Int) : (qpq a b < 0 ↔ a < b) ∧ (qpq a b = 0 ↔ a = b) ∧ (0 < qpq a b ↔ b < a) := by
 unfold qpq
 split
 ·refine ⟨?_, ?_, ?_⟩ <;> omega
 split
 ·refine ⟨?_, ?_, ?_⟩ <;> omega
 ·refine ⟨?_, ?_, ?_⟩ <;> omega
theorem q4l : ∀ a b : List Int, qll b a = -qll a b
 | [], [] => rfl
 | [], y :: b => by simp [qll]
 | x :: a, [] => by simp [qll]
 | x :: a, y :: b => by
  simp only [qll]
  by_cases h : x = y
  ·subst h; simp only [if_true]; exact q4l a b
  ·rw [if_neg h, if_neg (fun e => h e.symm)]; exact q63 x y
theorem qza : ∀ a b c : List Int, qll a b ≤ 0 → qll b c ≤ 0 → qll a c ≤ 0
 | [], b, c, _, _ => by cases c <;> simp [qll]
 | x :: a, [], c, h, _ => by simp [qll] at h
 | x :: a, y :: b, [], _, h => by simp [qll] at h
 | x :: a, y :: b, z :: c, h1, h2 => by
  simp only [qll] at h1 h2 ⊢
  have c1 := qjx x y
  have c2 := qjx y z
  have c3 := qjx x z
  by_cases e1 : x = y
  ·subst e1
   rw [if_pos rfl] at h1
   by_cases e2 : x = z
   ·subst e2; rw [if_pos rfl] at h2 ⊢; exact qza a b c h1 h2
   ·rw [if_neg e2] at h2 ⊢; exact h2
  ·rw [if_neg e1] at h1
   by_cases e2 : y = z
   ·subst e2; rw [if_neg e1]; exact h1
   ·rw [if_neg e2] at h2
    have : ¬ x = z := by intro e; omega
    rw [if_neg this]
    omega
def leE (x y : Evt) : Prop := qoa x y ≤ 0
theorem qoy (x y : Evt) : qoa y x = -qoa x y := by
 unfold qoa
 have := q63 x.time y.time
 have := q4l x.key y.key
 by_cases h : qpq x.time y.time = 0
 ·rw [if_pos h, if_pos (by omega)]; assumption
 ·rw [if_neg h, if_neg (by omega)]; assumption
theorem qk0 (x y z : Evt) (h1 : leE x y) (h2 : leE y z) : leE x z := by
 unfold leE qoa at *
 have c1 := qjx x.time y.time
 have c2 := qjx y.time z.time
 have c3 := qjx x.time z.time
 by_cases e1 : qpq x.time y.time = 0
 ·rw [if_pos e1] at h1
  by_cases e2 : qpq y.time z.time = 0
  ·rw [if_pos e2] at h2
   rw [if_pos (by omega)]; exact qza _ _ _ h1 h2
  ·rw [if_neg e2] at h2
   rw [if_neg (by omega)]; omega
 ·rw [if_neg e1] at h1
  by_cases e2 : qpq y.time z.time = 0
  ·rw [if_neg (by omega)]; omega
  ·rw [if_neg e2] at h2
   rw [if_neg (by omega)]; omega
theorem qpu (x y : Evt) (h : ¬ qoa x y < 0) : leE y x := by unfold leE; have := qoy x y; omega
theorem q05 (x y : Evt) (h : qoa x y < 0) : leE x y := by unfold leE; omega
theorem q4r (x y : Evt) : qoa x y = 0 ↔ x.time = y.time ∧ x.key = y.key := by
 unfold qoa
 have := qjx x.time y.time
 have := qwe x.key y.key
 by_cases h : qpq x.time y.time = 0
 ·rw [if_pos h]; constructor
  ·intro k; exact ⟨by omega, by simpa [k] using this⟩
  ·intro k; exact this.2 k.2
 ·rw [if_neg h]; constructor
  ·intro k; exact absurd k h
  ·intro k; omega
open Go.Ev
set_option maxRecDepth 10000
section
variable (g : Nat) (cl : Bool) (n : Nat)
def qcr (D : List Evt) : Prop := ∀ x ∈ D, x.key.length ≤ 9223372036854775807
theorem q0m (P S Q : List Evt) (x : Evt) (hn : n = (P ++ (S ++ x :: Q)).length) (hb : n < 2 ^ 61) (hk : qcr (P ++ (S ++ x :: Q))) (hS : S.Pairwise leE) (a : Nat) (ha : a = P.length) (b i : Int) :
  ∃ y, itB (exec (evL T) itL none qbu) (qr [0, 1, 2, 3, 8, 9] true 1) ⟨[(0, .sl 0 g 0 n cl), (1, (ii a)), (2, (ii b)), (3, (.fn (.func qq) [] [])), (8, (ii i)), (9, (ii ((a + S.length : Nat))))], []⟩ [.row 6 ((P ++ (S ++ x :: Q)).map Evt.r) g] = some y ∧
   (y.1 = .exit 2 ∧ y.2.1.marks = [] ∧ Ev.look y.2.1.vars 0 = some (.sl 0 g 0 n cl) ∧ Ev.look y.2.1.vars 1 = some (ii a) ∧ Ev.look y.2.1.vars 2 = some (ii b) ∧ Ev.look y.2.1.vars 3 = some (.fn (.func qq) [] []) ∧ Ev.look y.2.1.vars 8 = some (ii i) ∧ ∃ S' : List Evt, S'.Perm (x :: S) ∧ S'.Pairwise leE ∧ y.2.2 = [.row 6 ((P ++ (S' ++ Q)).map Evt.r) g]) := by
 refine qhb (τ := List Evt × Nat) (fun s => ⟨[(0, .sl 0 g 0 n cl), (1, (ii a)), (2, (ii b)), (3, (.fn (.func qq) [] [])), (8, (ii i)), (9, (ii s.2))], []⟩) (fun s => [.row 6 ((s.1).map Evt.r) g]) (fun s => s.2)
  (fun s => ∃ A B, s.1 = P ++ (A ++ x :: (B ++ Q)) ∧ s.2 = a + A.length ∧ A ++ B = S ∧ ∀ v, B[0]? = some v → leE x v) _ ?_ (P ++ (S ++ x :: Q), a + S.length) ⟨S, [], by simp, rfl, by simp, by simp⟩
 rintro ⟨D, j⟩ ⟨A, B, hD, hj, hAB, hB⟩
 simp only at hD hj ⊢
 have hlen : n = P.length + (S.length + (Q.length + 1)) := by rw [hn]; simp
 have hSl : S.length = A.length + B.length := by rw [← hAB]; simp
 have fin : (∀ u, A[A.length - 1]? = some u → leE u x) → ∃ S' : List Evt, S'.Perm (x :: S) ∧ S'.Pairwise leE ∧ ([.row 6 ((D).map Evt.r) g] : qaa) = [.row 6 ((P ++ (S' ++ Q)).map Evt.r) g] := fun h => by
  refine ⟨A ++ x :: B, ?_, qms qk0 (by rw [hAB]; exact hS) h hB, by rw [hD]; simp⟩
  rw [← hAB]; exact List.perm_middle
 rcases List.eq_nil_or_concat A with rfl | ⟨A0, y, rfl⟩
 ·have h1 : ¬ (j : Int) > (a : Int) := by simp at hj; omega
  refine .inr ?_
  simp only [qbu, h1, Ev.exec, qb, qe, qc, qai, Ev.Opnd.ev, Ev.Env.get, Ev.Env.set, Ev.Env.unset, Ev.look, qas, ↓qs, Ev.it1, ↓reduceIte, Nat.reduceEqDiff, reduceCtorEq, zgw, zfa, zgy]
  exact ⟨_, rfl, rfl, rfl, rfl, rfl, rfl, rfl, rfl, fin (by simp)⟩
 ·simp only [List.concat_eq_append, zgp, zga, zgb] at hD hj hSl hAB fin
  obtain ⟨k, hk1⟩ : ∃ k, k = a + A0.length := ⟨_, rfl⟩
  have hjk : j = k + 1 := by omega
  have h1 : (j : Int) > (a : Int) := by omega
  have e1 : D = (P ++ A0) ++ y :: x :: (B ++ Q) := by rw [hD]; simp
  have l1 : k = (P ++ A0).length := by simp; omega
  have gy : D[k]? = some y := qpm e1 l1
  have gx : D[j]? = some x := qpm (L := P ++ A0 ++ [y]) (M := B ++ Q) (by rw [e1]; simp) (by simp; omega)
  have ge : D.length = n := by rw [e1, hlen]; simp; omega
  have ws : IntKind.i64.wrap ((j : Int) - 1) = (k : Int) := qqj hjk (by omega)
  have rj : j < n := by omega
  have rk : k < n := by omega
  have kx : x.key.length ≤ 9223372036854775807 := hk x (by simp)
  have ky : y.key.length ≤ 9223372036854775807 := hk y (by rw [← hAB]; simp)
  have hc := qkn x y kx ky 6 (D.map Evt.r) g
  have sw := q5j e1 l1 hjk
  have hne : ¬ (j = k) := by omega
  by_cases hlt : qoa x y < 0
  ·left
   have hle := q05 x y hlt
   obtain ⟨x', rfl⟩ : ∃ z, x = z := ⟨x, rfl⟩
   have hlo := qv 1 ((D.set j y).set k x)
   refine ⟨((D.set j y).set k x, k), ?_, ⟨A0, y :: B, by rw [sw]; simp, hk1, by rw [← hAB]; simp, fun v hv => by simp at hv; rw [← hv]; exact hle⟩, by simp only; omega⟩
   obtain ⟨xt, xk, xl, xi, xp, xa⟩ := x
   obtain ⟨yt, yk, yl, yi, yp, ya⟩ := y
   have hs : ∀ v, ((D.map Evt.r).set j v)[k]? = some (Evt.r ⟨yt, yk, yl, yi, yp, ya⟩) := fun v => by rw [List.getElem?_set_ne hne, List.getElem?_map, gy]; rfl
   simp only [List.map_set, Evt.r] at hlo
   simp only at hc
   simp only [qbu, zgs, zgr, zgq, zgt, gx, gy, hs, h1, ws, rj, rk, hc, hlt, hlo, List.map_set, Evt.r, Ev.exec, qb, qe, qc, qk8, qai, Ev.evs, Ev.Opnd.ev, Ev.Env.get, Ev.Env.set, Ev.look, qk, qae, Ev.AV.cells, qy, Ev.AV.plain, qb8, ql, qas, qr, Ev.keep, qad, qw, qd, Ev.SObj.lo, qa1, qbn, qe3, qj, ↓qs, Ev.it1, ↓reduceIte, zga, zgb, zgd, zgc, zgo, zfe, zgf, zgg, List.drop_nil, zgl, zgn, zgj, Nat.reduceAdd, Nat.reduceEqDiff, reduceCtorEq, zgv, zfc, zgx, zfd, zgu, Nat.le_refl, zgy]
  ·right
   have hf := fin (fun u hu => by simp at hu; rw [← hu]; exact qpu x y hlt)
   obtain ⟨xt, xk, xl, xi, xp, xa⟩ := x
   obtain ⟨yt, yk, yl, yi, yp, ya⟩ := y
   simp only at hc
   simp only [qbu, zgs, zgr, zgq, zgt, gx, gy, h1, ws, rj, rk, hc, hlt, Evt.r, Ev.exec, qb, qe, qc, qk8, qai, Ev.evs, Ev.Opnd.ev, Ev.Env.get, Ev.Env.set, Ev.look, qk, qae, qb8, ql, qas, ↓qs, Ev.it1, ↓reduceIte, zga, zgb, zgd, zgc, zfe, zgg, zgl, zgn, Nat.reduceAdd, Nat.reduceEqDiff, reduceCtorEq, zgv, zgw, zfa, zgx, zfd, Nat.le_refl, zgy]
   exact ⟨_, rfl, rfl, rfl, rfl, rfl, rfl, rfl, rfl, hf⟩
theorem qwr (P S Q : List Evt) (hn : n = (P ++ (S ++ Q)).length) (hb : n < 2 ^ 61) (hk : qcr (P ++ (S ++ Q))) (a b : Nat) (ha : a = P.length) (hbb : b = a + S.length) :
  ∃ S' : List Evt, S'.Perm S ∧ S'.Pairwise leE ∧ (evL T).call qa2 [.sl 0 g 0 n cl, (ii a), (ii b), (.fn (.func qq) [] [])] [.row 6 ((P ++ (S ++ Q)).map Evt.r) g] = some (.tup [], [.row 6 ((P ++ (S' ++ Q)).map Evt.r) g]) := by
 have hlen : n = P.length + (S.length + Q.length) := by rw [hn]; simp
 have key := qhb (f := exec (evL T) itL none qbt) (s := qr [0, 1, 2, 3, 8] true 1) (τ := List Evt × Nat)
  (fun s => ⟨[(0, .sl 0 g 0 n cl), (1, (ii a)), (2, (ii b)), (3, (.fn (.func qq) [] [])), (8, (ii s.2))], []⟩) (fun s => [.row 6 ((s.1).map Evt.r) g]) (fun s => b - s.2)
  (fun s => (∃ A B, s.1 = P ++ (A ++ (B ++ Q)) ∧ s.2 = a + A.length ∧ (A ++ B).Perm S ∧ A.Pairwise leE) ∨ S = [] ∧ s.1 = P ++ Q ∧ s.2 = a + 1)
  (fun y => y.1 = .exit 0 ∧ y.2.1.marks = [] ∧ ∃ S' : List Evt, S'.Perm S ∧ S'.Pairwise leE ∧ y.2.2 = [.row 6 ((P ++ (S' ++ Q)).map Evt.r) g]) ?_ (P ++ (S ++ Q), a + 1) ?_
 ·obtain ⟨⟨y, e, σ⟩, k1, k2, k3, S', k4, k5, k6⟩ := key
  simp only at k1 k2 k3 k6
  subst k2; subst k6
  refine ⟨S', k4, k5, ?_⟩
  have w1 : IntKind.i64.wrap ((a : Int) + 1) = ((a + 1 : Nat) : Int) := ql7 (by omega)
  rw [qx qiq qil]
  simp only [qcz, w1, k1, k3, qv, qn, Ev.exec, qb, qe, qc, qai, Ev.Opnd.ev, Ev.Env.get, Ev.Env.set, Ev.look, qo, qaf, qm, qaj, Ev.kill, qah, qr, Ev.keep, qad, qw, qd, Ev.SObj.lo, qa1, qba, qbn, qe3, qj, ↓qs, ↓qaq, ↓reduceIte, zga, zgb, zgc, zfe, Nat.reduceAdd, Nat.reduceEqDiff, reduceCtorEq, zgv, zfc, zgx, zfd, zgu, zgy]
 ·rintro ⟨D, i⟩ (⟨A, B, hD, hi, hAB, hA⟩ | ⟨hS, hD, hi⟩)
  ·simp only at hD hi ⊢
   have hl := hAB.length_eq
   rw [List.length_append] at hl
   cases B with
   | nil =>
    have h1 : ¬ (i : Int) < (b : Int) := by simp at hl; omega
    right
    simp only [qbt, h1, Ev.exec, qb, qe, qc, qai, Ev.Opnd.ev, Ev.Env.get, Ev.Env.set, Ev.look, ql, ↓qs, Ev.it1, ↓reduceIte, Nat.reduceEqDiff, reduceCtorEq, zgw, zfa, zgy]
    exact ⟨_, rfl, rfl, rfl, A, by simpa using hAB, hA, by rw [hD]; simp⟩
   | cons x B =>
    rw [List.length_cons] at hl
    have h1 : (i : Int) < (b : Int) := by omega
    have hkD : qcr (P ++ (A ++ x :: (B ++ Q))) := by
     intro z hz
     refine hk z ?_
     simp only [List.mem_append, List.mem_cons] at hz ⊢
     have := hAB.mem_iff (a := z)
     simp only [List.mem_append, List.mem_cons] at this
     rcases hz with h | h | h | h | h
     ·exact .inl h
     ·exact .inr (.inl (this.1 (.inl h)))
     ·exact .inr (.inl (this.1 (.inr (.inl h))))
     ·exact .inr (.inl (this.1 (.inr (.inr h))))
     ·exact .inr (.inr h)
    obtain ⟨⟨y, e, σ⟩, k1, k2, k3, k4, k5, k6, k7, k8, S', k9, k10, k11⟩ := q0m g cl n P A (B ++ Q) x (by rw [hlen]; simp; omega) hb hkD hA a ha b i
    simp only at k1 k2 k3 k4 k5 k6 k7 k8 k11
    subst k2; subst k11
    have w1 : IntKind.i64.wrap ((i : Int) + 1) = ((i + 1 : Nat) : Int) := ql7 (by omega)
    left
    refine ⟨(P ++ (S' ++ (B ++ Q)), i + 1), ?_, .inl ⟨S', B, rfl, ?_, ?_, k10⟩, ?_⟩
    ·rw [← hi] at k1
     rw [hD]
     simp only [zgm] at k1 ⊢
     simp only [qbt, h1, w1, k1, k3, k4, k5, k6, k7, k8, qv, Ev.exec, qb, qe, qc, qai, Ev.Opnd.ev, Ev.Env.get, Ev.Env.set, Ev.look, qaf, ql, qr, Ev.keep, qad, qw, qd, Ev.SObj.lo, qa1, qbn, qe3, qj, ↓qs, ↓qaq, Ev.it1, ↓reduceIte, zga, zgb, zgc, zfe, Nat.reduceEqDiff, reduceCtorEq, zgv, zfc, zgx, zfd, zgu, zgy]
    ·have := k9.length_eq; rw [List.length_cons] at this; simp only; omega
    ·exact ((k9.append_right B).trans List.perm_middle.symm).trans hAB
    ·simp only; omega
  ·simp only at hD hi ⊢
   subst hS
   have h1 : ¬ (i : Int) < (b : Int) := by simp at hbb; omega
   right
   simp only [qbt, h1, Ev.exec, qb, qe, qc, qai, Ev.Opnd.ev, Ev.Env.get, Ev.Env.set, Ev.look, ql, ↓qs, Ev.it1, ↓reduceIte, Nat.reduceEqDiff, reduceCtorEq, zgw, zfa, zgy]
   exact ⟨_, rfl, rfl, rfl, [], List.Perm.nil, List.Pairwise.nil, by rw [hD]; simp⟩
 ·cases S with
  | nil => exact .inr ⟨rfl, by simp, rfl⟩
  | cons x S => exact .inl ⟨[x], S, by simp, by simp, by simp, List.pairwise_singleton _ _⟩
end
open Go.Ev
set_option maxRecDepth 10000
section
variable (g : Nat) (cl : Bool) (n : Nat)
theorem qaaz (L X Y N : List Evt) (hX : 0 < X.length) (hY : 0 < Y.length) (hn : n = (L ++ (X ++ (Y ++ N))).length) (hb : n < 2 ^ 61) (a m b : Nat) (ha : a = L.length) (hm : m = a + X.length) (hbb : b = m + Y.length) :
  (evL T).call qbc [.sl 0 g 0 n cl, (ii a), (ii m), (ii b), (.fn (.func qq) [] [])] [.row 6 ((L ++ (X ++ (Y ++ N))).map Evt.r) g] = some (.tup [], [.row 6 ((L ++ (Y ++ (X ++ N))).map Evt.r) g]) := by
 have hlen : n = L.length + (X.length + (Y.length + N.length)) := by rw [hn]; simp
 have key := qhb (f := exec (evL T) itL none qcl) (s := qr [0, 2, 4, 10, 11] true 1) (τ := List Evt × Nat × Nat)
  (fun s => ⟨[(0, .sl 0 g 0 n cl), (2, (ii m)), (4, (.fn (.func qq) [] [])), (10, (ii s.2.1)), (11, (ii s.2.2))], []⟩) (fun s => [.row 6 ((s.1).map Evt.r) g]) (fun s => s.2.1 + s.2.2)
  (fun s => ∃ L' X' Y' N', s.1 = L' ++ (X' ++ (Y' ++ N')) ∧ s.2.1 = X'.length ∧ s.2.2 = Y'.length ∧ 0 < X'.length ∧ 0 < Y'.length ∧ m = L'.length + X'.length ∧ L' ++ (Y' ++ (X' ++ N')) = L ++ (Y ++ (X ++ N)))
  (fun y => ∃ i : Nat, y.1 = .exit 0 ∧ y.2.1.marks = [] ∧ Ev.look y.2.1.vars 0 = some (.sl 0 g 0 n cl) ∧ Ev.look y.2.1.vars 2 = some (ii m) ∧ Ev.look y.2.1.vars 4 = some (.fn (.func qq) [] []) ∧ Ev.look y.2.1.vars 10 = some (ii i) ∧
   ∃ L' X' Y' N' : List Evt, y.2.2 = [.row 6 ((L' ++ (X' ++ (Y' ++ N'))).map Evt.r) g] ∧ i = X'.length ∧ i = Y'.length ∧ m = L'.length + X'.length ∧ L' ++ (Y' ++ (X' ++ N')) = L ++ (Y ++ (X ++ N))) ?_ (L ++ (X ++ (Y ++ N)), X.length, Y.length) ⟨L, X, Y, N, rfl, rfl, rfl, hX, hY, by omega, rfl⟩
 ·obtain ⟨⟨y, e, σ⟩, k1, i, k2, k3, k4, k5, k6, k7, L', X', Y', N', k8, k9, k10, k11, k12⟩ := key
  simp only at k1 k2 k3 k4 k5 k6 k7 k8
  subst k2; subst k8
  have hl2 := congrArg List.length k12
  simp only [zgp] at hl2
  have w1 : IntKind.i64.wrap ((m : Int) - (a : Int)) = (X.length : Int) := qfh hm (by omega)
  have w2 : IntKind.i64.wrap ((b : Int) - (m : Int)) = (Y.length : Int) := qfh hbb (by omega)
  have w3 : IntKind.i64.wrap ((m : Int) - (i : Int)) = (L'.length : Int) := qfh (by omega) (by omega)
  have sw := qr6 g cl n L' X' [] Y' N' (by omega) (by simp; omega) hb L'.length m rfl (by simp; omega)
  simp only [zgl] at sw
  rw [← k9, k12] at sw
  rw [qx qkv qkq]
  simp only [qdt, w1, w2, w3, k1, k3, k4, k5, k6, k7, sw, qv, qn, Ev.exec, qb, qe, qc, qd3, qai, Ev.evs, Ev.Opnd.ev, Ev.Env.get, Ev.Env.set, Ev.look, qo, qb8, qm, qaj, Ev.kill, qah, qr, Ev.keep, qad, qw, qd, Ev.SObj.lo, qa1, qba, qbn, qe3, qj, ↓qs, ↓qaq, ↓reduceIte, zga, zgb, zgc, zfe, Nat.reduceAdd, Nat.reduceEqDiff, reduceCtorEq, zgv, zfc, zgx, zfd, zgu, zgy]
 ·rintro ⟨D, i, j⟩ ⟨L', X', Y', N', hD, hi, hj, hX', hY', hm', heq⟩
  simp only at hD hi hj ⊢
  have hl2 := congrArg List.length heq
  simp only [zgp] at hl2
  by_cases hij : i = j
  ·right
   have h1 : (i : Int) = (j : Int) := by omega
   subst hij
   simp only [qcl, Ev.exec, qb, qe, qc, qai, Ev.Opnd.ev, Ev.Env.get, Ev.Env.set, Ev.look, qbx, ↓qs, Ev.it1, ↓reduceIte, Nat.reduceEqDiff, reduceCtorEq, zgw, zfa, ne_eq, not_true_eq_false, zgy]
   exact ⟨_, rfl, i, rfl, rfl, rfl, rfl, rfl, rfl, L', X', Y', N', by rw [hD], hi, hj, hm', heq⟩
  have h1 : ¬ (i : Int) = (j : Int) := by omega
  left
  by_cases hgt : j < i
  ·have h2 : (i : Int) > (j : Int) := by omega
   obtain ⟨X1, X2, rfl, hX1⟩ : ∃ X1 X2, X' = X1 ++ X2 ∧ X1.length = j := ⟨X'.take j, X'.drop j, (List.take_append_drop _ _).symm, by simp; omega⟩
   rw [List.length_append] at hi hX' hm' hl2
   have sw := qr6 g cl n L' X1 X2 Y' N' (by omega) (by simp; omega) hb L'.length m rfl (by omega)
   rw [show L' ++ (X1 ++ (X2 ++ (Y' ++ N'))) = D by rw [hD]; simp, hX1] at sw
   have w3 : IntKind.i64.wrap ((m : Int) - (i : Int)) = (L'.length : Int) := qfh (by omega) (by omega)
   have w4 : IntKind.i64.wrap ((i : Int) - (j : Int)) = (X2.length : Int) := qfh (by omega) (by omega)
   refine ⟨(L' ++ (Y' ++ (X2 ++ (X1 ++ N'))), X2.length, j), ?_, ⟨L' ++ Y', X2, X1, N', by simp, rfl, hX1.symm, by omega, by omega, by simp; omega, by rw [← heq]; simp⟩, by first | omega | (simp only; omega)⟩
   simp only [qcl, h1, h2, w3, w4, sw, qv, Ev.exec, qb, qe, qc, qd3, qai, Ev.evs, Ev.Opnd.ev, Ev.Env.get, Ev.Env.set, Ev.look, qb8, qbx, qas, qr, Ev.keep, qad, qw, qd, Ev.SObj.lo, qa1, qbn, qe3, qj, ↓qs, Ev.it1, ↓reduceIte, zgc, zfe, Nat.reduceEqDiff, reduceCtorEq, zgv, zfc, zgx, ne_eq, zfb, zgu, zgy]
  ·have h2 : ¬ (i : Int) > (j : Int) := by omega
   obtain ⟨Y1, Y2, rfl, hY2⟩ : ∃ Y1 Y2, Y' = Y1 ++ Y2 ∧ Y2.length = i := ⟨Y'.take (j - i), Y'.drop (j - i), (List.take_append_drop _ _).symm, by simp; omega⟩
   rw [List.length_append] at hj hY' hl2
   have sw := qr6 g cl n L' X' Y1 Y2 N' (by omega) (by simp; omega) hb L'.length (m + Y1.length) rfl (by omega)
   rw [show L' ++ (X' ++ (Y1 ++ (Y2 ++ N'))) = D by rw [hD]; simp, ← hi] at sw
   have w3 : IntKind.i64.wrap ((m : Int) - (i : Int)) = (L'.length : Int) := qfh (by omega) (by omega)
   have w4 : IntKind.i64.wrap ((m : Int) + (j : Int)) = ((m + j : Nat) : Int) := qke (by omega)
   have w5 : IntKind.i64.wrap (((m + j : Nat) : Int) - (i : Int)) = ((m + Y1.length : Nat) : Int) := qfh (by omega) (by omega)
   have w6 : IntKind.i64.wrap ((j : Int) - (i : Int)) = (Y1.length : Int) := qfh (by omega) (by omega)
   refine ⟨(L' ++ (Y2 ++ (Y1 ++ (X' ++ N'))), i, Y1.length), ?_, ⟨L', Y2, Y1, X' ++ N', rfl, hY2.symm, rfl, by omega, by omega, by omega, by rw [← heq]; simp⟩, by first | omega | (simp only; omega)⟩
   simp only [qcl, h1, h2, w3, w4, w5, w6, sw, qv, Ev.exec, qb, qe, qc, qd3, qai, Ev.evs, Ev.Opnd.ev, Ev.Env.get, Ev.Env.set, Ev.look, qaf, qb8, qbx, qas, qr, Ev.keep, qad, qw, qd, Ev.SObj.lo, qa1, qbn, qe3, qj, ↓qs, Ev.it1, ↓reduceIte, zgc, zfe, Nat.reduceEqDiff, reduceCtorEq, zgv, zgw, zfc, zfa, zgx, ne_eq, zfb, zgu, zgy]
end
open Go.Ev
set_option maxRecDepth 10000
theorem quw (s h : Nat) (hh : h = s / 2) : qmb .shr (.v (.int .u64 (s : Int))) (.v (.int .u64 1)) = some (.v (.int .u64 (h : Int))) := by
 subst hh
 show (if (1 : Int) < 0 then none else some (AV.v (.int .u64 ((s : Int).fdiv (2 ^ (min (1 : Int).toNat IntKind.u64.bits)))))) = _
 rw [if_neg (by omega), show (2 : Int) ^ (min (1 : Int).toNat IntKind.u64.bits) = 2 from rfl, Int.fdiv_eq_ediv_of_nonneg _ (by omega)]
 rw [show (s : Int) / 2 = ((s / 2 : Nat) : Int) by omega]
theorem qra {n : Nat} (h : n < 2 ^ 63) : IntKind.u64.wrap (n : Int) = (n : Int) := by
 have h3 : IntKind.u64.bits = 64 := rfl
 have h4 : IntKind.u64.signed = false := rfl
 simp only [IntKind.wrap, h3, h4, Bool.false_and, zfa, if_false]
 omega
theorem qrs {n : Nat} (h : n < 2 ^ 63) : IntKind.i64.wrap (n : Int) = (n : Int) := qaw (by omega) (by omega)
section
variable (g : Nat) (cl : Bool) (n : Nat)
theorem q51 (D : List Evt) (x : Evt) (hn : n = D.length) (hb : n < 2 ^ 61) (hk : qcr D) (a m b : Nat) (ha : D[a]? = some x) (hmb : m ≤ b) (hbn : b ≤ n) (han : a < n) :
  ∃ y, itB (exec (evL T) itL none qce) (qr [0, 1, 4, 10, 11] true 1) ⟨[(0, .sl 0 g 0 n cl), (1, (ii a)), (4, (.fn (.func qq) [] [])), (10, (ii m)), (11, (ii b))], []⟩ [.row 6 ((D).map Evt.r) g] = some y ∧
   ∃ i : Nat, y.1 = .exit 0 ∧ y.2.1.marks = [] ∧ y.2.2 = [.row 6 ((D).map Evt.r) g] ∧ Ev.look y.2.1.vars 0 = some (.sl 0 g 0 n cl) ∧ Ev.look y.2.1.vars 1 = some (ii a) ∧ Ev.look y.2.1.vars 10 = some (ii i) ∧ m ≤ i ∧ i ≤ b ∧ (i = m ∨ ∀ v, D[i - 1]? = some v → leE v x) ∧ (i = b ∨ ∀ v, D[i]? = some v → leE x v) := by
 refine qhb (τ := Nat × Nat) (fun s => ⟨[(0, .sl 0 g 0 n cl), (1, (ii a)), (4, (.fn (.func qq) [] [])), (10, (ii s.1)), (11, (ii s.2))], []⟩) (fun _ => [.row 6 ((D).map Evt.r) g]) (fun s => s.2 - s.1)
  (fun s => m ≤ s.1 ∧ s.1 ≤ s.2 ∧ s.2 ≤ b ∧ (s.1 = m ∨ ∀ v, D[s.1 - 1]? = some v → leE v x) ∧ (s.2 = b ∨ ∀ v, D[s.2]? = some v → leE x v)) _ ?_ (m, b) ⟨Nat.le_refl _, hmb, Nat.le_refl _, .inl rfl, .inl rfl⟩
 rintro ⟨i, j⟩ ⟨h1, h2, h3, h4, h5⟩
 simp only at h1 h2 h3 h4 h5 ⊢
 by_cases hij : i < j
 case neg =>
  have c1 : ¬ (i : Int) < (j : Int) := by omega
  right
  simp only [qce, c1, Ev.exec, qb, qe, qc, qai, Ev.Opnd.ev, Ev.Env.get, Ev.Env.set, Ev.look, ql, ↓qs, Ev.it1, ↓reduceIte, Nat.reduceEqDiff, reduceCtorEq, zgw, zfa, zgy]
  refine ⟨_, rfl, i, rfl, rfl, rfl, rfl, rfl, rfl, h1, by omega, h4, ?_⟩
  obtain rfl : i = j := by omega
  exact h5
 obtain ⟨h, hh⟩ : ∃ h, h = (i + j) / 2 := ⟨_, rfl⟩
 have c1 : (i : Int) < (j : Int) := by omega
 obtain ⟨y, hy⟩ : ∃ y, D[h]? = some y := ⟨_, List.getElem?_eq_getElem (by omega)⟩
 have w1 : IntKind.i64.wrap ((i : Int) + (j : Int)) = ((i + j : Nat) : Int) := qke (by omega)
 have w2 : IntKind.u64.wrap ((i + j : Nat) : Int) = ((i + j : Nat) : Int) := qra (by omega)
 have w3 := quw (i + j) h hh
 have w4 : IntKind.i64.wrap (h : Int) = (h : Int) := qrs (by omega)
 have w5 : IntKind.i64.wrap ((h : Int) + 1) = ((h + 1 : Nat) : Int) := ql7 (by omega)
 have rh : h < n := by omega
 have kx : x.key.length ≤ 9223372036854775807 := hk x (List.mem_of_getElem? ha)
 have ky : y.key.length ≤ 9223372036854775807 := hk y (List.mem_of_getElem? hy)
 have hc := qkn y x ky kx 6 (D.map Evt.r) g
 left
 by_cases hlt : qoa y x < 0
 ·refine ⟨(h + 1, j), ?_, ⟨by simp only; omega, by simp only; omega, h3, .inr fun v hv => ?_, h5⟩, by simp only; omega⟩
  ·obtain ⟨xt, xk, xl, xi, xp, xa⟩ := x
   obtain ⟨yt, yk, yl, yi, yp, ya⟩ := y
   simp only at hc
   simp only [qce, zgs, zgr, zgq, zgt, ha, hy, c1, w1, w2, w3, w4, w5, rh, han, hc, hlt, Evt.r, qv, Ev.exec, qb, qe, qc, qk8, qai, Ev.evs, Ev.Opnd.ev, Ev.Env.get, Ev.Env.set, Ev.look, qk, qae, qaf, ql, qr, Ev.keep, qad, qw, qd, Ev.SObj.lo, qa1, qbn, qe3, qj, ↓qs, Ev.it1, ↓reduceIte, zga, zgb, zgd, zgc, zfe, zgg, zgl, zgn, Nat.reduceAdd, Nat.reduceEqDiff, reduceCtorEq, zgv, zfc, zgx, zfd, zgu, Nat.le_refl, zgy]
  ·simp only [Nat.add_sub_cancel] at hv
   rw [hy] at hv; cases hv; exact q05 y x hlt
 ·refine ⟨(i, h), ?_, ⟨h1, by simp only; omega, by simp only; omega, h4, .inr fun v hv => ?_⟩, by simp only; omega⟩
  ·obtain ⟨xt, xk, xl, xi, xp, xa⟩ := x
   obtain ⟨yt, yk, yl, yi, yp, ya⟩ := y
   simp only at hc
   simp only [qce, zgs, zgr, zgq, zgt, ha, hy, c1, w1, w2, w3, w4, rh, han, hc, hlt, Evt.r, qv, Ev.exec, qb, qe, qc, qk8, qai, Ev.evs, Ev.Opnd.ev, Ev.Env.get, Ev.Env.set, Ev.look, qk, qae, qaf, ql, qr, Ev.keep, qad, qw, qd, Ev.SObj.lo, qa1, qbn, qe3, qj, ↓qs, Ev.it1, ↓reduceIte, zga, zgb, zgd, zgc, zfe, zgg, zgl, zgn, Nat.reduceAdd, Nat.reduceEqDiff, reduceCtorEq, zgv, zgw, zfc, zfa, zgx, zfd, zgu, Nat.le_refl, zgy]
  ·simp only at hv
   rw [hy] at hv; cases hv; exact qpu y x hlt
theorem q6r (D : List Evt) (x : Evt) (hn : n = D.length) (hb : n < 2 ^ 61) (hk : qcr D) (a m : Nat) (hm : D[m]? = some x) (ham : a ≤ m) (hmn : m < n) :
  ∃ y, itB (exec (evL T) itL none qcd) (qr [0, 2, 4, 14, 15] true 1) ⟨[(0, .sl 0 g 0 n cl), (2, (ii m)), (4, (.fn (.func qq) [] [])), (14, (ii a)), (15, (ii m))], []⟩ [.row 6 ((D).map Evt.r) g] = some y ∧
   ∃ i : Nat, y.1 = .exit 4 ∧ y.2.1.marks = [] ∧ y.2.2 = [.row 6 ((D).map Evt.r) g] ∧ Ev.look y.2.1.vars 0 = some (.sl 0 g 0 n cl) ∧ Ev.look y.2.1.vars 2 = some (ii m) ∧ Ev.look y.2.1.vars 14 = some (ii i) ∧ a ≤ i ∧ i ≤ m ∧ (i = a ∨ ∀ v, D[i - 1]? = some v → leE v x) ∧ (i = m ∨ ∀ v, D[i]? = some v → leE x v) := by
 refine qhb (τ := Nat × Nat) (fun s => ⟨[(0, .sl 0 g 0 n cl), (2, (ii m)), (4, (.fn (.func qq) [] [])), (14, (ii s.1)), (15, (ii s.2))], []⟩) (fun _ => [.row 6 ((D).map Evt.r) g]) (fun s => s.2 - s.1)
  (fun s => a ≤ s.1 ∧ s.1 ≤ s.2 ∧ s.2 ≤ m ∧ (s.1 = a ∨ ∀ v, D[s.1 - 1]? = some v → leE v x) ∧ (s.2 = m ∨ ∀ v, D[s.2]? = some v → leE x v)) _ ?_ (a, m) ⟨Nat.le_refl _, ham, Nat.le_refl _, .inl rfl, .inl rfl⟩
 rintro ⟨i, j⟩ ⟨h1, h2, h3, h4, h5⟩
 simp only at h1 h2 h3 h4 h5 ⊢
 by_cases hij : i < j
 case neg =>
  have c1 : ¬ (i : Int) < (j : Int) := by omega
  right
  simp only [qcd, c1, Ev.exec, qb, qe, qc, qai, Ev.Opnd.ev, Ev.Env.get, Ev.Env.set, Ev.look, ql, ↓qs, Ev.it1, ↓reduceIte, Nat.reduceEqDiff, reduceCtorEq, zgw, zfa, zgy]
  refine ⟨_, rfl, i, rfl, rfl, rfl, rfl, rfl, rfl, h1, by omega, h4, ?_⟩
  obtain rfl : i = j := by omega
  exact h5
 obtain ⟨h, hh⟩ : ∃ h, h = (i + j) / 2 := ⟨_, rfl⟩
 have c1 : (i : Int) < (j : Int) := by omega
 obtain ⟨y, hy⟩ : ∃ y, D[h]? = some y := ⟨_, List.getElem?_eq_getElem (by omega)⟩
 have w1 : IntKind.i64.wrap ((i : Int) + (j : Int)) = ((i + j : Nat) : Int) := qke (by omega)
 have w2 : IntKind.u64.wrap ((i + j : Nat) : Int) = ((i + j : Nat) : Int) := qra (by omega)
 have w3 := quw (i + j) h hh
 have w4 : IntKind.i64.wrap (h : Int) = (h : Int) := qrs (by omega)
 have w5 : IntKind.i64.wrap ((h : Int) + 1) = ((h + 1 : Nat) : Int) := ql7 (by omega)
 have rh : h < n := by omega
 have kx : x.key.length ≤ 9223372036854775807 := hk x (List.mem_of_getElem? hm)
 have ky : y.key.length ≤ 9223372036854775807 := hk y (List.mem_of_getElem? hy)
 have hc := qkn x y kx ky 6 (D.map Evt.r) g
 left
 by_cases hlt : qoa x y < 0
 ·refine ⟨(i, h), ?_, ⟨h1, by simp only; omega, by simp only; omega, h4, .inr fun v hv => ?_⟩, by simp only; omega⟩
  ·obtain ⟨xt, xk, xl, xi, xp, xa⟩ := x
   obtain ⟨yt, yk, yl, yi, yp, ya⟩ := y
   simp only at hc
   simp only [qcd, zgs, zgr, zgq, zgt, hm, hy, c1, w1, w2, w3, w4, rh, hmn, hc, hlt, Evt.r, qv, Ev.exec, qb, qe, qc, qk8, qai, Ev.evs, Ev.Opnd.ev, Ev.Env.get, Ev.Env.set, Ev.look, qk, qae, qaf, ql, qr, Ev.keep, qad, qw, qd, Ev.SObj.lo, qa1, qbn, qe3, qj, ↓qs, Ev.it1, ↓reduceIte, zga, zgb, zgd, zgc, zfe, zgg, zgl, zgn, Nat.reduceAdd, Nat.reduceEqDiff, reduceCtorEq, zgv, zfc, Bool.not_true, zfa, zgx, zfd, zgu, Nat.le_refl, zgy]
  ·simp only at hv
   rw [hy] at hv; cases hv; exact q05 x y hlt
 ·refine ⟨(h + 1, j), ?_, ⟨by simp only; omega, by simp only; omega, h3, .inr fun v hv => ?_, h5⟩, by simp only; omega⟩
  ·obtain ⟨xt, xk, xl, xi, xp, xa⟩ := x
   obtain ⟨yt, yk, yl, yi, yp, ya⟩ := y
   simp only at hc
   simp only [qcd, zgs, zgr, zgq, zgt, hm, hy, c1, w1, w2, w3, w4, w5, rh, hmn, hc, hlt, Evt.r, qv, Ev.exec, qb, qe, qc, qk8, qai, Ev.evs, Ev.Opnd.ev, Ev.Env.get, Ev.Env.set, Ev.look, qk, qae, qaf, ql, qr, Ev.keep, qad, qw, qd, Ev.SObj.lo, qa1, qbn, qe3, qj, ↓qs, Ev.it1, ↓reduceIte, zga, zgb, zgd, zgc, zfe, zgg, zgl, zgn, Nat.reduceAdd, Nat.reduceEqDiff, reduceCtorEq, zgv, zgw, zfc, Bool.not_false, zgx, zfd, zgu, Nat.le_refl, zgy]
  ·simp only [Nat.add_sub_cancel] at hv
   rw [hy] at hv; cases hv; exact qpu x y hlt
theorem q53 (D : List Evt) (hn : n = D.length) (hb : n < 2 ^ 61) (hk : qcr D) (a m b mid nn p lo hi : Nat) (hp : nn = p + 1) (hlh : lo ≤ hi) (hdom : ∀ c, lo ≤ c → c < hi → c < n ∧ c ≤ p ∧ p - c < n) (hnn : nn < 2 ^ 62) (hhn : hi ≤ n) :
  ∃ y, itB (exec (evL T) itL none qbk) (qr [0, 1, 2, 3, 4, 18, 19, 20, 21, 22] true 1) ⟨[(0, .sl 0 g 0 n cl), (1, (ii a)), (2, (ii m)), (3, (ii b)), (4, (.fn (.func qq) [] [])), (18, (ii mid)), (19, (ii nn)), (20, (ii lo)), (21, (ii hi)), (22, (ii p))], []⟩ [.row 6 ((D).map Evt.r) g] = some y ∧
   ∃ i : Nat, y.1 = .exit 8 ∧ y.2.1.marks = [] ∧ y.2.2 = [.row 6 ((D).map Evt.r) g] ∧ Ev.look y.2.1.vars 0 = some (.sl 0 g 0 n cl) ∧ Ev.look y.2.1.vars 1 = some (ii a) ∧ Ev.look y.2.1.vars 2 = some (ii m) ∧ Ev.look y.2.1.vars 3 = some (ii b) ∧ Ev.look y.2.1.vars 4 = some (.fn (.func qq) [] []) ∧ Ev.look y.2.1.vars 18 = some (ii mid) ∧
    Ev.look y.2.1.vars 19 = some (ii nn) ∧ Ev.look y.2.1.vars 20 = some (ii i) ∧ lo ≤ i ∧ i ≤ hi ∧ (i = lo ∨ ∀ u v, D[i - 1]? = some u → D[p - (i - 1)]? = some v → leE u v) ∧ (i = hi ∨ ∀ u v, D[p - i]? = some u → D[i]? = some v → leE u v) := by
 refine qhb (τ := Nat × Nat) (fun s => ⟨[(0, .sl 0 g 0 n cl), (1, (ii a)), (2, (ii m)), (3, (ii b)), (4, (.fn (.func qq) [] [])), (18, (ii mid)), (19, (ii nn)), (20, (ii s.1)), (21, (ii s.2)), (22, (ii p))], []⟩) (fun _ => [.row 6 ((D).map Evt.r) g]) (fun s => s.2 - s.1)
  (fun s => lo ≤ s.1 ∧ s.1 ≤ s.2 ∧ s.2 ≤ hi ∧ (s.1 = lo ∨ ∀ u v, D[s.1 - 1]? = some u → D[p - (s.1 - 1)]? = some v → leE u v) ∧ (s.2 = hi ∨ ∀ u v, D[p - s.2]? = some u → D[s.2]? = some v → leE u v)) _ ?_ (lo, hi) ⟨Nat.le_refl _, hlh, Nat.le_refl _, .inl rfl, .inl rfl⟩
 rintro ⟨i, j⟩ ⟨h1, h2, h3, h4, h5⟩
 simp only at h1 h2 h3 h4 h5 ⊢
 by_cases hij : i < j
 case neg =>
  have c1 : ¬ (i : Int) < (j : Int) := by omega
  right
  simp only [qbk, c1, Ev.exec, qb, qe, qc, qai, Ev.Opnd.ev, Ev.Env.get, Ev.Env.set, Ev.look, ql, ↓qs, Ev.it1, ↓reduceIte, Nat.reduceEqDiff, reduceCtorEq, zgw, zfa, zgy]
  refine ⟨_, rfl, i, rfl, rfl, rfl, rfl, rfl, rfl, rfl, rfl, rfl, rfl, rfl, h1, by omega, h4, ?_⟩
  obtain rfl : i = j := by omega
  exact h5
 obtain ⟨h, hh⟩ : ∃ h, h = (i + j) / 2 := ⟨_, rfl⟩
 have c1 : (i : Int) < (j : Int) := by omega
 obtain ⟨d1, d2, d3⟩ := hdom h (by omega) (by omega)
 obtain ⟨q, hq⟩ : ∃ q, q = p - h := ⟨_, rfl⟩
 obtain ⟨y, hy⟩ : ∃ y, D[h]? = some y := ⟨_, List.getElem?_eq_getElem (by omega)⟩
 obtain ⟨x, hx⟩ : ∃ x, D[q]? = some x := ⟨_, List.getElem?_eq_getElem (by omega)⟩
 have w1 : IntKind.i64.wrap ((i : Int) + (j : Int)) = ((i + j : Nat) : Int) := qke (by omega)
 have w2 : IntKind.u64.wrap ((i + j : Nat) : Int) = ((i + j : Nat) : Int) := qra (by omega)
 have w3 := quw (i + j) h hh
 have w4 : IntKind.i64.wrap (h : Int) = (h : Int) := qrs (by omega)
 have w5 : IntKind.i64.wrap ((h : Int) + 1) = ((h + 1 : Nat) : Int) := ql7 (by omega)
 have w6 : IntKind.i64.wrap ((p : Int) - (h : Int)) = (q : Int) := qfh (by omega) (by omega)
 have rq : q < n := by omega
 have kx : x.key.length ≤ 9223372036854775807 := hk x (List.mem_of_getElem? hx)
 have ky : y.key.length ≤ 9223372036854775807 := hk y (List.mem_of_getElem? hy)
 have hc := qkn x y kx ky 6 (D.map Evt.r) g
 left
 by_cases hlt : qoa x y < 0
 ·refine ⟨(i, h), ?_, ⟨h1, by simp only; omega, by simp only; omega, h4, .inr fun u v hu hv => ?_⟩, by simp only; omega⟩
  ·obtain ⟨xt, xk, xl, xi, xp, xa⟩ := x
   obtain ⟨yt, yk, yl, yi, yp, ya⟩ := y
   simp only at hc
   simp only [qbk, zgs, zgr, zgq, zgt, hx, hy, c1, w1, w2, w3, w4, w6, d1, rq, hc, hlt, Evt.r, qv, Ev.exec, qb, qe, qc, qk8, qai, Ev.evs, Ev.Opnd.ev, Ev.Env.get, Ev.Env.set, Ev.look, qk, qae, qaf, qb8, ql, qr, Ev.keep, qad, qw, qd, Ev.SObj.lo, qa1, qbn, qe3, qj, ↓qs, Ev.it1, ↓reduceIte, zga, zgb, zgd, zgc, zfe, zgg, zgl, zgn, Nat.reduceAdd, Nat.reduceEqDiff, reduceCtorEq, zgv, zfc, Bool.not_true, zfa, zgx, zfd, zgu, Nat.le_refl, zgy]
  ·simp only at hu hv
   rw [← hq, hx] at hu; cases hu
   rw [hy] at hv; cases hv; exact q05 x y hlt
 ·refine ⟨(h + 1, j), ?_, ⟨by simp only; omega, by simp only; omega, h3, .inr fun u v hu hv => ?_, h5⟩, by simp only; omega⟩
  ·obtain ⟨xt, xk, xl, xi, xp, xa⟩ := x
   obtain ⟨yt, yk, yl, yi, yp, ya⟩ := y
   simp only at hc
   simp only [qbk, zgs, zgr, zgq, zgt, hx, hy, c1, w1, w2, w3, w4, w5, w6, d1, rq, hc, hlt, Evt.r, qv, Ev.exec, qb, qe, qc, qk8, qai, Ev.evs, Ev.Opnd.ev, Ev.Env.get, Ev.Env.set, Ev.look, qk, qae, qaf, qb8, ql, qr, Ev.keep, qad, qw, qd, Ev.SObj.lo, qa1, qbn, qe3, qj, ↓qs, Ev.it1, ↓reduceIte, zga, zgb, zgd, zgc, zfe, zgg, zgl, zgn, Nat.reduceAdd, Nat.reduceEqDiff, reduceCtorEq, zgv, zgw, zfc, Bool.not_false, zgx, zfd, zgu, Nat.le_refl, zgy]
  ·simp only [Nat.add_sub_cancel] at hu hv
   rw [← hq, hx] at hv; cases hv
   rw [hy] at hu; cases hu; exact qpu x y hlt
end
open Go.Ev
set_option maxRecDepth 10000
section
variable (g : Nat) (cl : Bool) (n : Nat)
theorem q59 (P S Q : List Evt) (x : Evt) (hn : n = (P ++ x :: (S ++ Q)).length) (hb : n < 2 ^ 61) (a i : Nat) (ha : a = P.length) (hi : i = a + S.length + 1) :
  ∃ y, itB (exec (evL T) itL none qc6) (qr [0, 10, 13] true 1) ⟨[(0, .sl 0 g 0 n cl), (10, (ii i)), (13, (ii a))], []⟩ [.row 6 ((P ++ x :: (S ++ Q)).map Evt.r) g] = some y ∧
   (y.1 = .exit 2 ∧ y.2.1.marks = [] ∧ y.2.2 = [.row 6 ((P ++ (S ++ x :: Q)).map Evt.r) g]) := by
 refine qhb (τ := List Evt × Nat) (fun s => ⟨[(0, .sl 0 g 0 n cl), (10, (ii i)), (13, (ii s.2))], []⟩) (fun s => [.row 6 ((s.1).map Evt.r) g]) (fun s => i - s.2)
  (fun s => ∃ A B, s.1 = P ++ (A ++ x :: (B ++ Q)) ∧ s.2 = a + A.length ∧ A ++ B = S) _ ?_ (P ++ x :: (S ++ Q), a) ⟨[], S, by simp, rfl, by simp⟩
 rintro ⟨D, k⟩ ⟨A, B, hD, hk, hAB⟩
 simp only at hD hk ⊢
 have hlen : n = P.length + (S.length + (Q.length + 1)) := by rw [hn]; simp; omega
 have hSl : S.length = A.length + B.length := by rw [← hAB]; simp
 obtain ⟨i', hi'⟩ : ∃ i', i' = a + S.length := ⟨_, rfl⟩
 have w1 : IntKind.i64.wrap ((i : Int) - 1) = (i' : Int) := qqj (by omega) (by omega)
 cases B with
 | nil =>
  have h1 : ¬ (k : Int) < (i' : Int) := by simp at hSl; omega
  right
  simp only [qc6, w1, h1, Ev.exec, qb, qe, qc, qai, Ev.Opnd.ev, Ev.Env.get, Ev.Env.set, Ev.look, qb8, ql, ↓qs, Ev.it1, ↓reduceIte, Nat.reduceEqDiff, reduceCtorEq, zgw, zfa, zgy]
  refine ⟨_, rfl, rfl, rfl, ?_⟩
  rw [hD, ← hAB]; simp
 | cons y B =>
  rw [List.length_cons] at hSl
  have h1 : (k : Int) < (i' : Int) := by omega
  have e1 : D = (P ++ A) ++ x :: y :: (B ++ Q) := by rw [hD]; simp
  have l1 : k = (P ++ A).length := by simp; omega
  obtain ⟨j, hj⟩ : ∃ j, j = k + 1 := ⟨_, rfl⟩
  have gx : D[k]? = some x := qpm e1 l1
  have gy : D[j]? = some y := qpm (L := P ++ A ++ [x]) (M := B ++ Q) (by rw [e1]; simp) (by simp; omega)
  have ge : D.length = n := by rw [e1, hlen]; simp; omega
  have w2 : IntKind.i64.wrap ((k : Int) + 1) = (j : Int) := by rw [hj]; exact ql7 (by omega)
  have rj : j < n := by omega
  have rk : k < n := by omega
  have sw := q79 e1 l1 hj
  have hne : ¬ (k = j) := by omega
  left
  have hlo := qv 1 ((D.set k y).set j x)
  refine ⟨((D.set k y).set j x, j), ?_, ⟨A ++ [y], B, by rw [sw]; simp, by simp; omega, by rw [← hAB]; simp⟩, by simp only; omega⟩
  obtain ⟨xt, xk, xl, xi, xp, xa⟩ := x
  obtain ⟨yt, yk, yl, yi, yp, ya⟩ := y
  have hs : ∀ v, ((D.map Evt.r).set k v)[j]? = some (Evt.r ⟨yt, yk, yl, yi, yp, ya⟩) := fun v => by rw [List.getElem?_set_ne hne, List.getElem?_map, gy]; rfl
  simp only [List.map_set, Evt.r] at hlo
  simp only [qc6, zgs, zgr, zgq, zgt, gx, gy, hs, h1, w1, w2, rj, rk, hlo, List.map_set, Evt.r, Ev.exec, qb, qe, qc, qai, Ev.Opnd.ev, Ev.Env.get, Ev.Env.set, Ev.look, qk, qae, Ev.AV.cells, qy, Ev.AV.plain, qaf, qb8, ql, qr, Ev.keep, qad, qw, qd, Ev.SObj.lo, qa1, qbn, ↓qs, Ev.it1, ↓reduceIte, zga, zgb, zgd, zgc, zgo, zfe, zgf, zgg, List.drop_nil, zgl, zgn, zgj, Nat.reduceAdd, Nat.reduceEqDiff, reduceCtorEq, zgv, zfc, zgx, zfd, zgu, Nat.le_refl, zgy]
theorem q6l (P S Q : List Evt) (x : Evt) (hn : n = (P ++ (S ++ x :: Q)).length) (hb : n < 2 ^ 61) (m i : Nat) (hi : i = P.length) (hm : m = i + S.length) :
  ∃ y, itB (exec (evL T) itL none qc5) (qr [0, 14, 17] true 1) ⟨[(0, .sl 0 g 0 n cl), (14, (ii i)), (17, (ii m))], []⟩ [.row 6 ((P ++ (S ++ x :: Q)).map Evt.r) g] = some y ∧
   (y.1 = .exit 6 ∧ y.2.1.marks = [] ∧ y.2.2 = [.row 6 ((P ++ x :: (S ++ Q)).map Evt.r) g]) := by
 refine qhb (τ := List Evt × Nat) (fun s => ⟨[(0, .sl 0 g 0 n cl), (14, (ii i)), (17, (ii s.2))], []⟩) (fun s => [.row 6 ((s.1).map Evt.r) g]) (fun s => s.2)
  (fun s => ∃ A B, s.1 = P ++ (A ++ x :: (B ++ Q)) ∧ s.2 = i + A.length ∧ A ++ B = S) _ ?_ (P ++ (S ++ x :: Q), m) ⟨S, [], by simp, hm, by simp⟩
 rintro ⟨D, j⟩ ⟨A, B, hD, hj, hAB⟩
 simp only at hD hj ⊢
 have hlen : n = P.length + (S.length + (Q.length + 1)) := by rw [hn]; simp
 have hSl : S.length = A.length + B.length := by rw [← hAB]; simp
 rcases List.eq_nil_or_concat A with rfl | ⟨A0, y, rfl⟩
 ·have h1 : ¬ (j : Int) > (i : Int) := by simp at hj; omega
  right
  simp only [qc5, h1, Ev.exec, qb, qe, qc, qai, Ev.Opnd.ev, Ev.Env.get, Ev.Env.set, Ev.look, qas, ↓qs, Ev.it1, ↓reduceIte, Nat.reduceEqDiff, reduceCtorEq, zgw, zfa, zgy]
  refine ⟨_, rfl, rfl, rfl, ?_⟩
  rw [hD, ← hAB]; simp
 ·simp only [List.concat_eq_append, zgp, zga, zgb] at hD hj hSl hAB
  obtain ⟨k, hk1⟩ : ∃ k, k = i + A0.length := ⟨_, rfl⟩
  have hjk : j = k + 1 := by omega
  have h1 : (j : Int) > (i : Int) := by omega
  have e1 : D = (P ++ A0) ++ y :: x :: (B ++ Q) := by rw [hD]; simp
  have l1 : k = (P ++ A0).length := by simp; omega
  have gy : D[k]? = some y := qpm e1 l1
  have gx : D[j]? = some x := qpm (L := P ++ A0 ++ [y]) (M := B ++ Q) (by rw [e1]; simp) (by simp; omega)
  have ge : D.length = n := by rw [e1, hlen]; simp; omega
  have ws : IntKind.i64.wrap ((j : Int) - 1) = (k : Int) := qqj hjk (by omega)
  have rj : j < n := by omega
  have rk : k < n := by omega
  have sw := q5j e1 l1 hjk
  have hne : ¬ (j = k) := by omega
  left
  have hlo := qv 1 ((D.set j y).set k x)
  refine ⟨((D.set j y).set k x, k), ?_, ⟨A0, y :: B, by rw [sw]; simp, hk1, by rw [← hAB]; simp⟩, by simp only; omega⟩
  obtain ⟨xt, xk, xl, xi, xp, xa⟩ := x
  obtain ⟨yt, yk, yl, yi, yp, ya⟩ := y
  have hs : ∀ v, ((D.map Evt.r).set j v)[k]? = some (Evt.r ⟨yt, yk, yl, yi, yp, ya⟩) := fun v => by rw [List.getElem?_set_ne hne, List.getElem?_map, gy]; rfl
  simp only [List.map_set, Evt.r] at hlo
  simp only [qc5, zgs, zgr, zgq, zgt, gx, gy, hs, h1, ws, rj, rk, hlo, List.map_set, Evt.r, Ev.exec, qb, qe, qc, qai, Ev.Opnd.ev, Ev.Env.get, Ev.Env.set, Ev.look, qk, qae, Ev.AV.cells, qy, Ev.AV.plain, qb8, qas, qr, Ev.keep, qad, qw, qd, Ev.SObj.lo, qa1, qbn, ↓qs, Ev.it1, ↓reduceIte, zga, zgb, zgd, zgc, zgo, zfe, zgf, zgg, List.drop_nil, zgl, zgn, zgj, Nat.reduceAdd, Nat.reduceEqDiff, reduceCtorEq, zgv, zfc, zgx, zfd, zgu, Nat.le_refl, zgy]
theorem qcr.perm {D E : List Evt} (h : qcr D) (p : E.Perm D) : qcr E := fun x hx => h x (p.mem_iff.1 hx)
theorem q9k (P Y Q : List Evt) (x : Evt) (hY : Y.Pairwise leE) (hY0 : 0 < Y.length) (hn : n = (P ++ x :: (Y ++ Q)).length) (hb : n < 2 ^ 61) (hk : qcr (P ++ x :: (Y ++ Q))) (a m b : Nat) (ha : a = P.length) (hm : m = a + 1) (hbb : b = m + Y.length) :
  ∃ Z : List Evt, Z.Perm (x :: Y) ∧ Z.Pairwise leE ∧ (evL T).call qat [.sl 0 g 0 n cl, (ii a), (ii m), (ii b), (.fn (.func qq) [] [])] [.row 6 ((P ++ x :: (Y ++ Q)).map Evt.r) g] = some (.tup [], [.row 6 ((P ++ (Z ++ Q)).map Evt.r) g]) := by
 have hlen : n = P.length + (1 + (Y.length + Q.length)) := by rw [hn]; simp; omega
 obtain ⟨⟨y, e, σ⟩, k1, i, k2, k3, k4, k5, k6, k7, k8, k9, k10, k11⟩ := q51 g cl n (P ++ x :: (Y ++ Q)) x hn hb hk a m b (qpm rfl ha) (by omega) (by omega) (by omega)
 simp only at k1 k2 k3 k4 k5 k6 k7
 subst k2; subst k4
 obtain ⟨Y1, Y2, rfl, hY1⟩ : ∃ Y1 Y2, Y = Y1 ++ Y2 ∧ Y1.length = i - m := ⟨Y.take (i - m), Y.drop (i - m), (List.take_append_drop _ _).symm, by simp; omega⟩
 rw [List.length_append] at hbb hlen hY0
 obtain ⟨⟨y', e', σ'⟩, l1, l2, l3, l4⟩ := q59 g cl n P Y1 (Y2 ++ Q) x (by rw [hlen]; simp; omega) hb a i ha (by omega)
 simp only at l1 l2 l3 l4
 subst l2; subst l4
 rw [List.append_assoc] at hk
 refine ⟨Y1 ++ x :: Y2, List.perm_middle, qms qk0 hY ?_ ?_, ?_⟩
 ·intro u hu
  rcases k10 with h | h
  ·rw [show Y1 = [] from List.eq_nil_of_length_eq_zero (by omega)] at hu; simp at hu
  ·have hlt : Y1.length - 1 < Y1.length := (List.getElem?_eq_some_iff.1 hu).1
   refine h u ?_
   rw [← hu]
   exact qwz (L := P ++ [x]) (X := Y1) (M := Y2 ++ Q) (by simp) hlt (by simp; omega)
 ·intro v hv
  rcases k11 with h | h
  ·rw [show Y2 = [] from List.eq_nil_of_length_eq_zero (by omega)] at hv; simp at hv
  ·have hlt : 0 < Y2.length := (List.getElem?_eq_some_iff.1 hv).1
   refine h v ?_
   rw [← hv]
   exact qwz (L := P ++ x :: Y1) (X := Y2) (M := Q) (by simp) hlt (by simp; omega)
 ·have c1 : (m : Int) - (a : Int) = 1 := by omega
  have w1 : IntKind.i64.wrap ((m : Int) - (a : Int)) = 1 := by rw [c1]; exact qaw (by omega) (by omega)
  rw [List.append_assoc] at k1 ⊢
  rw [qx qi qf]
  simp only [List.append_assoc, zgm]
  simp only [qg, w1, k1, k3, k5, k6, k7, l1, l3, qv, qn, Ev.exec, qb, qe, qc, qai, Ev.Opnd.ev, Ev.Env.get, Ev.Env.set, Ev.look, qo, qb8, qam, qm, qaj, Ev.kill, qah, qr, Ev.keep, qad, qw, qd, Ev.SObj.lo, qa1, qba, qbn, qe3, qj, ↓qs, ↓qaq, ↓reduceIte, zga, zgb, zgc, zfe, Nat.reduceAdd, Nat.reduceEqDiff, reduceCtorEq, zgv, zfc, zgx, zfd, zgu, zgy]
theorem q73 (P X Q : List Evt) (x : Evt) (hX : X.Pairwise leE) (hX0 : 1 < X.length) (hn : n = (P ++ (X ++ x :: Q)).length) (hb : n < 2 ^ 61) (hk : qcr (P ++ (X ++ x :: Q))) (a m b : Nat) (ha : a = P.length) (hm : m = a + X.length) (hbb : b = m + 1) :
  ∃ Z : List Evt, Z.Perm (X ++ [x]) ∧ Z.Pairwise leE ∧ (evL T).call qat [.sl 0 g 0 n cl, (ii a), (ii m), (ii b), (.fn (.func qq) [] [])] [.row 6 ((P ++ (X ++ x :: Q)).map Evt.r) g] = some (.tup [], [.row 6 ((P ++ (Z ++ Q)).map Evt.r) g]) := by
 have hlen : n = P.length + (X.length + (Q.length + 1)) := by rw [hn]; simp
 obtain ⟨⟨y, e, σ⟩, k1, i, k2, k3, k4, k5, k6, k7, k8, k9, k10, k11⟩ := q6r g cl n (P ++ (X ++ x :: Q)) x hn hb hk a m (qpm (L := P ++ X) (M := Q) (by simp) (by simp; omega)) (by omega) (by omega)
 simp only at k1 k2 k3 k4 k5 k6 k7
 subst k2; subst k4
 obtain ⟨X1, X2, rfl, hX1⟩ : ∃ X1 X2, X = X1 ++ X2 ∧ X1.length = i - a := ⟨X.take (i - a), X.drop (i - a), (List.take_append_drop _ _).symm, by simp; omega⟩
 rw [List.length_append] at hm hlen hX0
 obtain ⟨⟨y', e', σ'⟩, l1, l2, l3, l4⟩ := q6l g cl n (P ++ X1) X2 Q x (by rw [hlen]; simp; omega) hb m i (by simp; omega) (by omega)
 simp only at l1 l2 l3 l4
 subst l2; subst l4
 refine ⟨X1 ++ x :: X2, ?_, qms qk0 hX ?_ ?_, ?_⟩
 ·rw [List.append_assoc]
  exact List.Perm.append_left X1 (List.perm_append_singleton x X2).symm
 ·intro u hu
  rcases k10 with h | h
  ·rw [show X1 = [] from List.eq_nil_of_length_eq_zero (by omega)] at hu; simp at hu
  ·have hlt : X1.length - 1 < X1.length := (List.getElem?_eq_some_iff.1 hu).1
   refine h u ?_
   rw [← hu]
   exact qwz (L := P) (X := X1) (M := X2 ++ x :: Q) (by simp) hlt (by omega)
 ·intro v hv
  rcases k11 with h | h
  ·rw [show X2 = [] from List.eq_nil_of_length_eq_zero (by omega)] at hv; simp at hv
  ·have hlt : 0 < X2.length := (List.getElem?_eq_some_iff.1 hv).1
   refine h v ?_
   rw [← hv]
   exact qwz (L := P ++ X1) (X := X2) (M := x :: Q) (by simp) hlt (by simp; omega)
 ·have w1 : IntKind.i64.wrap ((m : Int) - (a : Int)) = ((X1.length + X2.length : Nat) : Int) := qfh hm (by omega)
  have h1 : ¬ ((X1.length + X2.length : Nat) : Int) = 1 := by omega
  have w2 : IntKind.i64.wrap ((b : Int) - (m : Int)) = 1 := by rw [show (b : Int) - (m : Int) = 1 by omega]; exact qaw (by omega) (by omega)
  rw [qx qi qf]
  simp only [List.append_assoc, zgm] at k1 l1 ⊢
  simp only [qg, w1, w2, h1, k1, k3, k5, k6, k7, l1, l3, qv, qn, Ev.exec, qb, qe, qc, qai, Ev.Opnd.ev, Ev.Env.get, Ev.Env.set, Ev.look, qo, qb8, qam, qm, qaj, Ev.kill, qah, qr, Ev.keep, qad, qw, qd, Ev.SObj.lo, qa1, qba, qbn, qe3, qj, ↓qs, ↓qaq, ↓reduceIte, zga, zgb, zgc, zfe, Nat.reduceAdd, Nat.reduceEqDiff, reduceCtorEq, zgv, zgw, zfc, zfa, zgx, zfd, zgu, zgy]
end
end Go.Proofs.YtbhhifdhlafklaaGreat.K
