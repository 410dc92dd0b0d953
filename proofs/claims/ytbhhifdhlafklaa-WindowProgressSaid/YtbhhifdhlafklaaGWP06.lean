/- For every input the statement of this claim returns true: texts of its proof, joined (part 7). -/
import Derived.Test.YtbhhifdhlafklaaProg
import Derived.KernelRfl
import Derived.Test.YtbhhifdhlafklaaEWP3
import Derived.Test.YtbhhifdhlafklaaSKWP
set_option linter.unusedSectionVars false
set_option linter.unusedSimpArgs false
set_option linter.unusedVariables false
namespace Go.Proofs.Ytbhhifdhlafklaa.K
open Go.Ev
set_option maxRecDepth 100000
theorem qp8 : qg9 Try.prog { frz := [2], frzv := [125, 126], own := [11, 12], loops := [([2, 5, 6, 7, 8, 10, 11, 12, 13, 14], true)] } qeh = some qc3 := by kernel_rfl
theorem q2i : qg9 Try.prog {  } qjx = some qq0 := by kernel_rfl
theorem q5l : qg9 Try.prog { frz := [1] } qlz = some qrp := by kernel_rfl
theorem q0g : qg9 Try.prog { frz := [2] } qi0 = some qmx := by kernel_rfl
theorem qz8 : qg9 Try.prog { frzv := [27], own := [4], loops := [([4, 7, 8, 9], true)] } qfc = some qku := by kernel_rfl
theorem qu1 : qg9 Try.prog { frz := [2] } qeq = some qkw := by kernel_rfl
theorem qu8 : qg9 Try.prog { frz := [4, 5], mI := [21, 26, 28], ownB := [(17, (5, 6)), (17, (6, 6))], loops := [([4, 13], true)] } qes = some qkx := by kernel_rfl
theorem qug : qg9 Try.prog { frz := [2, 3] } qfu = some qdu := by kernel_rfl
theorem qur : qg9 Try.prog { mA := [12], mF := [53], topZ := [15], ownS := [(15, 6)], appB := [(33, 8)], ldB := [(25, 8)], loops := [([5, 6, 17, 18, 19], true), ([5, 36, 37, 38], true)] } qen = some qkz := by kernel_rfl
theorem q2d : qg9 Try.prog {  } qlg = some qrc := by kernel_rfl
theorem qzj : qg9 Try.prog { mF := [9] } qjk = some qoq := by kernel_rfl
theorem qw2 : qg9 Try.prog { frz := [1], frzv := [41], own := [3], loops := [([1, 3, 4], true), ([1, 3, 4, 5], true)] } qf3 = some qlp := by kernel_rfl
theorem qzf : qg9 Try.prog { frz := [1], own := [3], topZ := [5], loops := [([1, 3, 4], false), ([1, 3, 4, 5, 6], false)] } qgu = some ql5 := by kernel_rfl
theorem q0k : qg9 Try.prog { frz := [1], loops := [([1, 3, 4, 5], true), ([1, 3, 4, 6], true), ([1, 3, 4, 6, 7], true)] } qiv = some qgp := by kernel_rfl
theorem qvu : qg9 Try.prog { frz := [2], loops := [([1, 2, 4, 5], true)] } qge = some qk0 := by kernel_rfl
theorem q0i : qg9 Try.prog { own := [5], loops := [([0, 1, 5, 6], true), ([0, 1, 5, 6, 7, 8], true)] } qit = some qmy := by kernel_rfl
theorem qqn : qg9 Try.prog { bad := true, loops := [([0, 3, 4], true)] } qd5 = some qhm := by kernel_rfl
theorem qo9 : qg9 Try.prog { frz := [2, 3] } qdt = some qgn := by kernel_rfl
theorem qon : qg9 Try.prog { frz := [4, 5], loops := [([0, 5, 8, 50, 51, 52], true), ([0, 81, 82, 83], true)] } qdi = some qe4 := by kernel_rfl
theorem qpe : qg9 Try.prog { ldx := [(14, 2), (18, 2), (22, 2), (26, 2)] } qdq = some qgr := by kernel_rfl
theorem qqs : qg9 Try.prog { frz := [2, 3] } qdn = some qf0 := by kernel_rfl
theorem qwg : qg9 Try.prog {  } qfh = some qj5 := by kernel_rfl
theorem qi2 : qg9 Try.prog { mA := [24], bad := true, loops := [([0, 3, 9, 10, 11], true), ([6, 25, 26, 27], false)] } qav = some qc1 := by kernel_rfl
theorem qwu : qg9 Try.prog { mA := [8], mI := [9] } qg5 = some qls := by kernel_rfl
theorem qs7 : qg9 Try.prog { frzv := [49], own := [6], loops := [([0, 3, 4], true), ([0, 3, 4, 5], true)] } qd1 = some qjr := by kernel_rfl
theorem q0s : qg9 Try.prog { frz := [1], loops := [([1, 3], true), ([1, 4], true)] } qi1 = some qho := by kernel_rfl
theorem q00 : qg9 Try.prog { frz := [1], loops := [([1, 3], true), ([1, 5], true), ([1, 5, 6], true)] } qiu = some qhh := by kernel_rfl
theorem q04 : qg9 Try.prog { frz := [1], topZ := [9], loops := [([1, 2, 3, 4], false)] } qi5 = some qm0 := by kernel_rfl
theorem qyf : qg9 Try.prog { frz := [2], appN := [21, 28, 57, 69], frzv := [36, 38, 63, 73] } qhw = some qko := by kernel_rfl
theorem qy9 : qg9 Try.prog { frz := [3], own := [6], loops := [([0, 3, 5], true)] } qgv = some qhv := by kernel_rfl
theorem qn2 : qg9 Try.prog { loops := [([0, 1, 2], true)] } qcz = some qek := by kernel_rfl
theorem qyh : qg9 Try.prog { mA := [20] } qhy = some qjj := by kernel_rfl
theorem qxm : qg9 Try.prog { frz := [3, 5], mA := [52], mI := [59, 82, 88], ldF := [80], ldx := [(96, 6), (100, 6), (104, 6)], ownB := [(56, (10, 6)), (56, (12, 1))] } qel = some qb4 := by kernel_rfl
theorem qvp : qg9 Try.prog { frz := [3], mA := [14], mI := [18] } qfm = some qkv := by kernel_rfl
theorem qvr : qg9 Try.prog { frz := [3], mA := [21], mI := [9] } qgg = some qi7 := by kernel_rfl
theorem qw7 : qg9 Try.prog {  } qfi = some qic := by kernel_rfl
theorem qsa : qg9 Try.prog { loops := [([0, 1, 5], true)] } qd7 = some qg6 := by kernel_rfl
theorem qjn : qg9 Try.prog { bad := true } qba = some qcd := by kernel_rfl
theorem qma : qg9 Try.prog { mI := [4] } qcs = some qer := by kernel_rfl
theorem qu2 : qg9 Try.prog {  } qgh = some qk1 := by kernel_rfl
theorem qtd : qg9 Try.prog { mA := [5], mI := [7] } qef = some qjq := by kernel_rfl
theorem q09 : qg9 Try.prog { frz := [1], loops := [([1, 3], true)] } qi4 = some qeo := by kernel_rfl
theorem q06 : qg9 Try.prog { loops := [([0, 1, 2, 3, 9], true), ([0, 2, 3, 10], true), ([0, 3, 11], true)] } qiy = some qhr := by kernel_rfl
theorem q2f : qg9 Try.prog { frz := [3, 4, 5], ldx := [(96, 6), (98, 6), (100, 6)] } qf2 = some qci := by kernel_rfl
theorem qws : qg9 Try.prog { own := [5], loops := [([0, 1, 5, 6], true), ([0, 1, 5, 6, 7, 8], true)] } qg3 = some qln := by kernel_rfl
theorem qo6 : qg9 Try.prog {  } qaz = some qe5 := by kernel_rfl
theorem qpp : qg9 Try.prog { loops := [([0, 1, 12, 13], true)] } qda = some qeb := by kernel_rfl
theorem qmi : qg9 Try.prog { mA := [6], mI := [10, 19, 44, 49], loops := [([0, 1, 4, 7], true)] } qcw = some qd2 := by kernel_rfl
theorem qe6 : qg9 Try.prog { frz := [4], loops := [([0, 2, 4, 8, 9, 10], true)] } qao = some qay := by kernel_rfl
theorem qqm : qg9 Try.prog { frz := [2, 3] } qq = some qe8 := by kernel_rfl
theorem qh1 : qg9 Try.prog { loops := [([0, 1, 7, 8], true)] } qa7 = some qby := by kernel_rfl
theorem qta : qg9 Try.prog { frz := [2] } qdk = some qjs := by kernel_rfl
theorem qh0 : qg9 Try.prog { own := [2], loops := [([2], true)] } qa5 = some qco := by kernel_rfl
theorem qsw : qg9 Try.prog { loops := [([0, 1, 2], true)] } qdl = some qju := by kernel_rfl
theorem qg2 : qg9 Try.prog { mI := [8] } qaw = some qb7 := by kernel_rfl
theorem q0t : qg9 Try.prog { loops := [([0, 3], true)] } qip = some qir := by kernel_rfl
theorem qux : qg9 Try.prog { frz := [3] } qgf = some qd9 := by kernel_rfl
theorem q3j : qg9 Try.prog { frz := [5], appN := [12], frzv := [17] } qeu = some qp2 := by kernel_rfl
theorem qvj : qg9 Try.prog { frz := [3], loops := [([2, 3, 4, 6, 7], true)] } qgd = some qhb := by kernel_rfl
theorem qqb : qg9 Try.prog {  } qd0 = some qg8 := by kernel_rfl
theorem q0q : qg9 Try.prog {  } qin = some qmw := by kernel_rfl
theorem qtx : qg9 Try.prog {  } qe0 = some qg0 := by kernel_rfl
theorem qr8 : qg9 Try.prog {  } qev = some qis := by kernel_rfl
theorem qkl : qg9 Try.prog { mI := [18, 27, 43, 60], loops := [([0, 1, 2, 6, 7, 8], true), ([0, 1, 2, 6], true), ([0, 1, 2, 6, 7, 8], true)] } qbr = some qds := by kernel_rfl
theorem q0l : qg9 Try.prog {  } qfx = some qm7 := by kernel_rfl
theorem q0r : qg9 Try.prog {  } qgo = some qm6 := by kernel_rfl
theorem q27 : qg9 Try.prog { frz := [5], appN := [134], frzv := [141] } qdp = some qdy := by kernel_rfl
theorem qo0 : qg9 Try.prog { frz := [3], mI := [14, 15], ldF := [7] } qck = some qf7 := by kernel_rfl
theorem qox : qg9 Try.prog { frz := [3], mI := [13] } qcq = some qf8 := by kernel_rfl
theorem qn3 : qg9 Try.prog { frz := [3], mI := [7, 21, 22], mR := [9], ldF := [12] } qch = some qfy := by kernel_rfl
theorem qo1 : qg9 Try.prog { frz := [3], mI := [7] } qb8 = some qe7 := by kernel_rfl
theorem qn7 : qg9 Try.prog { frz := [3], mI := [33, 34], ldF := [30] } qcg = some qem := by kernel_rfl
theorem qpm : qg9 Try.prog { frz := [3] } qcv = some qff := by kernel_rfl
theorem qo5 : qg9 Try.prog { frz := [3], mI := [17], ldF := [19] } qcn = some qdj := by kernel_rfl
theorem qpl : qg9 Try.prog { frz := [3] } qcu = some qgq := by kernel_rfl
theorem q26 : qg9 Try.prog { loops := [([3, 6, 7, 8], true)] } qj6 = some qmg := by kernel_rfl
theorem qw3 : qg9 Try.prog {  } qfz = some qll := by kernel_rfl
theorem qn9 : qg9 Try.prog { loops := [([0, 1, 9, 10, 11], true)] } qdc = some qdb := by kernel_rfl
theorem qik : qg9 Try.prog { loops := [([0, 1, 2, 3, 8], true), ([0, 1, 2, 3, 8, 9], true)] } qa1 = some qc0 := by kernel_rfl
theorem qj8 : qg9 Try.prog { mI := [191, 205, 219], loops := [([0, 1, 4, 10, 11], true), ([0, 10, 13], true), ([0, 2, 4, 14, 15], true), ([0, 14, 17], true), ([0, 1, 2, 3, 4, 18, 19, 20, 21, 22], true)] } qau = some qg := by kernel_rfl
theorem qyj : qg9 Try.prog { appN := [36], frzv := [41], ldx := [(32, 6), (45, 6)] } qfd = some qkp := by kernel_rfl
theorem qto : qg9 Try.prog { appN := [8] } qe3 = some qkb := by kernel_rfl
theorem qnq : qg9 Try.prog {  } qbs = some qed := by kernel_rfl
theorem qpo : qg9 Try.prog {  } qcx = some qgl := by kernel_rfl
theorem qks : qg9 Try.prog { mI := [31, 46, 57], loops := [([0, 2, 4, 10, 11], true)] } qbd = some qdr := by kernel_rfl
theorem q02 : qg9 Try.prog { appN := [8] } qix = some qmv := by kernel_rfl
theorem q08 : qg9 Try.prog { mA := [6] } qi3 = some qmu := by kernel_rfl
theorem qj1 : qg9 Try.prog { loops := [([0, 1, 2, 3, 10], true)] } qa3 = some qdd := by kernel_rfl
theorem qh9 : qsr Try.prog qb5 = some (1, 24) := by kernel_rfl
theorem qio : qsr Try.prog qbf = some (6, 64) := by kernel_rfl
theorem qk6 : qsr Try.prog qc9 = some (4, 48) := by kernel_rfl
theorem qow : qsr Try.prog qfk = some (1, 8) := by kernel_rfl
theorem qif : InsB Try.prog qbo 6 64 75 39 4 := ⟨by kernel_rfl, by kernel_rfl, by kernel_rfl, by kernel_rfl, by kernel_rfl, by kernel_rfl, by kernel_rfl, by kernel_rfl, by kernel_rfl, by kernel_rfl, by kernel_rfl, by kernel_rfl, by kernel_rfl, by kernel_rfl, by kernel_rfl, by kernel_rfl, by kernel_rfl, by kernel_rfl, by kernel_rfl, by kernel_rfl, by kernel_rfl, by kernel_rfl, by kernel_rfl, by kernel_rfl⟩
def codeL : List (Nat × CFunc) := [(qeh, qc3), (qjx, qq0), (qlz, qrp), (qi0, qmx), (qfc, qku), (qeq, qkw), (qes, qkx), (qfu, qdu), (qen, qkz), (qlg, qrc), (qjk, qoq), (qf3, qlp), (qgu, ql5), (qiv, qgp), (qge, qk0), (qit, qmy), (qd5, qhm), (qdt, qgn), (qdi, qe4), (qdq, qgr), (qdn, qf0), (qfh, qj5), (qav, qc1), (qg5, qls), (qd1, qjr), (qi1, qho), (qiu, qhh), (qi5, qm0), (qhw, qko), (qgv, qhv), (qcz, qek), (qhy, qjj), (qel, qb4), (qfm, qkv), (qgg, qi7), (qfi, qic), (qd7, qg6), (qba, qcd), (qcs, qer), (qgh, qk1), (qef, qjq), (qi4, qeo), (qiy, qhr), (qf2, qci), (qg3, qln), (qaz, qe5), (qda, qeb), (qcw, qd2), (qao, qay), (qq, qe8), (qa7, qby), (qdk, qjs), (qa5, qco), (qdl, qju), (qaw, qb7), (qip, qir), (qgf, qd9), (qeu, qp2), (qgd, qhb), (qd0, qg8), (qin, qmw), (qe0, qg0), (qev, qis), (qbr, qds), (qfx, qm7), (qgo, qm6), (qdp, qdy), (qck, qf7), (qcq, qf8), (qch, qfy), (qb8, qe7), (qcg, qem), (qcv, qff), (qcn, qdj), (qcu, qgq), (qj6, qmg), (qfz, qll), (qdc, qdb), (qa1, qc0), (qau, qg), (qfd, qkp), (qe3, qkb), (qbs, qed), (qcx, qgl), (qbd, qdr), (qix, qmv), (qi3, qmu), (qa3, qdd)]
def extL : List (Nat × (Nat × Nat)) := [(qb5, (1, 24)), (qbf, (6, 64)), (qc9, (4, 48)), (qfk, (1, 8))]
def insL : List (Nat × (Nat × Nat)) := [(qbo, (6, 64))]
def q5w {α : Type} : List (Nat × α) → Nat → Option α
 | [], _ => none
 | (k, x) :: l, i => if k = i then some x else q5w l i
theorem qud {α : Type} : ∀ {l : List (Nat × α)} {i : Nat} {x : α}, q5w l i = some x → (i, x) ∈ l
 | [], _, _, h => by simp [q5w] at h
 | (k, y) :: l, i, x, h => by
  simp only [q5w] at h
  split at h
  ·rename_i hk; subst hk; cases h; simp
  ·exact List.mem_cons_of_mem _ (qud h)
def T : Tab := { code := q5w codeL, ext := fun k => (q5w extL k).map fun p => qqx p.1 p.2, ins := q5w insL }
theorem codeL_ok : ∀ x ∈ codeL, ∃ h, qg9 Try.prog h x.1 = some x.2 := by
 intro x hx
 simp only [codeL, List.mem_cons, List.not_mem_nil, or_false] at hx
 rcases hx with rfl | rfl | rfl | rfl | rfl | rfl | rfl | rfl | rfl | rfl | rfl | rfl | rfl | rfl | rfl | rfl | rfl | rfl | rfl | rfl | rfl | rfl | rfl | rfl | rfl | rfl | rfl | rfl | rfl | rfl | rfl | rfl | rfl | rfl | rfl | rfl | rfl | rfl | rfl | rfl | rfl | rfl | rfl | rfl | rfl | rfl | rfl | rfl | rfl | rfl | rfl | rfl | rfl | rfl | rfl | rfl | rfl | rfl | rfl | rfl | rfl | rfl | rfl | rfl | rfl | rfl | rfl | rfl | rfl | rfl | rfl | rfl | rfl | rfl | rfl | rfl | rfl | rfl | rfl | rfl | rfl | rfl | rfl | rfl | rfl | rfl | rfl | rfl
 ·exact ⟨_, qp8⟩
 ·exact ⟨_, q2i⟩
 ·exact ⟨_, q5l⟩
 ·exact ⟨_, q0g⟩
 ·exact ⟨_, qz8⟩
 ·exact ⟨_, qu1⟩
 ·exact ⟨_, qu8⟩
 ·exact ⟨_, qug⟩
 ·exact ⟨_, qur⟩
 ·exact ⟨_, q2d⟩
 ·exact ⟨_, qzj⟩
 ·exact ⟨_, qw2⟩
 ·exact ⟨_, qzf⟩
 ·exact ⟨_, q0k⟩
 ·exact ⟨_, qvu⟩
 ·exact ⟨_, q0i⟩
 ·exact ⟨_, qqn⟩
 ·exact ⟨_, qo9⟩
 ·exact ⟨_, qon⟩
 ·exact ⟨_, qpe⟩
 ·exact ⟨_, qqs⟩
 ·exact ⟨_, qwg⟩
 ·exact ⟨_, qi2⟩
 ·exact ⟨_, qwu⟩
 ·exact ⟨_, qs7⟩
 ·exact ⟨_, q0s⟩
 ·exact ⟨_, q00⟩
 ·exact ⟨_, q04⟩
 ·exact ⟨_, qyf⟩
 ·exact ⟨_, qy9⟩
 ·exact ⟨_, qn2⟩
 ·exact ⟨_, qyh⟩
 ·exact ⟨_, qxm⟩
 ·exact ⟨_, qvp⟩
 ·exact ⟨_, qvr⟩
 ·exact ⟨_, qw7⟩
 ·exact ⟨_, qsa⟩
 ·exact ⟨_, qjn⟩
 ·exact ⟨_, qma⟩
 ·exact ⟨_, qu2⟩
 ·exact ⟨_, qtd⟩
 ·exact ⟨_, q09⟩
 ·exact ⟨_, q06⟩
 ·exact ⟨_, q2f⟩
 ·exact ⟨_, qws⟩
 ·exact ⟨_, qo6⟩
 ·exact ⟨_, qpp⟩
 ·exact ⟨_, qmi⟩
 ·exact ⟨_, qe6⟩
 ·exact ⟨_, qqm⟩
 ·exact ⟨_, qh1⟩
 ·exact ⟨_, qta⟩
 ·exact ⟨_, qh0⟩
 ·exact ⟨_, qsw⟩
 ·exact ⟨_, qg2⟩
 ·exact ⟨_, q0t⟩
 ·exact ⟨_, qux⟩
 ·exact ⟨_, q3j⟩
 ·exact ⟨_, qvj⟩
 ·exact ⟨_, qqb⟩
 ·exact ⟨_, q0q⟩
 ·exact ⟨_, qtx⟩
 ·exact ⟨_, qr8⟩
 ·exact ⟨_, qkl⟩
 ·exact ⟨_, q0l⟩
 ·exact ⟨_, q0r⟩
 ·exact ⟨_, q27⟩
 ·exact ⟨_, qo0⟩
 ·exact ⟨_, qox⟩
 ·exact ⟨_, qn3⟩
 ·exact ⟨_, qo1⟩
 ·exact ⟨_, qn7⟩
 ·exact ⟨_, qpm⟩
 ·exact ⟨_, qo5⟩
 ·exact ⟨_, qpl⟩
 ·exact ⟨_, q26⟩
 ·exact ⟨_, qw3⟩
 ·exact ⟨_, qn9⟩
 ·exact ⟨_, qik⟩
 ·exact ⟨_, qj8⟩
 ·exact ⟨_, qyj⟩
 ·exact ⟨_, qto⟩
 ·exact ⟨_, qnq⟩
 ·exact ⟨_, qpo⟩
 ·exact ⟨_, qks⟩
 ·exact ⟨_, q02⟩
 ·exact ⟨_, q08⟩
 ·exact ⟨_, qj1⟩
theorem extL_ok : ∀ x ∈ extL, qsr Try.prog x.1 = some x.2 := by
 intro x hx
 simp only [extL, List.mem_cons, List.not_mem_nil, or_false] at hx
 rcases hx with rfl | rfl | rfl | rfl
 ·exact qh9
 ·exact qio
 ·exact qk6
 ·exact qow
theorem mixed : Try.prog.follows .mixedOrders = true := by kernel_rfl
theorem insL_ok : ∀ x ∈ insL, InsOk Try.prog x.1 (insF x.2.1 x.2.2) := by
 intro x hx
 simp only [insL, List.mem_cons, List.not_mem_nil, or_false] at hx
 rcases hx with rfl
 ·exact ins_ok mixed qif
theorem T_ok : TabOk Try.prog T where
 code k f h := codeL_ok _ (qud h)
 ext k F h := by
  simp only [T, Option.map_eq_some_iff] at h
  obtain ⟨p, h1, rfl⟩ := h
  exact clone_ok mixed (extL_ok _ (qud h1))
 ins k p h := insL_ok (k, p) (qud h)
 mixed := mixed
theorem qkm : T.code qeh = some qc3 := rfl
theorem qaax : T.code qjx = some qq0 := rfl
theorem q2o : T.code qlz = some qrp := rfl
theorem qw6 : T.code qi0 = some qmx := rfl
theorem qvd : T.code qfc = some qku := rfl
theorem qsn : T.code qeq = some qkw := rfl
theorem qsu : T.code qes = some qkx := rfl
theorem qsd : T.code qfu = some qdu := rfl
theorem qst : T.code qen = some qkz := rfl
theorem qaaz : T.code qlg = some qrc := rfl
theorem q7u : T.code qjk = some qoq := rfl
theorem qtq : T.code qf3 = some qlp := rfl
theorem quv : T.code qgu = some ql5 := rfl
theorem qwo : T.code qiv = some qgp := rfl
theorem qtf : T.code qge = some qk0 := rfl
theorem qwr : T.code qit = some qmy := rfl
theorem qpa : T.code qd5 = some qhm := rfl
theorem qny : T.code qdt = some qgn := rfl
theorem qni : T.code qdi = some qe4 := rfl
theorem qnx : T.code qdq = some qgr := rfl
theorem qpd : T.code qdn = some qf0 := rfl
theorem qtl : T.code qfh = some qj5 := rfl
theorem qh3 : T.code qav = some qc1 := rfl
theorem qt7 : T.code qg5 = some qls := rfl
theorem qqy : T.code qd1 = some qjr := rfl
theorem qwk : T.code qi1 = some qho := rfl
theorem qwe : T.code qiu = some qhh := rfl
theorem qw0 : T.code qi5 = some qm0 := rfl
theorem qve : T.code qhw = some qko := rfl
theorem qu3 : T.code qgv = some qhv := rfl
theorem qmq : T.code qcz = some qek := rfl
theorem qvi : T.code qhy = some qjj := rfl
theorem qj9 : T.code qel = some qb4 := rfl
theorem qsp : T.code qfm = some qkv := rfl
theorem qne : T.code qgg = some qi7 := rfl
theorem qts : T.code qfi = some qic := rfl
theorem qqr : T.code qd7 = some qg6 := rfl
theorem qiq : T.code qba = some qcd := rfl
theorem qlu : T.code qcs = some qer := rfl
theorem qs5 : T.code qgh = some qk1 := rfl
theorem qrm : T.code qef = some qjq := rfl
theorem qwx : T.code qi4 = some qeo := rfl
theorem qwh : T.code qiy = some qhr := rfl
theorem qlq : T.code qf2 = some qci := rfl
theorem qtz : T.code qg3 = some qln := rfl
theorem qjy : T.code qaz = some qe5 := rfl
theorem qn0 : T.code qda = some qeb := rfl
theorem qlx : T.code qcw = some qd2 := rfl
theorem qep : T.code qao = some qay := rfl
theorem qh7 : T.code qq = some qe8 := rfl
theorem qhi : T.code qa7 = some qby := rfl
theorem qrd : T.code qdk = some qjs := rfl
theorem qhj : T.code qa5 = some qco := rfl
theorem qq3 : T.code qdl = some qju := rfl
theorem qgm : T.code qaw = some qb7 := rfl
theorem qwq : T.code qip = some qir := rfl
theorem qs2 : T.code qgf = some qd9 := rfl
theorem q05 : T.code qeu = some qp2 := rfl
theorem qsq : T.code qgd = some qhb := rfl
theorem qo2 : T.code qd0 = some qg8 := rfl
theorem qwz : T.code qin = some qmw := rfl
theorem qsb : T.code qe0 = some qg0 := rfl
theorem qqo : T.code qev = some qis := rfl
theorem qkc : T.code qbr = some qds := rfl
theorem qwi : T.code qfx = some qm7 := rfl
theorem qwl : T.code qgo = some qm6 := rfl
theorem qdh : T.code qdp = some qdy := rfl
theorem qnm : T.code qck = some qf7 := rfl
theorem qnf : T.code qcq = some qf8 := rfl
theorem qm2 : T.code qch = some qfy := rfl
theorem qnh : T.code qb8 = some qe7 := rfl
theorem qm4 : T.code qcg = some qem := rfl
theorem qn4 : T.code qcv = some qff := rfl
theorem qnl : T.code qcn = some qdj := rfl
theorem qnz : T.code qcu = some qgq := rfl
theorem q0e : T.code qj6 = some qmg := rfl
theorem qt1 : T.code qfz = some qll := rfl
theorem qm5 : T.code qdc = some qdb := rfl
theorem qh4 : T.code qa1 = some qc0 := rfl
theorem qf : T.code qau = some qg := rfl
theorem qvf : T.code qfd = some qkp := rfl
theorem qr5 : T.code qe3 = some qkb := rfl
theorem qmj : T.code qbs = some qed := rfl
theorem qnv : T.code qcx = some qgl := rfl
theorem qka : T.code qbd = some qdr := rfl
theorem qwj : T.code qix = some qmv := rfl
theorem qwv : T.code qi3 = some qmu := rfl
theorem qjm : T.code qa3 = some qdd := rfl
theorem qpr : T.ext qeh = none ∧ T.ins qeh = none := ⟨rfl, rfl⟩
theorem ext_law23_head : T.ext qjx = none ∧ T.ins qjx = none := ⟨rfl, rfl⟩
theorem q4h : T.ext qlz = none ∧ T.ins qlz = none := ⟨rfl, rfl⟩
theorem qxv : T.ext qi0 = none ∧ T.ins qi0 = none := ⟨rfl, rfl⟩
theorem qwf : T.ext qfc = none ∧ T.ins qfc = none := ⟨rfl, rfl⟩
theorem qtm : T.ext qeq = none ∧ T.ins qeq = none := ⟨rfl, rfl⟩
theorem qua : T.ext qes = none ∧ T.ins qes = none := ⟨rfl, rfl⟩
theorem qte : T.ext qfu = none ∧ T.ins qfu = none := ⟨rfl, rfl⟩
theorem qtw : T.ext qen = none ∧ T.ins qen = none := ⟨rfl, rfl⟩
theorem ext_law19_Base : T.ext qlg = none ∧ T.ins qlg = none := ⟨rfl, rfl⟩
theorem q8s : T.ext qjk = none ∧ T.ins qjk = none := ⟨rfl, rfl⟩
theorem qvo : T.ext qf3 = none ∧ T.ins qf3 = none := ⟨rfl, rfl⟩
theorem qw5 : T.ext qgu = none ∧ T.ins qgu = none := ⟨rfl, rfl⟩
theorem qyu : T.ext qiv = none ∧ T.ins qiv = none := ⟨rfl, rfl⟩
theorem quf : T.ext qge = none ∧ T.ins qge = none := ⟨rfl, rfl⟩
theorem q0c : T.ext qit = none ∧ T.ins qit = none := ⟨rfl, rfl⟩
theorem qp0 : T.ext qd5 = none ∧ T.ins qd5 = none := ⟨rfl, rfl⟩
theorem qov : T.ext qdt = none ∧ T.ins qdt = none := ⟨rfl, rfl⟩
theorem qn5 : T.ext qdi = none ∧ T.ins qdi = none := ⟨rfl, rfl⟩
theorem qo7 : T.ext qdq = none ∧ T.ins qdq = none := ⟨rfl, rfl⟩
theorem qqf : T.ext qdn = none ∧ T.ins qdn = none := ⟨rfl, rfl⟩
theorem quw : T.ext qfh = none ∧ T.ins qfh = none := ⟨rfl, rfl⟩
theorem qid : T.ext qav = none ∧ T.ins qav = none := ⟨rfl, rfl⟩
theorem qup : T.ext qg5 = none ∧ T.ins qg5 = none := ⟨rfl, rfl⟩
theorem qsc : T.ext qd1 = none ∧ T.ins qd1 = none := ⟨rfl, rfl⟩
theorem qxp : T.ext qi1 = none ∧ T.ins qi1 = none := ⟨rfl, rfl⟩
theorem qzs : T.ext qiu = none ∧ T.ins qiu = none := ⟨rfl, rfl⟩
theorem qyd : T.ext qi5 = none ∧ T.ins qi5 = none := ⟨rfl, rfl⟩
theorem qwc : T.ext qhw = none ∧ T.ins qhw = none := ⟨rfl, rfl⟩
theorem qwt : T.ext qgv = none ∧ T.ins qgv = none := ⟨rfl, rfl⟩
theorem qj4 : T.ext qcz = none ∧ T.ins qcz = none := ⟨rfl, rfl⟩
theorem qww : T.ext qhy = none ∧ T.ins qhy = none := ⟨rfl, rfl⟩
theorem qky : T.ext qel = none ∧ T.ins qel = none := ⟨rfl, rfl⟩
theorem qum : T.ext qfm = none ∧ T.ins qfm = none := ⟨rfl, rfl⟩
theorem qoe : T.ext qgg = none ∧ T.ins qgg = none := ⟨rfl, rfl⟩
theorem qus : T.ext qfi = none ∧ T.ins qfi = none := ⟨rfl, rfl⟩
theorem qq4 : T.ext qd7 = none ∧ T.ins qd7 = none := ⟨rfl, rfl⟩
theorem qja : T.ext qba = none ∧ T.ins qba = none := ⟨rfl, rfl⟩
theorem ql2 : T.ext qcs = none ∧ T.ins qcs = none := ⟨rfl, rfl⟩
theorem quj : T.ext qgh = none ∧ T.ins qgh = none := ⟨rfl, rfl⟩
theorem qr9 : T.ext qef = none ∧ T.ins qef = none := ⟨rfl, rfl⟩
theorem qyk : T.ext qi4 = none ∧ T.ins qi4 = none := ⟨rfl, rfl⟩
theorem qx4 : T.ext qiy = none ∧ T.ins qiy = none := ⟨rfl, rfl⟩
theorem ql4 : T.ext qf2 = none ∧ T.ins qf2 = none := ⟨rfl, rfl⟩
theorem qvc : T.ext qg3 = none ∧ T.ins qg3 = none := ⟨rfl, rfl⟩
theorem qkd : T.ext qaz = none ∧ T.ins qaz = none := ⟨rfl, rfl⟩
theorem qoz : T.ext qda = none ∧ T.ins qda = none := ⟨rfl, rfl⟩
theorem ql9 : T.ext qcw = none ∧ T.ins qcw = none := ⟨rfl, rfl⟩
theorem qew : T.ext qao = none ∧ T.ins qao = none := ⟨rfl, rfl⟩
theorem qil : T.ext qq = none ∧ T.ins qq = none := ⟨rfl, rfl⟩
theorem qhx : T.ext qa7 = none ∧ T.ins qa7 = none := ⟨rfl, rfl⟩
theorem qr6 : T.ext qdk = none ∧ T.ins qdk = none := ⟨rfl, rfl⟩
theorem qhz : T.ext qa5 = none ∧ T.ins qa5 = none := ⟨rfl, rfl⟩
theorem qmn : T.ext qdl = none ∧ T.ins qdl = none := ⟨rfl, rfl⟩
theorem qgx : T.ext qaw = none ∧ T.ins qaw = none := ⟨rfl, rfl⟩
theorem qxy : T.ext qip = none ∧ T.ins qip = none := ⟨rfl, rfl⟩
theorem qt8 : T.ext qgf = none ∧ T.ins qgf = none := ⟨rfl, rfl⟩
theorem q2x : T.ext qeu = none ∧ T.ins qeu = none := ⟨rfl, rfl⟩
theorem qtp : T.ext qgd = none ∧ T.ins qgd = none := ⟨rfl, rfl⟩
theorem qph : T.ext qd0 = none ∧ T.ins qd0 = none := ⟨rfl, rfl⟩
theorem qzg : T.ext qin = none ∧ T.ins qin = none := ⟨rfl, rfl⟩
theorem qso : T.ext qe0 = none ∧ T.ins qe0 = none := ⟨rfl, rfl⟩
theorem qrn : T.ext qev = none ∧ T.ins qev = none := ⟨rfl, rfl⟩
theorem qkf : T.ext qbr = none ∧ T.ins qbr = none := ⟨rfl, rfl⟩
theorem qyz : T.ext qfx = none ∧ T.ins qfx = none := ⟨rfl, rfl⟩
theorem qzb : T.ext qgo = none ∧ T.ins qgo = none := ⟨rfl, rfl⟩
theorem qdv : T.ext qdp = none ∧ T.ins qdp = none := ⟨rfl, rfl⟩
theorem qoa : T.ext qck = none ∧ T.ins qck = none := ⟨rfl, rfl⟩
theorem qn6 : T.ext qcq = none ∧ T.ins qcq = none := ⟨rfl, rfl⟩
theorem qnr : T.ext qch = none ∧ T.ins qch = none := ⟨rfl, rfl⟩
theorem qn1 : T.ext qb8 = none ∧ T.ins qb8 = none := ⟨rfl, rfl⟩
theorem qnb : T.ext qcg = none ∧ T.ins qcg = none := ⟨rfl, rfl⟩
theorem qom : T.ext qcv = none ∧ T.ins qcv = none := ⟨rfl, rfl⟩
theorem qn8 : T.ext qcn = none ∧ T.ins qcn = none := ⟨rfl, rfl⟩
theorem qo4 : T.ext qcu = none ∧ T.ins qcu = none := ⟨rfl, rfl⟩
theorem q0w : T.ext qj6 = none ∧ T.ins qj6 = none := ⟨rfl, rfl⟩
theorem qvv : T.ext qfz = none ∧ T.ins qfz = none := ⟨rfl, rfl⟩
theorem qno : T.ext qdc = none ∧ T.ins qdc = none := ⟨rfl, rfl⟩
theorem qig : T.ext qa1 = none ∧ T.ins qa1 = none := ⟨rfl, rfl⟩
theorem qi : T.ext qau = none ∧ T.ins qau = none := ⟨rfl, rfl⟩
theorem qw1 : T.ext qfd = none ∧ T.ins qfd = none := ⟨rfl, rfl⟩
theorem qs1 : T.ext qe3 = none ∧ T.ins qe3 = none := ⟨rfl, rfl⟩
theorem qm3 : T.ext qbs = none ∧ T.ins qbs = none := ⟨rfl, rfl⟩
theorem qol : T.ext qcx = none ∧ T.ins qcx = none := ⟨rfl, rfl⟩
theorem qki : T.ext qbd = none ∧ T.ins qbd = none := ⟨rfl, rfl⟩
theorem qyc : T.ext qix = none ∧ T.ins qix = none := ⟨rfl, rfl⟩
theorem qy5 : T.ext qi3 = none ∧ T.ins qi3 = none := ⟨rfl, rfl⟩
theorem qjw : T.ext qa3 = none ∧ T.ins qa3 = none := ⟨rfl, rfl⟩
theorem qia : T.ext qb5 = some (qqx 1 24) := rfl
theorem qiw : T.ext qbf = some (qqx 6 64) := rfl
theorem qk2 : T.ext qc9 = some (qqx 4 48) := rfl
theorem qot : T.ext qfk = some (qqx 1 8) := rfl
theorem qie : T.ins qbo = some (6, 64) := rfl
theorem qh5 : T.ext qbo = none := rfl
def qca (n : Int) : List AV := [(ii n)]
theorem int_lo (n : Nat) (x : Int) : los n (qca x) = true := rfl
theorem int_pl (x : Int) : (qca x).length = 1 ∧ qw (qca x) = true := ⟨rfl, rfl⟩
theorem qag (n : Nat) (l : List Int) : qh2 n (l.map qca) = true := qlk (int_lo n) l
theorem qaaa (l : List Int) : qc5 1 (l.map qca) = true := qly int_pl l
def qfv (l : List Int) : List AV := [(.fsl ((l).map qca) false)]
theorem key_lo (n : Nat) (l : List Int) : los n (qfv l) = true := by simp only [qfv, los, AV.lo, qag, zfc]
theorem key_pl (l : List Int) : (qfv l).length = 1 ∧ qw (qfv l) = true := ⟨rfl, rfl⟩
theorem qbu (n : Nat) (l : List (List Int)) : qh2 n (l.map qfv) = true := qlk (key_lo n) l
theorem keys_ok (l : List (List Int)) : qc5 1 (l.map qfv) = true := qly key_pl l
structure OpI where
 code : Int
 a : Int
 b : Int
 c : Int
 deriving DecidableEq
def OpI.r (x : OpI) : List AV := [(ii x.code), (ii x.a), (ii x.b), (ii x.c)]
theorem op_lo (n : Nat) (x : OpI) : los n x.r = true := rfl
theorem qiz (n : Nat) (l : List OpI) : qh2 n (l.map OpI.r) = true := qlk (op_lo n) l
def qc2 (p : List OpI) : List AV := [(.fsl ((p).map OpI.r) false)]
theorem progC_lo (n : Nat) (l : List OpI) : los n (qc2 l) = true := by simp only [qc2, los, AV.lo, qiz, zfc]
theorem qa0 (n : Nat) (l : List (List OpI)) : qh2 n (l.map qc2) = true := qlk (progC_lo n) l
structure Start where
 prog : Int
 time : Int
 deriving DecidableEq
def Start.r (x : Start) : List AV := [(ii x.prog), (ii x.time)]
theorem start_lo (n : Nat) (x : Start) : los n x.r = true := rfl
theorem qaaj (n : Nat) (l : List Start) : qh2 n (l.map Start.r) = true := qlk (start_lo n) l
def lpC (p : List Start) : List AV := [(.fsl ((p).map Start.r) false)]
theorem lpC_lo (n : Nat) (l : List Start) : los n (lpC l) = true := by simp only [lpC, los, AV.lo, qaaj, zfc]
theorem qcj (n : Nat) (l : List (List Start)) : qh2 n (l.map lpC) = true := qlk (lpC_lo n) l
structure Cfg where
 lps : List (List Start)
 progs : List (List OpI)
 look : Int
 fin : Int
 cap : Int
def qqw (n : Int) : Bool := decide (n ≥ 1) && decide (n ≤ 1099511627776)
def qwb (n : Int) : Bool := decide (n ≥ -1073741824) && decide (n ≤ 1073741824)
theorem ql6 (n : Int) : qbb (evL T) qfx [(ii n)] = some (bb (qqw n)) := by
 rw [qbb, qy qyz qwi]
 by_cases h1 : n ≥ 1 <;> simp only [qqw, qm7, h1, qn, Ev.exec, qb, qe, qc, qai, Ev.Opnd.ev, Ev.Env.get, Ev.Env.set, Ev.Env.unset, Ev.look, qo, qml, qb2, qm, qab, qak, Ev.kill, qah, qd, qa4, qap, ↓qr, ↓reduceIte, zga, zgb, zfe, Nat.reduceEqDiff, reduceCtorEq, zgv, zgw, Bool.true_and, zfa, zgx, zfd, zgy, Bool.false_and]
theorem qoy (n : Int) : qbb (evL T) qgo [(ii n)] = some (bb (qwb n)) := by
 rw [qbb, qy qzb qwl]
 by_cases h1 : n ≥ -1073741824 <;> simp only [qwb, qm6, h1, qn, Ev.exec, qb, qe, qc, qai, Ev.Opnd.ev, Ev.Env.get, Ev.Env.set, Ev.Env.unset, Ev.look, qo, qml, qb2, qm, qab, qak, Ev.kill, qah, qd, qa4, qap, ↓qr, ↓reduceIte, zga, zgb, zfe, Nat.reduceEqDiff, Int.reduceNeg, reduceCtorEq, zgv, zgw, Bool.true_and, zfa, zgx, zfd, zgy, Bool.false_and]
def q03 (x : OpI) (n ps : Int) : Bool :=
 if x.code = 1 then qqw x.a && (decide (x.b = 0) && decide (x.c = 0))
 else if x.code = 2 then decide (x.a ≥ 0) && (qwb x.b && qqw x.c)
 else if x.code = 3 then qqw x.a && (decide (x.b ≥ 0) && (decide (x.b < n) && decide (x.c = 0)))
 else if x.code = 5 then decide (x.a ≥ 0) && (decide (x.a < ps) && (qqw x.b && decide (x.c = 0)))
 else if x.code = 6 then decide (x.a ≥ 0) && (decide (x.a < 2) && (qwb x.b && decide (x.c = 0)))
 else if x.code = 7 then decide (x.a ≥ 0) && (decide (x.a < 2) && (qwb x.b && (decide (x.c ≥ 0) && decide (x.c < n))))
 else decide (x.a = 0) && (decide (x.b = 0) && decide (x.c = 0))
theorem qpj (x : OpI) (n ps : Int) : qbb (evL T) qgf [(.agg [(ii x.code), (ii x.a), (ii x.b), (ii x.c)]), (ii n), (ii ps)] = some (bb (q03 x n ps)) := by
 obtain ⟨k, a, b, c⟩ := x
 rw [qbb, qy qt8 qs2]
 simp only [q03]
 by_cases k1 : k = 1
 ·subst k1
  cases h1 : qqw a <;> by_cases h2 : b = 0 <;> simp only [qd9, ql6, h1, h2, qn, Ev.exec, qb, qe, qc, qa2, qai, Ev.evs, Ev.Opnd.ev, Ev.Env.get, Ev.Env.set, Ev.Env.unset, Ev.look, qo, qk, qad, Ev.AV.cells, qw, Ev.AV.plain, qaj, qm, qab, qak, Ev.kill, qah, qd, qa4, qj, qh, qap, ↓qr, ↓reduceIte, zga, zgb, zfe, zgf, zgg, zgh, Nat.reduceAdd, Nat.reduceEqDiff, zgv, zgw, zfc, Bool.true_and, zfa, zgx, ne_eq, zfb, zff, zfd, zgy, Bool.false_and, Bool.and_false]
 by_cases k2 : k = 2
 ·subst k2
  by_cases h1 : a ≥ 0 <;> cases h2 : qwb b <;> simp only [qd9, ql6, qoy, h1, h2, qn, Ev.exec, qb, qe, qc, qa2, qai, Ev.evs, Ev.Opnd.ev, Ev.Env.get, Ev.Env.set, Ev.Env.unset, Ev.look, qo, qk, qad, Ev.AV.cells, qw, Ev.AV.plain, qaj, qb2, qm, qab, qak, Ev.kill, qah, qd, qa4, qj, qh, qap, ↓qr, ↓reduceIte, zga, zgb, zfe, zgf, zgg, zgh, Nat.reduceAdd, Nat.reduceEqDiff, Int.reduceEq, zgv, zgw, zfc, Bool.true_and, zfa, zgx, ne_eq, zfb, zff, zfd, zgy, Bool.false_and, Bool.and_false]
 by_cases k3 : k = 3
 ·subst k3
  cases h1 : qqw a <;> by_cases h2 : b ≥ 0 <;> by_cases h3 : b < n <;> simp only [qd9, ql6, h1, h2, h3, qn, Ev.exec, qb, qe, qc, qa2, qai, Ev.evs, Ev.Opnd.ev, Ev.Env.get, Ev.Env.set, Ev.Env.unset, Ev.look, qo, qk, qad, Ev.AV.cells, qw, Ev.AV.plain, qaj, ql, qb2, qm, qab, qak, Ev.kill, qah, qd, qa4, qj, qh, qap, ↓qr, ↓reduceIte, zga, zgb, zfe, zgf, zgg, zgh, Nat.reduceAdd, Nat.reduceEqDiff, Int.reduceEq, reduceCtorEq, zgv, zgw, zfc, Bool.true_and, zfa, zgx, ne_eq, zfb, zff, zfd, zgy, Bool.false_and, Bool.and_false]
 by_cases k5 : k = 5
 ·subst k5
  by_cases h1 : a ≥ 0 <;> by_cases h2 : a < ps <;> cases h3 : qqw b <;> simp only [qd9, ql6, h1, h2, h3, qn, Ev.exec, qb, qe, qc, qa2, qai, Ev.evs, Ev.Opnd.ev, Ev.Env.get, Ev.Env.set, Ev.Env.unset, Ev.look, qo, qk, qad, Ev.AV.cells, qw, Ev.AV.plain, qaj, ql, qb2, qm, qab, qak, Ev.kill, qah, qd, qa4, qj, qh, qap, ↓qr, ↓reduceIte, zga, zgb, zfe, zgf, zgg, zgh, Nat.reduceAdd, Nat.reduceEqDiff, Int.reduceEq, reduceCtorEq, zgv, zgw, zfc, Bool.true_and, zfa, zgx, ne_eq, zfb, zff, zfd, zgy, Bool.false_and, Bool.and_false]
 by_cases k6 : k = 6
 ·subst k6
  by_cases h1 : a ≥ 0 <;> by_cases h2 : a < 2 <;> cases h3 : qwb b <;> simp only [qd9, qoy, h1, h2, h3, qn, Ev.exec, qb, qe, qc, qa2, qai, Ev.evs, Ev.Opnd.ev, Ev.Env.get, Ev.Env.set, Ev.Env.unset, Ev.look, qo, qk, qad, Ev.AV.cells, qw, Ev.AV.plain, qaj, ql, qb2, qm, qab, qak, Ev.kill, qah, qd, qa4, qj, qh, qap, ↓qr, ↓reduceIte, zga, zgb, zfe, zgf, zgg, zgh, Nat.reduceAdd, Nat.reduceEqDiff, Int.reduceEq, zgv, zgw, zfc, Bool.true_and, zfa, zgx, ne_eq, zfb, zff, zfd, zgy, Bool.false_and, Bool.and_false]
 by_cases k7 : k = 7
 ·subst k7
  by_cases h1 : a ≥ 0 <;> by_cases h2 : a < 2 <;> cases h3 : qwb b <;> by_cases h4 : c ≥ 0 <;> simp only [qd9, qoy, h1, h2, h3, h4, qn, Ev.exec, qb, qe, qc, qa2, qai, Ev.evs, Ev.Opnd.ev, Ev.Env.get, Ev.Env.set, Ev.Env.unset, Ev.look, qo, qk, qad, Ev.AV.cells, qw, Ev.AV.plain, qaj, ql, qb2, qm, qab, qak, Ev.kill, qah, qd, qa4, qj, qh, qap, ↓qr, ↓reduceIte, zga, zgb, zfe, zgf, zgg, zgh, Nat.reduceAdd, Nat.reduceEqDiff, Int.reduceEq, reduceCtorEq, zgv, zgw, zfc, Bool.true_and, zfa, zgx, ne_eq, zfb, zff, zfd, zgy, Bool.false_and, Bool.and_false]
 by_cases h1 : a = 0 <;> by_cases h2 : b = 0 <;> simp only [qd9, k1, k2, k3, k5, k6, k7, h1, h2, qn, Ev.exec, qb, qe, qc, qai, Ev.Opnd.ev, Ev.Env.get, Ev.Env.set, Ev.Env.unset, Ev.look, qo, qk, qad, Ev.AV.cells, qw, Ev.AV.plain, qaj, qm, qab, qak, Ev.kill, qah, qd, qa4, qap, ↓qr, ↓reduceIte, zga, zgb, zfe, zgf, zgg, zgh, Nat.reduceAdd, Nat.reduceEqDiff, zgv, zgw, zfc, Bool.true_and, zfa, zgx, ne_eq, zfb, zff, zfd, zgy, Bool.false_and, Bool.and_false]
def q35 (x : OpI) : Bool := decide (x.code ≥ 1) && decide (x.code ≤ 8)
def qro (p : List OpI) : Bool := decide (1 ≤ p.length ∧ p.length ≤ 16) && p.all q35
def qaab (lps : Int) (x : OpI) : Bool := !(decide (x.code = 2) && decide (x.a ≥ lps))
def qre (look : Int) (x : OpI) : Bool := !(decide (x.code = 2) && decide (x.c < look))
def qqh (p : List OpI) (ps lps look : Int) : Int :=
 if qro p = false then 22 else if p.all (fun x => q03 x p.length ps) = false then 22 else if p.all (qaab lps) = false then 23 else if p.all (qre look) = false then 21 else 0
section
variable (p : List OpI) (c : Bool) (ps lps look : Int)
theorem q24 (hl : p.length ≤ 16) :
  ∃ y, itB (exec (evL T) itL none qha) (qs [0, 3] true 0) ⟨[(0, (.fsl ((p).map OpI.r) c)), (3, (ii 0))], []⟩ [] = some y ∧ (p.all q35 = true ∧ (y.1 = .exit 0 ∧ y.2.1.marks = [] ∧ y.2.2 = []) ∨
   p.all q35 = false ∧ ∃ x, p.find? (fun x => !q35 x) = some x ∧ (y.1 = .ret ∧ y.2.1.marks = [] ∧ y.2.2 = [] ∧ Ev.look y.2.1.vars 2 = some (bb false))) := by
 refine qjv p (fun i => ⟨[(0, (.fsl ((p).map OpI.r) c)), (3, (ii i))], []⟩) [] q35 _ (fun _ y => _) ?_ ?_ ?_
 ·intro i x hi hx hp
  have hi' : (i : Int) < (p.length : Int) := by omega
  have hw : IntKind.i64.wrap ((i : Int) + 1) = ((i + 1 : Nat) : Int) := by rw [qax (by omega) (by omega)]; simp
  simp only [q35, Bool.and_eq_true, decide_eq_true_eq] at hp
  have h1 : ¬ x.code < 1 := by omega
  have h2 : ¬ x.code > 8 := by omega
  simp only [qha, zgs, zgr, zgq, zgt, OpI.r, hx, hi', hw, h1, h2, qiz, Ev.exec, qb, qe, qc, qai, Ev.Opnd.ev, Ev.Env.get, Ev.Env.set, Ev.look, qk, qad, qaf, ql, qaq, qs, Ev.keep, qae, qx, qd, qa4, qu, zgi, ↓qr, Ev.it1, ↓reduceIte, zga, zgb, zfe, zgg, zgh, Nat.reduceAdd, Nat.reduceEqDiff, reduceCtorEq, zgv, zgw, zfc, zfa, zgx, zfd, zgy]
 ·intro i x hi hx hp
  have hi' : (i : Int) < (p.length : Int) := by omega
  simp only [q35, Bool.and_eq_false_iff, decide_eq_false_iff_not] at hp
  by_cases h1 : x.code < 1
  ·simp only [qha, zgs, zgr, zgq, zgt, OpI.r, hx, hi', h1, Ev.exec, qb, qe, qc, qai, Ev.Opnd.ev, Ev.Env.get, Ev.Env.set, Ev.Env.unset, Ev.look, qk, qad, ql, zgi, ↓qr, Ev.it1, ↓reduceIte, zga, zgb, zgg, zgh, Nat.reduceAdd, Nat.reduceEqDiff, reduceCtorEq, zgv, zfa, Bool.true_eq_false, zfd, zgy]
   exact ⟨_, rfl, rfl, rfl, rfl, rfl⟩
  ·have h2 : x.code > 8 := by omega
   simp only [qha, zgs, zgr, zgq, zgt, OpI.r, hx, hi', h1, h2, Ev.exec, qb, qe, qc, qai, Ev.Opnd.ev, Ev.Env.get, Ev.Env.set, Ev.look, qk, qad, ql, qaq, zgi, ↓qr, Ev.it1, ↓reduceIte, zga, zgb, zgg, zgh, Nat.reduceAdd, Nat.reduceEqDiff, reduceCtorEq, zgv, zgw, zfa, zfd, zgy]
   exact ⟨_, rfl, rfl, rfl, rfl, rfl⟩
 ·simp only [qha, Int.lt_irrefl, Ev.exec, qb, qe, qc, qai, Ev.Opnd.ev, Ev.Env.get, Ev.Env.set, Ev.look, ql, zgi, ↓qr, Ev.it1, ↓reduceIte, Nat.reduceEqDiff, reduceCtorEq, zgw, zfa, zgy]
  exact ⟨_, rfl, rfl, rfl, rfl⟩
theorem q0j : qbb (evL T) qip [(.fsl ((p).map OpI.r) c)] = some (bb (qro p)) := by
 rw [qbb, qy qxy qwq]
 by_cases h1 : (p.length : Int) < 1
 ·have : ¬ (1 ≤ p.length ∧ p.length ≤ 16) := by omega
  simp only [qir, qro, this, h1, qn, Ev.exec, qb, qe, qc, qai, Ev.Opnd.ev, Ev.Env.get, Ev.Env.set, Ev.Env.unset, Ev.look, qo, ql, qm, qab, qak, Ev.kill, qah, qd, qa4, qap, zgi, ↓qr, ↓reduceIte, zga, zgb, zfe, Nat.reduceEqDiff, reduceCtorEq, zgv, zgw, Bool.true_eq_false, zgx, zfd, zgy, Bool.false_and]
 by_cases h2 : (p.length : Int) > 16
 ·have : ¬ (1 ≤ p.length ∧ p.length ≤ 16) := by omega
  simp only [qir, qro, this, h1, h2, qn, Ev.exec, qb, qe, qc, qai, Ev.Opnd.ev, Ev.Env.get, Ev.Env.set, Ev.look, qo, ql, qaq, qm, qab, qak, Ev.kill, qah, qd, qa4, qap, zgi, ↓qr, ↓reduceIte, zga, zgb, zfe, Nat.reduceEqDiff, reduceCtorEq, zgv, zgw, zfa, zgx, zfd, zgy, Bool.false_and]
 have h3 : 1 ≤ p.length ∧ p.length ≤ 16 := by omega
 obtain ⟨⟨y, e, σ⟩, k1, k2⟩ := q24 p c h3.2
 simp only at k2
 rcases k2 with ⟨k3, rfl, k4, rfl⟩ | ⟨k3, x, _, rfl, k4, rfl, k5⟩
 ·simp only [qir, qro, h3, h1, h2, k1, k3, k4, qiz, qn, Ev.exec, qb, qe, qc, qai, Ev.Opnd.ev, Ev.Env.get, Ev.Env.set, Ev.look, qo, ql, qaq, qm, qab, qak, Ev.kill, qah, qs, Ev.keep, qae, qx, qd, qa4, qu, qap, zgi, ↓qr, ↓qar, ↓reduceIte, zga, zgb, zfe, Nat.reduceEqDiff, reduceCtorEq, zgv, zgw, zfc, zfa, zgx, zfd, zgy]
 ·simp only [qir, qro, h3, h1, h2, k1, k3, k4, k5, qiz, qn, Ev.exec, qb, qe, qc, qai, Ev.Opnd.ev, Ev.Env.get, Ev.Env.set, Ev.look, qo, ql, qaq, qm, qab, qak, Ev.kill, qah, qs, Ev.keep, qae, qx, qd, qa4, qu, qap, zgi, ↓qr, ↓qar, ↓reduceIte, zga, zgb, zfe, Nat.reduceEqDiff, reduceCtorEq, zgv, zgw, zfc, zfa, zgx, zfd, zgy, Bool.and_false]
theorem q0y (hl : p.length ≤ 16) :
  ∃ y, itB (exec (evL T) itL none qjf) (qs [0, 1, 2, 3, 9] true 0) ⟨[(0, (.fsl ((p).map OpI.r) c)), (1, (ii ps)), (2, (ii lps)), (3, (ii look)), (9, (ii 0))], []⟩ [] = some y ∧
   (p.all (fun x => q03 x p.length ps) = true ∧ (y.1 = .exit 0 ∧ y.2.1.marks = [] ∧ y.2.2 = [] ∧ Ev.look y.2.1.vars 0 = some (.fsl ((p).map OpI.r) c) ∧ Ev.look y.2.1.vars 2 = some (ii lps) ∧ Ev.look y.2.1.vars 3 = some (ii look)) ∨
   p.all (fun x => q03 x p.length ps) = false ∧ ∃ x, p.find? (fun x => !q03 x p.length ps) = some x ∧ (y.1 = .ret ∧ y.2.1.marks = [] ∧ y.2.2 = [] ∧ Ev.look y.2.1.vars 8 = some (ii 22))) := by
 refine qjv p (fun i => ⟨[(0, (.fsl ((p).map OpI.r) c)), (1, (ii ps)), (2, (ii lps)), (3, (ii look)), (9, (ii i))], []⟩) [] (fun x => q03 x p.length ps) _ (fun _ y => _) ?_ ?_ ?_
 ·intro i x hi hx hp
  have hi' : (i : Int) < (p.length : Int) := by omega
  have hw : IntKind.i64.wrap ((i : Int) + 1) = ((i + 1 : Nat) : Int) := by rw [qax (by omega) (by omega)]; simp
  simp only [qjf, zgs, zgr, zgq, zgt, OpI.r, hx, hi', hw, qpj, hp, qiz, Ev.exec, qb, qe, qc, qa2, qai, Ev.evs, Ev.Opnd.ev, Ev.Env.get, Ev.Env.set, Ev.look, qk, qad, qaf, ql, qs, Ev.keep, qae, qx, qd, qa4, qbc, qu, qj, qh, zgi, ↓qr, Ev.it1, ↓reduceIte, zga, zgb, zgc, zfe, Nat.reduceAdd, Nat.reduceEqDiff, reduceCtorEq, zgv, zfc, Bool.not_true, zfa, zgx, zfd, Nat.le_refl, zgy]
 ·intro i x hi hx hp
  have hi' : (i : Int) < (p.length : Int) := by omega
  simp only [qjf, zgs, zgr, zgq, zgt, OpI.r, hx, hi', qpj, hp, Ev.exec, qb, qe, qc, qa2, qai, Ev.evs, Ev.Opnd.ev, Ev.Env.get, Ev.Env.set, Ev.look, qk, qad, ql, qa4, qbc, qj, qh, zgi, ↓qr, Ev.it1, ↓reduceIte, zga, zgb, zgc, zfe, Nat.reduceAdd, Nat.reduceEqDiff, reduceCtorEq, zgv, zfc, Bool.not_false, zfd, Nat.le_refl, zgy]
  exact ⟨_, rfl, rfl, rfl, rfl, rfl⟩
 ·simp only [qjf, Int.lt_irrefl, Ev.exec, qb, qe, qc, qai, Ev.Opnd.ev, Ev.Env.get, Ev.Env.set, Ev.look, ql, zgi, ↓qr, Ev.it1, ↓reduceIte, Nat.reduceEqDiff, reduceCtorEq, zgw, zfa, zgy]
  exact ⟨_, rfl, rfl, rfl, rfl, rfl, rfl, rfl⟩
theorem q0z (hl : p.length ≤ 16) :
  ∃ y, itB (exec (evL T) itL none qhf) (qs [0, 2, 3, 10] true 0) ⟨[(0, (.fsl ((p).map OpI.r) c)), (2, (ii lps)), (3, (ii look)), (10, (ii 0))], []⟩ [] = some y ∧
   (p.all (qaab lps) = true ∧ (y.1 = .exit 2 ∧ y.2.1.marks = [] ∧ y.2.2 = [] ∧ Ev.look y.2.1.vars 0 = some (.fsl ((p).map OpI.r) c) ∧ Ev.look y.2.1.vars 3 = some (ii look)) ∨
   p.all (qaab lps) = false ∧ ∃ x, p.find? (fun x => !qaab lps x) = some x ∧ (y.1 = .ret ∧ y.2.1.marks = [] ∧ y.2.2 = [] ∧ Ev.look y.2.1.vars 8 = some (ii 23))) := by
 refine qjv p (fun i => ⟨[(0, (.fsl ((p).map OpI.r) c)), (2, (ii lps)), (3, (ii look)), (10, (ii i))], []⟩) [] (qaab lps) _ (fun _ y => _) ?_ ?_ ?_
 ·intro i x hi hx hp
  have hi' : (i : Int) < (p.length : Int) := by omega
  have hw : IntKind.i64.wrap ((i : Int) + 1) = ((i + 1 : Nat) : Int) := by rw [qax (by omega) (by omega)]; simp
  by_cases h1 : x.code = 2
  ·have h2 : ¬ x.a ≥ lps := by simpa [qaab, h1] using hp
   simp only [qhf, zgs, zgr, zgq, zgt, OpI.r, hx, hi', hw, h1, h2, qiz, Ev.exec, qb, qe, qc, qai, Ev.Opnd.ev, Ev.Env.get, Ev.Env.set, Ev.look, qk, qad, qaf, qaj, ql, qb2, qs, Ev.keep, qae, qx, qd, qa4, qu, zgi, ↓qr, Ev.it1, ↓reduceIte, zga, zgb, zfe, zgf, zgg, zgh, Nat.reduceAdd, Nat.reduceEqDiff, reduceCtorEq, zgv, zgw, zfc, zfa, zgx, zfd, zgy]
  ·simp only [qhf, zgs, zgr, zgq, zgt, OpI.r, hx, hi', hw, h1, qiz, Ev.exec, qb, qe, qc, qai, Ev.Opnd.ev, Ev.Env.get, Ev.Env.set, Ev.Env.unset, Ev.look, qk, qad, qaf, qaj, ql, qs, Ev.keep, qae, qx, qd, qa4, qu, zgi, ↓qr, Ev.it1, ↓reduceIte, zga, zgb, zfe, zgg, zgh, Nat.reduceAdd, Nat.reduceEqDiff, reduceCtorEq, zgv, zgw, zfc, zfa, zgx, zfd, zgy]
 ·intro i x hi hx hp
  have hi' : (i : Int) < (p.length : Int) := by omega
  have h1 : x.code = 2 := by
   by_cases h1 : x.code = 2
   ·exact h1
   ·simp [qaab, h1] at hp
  have h2 : x.a ≥ lps := by simpa [qaab, h1] using hp
  simp only [qhf, zgs, zgr, zgq, zgt, OpI.r, hx, hi', h1, h2, Ev.exec, qb, qe, qc, qai, Ev.Opnd.ev, Ev.Env.get, Ev.Env.set, Ev.look, qk, qad, qaj, ql, qb2, zgi, ↓qr, Ev.it1, ↓reduceIte, zga, zgb, zgf, zgg, zgh, Nat.reduceAdd, Nat.reduceEqDiff, reduceCtorEq, zgv, zfa, zfd, zgy]
  exact ⟨_, rfl, rfl, rfl, rfl, rfl⟩
 ·simp only [qhf, Int.lt_irrefl, Ev.exec, qb, qe, qc, qai, Ev.Opnd.ev, Ev.Env.get, Ev.Env.set, Ev.look, ql, zgi, ↓qr, Ev.it1, ↓reduceIte, Nat.reduceEqDiff, reduceCtorEq, zgw, zfa, zgy]
  exact ⟨_, rfl, rfl, rfl, rfl, rfl, rfl⟩
theorem q0p (hl : p.length ≤ 16) :
  ∃ y, itB (exec (evL T) itL none qhc) (qs [0, 3, 11] true 0) ⟨[(0, (.fsl ((p).map OpI.r) c)), (3, (ii look)), (11, (ii 0))], []⟩ [] = some y ∧
   (p.all (qre look) = true ∧ (y.1 = .exit 4 ∧ y.2.1.marks = [] ∧ y.2.2 = []) ∨
   p.all (qre look) = false ∧ ∃ x, p.find? (fun x => !qre look x) = some x ∧ (y.1 = .ret ∧ y.2.1.marks = [] ∧ y.2.2 = [] ∧ Ev.look y.2.1.vars 8 = some (ii 21))) := by
 refine qjv p (fun i => ⟨[(0, (.fsl ((p).map OpI.r) c)), (3, (ii look)), (11, (ii i))], []⟩) [] (qre look) _ (fun _ y => _) ?_ ?_ ?_
 ·intro i x hi hx hp
  have hi' : (i : Int) < (p.length : Int) := by omega
  have hw : IntKind.i64.wrap ((i : Int) + 1) = ((i + 1 : Nat) : Int) := by rw [qax (by omega) (by omega)]; simp
  by_cases h1 : x.code = 2
  ·have h2 : ¬ x.c < look := by simpa [qre, h1] using hp
   simp only [qhc, zgs, zgr, zgq, zgt, OpI.r, hx, hi', hw, h1, h2, qiz, Ev.exec, qb, qe, qc, qai, Ev.Opnd.ev, Ev.Env.get, Ev.Env.set, Ev.look, qk, qad, qaf, qaj, ql, qs, Ev.keep, qae, qx, qd, qa4, qu, zgi, ↓qr, Ev.it1, ↓reduceIte, zga, zgb, zfe, zgf, zgg, zgh, Nat.reduceAdd, Nat.reduceEqDiff, reduceCtorEq, zgv, zgw, zfc, zfa, zgx, zfd, zgy]
  ·simp only [qhc, zgs, zgr, zgq, zgt, OpI.r, hx, hi', hw, h1, qiz, Ev.exec, qb, qe, qc, qai, Ev.Opnd.ev, Ev.Env.get, Ev.Env.set, Ev.Env.unset, Ev.look, qk, qad, qaf, qaj, ql, qs, Ev.keep, qae, qx, qd, qa4, qu, zgi, ↓qr, Ev.it1, ↓reduceIte, zga, zgb, zfe, zgg, zgh, Nat.reduceAdd, Nat.reduceEqDiff, reduceCtorEq, zgv, zgw, zfc, zfa, zgx, zfd, zgy]
 ·intro i x hi hx hp
  have hi' : (i : Int) < (p.length : Int) := by omega
  have h1 : x.code = 2 := by
   by_cases h1 : x.code = 2
   ·exact h1
   ·simp [qre, h1] at hp
  have h2 : x.c < look := by simpa [qre, h1] using hp
  simp only [qhc, zgs, zgr, zgq, zgt, OpI.r, hx, hi', h1, h2, Ev.exec, qb, qe, qc, qai, Ev.Opnd.ev, Ev.Env.get, Ev.Env.set, Ev.look, qk, qad, qaj, ql, zgi, ↓qr, Ev.it1, ↓reduceIte, zga, zgb, zgf, zgg, zgh, Nat.reduceAdd, Nat.reduceEqDiff, reduceCtorEq, zgv, zfa, zfd, zgy]
  exact ⟨_, rfl, rfl, rfl, rfl, rfl⟩
 ·simp only [qhc, Int.lt_irrefl, Ev.exec, qb, qe, qc, qai, Ev.Opnd.ev, Ev.Env.get, Ev.Env.set, Ev.look, ql, zgi, ↓qr, Ev.it1, ↓reduceIte, Nat.reduceEqDiff, reduceCtorEq, zgw, zfa, zgy]
  exact ⟨_, rfl, rfl, rfl, rfl⟩
theorem qsk : qbb (evL T) qiy [(.fsl ((p).map OpI.r) c), (ii ps), (ii lps), (ii look)] = some (ii (qqh p ps lps look)) := by
 have h0 := q0j p c
 rw [qbb, qy qx4 qwh]
 cases hs : qro p with
 | false =>
  rw [hs] at h0
  simp only [qhr, qqh, h0, hs, qiz, qn, Ev.exec, qb, qe, qc, qa2, qai, Ev.evs, Ev.Opnd.ev, Ev.Env.get, Ev.Env.set, Ev.look, qo, qm, qab, qak, Ev.kill, qah, qd, qa4, qu, qj, qh, qap, ↓qr, ↓reduceIte, zga, zgb, zfe, Nat.reduceAdd, reduceCtorEq, zfc, Bool.not_false, zgx, zfd, zgy]
 | true =>
  rw [hs] at h0
  have hl : p.length ≤ 16 := by simp only [qro, Bool.and_eq_true, decide_eq_true_eq] at hs; exact hs.1.2
  obtain ⟨⟨y1, e1, σ1⟩, k1, k2⟩ := q0y p c ps lps look hl
  obtain ⟨⟨y2, e2, σ2⟩, m1, m2⟩ := q0z p c lps look hl
  obtain ⟨⟨y3, e3, σ3⟩, n1, n2⟩ := q0p p c look hl
  simp only at k2 m2 n2
  rcases k2 with ⟨q1, rfl, q2, rfl, q3, q4, q5⟩ | ⟨q1, x, _, rfl, q2, rfl, q3⟩
  ·rcases m2 with ⟨r1, rfl, r2, rfl, r3, r4⟩ | ⟨r1, x, _, rfl, r2, rfl, r3⟩
   ·rcases n2 with ⟨t1, rfl, t2, rfl⟩ | ⟨t1, x, _, rfl, t2, rfl, t3⟩
    ·simp only [qhr, qqh, h0, hs, k1, q1, q2, q3, q4, q5, m1, r1, r2, r3, r4, n1, t1, t2, qiz, qn, Ev.exec, qb, qe, qc, qa2, qai, Ev.evs, Ev.Opnd.ev, Ev.Env.get, Ev.Env.set, Ev.look, qo, qm, qab, qak, Ev.kill, qah, qs, Ev.keep, qae, qx, qd, qa4, qu, qj, qh, qap, ↓qr, ↓qar, ↓reduceIte, zga, zgb, zfe, Nat.reduceAdd, Nat.reduceEqDiff, reduceCtorEq, zfc, Bool.not_true, zfa, Bool.true_eq_false, zgx, zfd, zgy]
    ·simp only [qhr, qqh, h0, hs, k1, q1, q2, q3, q4, q5, m1, r1, r2, r3, r4, n1, t1, t2, t3, qiz, qn, Ev.exec, qb, qe, qc, qa2, qai, Ev.evs, Ev.Opnd.ev, Ev.Env.get, Ev.Env.set, Ev.look, qo, qm, qab, qak, Ev.kill, qah, qs, Ev.keep, qae, qx, qd, qa4, qu, qj, qh, qap, ↓qr, ↓qar, ↓reduceIte, zga, zgb, zfe, Nat.reduceAdd, Nat.reduceEqDiff, reduceCtorEq, zfc, Bool.not_true, zfa, Bool.true_eq_false, zgx, zfd, zgy]
   ·simp only [qhr, qqh, h0, hs, k1, q1, q2, q3, q4, q5, m1, r1, r2, r3, qiz, qn, Ev.exec, qb, qe, qc, qa2, qai, Ev.evs, Ev.Opnd.ev, Ev.Env.get, Ev.Env.set, Ev.look, qo, qm, qab, qak, Ev.kill, qah, qs, Ev.keep, qae, qx, qd, qa4, qu, qj, qh, qap, ↓qr, ↓qar, ↓reduceIte, zga, zgb, zfe, Nat.reduceAdd, Nat.reduceEqDiff, reduceCtorEq, zfc, Bool.not_true, zfa, Bool.true_eq_false, zgx, zfd, zgy]
  ·simp only [qhr, qqh, h0, hs, k1, q1, q2, q3, qiz, qn, Ev.exec, qb, qe, qc, qa2, qai, Ev.evs, Ev.Opnd.ev, Ev.Env.get, Ev.Env.set, Ev.look, qo, qm, qab, qak, Ev.kill, qah, qs, Ev.keep, qae, qx, qd, qa4, qu, qj, qh, qap, ↓qr, ↓qar, ↓reduceIte, zga, zgb, zfe, Nat.reduceAdd, Nat.reduceEqDiff, reduceCtorEq, zfc, Bool.not_true, zfa, Bool.true_eq_false, zgx, zfd, zgy]
end
set_option maxRecDepth 10000
structure Pr where
 prog : Int
 pc : Int
 alive : Bool
 timer : List Int
 deriving DecidableEq
def Pr.r (x : Pr) : List AV := [(ii x.prog), (ii x.pc), (bb x.alive), (.fsl ((x.timer).map qca) false)]
theorem pr_lo (n : Nat) (x : Pr) : los n x.r = true := by simp only [Pr.r, qag, qa4, qu, qj, qh, zfc, zgy]
theorem pr_pl (x : Pr) : x.r.length = 4 ∧ qw x.r = true := ⟨rfl, rfl⟩
theorem qas (n : Nat) (l : List Pr) : qh2 n (l.map Pr.r) = true := qlk (pr_lo n) l
theorem q2r (l : List Pr) : qc5 4 (l.map Pr.r) = true := qly pr_pl l
structure Evt where
 time : Int
 key : List Int
 lp : Int
 kind : Int
 proc : Int
 arg : Int
 deriving DecidableEq
def Evt.r (x : Evt) : List AV := [(ii x.time), (.fsl ((x.key).map qca) false), (ii x.lp), (ii x.kind), (ii x.proc), (ii x.arg)]
theorem evt_lo (n : Nat) (x : Evt) : los n x.r = true := by simp only [Evt.r, qag, qa4, qu, qj, qh, zfc, zgy]
theorem evt_pl (x : Evt) : x.r.length = 6 ∧ qw x.r = true := ⟨rfl, rfl⟩
theorem qv (n : Nat) (l : List Evt) : qh2 n (l.map Evt.r) = true := qlk (evt_lo n) l
theorem qfr (l : List Evt) : qc5 6 (l.map Evt.r) = true := qly evt_pl l
structure Lp where
 r0 : Int
 r1 : Int
 procs : List Pr
 sum : Int
 deriving DecidableEq
def Lp.r (x : Lp) : List AV := [(ii x.r0), (ii x.r1), (.fsl ((x.procs).map Pr.r) false), (ii x.sum)]
structure Ex where
 r0 : Int
 r1 : Int
 procs : List Pr
 sum : Int
 ev : Evt
 out : List Evt
 n : Int
 gone : List (List Int)
 over : Bool
def Ex.kid (x : Ex) : List Int := x.ev.key ++ [x.n]
def Ex.create (x : Ex) (d : Int) (e : Evt) : Ex :=
 { x with n := w64 (x.n + 1), out := if w64 (x.ev.time + d) > 1152921504606846976 then x.out else x.out ++ [⟨w64 (x.ev.time + d), x.kid, e.lp, e.kind, e.proc, e.arg⟩], over := if w64 (x.ev.time + d) > 1152921504606846976 then true else x.over }

structure Ex.Small (x : Ex) : Prop where
 procs : x.procs.length ≤ 1000
 out : x.out.length ≤ 1000
 gone : x.gone.length ≤ 1000
 key : x.ev.key.length ≤ 100000
theorem q2v (l : List Int) : qqp (l.map qca) (l.map qca) = true := qrk (fun x => by simp only [qca, quk, qq9, q2q, zgv, zfc, zgy]) l
theorem eq_procs (l : List Pr) : qqp (l.map Pr.r) (l.map Pr.r) = true := qrk (fun x => by simp only [Pr.r, q2v, quk, qq9, q2q, q6p, q2w, zgv, zfc, zgy, beq_self_eq_true]) l
theorem eq_evts (l : List Evt) : qqp (l.map Evt.r) (l.map Evt.r) = true := qrk (fun x => by simp only [Evt.r, q2v, quk, qq9, q2q, q2w, zgv, zfc, zgy, beq_self_eq_true]) l
theorem eq_keys (l : List (List Int)) : qqp (l.map qfv) (l.map qfv) = true := qrk (fun x => by simp only [qfv, q2v, quk, qq9, q2w, zfc, zgy, beq_self_eq_true]) l
set_option maxRecDepth 10000
def qo8 (a b : Int) : Int := if a < b then -1 else if a > b then 1 else 0
theorem qmh (a b : Int) : qbb (evL T) qfi [(ii a), (ii b)] = some (ii (qo8 a b)) := by
 rw [qbb, qy qus qts]
 by_cases h1 : a < b
 ·simp only [qic, qo8, h1, qn, Ev.exec, qb, qe, qc, qai, Ev.Opnd.ev, Ev.Env.get, Ev.Env.set, Ev.look, qo, ql, qm, qab, qak, Ev.kill, qah, qd, qa4, qap, ↓qr, ↓reduceIte, zga, zgb, zfe, Nat.reduceAdd, Nat.reduceEqDiff, Int.reduceNeg, reduceCtorEq, zgv, zgx, zfd, zgy]
 by_cases h2 : a > b
 ·simp only [qic, qo8, h1, h2, qn, Ev.exec, qb, qe, qc, qai, Ev.Opnd.ev, Ev.Env.get, Ev.Env.set, Ev.look, qo, ql, qaq, qm, qab, qak, Ev.kill, qah, qd, qa4, qap, ↓qr, ↓reduceIte, zga, zgb, zfe, Nat.reduceAdd, Nat.reduceEqDiff, Int.reduceNeg, reduceCtorEq, zgv, zgw, zfa, zgx, zfd, zgy]
 ·simp only [qic, qo8, h1, h2, qn, Ev.exec, qb, qe, qc, qai, Ev.Opnd.ev, Ev.Env.get, Ev.Env.set, Ev.look, qo, ql, qaq, qm, qab, qak, Ev.kill, qah, qd, qa4, qap, ↓qr, ↓reduceIte, zga, zgb, zfe, Nat.reduceAdd, Nat.reduceEqDiff, Int.reduceNeg, reduceCtorEq, zgw, zfa, zgx, zfd, zgy]
def qk9 : List Int → List Int → Int
 | x :: a, y :: b => if x = y then qk9 a b else qo8 x y
 | [], b => if b.length = 0 then 0 else -1
 | _ :: _, [] => 1
theorem qut : ∀ a b : List Int, ((a.zip b).all (fun z => decide (z.1 = z.2)) = true → qk9 a b = qo8 a.length b.length) ∧ ∀ x, (a.zip b).find? (fun z => !decide (z.1 = z.2)) = some x → qk9 a b = qo8 x.1 x.2
 | [], b => by
  refine ⟨fun _ => ?_, fun x h => by simp at h⟩
  cases b with
  | nil => rfl
  | cons y b =>
   have : ((0 : Nat) : Int) < ((y :: b).length : Int) := by simp only [zga]; omega
   simp only [qk9, zga, Nat.succ_ne_zero, if_false, qo8, zgb]
   rw [if_pos (by omega)]
 | x :: a, [] => by
  refine ⟨fun _ => ?_, fun x h => by simp at h⟩
  simp only [qk9, qo8, zga, zgb]
  rw [if_neg (by omega), if_pos (by omega)]
 | x :: a, y :: b => by
  obtain ⟨h1, h2⟩ := qut a b
  simp only [List.zip_cons_cons, List.all_cons, List.find?_cons, qk9, zga]
  by_cases h : x = y
  ·simp only [h, zgv, Bool.true_and, if_true, Bool.not_true]
   refine ⟨fun k => ?_, h2⟩
   rw [h1 k]; unfold qo8
   have e1 : ((a.length : Int) < b.length) ↔ (((a.length + 1 : Nat) : Int) < ((b.length + 1 : Nat) : Int)) := by omega
   have e2 : ((a.length : Int) > b.length) ↔ (((a.length + 1 : Nat) : Int) > ((b.length + 1 : Nat) : Int)) := by omega
   simp only [e1, e2]
  ·simp only [h, zgw, Bool.false_and, if_false, Bool.not_false]
   exact ⟨fun k => by simp at k, fun z k => by simp at k; rw [← k]⟩
theorem qzd (a b : Int) : qo8 a b = 0 ↔ a = b := by
 unfold qo8; split
 ·constructor <;> intro h <;> omega
 split
 ·constructor <;> intro h <;> omega
 ·constructor <;> intro h <;> omega
theorem qu4 : ∀ a b : List Int, qk9 a b = 0 ↔ a = b
 | [], [] => by simp [qk9]
 | [], y :: b => by simp [qk9]
 | x :: a, [] => by simp [qk9]
 | x :: a, y :: b => by
  simp only [qk9, List.cons.injEq]
  split
  next h => rw [qu4 a b]; simp [h]
  next h => rw [qzd]; simp [h]
section
variable (a b : List Int) (c d : Bool)
theorem q3b (h1 : a.length ≤ 9223372036854775807) (h2 : b.length ≤ 9223372036854775807) :
  ∃ y, itB (exec (evL T) itL none qei) (qs [0, 1, 5] true 0) ⟨[(0, (.fsl ((a).map qca) c)), (1, (.fsl ((b).map qca) d)), (5, (ii 0))], []⟩ [] = some y ∧
   ((a.zip b).all (fun z => decide (z.1 = z.2)) = true ∧ (y.1 = .exit 0 ∧ y.2.1.marks = [] ∧ y.2.2 = [] ∧ Ev.look y.2.1.vars 0 = some (.fsl ((a).map qca) c) ∧ Ev.look y.2.1.vars 1 = some (.fsl ((b).map qca) d)) ∨
   (a.zip b).all (fun z => decide (z.1 = z.2)) = false ∧ ∃ x, (a.zip b).find? (fun z => !decide (z.1 = z.2)) = some x ∧ (y.1 = .ret ∧ y.2.1.marks = [] ∧ y.2.2 = [] ∧ Ev.look y.2.1.vars 4 = some (ii (qo8 x.1 x.2)))) := by
 have hzl : (a.zip b).length = min a.length b.length := List.length_zip
 refine qjv (a.zip b) (fun i => ⟨[(0, (.fsl ((a).map qca) c)), (1, (.fsl ((b).map qca) d)), (5, (ii i))], []⟩) [] (fun z => decide (z.1 = z.2)) _ (fun x y => _) ?_ ?_ ?_
 ·intro i x hi hx hp
  rw [hzl] at hi
  have hi' : (i : Int) < (a.length : Int) := by omega
  have hi2 : (i : Int) < (b.length : Int) := by omega
  have hw : IntKind.i64.wrap ((i : Int) + 1) = ((i + 1 : Nat) : Int) := by rw [qax (by omega) (by omega)]; simp
  obtain ⟨hxa, hxb⟩ := List.getElem?_zip_eq_some.1 hx
  have hp' := of_decide_eq_true hp
  simp only [qei, zgs, zgr, zgq, zgt, hxa, hxb, hi', hi2, hw, hp', qag, qca, Ev.exec, qb, qe, qc, qai, Ev.Opnd.ev, Ev.Env.get, Ev.Env.set, Ev.look, qk, qad, qaf, qb6, ql, qs, Ev.keep, qae, qx, qd, qa4, qu, zgi, ↓qr, Ev.it1, ↓reduceIte, zga, zgb, zfe, zgh, Nat.reduceEqDiff, reduceCtorEq, zgv, zgw, zfc, zfa, zgx, ne_eq, not_true_eq_false, zfd, zgy]
 ·intro i x hi hx hp
  rw [hzl] at hi
  have hi' : (i : Int) < (a.length : Int) := by omega
  have hi2 : (i : Int) < (b.length : Int) := by omega
  obtain ⟨hxa, hxb⟩ := List.getElem?_zip_eq_some.1 hx
  have hp' : ¬ x.1 = x.2 := of_decide_eq_false hp
  have hc := qmh x.1 x.2
  simp only [qei, zgs, zgr, zgq, zgt, hxa, hxb, hi', hi2, hp', hc, qca, Ev.exec, qb, qe, qc, qa2, qai, Ev.evs, Ev.Opnd.ev, Ev.Env.get, Ev.Env.set, Ev.look, qk, qad, qb6, ql, qa4, qj, qh, zgi, ↓qr, Ev.it1, ↓reduceIte, zga, zgb, zgh, Nat.reduceEqDiff, reduceCtorEq, zgv, zfc, zfa, ne_eq, zfb, zfd, zgy]
  exact ⟨_, rfl, rfl, rfl, rfl, rfl⟩
 ·rw [hzl]
  by_cases hab : a.length ≤ b.length
  ·rw [Nat.min_eq_left hab]
   simp only [qei, Int.lt_irrefl, Ev.exec, qb, qe, qc, qai, Ev.Opnd.ev, Ev.Env.get, Ev.Env.set, Ev.Env.unset, Ev.look, ql, zgi, ↓qr, Ev.it1, ↓reduceIte, Nat.reduceEqDiff, reduceCtorEq, zgw, zfa, zgy]
   exact ⟨_, rfl, rfl, rfl, rfl, rfl, rfl⟩
  ·rw [Nat.min_eq_right (by omega)]
   have h3 : (b.length : Int) < (a.length : Int) := by omega
   simp only [qei, Int.lt_irrefl, h3, Ev.exec, qb, qe, qc, qai, Ev.Opnd.ev, Ev.Env.get, Ev.Env.set, Ev.look, ql, zgi, ↓qr, Ev.it1, ↓reduceIte, Nat.reduceEqDiff, reduceCtorEq, zgv, zgw, zfa, zgy]
   exact ⟨_, rfl, rfl, rfl, rfl, rfl, rfl⟩
theorem qsl (h1 : a.length ≤ 9223372036854775807) (h2 : b.length ≤ 9223372036854775807) : qbb (evL T) qd7 [(.fsl ((a).map qca) c), (.fsl ((b).map qca) d)] = some (ii (qk9 a b)) := by
 obtain ⟨⟨y, e, σ⟩, k1, k2⟩ := q3b a b c d h1 h2
 simp only at k2
 obtain ⟨z1, z2⟩ := qut a b
 rw [qbb, qy qq4 qqr]
 rcases k2 with ⟨k3, rfl, k4, rfl, k5, k6⟩ | ⟨k3, x, k7, rfl, k4, rfl, k5⟩
 ·have hc := qmh a.length b.length
  rw [z1 k3]
  simp only [qg6, k1, k4, k5, k6, hc, qag, qn, Ev.exec, qb, qe, qc, qa2, qai, Ev.evs, Ev.Opnd.ev, Ev.Env.get, Ev.Env.set, Ev.look, qo, qm, qab, qak, Ev.kill, qah, qs, Ev.keep, qae, qx, qd, qa4, qu, qj, qh, qap, zgi, ↓qr, ↓qar, ↓reduceIte, zga, zgb, zfe, Nat.reduceAdd, Nat.reduceEqDiff, reduceCtorEq, zfc, zgx, zfd, zgy]
 ·rw [z2 x k7]
  simp only [qg6, k1, k4, k5, qag, qn, Ev.exec, qb, qe, qc, qai, Ev.Opnd.ev, Ev.Env.get, Ev.Env.set, Ev.look, qo, qm, qab, qak, Ev.kill, qah, qs, Ev.keep, qae, qx, qd, qa4, qu, qap, ↓qr, ↓qar, ↓reduceIte, zga, zgb, zfe, Nat.reduceAdd, Nat.reduceEqDiff, reduceCtorEq, zfc, zgx, zfd, zgy]
theorem qvs (h1 : a.length ≤ 9223372036854775807) (h2 : b.length ≤ 9223372036854775807) : qbb (evL T) qfh [(.fsl ((a).map qca) c), (.fsl ((b).map qca) d)] = some (bb (decide (a = b))) := by
 have hk := qsl a b c d h1 h2
 have hz := qu4 a b
 rw [qbb, qy quw qtl]
 by_cases h : a = b
 ·have h3 := hz.2 h
  rw [h3] at hk
  simp only [h, zgv]
  simp only [h] at hk
  simp only [qj5, hk, qag, qn, Ev.exec, qb, qe, qc, qa2, qai, Ev.evs, Ev.Opnd.ev, Ev.Env.get, Ev.Env.set, Ev.look, qo, qaj, qm, qab, qak, Ev.kill, qah, qd, qa4, qu, qj, qh, qap, ↓qr, ↓reduceIte, zga, zgb, zfe, Nat.reduceAdd, Nat.reduceEqDiff, reduceCtorEq, zgv, zfc, zgx, zfd, zgy]
 ·have h3 : ¬ qk9 a b = 0 := fun k => h (hz.1 k)
  simp only [h, zgw]
  simp only [qj5, hk, h3, qag, qn, Ev.exec, qb, qe, qc, qa2, qai, Ev.evs, Ev.Opnd.ev, Ev.Env.get, Ev.Env.set, Ev.look, qo, qaj, qm, qab, qak, Ev.kill, qah, qd, qa4, qu, qj, qh, qap, ↓qr, ↓reduceIte, zga, zgb, zfe, Nat.reduceAdd, Nat.reduceEqDiff, reduceCtorEq, zgw, zfc, zgx, zfd, zgy]
end
structure Evt.Short (x : Evt) : Prop where
 key : x.key.length ≤ 9223372036854775807
theorem q3l (x y : Evt) (hx : x.key.length ≤ 9223372036854775807) (hy : y.key.length ≤ 9223372036854775807) : qbb (evL T) qfu [(.agg [(ii x.time), (.fsl ((x.key).map qca) false), (ii x.lp), (ii x.kind), (ii x.proc), (ii x.arg)]), (.agg [(ii y.time), (.fsl ((y.key).map qca) false), (ii y.lp), (ii y.kind), (ii y.proc), (ii y.arg)])] = some (bb (decide (x = y))) := by
 obtain ⟨xt, xk, xl, xi, xp, xa⟩ := x
 obtain ⟨yt, yk, yl, yi, yp, ya⟩ := y
 have hk := qvs xk yk false false hx hy
 simp only [Evt.mk.injEq]
 rw [qbb, qy qte qsd]
 by_cases h1 : xt = yt
 case neg => simp only [qdu, h1, false_and, zgw, qn, Ev.exec, qb, qe, qc, qai, Ev.Opnd.ev, Ev.Env.get, Ev.Env.set, Ev.Env.unset, Ev.look, qo, qk, qad, Ev.AV.cells, qw, Ev.AV.plain, qaj, qm, qab, qak, Ev.kill, qah, qd, qa4, qap, ↓qr, ↓reduceIte, zga, zgb, zfe, zgg, zgh, Nat.reduceAdd, Nat.reduceEqDiff, reduceCtorEq, zgw, zfc, zfa, zgx, ne_eq, zfb, zff, zfd, zgy, false_and]
 by_cases h2 : xk = yk
 case neg =>
  simp only [h2, zgw] at hk
  simp only [qdu, h1, h2, hk, qag, false_and, and_false, zgw, qn, Ev.exec, qb, qe, qc, qa2, qai, Ev.evs, Ev.Opnd.ev, Ev.Env.get, Ev.Env.set, Ev.Env.unset, Ev.look, qo, qk, qad, Ev.AV.cells, qw, Ev.AV.plain, qaj, qm, qab, qak, Ev.kill, qah, qd, qa4, qu, qj, qh, qap, ↓qr, ↓reduceIte, zga, zgb, zfe, zgf, zgg, zgh, Nat.reduceAdd, Nat.reduceEqDiff, reduceCtorEq, zgv, zgw, zfc, zfa, zgx, ne_eq, zfb, zff, zfd, zgy, false_and, and_false]
 simp only [h2, zgv] at hk
 by_cases h3 : xl = yl
 case neg => simp only [qdu, h1, h2, h3, hk, qag, false_and, and_false, zgw, qn, Ev.exec, qb, qe, qc, qa2, qai, Ev.evs, Ev.Opnd.ev, Ev.Env.get, Ev.Env.set, Ev.Env.unset, Ev.look, qo, qk, qad, Ev.AV.cells, qw, Ev.AV.plain, qaj, qm, qab, qak, Ev.kill, qah, qd, qa4, qu, qj, qh, qap, ↓qr, ↓reduceIte, zga, zgb, zfe, zgf, zgg, zgh, Nat.reduceAdd, Nat.reduceEqDiff, reduceCtorEq, zgv, zgw, zfc, zfa, zgx, ne_eq, zfb, zff, zfd, zgy, false_and, and_false]
 by_cases h4 : xi = yi
 case neg => simp only [qdu, h1, h2, h3, h4, hk, qag, false_and, and_false, zgw, qn, Ev.exec, qb, qe, qc, qa2, qai, Ev.evs, Ev.Opnd.ev, Ev.Env.get, Ev.Env.set, Ev.Env.unset, Ev.look, qo, qk, qad, Ev.AV.cells, qw, Ev.AV.plain, qaj, qm, qab, qak, Ev.kill, qah, qd, qa4, qu, qj, qh, qap, ↓qr, ↓reduceIte, zga, zgb, zfe, zgf, zgg, zgh, Nat.reduceAdd, Nat.reduceEqDiff, reduceCtorEq, zgv, zgw, zfc, zfa, zgx, ne_eq, zfb, zff, zfd, zgy, false_and, and_false]
 by_cases h5 : xp = yp
 case neg => simp only [qdu, h1, h2, h3, h4, h5, hk, qag, false_and, and_false, zgw, qn, Ev.exec, qb, qe, qc, qa2, qai, Ev.evs, Ev.Opnd.ev, Ev.Env.get, Ev.Env.set, Ev.Env.unset, Ev.look, qo, qk, qad, Ev.AV.cells, qw, Ev.AV.plain, qaj, qm, qab, qak, Ev.kill, qah, qd, qa4, qu, qj, qh, qap, ↓qr, ↓reduceIte, zga, zgb, zfe, zgf, zgg, zgh, Nat.reduceAdd, Nat.reduceEqDiff, reduceCtorEq, zgv, zgw, zfc, zfa, zgx, ne_eq, zfb, zff, zfd, zgy, false_and, and_false]
 by_cases h6 : xa = ya
 case neg => simp only [qdu, h1, h2, h3, h4, h5, h6, hk, qag, and_false, zgw, qn, Ev.exec, qb, qe, qc, qa2, qai, Ev.evs, Ev.Opnd.ev, Ev.Env.get, Ev.Env.set, Ev.look, qo, qk, qad, Ev.AV.cells, qw, Ev.AV.plain, qaj, qm, qab, qak, Ev.kill, qah, qd, qa4, qu, qj, qh, qap, ↓qr, ↓reduceIte, zga, zgb, zfe, zgf, zgg, zgh, Nat.reduceAdd, Nat.reduceEqDiff, reduceCtorEq, zgv, zgw, zfc, zfa, zgx, ne_eq, zfb, zff, zfd, zgy, and_false]
 simp only [qdu, h1, h2, h3, h4, h5, h6, hk, qag, zgx, zgv, qn, Ev.exec, qb, qe, qc, qa2, qai, Ev.evs, Ev.Opnd.ev, Ev.Env.get, Ev.Env.set, Ev.look, qo, qk, qad, Ev.AV.cells, qw, Ev.AV.plain, qaj, qm, qab, qak, Ev.kill, qah, qd, qa4, qu, qj, qh, qap, ↓qr, ↓reduceIte, zga, zgb, zfe, zgf, zgg, zgh, Nat.reduceAdd, Nat.reduceEqDiff, reduceCtorEq, zgv, zfc, zfa, zgx, ne_eq, zfb, zff, zfd, zgy]
section
variable (a b : List Evt) (c d : Bool)
end
set_option maxRecDepth 10000
theorem q3p (a : Int) : qbb (evL T) qfz [(ii a)] = some (bb false) := by
 rw [qbb, qy qvv qt1]
 simp only [qll, qn, Ev.exec, qb, qe, qc, qai, Ev.Opnd.ev, Ev.Env.get, Ev.Env.set, Ev.look, qo, qb6, qm, qab, qak, Ev.kill, qah, qd, qa4, qap, ↓qr, ↓reduceIte, zga, zgb, zfe, Nat.reduceEqDiff, reduceCtorEq, zgw, zgx, ne_eq, not_true_eq_false, zfd, zgy]
theorem qkq (a b : Int) : qbb (evL T) qe0 [(ii a), (ii b)] = some (ii (qo8 a b)) := by
 have h0 := q3p
 rw [qbb, qy qso qsb]
 by_cases h1 : a < b
 ·simp only [qg0, qo8, h0, h1, qn, Ev.exec, qb, qe, qc, qa2, qai, Ev.evs, Ev.Opnd.ev, Ev.Env.get, Ev.Env.set, Ev.look, qo, ql, qm, qab, qak, Ev.kill, qah, qd, qa4, qj, qh, qap, ↓qr, ↓reduceIte, zga, zgb, zfe, Nat.reduceAdd, Nat.reduceEqDiff, Int.reduceNeg, reduceCtorEq, zgv, zfc, zfa, zgx, zfd, zgy]
 by_cases h2 : a > b
 ·simp only [qg0, qo8, h0, h1, h2, qn, Ev.exec, qb, qe, qc, qa2, qai, Ev.evs, Ev.Opnd.ev, Ev.Env.get, Ev.Env.set, Ev.look, qo, ql, qaq, qm, qab, qak, Ev.kill, qah, qd, qa4, qj, qh, qap, ↓qr, ↓reduceIte, zga, zgb, zfe, Nat.reduceAdd, Nat.reduceEqDiff, Int.reduceNeg, reduceCtorEq, zgv, zgw, zfc, zfa, zgx, zfd, zgy]
 ·simp only [qg0, qo8, h0, h1, h2, qn, Ev.exec, qb, qe, qc, qa2, qai, Ev.evs, Ev.Opnd.ev, Ev.Env.get, Ev.Env.set, Ev.look, qo, ql, qaq, qm, qab, qak, Ev.kill, qah, qd, qa4, qj, qh, qap, ↓qr, ↓reduceIte, zga, zgb, zfe, Nat.reduceAdd, Nat.reduceEqDiff, Int.reduceNeg, reduceCtorEq, zgw, zfc, zfa, zgx, zfd, zgy]
theorem q85 (x z : Int) (c : Bool) : qbb (evL T) qj6 [(.fsl (([x, z]).map qca) c)] = some (ii (if x = 0 then z else x)) := by
 have hL : ∃ y, itB (exec (evL T) itL none qj2) (qs [3, 6, 7, 8] true 0) ⟨[(3, (ii 0)), (6, (.fsl (([x, z]).map qca) c)), (7, (ii 2)), (8, (ii 0))], []⟩ [] = some y ∧ ([x, z].all (fun v => decide (v = 0)) = true ∧ (y.1 = .exit 0 ∧ y.2.1.marks = [] ∧ y.2.2 = [] ∧ Ev.look y.2.1.vars 3 = some (ii 0)) ∨
   [x, z].all (fun v => decide (v = 0)) = false ∧ ∃ v, [x, z].find? (fun v => !decide (v = 0)) = some v ∧ (y.1 = .ret ∧ y.2.1.marks = [] ∧ y.2.2 = [] ∧ Ev.look y.2.1.vars 2 = some (ii v))) := by
  refine qjv [x, z] (fun i => ⟨[(3, (ii 0)), (6, (.fsl (([x, z]).map qca) c)), (7, (ii 2)), (8, (ii i))], []⟩) [] (fun v => decide (v = 0)) _ (fun v y => _) ?_ ?_ ?_
  ·intro i v hi hv hp
   have hi2 : (i : Int) < 2 := by simp at hi; omega
   have hw : IntKind.i64.wrap ((i : Int) + 1) = ((i + 1 : Nat) : Int) := by rw [qax (by omega) (by omega)]; simp
   have hp' := of_decide_eq_true hp
   subst hp'
   have hl := qag 0 [x, z]
   generalize [x, z] = l at hv hl ⊢
   simp only [qj2, zgs, zgr, zgq, zgt, hv, hl, hi2, hw, qca, Ev.exec, qb, qe, qc, qai, Ev.Opnd.ev, Ev.Env.get, Ev.Env.set, Ev.look, qk, qad, qaf, qb6, ql, qs, Ev.keep, qae, qx, qd, qa4, qu, ↓qr, Ev.it1, ↓reduceIte, zga, zgb, zfe, zgh, Nat.reduceEqDiff, zgv, zgw, zfc, zfa, zgx, ne_eq, not_true_eq_false, zfd, zgy]
  ·intro i v hi hv hp
   have hi2 : (i : Int) < 2 := by simp at hi; omega
   have hp' : ¬ v = 0 := of_decide_eq_false hp
   have hl := qag 0 [x, z]
   generalize [x, z] = l at hv hl ⊢
   simp only [qj2, zgs, zgr, zgq, zgt, hv, hi2, hp', qca, Ev.exec, qb, qe, qc, qai, Ev.Opnd.ev, Ev.Env.get, Ev.Env.set, Ev.look, qk, qad, qb6, ql, ↓qr, Ev.it1, ↓reduceIte, zga, zgb, zgh, Nat.reduceEqDiff, zgv, zfa, ne_eq, zfb, zfd, zgy]
   exact ⟨_, rfl, rfl, rfl, rfl, rfl⟩
  ·have hl := qag 0 [x, z]
   rw [show ([x, z] : List Int).length = 2 from rfl]
   simp only [qj2, Int.lt_irrefl, Int.cast_ofNat_Int, Ev.exec, qb, qe, qc, qai, Ev.Opnd.ev, Ev.Env.get, Ev.Env.set, Ev.look, ql, ↓qr, Ev.it1, ↓reduceIte, Nat.reduceEqDiff, Int.cast_ofNat_Int, zgw, zfa, zgy]
   exact ⟨_, rfl, rfl, rfl, rfl, rfl⟩
 obtain ⟨⟨y, e, σ⟩, k1, k2⟩ := hL
 simp only at k2
 have hl := qag 0 [x, z]
 have hn : ([x, z].map qca).length = 2 := rfl
 rw [qbb, qy q0w q0e]
 rcases k2 with ⟨k3, rfl, k4, rfl, k5⟩ | ⟨k3, v, k6, rfl, k4, rfl, k5⟩
 ·have h1 : x = 0 ∧ z = 0 := by simpa using k3
  have h2 : (if x = 0 then z else x) = 0 := by rw [if_pos h1.1, h1.2]
  rw [h2]
  generalize [x, z].map qca = l at k1 hl hn ⊢
  simp only [qmg, hn, Int.cast_ofNat_Int, k1, k4, k5, hl, qn, Ev.exec, qb, qe, qc, qai, Ev.Opnd.ev, Ev.Env.get, Ev.Env.set, Ev.look, qo, qm, qab, qak, Ev.kill, qah, qs, Ev.keep, qae, qx, qd, qa4, qu, qap, ↓qr, ↓qar, ↓reduceIte, zga, zgb, zfe, Nat.reduceEqDiff, Int.cast_ofNat_Int, reduceCtorEq, zfc, zgx, zfd, zgy]
 ·have h1 : (if x = 0 then z else x) = v := by
   rw [List.find?_cons] at k6
   by_cases hx : x = 0
   ·rw [if_pos hx]; simp [hx] at k6; exact k6.2
   ·rw [if_neg hx]; simp [hx] at k6; exact k6
  rw [h1]
  generalize [x, z].map qca = l at k1 hl hn ⊢
  simp only [qmg, hn, Int.cast_ofNat_Int, k1, k4, k5, hl, qn, Ev.exec, qb, qe, qc, qai, Ev.Opnd.ev, Ev.Env.get, Ev.Env.set, Ev.look, qo, qm, qab, qak, Ev.kill, qah, qs, Ev.keep, qae, qx, qd, qa4, qu, qap, ↓qr, ↓qar, ↓reduceIte, zga, zgb, zfe, Nat.reduceEqDiff, Int.cast_ofNat_Int, reduceCtorEq, zfc, zgx, zfd, zgy]
theorem qos (x z : Int) (c : Bool) : qbb (evL T) qin [(.fsl (([x, z]).map qca) c)] = some (ii (if x = 0 then z else x)) := by
 have h := q85 x z c
 have hl := qag 0 [x, z]
 generalize [x, z].map qca = l at h hl ⊢
 rw [qbb, qy qzg qwz]
 simp only [qmw, h, hl, qn, Ev.exec, qb, qe, qc, qa2, qai, Ev.evs, Ev.Opnd.ev, Ev.Env.get, Ev.Env.set, Ev.look, qo, qm, qab, qak, Ev.kill, qah, qd, qa4, qu, qj, qh, qap, ↓qr, ↓reduceIte, zga, zgb, zfe, reduceCtorEq, zfc, zgx, zfd, zgy]
section
variable (a b : List Int) (c d : Bool)
theorem qw4 (h1 : a.length ≤ 9223372036854775807) (h2 : b.length ≤ 9223372036854775807) :
  ∃ y, itB (exec (evL T) itL none qde) (qs [0, 1, 9, 10, 11] true 0) ⟨[(0, (.fsl ((a).map qca) c)), (1, (.fsl ((b).map qca) d)), (9, (.fsl ((a).map qca) c)), (10, (ii a.length)), (11, (ii 0))], []⟩ [] = some y ∧
   ((a.zip b).all (fun z => decide (z.1 = z.2)) = true ∧ (a.length ≤ b.length ∧ y.1 = .exit 0 ∧ y.2.1.marks = [] ∧ y.2.2 = [] ∧ Ev.look y.2.1.vars 0 = some (.fsl ((a).map qca) c) ∧ Ev.look y.2.1.vars 1 = some (.fsl ((b).map qca) d) ∨ b.length < a.length ∧ y.1 = .ret ∧ y.2.1.marks = [] ∧ y.2.2 = [] ∧ Ev.look y.2.1.vars 4 = some (ii 1)) ∨
   (a.zip b).all (fun z => decide (z.1 = z.2)) = false ∧ ∃ x, (a.zip b).find? (fun z => !decide (z.1 = z.2)) = some x ∧ (y.1 = .ret ∧ y.2.1.marks = [] ∧ y.2.2 = [] ∧ Ev.look y.2.1.vars 4 = some (ii (qo8 x.1 x.2)))) := by
 have hzl : (a.zip b).length = min a.length b.length := List.length_zip
 refine qjv (a.zip b) (fun i => ⟨[(0, (.fsl ((a).map qca) c)), (1, (.fsl ((b).map qca) d)), (9, (.fsl ((a).map qca) c)), (10, (ii a.length)), (11, (ii i))], []⟩) [] (fun z => decide (z.1 = z.2)) _ (fun x y => _) ?_ ?_ ?_
 ·intro i x hi hx hp
  rw [hzl] at hi
  have hi' : (i : Int) < (a.length : Int) := by omega
  have hi2 : ¬ (i : Int) ≥ (b.length : Int) := by omega
  have hw : IntKind.i64.wrap ((i : Int) + 1) = ((i + 1 : Nat) : Int) := by rw [qax (by omega) (by omega)]; simp
  obtain ⟨hxa, hxb⟩ := List.getElem?_zip_eq_some.1 hx
  have hp' := of_decide_eq_true hp
  have hc := qkq x.1 x.2
  rw [(qzd x.1 x.2).2 hp'] at hc
  simp only [qde, zgs, zgr, zgq, zgt, hxa, hxb, hi', hi2, hw, hc, qag, qca, Ev.exec, qb, qe, qc, qa2, qai, Ev.evs, Ev.Opnd.ev, Ev.Env.get, Ev.Env.set, Ev.look, qk, qad, qaf, qb6, ql, qb2, qs, Ev.keep, qae, qx, qd, qa4, qu, qj, qh, zgi, ↓qr, Ev.it1, ↓reduceIte, zga, zgb, zfe, zgh, Nat.reduceEqDiff, reduceCtorEq, zgv, zgw, zfc, zfa, zgx, ne_eq, not_true_eq_false, zfd, zgy]
 ·intro i x hi hx hp
  rw [hzl] at hi
  have hi' : (i : Int) < (a.length : Int) := by omega
  have hi2 : ¬ (i : Int) ≥ (b.length : Int) := by omega
  obtain ⟨hxa, hxb⟩ := List.getElem?_zip_eq_some.1 hx
  have hp' : ¬ x.1 = x.2 := of_decide_eq_false hp
  have hc := qkq x.1 x.2
  have hz : ¬ qo8 x.1 x.2 = 0 := fun h => hp' ((qzd _ _).1 h)
  simp only [qde, zgs, zgr, zgq, zgt, hxa, hxb, hi', hi2, hz, hc, qca, Ev.exec, qb, qe, qc, qa2, qai, Ev.evs, Ev.Opnd.ev, Ev.Env.get, Ev.Env.set, Ev.look, qk, qad, qb6, ql, qb2, qa4, qj, qh, zgi, ↓qr, Ev.it1, ↓reduceIte, zga, zgb, zgh, Nat.reduceEqDiff, reduceCtorEq, zgv, zgw, zfc, zfa, ne_eq, zfb, zfd, zgy]
  exact ⟨_, rfl, rfl, rfl, rfl, rfl⟩
 ·rw [hzl]
  by_cases hab : a.length ≤ b.length
  ·rw [Nat.min_eq_left hab]
   simp only [qde, Int.lt_irrefl, Ev.exec, qb, qe, qc, qai, Ev.Opnd.ev, Ev.Env.get, Ev.Env.set, Ev.look, ql, ↓qr, Ev.it1, ↓reduceIte, Nat.reduceEqDiff, reduceCtorEq, zgw, zfa, zgy]
   exact ⟨_, rfl, .inl ⟨hab, rfl, rfl, rfl, rfl, rfl⟩⟩
  ·rw [Nat.min_eq_right (by omega)]
   have h3 : (b.length : Int) < (a.length : Int) := by omega
   obtain ⟨x, hx⟩ : ∃ x, a[b.length]? = some x := ⟨_, List.getElem?_eq_getElem (by omega)⟩
   have h4 : (b.length : Int) ≥ (b.length : Int) := Int.le_refl _
   simp only [qde, zgs, zgr, zgq, zgt, h3, h4, hx, qca, Ev.exec, qb, qe, qc, qai, Ev.Opnd.ev, Ev.Env.get, Ev.Env.set, Ev.look, qk, qad, ql, qb2, zgi, ↓qr, Ev.it1, ↓reduceIte, zga, zgb, zgh, Nat.reduceEqDiff, reduceCtorEq, zgv, zfa, zfd, zgy]
   exact ⟨_, rfl, .inr ⟨by omega, rfl, rfl, rfl, rfl⟩⟩
theorem qvq (h1 : a.length ≤ 9223372036854775807) (h2 : b.length ≤ 9223372036854775807) : qbb (evL T) qdc [(.fsl ((a).map qca) c), (.fsl ((b).map qca) d)] = some (ii (qk9 a b)) := by
 obtain ⟨⟨y, e, σ⟩, k1, k2⟩ := qw4 a b c d h1 h2
 simp only at k2
 obtain ⟨z1, z2⟩ := qut a b
 rw [qbb, qy qno qm5]
 rcases k2 with ⟨k3, ⟨k7, rfl, k4, rfl, k5, k6⟩ | ⟨k7, rfl, k4, rfl, k5⟩⟩ | ⟨k3, x, k7, rfl, k4, rfl, k5⟩
 ·rw [z1 k3]
  by_cases hl : (a.length : Int) < (b.length : Int)
  ·simp only [qdb, k1, k4, k5, k6, hl, qo8, qag, qn, Ev.exec, qb, qe, qc, qai, Ev.Opnd.ev, Ev.Env.get, Ev.Env.set, Ev.look, qo, ql, qm, qab, qak, Ev.kill, qah, qs, Ev.keep, qae, qx, qd, qa4, qu, qap, zgi, ↓qr, ↓qar, ↓reduceIte, zga, zgb, zfe, Nat.reduceAdd, Nat.reduceEqDiff, Int.reduceNeg, reduceCtorEq, zgv, zfc, zgx, zfd, zgy]
  ·have hg : ¬ (a.length : Int) > (b.length : Int) := by omega
   simp only [qdb, k1, k4, k5, k6, hl, hg, qo8, qag, qn, Ev.exec, qb, qe, qc, qai, Ev.Opnd.ev, Ev.Env.get, Ev.Env.set, Ev.look, qo, ql, qm, qab, qak, Ev.kill, qah, qs, Ev.keep, qae, qx, qd, qa4, qu, qap, zgi, ↓qr, ↓qar, ↓reduceIte, zga, zgb, zfe, Nat.reduceAdd, Nat.reduceEqDiff, Int.reduceNeg, reduceCtorEq, zgw, zfc, zfa, zgx, zfd, zgy]
 ·have hl : ¬ (a.length : Int) < (b.length : Int) := by omega
  have hg : (a.length : Int) > (b.length : Int) := by omega
  rw [z1 k3]
  simp only [qdb, k1, k4, k5, hl, hg, qo8, qag, qn, Ev.exec, qb, qe, qc, qai, Ev.Opnd.ev, Ev.Env.get, Ev.Env.set, Ev.look, qo, qm, qab, qak, Ev.kill, qah, qs, Ev.keep, qae, qx, qd, qa4, qu, qap, zgi, ↓qr, ↓qar, ↓reduceIte, zga, zgb, zfe, Nat.reduceAdd, Nat.reduceEqDiff, Int.reduceNeg, reduceCtorEq, zfc, zgx, zfd, zgy]
 ·rw [z2 x k7]
  simp only [qdb, k1, k4, k5, qag, qn, Ev.exec, qb, qe, qc, qai, Ev.Opnd.ev, Ev.Env.get, Ev.Env.set, Ev.look, qo, qm, qab, qak, Ev.kill, qah, qs, Ev.keep, qae, qx, qd, qa4, qu, qap, zgi, ↓qr, ↓qar, ↓reduceIte, zga, zgb, zfe, Nat.reduceAdd, Nat.reduceEqDiff, Int.reduceNeg, reduceCtorEq, zfc, zgx, zfd, zgy]
theorem qkg (h1 : a.length ≤ 9223372036854775807) (h2 : b.length ≤ 9223372036854775807) : qbb (evL T) qev [(.fsl ((a).map qca) c), (.fsl ((b).map qca) d)] = some (ii (qk9 a b)) := by
 have h := qvq a b c d h1 h2
 rw [qbb, qy qrn qqo]
 simp only [qis, h, qag, qn, Ev.exec, qb, qe, qc, qa2, qai, Ev.evs, Ev.Opnd.ev, Ev.Env.get, Ev.Env.set, Ev.look, qo, qm, qab, qak, Ev.kill, qah, qd, qa4, qu, qj, qh, qap, ↓qr, ↓reduceIte, zga, zgb, zfe, Nat.reduceAdd, Nat.reduceEqDiff, reduceCtorEq, zfc, zgx, zfd, zgy]
end
def qpi (x y : Evt) : Int := if qo8 x.time y.time = 0 then qk9 x.key y.key else qo8 x.time y.time
theorem qj7 (x y : Evt) (hx : x.key.length ≤ 9223372036854775807) (hy : y.key.length ≤ 9223372036854775807) (rs : Nat) (es : List (List AV)) (g : Nat) :
  (evL T).call qq [(.agg [(ii x.time), (.fsl ((x.key).map qca) false), (ii x.lp), (ii x.kind), (ii x.proc), (ii x.arg)]), (.agg [(ii y.time), (.fsl ((y.key).map qca) false), (ii y.lp), (ii y.kind), (ii y.proc), (ii y.arg)])] [.row rs es g] = some ((ii (qpi x y)), [.row rs es g]) := by
 obtain ⟨xt, xk, xl, xi, xp, xa⟩ := x
 obtain ⟨yt, yk, yl, yi, yp, ya⟩ := y
 have hc := qkq xt yt
 have hk := qkg xk yk false false hx hy
 have hf := qos (qo8 xt yt) (qk9 xk yk) true
 simp only [List.map_cons, List.map_nil, qca] at hf
 rw [qy qil qh7]
 simp only [qe8, show ∀ v : List AV, List.replicate 2 v = [v, v] from fun _ => rfl, hc, hk, hf, qpi, ite_self, qag, qn, Ev.exec, qb, qe, qc, qa2, qai, Ev.evs, Ev.Opnd.ev, Ev.Env.get, Ev.Env.set, Ev.look, qo, qk, qad, qf4, Ev.AV.cells, Ev.AV.uc, qw, Ev.AV.plain, qm, qab, qak, Ev.kill, qah, qd, Ev.SObj.lo, qa4, qu, qj, qh, qac, qan, ↓qr, ↓reduceIte, zga, zgb, zgc, zfe, zgf, zgg, zgj, zgk, zgh, Nat.reduceAdd, Nat.reduceEqDiff, Nat.reduceMul, Nat.reduceLT, Nat.reduceLeDiff, Nat.reducePow, reduceCtorEq, zfc, Bool.and_true, zfa, zgx, true_and, ne_eq, zfb, zff, zfd, zgu, zgy]
theorem qqq (x y : Evt) (hx : x.key.length ≤ 9223372036854775807) (hy : y.key.length ≤ 9223372036854775807) :
  qbb (evL T) qq [(.agg [(ii x.time), (.fsl ((x.key).map qca) false), (ii x.lp), (ii x.kind), (ii x.proc), (ii x.arg)]), (.agg [(ii y.time), (.fsl ((y.key).map qca) false), (ii y.lp), (ii y.kind), (ii y.proc), (ii y.arg)])] = some (ii (qpi x y)) := by
 obtain ⟨xt, xk, xl, xi, xp, xa⟩ := x
 obtain ⟨yt, yk, yl, yi, yp, ya⟩ := y
 have hc := qkq xt yt
 have hk := qkg xk yk false false hx hy
 have hf := qos (qo8 xt yt) (qk9 xk yk) true
 simp only [List.map_cons, List.map_nil, qca] at hf
 rw [qbb, qy qil qh7]
 simp only [qe8, show ∀ v : List AV, List.replicate 2 v = [v, v] from fun _ => rfl, hc, hk, hf, qpi, qag, qn, Ev.exec, qb, qe, qc, qa2, qai, Ev.evs, Ev.Opnd.ev, Ev.Env.get, Ev.Env.set, Ev.look, qo, qk, qad, qf4, Ev.AV.cells, Ev.AV.uc, qw, Ev.AV.plain, qm, qab, qak, Ev.kill, qah, qd, qa4, qu, qj, qh, qac, qan, qap, ↓qr, ↓reduceIte, zga, zgb, zfe, zgf, zgg, zgj, zgk, zgh, Nat.reduceAdd, Nat.reduceEqDiff, Nat.reduceMul, Nat.reduceLT, Nat.reduceLeDiff, Nat.reducePow, reduceCtorEq, zfc, zfa, zgx, ne_eq, zfb, zff, zfd, zgu, zgy]
end Go.Proofs.Ytbhhifdhlafklaa.K
namespace Go.Ev
section
variable {α : Type}
theorem qop {D L M : List α} {x : α} {n : Nat} (h : D = L ++ x :: M) (hn : n = L.length) : D[n]? = some x := by
 subst h hn; simp
theorem qvx {D L X M : List α} {i n : Nat} (h : D = L ++ (X ++ M)) (hi : i < X.length) (hn : n = L.length + i) : D[n]? = X[i]? := by
 subst h hn
 rw [List.getElem?_append_right (by omega), List.getElem?_append_left (by omega)]
 congr 1; omega
theorem q37 {D L M : List α} {x y : α} {n m : Nat} (h : D = L ++ y :: x :: M) (hn : n = L.length) (hm : m = n + 1) : (D.set m y).set n x = L ++ x :: y :: M := by
 subst h hm hn; simp []
theorem q7k {D L M : List α} {x y : α} {n m : Nat} (h : D = L ++ y :: x :: M) (hn : n = L.length) (hm : m = n + 1) : (D.set n x).set m y = L ++ x :: y :: M := by
 subst h hm hn; simp []
theorem swap_far {D L M N : List α} {x y : α} {n m : Nat} (h : D = L ++ x :: (M ++ y :: N)) (hn : n = L.length) (hm : m = n + 1 + M.length) : (D.set n y).set m x = L ++ y :: (M ++ x :: N) := by
 subst h hm hn
 rw [List.set_append, if_neg (Nat.lt_irrefl _), Nat.sub_self, List.set_cons_zero, List.set_append, if_neg (by omega), show L.length + 1 + M.length - L.length = M.length + 1 by omega, List.set_cons_succ, List.set_append, if_neg (Nat.lt_irrefl _), Nat.sub_self, List.set_cons_zero]
variable {R : α → α → Prop}
theorem cross (tr : ∀ a b c, R a b → R b c → R a c) {X Y : List α} (hX : X.Pairwise R) (hY : Y.Pairwise R) (h : ∀ u v, X[X.length - 1]? = some u → Y[0]? = some v → R u v) : ∀ a ∈ X, ∀ b ∈ Y, R a b := by
 intro a ha b hb
 obtain ⟨i, hi⟩ := List.mem_iff_getElem?.1 ha
 obtain ⟨j, hj⟩ := List.mem_iff_getElem?.1 hb
 obtain ⟨hi', hi⟩ := List.getElem?_eq_some_iff.1 hi
 obtain ⟨hj', hj⟩ := List.getElem?_eq_some_iff.1 hj
 rw [List.pairwise_iff_getElem] at hX hY
 have h0 := h _ _ (List.getElem?_eq_getElem (by omega)) (List.getElem?_eq_getElem (by omega))
 have h1 : R a Y[0] := by
  by_cases c : i = X.length - 1
  ·subst c; rw [← hi]; exact h0
  ·exact tr _ _ _ (by rw [← hi]; exact hX i (X.length - 1) hi' (by omega) (by omega)) h0
 by_cases c : j = 0
 ·subst c; rw [← hj]; exact h1
 ·exact tr _ _ _ h1 (by rw [← hj]; exact hY 0 j (by omega) hj' (by omega))
theorem q52 (tr : ∀ a b c, R a b → R b c → R a c) {X1 X2 Y1 Y2 Z1 Z2 : List α} (hX : (X1 ++ X2).Pairwise R) (hY : (Y1 ++ Y2).Pairwise R)
  (h1 : ∀ u v, X1[X1.length - 1]? = some u → Y2[0]? = some v → R u v) (h2 : ∀ u v, Y1[Y1.length - 1]? = some u → X2[0]? = some v → R u v)
  (p1 : Z1.Perm (X1 ++ Y1)) (p2 : Z2.Perm (X2 ++ Y2)) (s1 : Z1.Pairwise R) (s2 : Z2.Pairwise R) : (Z1 ++ Z2).Perm (X1 ++ X2 ++ (Y1 ++ Y2)) ∧ (Z1 ++ Z2).Pairwise R := by
 obtain ⟨x1, x2, x3⟩ := List.pairwise_append.1 hX
 obtain ⟨y1, y2, y3⟩ := List.pairwise_append.1 hY
 have c1 := cross tr x1 y2 h1
 have c2 := cross tr y1 x2 h2
 refine ⟨(p1.append p2).trans ?_, List.pairwise_append.2 ⟨s1, s2, ?_⟩⟩
 ·rw [List.append_assoc, List.append_assoc]
  refine List.Perm.append_left X1 ?_
  rw [← List.append_assoc, ← List.append_assoc]
  exact List.Perm.append_right Y2 List.perm_append_comm
 ·intro a ha b hb
  rw [p1.mem_iff, List.mem_append] at ha
  rw [p2.mem_iff, List.mem_append] at hb
  rcases ha with ha | ha <;> rcases hb with hb | hb
  ·exact x3 a ha b hb
  ·exact c1 a ha b hb
  ·exact c2 a ha b hb
  ·exact y3 a ha b hb
theorem ql8 (tr : ∀ a b c, R a b → R b c → R a c) {A B : List α} {x : α} (h : (A ++ B).Pairwise R) (h1 : ∀ u, A[A.length - 1]? = some u → R u x) (h2 : ∀ v, B[0]? = some v → R x v) : (A ++ x :: B).Pairwise R := by
 obtain ⟨a1, a2, a3⟩ := List.pairwise_append.1 h
 have c1 := cross tr a1 (List.pairwise_singleton R x) (fun u v hu hv => by simp at hv; subst hv; exact h1 u hu)
 have c2 := cross tr (List.pairwise_singleton R x) a2 (fun u v hu hv => by simp at hu; subst hu; exact h2 v hv)
 refine List.pairwise_append.2 ⟨a1, List.pairwise_cons.2 ⟨fun b hb => c2 x (by simp) b hb, a2⟩, fun a ha b hb => ?_⟩
 rcases List.mem_cons.1 hb with rfl | hb
 ·exact c1 a ha _ (by simp)
 ·exact a3 a ha b hb
inductive Blk (R : α → α → Prop) (s : Nat) : List α → Prop
 | last {l : List α} : l.length ≤ s → l.Pairwise R → Blk R s l
 | more {X Y : List α} : X.length = s → X.Pairwise R → Blk R s Y → Blk R s (X ++ Y)
theorem Blk.sorted {s : Nat} {l : List α} (h : Blk R s l) (hs : l.length ≤ s) : l.Pairwise R := by
 cases h with
 | last _ h => exact h
 | @more X Y h1 h2 h3 =>
  rw [List.length_append] at hs
  obtain rfl := List.eq_nil_of_length_eq_zero (l := Y) (by omega)
  simpa using h2
theorem Blk.split {s : Nat} {l : List α} (h : Blk R s l) (hs : s < l.length) : ∃ X Y, l = X ++ Y ∧ X.length = s ∧ X.Pairwise R ∧ Blk R s Y := by
 cases h with
 | last h1 _ => omega
 | @more X Y h1 h2 h3 => exact ⟨X, Y, rfl, h1, h2, h3⟩
theorem Blk.nil {s : Nat} : Blk R s ([] : List α) := .last (Nat.zero_le _) .nil
theorem qg7 {f : Env → qaa → R3} {s : Env → qaa → Option (Env × qaa)} {τ : Type} (E : τ → Env) (S : τ → qaa) (m : τ → Nat) (Inv : τ → Prop) (Q : CExit × Env × qaa → Prop)
  (step : ∀ a, Inv a → (∃ a', it1 f s (E a) (S a) = some (.inl (E a', S a')) ∧ Inv a' ∧ m a' < m a) ∨ ∃ y, it1 f s (E a) (S a) = some (.inr y) ∧ Q y) :
  ∀ a, Inv a → ∃ y, itB f s (E a) (S a) = some y ∧ Q y := by
 have : ∀ k a, m a ≤ k → Inv a → ∃ y, itB f s (E a) (S a) = some y ∧ Q y := by
  intro k
  induction k with
  | zero =>
   intro a hk ha
   rcases step a ha with ⟨a', h1, h2, h3⟩ | ⟨y, h1, h2⟩
   ·omega
   ·exact ⟨y, qqd h1, h2⟩
  | succ k ih =>
   intro a hk ha
   rcases step a ha with ⟨a', h1, h2, h3⟩ | ⟨y, h1, h2⟩
   ·obtain ⟨y, h4, h5⟩ := ih a' (by omega) h2
    exact ⟨y, q3f h1 h4, h5⟩
   ·exact ⟨y, qqd h1, h2⟩
 exact fun a => this (m a) a (Nat.le_refl _)
end
end Go.Ev
namespace Go.Proofs.Ytbhhifdhlafklaa.K
open Go.Ev
set_option maxRecDepth 10000
theorem qla {a b : Nat} (h : a + b < 2 ^ 62) : IntKind.i64.wrap ((a : Int) + (b : Int)) = ((a + b : Nat) : Int) := by rw [qax (by omega) (by omega)]; simp
theorem ql7 {a : Nat} (h : a < 2 ^ 62) : IntKind.i64.wrap ((a : Int) + 1) = ((a + 1 : Nat) : Int) := by rw [qax (by omega) (by omega)]; simp
theorem qfe {a b c : Nat} (h : a = b + c) (h2 : a < 2 ^ 62) : IntKind.i64.wrap ((a : Int) - (b : Int)) = (c : Int) := by rw [qax (by omega) (by omega)]; omega
theorem qr1 {a c : Nat} (h : a = c + 1) (h2 : a < 2 ^ 62) : IntKind.i64.wrap ((a : Int) - 1) = (c : Int) := by rw [qax (by omega) (by omega)]; omega
section
variable (g : Nat) (cl : Bool) (n : Nat)
theorem qqu (L X M Y N : List Evt) (hXY : Y.length = X.length) (hn : n = (L ++ (X ++ (M ++ (Y ++ N)))).length) (hb : n < 2 ^ 61) (a b : Nat) (ha : a = L.length) (hbb : b = L.length + X.length + M.length) :
  (evL T).call qa3 [.sl 0 g 0 n cl, (ii a), (ii b), (ii X.length), (.fn (.func qq) [] [])] [.row 6 ((L ++ (X ++ (M ++ (Y ++ N)))).map Evt.r) g] = some (.tup [], [.row 6 ((L ++ (Y ++ (M ++ (X ++ N)))).map Evt.r) g]) := by
 have hlen : n = L.length + (X.length + (M.length + (Y.length + N.length))) := by rw [hn]; simp
 have key := qfp (f := exec (evL T) itL none qc4) (s := qs [0, 1, 2, 3, 10] true 1) (α := List Evt)
  (fun i D => ⟨[(0, .sl 0 g 0 n cl), (1, (ii a)), (2, (ii b)), (3, (ii X.length)), (10, (ii i))], []⟩) (fun i D => [.row 6 ((D).map Evt.r) g])
  (fun i D => D = L ++ ((Y.take i ++ X.drop i) ++ (M ++ ((X.take i ++ Y.drop i) ++ N)))) X.length
  (fun y => y.1 = .exit 0 ∧ y.2.1.marks = [] ∧ y.2.2 = [.row 6 ((L ++ (Y ++ (M ++ (X ++ N)))).map Evt.r) g]) ?_ ?_ 0 _ (Nat.zero_le _) rfl
 ·obtain ⟨⟨y, e, σ⟩, k1, k2, k3, k4⟩ := key
  simp only [zgo, zgg, zgl, Int.cast_ofNat_Int] at k1 k2 k3 k4
  subst k2; subst k4
  rw [qy qjw qjm]
  simp only [qdd, k1, k3, qv, qn, Ev.exec, qb, qe, qc, qai, Ev.Opnd.ev, Ev.Env.get, Ev.Env.set, Ev.look, qo, qm, qak, Ev.kill, qah, qs, Ev.keep, qae, qx, qd, Ev.SObj.lo, qa4, qa8, qbm, qj, ↓qr, ↓qar, ↓reduceIte, zga, zgb, zgc, zfe, Nat.reduceAdd, Nat.reduceEqDiff, reduceCtorEq, zgv, zfc, zgx, zfd, zgu, zgy]
 ·rintro i D hi hD
  obtain ⟨x, hx⟩ : ∃ x, X[i]? = some x := ⟨_, List.getElem?_eq_getElem hi⟩
  obtain ⟨y, hy⟩ : ∃ y, Y[i]? = some y := ⟨_, List.getElem?_eq_getElem (by omega)⟩
  have dx : X.drop i = x :: X.drop (i + 1) := by obtain ⟨_, rfl⟩ := List.getElem?_eq_some_iff.1 hx; exact List.drop_eq_getElem_cons hi
  have dy : Y.drop i = y :: Y.drop (i + 1) := by obtain ⟨_, rfl⟩ := List.getElem?_eq_some_iff.1 hy; exact List.drop_eq_getElem_cons (by omega)
  have e1 : D = (L ++ Y.take i) ++ x :: ((X.drop (i + 1) ++ (M ++ X.take i)) ++ y :: (Y.drop (i + 1) ++ N)) := by rw [hD, dx, dy]; simp
  have l1 : a + i = (L ++ Y.take i).length := by simp; omega
  have l2 : b + i = a + i + 1 + (X.drop (i + 1) ++ (M ++ X.take i)).length := by simp; omega
  have gx : D[a + i]? = some x := qop e1 l1
  have gy : D[b + i]? = some y := by
   refine qop (L := (L ++ Y.take i) ++ x :: (X.drop (i + 1) ++ (M ++ X.take i))) (M := Y.drop (i + 1) ++ N) (by rw [e1]; simp) ?_
   rw [l2, l1]; simp; omega
  have ge : D.length = n := by rw [e1, hlen]; simp; omega
  have sw := swap_far e1 l1 l2
  have hne : ¬ (a + i = b + i) := by omega
  have hi' : (i : Int) < (X.length : Int) := by omega
  have wa : IntKind.i64.wrap ((a : Int) + (i : Int)) = ((a + i : Nat) : Int) := qla (by omega)
  have wb : IntKind.i64.wrap ((b : Int) + (i : Int)) = ((b + i : Nat) : Int) := qla (by omega)
  have wi : IntKind.i64.wrap ((i : Int) + 1) = ((i + 1 : Nat) : Int) := ql7 (by omega)
  have ra : a + i < n := by omega
  have rb : b + i < n := by omega
  obtain ⟨xt, xk, xl, xi, xp, xa⟩ := x
  obtain ⟨yt, yk, yl, yi, yp, ya⟩ := y
  have hs : ∀ v, ((D.map Evt.r).set (a + i) v)[b + i]? = some (Evt.r ⟨yt, yk, yl, yi, yp, ya⟩) := fun v => by rw [List.getElem?_set_ne hne, List.getElem?_map, gy]; rfl
  have hlo := qv 1 ((D.set (a + i) ⟨yt, yk, yl, yi, yp, ya⟩).set (b + i) ⟨xt, xk, xl, xi, xp, xa⟩)
  simp only [List.map_set, Evt.r] at hlo
  refine .inl ⟨(D.set (a + i) ⟨yt, yk, yl, yi, yp, ya⟩).set (b + i) ⟨xt, xk, xl, xi, xp, xa⟩, ?_, ?_⟩
  ·simp only [qc4, zgs, zgr, zgq, zgt, gx, gy, hs, hi', wa, wb, wi, ra, rb, hlo, List.map_set, Evt.r, Ev.exec, qb, qe, qc, qai, Ev.Opnd.ev, Ev.Env.get, Ev.Env.set, Ev.look, qk, qad, Ev.AV.cells, qw, Ev.AV.plain, qaf, ql, qs, Ev.keep, qae, qx, qd, Ev.SObj.lo, qa4, qbm, ↓qr, Ev.it1, ↓reduceIte, zga, zgb, zgd, zgc, zgo, zfe, zgf, zgg, List.drop_nil, zgl, zgn, zgj, Nat.reduceAdd, Nat.reduceEqDiff, reduceCtorEq, zgv, zfc, zgx, zfd, zgu, Nat.le_refl, zgy]
  ·rw [sw, qh8 hx, qh8 hy]; simp
 ·rintro D hD
  have hD' : D = L ++ (Y ++ (M ++ (X ++ N))) := by rw [hD, ← hXY, List.take_length, List.drop_length, hXY, List.take_length, List.drop_length]; simp
  subst hD'
  simp only [qc4, Int.lt_irrefl, Ev.exec, qb, qe, qc, qai, Ev.Opnd.ev, Ev.Env.get, Ev.Env.set, Ev.look, ql, ↓qr, Ev.it1, ↓reduceIte, Nat.reduceEqDiff, reduceCtorEq, zgw, zfa, zgy]
  exact ⟨_, rfl, rfl, rfl, rfl⟩
end
open Go.Ev
theorem q6o (a b : Int) : qo8 b a = -qo8 a b := by unfold qo8; split <;> split <;> (try split) <;> omega
theorem qjl (a b : Int) : (qo8 a b < 0 ↔ a < b) ∧ (qo8 a b = 0 ↔ a = b) ∧ (0 < qo8 a b ↔ b < a) := by
 unfold qo8
 split
 ·refine ⟨?_, ?_, ?_⟩ <;> omega
 split
 ·refine ⟨?_, ?_, ?_⟩ <;> omega
 ·refine ⟨?_, ?_, ?_⟩ <;> omega
theorem q33 : ∀ a b : List Int, qk9 b a = -qk9 a b
 | [], [] => rfl
 | [], y :: b => by simp [qk9]
 | x :: a, [] => by simp [qk9]
 | x :: a, y :: b => by
  simp only [qk9]
  by_cases h : x = y
  ·subst h; simp only [if_true]; exact q33 a b
  ·rw [if_neg h, if_neg (fun e => h e.symm)]; exact q6o x y
theorem qyq : ∀ a b c : List Int, qk9 a b ≤ 0 → qk9 b c ≤ 0 → qk9 a c ≤ 0
 | [], b, c, _, _ => by cases c <;> simp [qk9]
 | x :: a, [], c, h, _ => by simp [qk9] at h
 | x :: a, y :: b, [], _, h => by simp [qk9] at h
 | x :: a, y :: b, z :: c, h1, h2 => by
  simp only [qk9] at h1 h2 ⊢
  have c1 := qjl x y
  have c2 := qjl y z
  have c3 := qjl x z
  by_cases e1 : x = y
  ·subst e1
   rw [if_pos rfl] at h1
   by_cases e2 : x = z
   ·subst e2; rw [if_pos rfl] at h2 ⊢; exact qyq a b c h1 h2
   ·rw [if_neg e2] at h2 ⊢; exact h2
  ·rw [if_neg e1] at h1
   by_cases e2 : y = z
   ·subst e2; rw [if_neg e1]; exact h1
   ·rw [if_neg e2] at h2
    have : ¬ x = z := by intro e; omega
    rw [if_neg this]
    omega
def leE (x y : Evt) : Prop := qpi x y ≤ 0
theorem qoj (x y : Evt) : qpi y x = -qpi x y := by
 unfold qpi
 have := q6o x.time y.time
 have := q33 x.key y.key
 by_cases h : qo8 x.time y.time = 0
 ·rw [if_pos h, if_pos (by omega)]; assumption
 ·rw [if_neg h, if_neg (by omega)]; assumption
theorem qkt (x y z : Evt) (h1 : leE x y) (h2 : leE y z) : leE x z := by
 unfold leE qpi at *
 have c1 := qjl x.time y.time
 have c2 := qjl y.time z.time
 have c3 := qjl x.time z.time
 by_cases e1 : qo8 x.time y.time = 0
 ·rw [if_pos e1] at h1
  by_cases e2 : qo8 y.time z.time = 0
  ·rw [if_pos e2] at h2
   rw [if_pos (by omega)]; exact qyq _ _ _ h1 h2
  ·rw [if_neg e2] at h2
   rw [if_neg (by omega)]; omega
 ·rw [if_neg e1] at h1
  by_cases e2 : qo8 y.time z.time = 0
  ·rw [if_neg (by omega)]; omega
  ·rw [if_neg e2] at h2
   rw [if_neg (by omega)]; omega
theorem qpw (x y : Evt) (h : ¬ qpi x y < 0) : leE y x := by unfold leE; have := qoj x y; omega
theorem qym (x y : Evt) (h : qpi x y < 0) : leE x y := by unfold leE; omega
theorem q3m (x y : Evt) : qpi x y = 0 ↔ x.time = y.time ∧ x.key = y.key := by
 unfold qpi
 have := qjl x.time y.time
 have := qu4 x.key y.key
 by_cases h : qo8 x.time y.time = 0
 ·rw [if_pos h]; constructor
  ·intro k; exact ⟨by omega, by simpa [k] using this⟩
  ·intro k; exact this.2 k.2
 ·rw [if_neg h]; constructor
  ·intro k; exact absurd k h
  ·intro k; omega
open Go.Ev
set_option maxRecDepth 10000
section
variable (g : Nat) (cl : Bool) (n : Nat)
def qct (D : List Evt) : Prop := ∀ x ∈ D, x.key.length ≤ 9223372036854775807
theorem q0f (P S Q : List Evt) (x : Evt) (hn : n = (P ++ (S ++ x :: Q)).length) (hb : n < 2 ^ 61) (hk : qct (P ++ (S ++ x :: Q))) (hS : S.Pairwise leE) (a : Nat) (ha : a = P.length) (b i : Int) :
  ∃ y, itB (exec (evL T) itL none qbv) (qs [0, 1, 2, 3, 8, 9] true 1) ⟨[(0, .sl 0 g 0 n cl), (1, (ii a)), (2, (ii b)), (3, (.fn (.func qq) [] [])), (8, (ii i)), (9, (ii ((a + S.length : Nat))))], []⟩ [.row 6 ((P ++ (S ++ x :: Q)).map Evt.r) g] = some y ∧
   (y.1 = .exit 2 ∧ y.2.1.marks = [] ∧ Ev.look y.2.1.vars 0 = some (.sl 0 g 0 n cl) ∧ Ev.look y.2.1.vars 1 = some (ii a) ∧ Ev.look y.2.1.vars 2 = some (ii b) ∧ Ev.look y.2.1.vars 3 = some (.fn (.func qq) [] []) ∧ Ev.look y.2.1.vars 8 = some (ii i) ∧ ∃ S' : List Evt, S'.Perm (x :: S) ∧ S'.Pairwise leE ∧ y.2.2 = [.row 6 ((P ++ (S' ++ Q)).map Evt.r) g]) := by
 refine qg7 (τ := List Evt × Nat) (fun s => ⟨[(0, .sl 0 g 0 n cl), (1, (ii a)), (2, (ii b)), (3, (.fn (.func qq) [] [])), (8, (ii i)), (9, (ii s.2))], []⟩) (fun s => [.row 6 ((s.1).map Evt.r) g]) (fun s => s.2)
  (fun s => ∃ A B, s.1 = P ++ (A ++ x :: (B ++ Q)) ∧ s.2 = a + A.length ∧ A ++ B = S ∧ ∀ v, B[0]? = some v → leE x v) _ ?_ (P ++ (S ++ x :: Q), a + S.length) ⟨S, [], by simp, rfl, by simp, by simp⟩
 rintro ⟨D, j⟩ ⟨A, B, hD, hj, hAB, hB⟩
 simp only at hD hj ⊢
 have hlen : n = P.length + (S.length + (Q.length + 1)) := by rw [hn]; simp
 have hSl : S.length = A.length + B.length := by rw [← hAB]; simp
 have fin : (∀ u, A[A.length - 1]? = some u → leE u x) → ∃ S' : List Evt, S'.Perm (x :: S) ∧ S'.Pairwise leE ∧ ([.row 6 ((D).map Evt.r) g] : qaa) = [.row 6 ((P ++ (S' ++ Q)).map Evt.r) g] := fun h => by
  refine ⟨A ++ x :: B, ?_, ql8 qkt (by rw [hAB]; exact hS) h hB, by rw [hD]; simp⟩
  rw [← hAB]; exact List.perm_middle
 rcases List.eq_nil_or_concat A with rfl | ⟨A0, y, rfl⟩
 ·have h1 : ¬ (j : Int) > (a : Int) := by simp at hj; omega
  refine .inr ?_
  simp only [qbv, h1, Ev.exec, qb, qe, qc, qai, Ev.Opnd.ev, Ev.Env.get, Ev.Env.set, Ev.Env.unset, Ev.look, qaq, ↓qr, Ev.it1, ↓reduceIte, Nat.reduceEqDiff, reduceCtorEq, zgw, zfa, zgy]
  exact ⟨_, rfl, rfl, rfl, rfl, rfl, rfl, rfl, rfl, fin (by simp)⟩
 ·simp only [List.concat_eq_append, zgp, zga, zgb] at hD hj hSl hAB fin
  obtain ⟨k, hk1⟩ : ∃ k, k = a + A0.length := ⟨_, rfl⟩
  have hjk : j = k + 1 := by omega
  have h1 : (j : Int) > (a : Int) := by omega
  have e1 : D = (P ++ A0) ++ y :: x :: (B ++ Q) := by rw [hD]; simp
  have l1 : k = (P ++ A0).length := by simp; omega
  have gy : D[k]? = some y := qop e1 l1
  have gx : D[j]? = some x := qop (L := P ++ A0 ++ [y]) (M := B ++ Q) (by rw [e1]; simp) (by simp; omega)
  have ge : D.length = n := by rw [e1, hlen]; simp; omega
  have ws : IntKind.i64.wrap ((j : Int) - 1) = (k : Int) := qr1 hjk (by omega)
  have rj : j < n := by omega
  have rk : k < n := by omega
  have kx : x.key.length ≤ 9223372036854775807 := hk x (by simp)
  have ky : y.key.length ≤ 9223372036854775807 := hk y (by rw [← hAB]; simp)
  have hc := qj7 x y kx ky 6 (D.map Evt.r) g
  have sw := q37 e1 l1 hjk
  have hne : ¬ (j = k) := by omega
  by_cases hlt : qpi x y < 0
  ·left
   have hle := qym x y hlt
   obtain ⟨x', rfl⟩ : ∃ z, x = z := ⟨x, rfl⟩
   have hlo := qv 1 ((D.set j y).set k x)
   refine ⟨((D.set j y).set k x, k), ?_, ⟨A0, y :: B, by rw [sw]; simp, hk1, by rw [← hAB]; simp, fun v hv => by simp at hv; rw [← hv]; exact hle⟩, by simp only; omega⟩
   obtain ⟨xt, xk, xl, xi, xp, xa⟩ := x
   obtain ⟨yt, yk, yl, yi, yp, ya⟩ := y
   have hs : ∀ v, ((D.map Evt.r).set j v)[k]? = some (Evt.r ⟨yt, yk, yl, yi, yp, ya⟩) := fun v => by rw [List.getElem?_set_ne hne, List.getElem?_map, gy]; rfl
   simp only [List.map_set, Evt.r] at hlo
   simp only at hc
   simp only [qbv, zgs, zgr, zgq, zgt, gx, gy, hs, h1, ws, rj, rk, hc, hlt, hlo, List.map_set, Evt.r, Ev.exec, qb, qe, qc, qkr, qai, Ev.evs, Ev.Opnd.ev, Ev.Env.get, Ev.Env.set, Ev.look, qk, qad, Ev.AV.cells, qw, Ev.AV.plain, qcr, ql, qaq, qs, Ev.keep, qae, qx, qd, Ev.SObj.lo, qa4, qbm, qe1, qj, ↓qr, Ev.it1, ↓reduceIte, zga, zgb, zgd, zgc, zgo, zfe, zgf, zgg, List.drop_nil, zgl, zgn, zgj, Nat.reduceAdd, Nat.reduceEqDiff, reduceCtorEq, zgv, zfc, zgx, zfd, zgu, Nat.le_refl, zgy]
  ·right
   have hf := fin (fun u hu => by simp at hu; rw [← hu]; exact qpw x y hlt)
   obtain ⟨xt, xk, xl, xi, xp, xa⟩ := x
   obtain ⟨yt, yk, yl, yi, yp, ya⟩ := y
   simp only at hc
   simp only [qbv, zgs, zgr, zgq, zgt, gx, gy, h1, ws, rj, rk, hc, hlt, Evt.r, Ev.exec, qb, qe, qc, qkr, qai, Ev.evs, Ev.Opnd.ev, Ev.Env.get, Ev.Env.set, Ev.look, qk, qad, qcr, ql, qaq, ↓qr, Ev.it1, ↓reduceIte, zga, zgb, zgd, zgc, zfe, zgg, zgl, zgn, Nat.reduceAdd, Nat.reduceEqDiff, reduceCtorEq, zgv, zgw, zfa, zgx, zfd, Nat.le_refl, zgy]
   exact ⟨_, rfl, rfl, rfl, rfl, rfl, rfl, rfl, rfl, hf⟩
theorem qv2 (P S Q : List Evt) (hn : n = (P ++ (S ++ Q)).length) (hb : n < 2 ^ 61) (hk : qct (P ++ (S ++ Q))) (a b : Nat) (ha : a = P.length) (hbb : b = a + S.length) :
  ∃ S' : List Evt, S'.Perm S ∧ S'.Pairwise leE ∧ (evL T).call qa1 [.sl 0 g 0 n cl, (ii a), (ii b), (.fn (.func qq) [] [])] [.row 6 ((P ++ (S ++ Q)).map Evt.r) g] = some (.tup [], [.row 6 ((P ++ (S' ++ Q)).map Evt.r) g]) := by
 have hlen : n = P.length + (S.length + Q.length) := by rw [hn]; simp
 have key := qg7 (f := exec (evL T) itL none qbx) (s := qs [0, 1, 2, 3, 8] true 1) (τ := List Evt × Nat)
  (fun s => ⟨[(0, .sl 0 g 0 n cl), (1, (ii a)), (2, (ii b)), (3, (.fn (.func qq) [] [])), (8, (ii s.2))], []⟩) (fun s => [.row 6 ((s.1).map Evt.r) g]) (fun s => b - s.2)
  (fun s => (∃ A B, s.1 = P ++ (A ++ (B ++ Q)) ∧ s.2 = a + A.length ∧ (A ++ B).Perm S ∧ A.Pairwise leE) ∨ S = [] ∧ s.1 = P ++ Q ∧ s.2 = a + 1)
  (fun y => y.1 = .exit 0 ∧ y.2.1.marks = [] ∧ ∃ S' : List Evt, S'.Perm S ∧ S'.Pairwise leE ∧ y.2.2 = [.row 6 ((P ++ (S' ++ Q)).map Evt.r) g]) ?_ (P ++ (S ++ Q), a + 1) ?_
 ·obtain ⟨⟨y, e, σ⟩, k1, k2, k3, S', k4, k5, k6⟩ := key
  simp only at k1 k2 k3 k6
  subst k2; subst k6
  refine ⟨S', k4, k5, ?_⟩
  have w1 : IntKind.i64.wrap ((a : Int) + 1) = ((a + 1 : Nat) : Int) := ql7 (by omega)
  rw [qy qig qh4]
  simp only [qc0, w1, k1, k3, qv, qn, Ev.exec, qb, qe, qc, qai, Ev.Opnd.ev, Ev.Env.get, Ev.Env.set, Ev.look, qo, qaf, qm, qak, Ev.kill, qah, qs, Ev.keep, qae, qx, qd, Ev.SObj.lo, qa4, qa8, qbm, qe1, qj, ↓qr, ↓qar, ↓reduceIte, zga, zgb, zgc, zfe, Nat.reduceAdd, Nat.reduceEqDiff, reduceCtorEq, zgv, zfc, zgx, zfd, zgu, zgy]
 ·rintro ⟨D, i⟩ (⟨A, B, hD, hi, hAB, hA⟩ | ⟨hS, hD, hi⟩)
  ·simp only at hD hi ⊢
   have hl := hAB.length_eq
   rw [List.length_append] at hl
   cases B with
   | nil =>
    have h1 : ¬ (i : Int) < (b : Int) := by simp at hl; omega
    right
    simp only [qbx, h1, Ev.exec, qb, qe, qc, qai, Ev.Opnd.ev, Ev.Env.get, Ev.Env.set, Ev.look, ql, ↓qr, Ev.it1, ↓reduceIte, Nat.reduceEqDiff, reduceCtorEq, zgw, zfa, zgy]
    exact ⟨_, rfl, rfl, rfl, A, by simpa using hAB, hA, by rw [hD]; simp⟩
   | cons x B =>
    rw [List.length_cons] at hl
    have h1 : (i : Int) < (b : Int) := by omega
    have hkD : qct (P ++ (A ++ x :: (B ++ Q))) := by
     intro z hz
     refine hk z ?_
     simp only [List.mem_append, List.mem_cons] at hz ⊢
     have := hAB.mem_iff (a := z)
     simp only [List.mem_append, List.mem_cons] at this
     rcases hz with h | h | h | h | h
     ·exact .inl h
     ·exact .inr (.inl (this.1 (.inl h)))
     ·exact .inr (.inl (this.1 (.inr (.inl h))))
     ·exact .inr (.inl (this.1 (.inr (.inr h))))
     ·exact .inr (.inr h)
    obtain ⟨⟨y, e, σ⟩, k1, k2, k3, k4, k5, k6, k7, k8, S', k9, k10, k11⟩ := q0f g cl n P A (B ++ Q) x (by rw [hlen]; simp; omega) hb hkD hA a ha b i
    simp only at k1 k2 k3 k4 k5 k6 k7 k8 k11
    subst k2; subst k11
    have w1 : IntKind.i64.wrap ((i : Int) + 1) = ((i + 1 : Nat) : Int) := ql7 (by omega)
    left
    refine ⟨(P ++ (S' ++ (B ++ Q)), i + 1), ?_, .inl ⟨S', B, rfl, ?_, ?_, k10⟩, ?_⟩
    ·rw [← hi] at k1
     rw [hD]
     simp only [zgm] at k1 ⊢
     simp only [qbx, h1, w1, k1, k3, k4, k5, k6, k7, k8, qv, Ev.exec, qb, qe, qc, qai, Ev.Opnd.ev, Ev.Env.get, Ev.Env.set, Ev.look, qaf, ql, qs, Ev.keep, qae, qx, qd, Ev.SObj.lo, qa4, qbm, qe1, qj, ↓qr, ↓qar, Ev.it1, ↓reduceIte, zga, zgb, zgc, zfe, Nat.reduceEqDiff, reduceCtorEq, zgv, zfc, zgx, zfd, zgu, zgy]
    ·have := k9.length_eq; rw [List.length_cons] at this; simp only; omega
    ·exact ((k9.append_right B).trans List.perm_middle.symm).trans hAB
    ·simp only; omega
  ·simp only at hD hi ⊢
   subst hS
   have h1 : ¬ (i : Int) < (b : Int) := by simp at hbb; omega
   right
   simp only [qbx, h1, Ev.exec, qb, qe, qc, qai, Ev.Opnd.ev, Ev.Env.get, Ev.Env.set, Ev.look, ql, ↓qr, Ev.it1, ↓reduceIte, Nat.reduceEqDiff, reduceCtorEq, zgw, zfa, zgy]
   exact ⟨_, rfl, rfl, rfl, [], List.Perm.nil, List.Pairwise.nil, by rw [hD]; simp⟩
 ·cases S with
  | nil => exact .inr ⟨rfl, by simp, rfl⟩
  | cons x S => exact .inl ⟨[x], S, by simp, by simp, by simp, List.pairwise_singleton _ _⟩
end
open Go.Ev
set_option maxRecDepth 10000
section
variable (g : Nat) (cl : Bool) (n : Nat)
theorem q96 (L X Y N : List Evt) (hX : 0 < X.length) (hY : 0 < Y.length) (hn : n = (L ++ (X ++ (Y ++ N))).length) (hb : n < 2 ^ 61) (a m b : Nat) (ha : a = L.length) (hm : m = a + X.length) (hbb : b = m + Y.length) :
  (evL T).call qbd [.sl 0 g 0 n cl, (ii a), (ii m), (ii b), (.fn (.func qq) [] [])] [.row 6 ((L ++ (X ++ (Y ++ N))).map Evt.r) g] = some (.tup [], [.row 6 ((L ++ (Y ++ (X ++ N))).map Evt.r) g]) := by
 have hlen : n = L.length + (X.length + (Y.length + N.length)) := by rw [hn]; simp
 have key := qg7 (f := exec (evL T) itL none qcl) (s := qs [0, 2, 4, 10, 11] true 1) (τ := List Evt × Nat × Nat)
  (fun s => ⟨[(0, .sl 0 g 0 n cl), (2, (ii m)), (4, (.fn (.func qq) [] [])), (10, (ii s.2.1)), (11, (ii s.2.2))], []⟩) (fun s => [.row 6 ((s.1).map Evt.r) g]) (fun s => s.2.1 + s.2.2)
  (fun s => ∃ L' X' Y' N', s.1 = L' ++ (X' ++ (Y' ++ N')) ∧ s.2.1 = X'.length ∧ s.2.2 = Y'.length ∧ 0 < X'.length ∧ 0 < Y'.length ∧ m = L'.length + X'.length ∧ L' ++ (Y' ++ (X' ++ N')) = L ++ (Y ++ (X ++ N)))
  (fun y => ∃ i : Nat, y.1 = .exit 0 ∧ y.2.1.marks = [] ∧ Ev.look y.2.1.vars 0 = some (.sl 0 g 0 n cl) ∧ Ev.look y.2.1.vars 2 = some (ii m) ∧ Ev.look y.2.1.vars 4 = some (.fn (.func qq) [] []) ∧ Ev.look y.2.1.vars 10 = some (ii i) ∧
   ∃ L' X' Y' N' : List Evt, y.2.2 = [.row 6 ((L' ++ (X' ++ (Y' ++ N'))).map Evt.r) g] ∧ i = X'.length ∧ i = Y'.length ∧ m = L'.length + X'.length ∧ L' ++ (Y' ++ (X' ++ N')) = L ++ (Y ++ (X ++ N))) ?_ (L ++ (X ++ (Y ++ N)), X.length, Y.length) ⟨L, X, Y, N, rfl, rfl, rfl, hX, hY, by omega, rfl⟩
 ·obtain ⟨⟨y, e, σ⟩, k1, i, k2, k3, k4, k5, k6, k7, L', X', Y', N', k8, k9, k10, k11, k12⟩ := key
  simp only at k1 k2 k3 k4 k5 k6 k7 k8
  subst k2; subst k8
  have hl2 := congrArg List.length k12
  simp only [zgp] at hl2
  have w1 : IntKind.i64.wrap ((m : Int) - (a : Int)) = (X.length : Int) := qfe hm (by omega)
  have w2 : IntKind.i64.wrap ((b : Int) - (m : Int)) = (Y.length : Int) := qfe hbb (by omega)
  have w3 : IntKind.i64.wrap ((m : Int) - (i : Int)) = (L'.length : Int) := qfe (by omega) (by omega)
  have sw := qqu g cl n L' X' [] Y' N' (by omega) (by simp; omega) hb L'.length m rfl (by simp; omega)
  simp only [zgl] at sw
  rw [← k9, k12] at sw
  rw [qy qki qka]
  simp only [qdr, w1, w2, w3, k1, k3, k4, k5, k6, k7, sw, qv, qn, Ev.exec, qb, qe, qc, qd3, qai, Ev.evs, Ev.Opnd.ev, Ev.Env.get, Ev.Env.set, Ev.look, qo, qcr, qm, qak, Ev.kill, qah, qs, Ev.keep, qae, qx, qd, Ev.SObj.lo, qa4, qa8, qbm, qe1, qj, ↓qr, ↓qar, ↓reduceIte, zga, zgb, zgc, zfe, Nat.reduceAdd, Nat.reduceEqDiff, reduceCtorEq, zgv, zfc, zgx, zfd, zgu, zgy]
 ·rintro ⟨D, i, j⟩ ⟨L', X', Y', N', hD, hi, hj, hX', hY', hm', heq⟩
  simp only at hD hi hj ⊢
  have hl2 := congrArg List.length heq
  simp only [zgp] at hl2
  by_cases hij : i = j
  ·right
   have h1 : (i : Int) = (j : Int) := by omega
   subst hij
   simp only [qcl, Ev.exec, qb, qe, qc, qai, Ev.Opnd.ev, Ev.Env.get, Ev.Env.set, Ev.look, qb6, ↓qr, Ev.it1, ↓reduceIte, Nat.reduceEqDiff, reduceCtorEq, zgw, zfa, ne_eq, not_true_eq_false, zgy]
   exact ⟨_, rfl, i, rfl, rfl, rfl, rfl, rfl, rfl, L', X', Y', N', by rw [hD], hi, hj, hm', heq⟩
  have h1 : ¬ (i : Int) = (j : Int) := by omega
  left
  by_cases hgt : j < i
  ·have h2 : (i : Int) > (j : Int) := by omega
   obtain ⟨X1, X2, rfl, hX1⟩ : ∃ X1 X2, X' = X1 ++ X2 ∧ X1.length = j := ⟨X'.take j, X'.drop j, (List.take_append_drop _ _).symm, by simp; omega⟩
   rw [List.length_append] at hi hX' hm' hl2
   have sw := qqu g cl n L' X1 X2 Y' N' (by omega) (by simp; omega) hb L'.length m rfl (by omega)
   rw [show L' ++ (X1 ++ (X2 ++ (Y' ++ N'))) = D by rw [hD]; simp, hX1] at sw
   have w3 : IntKind.i64.wrap ((m : Int) - (i : Int)) = (L'.length : Int) := qfe (by omega) (by omega)
   have w4 : IntKind.i64.wrap ((i : Int) - (j : Int)) = (X2.length : Int) := qfe (by omega) (by omega)
   refine ⟨(L' ++ (Y' ++ (X2 ++ (X1 ++ N'))), X2.length, j), ?_, ⟨L' ++ Y', X2, X1, N', by simp, rfl, hX1.symm, by omega, by omega, by simp; omega, by rw [← heq]; simp⟩, by first | omega | (simp only; omega)⟩
   simp only [qcl, h1, h2, w3, w4, sw, qv, Ev.exec, qb, qe, qc, qd3, qai, Ev.evs, Ev.Opnd.ev, Ev.Env.get, Ev.Env.set, Ev.look, qcr, qb6, qaq, qs, Ev.keep, qae, qx, qd, Ev.SObj.lo, qa4, qbm, qe1, qj, ↓qr, Ev.it1, ↓reduceIte, zgc, zfe, Nat.reduceEqDiff, reduceCtorEq, zgv, zfc, zgx, ne_eq, zfb, zgu, zgy]
  ·have h2 : ¬ (i : Int) > (j : Int) := by omega
   obtain ⟨Y1, Y2, rfl, hY2⟩ : ∃ Y1 Y2, Y' = Y1 ++ Y2 ∧ Y2.length = i := ⟨Y'.take (j - i), Y'.drop (j - i), (List.take_append_drop _ _).symm, by simp; omega⟩
   rw [List.length_append] at hj hY' hl2
   have sw := qqu g cl n L' X' Y1 Y2 N' (by omega) (by simp; omega) hb L'.length (m + Y1.length) rfl (by omega)
   rw [show L' ++ (X' ++ (Y1 ++ (Y2 ++ N'))) = D by rw [hD]; simp, ← hi] at sw
   have w3 : IntKind.i64.wrap ((m : Int) - (i : Int)) = (L'.length : Int) := qfe (by omega) (by omega)
   have w4 : IntKind.i64.wrap ((m : Int) + (j : Int)) = ((m + j : Nat) : Int) := qla (by omega)
   have w5 : IntKind.i64.wrap (((m + j : Nat) : Int) - (i : Int)) = ((m + Y1.length : Nat) : Int) := qfe (by omega) (by omega)
   have w6 : IntKind.i64.wrap ((j : Int) - (i : Int)) = (Y1.length : Int) := qfe (by omega) (by omega)
   refine ⟨(L' ++ (Y2 ++ (Y1 ++ (X' ++ N'))), i, Y1.length), ?_, ⟨L', Y2, Y1, X' ++ N', rfl, hY2.symm, rfl, by omega, by omega, by omega, by rw [← heq]; simp⟩, by first | omega | (simp only; omega)⟩
   simp only [qcl, h1, h2, w3, w4, w5, w6, sw, qv, Ev.exec, qb, qe, qc, qd3, qai, Ev.evs, Ev.Opnd.ev, Ev.Env.get, Ev.Env.set, Ev.look, qaf, qcr, qb6, qaq, qs, Ev.keep, qae, qx, qd, Ev.SObj.lo, qa4, qbm, qe1, qj, ↓qr, Ev.it1, ↓reduceIte, zgc, zfe, Nat.reduceEqDiff, reduceCtorEq, zgv, zgw, zfc, zfa, zgx, ne_eq, zfb, zgu, zgy]
end
open Go.Ev
set_option maxRecDepth 10000
theorem qt5 (s h : Nat) (hh : h = s / 2) : ql3 .shr (.v (.int .u64 (s : Int))) (.v (.int .u64 1)) = some (.v (.int .u64 (h : Int))) := by
 subst hh
 show (if (1 : Int) < 0 then none else some (AV.v (.int .u64 ((s : Int).fdiv (2 ^ (min (1 : Int).toNat IntKind.u64.bits)))))) = _
 rw [if_neg (by omega), show (2 : Int) ^ (min (1 : Int).toNat IntKind.u64.bits) = 2 from rfl, Int.fdiv_eq_ediv_of_nonneg _ (by omega)]
 rw [show (s : Int) / 2 = ((s / 2 : Nat) : Int) by omega]
theorem qq6 {n : Nat} (h : n < 2 ^ 63) : IntKind.u64.wrap (n : Int) = (n : Int) := by
 have h3 : IntKind.u64.bits = 64 := rfl
 have h4 : IntKind.u64.signed = false := rfl
 simp only [IntKind.wrap, h3, h4, Bool.false_and, zfa, if_false]
 omega
theorem qrl {n : Nat} (h : n < 2 ^ 63) : IntKind.i64.wrap (n : Int) = (n : Int) := qax (by omega) (by omega)
section
variable (g : Nat) (cl : Bool) (n : Nat)
theorem q43 (D : List Evt) (x : Evt) (hn : n = D.length) (hb : n < 2 ^ 61) (hk : qct D) (a m b : Nat) (ha : D[a]? = some x) (hmb : m ≤ b) (hbn : b ≤ n) (han : a < n) :
  ∃ y, itB (exec (evL T) itL none qcf) (qs [0, 1, 4, 10, 11] true 1) ⟨[(0, .sl 0 g 0 n cl), (1, (ii a)), (4, (.fn (.func qq) [] [])), (10, (ii m)), (11, (ii b))], []⟩ [.row 6 ((D).map Evt.r) g] = some y ∧
   ∃ i : Nat, y.1 = .exit 0 ∧ y.2.1.marks = [] ∧ y.2.2 = [.row 6 ((D).map Evt.r) g] ∧ Ev.look y.2.1.vars 0 = some (.sl 0 g 0 n cl) ∧ Ev.look y.2.1.vars 1 = some (ii a) ∧ Ev.look y.2.1.vars 10 = some (ii i) ∧ m ≤ i ∧ i ≤ b ∧ (i = m ∨ ∀ v, D[i - 1]? = some v → leE v x) ∧ (i = b ∨ ∀ v, D[i]? = some v → leE x v) := by
 refine qg7 (τ := Nat × Nat) (fun s => ⟨[(0, .sl 0 g 0 n cl), (1, (ii a)), (4, (.fn (.func qq) [] [])), (10, (ii s.1)), (11, (ii s.2))], []⟩) (fun _ => [.row 6 ((D).map Evt.r) g]) (fun s => s.2 - s.1)
  (fun s => m ≤ s.1 ∧ s.1 ≤ s.2 ∧ s.2 ≤ b ∧ (s.1 = m ∨ ∀ v, D[s.1 - 1]? = some v → leE v x) ∧ (s.2 = b ∨ ∀ v, D[s.2]? = some v → leE x v)) _ ?_ (m, b) ⟨Nat.le_refl _, hmb, Nat.le_refl _, .inl rfl, .inl rfl⟩
 rintro ⟨i, j⟩ ⟨h1, h2, h3, h4, h5⟩
 simp only at h1 h2 h3 h4 h5 ⊢
 by_cases hij : i < j
 case neg =>
  have c1 : ¬ (i : Int) < (j : Int) := by omega
  right
  simp only [qcf, c1, Ev.exec, qb, qe, qc, qai, Ev.Opnd.ev, Ev.Env.get, Ev.Env.set, Ev.look, ql, ↓qr, Ev.it1, ↓reduceIte, Nat.reduceEqDiff, reduceCtorEq, zgw, zfa, zgy]
  refine ⟨_, rfl, i, rfl, rfl, rfl, rfl, rfl, rfl, h1, by omega, h4, ?_⟩
  obtain rfl : i = j := by omega
  exact h5
 obtain ⟨h, hh⟩ : ∃ h, h = (i + j) / 2 := ⟨_, rfl⟩
 have c1 : (i : Int) < (j : Int) := by omega
 obtain ⟨y, hy⟩ : ∃ y, D[h]? = some y := ⟨_, List.getElem?_eq_getElem (by omega)⟩
 have w1 : IntKind.i64.wrap ((i : Int) + (j : Int)) = ((i + j : Nat) : Int) := qla (by omega)
 have w2 : IntKind.u64.wrap ((i + j : Nat) : Int) = ((i + j : Nat) : Int) := qq6 (by omega)
 have w3 := qt5 (i + j) h hh
 have w4 : IntKind.i64.wrap (h : Int) = (h : Int) := qrl (by omega)
 have w5 : IntKind.i64.wrap ((h : Int) + 1) = ((h + 1 : Nat) : Int) := ql7 (by omega)
 have rh : h < n := by omega
 have kx : x.key.length ≤ 9223372036854775807 := hk x (List.mem_of_getElem? ha)
 have ky : y.key.length ≤ 9223372036854775807 := hk y (List.mem_of_getElem? hy)
 have hc := qj7 y x ky kx 6 (D.map Evt.r) g
 left
 by_cases hlt : qpi y x < 0
 ·refine ⟨(h + 1, j), ?_, ⟨by simp only; omega, by simp only; omega, h3, .inr fun v hv => ?_, h5⟩, by simp only; omega⟩
  ·obtain ⟨xt, xk, xl, xi, xp, xa⟩ := x
   obtain ⟨yt, yk, yl, yi, yp, ya⟩ := y
   simp only at hc
   simp only [qcf, zgs, zgr, zgq, zgt, ha, hy, c1, w1, w2, w3, w4, w5, rh, han, hc, hlt, Evt.r, qv, Ev.exec, qb, qe, qc, qkr, qai, Ev.evs, Ev.Opnd.ev, Ev.Env.get, Ev.Env.set, Ev.look, qk, qad, qaf, ql, qs, Ev.keep, qae, qx, qd, Ev.SObj.lo, qa4, qbm, qe1, qj, ↓qr, Ev.it1, ↓reduceIte, zga, zgb, zgd, zgc, zfe, zgg, zgl, zgn, Nat.reduceAdd, Nat.reduceEqDiff, reduceCtorEq, zgv, zfc, zgx, zfd, zgu, Nat.le_refl, zgy]
  ·simp only [Nat.add_sub_cancel] at hv
   rw [hy] at hv; cases hv; exact qym y x hlt
 ·refine ⟨(i, h), ?_, ⟨h1, by simp only; omega, by simp only; omega, h4, .inr fun v hv => ?_⟩, by simp only; omega⟩
  ·obtain ⟨xt, xk, xl, xi, xp, xa⟩ := x
   obtain ⟨yt, yk, yl, yi, yp, ya⟩ := y
   simp only at hc
   simp only [qcf, zgs, zgr, zgq, zgt, ha, hy, c1, w1, w2, w3, w4, rh, han, hc, hlt, Evt.r, qv, Ev.exec, qb, qe, qc, qkr, qai, Ev.evs, Ev.Opnd.ev, Ev.Env.get, Ev.Env.set, Ev.look, qk, qad, qaf, ql, qs, Ev.keep, qae, qx, qd, Ev.SObj.lo, qa4, qbm, qe1, qj, ↓qr, Ev.it1, ↓reduceIte, zga, zgb, zgd, zgc, zfe, zgg, zgl, zgn, Nat.reduceAdd, Nat.reduceEqDiff, reduceCtorEq, zgv, zgw, zfc, zfa, zgx, zfd, zgu, Nat.le_refl, zgy]
  ·simp only at hv
   rw [hy] at hv; cases hv; exact qpw y x hlt
theorem q4v (D : List Evt) (x : Evt) (hn : n = D.length) (hb : n < 2 ^ 61) (hk : qct D) (a m : Nat) (hm : D[m]? = some x) (ham : a ≤ m) (hmn : m < n) :
  ∃ y, itB (exec (evL T) itL none qce) (qs [0, 2, 4, 14, 15] true 1) ⟨[(0, .sl 0 g 0 n cl), (2, (ii m)), (4, (.fn (.func qq) [] [])), (14, (ii a)), (15, (ii m))], []⟩ [.row 6 ((D).map Evt.r) g] = some y ∧
   ∃ i : Nat, y.1 = .exit 4 ∧ y.2.1.marks = [] ∧ y.2.2 = [.row 6 ((D).map Evt.r) g] ∧ Ev.look y.2.1.vars 0 = some (.sl 0 g 0 n cl) ∧ Ev.look y.2.1.vars 2 = some (ii m) ∧ Ev.look y.2.1.vars 14 = some (ii i) ∧ a ≤ i ∧ i ≤ m ∧ (i = a ∨ ∀ v, D[i - 1]? = some v → leE v x) ∧ (i = m ∨ ∀ v, D[i]? = some v → leE x v) := by
 refine qg7 (τ := Nat × Nat) (fun s => ⟨[(0, .sl 0 g 0 n cl), (2, (ii m)), (4, (.fn (.func qq) [] [])), (14, (ii s.1)), (15, (ii s.2))], []⟩) (fun _ => [.row 6 ((D).map Evt.r) g]) (fun s => s.2 - s.1)
  (fun s => a ≤ s.1 ∧ s.1 ≤ s.2 ∧ s.2 ≤ m ∧ (s.1 = a ∨ ∀ v, D[s.1 - 1]? = some v → leE v x) ∧ (s.2 = m ∨ ∀ v, D[s.2]? = some v → leE x v)) _ ?_ (a, m) ⟨Nat.le_refl _, ham, Nat.le_refl _, .inl rfl, .inl rfl⟩
 rintro ⟨i, j⟩ ⟨h1, h2, h3, h4, h5⟩
 simp only at h1 h2 h3 h4 h5 ⊢
 by_cases hij : i < j
 case neg =>
  have c1 : ¬ (i : Int) < (j : Int) := by omega
  right
  simp only [qce, c1, Ev.exec, qb, qe, qc, qai, Ev.Opnd.ev, Ev.Env.get, Ev.Env.set, Ev.look, ql, ↓qr, Ev.it1, ↓reduceIte, Nat.reduceEqDiff, reduceCtorEq, zgw, zfa, zgy]
  refine ⟨_, rfl, i, rfl, rfl, rfl, rfl, rfl, rfl, h1, by omega, h4, ?_⟩
  obtain rfl : i = j := by omega
  exact h5
 obtain ⟨h, hh⟩ : ∃ h, h = (i + j) / 2 := ⟨_, rfl⟩
 have c1 : (i : Int) < (j : Int) := by omega
 obtain ⟨y, hy⟩ : ∃ y, D[h]? = some y := ⟨_, List.getElem?_eq_getElem (by omega)⟩
 have w1 : IntKind.i64.wrap ((i : Int) + (j : Int)) = ((i + j : Nat) : Int) := qla (by omega)
 have w2 : IntKind.u64.wrap ((i + j : Nat) : Int) = ((i + j : Nat) : Int) := qq6 (by omega)
 have w3 := qt5 (i + j) h hh
 have w4 : IntKind.i64.wrap (h : Int) = (h : Int) := qrl (by omega)
 have w5 : IntKind.i64.wrap ((h : Int) + 1) = ((h + 1 : Nat) : Int) := ql7 (by omega)
 have rh : h < n := by omega
 have kx : x.key.length ≤ 9223372036854775807 := hk x (List.mem_of_getElem? hm)
 have ky : y.key.length ≤ 9223372036854775807 := hk y (List.mem_of_getElem? hy)
 have hc := qj7 x y kx ky 6 (D.map Evt.r) g
 left
 by_cases hlt : qpi x y < 0
 ·refine ⟨(i, h), ?_, ⟨h1, by simp only; omega, by simp only; omega, h4, .inr fun v hv => ?_⟩, by simp only; omega⟩
  ·obtain ⟨xt, xk, xl, xi, xp, xa⟩ := x
   obtain ⟨yt, yk, yl, yi, yp, ya⟩ := y
   simp only at hc
   simp only [qce, zgs, zgr, zgq, zgt, hm, hy, c1, w1, w2, w3, w4, rh, hmn, hc, hlt, Evt.r, qv, Ev.exec, qb, qe, qc, qkr, qai, Ev.evs, Ev.Opnd.ev, Ev.Env.get, Ev.Env.set, Ev.look, qk, qad, qaf, ql, qs, Ev.keep, qae, qx, qd, Ev.SObj.lo, qa4, qbm, qe1, qj, ↓qr, Ev.it1, ↓reduceIte, zga, zgb, zgd, zgc, zfe, zgg, zgl, zgn, Nat.reduceAdd, Nat.reduceEqDiff, reduceCtorEq, zgv, zfc, Bool.not_true, zfa, zgx, zfd, zgu, Nat.le_refl, zgy]
  ·simp only at hv
   rw [hy] at hv; cases hv; exact qym x y hlt
 ·refine ⟨(h + 1, j), ?_, ⟨by simp only; omega, by simp only; omega, h3, .inr fun v hv => ?_, h5⟩, by simp only; omega⟩
  ·obtain ⟨xt, xk, xl, xi, xp, xa⟩ := x
   obtain ⟨yt, yk, yl, yi, yp, ya⟩ := y
   simp only at hc
   simp only [qce, zgs, zgr, zgq, zgt, hm, hy, c1, w1, w2, w3, w4, w5, rh, hmn, hc, hlt, Evt.r, qv, Ev.exec, qb, qe, qc, qkr, qai, Ev.evs, Ev.Opnd.ev, Ev.Env.get, Ev.Env.set, Ev.look, qk, qad, qaf, ql, qs, Ev.keep, qae, qx, qd, Ev.SObj.lo, qa4, qbm, qe1, qj, ↓qr, Ev.it1, ↓reduceIte, zga, zgb, zgd, zgc, zfe, zgg, zgl, zgn, Nat.reduceAdd, Nat.reduceEqDiff, reduceCtorEq, zgv, zgw, zfc, Bool.not_false, zgx, zfd, zgu, Nat.le_refl, zgy]
  ·simp only [Nat.add_sub_cancel] at hv
   rw [hy] at hv; cases hv; exact qpw x y hlt
theorem q5r (D : List Evt) (hn : n = D.length) (hb : n < 2 ^ 61) (hk : qct D) (a m b mid nn p lo hi : Nat) (hp : nn = p + 1) (hlh : lo ≤ hi) (hdom : ∀ c, lo ≤ c → c < hi → c < n ∧ c ≤ p ∧ p - c < n) (hnn : nn < 2 ^ 62) (hhn : hi ≤ n) :
  ∃ y, itB (exec (evL T) itL none qbj) (qs [0, 1, 2, 3, 4, 18, 19, 20, 21, 22] true 1) ⟨[(0, .sl 0 g 0 n cl), (1, (ii a)), (2, (ii m)), (3, (ii b)), (4, (.fn (.func qq) [] [])), (18, (ii mid)), (19, (ii nn)), (20, (ii lo)), (21, (ii hi)), (22, (ii p))], []⟩ [.row 6 ((D).map Evt.r) g] = some y ∧
   ∃ i : Nat, y.1 = .exit 8 ∧ y.2.1.marks = [] ∧ y.2.2 = [.row 6 ((D).map Evt.r) g] ∧ Ev.look y.2.1.vars 0 = some (.sl 0 g 0 n cl) ∧ Ev.look y.2.1.vars 1 = some (ii a) ∧ Ev.look y.2.1.vars 2 = some (ii m) ∧ Ev.look y.2.1.vars 3 = some (ii b) ∧ Ev.look y.2.1.vars 4 = some (.fn (.func qq) [] []) ∧ Ev.look y.2.1.vars 18 = some (ii mid) ∧
    Ev.look y.2.1.vars 19 = some (ii nn) ∧ Ev.look y.2.1.vars 20 = some (ii i) ∧ lo ≤ i ∧ i ≤ hi ∧ (i = lo ∨ ∀ u v, D[i - 1]? = some u → D[p - (i - 1)]? = some v → leE u v) ∧ (i = hi ∨ ∀ u v, D[p - i]? = some u → D[i]? = some v → leE u v) := by
 refine qg7 (τ := Nat × Nat) (fun s => ⟨[(0, .sl 0 g 0 n cl), (1, (ii a)), (2, (ii m)), (3, (ii b)), (4, (.fn (.func qq) [] [])), (18, (ii mid)), (19, (ii nn)), (20, (ii s.1)), (21, (ii s.2)), (22, (ii p))], []⟩) (fun _ => [.row 6 ((D).map Evt.r) g]) (fun s => s.2 - s.1)
  (fun s => lo ≤ s.1 ∧ s.1 ≤ s.2 ∧ s.2 ≤ hi ∧ (s.1 = lo ∨ ∀ u v, D[s.1 - 1]? = some u → D[p - (s.1 - 1)]? = some v → leE u v) ∧ (s.2 = hi ∨ ∀ u v, D[p - s.2]? = some u → D[s.2]? = some v → leE u v)) _ ?_ (lo, hi) ⟨Nat.le_refl _, hlh, Nat.le_refl _, .inl rfl, .inl rfl⟩
 rintro ⟨i, j⟩ ⟨h1, h2, h3, h4, h5⟩
 simp only at h1 h2 h3 h4 h5 ⊢
 by_cases hij : i < j
 case neg =>
  have c1 : ¬ (i : Int) < (j : Int) := by omega
  right
  simp only [qbj, c1, Ev.exec, qb, qe, qc, qai, Ev.Opnd.ev, Ev.Env.get, Ev.Env.set, Ev.look, ql, ↓qr, Ev.it1, ↓reduceIte, Nat.reduceEqDiff, reduceCtorEq, zgw, zfa, zgy]
  refine ⟨_, rfl, i, rfl, rfl, rfl, rfl, rfl, rfl, rfl, rfl, rfl, rfl, rfl, h1, by omega, h4, ?_⟩
  obtain rfl : i = j := by omega
  exact h5
 obtain ⟨h, hh⟩ : ∃ h, h = (i + j) / 2 := ⟨_, rfl⟩
 have c1 : (i : Int) < (j : Int) := by omega
 obtain ⟨d1, d2, d3⟩ := hdom h (by omega) (by omega)
 obtain ⟨q, hq⟩ : ∃ q, q = p - h := ⟨_, rfl⟩
 obtain ⟨y, hy⟩ : ∃ y, D[h]? = some y := ⟨_, List.getElem?_eq_getElem (by omega)⟩
 obtain ⟨x, hx⟩ : ∃ x, D[q]? = some x := ⟨_, List.getElem?_eq_getElem (by omega)⟩
 have w1 : IntKind.i64.wrap ((i : Int) + (j : Int)) = ((i + j : Nat) : Int) := qla (by omega)
 have w2 : IntKind.u64.wrap ((i + j : Nat) : Int) = ((i + j : Nat) : Int) := qq6 (by omega)
 have w3 := qt5 (i + j) h hh
 have w4 : IntKind.i64.wrap (h : Int) = (h : Int) := qrl (by omega)
 have w5 : IntKind.i64.wrap ((h : Int) + 1) = ((h + 1 : Nat) : Int) := ql7 (by omega)
 have w6 : IntKind.i64.wrap ((p : Int) - (h : Int)) = (q : Int) := qfe (by omega) (by omega)
 have rq : q < n := by omega
 have kx : x.key.length ≤ 9223372036854775807 := hk x (List.mem_of_getElem? hx)
 have ky : y.key.length ≤ 9223372036854775807 := hk y (List.mem_of_getElem? hy)
 have hc := qj7 x y kx ky 6 (D.map Evt.r) g
 left
 by_cases hlt : qpi x y < 0
 ·refine ⟨(i, h), ?_, ⟨h1, by simp only; omega, by simp only; omega, h4, .inr fun u v hu hv => ?_⟩, by simp only; omega⟩
  ·obtain ⟨xt, xk, xl, xi, xp, xa⟩ := x
   obtain ⟨yt, yk, yl, yi, yp, ya⟩ := y
   simp only at hc
   simp only [qbj, zgs, zgr, zgq, zgt, hx, hy, c1, w1, w2, w3, w4, w6, d1, rq, hc, hlt, Evt.r, qv, Ev.exec, qb, qe, qc, qkr, qai, Ev.evs, Ev.Opnd.ev, Ev.Env.get, Ev.Env.set, Ev.look, qk, qad, qaf, qcr, ql, qs, Ev.keep, qae, qx, qd, Ev.SObj.lo, qa4, qbm, qe1, qj, ↓qr, Ev.it1, ↓reduceIte, zga, zgb, zgd, zgc, zfe, zgg, zgl, zgn, Nat.reduceAdd, Nat.reduceEqDiff, reduceCtorEq, zgv, zfc, Bool.not_true, zfa, zgx, zfd, zgu, Nat.le_refl, zgy]
  ·simp only at hu hv
   rw [← hq, hx] at hu; cases hu
   rw [hy] at hv; cases hv; exact qym x y hlt
 ·refine ⟨(h + 1, j), ?_, ⟨by simp only; omega, by simp only; omega, h3, .inr fun u v hu hv => ?_, h5⟩, by simp only; omega⟩
  ·obtain ⟨xt, xk, xl, xi, xp, xa⟩ := x
   obtain ⟨yt, yk, yl, yi, yp, ya⟩ := y
   simp only at hc
   simp only [qbj, zgs, zgr, zgq, zgt, hx, hy, c1, w1, w2, w3, w4, w5, w6, d1, rq, hc, hlt, Evt.r, qv, Ev.exec, qb, qe, qc, qkr, qai, Ev.evs, Ev.Opnd.ev, Ev.Env.get, Ev.Env.set, Ev.look, qk, qad, qaf, qcr, ql, qs, Ev.keep, qae, qx, qd, Ev.SObj.lo, qa4, qbm, qe1, qj, ↓qr, Ev.it1, ↓reduceIte, zga, zgb, zgd, zgc, zfe, zgg, zgl, zgn, Nat.reduceAdd, Nat.reduceEqDiff, reduceCtorEq, zgv, zgw, zfc, Bool.not_false, zgx, zfd, zgu, Nat.le_refl, zgy]
  ·simp only [Nat.add_sub_cancel] at hu hv
   rw [← hq, hx] at hv; cases hv
   rw [hy] at hu; cases hu; exact qpw x y hlt
end
open Go.Ev
set_option maxRecDepth 10000
section
variable (g : Nat) (cl : Bool) (n : Nat)
theorem q5m (P S Q : List Evt) (x : Evt) (hn : n = (P ++ x :: (S ++ Q)).length) (hb : n < 2 ^ 61) (a i : Nat) (ha : a = P.length) (hi : i = a + S.length + 1) :
  ∃ y, itB (exec (evL T) itL none qc6) (qs [0, 10, 13] true 1) ⟨[(0, .sl 0 g 0 n cl), (10, (ii i)), (13, (ii a))], []⟩ [.row 6 ((P ++ x :: (S ++ Q)).map Evt.r) g] = some y ∧
   (y.1 = .exit 2 ∧ y.2.1.marks = [] ∧ y.2.2 = [.row 6 ((P ++ (S ++ x :: Q)).map Evt.r) g]) := by
 refine qg7 (τ := List Evt × Nat) (fun s => ⟨[(0, .sl 0 g 0 n cl), (10, (ii i)), (13, (ii s.2))], []⟩) (fun s => [.row 6 ((s.1).map Evt.r) g]) (fun s => i - s.2)
  (fun s => ∃ A B, s.1 = P ++ (A ++ x :: (B ++ Q)) ∧ s.2 = a + A.length ∧ A ++ B = S) _ ?_ (P ++ x :: (S ++ Q), a) ⟨[], S, by simp, rfl, by simp⟩
 rintro ⟨D, k⟩ ⟨A, B, hD, hk, hAB⟩
 simp only at hD hk ⊢
 have hlen : n = P.length + (S.length + (Q.length + 1)) := by rw [hn]; simp; omega
 have hSl : S.length = A.length + B.length := by rw [← hAB]; simp
 obtain ⟨i', hi'⟩ : ∃ i', i' = a + S.length := ⟨_, rfl⟩
 have w1 : IntKind.i64.wrap ((i : Int) - 1) = (i' : Int) := qr1 (by omega) (by omega)
 cases B with
 | nil =>
  have h1 : ¬ (k : Int) < (i' : Int) := by simp at hSl; omega
  right
  simp only [qc6, w1, h1, Ev.exec, qb, qe, qc, qai, Ev.Opnd.ev, Ev.Env.get, Ev.Env.set, Ev.look, qcr, ql, ↓qr, Ev.it1, ↓reduceIte, Nat.reduceEqDiff, reduceCtorEq, zgw, zfa, zgy]
  refine ⟨_, rfl, rfl, rfl, ?_⟩
  rw [hD, ← hAB]; simp
 | cons y B =>
  rw [List.length_cons] at hSl
  have h1 : (k : Int) < (i' : Int) := by omega
  have e1 : D = (P ++ A) ++ x :: y :: (B ++ Q) := by rw [hD]; simp
  have l1 : k = (P ++ A).length := by simp; omega
  obtain ⟨j, hj⟩ : ∃ j, j = k + 1 := ⟨_, rfl⟩
  have gx : D[k]? = some x := qop e1 l1
  have gy : D[j]? = some y := qop (L := P ++ A ++ [x]) (M := B ++ Q) (by rw [e1]; simp) (by simp; omega)
  have ge : D.length = n := by rw [e1, hlen]; simp; omega
  have w2 : IntKind.i64.wrap ((k : Int) + 1) = (j : Int) := by rw [hj]; exact ql7 (by omega)
  have rj : j < n := by omega
  have rk : k < n := by omega
  have sw := q7k e1 l1 hj
  have hne : ¬ (k = j) := by omega
  left
  have hlo := qv 1 ((D.set k y).set j x)
  refine ⟨((D.set k y).set j x, j), ?_, ⟨A ++ [y], B, by rw [sw]; simp, by simp; omega, by rw [← hAB]; simp⟩, by simp only; omega⟩
  obtain ⟨xt, xk, xl, xi, xp, xa⟩ := x
  obtain ⟨yt, yk, yl, yi, yp, ya⟩ := y
  have hs : ∀ v, ((D.map Evt.r).set k v)[j]? = some (Evt.r ⟨yt, yk, yl, yi, yp, ya⟩) := fun v => by rw [List.getElem?_set_ne hne, List.getElem?_map, gy]; rfl
  simp only [List.map_set, Evt.r] at hlo
  simp only [qc6, zgs, zgr, zgq, zgt, gx, gy, hs, h1, w1, w2, rj, rk, hlo, List.map_set, Evt.r, Ev.exec, qb, qe, qc, qai, Ev.Opnd.ev, Ev.Env.get, Ev.Env.set, Ev.look, qk, qad, Ev.AV.cells, qw, Ev.AV.plain, qaf, qcr, ql, qs, Ev.keep, qae, qx, qd, Ev.SObj.lo, qa4, qbm, ↓qr, Ev.it1, ↓reduceIte, zga, zgb, zgd, zgc, zgo, zfe, zgf, zgg, List.drop_nil, zgl, zgn, zgj, Nat.reduceAdd, Nat.reduceEqDiff, reduceCtorEq, zgv, zfc, zgx, zfd, zgu, Nat.le_refl, zgy]
theorem q5b (P S Q : List Evt) (x : Evt) (hn : n = (P ++ (S ++ x :: Q)).length) (hb : n < 2 ^ 61) (m i : Nat) (hi : i = P.length) (hm : m = i + S.length) :
  ∃ y, itB (exec (evL T) itL none qc7) (qs [0, 14, 17] true 1) ⟨[(0, .sl 0 g 0 n cl), (14, (ii i)), (17, (ii m))], []⟩ [.row 6 ((P ++ (S ++ x :: Q)).map Evt.r) g] = some y ∧
   (y.1 = .exit 6 ∧ y.2.1.marks = [] ∧ y.2.2 = [.row 6 ((P ++ x :: (S ++ Q)).map Evt.r) g]) := by
 refine qg7 (τ := List Evt × Nat) (fun s => ⟨[(0, .sl 0 g 0 n cl), (14, (ii i)), (17, (ii s.2))], []⟩) (fun s => [.row 6 ((s.1).map Evt.r) g]) (fun s => s.2)
  (fun s => ∃ A B, s.1 = P ++ (A ++ x :: (B ++ Q)) ∧ s.2 = i + A.length ∧ A ++ B = S) _ ?_ (P ++ (S ++ x :: Q), m) ⟨S, [], by simp, hm, by simp⟩
 rintro ⟨D, j⟩ ⟨A, B, hD, hj, hAB⟩
 simp only at hD hj ⊢
 have hlen : n = P.length + (S.length + (Q.length + 1)) := by rw [hn]; simp
 have hSl : S.length = A.length + B.length := by rw [← hAB]; simp
 rcases List.eq_nil_or_concat A with rfl | ⟨A0, y, rfl⟩
 ·have h1 : ¬ (j : Int) > (i : Int) := by simp at hj; omega
  right
  simp only [qc7, h1, Ev.exec, qb, qe, qc, qai, Ev.Opnd.ev, Ev.Env.get, Ev.Env.set, Ev.look, qaq, ↓qr, Ev.it1, ↓reduceIte, Nat.reduceEqDiff, reduceCtorEq, zgw, zfa, zgy]
  refine ⟨_, rfl, rfl, rfl, ?_⟩
  rw [hD, ← hAB]; simp
 ·simp only [List.concat_eq_append, zgp, zga, zgb] at hD hj hSl hAB
  obtain ⟨k, hk1⟩ : ∃ k, k = i + A0.length := ⟨_, rfl⟩
  have hjk : j = k + 1 := by omega
  have h1 : (j : Int) > (i : Int) := by omega
  have e1 : D = (P ++ A0) ++ y :: x :: (B ++ Q) := by rw [hD]; simp
  have l1 : k = (P ++ A0).length := by simp; omega
  have gy : D[k]? = some y := qop e1 l1
  have gx : D[j]? = some x := qop (L := P ++ A0 ++ [y]) (M := B ++ Q) (by rw [e1]; simp) (by simp; omega)
  have ge : D.length = n := by rw [e1, hlen]; simp; omega
  have ws : IntKind.i64.wrap ((j : Int) - 1) = (k : Int) := qr1 hjk (by omega)
  have rj : j < n := by omega
  have rk : k < n := by omega
  have sw := q37 e1 l1 hjk
  have hne : ¬ (j = k) := by omega
  left
  have hlo := qv 1 ((D.set j y).set k x)
  refine ⟨((D.set j y).set k x, k), ?_, ⟨A0, y :: B, by rw [sw]; simp, hk1, by rw [← hAB]; simp⟩, by simp only; omega⟩
  obtain ⟨xt, xk, xl, xi, xp, xa⟩ := x
  obtain ⟨yt, yk, yl, yi, yp, ya⟩ := y
  have hs : ∀ v, ((D.map Evt.r).set j v)[k]? = some (Evt.r ⟨yt, yk, yl, yi, yp, ya⟩) := fun v => by rw [List.getElem?_set_ne hne, List.getElem?_map, gy]; rfl
  simp only [List.map_set, Evt.r] at hlo
  simp only [qc7, zgs, zgr, zgq, zgt, gx, gy, hs, h1, ws, rj, rk, hlo, List.map_set, Evt.r, Ev.exec, qb, qe, qc, qai, Ev.Opnd.ev, Ev.Env.get, Ev.Env.set, Ev.look, qk, qad, Ev.AV.cells, qw, Ev.AV.plain, qcr, qaq, qs, Ev.keep, qae, qx, qd, Ev.SObj.lo, qa4, qbm, ↓qr, Ev.it1, ↓reduceIte, zga, zgb, zgd, zgc, zgo, zfe, zgf, zgg, List.drop_nil, zgl, zgn, zgj, Nat.reduceAdd, Nat.reduceEqDiff, reduceCtorEq, zgv, zfc, zgx, zfd, zgu, Nat.le_refl, zgy]
theorem qct.perm {D E : List Evt} (h : qct D) (p : E.Perm D) : qct E := fun x hx => h x (p.mem_iff.1 hx)
theorem q7r (P Y Q : List Evt) (x : Evt) (hY : Y.Pairwise leE) (hY0 : 0 < Y.length) (hn : n = (P ++ x :: (Y ++ Q)).length) (hb : n < 2 ^ 61) (hk : qct (P ++ x :: (Y ++ Q))) (a m b : Nat) (ha : a = P.length) (hm : m = a + 1) (hbb : b = m + Y.length) :
  ∃ Z : List Evt, Z.Perm (x :: Y) ∧ Z.Pairwise leE ∧ (evL T).call qau [.sl 0 g 0 n cl, (ii a), (ii m), (ii b), (.fn (.func qq) [] [])] [.row 6 ((P ++ x :: (Y ++ Q)).map Evt.r) g] = some (.tup [], [.row 6 ((P ++ (Z ++ Q)).map Evt.r) g]) := by
 have hlen : n = P.length + (1 + (Y.length + Q.length)) := by rw [hn]; simp; omega
 obtain ⟨⟨y, e, σ⟩, k1, i, k2, k3, k4, k5, k6, k7, k8, k9, k10, k11⟩ := q43 g cl n (P ++ x :: (Y ++ Q)) x hn hb hk a m b (qop rfl ha) (by omega) (by omega) (by omega)
 simp only at k1 k2 k3 k4 k5 k6 k7
 subst k2; subst k4
 obtain ⟨Y1, Y2, rfl, hY1⟩ : ∃ Y1 Y2, Y = Y1 ++ Y2 ∧ Y1.length = i - m := ⟨Y.take (i - m), Y.drop (i - m), (List.take_append_drop _ _).symm, by simp; omega⟩
 rw [List.length_append] at hbb hlen hY0
 obtain ⟨⟨y', e', σ'⟩, l1, l2, l3, l4⟩ := q5m g cl n P Y1 (Y2 ++ Q) x (by rw [hlen]; simp; omega) hb a i ha (by omega)
 simp only at l1 l2 l3 l4
 subst l2; subst l4
 rw [List.append_assoc] at hk
 refine ⟨Y1 ++ x :: Y2, List.perm_middle, ql8 qkt hY ?_ ?_, ?_⟩
 ·intro u hu
  rcases k10 with h | h
  ·rw [show Y1 = [] from List.eq_nil_of_length_eq_zero (by omega)] at hu; simp at hu
  ·have hlt : Y1.length - 1 < Y1.length := (List.getElem?_eq_some_iff.1 hu).1
   refine h u ?_
   rw [← hu]
   exact qvx (L := P ++ [x]) (X := Y1) (M := Y2 ++ Q) (by simp) hlt (by simp; omega)
 ·intro v hv
  rcases k11 with h | h
  ·rw [show Y2 = [] from List.eq_nil_of_length_eq_zero (by omega)] at hv; simp at hv
  ·have hlt : 0 < Y2.length := (List.getElem?_eq_some_iff.1 hv).1
   refine h v ?_
   rw [← hv]
   exact qvx (L := P ++ x :: Y1) (X := Y2) (M := Q) (by simp) hlt (by simp; omega)
 ·have c1 : (m : Int) - (a : Int) = 1 := by omega
  have w1 : IntKind.i64.wrap ((m : Int) - (a : Int)) = 1 := by rw [c1]; exact qax (by omega) (by omega)
  rw [List.append_assoc] at k1 ⊢
  rw [qy qi qf]
  simp only [List.append_assoc, zgm]
  simp only [qg, w1, k1, k3, k5, k6, k7, l1, l3, qv, qn, Ev.exec, qb, qe, qc, qai, Ev.Opnd.ev, Ev.Env.get, Ev.Env.set, Ev.look, qo, qcr, qaj, qm, qak, Ev.kill, qah, qs, Ev.keep, qae, qx, qd, Ev.SObj.lo, qa4, qa8, qbm, qe1, qj, ↓qr, ↓qar, ↓reduceIte, zga, zgb, zgc, zfe, Nat.reduceAdd, Nat.reduceEqDiff, reduceCtorEq, zgv, zfc, zgx, zfd, zgu, zgy]
theorem q8i (P X Q : List Evt) (x : Evt) (hX : X.Pairwise leE) (hX0 : 1 < X.length) (hn : n = (P ++ (X ++ x :: Q)).length) (hb : n < 2 ^ 61) (hk : qct (P ++ (X ++ x :: Q))) (a m b : Nat) (ha : a = P.length) (hm : m = a + X.length) (hbb : b = m + 1) :
  ∃ Z : List Evt, Z.Perm (X ++ [x]) ∧ Z.Pairwise leE ∧ (evL T).call qau [.sl 0 g 0 n cl, (ii a), (ii m), (ii b), (.fn (.func qq) [] [])] [.row 6 ((P ++ (X ++ x :: Q)).map Evt.r) g] = some (.tup [], [.row 6 ((P ++ (Z ++ Q)).map Evt.r) g]) := by
 have hlen : n = P.length + (X.length + (Q.length + 1)) := by rw [hn]; simp
 obtain ⟨⟨y, e, σ⟩, k1, i, k2, k3, k4, k5, k6, k7, k8, k9, k10, k11⟩ := q4v g cl n (P ++ (X ++ x :: Q)) x hn hb hk a m (qop (L := P ++ X) (M := Q) (by simp) (by simp; omega)) (by omega) (by omega)
 simp only at k1 k2 k3 k4 k5 k6 k7
 subst k2; subst k4
 obtain ⟨X1, X2, rfl, hX1⟩ : ∃ X1 X2, X = X1 ++ X2 ∧ X1.length = i - a := ⟨X.take (i - a), X.drop (i - a), (List.take_append_drop _ _).symm, by simp; omega⟩
 rw [List.length_append] at hm hlen hX0
 obtain ⟨⟨y', e', σ'⟩, l1, l2, l3, l4⟩ := q5b g cl n (P ++ X1) X2 Q x (by rw [hlen]; simp; omega) hb m i (by simp; omega) (by omega)
 simp only at l1 l2 l3 l4
 subst l2; subst l4
 refine ⟨X1 ++ x :: X2, ?_, ql8 qkt hX ?_ ?_, ?_⟩
 ·rw [List.append_assoc]
  exact List.Perm.append_left X1 (List.perm_append_singleton x X2).symm
 ·intro u hu
  rcases k10 with h | h
  ·rw [show X1 = [] from List.eq_nil_of_length_eq_zero (by omega)] at hu; simp at hu
  ·have hlt : X1.length - 1 < X1.length := (List.getElem?_eq_some_iff.1 hu).1
   refine h u ?_
   rw [← hu]
   exact qvx (L := P) (X := X1) (M := X2 ++ x :: Q) (by simp) hlt (by omega)
 ·intro v hv
  rcases k11 with h | h
  ·rw [show X2 = [] from List.eq_nil_of_length_eq_zero (by omega)] at hv; simp at hv
  ·have hlt : 0 < X2.length := (List.getElem?_eq_some_iff.1 hv).1
   refine h v ?_
   rw [← hv]
   exact qvx (L := P ++ X1) (X := X2) (M := x :: Q) (by simp) hlt (by simp; omega)
 ·have w1 : IntKind.i64.wrap ((m : Int) - (a : Int)) = ((X1.length + X2.length : Nat) : Int) := qfe hm (by omega)
  have h1 : ¬ ((X1.length + X2.length : Nat) : Int) = 1 := by omega
  have w2 : IntKind.i64.wrap ((b : Int) - (m : Int)) = 1 := by rw [show (b : Int) - (m : Int) = 1 by omega]; exact qax (by omega) (by omega)
  rw [qy qi qf]
  simp only [List.append_assoc, zgm] at k1 l1 ⊢
  simp only [qg, w1, w2, h1, k1, k3, k5, k6, k7, l1, l3, qv, qn, Ev.exec, qb, qe, qc, qai, Ev.Opnd.ev, Ev.Env.get, Ev.Env.set, Ev.look, qo, qcr, qaj, qm, qak, Ev.kill, qah, qs, Ev.keep, qae, qx, qd, Ev.SObj.lo, qa4, qa8, qbm, qe1, qj, ↓qr, ↓qar, ↓reduceIte, zga, zgb, zgc, zfe, Nat.reduceAdd, Nat.reduceEqDiff, reduceCtorEq, zgv, zgw, zfc, zfa, zgx, zfd, zgu, zgy]
end
end Go.Proofs.Ytbhhifdhlafklaa.K
