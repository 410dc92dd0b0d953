/- For every input the statement of this claim returns true: texts of its proof, joined (part 7). -/
import Derived.Test.YtbhhifdhlafklaaProg
import Derived.KernelRfl
import Derived.Test.YtbhhifdhlafklaaEWS3
import Derived.Test.YtbhhifdhlafklaaSKWS
set_option linter.unusedSectionVars false
set_option linter.unusedSimpArgs false
set_option linter.unusedVariables false
namespace Go.Proofs.Ytbhhifdhlafklaa.K
open Go.Ev
set_option maxRecDepth 100000
theorem qr8 : qfy Try.prog { frz := [3], loops := [([3, 7, 10, 12, 13, 15, 16, 17, 19], true), ([7, 10, 12, 13, 15, 16, 20], true)] } qex = some qc6 := by kernel_rfl
theorem q0f : qfy Try.prog {  } qi2 = some qpr := by kernel_rfl
theorem q2s : qfy Try.prog { frz := [1] } qkt = some qqn := by kernel_rfl
theorem qye : qfy Try.prog { frz := [2] } qhp = some qll := by kernel_rfl
theorem qw4 : qfy Try.prog { frzv := [27], own := [4], loops := [([4, 7, 8, 9], true)] } qem = some qjs := by kernel_rfl
theorem qtp : qfy Try.prog { frz := [2] } qdr = some qjx := by kernel_rfl
theorem quc : qfy Try.prog { frz := [4, 5], mI := [21, 26, 28], ownB := [(17, (5, 6)), (17, (6, 6))], loops := [([4, 13], true)] } qeg = some qj0 := by kernel_rfl
theorem qyd : qfy Try.prog { loops := [([0, 3], true)] } qhm = some qkg := by kernel_rfl
theorem qtg : qfy Try.prog { mA := [12], mF := [53], topZ := [15], ownS := [(15, 6)], appB := [(33, 8)], ldB := [(25, 8)], loops := [([5, 6, 17, 18, 19], true), ([5, 36, 37, 38], true)] } qe7 = some qk8 := by kernel_rfl
theorem qz4 : qfy Try.prog {  } qkb = some qp6 := by kernel_rfl
theorem qxm : qfy Try.prog { mF := [9] } qil = some qnl := by kernel_rfl
theorem qu2 : qfy Try.prog { frz := [1], frzv := [41], own := [3], loops := [([1, 3, 4], true), ([1, 3, 4, 5], true)] } qeq = some qkl := by kernel_rfl
theorem qxv : qfy Try.prog { frz := [1], own := [3], topZ := [5], loops := [([1, 3, 4], false), ([1, 3, 4, 5, 6], false)] } qfo = some qkw := by kernel_rfl
theorem qyj : qfy Try.prog { frz := [1], loops := [([1, 3, 4, 5], true), ([1, 3, 4, 6], true), ([1, 3, 4, 6, 7], true)] } qhj = some qfj := by kernel_rfl
theorem qt8 : qfy Try.prog { frz := [2], loops := [([1, 2, 4, 5], true)] } qfa = some qjz := by kernel_rfl
theorem qyu : qfy Try.prog { own := [5], loops := [([0, 1, 5, 6], true), ([0, 1, 5, 6, 7, 8], true)] } qh2 = some qlp := by kernel_rfl
theorem qpk : qfy Try.prog { bad := true, loops := [([0, 3, 4], true)] } qc9 = some qgp := by kernel_rfl
theorem qn0 : qfy Try.prog { frz := [2, 3] } qcz = some qfh := by kernel_rfl
theorem qnr : qfy Try.prog { frz := [4, 5], loops := [([0, 5, 8, 50, 51, 52], true), ([0, 81, 82, 83], true)] } qcr = some qd1 := by kernel_rfl
theorem qod : qfy Try.prog { ldx := [(14, 2), (18, 2), (22, 2), (26, 2)] } qcy = some qfe := by kernel_rfl
theorem qpm : qfy Try.prog { frz := [2, 3] } qck = some qeu := by kernel_rfl
theorem qvn : qfy Try.prog {  } qep = some qi3 := by kernel_rfl
theorem qh0 : qfy Try.prog { mA := [24], bad := true, loops := [([0, 3, 9, 10, 11], true), ([6, 25, 26, 27], false)] } qaq = some qcc := by kernel_rfl
theorem qu1 : qfy Try.prog { mA := [8], mI := [9] } qha = some ql7 := by kernel_rfl
theorem qr5 : qfy Try.prog { frzv := [49], own := [6], loops := [([0, 3, 4], true), ([0, 3, 4, 5], true)] } qc5 = some qis := by kernel_rfl
theorem qyq : qfy Try.prog { frz := [1], loops := [([1, 3], true), ([1, 4], true)] } qht = some qgs := by kernel_rfl
theorem qyb : qfy Try.prog { frz := [1], loops := [([1, 3], true), ([1, 5], true), ([1, 5, 6], true)] } qhs = some qgh := by kernel_rfl
theorem qyg : qfy Try.prog { frz := [1], topZ := [9], loops := [([1, 2, 3, 4], false)] } qh3 = some qln := by kernel_rfl
theorem qxo : qfy Try.prog { frz := [2], appN := [21, 28, 57, 69], frzv := [36, 38, 63, 73] } qgt = some qjv := by kernel_rfl
theorem qx1 : qfy Try.prog { frz := [3], own := [6], loops := [([0, 3, 5], true)] } qfn = some qg0 := by kernel_rfl
theorem qmy : qfy Try.prog { loops := [([0, 1, 2], true)] } qca = some qdm := by kernel_rfl
theorem qxb : qfy Try.prog { mA := [20] } qgv = some qim := by kernel_rfl
theorem qwu : qfy Try.prog { frz := [3, 5], mA := [52], mI := [59, 82, 88], ldF := [80], ldx := [(96, 6), (100, 6), (104, 6)], ownB := [(56, (10, 6)), (56, (12, 1))] } qdp = some qbp := by kernel_rfl
theorem qt9 : qfy Try.prog { frz := [3], mA := [14], mI := [18] } qee = some qjy := by kernel_rfl
theorem que : qfy Try.prog { frz := [3], mA := [21], mI := [9] } qfb = some qh8 := by kernel_rfl
theorem qvi : qfy Try.prog {  } qec = some qg6 := by kernel_rfl
theorem qq7 : qfy Try.prog { loops := [([0, 1, 5], true)] } qdb = some qfw := by kernel_rfl
theorem qio : qfy Try.prog { bad := true } qav = some qbw := by kernel_rfl
theorem qk4 : qfy Try.prog { mI := [4] } qch = some qe8 := by kernel_rfl
theorem qth : qfy Try.prog {  } qf9 = some qlb := by kernel_rfl
theorem qr2 : qfy Try.prog { mA := [5], mI := [7] } qe2 = some qkn := by kernel_rfl
theorem qyl : qfy Try.prog { frz := [1], loops := [([1, 3], true)] } qhq = some qdq := by kernel_rfl
theorem qyc : qfy Try.prog { loops := [([0, 1, 2, 3, 9], true), ([0, 2, 3, 10], true), ([0, 3, 11], true)] } qh1 = some qgc := by kernel_rfl
theorem qzu : qfy Try.prog { frz := [3, 4, 5], ldx := [(96, 6), (98, 6), (100, 6)] } qet = some qb0 := by kernel_rfl
theorem qvp : qfy Try.prog { own := [5], loops := [([0, 1, 5, 6], true), ([0, 1, 5, 6, 7, 8], true)] } qfv = some qkf := by kernel_rfl
theorem qnt : qfy Try.prog {  } qao = some qd3 := by kernel_rfl
theorem qn5 : qfy Try.prog { loops := [([0, 1, 12, 13], true)] } qcj = some qdf := by kernel_rfl
theorem qk9 : qfy Try.prog { mA := [6], mI := [10, 19, 44, 49], loops := [([0, 1, 4, 7], true)] } qb5 = some qc7 := by kernel_rfl
theorem qd6 : qfy Try.prog { frz := [4], loops := [([0, 2, 4, 8, 9, 10], true)] } qab = some qan := by kernel_rfl
theorem qpg : qfy Try.prog { frz := [2, 3] } qa3 = some qgf := by kernel_rfl
theorem qg3 : qfy Try.prog { loops := [([0, 1, 7, 8], true)] } qat = some qbl := by kernel_rfl
theorem qrp : qfy Try.prog { frz := [2] } qcv = some qit := by kernel_rfl
theorem qg2 : qfy Try.prog { own := [2], loops := [([2], true)] } qa9 = some qcp := by kernel_rfl
theorem qrz : qfy Try.prog { loops := [([0, 1, 2], true)] } qe3 = some qkk := by kernel_rfl
theorem qfu : qfy Try.prog { mI := [8] } qax = some qcf := by kernel_rfl
theorem qyp : qfy Try.prog { loops := [([0, 3], true)] } qho = some qhw := by kernel_rfl
theorem qty : qfy Try.prog { frz := [3] } qe6 = some qdd := by kernel_rfl
theorem q1j : qfy Try.prog { frz := [5], appN := [12], frzv := [17] } qdy = some qo8 := by kernel_rfl
theorem qug : qfy Try.prog { frz := [3], loops := [([2, 3, 4, 6, 7], true)] } qe9 = some qf6 := by kernel_rfl
theorem qo0 : qfy Try.prog {  } qc4 = some qfx := by kernel_rfl
theorem qyv : qfy Try.prog {  } qhy = some qli := by kernel_rfl
theorem qsx : qfy Try.prog {  } qd5 = some qfp := by kernel_rfl
theorem qq4 : qfy Try.prog {  } qd0 = some qhr := by kernel_rfl
theorem qjt : qfy Try.prog { mI := [18, 27, 43, 60], loops := [([0, 1, 2, 6, 7, 8], true), ([0, 1, 2, 6], true), ([0, 1, 2, 6, 7, 8], true)] } qbv = some qdv := by kernel_rfl
theorem qyn : qfy Try.prog {  } qen = some qlr := by kernel_rfl
theorem qys : qfy Try.prog {  } qfi = some qlz := by kernel_rfl
theorem q0h : qfy Try.prog { frz := [5], appN := [134], frzv := [141] } qcx = some qc3 := by kernel_rfl
theorem qnx : qfy Try.prog { frz := [3], mI := [14, 15], ldF := [7] } qb2 = some qe5 := by kernel_rfl
theorem qns : qfy Try.prog { frz := [3], mI := [13] } qb3 = some qe4 := by kernel_rfl
theorem qmr : qfy Try.prog { frz := [3], mI := [7, 21, 22], mR := [9], ldF := [12] } qbx = some qeo := by kernel_rfl
theorem qny : qfy Try.prog { frz := [3], mI := [7] } qbr = some qd2 := by kernel_rfl
theorem qmo : qfy Try.prog { frz := [3], mI := [33, 34], ldF := [30] } qby = some qdo := by kernel_rfl
theorem qn3 : qfy Try.prog { frz := [3] } qb8 = some qea := by kernel_rfl
theorem qnf : qfy Try.prog { frz := [3], mI := [17], ldF := [19] } qb4 = some qct := by kernel_rfl
theorem qoa : qfy Try.prog { frz := [3] } qb9 = some qfk := by kernel_rfl
theorem q0o : qfy Try.prog { loops := [([3, 6, 7, 8], true)] } qi9 = some qk0 := by kernel_rfl
theorem qvl : qfy Try.prog {  } qes = some qkh := by kernel_rfl
theorem qmp : qfy Try.prog { loops := [([0, 1, 9, 10, 11], true)] } qcl = some qcm := by kernel_rfl
theorem qhu : qfy Try.prog { loops := [([0, 1, 2, 3, 8], true), ([0, 1, 2, 3, 8, 9], true)] } qa1 = some qc0 := by kernel_rfl
theorem qjh : qfy Try.prog { mI := [191, 205, 219], loops := [([0, 1, 4, 10, 11], true), ([0, 10, 13], true), ([0, 2, 4, 14, 15], true), ([0, 14, 17], true), ([0, 1, 2, 3, 4, 18, 19, 20, 21, 22], true)] } qam = some qdj := by kernel_rfl
theorem qwb : qfy Try.prog { appN := [36], frzv := [41], ldx := [(32, 6), (45, 6)] } qd8 = some qju := by kernel_rfl
theorem qs9 : qfy Try.prog { appN := [8] } qd7 = some qjc := by kernel_rfl
theorem qml : qfy Try.prog {  } qbj = some qdi := by kernel_rfl
theorem qom : qfy Try.prog {  } qb6 = some qff := by kernel_rfl
theorem qjp : qfy Try.prog { mI := [31, 46, 57], loops := [([0, 2, 4, 10, 11], true)] } qbi = some qdz := by kernel_rfl
theorem qyf : qfy Try.prog { appN := [8] } qh4 = some qlt := by kernel_rfl
theorem qya : qfy Try.prog { mA := [6] } qhv = some qlx := by kernel_rfl
theorem qi5 : qfy Try.prog { loops := [([0, 1, 2, 3, 10], true)] } qaz = some qdg := by kernel_rfl
theorem qhe : qry Try.prog qb7 = some (1, 24) := by kernel_rfl
theorem qh6 : qry Try.prog qa4 = some (6, 64) := by kernel_rfl
theorem qj3 : qry Try.prog qci = some (4, 48) := by kernel_rfl
theorem qni : qry Try.prog qeb = some (1, 8) := by kernel_rfl
theorem qhh : InsB Try.prog qbd 6 64 75 39 4 := ⟨by kernel_rfl, by kernel_rfl, by kernel_rfl, by kernel_rfl, by kernel_rfl, by kernel_rfl, by kernel_rfl, by kernel_rfl, by kernel_rfl, by kernel_rfl, by kernel_rfl, by kernel_rfl, by kernel_rfl, by kernel_rfl, by kernel_rfl, by kernel_rfl, by kernel_rfl, by kernel_rfl, by kernel_rfl, by kernel_rfl, by kernel_rfl, by kernel_rfl, by kernel_rfl, by kernel_rfl⟩
def codeL : List (Nat × CFunc) := [(qex, qc6), (qi2, qpr), (qkt, qqn), (qhp, qll), (qem, qjs), (qdr, qjx), (qeg, qj0), (qhm, qkg), (qe7, qk8), (qkb, qp6), (qil, qnl), (qeq, qkl), (qfo, qkw), (qhj, qfj), (qfa, qjz), (qh2, qlp), (qc9, qgp), (qcz, qfh), (qcr, qd1), (qcy, qfe), (qck, qeu), (qep, qi3), (qaq, qcc), (qha, ql7), (qc5, qis), (qht, qgs), (qhs, qgh), (qh3, qln), (qgt, qjv), (qfn, qg0), (qca, qdm), (qgv, qim), (qdp, qbp), (qee, qjy), (qfb, qh8), (qec, qg6), (qdb, qfw), (qav, qbw), (qch, qe8), (qf9, qlb), (qe2, qkn), (qhq, qdq), (qh1, qgc), (qet, qb0), (qfv, qkf), (qao, qd3), (qcj, qdf), (qb5, qc7), (qab, qan), (qa3, qgf), (qat, qbl), (qcv, qit), (qa9, qcp), (qe3, qkk), (qax, qcf), (qho, qhw), (qe6, qdd), (qdy, qo8), (qe9, qf6), (qc4, qfx), (qhy, qli), (qd5, qfp), (qd0, qhr), (qbv, qdv), (qen, qlr), (qfi, qlz), (qcx, qc3), (qb2, qe5), (qb3, qe4), (qbx, qeo), (qbr, qd2), (qby, qdo), (qb8, qea), (qb4, qct), (qb9, qfk), (qi9, qk0), (qes, qkh), (qcl, qcm), (qa1, qc0), (qam, qdj), (qd8, qju), (qd7, qjc), (qbj, qdi), (qb6, qff), (qbi, qdz), (qh4, qlt), (qhv, qlx), (qaz, qdg)]
def extL : List (Nat × (Nat × Nat)) := [(qb7, (1, 24)), (qa4, (6, 64)), (qci, (4, 48)), (qeb, (1, 8))]
def insL : List (Nat × (Nat × Nat)) := [(qbd, (6, 64))]
def q29 {α : Type} : List (Nat × α) → Nat → Option α
  | [], _ => none
  | (k, x) :: l, i => if k = i then some x else q29 l i
theorem qs3 {α : Type} : ∀ {l : List (Nat × α)} {i : Nat} {x : α}, q29 l i = some x → (i, x) ∈ l
  | [], _, _, h => by simp [q29] at h
  | (k, y) :: l, i, x, h => by
    simp only [q29] at h
    split at h
    · rename_i hk; subst hk; cases h; simp
    · exact List.mem_cons_of_mem _ (qs3 h)
def T : Tab := { code := q29 codeL, ext := fun k => (q29 extL k).map fun p => qre p.1 p.2, ins := q29 insL }
theorem codeL_ok : ∀ x ∈ codeL, ∃ h, qfy Try.prog h x.1 = some x.2 := by
  intro x hx
  simp only [codeL, List.mem_cons, List.not_mem_nil, or_false] at hx
  rcases hx with rfl | rfl | rfl | rfl | rfl | rfl | rfl | rfl | rfl | rfl | rfl | rfl | rfl | rfl | rfl | rfl | rfl | rfl | rfl | rfl | rfl | rfl | rfl | rfl | rfl | rfl | rfl | rfl | rfl | rfl | rfl | rfl | rfl | rfl | rfl | rfl | rfl | rfl | rfl | rfl | rfl | rfl | rfl | rfl | rfl | rfl | rfl | rfl | rfl | rfl | rfl | rfl | rfl | rfl | rfl | rfl | rfl | rfl | rfl | rfl | rfl | rfl | rfl | rfl | rfl | rfl | rfl | rfl | rfl | rfl | rfl | rfl | rfl | rfl | rfl | rfl | rfl | rfl | rfl | rfl | rfl | rfl | rfl | rfl | rfl | rfl | rfl | rfl
  · exact ⟨_, qr8⟩
  · exact ⟨_, q0f⟩
  · exact ⟨_, q2s⟩
  · exact ⟨_, qye⟩
  · exact ⟨_, qw4⟩
  · exact ⟨_, qtp⟩
  · exact ⟨_, quc⟩
  · exact ⟨_, qyd⟩
  · exact ⟨_, qtg⟩
  · exact ⟨_, qz4⟩
  · exact ⟨_, qxm⟩
  · exact ⟨_, qu2⟩
  · exact ⟨_, qxv⟩
  · exact ⟨_, qyj⟩
  · exact ⟨_, qt8⟩
  · exact ⟨_, qyu⟩
  · exact ⟨_, qpk⟩
  · exact ⟨_, qn0⟩
  · exact ⟨_, qnr⟩
  · exact ⟨_, qod⟩
  · exact ⟨_, qpm⟩
  · exact ⟨_, qvn⟩
  · exact ⟨_, qh0⟩
  · exact ⟨_, qu1⟩
  · exact ⟨_, qr5⟩
  · exact ⟨_, qyq⟩
  · exact ⟨_, qyb⟩
  · exact ⟨_, qyg⟩
  · exact ⟨_, qxo⟩
  · exact ⟨_, qx1⟩
  · exact ⟨_, qmy⟩
  · exact ⟨_, qxb⟩
  · exact ⟨_, qwu⟩
  · exact ⟨_, qt9⟩
  · exact ⟨_, que⟩
  · exact ⟨_, qvi⟩
  · exact ⟨_, qq7⟩
  · exact ⟨_, qio⟩
  · exact ⟨_, qk4⟩
  · exact ⟨_, qth⟩
  · exact ⟨_, qr2⟩
  · exact ⟨_, qyl⟩
  · exact ⟨_, qyc⟩
  · exact ⟨_, qzu⟩
  · exact ⟨_, qvp⟩
  · exact ⟨_, qnt⟩
  · exact ⟨_, qn5⟩
  · exact ⟨_, qk9⟩
  · exact ⟨_, qd6⟩
  · exact ⟨_, qpg⟩
  · exact ⟨_, qg3⟩
  · exact ⟨_, qrp⟩
  · exact ⟨_, qg2⟩
  · exact ⟨_, qrz⟩
  · exact ⟨_, qfu⟩
  · exact ⟨_, qyp⟩
  · exact ⟨_, qty⟩
  · exact ⟨_, q1j⟩
  · exact ⟨_, qug⟩
  · exact ⟨_, qo0⟩
  · exact ⟨_, qyv⟩
  · exact ⟨_, qsx⟩
  · exact ⟨_, qq4⟩
  · exact ⟨_, qjt⟩
  · exact ⟨_, qyn⟩
  · exact ⟨_, qys⟩
  · exact ⟨_, q0h⟩
  · exact ⟨_, qnx⟩
  · exact ⟨_, qns⟩
  · exact ⟨_, qmr⟩
  · exact ⟨_, qny⟩
  · exact ⟨_, qmo⟩
  · exact ⟨_, qn3⟩
  · exact ⟨_, qnf⟩
  · exact ⟨_, qoa⟩
  · exact ⟨_, q0o⟩
  · exact ⟨_, qvl⟩
  · exact ⟨_, qmp⟩
  · exact ⟨_, qhu⟩
  · exact ⟨_, qjh⟩
  · exact ⟨_, qwb⟩
  · exact ⟨_, qs9⟩
  · exact ⟨_, qml⟩
  · exact ⟨_, qom⟩
  · exact ⟨_, qjp⟩
  · exact ⟨_, qyf⟩
  · exact ⟨_, qya⟩
  · exact ⟨_, qi5⟩
theorem extL_ok : ∀ x ∈ extL, qry Try.prog x.1 = some x.2 := by
  intro x hx
  simp only [extL, List.mem_cons, List.not_mem_nil, or_false] at hx
  rcases hx with rfl | rfl | rfl | rfl
  · exact qhe
  · exact qh6
  · exact qj3
  · exact qni
theorem mixed : Try.prog.follows .mixedOrders = true := by kernel_rfl
theorem insL_ok : ∀ x ∈ insL, InsOk Try.prog x.1 (insF x.2.1 x.2.2) := by
  intro x hx
  simp only [insL, List.mem_cons, List.not_mem_nil, or_false] at hx
  rcases hx with rfl
  · exact ins_ok mixed qhh
theorem T_ok : TabOk Try.prog T where
  code k f h := codeL_ok _ (qs3 h)
  ext k F h := by
    simp only [T, Option.map_eq_some_iff] at h
    obtain ⟨p, h1, rfl⟩ := h
    exact clone_ok mixed (extL_ok _ (qs3 h1))
  ins k p h := insL_ok (k, p) (qs3 h)
  mixed := mixed
theorem qky : T.code qex = some qc6 := rfl
theorem q69 : T.code qi2 = some qpr := rfl
theorem qzy : T.code qkt = some qqn := rfl
theorem qu0 : T.code qhp = some qll := rfl
theorem qtz : T.code qem = some qjs := rfl
theorem qr3 : T.code qdr = some qjx := rfl
theorem qrr : T.code qeg = some qj0 := rfl
theorem qvf : T.code qhm = some qkg := rfl
theorem q3j : T.code qe7 = some qk8 := rfl
theorem q7y : T.code qkb = some qp6 := rfl
theorem q4z : T.code qil = some qnl := rfl
theorem qsl : T.code qeq = some qkl := rfl
theorem qtx : T.code qfo = some qkw := rfl
theorem qu6 : T.code qhj = some qfj := rfl
theorem qrq : T.code qfa = some qjz := rfl
theorem qvj : T.code qh2 = some qlp := rfl
theorem qoi : T.code qc9 = some qgp := rfl
theorem qmn : T.code qcz = some qfh := rfl
theorem ql4 : T.code qcr = some qd1 := rfl
theorem qmx : T.code qcy = some qfe := rfl
theorem qoh : T.code qck = some qeu := rfl
theorem qse : T.code qep = some qi3 := rfl
theorem qg7 : T.code qaq = some qcc := rfl
theorem q31 : T.code qha = some ql7 := rfl
theorem qqa : T.code qc5 = some qis := rfl
theorem qu4 : T.code qht = some qgs := rfl
theorem qu3 : T.code qhs = some qgh := rfl
theorem qvk : T.code qh3 = some qln := rfl
theorem qt6 : T.code qgt = some qjv := rfl
theorem qul : T.code qfn = some qg0 := rfl
theorem qlj : T.code qca = some qdm := rfl
theorem qto : T.code qgv = some qim := rfl
theorem qjg : T.code qdp = some qbp := rfl
theorem qr0 : T.code qee = some qjy := rfl
theorem qmc : T.code qfb = some qh8 := rfl
theorem qsz : T.code qec = some qg6 := rfl
theorem qph : T.code qdb = some qfw := rfl
theorem qh5 : T.code qav = some qbw := rfl
theorem qtd : T.code qch = some qe8 := rfl
theorem q3h : T.code qf9 = some qlb := rfl
theorem q02 : T.code qe2 = some qkn := rfl
theorem qvu : T.code qhq = some qdq := rfl
theorem qu8 : T.code qh1 = some qgc := rfl
theorem qko : T.code qet = some qb0 := rfl
theorem qsp : T.code qfv = some qkf := rfl
theorem qi8 : T.code qao = some qd3 := rfl
theorem qm2 : T.code qcj = some qdf := rfl
theorem qku : T.code qb5 = some qc7 := rfl
theorem qds : T.code qab = some qan := rfl
theorem qok : T.code qa3 = some qgf := rfl
theorem qgr : T.code qat = some qbl := rfl
theorem qp3 : T.code qcv = some qit := rfl
theorem qna : T.code qa9 = some qcp := rfl
theorem q01 : T.code qe3 = some qkk := rfl
theorem qlv : T.code qax = some qcf := rfl
theorem qvd : T.code qho = some qhw := rfl
theorem qrs : T.code qe6 = some qdd := rfl
theorem qyw : T.code qdy = some qo8 := rfl
theorem qrl : T.code qe9 = some qf6 := rfl
theorem qnq : T.code qc4 = some qfx := rfl
theorem qu7 : T.code qhy = some qli := rfl
theorem qq2 : T.code qd5 = some qfp := rfl
theorem qpl : T.code qd0 = some qhr := rfl
theorem qqq : T.code qbv = some qdv := rfl
theorem qu5 : T.code qen = some qlr := rfl
theorem qvb : T.code qfi = some qlz := rfl
theorem qcs : T.code qcx = some qc3 := rfl
theorem ql3 : T.code qb2 = some qe5 := rfl
theorem qme : T.code qb3 = some qe4 := rfl
theorem qlo : T.code qbx = some qeo := rfl
theorem qmm : T.code qbr = some qd2 := rfl
theorem qlu : T.code qby = some qdo := rfl
theorem qmw : T.code qb8 = some qea := rfl
theorem qmi : T.code qb4 = some qct := rfl
theorem qmu : T.code qb9 = some qfk := rfl
theorem qxt : T.code qi9 = some qk0 := rfl
theorem qst : T.code qes = some qkh := rfl
theorem qlq : T.code qcl = some qcm := rfl
theorem qof : T.code qa1 = some qc0 := rfl
theorem qpp : T.code qam = some qdj := rfl
theorem qtu : T.code qd8 = some qju := rfl
theorem qq5 : T.code qd7 = some qjc := rfl
theorem qlf : T.code qbj = some qdi := rfl
theorem qm0 : T.code qb6 = some qff := rfl
theorem qql : T.code qbi = some qdz := rfl
theorem qvo : T.code qh4 = some qlt := rfl
theorem qvt : T.code qhv = some qlx := rfl
theorem qpi : T.code qaz = some qdg := rfl
theorem qq6 : T.ext qex = none ∧ T.ins qex = none := ⟨rfl, rfl⟩
theorem ext_law23_head : T.ext qi2 = none ∧ T.ins qi2 = none := ⟨rfl, rfl⟩
theorem q1r : T.ext qkt = none ∧ T.ins qkt = none := ⟨rfl, rfl⟩
theorem qxw : T.ext qhp = none ∧ T.ins qhp = none := ⟨rfl, rfl⟩
theorem qvq : T.ext qem = none ∧ T.ins qem = none := ⟨rfl, rfl⟩
theorem qsq : T.ext qdr = none ∧ T.ins qdr = none := ⟨rfl, rfl⟩
theorem qsu : T.ext qeg = none ∧ T.ins qeg = none := ⟨rfl, rfl⟩
theorem qxs : T.ext qhm = none ∧ T.ins qhm = none := ⟨rfl, rfl⟩
theorem q4h : T.ext qe7 = none ∧ T.ins qe7 = none := ⟨rfl, rfl⟩
theorem ext_law19_Base : T.ext qkb = none ∧ T.ins qkb = none := ⟨rfl, rfl⟩
theorem q55 : T.ext qil = none ∧ T.ins qil = none := ⟨rfl, rfl⟩
theorem qtt : T.ext qeq = none ∧ T.ins qeq = none := ⟨rfl, rfl⟩
theorem qvg : T.ext qfo = none ∧ T.ins qfo = none := ⟨rfl, rfl⟩
theorem qxu : T.ext qhj = none ∧ T.ins qhj = none := ⟨rfl, rfl⟩
theorem qsh : T.ext qfa = none ∧ T.ins qfa = none := ⟨rfl, rfl⟩
theorem qxp : T.ext qh2 = none ∧ T.ins qh2 = none := ⟨rfl, rfl⟩
theorem qo6 : T.ext qc9 = none ∧ T.ins qc9 = none := ⟨rfl, rfl⟩
theorem qnw : T.ext qcz = none ∧ T.ins qcz = none := ⟨rfl, rfl⟩
theorem qmt : T.ext qcr = none ∧ T.ins qcr = none := ⟨rfl, rfl⟩
theorem qnn : T.ext qcy = none ∧ T.ins qcy = none := ⟨rfl, rfl⟩
theorem qo7 : T.ext qck = none ∧ T.ins qck = none := ⟨rfl, rfl⟩
theorem qt4 : T.ext qep = none ∧ T.ins qep = none := ⟨rfl, rfl⟩
theorem qhg : T.ext qaq = none ∧ T.ins qaq = none := ⟨rfl, rfl⟩
theorem q5i : T.ext qha = none ∧ T.ins qha = none := ⟨rfl, rfl⟩
theorem qq3 : T.ext qc5 = none ∧ T.ins qc5 = none := ⟨rfl, rfl⟩
theorem qxe : T.ext qht = none ∧ T.ins qht = none := ⟨rfl, rfl⟩
theorem qwq : T.ext qhs = none ∧ T.ins qhs = none := ⟨rfl, rfl⟩
theorem qwy : T.ext qh3 = none ∧ T.ins qh3 = none := ⟨rfl, rfl⟩
theorem qve : T.ext qgt = none ∧ T.ins qgt = none := ⟨rfl, rfl⟩
theorem qu9 : T.ext qfn = none ∧ T.ins qfn = none := ⟨rfl, rfl⟩
theorem qi7 : T.ext qca = none ∧ T.ins qca = none := ⟨rfl, rfl⟩
theorem qvs : T.ext qgv = none ∧ T.ins qgv = none := ⟨rfl, rfl⟩
theorem qjw : T.ext qdp = none ∧ T.ins qdp = none := ⟨rfl, rfl⟩
theorem qsr : T.ext qee = none ∧ T.ins qee = none := ⟨rfl, rfl⟩
theorem qm9 : T.ext qfb = none ∧ T.ins qfb = none := ⟨rfl, rfl⟩
theorem qua : T.ext qec = none ∧ T.ins qec = none := ⟨rfl, rfl⟩
theorem qpw : T.ext qdb = none ∧ T.ins qdb = none := ⟨rfl, rfl⟩
theorem qia : T.ext qav = none ∧ T.ins qav = none := ⟨rfl, rfl⟩
theorem quf : T.ext qch = none ∧ T.ins qch = none := ⟨rfl, rfl⟩
theorem q4c : T.ext qf9 = none ∧ T.ins qf9 = none := ⟨rfl, rfl⟩
theorem q2e : T.ext qe2 = none ∧ T.ins qe2 = none := ⟨rfl, rfl⟩
theorem qw2 : T.ext qhq = none ∧ T.ins qhq = none := ⟨rfl, rfl⟩
theorem qxi : T.ext qh1 = none ∧ T.ins qh1 = none := ⟨rfl, rfl⟩
theorem qkx : T.ext qet = none ∧ T.ins qet = none := ⟨rfl, rfl⟩
theorem qtm : T.ext qfv = none ∧ T.ins qfv = none := ⟨rfl, rfl⟩
theorem qjk : T.ext qao = none ∧ T.ins qao = none := ⟨rfl, rfl⟩
theorem qnm : T.ext qcj = none ∧ T.ins qcj = none := ⟨rfl, rfl⟩
theorem qk1 : T.ext qb5 = none ∧ T.ins qb5 = none := ⟨rfl, rfl⟩
theorem qdt : T.ext qab = none ∧ T.ins qab = none := ⟨rfl, rfl⟩
theorem qov : T.ext qa3 = none ∧ T.ins qa3 = none := ⟨rfl, rfl⟩
theorem qgw : T.ext qat = none ∧ T.ins qat = none := ⟨rfl, rfl⟩
theorem qqz : T.ext qcv = none ∧ T.ins qcv = none := ⟨rfl, rfl⟩
theorem qnk : T.ext qa9 = none ∧ T.ins qa9 = none := ⟨rfl, rfl⟩
theorem q2f : T.ext qe3 = none ∧ T.ins qe3 = none := ⟨rfl, rfl⟩
theorem ql0 : T.ext qax = none ∧ T.ins qax = none := ⟨rfl, rfl⟩
theorem qwk : T.ext qho = none ∧ T.ins qho = none := ⟨rfl, rfl⟩
theorem qsy : T.ext qe6 = none ∧ T.ins qe6 = none := ⟨rfl, rfl⟩
theorem q0e : T.ext qdy = none ∧ T.ins qdy = none := ⟨rfl, rfl⟩
theorem qs6 : T.ext qe9 = none ∧ T.ins qe9 = none := ⟨rfl, rfl⟩
theorem qob : T.ext qc4 = none ∧ T.ins qc4 = none := ⟨rfl, rfl⟩
theorem qw6 : T.ext qhy = none ∧ T.ins qhy = none := ⟨rfl, rfl⟩
theorem qru : T.ext qd5 = none ∧ T.ins qd5 = none := ⟨rfl, rfl⟩
theorem qp5 : T.ext qd0 = none ∧ T.ins qd0 = none := ⟨rfl, rfl⟩
theorem qq0 : T.ext qbv = none ∧ T.ins qbv = none := ⟨rfl, rfl⟩
theorem qw8 : T.ext qen = none ∧ T.ins qen = none := ⟨rfl, rfl⟩
theorem qwv : T.ext qfi = none ∧ T.ins qfi = none := ⟨rfl, rfl⟩
theorem qc1 : T.ext qcx = none ∧ T.ins qcx = none := ⟨rfl, rfl⟩
theorem qmv : T.ext qb2 = none ∧ T.ins qb2 = none := ⟨rfl, rfl⟩
theorem qmz : T.ext qb3 = none ∧ T.ins qb3 = none := ⟨rfl, rfl⟩
theorem qmh : T.ext qbx = none ∧ T.ins qbx = none := ⟨rfl, rfl⟩
theorem qm1 : T.ext qbr = none ∧ T.ins qbr = none := ⟨rfl, rfl⟩
theorem qmj : T.ext qby = none ∧ T.ins qby = none := ⟨rfl, rfl⟩
theorem qno : T.ext qb8 = none ∧ T.ins qb8 = none := ⟨rfl, rfl⟩
theorem qmq : T.ext qb4 = none ∧ T.ins qb4 = none := ⟨rfl, rfl⟩
theorem qnp : T.ext qb9 = none ∧ T.ins qb9 = none := ⟨rfl, rfl⟩
theorem qx2 : T.ext qi9 = none ∧ T.ins qi9 = none := ⟨rfl, rfl⟩
theorem qt1 : T.ext qes = none ∧ T.ins qes = none := ⟨rfl, rfl⟩
theorem qmd : T.ext qcl = none ∧ T.ins qcl = none := ⟨rfl, rfl⟩
theorem qoo : T.ext qa1 = none ∧ T.ins qa1 = none := ⟨rfl, rfl⟩
theorem qpx : T.ext qam = none ∧ T.ins qam = none := ⟨rfl, rfl⟩
theorem qvh : T.ext qd8 = none ∧ T.ins qd8 = none := ⟨rfl, rfl⟩
theorem qrn : T.ext qd7 = none ∧ T.ins qd7 = none := ⟨rfl, rfl⟩
theorem qlk : T.ext qbj = none ∧ T.ins qbj = none := ⟨rfl, rfl⟩
theorem qng : T.ext qb6 = none ∧ T.ins qb6 = none := ⟨rfl, rfl⟩
theorem qq8 : T.ext qbi = none ∧ T.ins qbi = none := ⟨rfl, rfl⟩
theorem qv8 : T.ext qh4 = none ∧ T.ins qh4 = none := ⟨rfl, rfl⟩
theorem qw9 : T.ext qhv = none ∧ T.ins qhv = none := ⟨rfl, rfl⟩
theorem qpo : T.ext qaz = none ∧ T.ins qaz = none := ⟨rfl, rfl⟩
theorem qog : T.ext qb7 = some (qre 1 24) := rfl
theorem qhx : T.ext qa4 = some (qre 6 64) := rfl
theorem qj6 : T.ext qci = some (qre 4 48) := rfl
theorem qnj : T.ext qeb = some (qre 1 8) := rfl
theorem qhf : T.ins qbd = some (6, 64) := rfl
theorem qhd : T.ext qbd = none := rfl
def qbz (n : Int) : List AV := [(ii n)]
theorem int_lo (n : Nat) (x : Int) : los n (qbz x) = true := rfl
theorem int_pl (x : Int) : (qbz x).length = 1 ∧ qo (qbz x) = true := ⟨rfl, rfl⟩
theorem qx (n : Nat) (l : List Int) : qiz n (l.map qbz) = true := qkd (int_lo n) l
theorem q7w (l : List Int) : qce 1 (l.map qbz) = true := qkp int_pl l
def qel (l : List Int) : List AV := [(.fsl ((l).map qbz) false)]
theorem key_lo (n : Nat) (l : List Int) : los n (qel l) = true := by simp only [qel, los, AV.lo, qx, zfc]
theorem key_pl (l : List Int) : (qel l).length = 1 ∧ qo (qel l) = true := ⟨rfl, rfl⟩
theorem qbm (n : Nat) (l : List (List Int)) : qiz n (l.map qel) = true := qkd (key_lo n) l
theorem keys_ok (l : List (List Int)) : qce 1 (l.map qel) = true := qkp key_pl l
structure OpI where
  code : Int
  a : Int
  b : Int
  c : Int
  deriving DecidableEq
def OpI.r (x : OpI) : List AV := [(ii x.code), (ii x.a), (ii x.b), (ii x.c)]
theorem op_lo (n : Nat) (x : OpI) : los n x.r = true := rfl
theorem qhk (n : Nat) (l : List OpI) : qiz n (l.map OpI.r) = true := qkd (op_lo n) l
def qcd (p : List OpI) : List AV := [(.fsl ((p).map OpI.r) false)]
theorem progC_lo (n : Nat) (l : List OpI) : los n (qcd l) = true := by simp only [qcd, los, AV.lo, qhk, zfc]
theorem qaw (n : Nat) (l : List (List OpI)) : qiz n (l.map qcd) = true := qkd (progC_lo n) l
structure Start where
  prog : Int
  time : Int
  deriving DecidableEq
def Start.r (x : Start) : List AV := [(ii x.prog), (ii x.time)]
theorem start_lo (n : Nat) (x : Start) : los n x.r = true := rfl
theorem q7o (n : Nat) (l : List Start) : qiz n (l.map Start.r) = true := qkd (start_lo n) l
def lpC (p : List Start) : List AV := [(.fsl ((p).map Start.r) false)]
theorem lpC_lo (n : Nat) (l : List Start) : los n (lpC l) = true := by simp only [lpC, los, AV.lo, q7o, zfc]
theorem qcb (n : Nat) (l : List (List Start)) : qiz n (l.map lpC) = true := qkd (lpC_lo n) l
structure Cfg where
  lps : List (List Start)
  progs : List (List OpI)
  look : Int
  fin : Int
  cap : Int
def qqc (n : Int) : Bool := decide (n ≥ 1) && decide (n ≤ 1099511627776)
def quw (n : Int) : Bool := decide (n ≥ -1073741824) && decide (n ≤ 1073741824)
theorem qkv (n : Int) : qa7 (evL T) qen [(ii n)] = some (bb (qqc n)) := by
  rw [qa7, qae qw8 qu5]
  by_cases h1 : n ≥ 1 <;> simp only [qqc, qlr, h1, qk, Ev.exec, qb, qe, qc, qah, Ev.Opnd.ev, Ev.Env.get, Ev.Env.set, Ev.Env.unset, Ev.look, ql, ql9, qbq, qj, qs, qak, Ev.kill, qai, qg, qbc, qac, ↓qn, ↓reduceIte, List.length_cons, List.length_nil, zfe, Nat.reduceEqDiff, reduceCtorEq, decide_true, decide_false, Bool.true_and, zfa, and_self, zfd, eq_self, Bool.false_and]
theorem qne (n : Int) : qa7 (evL T) qfi [(ii n)] = some (bb (quw n)) := by
  rw [qa7, qae qwv qvb]
  by_cases h1 : n ≥ -1073741824 <;> simp only [quw, qlz, h1, qk, Ev.exec, qb, qe, qc, qah, Ev.Opnd.ev, Ev.Env.get, Ev.Env.set, Ev.Env.unset, Ev.look, ql, ql9, qbq, qj, qs, qak, Ev.kill, qai, qg, qbc, qac, ↓qn, ↓reduceIte, List.length_cons, List.length_nil, zfe, Nat.reduceEqDiff, Int.reduceNeg, reduceCtorEq, decide_true, decide_false, Bool.true_and, zfa, and_self, zfd, eq_self, Bool.false_and]
def qyz (x : OpI) (n ps : Int) : Bool :=
  if x.code = 1 then qqc x.a && (decide (x.b = 0) && decide (x.c = 0))
  else if x.code = 2 then decide (x.a ≥ 0) && (quw x.b && qqc x.c)
  else if x.code = 3 then qqc x.a && (decide (x.b ≥ 0) && (decide (x.b < n) && decide (x.c = 0)))
  else if x.code = 5 then decide (x.a ≥ 0) && (decide (x.a < ps) && (qqc x.b && decide (x.c = 0)))
  else if x.code = 6 then decide (x.a ≥ 0) && (decide (x.a < 2) && (quw x.b && decide (x.c = 0)))
  else if x.code = 7 then decide (x.a ≥ 0) && (decide (x.a < 2) && (quw x.b && (decide (x.c ≥ 0) && decide (x.c < n))))
  else decide (x.a = 0) && (decide (x.b = 0) && decide (x.c = 0))
theorem qoe (x : OpI) (n ps : Int) : qa7 (evL T) qe6 [(.agg [(ii x.code), (ii x.a), (ii x.b), (ii x.c)]), (ii n), (ii ps)] = some (bb (qyz x n ps)) := by
  obtain ⟨k, a, b, c⟩ := x
  rw [qa7, qae qsy qrs]
  simp only [qyz]
  by_cases k1 : k = 1
  · subst k1
    cases h1 : qqc a <;> by_cases h2 : b = 0 <;> simp only [qdd, qkv, h1, h2, qk, Ev.exec, qb, qe, qc, qa5, qah, Ev.evs, Ev.Opnd.ev, Ev.Env.get, Ev.Env.set, Ev.Env.unset, Ev.look, ql, qf, qv, Ev.AV.cells, qo, Ev.AV.plain, qas, qj, qs, qak, Ev.kill, qai, qg, qbc, qh, qd, qac, ↓qn, ↓reduceIte, List.length_cons, List.length_nil, zfe, List.drop_succ_cons, List.drop_zero, List.head?_cons, Nat.reduceAdd, Nat.reduceEqDiff, decide_true, decide_false, zfc, Bool.true_and, zfa, and_self, ne_eq, zfb, zff, zfd, eq_self, Bool.false_and, Bool.and_false]
  by_cases k2 : k = 2
  · subst k2
    by_cases h1 : a ≥ 0 <;> cases h2 : quw b <;> simp only [qdd, qkv, qne, h1, h2, qk, Ev.exec, qb, qe, qc, qa5, qah, Ev.evs, Ev.Opnd.ev, Ev.Env.get, Ev.Env.set, Ev.Env.unset, Ev.look, ql, qf, qv, Ev.AV.cells, qo, Ev.AV.plain, qas, qbq, qj, qs, qak, Ev.kill, qai, qg, qbc, qh, qd, qac, ↓qn, ↓reduceIte, List.length_cons, List.length_nil, zfe, List.drop_succ_cons, List.drop_zero, List.head?_cons, Nat.reduceAdd, Nat.reduceEqDiff, Int.reduceEq, decide_true, decide_false, zfc, Bool.true_and, zfa, and_self, ne_eq, zfb, zff, zfd, eq_self, Bool.false_and, Bool.and_false]
  by_cases k3 : k = 3
  · subst k3
    cases h1 : qqc a <;> by_cases h2 : b ≥ 0 <;> by_cases h3 : b < n <;> simp only [qdd, qkv, h1, h2, h3, qk, Ev.exec, qb, qe, qc, qa5, qah, Ev.evs, Ev.Opnd.ev, Ev.Env.get, Ev.Env.set, Ev.Env.unset, Ev.look, ql, qf, qv, Ev.AV.cells, qo, Ev.AV.plain, qas, qi, qbq, qj, qs, qak, Ev.kill, qai, qg, qbc, qh, qd, qac, ↓qn, ↓reduceIte, List.length_cons, List.length_nil, zfe, List.drop_succ_cons, List.drop_zero, List.head?_cons, Nat.reduceAdd, Nat.reduceEqDiff, Int.reduceEq, reduceCtorEq, decide_true, decide_false, zfc, Bool.true_and, zfa, and_self, ne_eq, zfb, zff, zfd, eq_self, Bool.false_and, Bool.and_false]
  by_cases k5 : k = 5
  · subst k5
    by_cases h1 : a ≥ 0 <;> by_cases h2 : a < ps <;> cases h3 : qqc b <;> simp only [qdd, qkv, h1, h2, h3, qk, Ev.exec, qb, qe, qc, qa5, qah, Ev.evs, Ev.Opnd.ev, Ev.Env.get, Ev.Env.set, Ev.Env.unset, Ev.look, ql, qf, qv, Ev.AV.cells, qo, Ev.AV.plain, qas, qi, qbq, qj, qs, qak, Ev.kill, qai, qg, qbc, qh, qd, qac, ↓qn, ↓reduceIte, List.length_cons, List.length_nil, zfe, List.drop_succ_cons, List.drop_zero, List.head?_cons, Nat.reduceAdd, Nat.reduceEqDiff, Int.reduceEq, reduceCtorEq, decide_true, decide_false, zfc, Bool.true_and, zfa, and_self, ne_eq, zfb, zff, zfd, eq_self, Bool.false_and, Bool.and_false]
  by_cases k6 : k = 6
  · subst k6
    by_cases h1 : a ≥ 0 <;> by_cases h2 : a < 2 <;> cases h3 : quw b <;> simp only [qdd, qne, h1, h2, h3, qk, Ev.exec, qb, qe, qc, qa5, qah, Ev.evs, Ev.Opnd.ev, Ev.Env.get, Ev.Env.set, Ev.Env.unset, Ev.look, ql, qf, qv, Ev.AV.cells, qo, Ev.AV.plain, qas, qi, qbq, qj, qs, qak, Ev.kill, qai, qg, qbc, qh, qd, qac, ↓qn, ↓reduceIte, List.length_cons, List.length_nil, zfe, List.drop_succ_cons, List.drop_zero, List.head?_cons, Nat.reduceAdd, Nat.reduceEqDiff, Int.reduceEq, decide_true, decide_false, zfc, Bool.true_and, zfa, and_self, ne_eq, zfb, zff, zfd, eq_self, Bool.false_and, Bool.and_false]
  by_cases k7 : k = 7
  · subst k7
    by_cases h1 : a ≥ 0 <;> by_cases h2 : a < 2 <;> cases h3 : quw b <;> by_cases h4 : c ≥ 0 <;> simp only [qdd, qne, h1, h2, h3, h4, qk, Ev.exec, qb, qe, qc, qa5, qah, Ev.evs, Ev.Opnd.ev, Ev.Env.get, Ev.Env.set, Ev.Env.unset, Ev.look, ql, qf, qv, Ev.AV.cells, qo, Ev.AV.plain, qas, qi, qbq, qj, qs, qak, Ev.kill, qai, qg, qbc, qh, qd, qac, ↓qn, ↓reduceIte, List.length_cons, List.length_nil, zfe, List.drop_succ_cons, List.drop_zero, List.head?_cons, Nat.reduceAdd, Nat.reduceEqDiff, Int.reduceEq, reduceCtorEq, decide_true, decide_false, zfc, Bool.true_and, zfa, and_self, ne_eq, zfb, zff, zfd, eq_self, Bool.false_and, Bool.and_false]
  by_cases h1 : a = 0 <;> by_cases h2 : b = 0 <;> simp only [qdd, k1, k2, k3, k5, k6, k7, h1, h2, qk, Ev.exec, qb, qe, qc, qah, Ev.Opnd.ev, Ev.Env.get, Ev.Env.set, Ev.Env.unset, Ev.look, ql, qf, qv, Ev.AV.cells, qo, Ev.AV.plain, qas, qj, qs, qak, Ev.kill, qai, qg, qbc, qac, ↓qn, ↓reduceIte, List.length_cons, List.length_nil, zfe, List.drop_succ_cons, List.drop_zero, List.head?_cons, Nat.reduceAdd, Nat.reduceEqDiff, decide_true, decide_false, zfc, Bool.true_and, zfa, and_self, ne_eq, zfb, zff, zfd, eq_self, Bool.false_and, Bool.and_false]
def q1f (x : OpI) : Bool := decide (x.code ≥ 1) && decide (x.code ≤ 8)
def qpq (p : List OpI) : Bool := decide (1 ≤ p.length ∧ p.length ≤ 16) && p.all q1f
def q8d (lps : Int) (x : OpI) : Bool := !(decide (x.code = 2) && decide (x.a ≥ lps))
def qp2 (look : Int) (x : OpI) : Bool := !(decide (x.code = 2) && decide (x.c < look))
def qpb (p : List OpI) (ps lps look : Int) : Int :=
  if qpq p = false then 22 else if p.all (fun x => qyz x p.length ps) = false then 22 else if p.all (q8d lps) = false then 23 else if p.all (qp2 look) = false then 21 else 0
section
variable (p : List OpI) (c : Bool) (ps lps look : Int)
theorem q0a (hl : p.length ≤ 16) :
    ∃ y, itB (exec (evL T) itL none qf3) (qr [0, 3] true 0) ⟨[(0, (.fsl ((p).map OpI.r) c)), (3, (ii 0))], []⟩ [] = some y ∧ (p.all q1f = true ∧ (y.1 = .exit 0 ∧ y.2.1.marks = [] ∧ y.2.2 = []) ∨
      p.all q1f = false ∧ ∃ x, p.find? (fun x => !q1f x) = some x ∧ (y.1 = .ret ∧ y.2.1.marks = [] ∧ y.2.2 = [] ∧ Ev.look y.2.1.vars 2 = some (bb false))) := by
  refine qhl p (fun i => ⟨[(0, (.fsl ((p).map OpI.r) c)), (3, (ii i))], []⟩) [] q1f _ (fun _ y => _) ?_ ?_ ?_
  · intro i x hi hx hp
    have hi' : (i : Int) < (p.length : Int) := by omega
    have hw : IntKind.i64.wrap ((i : Int) + 1) = ((i + 1 : Nat) : Int) := by rw [qar (by omega) (by omega)]; simp
    simp only [q1f, Bool.and_eq_true, decide_eq_true_eq] at hp
    have h1 : ¬ x.code < 1 := by omega
    have h2 : ¬ x.code > 8 := by omega
    simp only [qf3, Int.natCast_nonneg, Int.toNat_natCast, List.getElem?_map, Option.map_some, OpI.r, hx, hi', hw, h1, h2, qhk, Ev.exec, qb, qe, qc, qah, Ev.Opnd.ev, Ev.Env.get, Ev.Env.set, Ev.look, qf, qv, qap, qi, qbb, qr, Ev.keep, qal, qad, qg, qbc, qm, List.length_map, ↓qn, Ev.it1, ↓reduceIte, List.length_cons, List.length_nil, zfe, List.drop_zero, List.head?_cons, Nat.reduceAdd, Nat.reduceEqDiff, reduceCtorEq, decide_true, decide_false, zfc, zfa, and_self, zfd, eq_self]
  · intro i x hi hx hp
    have hi' : (i : Int) < (p.length : Int) := by omega
    simp only [q1f, Bool.and_eq_false_iff, decide_eq_false_iff_not] at hp
    by_cases h1 : x.code < 1
    · simp only [qf3, Int.natCast_nonneg, Int.toNat_natCast, List.getElem?_map, Option.map_some, OpI.r, hx, hi', h1, Ev.exec, qb, qe, qc, qah, Ev.Opnd.ev, Ev.Env.get, Ev.Env.set, Ev.Env.unset, Ev.look, qf, qv, qi, List.length_map, ↓qn, Ev.it1, ↓reduceIte, List.length_cons, List.length_nil, List.drop_zero, List.head?_cons, Nat.reduceAdd, Nat.reduceEqDiff, reduceCtorEq, decide_true, zfa, Bool.true_eq_false, zfd, eq_self]
      exact ⟨_, rfl, rfl, rfl, rfl, rfl⟩
    · have h2 : x.code > 8 := by omega
      simp only [qf3, Int.natCast_nonneg, Int.toNat_natCast, List.getElem?_map, Option.map_some, OpI.r, hx, hi', h1, h2, Ev.exec, qb, qe, qc, qah, Ev.Opnd.ev, Ev.Env.get, Ev.Env.set, Ev.look, qf, qv, qi, qbb, List.length_map, ↓qn, Ev.it1, ↓reduceIte, List.length_cons, List.length_nil, List.drop_zero, List.head?_cons, Nat.reduceAdd, Nat.reduceEqDiff, reduceCtorEq, decide_true, decide_false, zfa, zfd, eq_self]
      exact ⟨_, rfl, rfl, rfl, rfl, rfl⟩
  · simp only [qf3, Int.lt_irrefl, Ev.exec, qb, qe, qc, qah, Ev.Opnd.ev, Ev.Env.get, Ev.Env.set, Ev.look, qi, List.length_map, ↓qn, Ev.it1, ↓reduceIte, Nat.reduceEqDiff, reduceCtorEq, decide_false, zfa, eq_self]
    exact ⟨_, rfl, rfl, rfl, rfl⟩
theorem qx3 : qa7 (evL T) qho [(.fsl ((p).map OpI.r) c)] = some (bb (qpq p)) := by
  rw [qa7, qae qwk qvd]
  by_cases h1 : (p.length : Int) < 1
  · have : ¬ (1 ≤ p.length ∧ p.length ≤ 16) := by omega
    simp only [qhw, qpq, this, h1, qk, Ev.exec, qb, qe, qc, qah, Ev.Opnd.ev, Ev.Env.get, Ev.Env.set, Ev.Env.unset, Ev.look, ql, qi, qj, qs, qak, Ev.kill, qai, qg, qbc, qac, List.length_map, ↓qn, ↓reduceIte, List.length_cons, List.length_nil, zfe, Nat.reduceEqDiff, reduceCtorEq, decide_true, decide_false, Bool.true_eq_false, and_self, zfd, eq_self, Bool.false_and]
  by_cases h2 : (p.length : Int) > 16
  · have : ¬ (1 ≤ p.length ∧ p.length ≤ 16) := by omega
    simp only [qhw, qpq, this, h1, h2, qk, Ev.exec, qb, qe, qc, qah, Ev.Opnd.ev, Ev.Env.get, Ev.Env.set, Ev.look, ql, qi, qbb, qj, qs, qak, Ev.kill, qai, qg, qbc, qac, List.length_map, ↓qn, ↓reduceIte, List.length_cons, List.length_nil, zfe, Nat.reduceEqDiff, reduceCtorEq, decide_true, decide_false, zfa, and_self, zfd, eq_self, Bool.false_and]
  have h3 : 1 ≤ p.length ∧ p.length ≤ 16 := by omega
  obtain ⟨⟨y, e, σ⟩, k1, k2⟩ := q0a p c h3.2
  simp only at k2
  rcases k2 with ⟨k3, rfl, k4, rfl⟩ | ⟨k3, x, _, rfl, k4, rfl, k5⟩
  · simp only [qhw, qpq, h3, h1, h2, k1, k3, k4, qhk, qk, Ev.exec, qb, qe, qc, qah, Ev.Opnd.ev, Ev.Env.get, Ev.Env.set, Ev.look, ql, qi, qbb, qj, qs, qak, Ev.kill, qai, qr, Ev.keep, qal, qad, qg, qbc, qm, qac, List.length_map, ↓qn, ↓qa0, ↓reduceIte, List.length_cons, List.length_nil, zfe, Nat.reduceEqDiff, reduceCtorEq, decide_true, decide_false, zfc, zfa, and_self, zfd, eq_self]
  · simp only [qhw, qpq, h3, h1, h2, k1, k3, k4, k5, qhk, qk, Ev.exec, qb, qe, qc, qah, Ev.Opnd.ev, Ev.Env.get, Ev.Env.set, Ev.look, ql, qi, qbb, qj, qs, qak, Ev.kill, qai, qr, Ev.keep, qal, qad, qg, qbc, qm, qac, List.length_map, ↓qn, ↓qa0, ↓reduceIte, List.length_cons, List.length_nil, zfe, Nat.reduceEqDiff, reduceCtorEq, decide_true, decide_false, zfc, zfa, and_self, zfd, eq_self, Bool.and_false]
theorem qyh (hl : p.length ≤ 16) :
    ∃ y, itB (exec (evL T) itL none qig) (qr [0, 1, 2, 3, 9] true 0) ⟨[(0, (.fsl ((p).map OpI.r) c)), (1, (ii ps)), (2, (ii lps)), (3, (ii look)), (9, (ii 0))], []⟩ [] = some y ∧
      (p.all (fun x => qyz x p.length ps) = true ∧ (y.1 = .exit 0 ∧ y.2.1.marks = [] ∧ y.2.2 = [] ∧ Ev.look y.2.1.vars 0 = some (.fsl ((p).map OpI.r) c) ∧ Ev.look y.2.1.vars 2 = some (ii lps) ∧ Ev.look y.2.1.vars 3 = some (ii look)) ∨
      p.all (fun x => qyz x p.length ps) = false ∧ ∃ x, p.find? (fun x => !qyz x p.length ps) = some x ∧ (y.1 = .ret ∧ y.2.1.marks = [] ∧ y.2.2 = [] ∧ Ev.look y.2.1.vars 8 = some (ii 22))) := by
  refine qhl p (fun i => ⟨[(0, (.fsl ((p).map OpI.r) c)), (1, (ii ps)), (2, (ii lps)), (3, (ii look)), (9, (ii i))], []⟩) [] (fun x => qyz x p.length ps) _ (fun _ y => _) ?_ ?_ ?_
  · intro i x hi hx hp
    have hi' : (i : Int) < (p.length : Int) := by omega
    have hw : IntKind.i64.wrap ((i : Int) + 1) = ((i + 1 : Nat) : Int) := by rw [qar (by omega) (by omega)]; simp
    simp only [qig, Int.natCast_nonneg, Int.toNat_natCast, List.getElem?_map, Option.map_some, OpI.r, hx, hi', hw, qoe, hp, qhk, Ev.exec, qb, qe, qc, qa5, qah, Ev.evs, Ev.Opnd.ev, Ev.Env.get, Ev.Env.set, Ev.look, qf, qv, qap, qi, qr, Ev.keep, qal, qad, qg, qbc, qa2, qm, qh, qd, List.length_map, ↓qn, Ev.it1, ↓reduceIte, List.length_cons, List.length_nil, List.take_succ_cons, zfe, Nat.reduceAdd, Nat.reduceEqDiff, reduceCtorEq, decide_true, zfc, Bool.not_true, zfa, and_self, zfd, Nat.le_refl, eq_self]
  · intro i x hi hx hp
    have hi' : (i : Int) < (p.length : Int) := by omega
    simp only [qig, Int.natCast_nonneg, Int.toNat_natCast, List.getElem?_map, Option.map_some, OpI.r, hx, hi', qoe, hp, Ev.exec, qb, qe, qc, qa5, qah, Ev.evs, Ev.Opnd.ev, Ev.Env.get, Ev.Env.set, Ev.look, qf, qv, qi, qbc, qa2, qh, qd, List.length_map, ↓qn, Ev.it1, ↓reduceIte, List.length_cons, List.length_nil, List.take_succ_cons, zfe, Nat.reduceAdd, Nat.reduceEqDiff, reduceCtorEq, decide_true, zfc, Bool.not_false, zfd, Nat.le_refl, eq_self]
    exact ⟨_, rfl, rfl, rfl, rfl, rfl⟩
  · simp only [qig, Int.lt_irrefl, Ev.exec, qb, qe, qc, qah, Ev.Opnd.ev, Ev.Env.get, Ev.Env.set, Ev.look, qi, List.length_map, ↓qn, Ev.it1, ↓reduceIte, Nat.reduceEqDiff, reduceCtorEq, decide_false, zfa, eq_self]
    exact ⟨_, rfl, rfl, rfl, rfl, rfl, rfl, rfl⟩
theorem qym (hl : p.length ≤ 16) :
    ∃ y, itB (exec (evL T) itL none qf2) (qr [0, 2, 3, 10] true 0) ⟨[(0, (.fsl ((p).map OpI.r) c)), (2, (ii lps)), (3, (ii look)), (10, (ii 0))], []⟩ [] = some y ∧
      (p.all (q8d lps) = true ∧ (y.1 = .exit 2 ∧ y.2.1.marks = [] ∧ y.2.2 = [] ∧ Ev.look y.2.1.vars 0 = some (.fsl ((p).map OpI.r) c) ∧ Ev.look y.2.1.vars 3 = some (ii look)) ∨
      p.all (q8d lps) = false ∧ ∃ x, p.find? (fun x => !q8d lps x) = some x ∧ (y.1 = .ret ∧ y.2.1.marks = [] ∧ y.2.2 = [] ∧ Ev.look y.2.1.vars 8 = some (ii 23))) := by
  refine qhl p (fun i => ⟨[(0, (.fsl ((p).map OpI.r) c)), (2, (ii lps)), (3, (ii look)), (10, (ii i))], []⟩) [] (q8d lps) _ (fun _ y => _) ?_ ?_ ?_
  · intro i x hi hx hp
    have hi' : (i : Int) < (p.length : Int) := by omega
    have hw : IntKind.i64.wrap ((i : Int) + 1) = ((i + 1 : Nat) : Int) := by rw [qar (by omega) (by omega)]; simp
    by_cases h1 : x.code = 2
    · have h2 : ¬ x.a ≥ lps := by simpa [q8d, h1] using hp
      simp only [qf2, Int.natCast_nonneg, Int.toNat_natCast, List.getElem?_map, Option.map_some, OpI.r, hx, hi', hw, h1, h2, qhk, Ev.exec, qb, qe, qc, qah, Ev.Opnd.ev, Ev.Env.get, Ev.Env.set, Ev.look, qf, qv, qap, qas, qi, qbq, qr, Ev.keep, qal, qad, qg, qbc, qm, List.length_map, ↓qn, Ev.it1, ↓reduceIte, List.length_cons, List.length_nil, zfe, List.drop_succ_cons, List.drop_zero, List.head?_cons, Nat.reduceAdd, Nat.reduceEqDiff, reduceCtorEq, decide_true, decide_false, zfc, zfa, and_self, zfd, eq_self]
    · simp only [qf2, Int.natCast_nonneg, Int.toNat_natCast, List.getElem?_map, Option.map_some, OpI.r, hx, hi', hw, h1, qhk, Ev.exec, qb, qe, qc, qah, Ev.Opnd.ev, Ev.Env.get, Ev.Env.set, Ev.Env.unset, Ev.look, qf, qv, qap, qas, qi, qr, Ev.keep, qal, qad, qg, qbc, qm, List.length_map, ↓qn, Ev.it1, ↓reduceIte, List.length_cons, List.length_nil, zfe, List.drop_zero, List.head?_cons, Nat.reduceAdd, Nat.reduceEqDiff, reduceCtorEq, decide_true, decide_false, zfc, zfa, and_self, zfd, eq_self]
  · intro i x hi hx hp
    have hi' : (i : Int) < (p.length : Int) := by omega
    have h1 : x.code = 2 := by
      by_cases h1 : x.code = 2
      · exact h1
      · simp [q8d, h1] at hp
    have h2 : x.a ≥ lps := by simpa [q8d, h1] using hp
    simp only [qf2, Int.natCast_nonneg, Int.toNat_natCast, List.getElem?_map, Option.map_some, OpI.r, hx, hi', h1, h2, Ev.exec, qb, qe, qc, qah, Ev.Opnd.ev, Ev.Env.get, Ev.Env.set, Ev.look, qf, qv, qas, qi, qbq, List.length_map, ↓qn, Ev.it1, ↓reduceIte, List.length_cons, List.length_nil, List.drop_succ_cons, List.drop_zero, List.head?_cons, Nat.reduceAdd, Nat.reduceEqDiff, reduceCtorEq, decide_true, zfa, zfd, eq_self]
    exact ⟨_, rfl, rfl, rfl, rfl, rfl⟩
  · simp only [qf2, Int.lt_irrefl, Ev.exec, qb, qe, qc, qah, Ev.Opnd.ev, Ev.Env.get, Ev.Env.set, Ev.look, qi, List.length_map, ↓qn, Ev.it1, ↓reduceIte, Nat.reduceEqDiff, reduceCtorEq, decide_false, zfa, eq_self]
    exact ⟨_, rfl, rfl, rfl, rfl, rfl, rfl⟩
theorem qyy (hl : p.length ≤ 16) :
    ∃ y, itB (exec (evL T) itL none qf8) (qr [0, 3, 11] true 0) ⟨[(0, (.fsl ((p).map OpI.r) c)), (3, (ii look)), (11, (ii 0))], []⟩ [] = some y ∧
      (p.all (qp2 look) = true ∧ (y.1 = .exit 4 ∧ y.2.1.marks = [] ∧ y.2.2 = []) ∨
      p.all (qp2 look) = false ∧ ∃ x, p.find? (fun x => !qp2 look x) = some x ∧ (y.1 = .ret ∧ y.2.1.marks = [] ∧ y.2.2 = [] ∧ Ev.look y.2.1.vars 8 = some (ii 21))) := by
  refine qhl p (fun i => ⟨[(0, (.fsl ((p).map OpI.r) c)), (3, (ii look)), (11, (ii i))], []⟩) [] (qp2 look) _ (fun _ y => _) ?_ ?_ ?_
  · intro i x hi hx hp
    have hi' : (i : Int) < (p.length : Int) := by omega
    have hw : IntKind.i64.wrap ((i : Int) + 1) = ((i + 1 : Nat) : Int) := by rw [qar (by omega) (by omega)]; simp
    by_cases h1 : x.code = 2
    · have h2 : ¬ x.c < look := by simpa [qp2, h1] using hp
      simp only [qf8, Int.natCast_nonneg, Int.toNat_natCast, List.getElem?_map, Option.map_some, OpI.r, hx, hi', hw, h1, h2, qhk, Ev.exec, qb, qe, qc, qah, Ev.Opnd.ev, Ev.Env.get, Ev.Env.set, Ev.look, qf, qv, qap, qas, qi, qr, Ev.keep, qal, qad, qg, qbc, qm, List.length_map, ↓qn, Ev.it1, ↓reduceIte, List.length_cons, List.length_nil, zfe, List.drop_succ_cons, List.drop_zero, List.head?_cons, Nat.reduceAdd, Nat.reduceEqDiff, reduceCtorEq, decide_true, decide_false, zfc, zfa, and_self, zfd, eq_self]
    · simp only [qf8, Int.natCast_nonneg, Int.toNat_natCast, List.getElem?_map, Option.map_some, OpI.r, hx, hi', hw, h1, qhk, Ev.exec, qb, qe, qc, qah, Ev.Opnd.ev, Ev.Env.get, Ev.Env.set, Ev.Env.unset, Ev.look, qf, qv, qap, qas, qi, qr, Ev.keep, qal, qad, qg, qbc, qm, List.length_map, ↓qn, Ev.it1, ↓reduceIte, List.length_cons, List.length_nil, zfe, List.drop_zero, List.head?_cons, Nat.reduceAdd, Nat.reduceEqDiff, reduceCtorEq, decide_true, decide_false, zfc, zfa, and_self, zfd, eq_self]
  · intro i x hi hx hp
    have hi' : (i : Int) < (p.length : Int) := by omega
    have h1 : x.code = 2 := by
      by_cases h1 : x.code = 2
      · exact h1
      · simp [qp2, h1] at hp
    have h2 : x.c < look := by simpa [qp2, h1] using hp
    simp only [qf8, Int.natCast_nonneg, Int.toNat_natCast, List.getElem?_map, Option.map_some, OpI.r, hx, hi', h1, h2, Ev.exec, qb, qe, qc, qah, Ev.Opnd.ev, Ev.Env.get, Ev.Env.set, Ev.look, qf, qv, qas, qi, List.length_map, ↓qn, Ev.it1, ↓reduceIte, List.length_cons, List.length_nil, List.drop_succ_cons, List.drop_zero, List.head?_cons, Nat.reduceAdd, Nat.reduceEqDiff, reduceCtorEq, decide_true, zfa, zfd, eq_self]
    exact ⟨_, rfl, rfl, rfl, rfl, rfl⟩
  · simp only [qf8, Int.lt_irrefl, Ev.exec, qb, qe, qc, qah, Ev.Opnd.ev, Ev.Env.get, Ev.Env.set, Ev.look, qi, List.length_map, ↓qn, Ev.it1, ↓reduceIte, Nat.reduceEqDiff, reduceCtorEq, decide_false, zfa, eq_self]
    exact ⟨_, rfl, rfl, rfl, rfl⟩
theorem qrf : qa7 (evL T) qh1 [(.fsl ((p).map OpI.r) c), (ii ps), (ii lps), (ii look)] = some (ii (qpb p ps lps look)) := by
  have h0 := qx3 p c
  rw [qa7, qae qxi qu8]
  cases hs : qpq p with
  | false =>
    rw [hs] at h0
    simp only [qgc, qpb, h0, hs, qhk, qk, Ev.exec, qb, qe, qc, qa5, qah, Ev.evs, Ev.Opnd.ev, Ev.Env.get, Ev.Env.set, Ev.look, ql, qj, qs, qak, Ev.kill, qai, qg, qbc, qm, qh, qd, qac, ↓qn, ↓reduceIte, List.length_cons, List.length_nil, zfe, Nat.reduceAdd, reduceCtorEq, zfc, Bool.not_false, and_self, zfd, eq_self]
  | true =>
    rw [hs] at h0
    have hl : p.length ≤ 16 := by simp only [qpq, Bool.and_eq_true, decide_eq_true_eq] at hs; exact hs.1.2
    obtain ⟨⟨y1, e1, σ1⟩, k1, k2⟩ := qyh p c ps lps look hl
    obtain ⟨⟨y2, e2, σ2⟩, m1, m2⟩ := qym p c lps look hl
    obtain ⟨⟨y3, e3, σ3⟩, n1, n2⟩ := qyy p c look hl
    simp only at k2 m2 n2
    rcases k2 with ⟨q1, rfl, q2, rfl, q3, q4, q5⟩ | ⟨q1, x, _, rfl, q2, rfl, q3⟩
    · rcases m2 with ⟨r1, rfl, r2, rfl, r3, r4⟩ | ⟨r1, x, _, rfl, r2, rfl, r3⟩
      · rcases n2 with ⟨t1, rfl, t2, rfl⟩ | ⟨t1, x, _, rfl, t2, rfl, t3⟩
        · simp only [qgc, qpb, h0, hs, k1, q1, q2, q3, q4, q5, m1, r1, r2, r3, r4, n1, t1, t2, qhk, qk, Ev.exec, qb, qe, qc, qa5, qah, Ev.evs, Ev.Opnd.ev, Ev.Env.get, Ev.Env.set, Ev.look, ql, qj, qs, qak, Ev.kill, qai, qr, Ev.keep, qal, qad, qg, qbc, qm, qh, qd, qac, ↓qn, ↓qa0, ↓reduceIte, List.length_cons, List.length_nil, zfe, Nat.reduceAdd, Nat.reduceEqDiff, reduceCtorEq, zfc, Bool.not_true, zfa, Bool.true_eq_false, and_self, zfd, eq_self]
        · simp only [qgc, qpb, h0, hs, k1, q1, q2, q3, q4, q5, m1, r1, r2, r3, r4, n1, t1, t2, t3, qhk, qk, Ev.exec, qb, qe, qc, qa5, qah, Ev.evs, Ev.Opnd.ev, Ev.Env.get, Ev.Env.set, Ev.look, ql, qj, qs, qak, Ev.kill, qai, qr, Ev.keep, qal, qad, qg, qbc, qm, qh, qd, qac, ↓qn, ↓qa0, ↓reduceIte, List.length_cons, List.length_nil, zfe, Nat.reduceAdd, Nat.reduceEqDiff, reduceCtorEq, zfc, Bool.not_true, zfa, Bool.true_eq_false, and_self, zfd, eq_self]
      · simp only [qgc, qpb, h0, hs, k1, q1, q2, q3, q4, q5, m1, r1, r2, r3, qhk, qk, Ev.exec, qb, qe, qc, qa5, qah, Ev.evs, Ev.Opnd.ev, Ev.Env.get, Ev.Env.set, Ev.look, ql, qj, qs, qak, Ev.kill, qai, qr, Ev.keep, qal, qad, qg, qbc, qm, qh, qd, qac, ↓qn, ↓qa0, ↓reduceIte, List.length_cons, List.length_nil, zfe, Nat.reduceAdd, Nat.reduceEqDiff, reduceCtorEq, zfc, Bool.not_true, zfa, Bool.true_eq_false, and_self, zfd, eq_self]
    · simp only [qgc, qpb, h0, hs, k1, q1, q2, q3, qhk, qk, Ev.exec, qb, qe, qc, qa5, qah, Ev.evs, Ev.Opnd.ev, Ev.Env.get, Ev.Env.set, Ev.look, ql, qj, qs, qak, Ev.kill, qai, qr, Ev.keep, qal, qad, qg, qbc, qm, qh, qd, qac, ↓qn, ↓qa0, ↓reduceIte, List.length_cons, List.length_nil, zfe, Nat.reduceAdd, Nat.reduceEqDiff, reduceCtorEq, zfc, Bool.not_true, zfa, Bool.true_eq_false, and_self, zfd, eq_self]
end
set_option maxRecDepth 10000
structure Pr where
  prog : Int
  pc : Int
  alive : Bool
  timer : List Int
  deriving DecidableEq
def Pr.r (x : Pr) : List AV := [(ii x.prog), (ii x.pc), (bb x.alive), (.fsl ((x.timer).map qbz) false)]
theorem pr_lo (n : Nat) (x : Pr) : los n x.r = true := by simp only [Pr.r, qx, qbc, qm, qh, qd, zfc, eq_self]
theorem pr_pl (x : Pr) : x.r.length = 4 ∧ qo x.r = true := ⟨rfl, rfl⟩
theorem qag (n : Nat) (l : List Pr) : qiz n (l.map Pr.r) = true := qkd (pr_lo n) l
theorem qz9 (l : List Pr) : qce 4 (l.map Pr.r) = true := qkp pr_pl l
structure Evt where
  time : Int
  key : List Int
  lp : Int
  kind : Int
  proc : Int
  arg : Int
  deriving DecidableEq
def Evt.r (x : Evt) : List AV := [(ii x.time), (.fsl ((x.key).map qbz) false), (ii x.lp), (ii x.kind), (ii x.proc), (ii x.arg)]
theorem evt_lo (n : Nat) (x : Evt) : los n x.r = true := by simp only [Evt.r, qx, qbc, qm, qh, qd, zfc, eq_self]
theorem evt_pl (x : Evt) : x.r.length = 6 ∧ qo x.r = true := ⟨rfl, rfl⟩
theorem qaa (n : Nat) (l : List Evt) : qiz n (l.map Evt.r) = true := qkd (evt_lo n) l
theorem qf1 (l : List Evt) : qce 6 (l.map Evt.r) = true := qkp evt_pl l
structure Lp where
  r0 : Int
  r1 : Int
  procs : List Pr
  sum : Int
  deriving DecidableEq
def Lp.r (x : Lp) : List AV := [(ii x.r0), (ii x.r1), (.fsl ((x.procs).map Pr.r) false), (ii x.sum)]
structure Ex where
  r0 : Int
  r1 : Int
  procs : List Pr
  sum : Int
  ev : Evt
  out : List Evt
  n : Int
  gone : List (List Int)
  over : Bool
def Ex.kid (x : Ex) : List Int := x.ev.key ++ [x.n]
def Ex.create (x : Ex) (d : Int) (e : Evt) : Ex :=
  { x with n := w64 (x.n + 1), out := if w64 (x.ev.time + d) > 1152921504606846976 then x.out else x.out ++ [⟨w64 (x.ev.time + d), x.kid, e.lp, e.kind, e.proc, e.arg⟩],
           over := if w64 (x.ev.time + d) > 1152921504606846976 then true else x.over }
structure Ex.Small (x : Ex) : Prop where
  procs : x.procs.length ≤ 1000
  out : x.out.length ≤ 1000
  gone : x.gone.length ≤ 1000
  key : x.ev.key.length ≤ 100000
theorem q0k (l : List Int) : qpj (l.map qbz) (l.map qbz) = true := qps (fun x => by simp only [qbz, qs1, qp8, qz2, decide_true, zfc, eq_self]) l
theorem eq_procs (l : List Pr) : qpj (l.map Pr.r) (l.map Pr.r) = true := qps (fun x => by simp only [Pr.r, q0k, qs1, qp8, qz2, q4g, qz3, decide_true, zfc, eq_self, beq_self_eq_true]) l
theorem eq_evts (l : List Evt) : qpj (l.map Evt.r) (l.map Evt.r) = true := qps (fun x => by simp only [Evt.r, q0k, qs1, qp8, qz2, qz3, decide_true, zfc, eq_self, beq_self_eq_true]) l
theorem eq_keys (l : List (List Int)) : qpj (l.map qel) (l.map qel) = true := qps (fun x => by simp only [qel, q0k, qs1, qp8, qz3, zfc, eq_self, beq_self_eq_true]) l
set_option maxRecDepth 10000
def qon (a b : Int) : Int := if a < b then -1 else if a > b then 1 else 0
theorem qld (a b : Int) : qa7 (evL T) qec [(ii a), (ii b)] = some (ii (qon a b)) := by
  rw [qa7, qae qua qsz]
  by_cases h1 : a < b
  · simp only [qg6, qon, h1, qk, Ev.exec, qb, qe, qc, qah, Ev.Opnd.ev, Ev.Env.get, Ev.Env.set, Ev.look, ql, qi, qj, qs, qak, Ev.kill, qai, qg, qbc, qac, ↓qn, ↓reduceIte, List.length_cons, List.length_nil, zfe, Nat.reduceAdd, Nat.reduceEqDiff, Int.reduceNeg, reduceCtorEq, decide_true, and_self, zfd, eq_self]
  by_cases h2 : a > b
  · simp only [qg6, qon, h1, h2, qk, Ev.exec, qb, qe, qc, qah, Ev.Opnd.ev, Ev.Env.get, Ev.Env.set, Ev.look, ql, qi, qbb, qj, qs, qak, Ev.kill, qai, qg, qbc, qac, ↓qn, ↓reduceIte, List.length_cons, List.length_nil, zfe, Nat.reduceAdd, Nat.reduceEqDiff, Int.reduceNeg, reduceCtorEq, decide_true, decide_false, zfa, and_self, zfd, eq_self]
  · simp only [qg6, qon, h1, h2, qk, Ev.exec, qb, qe, qc, qah, Ev.Opnd.ev, Ev.Env.get, Ev.Env.set, Ev.look, ql, qi, qbb, qj, qs, qak, Ev.kill, qai, qg, qbc, qac, ↓qn, ↓reduceIte, List.length_cons, List.length_nil, zfe, Nat.reduceAdd, Nat.reduceEqDiff, Int.reduceNeg, reduceCtorEq, decide_false, zfa, and_self, zfd, eq_self]
def qkm : List Int → List Int → Int
  | x :: a, y :: b => if x = y then qkm a b else qon x y
  | [], b => if b.length = 0 then 0 else -1
  | _ :: _, [] => 1
theorem qt3 : ∀ a b : List Int, ((a.zip b).all (fun z => decide (z.1 = z.2)) = true → qkm a b = qon a.length b.length) ∧ ∀ x, (a.zip b).find? (fun z => !decide (z.1 = z.2)) = some x → qkm a b = qon x.1 x.2
  | [], b => by
    refine ⟨fun _ => ?_, fun x h => by simp at h⟩
    cases b with
    | nil => rfl
    | cons y b =>
      have : ((0 : Nat) : Int) < ((y :: b).length : Int) := by simp only [List.length_cons]; omega
      simp only [qkm, List.length_cons, Nat.succ_ne_zero, if_false, qon, List.length_nil]
      rw [if_pos (by omega)]
  | x :: a, [] => by
    refine ⟨fun _ => ?_, fun x h => by simp at h⟩
    simp only [qkm, qon, List.length_cons, List.length_nil]
    rw [if_neg (by omega), if_pos (by omega)]
  | x :: a, y :: b => by
    obtain ⟨h1, h2⟩ := qt3 a b
    simp only [List.zip_cons_cons, List.all_cons, List.find?_cons, qkm, List.length_cons]
    by_cases h : x = y
    · simp only [h, decide_true, Bool.true_and, if_true, Bool.not_true]
      refine ⟨fun k => ?_, h2⟩
      rw [h1 k]; unfold qon
      have e1 : ((a.length : Int) < b.length) ↔ (((a.length + 1 : Nat) : Int) < ((b.length + 1 : Nat) : Int)) := by omega
      have e2 : ((a.length : Int) > b.length) ↔ (((a.length + 1 : Nat) : Int) > ((b.length + 1 : Nat) : Int)) := by omega
      simp only [e1, e2]
    · simp only [h, decide_false, Bool.false_and, if_false, Bool.not_false]
      exact ⟨fun k => by simp at k, fun z k => by simp at k; rw [← k]⟩
theorem qxf (a b : Int) : qon a b = 0 ↔ a = b := by
  unfold qon; split
  · constructor <;> intro h <;> omega
  split
  · constructor <;> intro h <;> omega
  · constructor <;> intro h <;> omega
theorem qt2 : ∀ a b : List Int, qkm a b = 0 ↔ a = b
  | [], [] => by simp [qkm]
  | [], y :: b => by simp [qkm]
  | x :: a, [] => by simp [qkm]
  | x :: a, y :: b => by
    simp only [qkm, List.cons.injEq]
    split
    next h => rw [qt2 a b]; simp [h]
    next h => rw [qxf]; simp [h]
section
variable (a b : List Int) (c d : Bool)
theorem qzt (h1 : a.length ≤ 9223372036854775807) (h2 : b.length ≤ 9223372036854775807) :
    ∃ y, itB (exec (evL T) itL none qdl) (qr [0, 1, 5] true 0) ⟨[(0, (.fsl ((a).map qbz) c)), (1, (.fsl ((b).map qbz) d)), (5, (ii 0))], []⟩ [] = some y ∧
      ((a.zip b).all (fun z => decide (z.1 = z.2)) = true ∧ (y.1 = .exit 0 ∧ y.2.1.marks = [] ∧ y.2.2 = [] ∧ Ev.look y.2.1.vars 0 = some (.fsl ((a).map qbz) c) ∧ Ev.look y.2.1.vars 1 = some (.fsl ((b).map qbz) d)) ∨
      (a.zip b).all (fun z => decide (z.1 = z.2)) = false ∧ ∃ x, (a.zip b).find? (fun z => !decide (z.1 = z.2)) = some x ∧ (y.1 = .ret ∧ y.2.1.marks = [] ∧ y.2.2 = [] ∧ Ev.look y.2.1.vars 4 = some (ii (qon x.1 x.2)))) := by
  have hzl : (a.zip b).length = min a.length b.length := List.length_zip
  refine qhl (a.zip b) (fun i => ⟨[(0, (.fsl ((a).map qbz) c)), (1, (.fsl ((b).map qbz) d)), (5, (ii i))], []⟩) [] (fun z => decide (z.1 = z.2)) _ (fun x y => _) ?_ ?_ ?_
  · intro i x hi hx hp
    rw [hzl] at hi
    have hi' : (i : Int) < (a.length : Int) := by omega
    have hi2 : (i : Int) < (b.length : Int) := by omega
    have hw : IntKind.i64.wrap ((i : Int) + 1) = ((i + 1 : Nat) : Int) := by rw [qar (by omega) (by omega)]; simp
    obtain ⟨hxa, hxb⟩ := List.getElem?_zip_eq_some.1 hx
    have hp' := of_decide_eq_true hp
    simp only [qdl, Int.natCast_nonneg, Int.toNat_natCast, List.getElem?_map, Option.map_some, hxa, hxb, hi', hi2, hw, hp', qx, qbz, Ev.exec, qb, qe, qc, qah, Ev.Opnd.ev, Ev.Env.get, Ev.Env.set, Ev.look, qf, qv, qap, qbu, qi, qr, Ev.keep, qal, qad, qg, qbc, qm, List.length_map, ↓qn, Ev.it1, ↓reduceIte, List.length_cons, List.length_nil, zfe, List.head?_cons, Nat.reduceEqDiff, reduceCtorEq, decide_true, decide_false, zfc, zfa, and_self, ne_eq, not_true_eq_false, zfd, eq_self]
  · intro i x hi hx hp
    rw [hzl] at hi
    have hi' : (i : Int) < (a.length : Int) := by omega
    have hi2 : (i : Int) < (b.length : Int) := by omega
    obtain ⟨hxa, hxb⟩ := List.getElem?_zip_eq_some.1 hx
    have hp' : ¬ x.1 = x.2 := of_decide_eq_false hp
    have hc := qld x.1 x.2
    simp only [qdl, Int.natCast_nonneg, Int.toNat_natCast, List.getElem?_map, Option.map_some, hxa, hxb, hi', hi2, hp', hc, qbz, Ev.exec, qb, qe, qc, qa5, qah, Ev.evs, Ev.Opnd.ev, Ev.Env.get, Ev.Env.set, Ev.look, qf, qv, qbu, qi, qbc, qh, qd, List.length_map, ↓qn, Ev.it1, ↓reduceIte, List.length_cons, List.length_nil, List.head?_cons, Nat.reduceEqDiff, reduceCtorEq, decide_true, zfc, zfa, ne_eq, zfb, zfd, eq_self]
    exact ⟨_, rfl, rfl, rfl, rfl, rfl⟩
  · rw [hzl]
    by_cases hab : a.length ≤ b.length
    · rw [Nat.min_eq_left hab]
      simp only [qdl, Int.lt_irrefl, Ev.exec, qb, qe, qc, qah, Ev.Opnd.ev, Ev.Env.get, Ev.Env.set, Ev.Env.unset, Ev.look, qi, List.length_map, ↓qn, Ev.it1, ↓reduceIte, Nat.reduceEqDiff, reduceCtorEq, decide_false, zfa, eq_self]
      exact ⟨_, rfl, rfl, rfl, rfl, rfl, rfl⟩
    · rw [Nat.min_eq_right (by omega)]
      have h3 : (b.length : Int) < (a.length : Int) := by omega
      simp only [qdl, Int.lt_irrefl, h3, Ev.exec, qb, qe, qc, qah, Ev.Opnd.ev, Ev.Env.get, Ev.Env.set, Ev.look, qi, List.length_map, ↓qn, Ev.it1, ↓reduceIte, Nat.reduceEqDiff, reduceCtorEq, decide_true, decide_false, zfa, eq_self]
      exact ⟨_, rfl, rfl, rfl, rfl, rfl, rfl⟩
theorem qrh (h1 : a.length ≤ 9223372036854775807) (h2 : b.length ≤ 9223372036854775807) : qa7 (evL T) qdb [(.fsl ((a).map qbz) c), (.fsl ((b).map qbz) d)] = some (ii (qkm a b)) := by
  obtain ⟨⟨y, e, σ⟩, k1, k2⟩ := qzt a b c d h1 h2
  simp only at k2
  obtain ⟨z1, z2⟩ := qt3 a b
  rw [qa7, qae qpw qph]
  rcases k2 with ⟨k3, rfl, k4, rfl, k5, k6⟩ | ⟨k3, x, k7, rfl, k4, rfl, k5⟩
  · have hc := qld a.length b.length
    rw [z1 k3]
    simp only [qfw, k1, k4, k5, k6, hc, qx, qk, Ev.exec, qb, qe, qc, qa5, qah, Ev.evs, Ev.Opnd.ev, Ev.Env.get, Ev.Env.set, Ev.look, ql, qj, qs, qak, Ev.kill, qai, qr, Ev.keep, qal, qad, qg, qbc, qm, qh, qd, qac, List.length_map, ↓qn, ↓qa0, ↓reduceIte, List.length_cons, List.length_nil, zfe, Nat.reduceAdd, Nat.reduceEqDiff, reduceCtorEq, zfc, and_self, zfd, eq_self]
  · rw [z2 x k7]
    simp only [qfw, k1, k4, k5, qx, qk, Ev.exec, qb, qe, qc, qah, Ev.Opnd.ev, Ev.Env.get, Ev.Env.set, Ev.look, ql, qj, qs, qak, Ev.kill, qai, qr, Ev.keep, qal, qad, qg, qbc, qm, qac, ↓qn, ↓qa0, ↓reduceIte, List.length_cons, List.length_nil, zfe, Nat.reduceAdd, Nat.reduceEqDiff, reduceCtorEq, zfc, and_self, zfd, eq_self]
theorem qzm (h1 : a.length ≤ 9223372036854775807) (h2 : b.length ≤ 9223372036854775807) : qa7 (evL T) qep [(.fsl ((a).map qbz) c), (.fsl ((b).map qbz) d)] = some (bb (decide (a = b))) := by
  have hk := qrh a b c d h1 h2
  have hz := qt2 a b
  rw [qa7, qae qt4 qse]
  by_cases h : a = b
  · have h3 := hz.2 h
    rw [h3] at hk
    simp only [h, decide_true]
    simp only [h] at hk
    simp only [qi3, hk, qx, qk, Ev.exec, qb, qe, qc, qa5, qah, Ev.evs, Ev.Opnd.ev, Ev.Env.get, Ev.Env.set, Ev.look, ql, qas, qj, qs, qak, Ev.kill, qai, qg, qbc, qm, qh, qd, qac, ↓qn, ↓reduceIte, List.length_cons, List.length_nil, zfe, Nat.reduceAdd, Nat.reduceEqDiff, reduceCtorEq, decide_true, zfc, and_self, zfd, eq_self]
  · have h3 : ¬ qkm a b = 0 := fun k => h (hz.1 k)
    simp only [h, decide_false]
    simp only [qi3, hk, h3, qx, qk, Ev.exec, qb, qe, qc, qa5, qah, Ev.evs, Ev.Opnd.ev, Ev.Env.get, Ev.Env.set, Ev.look, ql, qas, qj, qs, qak, Ev.kill, qai, qg, qbc, qm, qh, qd, qac, ↓qn, ↓reduceIte, List.length_cons, List.length_nil, zfe, Nat.reduceAdd, Nat.reduceEqDiff, reduceCtorEq, decide_false, zfc, and_self, zfd, eq_self]
end
structure Evt.Short (x : Evt) : Prop where
  key : x.key.length ≤ 9223372036854775807
section
variable (a b : List Evt) (c d : Bool)
end
set_option maxRecDepth 10000
theorem q09 (a : Int) : qa7 (evL T) qes [(ii a)] = some (bb false) := by
  rw [qa7, qae qt1 qst]
  simp only [qkh, qk, Ev.exec, qb, qe, qc, qah, Ev.Opnd.ev, Ev.Env.get, Ev.Env.set, Ev.look, ql, qbu, qj, qs, qak, Ev.kill, qai, qg, qbc, qac, ↓qn, ↓reduceIte, List.length_cons, List.length_nil, zfe, Nat.reduceEqDiff, reduceCtorEq, decide_false, and_self, ne_eq, not_true_eq_false, zfd, eq_self]
theorem qnv (a b : Int) : qa7 (evL T) qd5 [(ii a), (ii b)] = some (ii (qon a b)) := by
  have h0 := q09
  rw [qa7, qae qru qq2]
  by_cases h1 : a < b
  · simp only [qfp, qon, h0, h1, qk, Ev.exec, qb, qe, qc, qa5, qah, Ev.evs, Ev.Opnd.ev, Ev.Env.get, Ev.Env.set, Ev.look, ql, qi, qj, qs, qak, Ev.kill, qai, qg, qbc, qh, qd, qac, ↓qn, ↓reduceIte, List.length_cons, List.length_nil, zfe, Nat.reduceAdd, Nat.reduceEqDiff, Int.reduceNeg, reduceCtorEq, decide_true, zfc, zfa, and_self, zfd, eq_self]
  by_cases h2 : a > b
  · simp only [qfp, qon, h0, h1, h2, qk, Ev.exec, qb, qe, qc, qa5, qah, Ev.evs, Ev.Opnd.ev, Ev.Env.get, Ev.Env.set, Ev.look, ql, qi, qbb, qj, qs, qak, Ev.kill, qai, qg, qbc, qh, qd, qac, ↓qn, ↓reduceIte, List.length_cons, List.length_nil, zfe, Nat.reduceAdd, Nat.reduceEqDiff, Int.reduceNeg, reduceCtorEq, decide_true, decide_false, zfc, zfa, and_self, zfd, eq_self]
  · simp only [qfp, qon, h0, h1, h2, qk, Ev.exec, qb, qe, qc, qa5, qah, Ev.evs, Ev.Opnd.ev, Ev.Env.get, Ev.Env.set, Ev.look, ql, qi, qbb, qj, qs, qak, Ev.kill, qai, qg, qbc, qh, qd, qac, ↓qn, ↓reduceIte, List.length_cons, List.length_nil, zfe, Nat.reduceAdd, Nat.reduceEqDiff, Int.reduceNeg, reduceCtorEq, decide_false, zfc, zfa, and_self, zfd, eq_self]
theorem q6p (x z : Int) (c : Bool) : qa7 (evL T) qi9 [(.fsl (([x, z]).map qbz) c)] = some (ii (if x = 0 then z else x)) := by
  have hL : ∃ y, itB (exec (evL T) itL none qi1) (qr [3, 6, 7, 8] true 0) ⟨[(3, (ii 0)), (6, (.fsl (([x, z]).map qbz) c)), (7, (ii 2)), (8, (ii 0))], []⟩ [] = some y ∧ ([x, z].all (fun v => decide (v = 0)) = true ∧ (y.1 = .exit 0 ∧ y.2.1.marks = [] ∧ y.2.2 = [] ∧ Ev.look y.2.1.vars 3 = some (ii 0)) ∨
      [x, z].all (fun v => decide (v = 0)) = false ∧ ∃ v, [x, z].find? (fun v => !decide (v = 0)) = some v ∧ (y.1 = .ret ∧ y.2.1.marks = [] ∧ y.2.2 = [] ∧ Ev.look y.2.1.vars 2 = some (ii v))) := by
    refine qhl [x, z] (fun i => ⟨[(3, (ii 0)), (6, (.fsl (([x, z]).map qbz) c)), (7, (ii 2)), (8, (ii i))], []⟩) [] (fun v => decide (v = 0)) _ (fun v y => _) ?_ ?_ ?_
    · intro i v hi hv hp
      have hi2 : (i : Int) < 2 := by simp at hi; omega
      have hw : IntKind.i64.wrap ((i : Int) + 1) = ((i + 1 : Nat) : Int) := by rw [qar (by omega) (by omega)]; simp
      have hp' := of_decide_eq_true hp
      subst hp'
      have hl := qx 0 [x, z]
      generalize [x, z] = l at hv hl ⊢
      simp only [qi1, Int.natCast_nonneg, Int.toNat_natCast, List.getElem?_map, Option.map_some, hv, hl, hi2, hw, qbz, Ev.exec, qb, qe, qc, qah, Ev.Opnd.ev, Ev.Env.get, Ev.Env.set, Ev.look, qf, qv, qap, qbu, qi, qr, Ev.keep, qal, qad, qg, qbc, qm, ↓qn, Ev.it1, ↓reduceIte, List.length_cons, List.length_nil, zfe, List.head?_cons, Nat.reduceEqDiff, decide_true, decide_false, zfc, zfa, and_self, ne_eq, not_true_eq_false, zfd, eq_self]
    · intro i v hi hv hp
      have hi2 : (i : Int) < 2 := by simp at hi; omega
      have hp' : ¬ v = 0 := of_decide_eq_false hp
      have hl := qx 0 [x, z]
      generalize [x, z] = l at hv hl ⊢
      simp only [qi1, Int.natCast_nonneg, Int.toNat_natCast, List.getElem?_map, Option.map_some, hv, hi2, hp', qbz, Ev.exec, qb, qe, qc, qah, Ev.Opnd.ev, Ev.Env.get, Ev.Env.set, Ev.look, qf, qv, qbu, qi, ↓qn, Ev.it1, ↓reduceIte, List.length_cons, List.length_nil, List.head?_cons, Nat.reduceEqDiff, decide_true, zfa, ne_eq, zfb, zfd, eq_self]
      exact ⟨_, rfl, rfl, rfl, rfl, rfl⟩
    · have hl := qx 0 [x, z]
      rw [show ([x, z] : List Int).length = 2 from rfl]
      simp only [qi1, Int.lt_irrefl, Int.cast_ofNat_Int, Ev.exec, qb, qe, qc, qah, Ev.Opnd.ev, Ev.Env.get, Ev.Env.set, Ev.look, qi, ↓qn, Ev.it1, ↓reduceIte, Nat.reduceEqDiff, Int.cast_ofNat_Int, decide_false, zfa, eq_self]
      exact ⟨_, rfl, rfl, rfl, rfl, rfl⟩
  obtain ⟨⟨y, e, σ⟩, k1, k2⟩ := hL
  simp only at k2
  have hl := qx 0 [x, z]
  have hn : ([x, z].map qbz).length = 2 := rfl
  rw [qa7, qae qx2 qxt]
  rcases k2 with ⟨k3, rfl, k4, rfl, k5⟩ | ⟨k3, v, k6, rfl, k4, rfl, k5⟩
  · have h1 : x = 0 ∧ z = 0 := by simpa using k3
    have h2 : (if x = 0 then z else x) = 0 := by rw [if_pos h1.1, h1.2]
    rw [h2]
    generalize [x, z].map qbz = l at k1 hl hn ⊢
    simp only [qk0, hn, Int.cast_ofNat_Int, k1, k4, k5, hl, qk, Ev.exec, qb, qe, qc, qah, Ev.Opnd.ev, Ev.Env.get, Ev.Env.set, Ev.look, ql, qj, qs, qak, Ev.kill, qai, qr, Ev.keep, qal, qad, qg, qbc, qm, qac, ↓qn, ↓qa0, ↓reduceIte, List.length_cons, List.length_nil, zfe, Nat.reduceEqDiff, Int.cast_ofNat_Int, reduceCtorEq, zfc, and_self, zfd, eq_self]
  · have h1 : (if x = 0 then z else x) = v := by
      rw [List.find?_cons] at k6
      by_cases hx : x = 0
      · rw [if_pos hx]; simp [hx] at k6; exact k6.2
      · rw [if_neg hx]; simp [hx] at k6; exact k6
    rw [h1]
    generalize [x, z].map qbz = l at k1 hl hn ⊢
    simp only [qk0, hn, Int.cast_ofNat_Int, k1, k4, k5, hl, qk, Ev.exec, qb, qe, qc, qah, Ev.Opnd.ev, Ev.Env.get, Ev.Env.set, Ev.look, ql, qj, qs, qak, Ev.kill, qai, qr, Ev.keep, qal, qad, qg, qbc, qm, qac, ↓qn, ↓qa0, ↓reduceIte, List.length_cons, List.length_nil, zfe, Nat.reduceEqDiff, Int.cast_ofNat_Int, reduceCtorEq, zfc, and_self, zfd, eq_self]
theorem qyr (x z : Int) (c : Bool) : qa7 (evL T) qhy [(.fsl (([x, z]).map qbz) c)] = some (ii (if x = 0 then z else x)) := by
  have h := q6p x z c
  have hl := qx 0 [x, z]
  generalize [x, z].map qbz = l at h hl ⊢
  rw [qa7, qae qw6 qu7]
  simp only [qli, h, hl, qk, Ev.exec, qb, qe, qc, qa5, qah, Ev.evs, Ev.Opnd.ev, Ev.Env.get, Ev.Env.set, Ev.look, ql, qj, qs, qak, Ev.kill, qai, qg, qbc, qm, qh, qd, qac, ↓qn, ↓reduceIte, List.length_cons, List.length_nil, zfe, reduceCtorEq, zfc, and_self, zfd, eq_self]
section
variable (a b : List Int) (c d : Bool)
theorem qvc (h1 : a.length ≤ 9223372036854775807) (h2 : b.length ≤ 9223372036854775807) :
    ∃ y, itB (exec (evL T) itL none qco) (qr [0, 1, 9, 10, 11] true 0) ⟨[(0, (.fsl ((a).map qbz) c)), (1, (.fsl ((b).map qbz) d)), (9, (.fsl ((a).map qbz) c)), (10, (ii a.length)), (11, (ii 0))], []⟩ [] = some y ∧
      ((a.zip b).all (fun z => decide (z.1 = z.2)) = true ∧ (a.length ≤ b.length ∧ y.1 = .exit 0 ∧ y.2.1.marks = [] ∧ y.2.2 = [] ∧ Ev.look y.2.1.vars 0 = some (.fsl ((a).map qbz) c) ∧ Ev.look y.2.1.vars 1 = some (.fsl ((b).map qbz) d) ∨ b.length < a.length ∧ y.1 = .ret ∧ y.2.1.marks = [] ∧ y.2.2 = [] ∧ Ev.look y.2.1.vars 4 = some (ii 1)) ∨
      (a.zip b).all (fun z => decide (z.1 = z.2)) = false ∧ ∃ x, (a.zip b).find? (fun z => !decide (z.1 = z.2)) = some x ∧ (y.1 = .ret ∧ y.2.1.marks = [] ∧ y.2.2 = [] ∧ Ev.look y.2.1.vars 4 = some (ii (qon x.1 x.2)))) := by
  have hzl : (a.zip b).length = min a.length b.length := List.length_zip
  refine qhl (a.zip b) (fun i => ⟨[(0, (.fsl ((a).map qbz) c)), (1, (.fsl ((b).map qbz) d)), (9, (.fsl ((a).map qbz) c)), (10, (ii a.length)), (11, (ii i))], []⟩) [] (fun z => decide (z.1 = z.2)) _ (fun x y => _) ?_ ?_ ?_
  · intro i x hi hx hp
    rw [hzl] at hi
    have hi' : (i : Int) < (a.length : Int) := by omega
    have hi2 : ¬ (i : Int) ≥ (b.length : Int) := by omega
    have hw : IntKind.i64.wrap ((i : Int) + 1) = ((i + 1 : Nat) : Int) := by rw [qar (by omega) (by omega)]; simp
    obtain ⟨hxa, hxb⟩ := List.getElem?_zip_eq_some.1 hx
    have hp' := of_decide_eq_true hp
    have hc := qnv x.1 x.2
    rw [(qxf x.1 x.2).2 hp'] at hc
    simp only [qco, Int.natCast_nonneg, Int.toNat_natCast, List.getElem?_map, Option.map_some, hxa, hxb, hi', hi2, hw, hc, qx, qbz, Ev.exec, qb, qe, qc, qa5, qah, Ev.evs, Ev.Opnd.ev, Ev.Env.get, Ev.Env.set, Ev.look, qf, qv, qap, qbu, qi, qbq, qr, Ev.keep, qal, qad, qg, qbc, qm, qh, qd, List.length_map, ↓qn, Ev.it1, ↓reduceIte, List.length_cons, List.length_nil, zfe, List.head?_cons, Nat.reduceEqDiff, reduceCtorEq, decide_true, decide_false, zfc, zfa, and_self, ne_eq, not_true_eq_false, zfd, eq_self]
  · intro i x hi hx hp
    rw [hzl] at hi
    have hi' : (i : Int) < (a.length : Int) := by omega
    have hi2 : ¬ (i : Int) ≥ (b.length : Int) := by omega
    obtain ⟨hxa, hxb⟩ := List.getElem?_zip_eq_some.1 hx
    have hp' : ¬ x.1 = x.2 := of_decide_eq_false hp
    have hc := qnv x.1 x.2
    have hz : ¬ qon x.1 x.2 = 0 := fun h => hp' ((qxf _ _).1 h)
    simp only [qco, Int.natCast_nonneg, Int.toNat_natCast, List.getElem?_map, Option.map_some, hxa, hxb, hi', hi2, hz, hc, qbz, Ev.exec, qb, qe, qc, qa5, qah, Ev.evs, Ev.Opnd.ev, Ev.Env.get, Ev.Env.set, Ev.look, qf, qv, qbu, qi, qbq, qbc, qh, qd, List.length_map, ↓qn, Ev.it1, ↓reduceIte, List.length_cons, List.length_nil, List.head?_cons, Nat.reduceEqDiff, reduceCtorEq, decide_true, decide_false, zfc, zfa, ne_eq, zfb, zfd, eq_self]
    exact ⟨_, rfl, rfl, rfl, rfl, rfl⟩
  · rw [hzl]
    by_cases hab : a.length ≤ b.length
    · rw [Nat.min_eq_left hab]
      simp only [qco, Int.lt_irrefl, Ev.exec, qb, qe, qc, qah, Ev.Opnd.ev, Ev.Env.get, Ev.Env.set, Ev.look, qi, ↓qn, Ev.it1, ↓reduceIte, Nat.reduceEqDiff, reduceCtorEq, decide_false, zfa, eq_self]
      exact ⟨_, rfl, .inl ⟨hab, rfl, rfl, rfl, rfl, rfl⟩⟩
    · rw [Nat.min_eq_right (by omega)]
      have h3 : (b.length : Int) < (a.length : Int) := by omega
      obtain ⟨x, hx⟩ : ∃ x, a[b.length]? = some x := ⟨_, List.getElem?_eq_getElem (by omega)⟩
      have h4 : (b.length : Int) ≥ (b.length : Int) := Int.le_refl _
      simp only [qco, Int.natCast_nonneg, Int.toNat_natCast, List.getElem?_map, Option.map_some, h3, h4, hx, qbz, Ev.exec, qb, qe, qc, qah, Ev.Opnd.ev, Ev.Env.get, Ev.Env.set, Ev.look, qf, qv, qi, qbq, List.length_map, ↓qn, Ev.it1, ↓reduceIte, List.length_cons, List.length_nil, List.head?_cons, Nat.reduceEqDiff, reduceCtorEq, decide_true, zfa, zfd, eq_self]
      exact ⟨_, rfl, .inr ⟨by omega, rfl, rfl, rfl, rfl⟩⟩
theorem quh (h1 : a.length ≤ 9223372036854775807) (h2 : b.length ≤ 9223372036854775807) : qa7 (evL T) qcl [(.fsl ((a).map qbz) c), (.fsl ((b).map qbz) d)] = some (ii (qkm a b)) := by
  obtain ⟨⟨y, e, σ⟩, k1, k2⟩ := qvc a b c d h1 h2
  simp only at k2
  obtain ⟨z1, z2⟩ := qt3 a b
  rw [qa7, qae qmd qlq]
  rcases k2 with ⟨k3, ⟨k7, rfl, k4, rfl, k5, k6⟩ | ⟨k7, rfl, k4, rfl, k5⟩⟩ | ⟨k3, x, k7, rfl, k4, rfl, k5⟩
  · rw [z1 k3]
    by_cases hl : (a.length : Int) < (b.length : Int)
    · simp only [qcm, k1, k4, k5, k6, hl, qon, qx, qk, Ev.exec, qb, qe, qc, qah, Ev.Opnd.ev, Ev.Env.get, Ev.Env.set, Ev.look, ql, qi, qj, qs, qak, Ev.kill, qai, qr, Ev.keep, qal, qad, qg, qbc, qm, qac, List.length_map, ↓qn, ↓qa0, ↓reduceIte, List.length_cons, List.length_nil, zfe, Nat.reduceAdd, Nat.reduceEqDiff, Int.reduceNeg, reduceCtorEq, decide_true, zfc, and_self, zfd, eq_self]
    · have hg : ¬ (a.length : Int) > (b.length : Int) := by omega
      simp only [qcm, k1, k4, k5, k6, hl, hg, qon, qx, qk, Ev.exec, qb, qe, qc, qah, Ev.Opnd.ev, Ev.Env.get, Ev.Env.set, Ev.look, ql, qi, qj, qs, qak, Ev.kill, qai, qr, Ev.keep, qal, qad, qg, qbc, qm, qac, List.length_map, ↓qn, ↓qa0, ↓reduceIte, List.length_cons, List.length_nil, zfe, Nat.reduceAdd, Nat.reduceEqDiff, Int.reduceNeg, reduceCtorEq, decide_false, zfc, zfa, and_self, zfd, eq_self]
  · have hl : ¬ (a.length : Int) < (b.length : Int) := by omega
    have hg : (a.length : Int) > (b.length : Int) := by omega
    rw [z1 k3]
    simp only [qcm, k1, k4, k5, hl, hg, qon, qx, qk, Ev.exec, qb, qe, qc, qah, Ev.Opnd.ev, Ev.Env.get, Ev.Env.set, Ev.look, ql, qj, qs, qak, Ev.kill, qai, qr, Ev.keep, qal, qad, qg, qbc, qm, qac, List.length_map, ↓qn, ↓qa0, ↓reduceIte, List.length_cons, List.length_nil, zfe, Nat.reduceAdd, Nat.reduceEqDiff, Int.reduceNeg, reduceCtorEq, zfc, and_self, zfd, eq_self]
  · rw [z2 x k7]
    simp only [qcm, k1, k4, k5, qx, qk, Ev.exec, qb, qe, qc, qah, Ev.Opnd.ev, Ev.Env.get, Ev.Env.set, Ev.look, ql, qj, qs, qak, Ev.kill, qai, qr, Ev.keep, qal, qad, qg, qbc, qm, qac, List.length_map, ↓qn, ↓qa0, ↓reduceIte, List.length_cons, List.length_nil, zfe, Nat.reduceAdd, Nat.reduceEqDiff, Int.reduceNeg, reduceCtorEq, zfc, and_self, zfd, eq_self]
theorem qqy (h1 : a.length ≤ 9223372036854775807) (h2 : b.length ≤ 9223372036854775807) : qa7 (evL T) qd0 [(.fsl ((a).map qbz) c), (.fsl ((b).map qbz) d)] = some (ii (qkm a b)) := by
  have h := quh a b c d h1 h2
  rw [qa7, qae qp5 qpl]
  simp only [qhr, h, qx, qk, Ev.exec, qb, qe, qc, qa5, qah, Ev.evs, Ev.Opnd.ev, Ev.Env.get, Ev.Env.set, Ev.look, ql, qj, qs, qak, Ev.kill, qai, qg, qbc, qm, qh, qd, qac, ↓qn, ↓reduceIte, List.length_cons, List.length_nil, zfe, Nat.reduceAdd, Nat.reduceEqDiff, reduceCtorEq, zfc, and_self, zfd, eq_self]
end
def qpn (x y : Evt) : Int := if qon x.time y.time = 0 then qkm x.key y.key else qon x.time y.time
end Go.Proofs.Ytbhhifdhlafklaa.K
namespace Go.Ev
section
variable {α : Type}
variable {R : α → α → Prop}
theorem cross (tr : ∀ a b c, R a b → R b c → R a c) {X Y : List α} (hX : X.Pairwise R) (hY : Y.Pairwise R) (h : ∀ u v, X[X.length - 1]? = some u → Y[0]? = some v → R u v) : ∀ a ∈ X, ∀ b ∈ Y, R a b := by
  intro a ha b hb
  obtain ⟨i, hi⟩ := List.mem_iff_getElem?.1 ha
  obtain ⟨j, hj⟩ := List.mem_iff_getElem?.1 hb
  obtain ⟨hi', hi⟩ := List.getElem?_eq_some_iff.1 hi
  obtain ⟨hj', hj⟩ := List.getElem?_eq_some_iff.1 hj
  rw [List.pairwise_iff_getElem] at hX hY
  have h0 := h _ _ (List.getElem?_eq_getElem (by omega)) (List.getElem?_eq_getElem (by omega))
  have h1 : R a Y[0] := by
    by_cases c : i = X.length - 1
    · subst c; rw [← hi]; exact h0
    · exact tr _ _ _ (by rw [← hi]; exact hX i (X.length - 1) hi' (by omega) (by omega)) h0
  by_cases c : j = 0
  · subst c; rw [← hj]; exact h1
  · exact tr _ _ _ h1 (by rw [← hj]; exact hY 0 j (by omega) hj' (by omega))
theorem qur (tr : ∀ a b c, R a b → R b c → R a c) {A B : List α} {x : α} (h : (A ++ B).Pairwise R) (h1 : ∀ u, A[A.length - 1]? = some u → R u x) (h2 : ∀ v, B[0]? = some v → R x v) : (A ++ x :: B).Pairwise R := by
  obtain ⟨a1, a2, a3⟩ := List.pairwise_append.1 h
  have c1 := cross tr a1 (List.pairwise_singleton R x) (fun u v hu hv => by simp at hv; subst hv; exact h1 u hu)
  have c2 := cross tr (List.pairwise_singleton R x) a2 (fun u v hu hv => by simp at hu; subst hu; exact h2 v hv)
  refine List.pairwise_append.2 ⟨a1, List.pairwise_cons.2 ⟨fun b hb => c2 x (by simp) b hb, a2⟩, fun a ha b hb => ?_⟩
  rcases List.mem_cons.1 hb with rfl | hb
  · exact c1 a ha _ (by simp)
  · exact a3 a ha b hb
inductive Blk (R : α → α → Prop) (s : Nat) : List α → Prop
  | last {l : List α} : l.length ≤ s → l.Pairwise R → Blk R s l
  | more {X Y : List α} : X.length = s → X.Pairwise R → Blk R s Y → Blk R s (X ++ Y)
theorem qx0 {f : Env → qq → R3} {s : Env → qq → Option (Env × qq)} {τ : Type} (E : τ → Env) (S : τ → qq) (m : τ → Nat) (Inv : τ → Prop) (Q : CExit × Env × qq → Prop)
    (step : ∀ a, Inv a → (∃ a', it1 f s (E a) (S a) = some (.inl (E a', S a')) ∧ Inv a' ∧ m a' < m a) ∨ ∃ y, it1 f s (E a) (S a) = some (.inr y) ∧ Q y) :
    ∀ a, Inv a → ∃ y, itB f s (E a) (S a) = some y ∧ Q y := by
  have : ∀ k a, m a ≤ k → Inv a → ∃ y, itB f s (E a) (S a) = some y ∧ Q y := by
    intro k
    induction k with
    | zero =>
      intro a hk ha
      rcases step a ha with ⟨a', h1, h2, h3⟩ | ⟨y, h1, h2⟩
      · omega
      · exact ⟨y, qoq h1, h2⟩
    | succ k ih =>
      intro a hk ha
      rcases step a ha with ⟨a', h1, h2, h3⟩ | ⟨y, h1, h2⟩
      · obtain ⟨y, h4, h5⟩ := ih a' (by omega) h2
        exact ⟨y, q0m h1 h4, h5⟩
      · exact ⟨y, qoq h1, h2⟩
  exact fun a => this (m a) a (Nat.le_refl _)
end
end Go.Ev
namespace Go.Proofs.Ytbhhifdhlafklaa.K
open Go.Ev
set_option maxRecDepth 10000
theorem q6m {a b : Nat} (h : a + b < 2 ^ 62) : IntKind.i64.wrap ((a : Int) + (b : Int)) = ((a + b : Nat) : Int) := by rw [qar (by omega) (by omega)]; simp
theorem qv3 {a : Nat} (h : a < 2 ^ 62) : IntKind.i64.wrap ((a : Int) + 1) = ((a + 1 : Nat) : Int) := by rw [qar (by omega) (by omega)]; simp
theorem q0b {a c : Nat} (h : a = c + 1) (h2 : a < 2 ^ 62) : IntKind.i64.wrap ((a : Int) - 1) = (c : Int) := by rw [qar (by omega) (by omega)]; omega
section
variable (g : Nat) (cl : Bool) (n : Nat)
end
open Go.Ev
theorem q3w (a b : Int) : qon b a = -qon a b := by unfold qon; split <;> split <;> (try split) <;> omega
theorem qik (a b : Int) : (qon a b < 0 ↔ a < b) ∧ (qon a b = 0 ↔ a = b) ∧ (0 < qon a b ↔ b < a) := by
  unfold qon
  split
  · refine ⟨?_, ?_, ?_⟩ <;> omega
  split
  · refine ⟨?_, ?_, ?_⟩ <;> omega
  · refine ⟨?_, ?_, ?_⟩ <;> omega
theorem q08 : ∀ a b : List Int, qkm b a = -qkm a b
  | [], [] => rfl
  | [], y :: b => by simp [qkm]
  | x :: a, [] => by simp [qkm]
  | x :: a, y :: b => by
    simp only [qkm]
    by_cases h : x = y
    · subst h; simp only [if_true]; exact q08 a b
    · rw [if_neg h, if_neg (fun e => h e.symm)]; exact q3w x y
theorem qwm : ∀ a b c : List Int, qkm a b ≤ 0 → qkm b c ≤ 0 → qkm a c ≤ 0
  | [], b, c, _, _ => by cases c <;> simp [qkm]
  | x :: a, [], c, h, _ => by simp [qkm] at h
  | x :: a, y :: b, [], _, h => by simp [qkm] at h
  | x :: a, y :: b, z :: c, h1, h2 => by
    simp only [qkm] at h1 h2 ⊢
    have c1 := qik x y
    have c2 := qik y z
    have c3 := qik x z
    by_cases e1 : x = y
    · subst e1
      rw [if_pos rfl] at h1
      by_cases e2 : x = z
      · subst e2; rw [if_pos rfl] at h2 ⊢; exact qwm a b c h1 h2
      · rw [if_neg e2] at h2 ⊢; exact h2
    · rw [if_neg e1] at h1
      by_cases e2 : y = z
      · subst e2; rw [if_neg e1]; exact h1
      · rw [if_neg e2] at h2
        have : ¬ x = z := by intro e; omega
        rw [if_neg this]
        omega
def leE (x y : Evt) : Prop := qpn x y ≤ 0
theorem qow (x y : Evt) : qpn y x = -qpn x y := by
  unfold qpn
  have := q3w x.time y.time
  have := q08 x.key y.key
  by_cases h : qon x.time y.time = 0
  · rw [if_pos h, if_pos (by omega)]; assumption
  · rw [if_neg h, if_neg (by omega)]; assumption
theorem qsv (x y z : Evt) (h1 : leE x y) (h2 : leE y z) : leE x z := by
  unfold leE qpn at *
  have c1 := qik x.time y.time
  have c2 := qik y.time z.time
  have c3 := qik x.time z.time
  by_cases e1 : qon x.time y.time = 0
  · rw [if_pos e1] at h1
    by_cases e2 : qon y.time z.time = 0
    · rw [if_pos e2] at h2
      rw [if_pos (by omega)]; exact qwm _ _ _ h1 h2
    · rw [if_neg e2] at h2
      rw [if_neg (by omega)]; omega
  · rw [if_neg e1] at h1
    by_cases e2 : qon y.time z.time = 0
    · rw [if_neg (by omega)]; omega
    · rw [if_neg e2] at h2
      rw [if_neg (by omega)]; omega
theorem leE_of (x y : Evt) (h : qpn x y < 0) : leE x y := by unfold leE; omega
theorem q1p (x y : Evt) : qpn x y = 0 ↔ x.time = y.time ∧ x.key = y.key := by
  unfold qpn
  have := qik x.time y.time
  have := qt2 x.key y.key
  by_cases h : qon x.time y.time = 0
  · rw [if_pos h]; constructor
    · intro k; exact ⟨by omega, by simpa [k] using this⟩
    · intro k; exact this.2 k.2
  · rw [if_neg h]; constructor
    · intro k; exact absurd k h
    · intro k; omega
open Go.Ev
set_option maxRecDepth 10000
section
variable (g : Nat) (cl : Bool) (n : Nat)
def qg4 (D : List Evt) : Prop := ∀ x ∈ D, x.key.length ≤ 9223372036854775807
end
open Go.Ev
set_option maxRecDepth 10000
section
variable (g : Nat) (cl : Bool) (n : Nat)
end
open Go.Ev
set_option maxRecDepth 10000
theorem half_bin (s h : Nat) (hh : h = s / 2) : qla .shr (.v (.int .u64 (s : Int))) (.v (.int .u64 1)) = some (.v (.int .u64 (h : Int))) := by
  subst hh
  show (if (1 : Int) < 0 then none else some (AV.v (.int .u64 ((s : Int).fdiv (2 ^ (min (1 : Int).toNat IntKind.u64.bits)))))) = _
  rw [if_neg (by omega), show (2 : Int) ^ (min (1 : Int).toNat IntKind.u64.bits) = 2 from rfl, Int.fdiv_eq_ediv_of_nonneg _ (by omega)]
  rw [show (s : Int) / 2 = ((s / 2 : Nat) : Int) by omega]
theorem q6s {n : Nat} (h : n < 2 ^ 63) : IntKind.u64.wrap (n : Int) = (n : Int) := by
  have h3 : IntKind.u64.bits = 64 := rfl
  have h4 : IntKind.u64.signed = false := rfl
  simp only [IntKind.wrap, h3, h4, Bool.false_and, zfa, if_false]
  omega
theorem q6i {n : Nat} (h : n < 2 ^ 63) : IntKind.i64.wrap (n : Int) = (n : Int) := qar (by omega) (by omega)
section
variable (g : Nat) (cl : Bool) (n : Nat)
end
open Go.Ev
set_option maxRecDepth 10000
section
variable (g : Nat) (cl : Bool) (n : Nat)
end
open Go.Ev
set_option maxRecDepth 10000
section
variable (g : Nat) (cl : Bool) (n : Nat)
def q7u (a m b : Nat) (D D' : List Evt) : Prop := (evL T).call qam [.sl 0 g 0 n cl, (ii a), (ii m), (ii b), (.fn (.func qa3) [] [])] [.row 6 ((D).map Evt.r) g] = some (.tup [], [.row 6 ((D').map Evt.r) g])
structure Nums (x1 x2 y1 y2 a m b mid nn lo hi p start fin : Nat) : Prop where
  hX1 : 1 < x1 + x2
  hY1 : 1 < y1 + y2
  hb : n < 2 ^ 61
  hmid : mid = (a + b) / 2
  hnn : nn = mid + m
  hp : nn = p + 1
  hfin : nn = start + fin
  hm : m = a + (x1 + x2)
  hbb : b = m + (y1 + y2)
  hbn : b ≤ n
  hst : start = a + x1
  hfi : fin = m + y1
structure Wraps (x1 x2 y1 y2 a m b mid nn p start fin : Nat) : Prop where
  w1 : IntKind.i64.wrap ((m : Int) - (a : Int)) = ((x1 + x2 : Nat) : Int)
  h1 : ¬ ((x1 + x2 : Nat) : Int) = 1
  w2 : IntKind.i64.wrap ((b : Int) - (m : Int)) = ((y1 + y2 : Nat) : Int)
  h2 : ¬ ((y1 + y2 : Nat) : Int) = 1
  w3 : IntKind.i64.wrap ((a : Int) + (b : Int)) = ((a + b : Nat) : Int)
  w4 : IntKind.u64.wrap ((a + b : Nat) : Int) = ((a + b : Nat) : Int)
  w5 : qla .shr (.v (.int .u64 ((a + b : Nat) : Int))) (.v (.int .u64 1)) = some (.v (.int .u64 (mid : Int)))
  w6 : IntKind.i64.wrap (mid : Int) = (mid : Int)
  w7 : IntKind.i64.wrap ((mid : Int) + (m : Int)) = (nn : Int)
  w8 : IntKind.i64.wrap ((nn : Int) - 1) = (p : Int)
  w9 : IntKind.i64.wrap ((nn : Int) - (start : Int)) = (fin : Int)
  c5 : mid < fin ↔ start < m
  c6 : start < mid ↔ m < fin
structure Steps (a m b mid start fin : Nat) (D D2 D3 D4 : List Evt) : Prop where
  s1 : start < m → m < fin → (evL T).call qbi [.sl 0 g 0 n cl, (ii start), (ii m), (ii fin), (.fn (.func qa3) [] [])] [.row 6 ((D).map Evt.r) g] = some (.tup [], [.row 6 ((D2).map Evt.r) g])
  n1 : ¬ (start < m ∧ m < fin) → D2 = D
  s2 : a < start → start < mid → q7u g cl n a start mid D2 D3
  n2 : ¬ (a < start ∧ start < mid) → D3 = D2
  s3 : mid < fin → fin < b → q7u g cl n mid fin b D3 D4
  n3 : ¬ (mid < fin ∧ fin < b) → D4 = D3
end
open Go.Ev
set_option maxRecDepth 10000
section
variable (g : Nat) (cl : Bool) (n : Nat)
end
open Go.Ev
set_option maxRecDepth 10000
section
variable (g : Nat) (cl : Bool) (n : Nat)
end
open Go.Ev
set_option maxRecDepth 10000
def qgx (l : List Evt) : List Evt := l.mergeSort (fun a b => decide (qpn a b ≤ 0))
def qud (l : List Evt) : Prop := l.Pairwise (fun a b => ¬ qpn a b = 0)
theorem qek (l : List Evt) : (qgx l).Perm l := List.mergeSort_perm _ _
theorem qgl (l : List Evt) : (qgx l).Pairwise leE := by
  have := List.pairwise_mergeSort (le := fun a b => decide (qpn a b ≤ 0)) (fun a b c h1 h2 => by simp only [decide_eq_true_eq] at h1 h2 ⊢; exact qsv a b c h1 h2) (fun a b => by
    have := qow a b
    by_cases h : qpn a b ≤ 0
    · simp [h]
    · have : qpn b a ≤ 0 := by omega
      simp [this]) l
  exact this.imp (fun h => of_decide_eq_true h)
theorem qud.eq {l : List Evt} (h : qud l) {a b : Evt} (ha : a ∈ l) (hb : b ∈ l) (hc : qpn a b = 0) : a = b := by
  obtain ⟨i, hi⟩ := List.mem_iff_getElem?.1 ha
  obtain ⟨j, hj⟩ := List.mem_iff_getElem?.1 hb
  obtain ⟨hi', rfl⟩ := List.getElem?_eq_some_iff.1 hi
  obtain ⟨hj', rfl⟩ := List.getElem?_eq_some_iff.1 hj
  rw [qud, List.pairwise_iff_getElem] at h
  rcases Nat.lt_trichotomy i j with c | c | c
  · exact absurd hc (h i j hi' hj' c)
  · subst c; rfl
  · exact absurd (by rw [qow]; omega) (h j i hj' hi' c)
theorem qp4 {l l' : List Evt} (hd : qud l) (hp : l'.Perm l) (hs : l'.Pairwise leE) : l' = qgx l := by
  refine List.Perm.eq_of_pairwise (le := leE) (fun a b ha hb h1 h2 => ?_) hs (qgl l) (hp.trans (qek l).symm)
  refine hd.eq (hp.mem_iff.1 ha) ((qek l).mem_iff.1 hb) ?_
  have := qow a b
  unfold leE at h1 h2; omega
theorem qud.perm {l l' : List Evt} (h : qud l) (p : l'.Perm l) : qud l' := (p.pairwise_iff (fun {x y} hxy hyx => hxy (by rw [qow]; omega))).2 h
theorem qs2 (l : List Evt) (c : Bool) (h : l.length ≤ 1000000) : (evL T).call qa4 [(.fsl ((l).map Evt.r) c)] [] = some (.sl 0 0 0 l.length false, [.row 6 (l.map Evt.r) 0]) := by
  have h' : l.length * 64 ≤ 140737488355328 := by omega
  rw [q2w qhx]
  simp only [qre, qaa, qf1, h', qm, qh, qd, List.length_map, ↓reduceIte, Nat.reduceLT, Nat.reducePow, zfc, and_self, eq_self]
theorem qip (x y : Evt) (hx : x.key.length ≤ 9223372036854775807) (hy : y.key.length ≤ 9223372036854775807) : qa7 (evL T) qck [(.agg [(ii x.time), (.fsl ((x.key).map qbz) false), (ii x.lp), (ii x.kind), (ii x.proc), (ii x.arg)]), (.agg [(ii y.time), (.fsl ((y.key).map qbz) false), (ii y.lp), (ii y.kind), (ii y.proc), (ii y.arg)])] = some (ii (qpn x y)) := by
  obtain ⟨xt, xk, xl, xi, xp, xa⟩ := x
  obtain ⟨yt, yk, yl, yi, yp, ya⟩ := y
  have hc := qld xt yt
  have hk := qrh xk yk false false hx hy
  have hz := (qik xt yt).2.1
  rw [qa7, qae qo7 qoh]
  by_cases h : xt = yt
  · subst h
    have h0 : qon xt xt = 0 := hz.2 rfl
    simp only [qeu, qpn, h0, hk, qx, qk, Ev.exec, qb, qe, qc, qa5, qah, Ev.evs, Ev.Opnd.ev, Ev.Env.get, Ev.Env.set, Ev.look, ql, qf, qv, Ev.AV.cells, qo, Ev.AV.plain, qbu, qj, qs, qak, Ev.kill, qai, qg, qbc, qm, qh, qd, qac, ↓qn, ↓reduceIte, List.length_cons, List.length_nil, zfe, List.drop_succ_cons, List.drop_zero, List.head?_cons, Nat.reduceAdd, Nat.reduceEqDiff, reduceCtorEq, decide_false, zfc, zfa, and_self, ne_eq, zfb, not_true_eq_false, zff, zfd, eq_self]
  · have h0 : ¬ qon xt yt = 0 := fun e => h (hz.1 e)
    simp only [qeu, qpn, h0, h, hc, qk, Ev.exec, qb, qe, qc, qa5, qah, Ev.evs, Ev.Opnd.ev, Ev.Env.get, Ev.Env.set, Ev.look, ql, qf, qv, Ev.AV.cells, qo, Ev.AV.plain, qbu, qj, qs, qak, Ev.kill, qai, qg, qbc, qh, qd, qac, ↓qn, ↓reduceIte, List.length_cons, List.length_nil, zfe, List.drop_zero, List.head?_cons, Nat.reduceAdd, Nat.reduceEqDiff, reduceCtorEq, decide_true, zfc, zfa, and_self, ne_eq, zfb, zff, zfd, eq_self]
open Go.Ev
set_option maxRecDepth 10000
def Adj (l : List Evt) : Prop := ∀ (k : Nat) (x y : Evt), l[k]? = some x → l[k + 1]? = some y → qpn x y < 0
noncomputable def qzb (l : List Evt) : Bool := @decide (Adj l) (Classical.propDecidable _)
theorem quk (l : List Evt) : qzb l = true ↔ Adj l := by unfold qzb; simp
theorem q6a {l : List Evt} (h : ¬ Adj l) : qzb l = false := by
  cases hv : qzb l with
  | false => rfl
  | true => exact absurd ((quk l).1 hv) h
section
variable (l : List Evt) (c : Bool)
theorem q5d (hl : l.length ≤ 1000000) (hk : qg4 l) : ∃ y, itB (exec (evL T) itL none qga) (qr [0, 3] true 0) ⟨[(0, (.fsl ((l).map Evt.r) c)), (3, (ii 1))], []⟩ [] = some y ∧
    ((y.1 = .exit 0 ∧ y.2.1.marks = [] ∧ y.2.2 = [] ∧ Adj l) ∨ (y.1 = .ret ∧ y.2.1.marks = [] ∧ y.2.2 = [] ∧ Ev.look y.2.1.vars 2 = some (bb false) ∧ ¬ Adj l)) := by
  have key := qfg (f := exec (evL T) itL none qga) (s := qr [0, 3] true 0) (α := Unit) (fun i _ => ⟨[(0, (.fsl ((l).map Evt.r) c)), (3, (ii ((i + 1 : Nat))))], []⟩) (fun _ _ => [])
    (fun i _ => ∀ (k : Nat) (x y : Evt), k < i → l[k]? = some x → l[k + 1]? = some y → qpn x y < 0) (l.length - 1)
    (fun y => (y.1 = .exit 0 ∧ y.2.1.marks = [] ∧ y.2.2 = [] ∧ Adj l) ∨ (y.1 = .ret ∧ y.2.1.marks = [] ∧ y.2.2 = [] ∧ Ev.look y.2.1.vars 2 = some (bb false) ∧ ¬ Adj l)) ?_ ?_ 0 () (Nat.zero_le _) (fun k x y h => by omega)
  · exact key
  · rintro j _ hj hinv
    obtain ⟨i, hi⟩ : ∃ i, i = j + 1 := ⟨_, rfl⟩
    obtain ⟨x, hx⟩ : ∃ x, l[i]? = some x := ⟨_, List.getElem?_eq_getElem (by omega)⟩
    obtain ⟨p, hp⟩ : ∃ p, l[j]? = some p := ⟨_, List.getElem?_eq_getElem (by omega)⟩
    rw [← hi]
    have hi' : (i : Int) < (l.length : Int) := by omega
    have hw : IntKind.i64.wrap ((i : Int) + 1) = ((i + 1 : Nat) : Int) := qv3 (by omega)
    have w1 : IntKind.i64.wrap ((i : Int) - 1) = (j : Int) := q0b hi (by omega)
    have hc := qip p x (hk p (List.mem_of_getElem? hp)) (hk x (List.mem_of_getElem? hx))
    by_cases hlt : qpn p x < 0
    · have hge : ¬ qpn p x ≥ 0 := by omega
      refine .inl ⟨(), ?_, fun k u v h hu hv => ?_⟩
      · clear hlt hinv
        obtain ⟨xt, xk, xl, xi, xp, xa⟩ := x
        obtain ⟨yt, yk, yl, yi, yp, ya⟩ := p
        simp only at hc
        simp only [qga, Int.natCast_nonneg, Int.toNat_natCast, List.getElem?_map, Option.map_some, hi', hw, w1, hx, hp, hc, hge, Evt.r, qaa, qx, Ev.exec, qb, qe, qc, qa5, qah, Ev.evs, Ev.Opnd.ev, Ev.Env.get, Ev.Env.set, Ev.look, qf, qv, qap, qo5, qi, qbq, qr, Ev.keep, qal, qad, qg, qbc, qa2, qm, qh, qd, List.length_map, ↓qn, Ev.it1, ↓reduceIte, List.length_cons, List.length_nil, List.take_succ_cons, zfe, Nat.reduceAdd, Nat.reduceEqDiff, reduceCtorEq, decide_true, decide_false, zfc, zfa, and_self, zfd, Nat.le_refl, eq_self]
      · rcases Nat.lt_or_ge k j with h1 | h1
        · exact hinv k u v h1 hu hv
        · have hkj : k = j := by omega
          subst hkj
          rw [← hi, hx] at hv
          rw [hp] at hu
          cases hu; cases hv; exact hlt
    · have hge : qpn p x ≥ 0 := by omega
      have hno : ¬ Adj l := fun h => hlt (h j p x hp (by rw [← hi]; exact hx))
      refine .inr ?_
      clear hlt hinv
      obtain ⟨xt, xk, xl, xi, xp, xa⟩ := x
      obtain ⟨yt, yk, yl, yi, yp, ya⟩ := p
      simp only at hc
      simp only [qga, Int.natCast_nonneg, Int.toNat_natCast, List.getElem?_map, Option.map_some, hi', w1, hx, hp, hc, hge, Evt.r, qx, Ev.exec, qb, qe, qc, qa5, qah, Ev.evs, Ev.Opnd.ev, Ev.Env.get, Ev.Env.set, Ev.look, qf, qv, qo5, qi, qbq, qbc, qa2, qm, qh, qd, List.length_map, ↓qn, Ev.it1, ↓reduceIte, List.length_cons, List.length_nil, List.take_succ_cons, zfe, Nat.reduceAdd, Nat.reduceEqDiff, reduceCtorEq, decide_true, zfc, zfd, Nat.le_refl, eq_self]
      exact ⟨_, rfl, .inr ⟨rfl, rfl, rfl, rfl, hno⟩⟩
  · rintro _ hinv
    have hn : ¬ ((l.length - 1 + 1 : Nat) : Int) < (l.length : Int) := by omega
    simp only [qga, hn, Ev.exec, qb, qe, qc, qah, Ev.Opnd.ev, Ev.Env.get, Ev.Env.set, Ev.look, qi, List.length_map, ↓qn, Ev.it1, ↓reduceIte, Nat.reduceEqDiff, reduceCtorEq, decide_false, zfa, eq_self]
    exact ⟨_, rfl, .inl ⟨rfl, rfl, rfl, fun k x y hx hy => hinv k x y (by have := (List.getElem?_eq_some_iff.1 hy).1; omega) hx hy⟩⟩
theorem qx6 (hl : l.length ≤ 1000000) (hk : qg4 l) : qa7 (evL T) qhm [(.fsl ((l).map Evt.r) c)] = some (bb (qzb l)) := by
  obtain ⟨⟨y, e, σ⟩, h1, h2⟩ := q5d l c hl hk
  rw [qa7, qae qxs qvf]
  rcases h2 with ⟨h2, h3, h4, h5⟩ | ⟨h2, h3, h4, h5, h6⟩ <;> simp only at h2 h3 h4 h5 <;> subst h2 <;> subst h4
  · rw [(quk l).2 h5]
    simp only [qkg, h1, h3, qaa, qk, Ev.exec, qb, qe, qc, qah, Ev.Opnd.ev, Ev.Env.get, Ev.Env.set, Ev.look, ql, qj, qs, qak, Ev.kill, qai, qr, Ev.keep, qal, qad, qg, qbc, qm, qac, ↓qn, ↓qa0, ↓reduceIte, List.length_cons, List.length_nil, zfe, reduceCtorEq, zfc, and_self, zfd, eq_self]
  · rw [q6a h6]
    simp only [qkg, h1, h3, h5, qaa, qk, Ev.exec, qb, qe, qc, qah, Ev.Opnd.ev, Ev.Env.get, Ev.Env.set, Ev.look, ql, qj, qs, qak, Ev.kill, qai, qr, Ev.keep, qal, qad, qg, qbc, qm, qac, ↓qn, ↓qa0, ↓reduceIte, List.length_cons, List.length_nil, zfe, reduceCtorEq, zfc, and_self, zfd, eq_self]
end
open Go.Ev
set_option maxRecDepth 10000
def q5z : Evt := ⟨0, [], 0, 0, 0, 0⟩
def qsj (l : List Evt) (b : Int) : List Evt × Evt × Bool := match l with
  | [] => ([], q5z, false)
  | x :: r => if x.time < b then (r, x, true) else (x :: r, q5z, false)
theorem qwt (l : List Evt) (c : Bool) (b : Int) (hl : l.length ≤ 1000000) : ∃ c' : Bool, qa7 (evL T) qgv [(.fsl ((l).map Evt.r) c), (ii b)] = some (.tup [(.fsl (((qsj l b).1).map Evt.r) c'), (.agg [(ii ((qsj l b).2.1.time)), (.fsl (((qsj l b).2.1.key).map qbz) false), (ii ((qsj l b).2.1.lp)), (ii ((qsj l b).2.1.kind)), (ii ((qsj l b).2.1.proc)), (ii ((qsj l b).2.1.arg))]), (bb ((qsj l b).2.2))]) := by
  rw [qa7, qae qvs qto]
  cases l with
  | nil =>
    refine ⟨c, ?_⟩
    simp only [qim, qsj, q5z, List.map_nil, Int.lt_irrefl, qk, Ev.exec, qb, qe, qc, qah, Ev.Opnd.ev, Ev.Env.get, Ev.Env.set, Ev.Env.unset, Ev.look, ql, qf, qv, qfs, Ev.AV.cells, qo, Ev.AV.plain, qbb, qj, qs, qak, Ev.kill, qai, qg, qbc, qa2, qb1, qm, qh, qd, qu, qac, ↓qn, ↓reduceIte, List.length_cons, List.length_nil, List.getElem?_cons_zero, List.take_succ_cons, List.take_zero, zfe, List.drop_succ_cons, List.drop_zero, List.drop_nil, List.nil_append, List.append_nil, List.set_cons_zero, Nat.reduceAdd, Nat.reduceEqDiff, Int.cast_ofNat_Int, reduceCtorEq, decide_false, zfc, zfa, and_self, ne_eq, zfb, zff, zfd, Nat.le_refl, eq_self]
    try rfl
  | cons x r =>
    have hcl := qs2 r c (by simp at hl; omega)
    have h1 : (1 : Int) ≤ ((r.length + 1 : Nat) : Int) := by omega
    have htk : (r.map Evt.r).take r.length = r.map Evt.r := List.take_of_length_le (by simp)
    obtain ⟨xt, xk, xl, xi, xp, xa⟩ := x
    have h0 : ((r.length + 1 : Nat) : Int) > 0 := by omega
    by_cases h : xt < b
    · refine ⟨false, ?_⟩
      simp only [qim, qsj, Int.toNat_natCast, List.map_cons, Evt.r, h0, h1, h, hcl, htk, Int.le_refl, Nat.add_sub_cancel, imp_self, qx, qaa, qf1, qk, Ev.exec, qb, qe, qc, qrg, q0y, Ev.AV.shift, qah, Ev.evs, Ev.Opnd.ev, Ev.Env.get, Ev.Env.set, Ev.look, ql, qf0, qf, qv, Ev.AV.cells, qo, Ev.AV.plain, qi, qbb, qj, qs, qak, Ev.kill, qai, qg, qbc, qa2, qb1, qm, qdn, qh, qd, qbf, qac, qtj, qg8, qe1, qgi, qeh, qhb, List.length_map, ↓qn, ↓reduceIte, List.length_cons, List.length_nil, List.getElem?_cons_zero, List.getElem?_cons_succ, List.take_succ_cons, List.take_zero, zfe, List.drop_succ_cons, List.drop_zero, List.drop_nil, List.cons_append, List.nil_append, List.append_nil, List.set_cons_zero, List.head?_cons, Nat.reduceAdd, Nat.reduceEqDiff, Nat.reduceLT, Int.reduceLE, Int.reduceToNat, reduceCtorEq, decide_true, decide_false, zfc, Bool.and_true, zfa, and_self, and_true, ne_eq, zfb, zff, zfd, Nat.le_refl, Option.isSome_none, eq_self]
      try rfl
    · refine ⟨c, ?_⟩
      simp only [qim, qsj, q5z, List.map_cons, Evt.r, h0, h, qx, qaa, qk, Ev.exec, qb, qe, qc, qah, Ev.Opnd.ev, Ev.Env.get, Ev.Env.set, Ev.look, ql, qf, qv, qfs, Ev.AV.cells, qo, Ev.AV.plain, qi, qbb, qj, qs, qak, Ev.kill, qai, qg, qbc, qa2, qb1, qm, qh, qd, qu, qaj, qac, List.length_map, ↓qn, ↓reduceIte, List.length_cons, List.length_nil, List.getElem?_cons_zero, List.take_succ_cons, List.take_zero, zfe, List.drop_succ_cons, List.drop_zero, List.drop_nil, List.nil_append, List.append_nil, List.set_cons_zero, List.head?_cons, Nat.reduceAdd, Nat.reduceEqDiff, Int.reduceLE, Int.reduceToNat, reduceCtorEq, decide_true, decide_false, zfc, zfa, and_self, ne_eq, zfb, zff, zfd, Nat.le_refl, eq_self]
      try rfl
open Go.Ev
set_option maxRecDepth 10000
theorem qn1 (x y : Evt) (hx : x.key.length ≤ 9223372036854775807) (hy : y.key.length ≤ 9223372036854775807) :
    (evL T).call qa3 [(.agg [(ii x.time), (.fsl ((x.key).map qbz) false), (ii x.lp), (ii x.kind), (ii x.proc), (ii x.arg)]), (.agg [(ii y.time), (.fsl ((y.key).map qbz) false), (ii y.lp), (ii y.kind), (ii y.proc), (ii y.arg)])] [] = some ((ii (qpn x y)), []) := by
  obtain ⟨xt, xk, xl, xi, xp, xa⟩ := x
  obtain ⟨yt, yk, yl, yi, yp, ya⟩ := y
  have hc := qnv xt yt
  have hk := qqy xk yk false false hx hy
  have hf := qyr (qon xt yt) (qkm xk yk) true
  simp only [List.map_cons, List.map_nil, qbz] at hf
  rw [qae qov qok]
  simp only [qgf, show ∀ v : List AV, List.replicate 2 v = [v, v] from fun _ => rfl, hc, hk, hf, qpn, qx, qk, Ev.exec, qb, qe, qc, qa5, qah, Ev.evs, Ev.Opnd.ev, Ev.Env.get, Ev.Env.set, Ev.look, ql, qf, qv, qfz, Ev.AV.cells, Ev.AV.uc, qo, Ev.AV.plain, qj, qs, qak, Ev.kill, qai, qg, qbc, qm, qh, qd, qu, qaj, ↓qn, ↓reduceIte, List.length_cons, List.length_nil, zfe, List.drop_succ_cons, List.drop_zero, List.set_cons_zero, List.set_cons_succ, List.head?_cons, Nat.reduceAdd, Nat.reduceEqDiff, Nat.reduceMul, Nat.reduceLT, Nat.reduceLeDiff, Nat.reducePow, reduceCtorEq, zfc, zfa, and_self, ne_eq, zfb, zff, zfd, Nat.lt_add_one, eq_self]
section
variable (l : List Evt) (c : Bool) (x : Evt)
def At (l : List Evt) (x : Evt) (k : Nat) : Prop := k ≤ l.length ∧ (∀ u, 0 < k → l[k - 1]? = some u → qpn u x < 0) ∧ (∀ v, l[k]? = some v → 0 ≤ qpn v x)
theorem bs_L (hl : l.length ≤ 1000000) (hk : qg4 l) (kx : x.key.length ≤ 9223372036854775807) :
    ∃ y, itB (exec (evL T) itL none qaf) (qr [0, 2, 4, 8, 9, 10] true 0) ⟨[(0, (.fsl ((l).map Evt.r) c)), (2, (.fn (.func qa3) [] [])), (4, (.fptr [(ii x.time), (.fsl ((x.key).map qbz) false), (ii x.lp), (ii x.kind), (ii x.proc), (ii x.arg)])), (8, (ii l.length)), (9, (ii 0)), (10, (ii l.length))], []⟩ [] = some y ∧
      ∃ k : Nat, y.1 = .exit 0 ∧ y.2.1.marks = [] ∧ y.2.2 = [] ∧ Ev.look y.2.1.vars 0 = some (.fsl ((l).map Evt.r) c) ∧ Ev.look y.2.1.vars 2 = some (.fn (.func qa3) [] []) ∧ Ev.look y.2.1.vars 4 = some (.fptr [(ii x.time), (.fsl ((x.key).map qbz) false), (ii x.lp), (ii x.kind), (ii x.proc), (ii x.arg)]) ∧ Ev.look y.2.1.vars 8 = some (ii l.length) ∧ Ev.look y.2.1.vars 9 = some (ii k) ∧ At l x k := by
  have key := qx0 (f := exec (evL T) itL none qaf) (s := qr [0, 2, 4, 8, 9, 10] true 0) (τ := Nat × Nat) (fun a => ⟨[(0, (.fsl ((l).map Evt.r) c)), (2, (.fn (.func qa3) [] [])), (4, (.fptr [(ii x.time), (.fsl ((x.key).map qbz) false), (ii x.lp), (ii x.kind), (ii x.proc), (ii x.arg)])), (8, (ii l.length)), (9, (ii a.1)), (10, (ii a.2))], []⟩) (fun _ => []) (fun a => a.2 - a.1)
    (fun a => a.1 ≤ a.2 ∧ a.2 ≤ l.length ∧ (∀ u, 0 < a.1 → l[a.1 - 1]? = some u → qpn u x < 0) ∧ (∀ v, l[a.2]? = some v → 0 ≤ qpn v x))
    (fun y => ∃ k : Nat, y.1 = .exit 0 ∧ y.2.1.marks = [] ∧ y.2.2 = [] ∧ Ev.look y.2.1.vars 0 = some (.fsl ((l).map Evt.r) c) ∧ Ev.look y.2.1.vars 2 = some (.fn (.func qa3) [] []) ∧ Ev.look y.2.1.vars 4 = some (.fptr [(ii x.time), (.fsl ((x.key).map qbz) false), (ii x.lp), (ii x.kind), (ii x.proc), (ii x.arg)]) ∧ Ev.look y.2.1.vars 8 = some (ii l.length) ∧ Ev.look y.2.1.vars 9 = some (ii k) ∧ At l x k)
    ?_ (0, l.length) ⟨Nat.zero_le _, Nat.le_refl _, fun u h => by simp only at h; omega, fun v hv => by simp at hv⟩
  · exact key
  rintro ⟨i, j⟩ ⟨h1, h2, h3, h4⟩
  simp only at h1 h2 h3 h4 ⊢
  by_cases hij : i < j
  case neg =>
    have c1 : ¬ (i : Int) < (j : Int) := by omega
    right
    simp only [qaf, c1, Ev.exec, qb, qe, qc, qah, Ev.Opnd.ev, Ev.Env.get, Ev.Env.set, Ev.look, qi, ↓qn, Ev.it1, ↓reduceIte, Nat.reduceEqDiff, reduceCtorEq, decide_false, zfa, eq_self]
    obtain rfl : i = j := by omega
    exact ⟨_, rfl, i, rfl, rfl, rfl, rfl, rfl, rfl, rfl, rfl, by omega, h3, h4⟩
  obtain ⟨h, hh⟩ : ∃ h, h = (i + j) / 2 := ⟨_, rfl⟩
  have c1 : (i : Int) < (j : Int) := by omega
  obtain ⟨y, hy⟩ : ∃ y, l[h]? = some y := ⟨_, List.getElem?_eq_getElem (by omega)⟩
  have w1 : IntKind.i64.wrap ((i : Int) + (j : Int)) = ((i + j : Nat) : Int) := q6m (by omega)
  have w2 : IntKind.u64.wrap ((i + j : Nat) : Int) = ((i + j : Nat) : Int) := q6s (by omega)
  have w3 := half_bin (i + j) h hh
  have w4 : IntKind.i64.wrap (h : Int) = (h : Int) := q6i (by omega)
  have w5 : IntKind.i64.wrap ((h : Int) + 1) = ((h + 1 : Nat) : Int) := qv3 (by omega)
  have ky : y.key.length ≤ 9223372036854775807 := hk y (List.mem_of_getElem? hy)
  have hc := qn1 y x ky kx
  left
  by_cases hlt : qpn y x < 0
  · refine ⟨(h + 1, j), ?_, ⟨by simp only; omega, h2, fun u _ hu => ?_, h4⟩, by simp only; omega⟩
    · clear h3 h4
      obtain ⟨xt, xk, xl, xi, xp, xa⟩ := x
      obtain ⟨yt, yk, yl, yi, yp, ya⟩ := y
      simp only at hc
      simp only [qaf, Int.natCast_nonneg, Int.toNat_natCast, List.getElem?_map, Option.map_some, hy, c1, w1, w2, w3, w4, w5, hc, hlt, Evt.r, qaa, qx, Ev.exec, qb, qe, qc, qso, qah, Ev.evs, Ev.Opnd.ev, Ev.Env.get, Ev.Env.set, Ev.look, qf, qv, qap, qi, qr, Ev.keep, qal, qad, qg, qbc, qm, qbh, qx7, qh, qd, ↓qn, Ev.it1, ↓reduceIte, List.length_cons, List.length_nil, List.take_succ_cons, zfe, List.nil_append, List.append_nil, Nat.reduceAdd, Nat.reduceEqDiff, reduceCtorEq, decide_true, zfc, and_self, zfd, Nat.le_refl, eq_self]
    · simp only [Nat.add_sub_cancel] at hu
      rw [hy] at hu; cases hu; exact hlt
  · refine ⟨(i, h), ?_, ⟨by simp only; omega, by simp only; omega, h3, fun v hv => by simp only at hv; rw [hy] at hv; cases hv; omega⟩, by simp only; omega⟩
    clear h3 h4
    obtain ⟨xt, xk, xl, xi, xp, xa⟩ := x
    obtain ⟨yt, yk, yl, yi, yp, ya⟩ := y
    simp only at hc
    simp only [qaf, Int.natCast_nonneg, Int.toNat_natCast, List.getElem?_map, Option.map_some, hy, c1, w1, w2, w3, w4, hc, hlt, Evt.r, qaa, qx, Ev.exec, qb, qe, qc, qso, qah, Ev.evs, Ev.Opnd.ev, Ev.Env.get, Ev.Env.set, Ev.look, qf, qv, qap, qi, qr, Ev.keep, qal, qad, qg, qbc, qm, qbh, qx7, qh, qd, ↓qn, Ev.it1, ↓reduceIte, List.length_cons, List.length_nil, List.take_succ_cons, zfe, List.nil_append, List.append_nil, Nat.reduceAdd, Nat.reduceEqDiff, reduceCtorEq, decide_true, decide_false, zfc, zfa, and_self, zfd, Nat.le_refl, eq_self]
theorem bs_ev (hl : l.length ≤ 1000000) (hk : qg4 l) (kx : x.key.length ≤ 9223372036854775807) : ∃ (k : Nat) (b : Bool), At l x k ∧
    qa7 (evL T) qab [(.fsl ((l).map Evt.r) c), (.agg [(ii x.time), (.fsl ((x.key).map qbz) false), (ii x.lp), (ii x.kind), (ii x.proc), (ii x.arg)]), (.fn (.func qa3) [] [])] = some (.tup [(ii k), (bb b)]) := by
  obtain ⟨⟨y, e, σ⟩, h1, k, h2, h3, h4, h5, h6, h7, h8, h9, hA⟩ := bs_L l c x hl hk kx
  simp only at h2 h3 h4 h5 h6 h7 h8 h9
  subst h2; subst h4
  refine ⟨k, match l[k]? with | some v => decide (qpn v x = 0) | none => false, hA, ?_⟩
  rw [qa7, qae qdt qds]
  by_cases hkn : k < l.length
  · obtain ⟨v, hv⟩ : ∃ v, l[k]? = some v := ⟨_, List.getElem?_eq_getElem hkn⟩
    have c1 : (k : Int) < (l.length : Int) := by omega
    have hc := qn1 v x (hk v (List.mem_of_getElem? hv)) kx
    clear hA
    obtain ⟨xt, xk, xl, xi, xp, xa⟩ := x
    obtain ⟨yt, yk, yl, yi, yp, ya⟩ := v
    simp only at hc h1 h7
    simp only [qan, Int.natCast_nonneg, Int.toNat_natCast, List.getElem?_map, Option.map_some, h1, h3, h5, h6, h7, h8, h9, hv, c1, hc, Evt.r, qaa, qx, qk, Ev.exec, qb, qe, qc, qso, qah, Ev.evs, Ev.Opnd.ev, Ev.Env.get, Ev.Env.set, Ev.look, ql, qf, qv, Ev.AV.cells, qo, Ev.AV.plain, qas, qi, qj, qs, qak, Ev.kill, qai, qr, Ev.keep, qal, qad, qg, qbc, qb1, qm, qbh, qx7, qh, qd, qac, List.length_map, ↓qn, ↓qa0, ↓reduceIte, List.length_cons, List.length_nil, List.take_succ_cons, zfe, List.nil_append, List.append_nil, Nat.reduceAdd, Nat.reduceEqDiff, reduceCtorEq, decide_true, zfc, and_self, ne_eq, zfb, zff, zfd, Nat.le_refl, eq_self]
  · have c1 : ¬ (k : Int) < (l.length : Int) := by omega
    have hv : l[k]? = none := List.getElem?_eq_none (by omega)
    clear hA
    obtain ⟨xt, xk, xl, xi, xp, xa⟩ := x
    simp only at h1 h7
    simp only [qan, h1, h3, h8, h9, hv, c1, qaa, qx, qk, Ev.exec, qb, qe, qc, qah, Ev.Opnd.ev, Ev.Env.get, Ev.Env.set, Ev.Env.unset, Ev.look, ql, Ev.AV.cells, qo, Ev.AV.plain, qi, qj, qs, qak, Ev.kill, qai, qr, Ev.keep, qal, qad, qg, qbc, qb1, qm, qbh, qx7, qh, qd, qac, List.length_map, ↓qn, ↓qa0, ↓reduceIte, List.length_cons, List.length_nil, zfe, Nat.reduceAdd, Nat.reduceEqDiff, reduceCtorEq, decide_false, zfc, zfa, and_self, ne_eq, zfb, zff, zfd, eq_self]
theorem qt0 (hl : l.length ≤ 1000000) (hk : qg4 l) (kx : x.key.length ≤ 9223372036854775807) : ∃ k : Nat, At l x k ∧
    qa7 (evL T) qee [(.fsl ((l).map Evt.r) c), (.agg [(ii x.time), (.fsl ((x.key).map qbz) false), (ii x.lp), (ii x.kind), (ii x.proc), (ii x.arg)])] = some (.fsl ((l.take k ++ x :: l.drop k).map Evt.r) false) := by
  obtain ⟨k, b, hA, hb⟩ := bs_ev l c x hl hk kx
  refine ⟨k, hA, ?_⟩
  have hcl := qs2 l c hl
  have hkl : k ≤ l.length := hA.1
  have ok1 := qf1 [x]
  have ok2 := qf1 l
  have hb2 : (l.length + 1) * 64 ≤ 2 ^ 47 := by omega
  have hins : (evL T).call qbd [.sl 0 0 0 l.length false, (ii k), .fsl [x.r] true] [.row 6 (l.map Evt.r) 0] = some (.sl 0 2 0 (l.length + 1) false, [.row 6 ((l.take k ++ x :: l.drop k).map Evt.r) 2]) := by
    rw [evL_ins qhd qhf]
    simp only [insF, List.getElem?_cons_zero, Int.toNat_natCast]
    rw [if_pos ⟨trivial, trivial, trivial, by omega, by omega, by simp, by omega, hkl, ok1, by rw [List.take_of_length_le (by simp)]; exact ok2, hb2⟩]
    rw [List.map_append, List.map_cons, List.map_take, List.map_drop, List.take_of_length_le (l := l.map Evt.r) (i := l.length) (by simp)]
    rfl
  have htk : ((l.take k ++ x :: l.drop k).map Evt.r).take (l.length + 1) = (l.take k ++ x :: l.drop k).map Evt.r := List.take_of_length_le (by simp; omega)
  have hlen : l.length + 1 ≤ (l.take k ++ x :: l.drop k).length := by simp; omega
  rw [qa7, qae qsr qr0]
  clear hA
  generalize l.take k ++ x :: l.drop k = R at *
  obtain ⟨xt, xk, xl, xi, xp, xa⟩ := x
  simp only [Evt.r] at hins
  simp only at hb
  simp only [qjy, hb, hcl, hins, htk, hlen, qaa, qx, qk, Ev.exec, qb, qe, qc, qa5, qrg, qjq, q0y, Ev.AV.shift, qah, Ev.evs, Ev.Opnd.ev, Ev.Env.get, Ev.Env.set, Ev.look, ql, qf, qv, qfz, Ev.AV.cells, qo, Ev.AV.plain, qj, qs, qak, Ev.kill, qai, qg, qbc, qa2, qm, qdn, qx7, qh, qd, qg8, qe1, qgi, qeh, qhb, List.replicate_one, List.length_map, ↓qn, ↓reduceIte, List.length_cons, List.length_nil, List.getElem?_cons_zero, List.getElem?_cons_succ, List.take_succ_cons, List.take_zero, zfe, List.drop_zero, List.nil_append, List.set_cons_zero, Nat.reduceAdd, Nat.reduceEqDiff, Nat.reduceMul, Nat.reduceLT, Nat.reduceLeDiff, Nat.reducePow, reduceCtorEq, decide_false, zfc, zfa, and_self, and_true, ne_eq, zfb, zff, zfd, Nat.add_zero, Nat.lt_add_one, Nat.le_refl, eq_self]
end
open Go.Ev
set_option maxRecDepth 10000
theorem qjj (n : Nat) : ∀ (a b : List (List AV)), qiz n (a ++ b) = (qiz n a && qiz n b)
  | [], b => by simp [qu]
  | x :: a, b => by rw [List.cons_append, qaj, qaj, qjj n a b, Bool.and_assoc]
theorem q0c (l : List Int) (c : Bool) (h : l.length ≤ 100000) : (evL T).call qeb [(.fsl ((l).map qbz) c)] [] = some (.sl 0 0 0 l.length false, [.row 1 (l.map qbz) 0]) := by
  have h' : l.length * 8 ≤ 140737488355328 := by omega
  rw [q2w qnj]
  simp only [qre, qx, q7w, h', Nat.lt_add_one, qm, qh, qd, List.length_map, ↓reduceIte, Nat.reducePow, zfc, and_self, Nat.lt_add_one, eq_self]
theorem qx4 (l : List Int) (c : Bool) (n : Int) (h : l.length ≤ 100000) : qa7 (evL T) qhv [(.fsl ((l).map qbz) c), (ii n)] = some (.fsl ((l ++ [n]).map qbz) false) := by
  have h' : (l.length + 1) * 8 ≤ 140737488355328 := by omega
  have htl : List.take l.length (l.map qbz) = l.map qbz := List.take_of_length_le (by simp)
  have htk : ∀ e : List AV, List.take (l.length + 1) (l.map qbz ++ [e]) = l.map qbz ++ [e] := fun e => List.take_of_length_le (by simp)
  have hr : (l ++ [n]).map qbz = l.map qbz ++ [[(ii n)]] := by rw [List.map_append]; rfl
  rw [qa7, qae qw9 qvt]
  rw [hr]
  simp only [qlx, q0c l c h, h', htl, htk, qjj, qx, qk, Ev.exec, qb, qe, qc, qrg, q0y, Ev.AV.shift, qah, qn4, Ev.evs, Ev.Opnd.ev, Ev.Env.get, Ev.Env.set, Ev.look, ql, qbt, qfz, Ev.AV.cells, Ev.AV.uc, qo, Ev.AV.plain, qj, qs, qak, Ev.kill, qai, qg, qbc, qm, qdn, qh, qd, qu, qaj, qbg, qbf, qg8, qe1, qgi, qeh, qhb, List.replicate_one, List.length_map, ↓qn, ↓reduceIte, List.length_cons, List.length_nil, List.length_append, List.getElem?_cons_zero, List.take_zero, List.drop_zero, List.nil_append, List.set_cons_zero, Nat.reduceAdd, Nat.reduceEqDiff, Nat.reduceMul, Nat.reduceLT, Nat.reduceLeDiff, Nat.reducePow, reduceCtorEq, decide_true, decide_false, zfc, zfa, and_self, and_true, ne_eq, zfb, zff, zfd, Nat.add_zero, Nat.lt_add_one, Nat.le_refl, eq_self]
open Go.Ev
set_option maxRecDepth 10000
def Fits (l : List Evt) (x : Evt) (k : Nat) : Prop := k ≤ l.length ∧ (∀ u, 0 < k → l[k - 1]? = some u → leE u x) ∧ (∀ v, l[k]? = some v → leE x v)
theorem At.fits {l : List Evt} {x : Evt} {k : Nat} (h : At l x k) : Fits l x k :=
  ⟨h.1, fun u h0 hu => leE_of u x (h.2.1 u h0 hu), fun v hv => by have := h.2.2 v hv; have := qow v x; unfold leE; omega⟩
theorem Fits.perm {l : List Evt} {x : Evt} {k : Nat} : (l.take k ++ x :: l.drop k).Perm (x :: l) := by
  have := List.perm_middle (a := x) (l₁ := l.take k) (l₂ := l.drop k)
  rwa [List.take_append_drop] at this
theorem Fits.sorted {l : List Evt} {x : Evt} {k : Nat} (h : Fits l x k) (hs : l.Pairwise leE) : (l.take k ++ x :: l.drop k).Pairwise leE := by
  obtain ⟨h1, h2, h3⟩ := h
  have hlen : (l.take k).length = k := by rw [List.length_take]; omega
  refine qur qsv (by rwa [List.take_append_drop]) (fun u hu => ?_) (fun v hv => ?_)
  · rw [hlen] at hu
    rw [List.getElem?_take] at hu
    split at hu
    · exact h2 u (by omega) hu
    · cases hu
  · rw [List.getElem?_drop] at hv
    exact h3 v hv
theorem Fits.eq {l : List Evt} {x : Evt} {k : Nat} (h : Fits l x k) (hs : l.Pairwise leE) (hd : qud (x :: l)) : l.take k ++ x :: l.drop k = qgx (x :: l) :=
  qp4 hd Fits.perm (h.sorted hs)
section
variable (l : List Evt) (c : Bool) (x : Evt)
theorem quz (hl : l.length ≤ 1000000) (hk : qg4 l) (kx : x.key.length ≤ 9223372036854775807) (hs : l.Pairwise leE) (hd : qud (x :: l)) : qa7 (evL T) qee [(.fsl ((l).map Evt.r) c), (.agg [(ii x.time), (.fsl ((x.key).map qbz) false), (ii x.lp), (ii x.kind), (ii x.proc), (ii x.arg)])] = some (.fsl ((qgx (x :: l)).map Evt.r) false) := by
  obtain ⟨k, hA, h⟩ := qt0 l c x hl hk kx
  rw [hA.fits.eq hs hd] at h
  exact h
theorem refIns_L (hl : l.length ≤ 1000000) (hk : qg4 l) (hkx : x.key.length ≤ 9223372036854775807) :
    ∃ y, itB (exec (evL T) itL none qg9) (qr [0, 3, 5] true 0) ⟨[(0, (.fsl ((l).map Evt.r) c)), (3, (.fptr [(ii x.time), (.fsl ((x.key).map qbz) false), (ii x.lp), (ii x.kind), (ii x.proc), (ii x.arg)])), (5, (ii l.length))], []⟩ [] = some y ∧
      ∃ k : Nat, y.1 = .exit 0 ∧ y.2.1.marks = [] ∧ y.2.2 = [] ∧ Ev.look y.2.1.vars 0 = some (.fsl ((l).map Evt.r) c) ∧ Ev.look y.2.1.vars 3 = some (.fptr [(ii x.time), (.fsl ((x.key).map qbz) false), (ii x.lp), (ii x.kind), (ii x.proc), (ii x.arg)]) ∧ Ev.look y.2.1.vars 5 = some (ii k) ∧ Fits l x k := by
  refine qx0 (τ := Nat) (fun k => ⟨[(0, (.fsl ((l).map Evt.r) c)), (3, (.fptr [(ii x.time), (.fsl ((x.key).map qbz) false), (ii x.lp), (ii x.kind), (ii x.proc), (ii x.arg)])), (5, (ii k))], []⟩) (fun _ => []) (fun k => k)
    (fun k => k ≤ l.length ∧ (∀ v, l[k]? = some v → leE x v)) _ ?_ l.length ⟨Nat.le_refl _, fun v hv => by simp at hv⟩
  rintro k ⟨h1, h2⟩
  cases k with
  | zero =>
    right
    simp only [qg9, Int.lt_irrefl, gt_iff_lt, Ev.exec, qb, qe, qc, qah, Ev.Opnd.ev, Ev.Env.get, Ev.Env.set, Ev.Env.unset, Ev.look, qbb, ↓qn, Ev.it1, ↓reduceIte, Nat.reduceEqDiff, Int.cast_ofNat_Int, reduceCtorEq, decide_false, zfa, eq_self]
    exact ⟨_, rfl, 0, rfl, rfl, rfl, rfl, rfl, rfl, Nat.zero_le _, fun u h => by omega, h2⟩
  | succ j =>
    obtain ⟨y, hy⟩ : ∃ y, l[j]? = some y := ⟨_, List.getElem?_eq_getElem (by omega)⟩
    obtain ⟨k, hk1⟩ : ∃ k, k = j + 1 := ⟨_, rfl⟩
    rw [← hk1] at h1 h2 ⊢
    have c1 : (k : Int) > 0 := by omega
    have w1 : IntKind.i64.wrap ((k : Int) - 1) = (j : Int) := q0b hk1 (by omega)
    have hc := qip y x (hk y (List.mem_of_getElem? hy)) hkx
    by_cases hlt : qpn y x > 0
    · left
      refine ⟨j, ?_, ⟨by omega, fun v hv => by rw [hy] at hv; cases hv; exact (by have := qow y x; unfold leE; omega)⟩, by omega⟩
      clear h2
      obtain ⟨xt, xk, xl, xi, xp, xa⟩ := x
      obtain ⟨yt, yk, yl, yi, yp, ya⟩ := y
      simp only at hc
      simp only [qg9, Int.natCast_nonneg, Int.toNat_natCast, List.getElem?_map, Option.map_some, hy, c1, w1, hc, hlt, Evt.r, qaa, qx, Ev.exec, qb, qe, qc, qa5, qah, Ev.evs, Ev.Opnd.ev, Ev.Env.get, Ev.Env.set, Ev.look, qf, qv, qo5, qbb, qr, Ev.keep, qal, qad, qg, qbc, qa2, qm, qbh, qh, qd, ↓qn, Ev.it1, ↓reduceIte, List.length_cons, List.length_nil, List.take_succ_cons, zfe, Nat.reduceAdd, Nat.reduceEqDiff, reduceCtorEq, decide_true, zfc, and_self, zfd, Nat.le_refl, eq_self]
    · right
      have hle : leE y x := by unfold leE; omega
      have h3 : ∀ u, 0 < k → l[k - 1]? = some u → leE u x := fun u _ hu => by
        rw [hk1, Nat.add_sub_cancel, hy] at hu; cases hu; exact hle
      have hF : Fits l x k := ⟨h1, h3, h2⟩
      clear hle h3 h2
      obtain ⟨xt, xk, xl, xi, xp, xa⟩ := x
      obtain ⟨yt, yk, yl, yi, yp, ya⟩ := y
      simp only at hc
      simp only [qg9, Int.natCast_nonneg, Int.toNat_natCast, List.getElem?_map, Option.map_some, hy, c1, w1, hc, hlt, Evt.r, qx, Ev.exec, qb, qe, qc, qa5, qah, Ev.evs, Ev.Opnd.ev, Ev.Env.get, Ev.Env.set, Ev.look, qf, qv, qo5, qbb, qbc, qa2, qm, qh, qd, ↓qn, Ev.it1, ↓reduceIte, List.length_cons, List.length_nil, List.take_succ_cons, zfe, Nat.reduceAdd, Nat.reduceEqDiff, reduceCtorEq, decide_true, decide_false, zfc, zfa, zfd, Nat.le_refl, eq_self]
      exact ⟨_, rfl, k, rfl, rfl, rfl, rfl, rfl, rfl, hF⟩
theorem qwa (hl : l.length ≤ 1000000) (hk : qg4 l) (hkx : x.key.length ≤ 9223372036854775807) : ∃ k : Nat, Fits l x k ∧ qa7 (evL T) qfn [(.fsl ((l).map Evt.r) c), (.agg [(ii x.time), (.fsl ((x.key).map qbz) false), (ii x.lp), (ii x.kind), (ii x.proc), (ii x.arg)])] = some (.fsl ((l.take k ++ x :: l.drop k).map Evt.r) false) := by
  obtain ⟨⟨y, e, σ⟩, k1, k, k2, k3, k4, k5, k6, k7, hF⟩ := refIns_L l c x hl hk hkx
  simp only at k1 k2 k3 k4 k5 k6 k7
  subst k2; subst k4
  refine ⟨k, hF, ?_⟩
  have hkl := hF.1
  clear hF
  obtain ⟨A, B, rfl, hA⟩ : ∃ A B, l = A ++ B ∧ A.length = k := ⟨l.take k, l.drop k, (List.take_append_drop _ _).symm, by simp; omega⟩
  subst hA
  rw [List.take_left' rfl, List.drop_left' rfl]
  have c1 : (A.length : Int) ≤ ((A ++ B).length : Int) := by rw [List.length_append]; omega
  have c2 : (0 : Int) ≤ (A.length : Int) := by omega
  have tk : List.take A.length ((A ++ B).map Evt.r) = A.map Evt.r := by rw [List.map_append]; exact List.take_left' (by simp)
  have dr : List.drop A.length ((A ++ B).map Evt.r) = B.map Evt.r := by rw [List.map_append]; exact List.drop_left' (by simp)
  have hlen : A.length + B.length ≤ 1000000 := by rw [List.length_append] at hl; exact hl
  have b1 : A.length * 64 ≤ 140737488355328 := by omega
  have b2 : (A.length + 1) * 64 ≤ 140737488355328 := by omega
  have b3 : (A.length + 1 + B.length) * 64 ≤ 140737488355328 := by omega
  have tb : List.take ((A ++ B).length - A.length) (B.map Evt.r) = B.map Evt.r := List.take_of_length_le (by simp)
  have ta : List.take A.length (A.map Evt.r) = A.map Evt.r := List.take_of_length_le (by simp)
  have ta2 : ∀ e : List AV, List.take (A.length + 1) (A.map Evt.r ++ [e]) = A.map Evt.r ++ [e] := fun e => List.take_of_length_le (by simp)
  have ta3 : ∀ e : List AV, List.take (A.length + 1 + B.length) (A.map Evt.r ++ e :: B.map Evt.r) = A.map Evt.r ++ e :: B.map Evt.r := fun e => List.take_of_length_le (by simp; omega)
  have okAB : qce 6 ((A ++ B).map Evt.r) = true := qf1 _
  have goal' : (AV.fsl ((A ++ x :: B).map Evt.r) false) = AV.fsl (A.map Evt.r ++ x.r :: B.map Evt.r) false := by rw [List.map_append, List.map_cons]
  have n1 : ∀ p q : Nat, p + 1 + q ≤ p + (q + 1) := fun p q => by omega
  have n2 : ∀ q : Nat, 1 + q ≤ q + 1 := fun q => by omega
  rw [goal']
  clear hl hk
  rw [qa7, qae qu9 qul]
  rcases A with _ | ⟨a, A⟩ <;> rcases B with _ | ⟨b, B⟩
  · obtain ⟨xt, xk, xl, xi, xp, xa⟩ := x
    simp only [List.nil_append, List.length_nil, List.map_nil, Int.ofNat_zero] at *
    simp only [qg0, k1, k3, k5, k6, k7, c1, tk, dr, b1, b2, ta2, okAB, imp_self, Nat.sub_zero, Int.toNat_zero, Evt.r, qx, qk, Ev.exec, qb, qe, qc, qah, qn4, Ev.Opnd.ev, Ev.Env.get, Ev.Env.set, Ev.look, ql, qf0, qf, qbt, qv, qfz, Ev.AV.cells, qo, Ev.AV.plain, qj, qs, qak, Ev.kill, qai, qr, Ev.keep, qal, qad, qg, qbc, qm, qbh, qdn, qh, qd, qu, qbf, qac, qg8, qgi, qeh, List.replicate_one, ↓qn, ↓qa0, ↓reduceIte, List.length_cons, List.length_nil, List.getElem?_cons_zero, List.take_succ_cons, List.take_zero, zfe, List.drop_zero, List.nil_append, List.set_cons_zero, Nat.reduceAdd, Nat.reduceEqDiff, Nat.reduceMul, Nat.reduceLT, Nat.reduceLeDiff, Nat.reducePow, Int.cast_ofNat_Int, reduceCtorEq, decide_true, decide_false, zfc, Bool.and_true, zfa, and_self, and_true, ne_eq, zfb, zff, zfd, Nat.add_zero, Nat.lt_add_one, Nat.le_refl, Option.isSome_some, Option.isSome_none, eq_self, implies_true]
  · generalize hRB : List.map Evt.r (b :: B) = RB at *
    have nB : ¬ RB = [] := by rw [← hRB]; simp
    have lB : RB.length = (b :: B).length := by rw [← hRB]; simp
    have oB : qce 6 RB = true := by rw [← hRB]; exact qf1 _
    have loB : ∀ n, qiz n RB = true := fun n => by rw [← hRB]; exact qaa n _
    obtain ⟨xt, xk, xl, xi, xp, xa⟩ := x
    simp only [List.nil_append, List.length_nil, List.map_nil, Int.ofNat_zero, hRB, Nat.sub_zero, List.drop_zero] at *
    generalize hrb : (b :: B).length = nb at *
    simp only [qg0, Int.toNat_natCast, k1, k3, k5, k6, k7, c1, c2, tk, b1, b2, b3, ta, ta2, ta3, tb, okAB, imp_self, n2, Int.le_refl, Nat.sub_zero, nB, lB, loB, qbg, Int.toNat_zero, Evt.r, qx, qk, Ev.exec, qb, qe, qc, qah, qn4, Ev.Opnd.ev, Ev.Env.get, Ev.Env.set, Ev.look, ql, qf0, qf, qbt, qv, qfz, Ev.AV.cells, qo, Ev.AV.plain, qj, qs, qak, Ev.kill, qai, qr, Ev.keep, qal, qad, qg, qbc, qm, qbh, qdn, qh, qd, qbg, qbf, qac, qg8, qe1, qgi, qeh, List.replicate_one, ↓qn, ↓qa0, ↓reduceIte, List.length_cons, List.length_nil, List.getElem?_cons_zero, List.take_succ_cons, List.take_zero, zfe, List.drop_zero, List.cons_append, List.nil_append, List.set_cons_zero, Nat.reduceAdd, Nat.reduceEqDiff, Nat.reduceMul, Nat.reduceLT, Nat.reduceLeDiff, Nat.reducePow, reduceCtorEq, decide_true, decide_false, zfc, Bool.and_true, zfa, and_self, and_true, ne_eq, zfb, zff, zfd, Nat.add_zero, Nat.lt_add_one, Nat.le_refl, Option.isSome_some, Option.isSome_none, eq_self, implies_true]
  · generalize hRA : List.map Evt.r (a :: A) = RA at *
    have nA : ¬ RA = [] := by rw [← hRA]; simp
    have lA : RA.length = (a :: A).length := by rw [← hRA]; simp
    have oA : qce 6 RA = true := by rw [← hRA]; exact qf1 _
    have loA : ∀ n, qiz n RA = true := fun n => by rw [← hRA]; exact qaa n _
    obtain ⟨xt, xk, xl, xi, xp, xa⟩ := x
    simp only [List.append_nil, List.length_nil, List.map_nil, hRA, Nat.add_zero, Nat.sub_self] at *
    generalize hra : (a :: A).length = na at *
    simp only [qg0, Int.toNat_natCast, k1, k3, k5, k6, k7, c1, c2, tk, dr, b1, b2, ta2, tb, okAB, imp_self, Int.le_refl, Nat.sub_zero, nA, lA, loA, qbg, zfe, qjj, Evt.r, qx, qk, Ev.exec, qb, qe, qc, qah, qn4, Ev.Opnd.ev, Ev.Env.get, Ev.Env.set, Ev.look, ql, qf0, qf, qbt, qv, qfz, Ev.AV.cells, qo, Ev.AV.plain, qj, qs, qak, Ev.kill, qai, qr, Ev.keep, qal, qad, qg, qbc, qm, qbh, qdn, qh, qd, qu, qaj, qbg, qbf, qg8, qe1, List.replicate_one, ↓qn, ↓qa0, ↓reduceIte, List.length_cons, List.length_nil, List.length_append, List.getElem?_cons_zero, List.take_succ_cons, List.take_zero, zfe, List.drop_zero, List.nil_append, List.set_cons_zero, Nat.reduceAdd, Nat.reduceEqDiff, Nat.reduceMul, Nat.reduceLT, Nat.reduceLeDiff, Nat.reducePow, Int.reduceToNat, reduceCtorEq, decide_true, decide_false, zfc, Bool.and_true, zfa, and_self, and_true, ne_eq, zfb, zff, zfd, Nat.add_zero, Nat.lt_add_one, Nat.le_refl, Option.isSome_some, Option.isSome_none, eq_self, implies_true]
  · generalize hRA : List.map Evt.r (a :: A) = RA at *
    generalize hRB : List.map Evt.r (b :: B) = RB at *
    have nA : ¬ RA = [] := by rw [← hRA]; simp
    have nB : ¬ RB = [] := by rw [← hRB]; simp
    have lA : RA.length = (a :: A).length := by rw [← hRA]; simp
    have lB : RB.length = (b :: B).length := by rw [← hRB]; simp
    have oA : qce 6 RA = true := by rw [← hRA]; exact qf1 _
    have oB : qce 6 RB = true := by rw [← hRB]; exact qf1 _
    have loA : ∀ n, qiz n RA = true := fun n => by rw [← hRA]; exact qaa n _
    have loB : ∀ n, qiz n RB = true := fun n => by rw [← hRB]; exact qaa n _
    generalize hra : (a :: A).length = na at *
    generalize hrb : (b :: B).length = nb at *
    generalize (a :: A) ++ (b :: B) = AB at *
    obtain ⟨xt, xk, xl, xi, xp, xa⟩ := x
    simp only [qg0, Int.toNat_natCast, k1, k3, k5, k6, k7, c1, c2, tk, dr, b1, b2, b3, ta, ta2, ta3, tb, okAB, imp_self, n1, List.append_assoc, Int.le_refl, Nat.sub_zero, nA, nB, lA, lB, oA, oB, loA, loB, qjj, Evt.r, qaa, qx, qk, Ev.exec, qb, qe, qc, qah, qn4, Ev.Opnd.ev, Ev.Env.get, Ev.Env.set, Ev.look, ql, qf0, qf, qbt, qv, qfz, Ev.AV.cells, qo, Ev.AV.plain, qj, qs, qak, Ev.kill, qai, qr, Ev.keep, qal, qad, qg, qbc, qm, qbh, qdn, qh, qd, qaj, qbg, qbf, qg8, qe1, List.replicate_one, List.length_map, ↓qn, ↓qa0, ↓reduceIte, List.length_cons, List.length_nil, List.length_append, List.getElem?_cons_zero, List.take_succ_cons, List.take_zero, zfe, List.drop_zero, List.cons_append, List.nil_append, List.set_cons_zero, Nat.reduceAdd, Nat.reduceEqDiff, Nat.reduceMul, Nat.reduceLT, Nat.reduceLeDiff, Nat.reducePow, Int.reduceToNat, reduceCtorEq, decide_true, decide_false, zfc, Bool.and_true, zfa, and_self, and_true, ne_eq, zfb, zff, zfd, Nat.lt_add_one, Nat.le_refl, Option.isSome_some, Option.isSome_none, eq_self, implies_true]
theorem qx5 (hl : l.length ≤ 1000000) (hk : qg4 l) (kx : x.key.length ≤ 9223372036854775807) (hs : l.Pairwise leE) (hd : qud (x :: l)) : qa7 (evL T) qfn [(.fsl ((l).map Evt.r) c), (.agg [(ii x.time), (.fsl ((x.key).map qbz) false), (ii x.lp), (ii x.kind), (ii x.proc), (ii x.arg)])] = some (.fsl ((qgx (x :: l)).map Evt.r) false) := by
  obtain ⟨k, hA, h⟩ := qwa l c x hl hk kx
  rw [hA.eq hs hd] at h
  exact h
end
open Go.Ev
set_option maxRecDepth 10000
theorem qud.sub {l m : List Evt} (h : qud m) (s : l.Sublist m) : qud l := List.Pairwise.sublist s h
theorem qz5 {l m : List Evt} (hd : qud m) (hp : l.Perm m) : qgx l = qgx m := qp4 hd ((qek l).trans hp) (qgl l)
theorem q1q (l : List Evt) : (qgx l).length = l.length := (qek l).length_eq
section
variable (l m : List Evt) (c d : Bool)
end
def qgu (l : List Evt) (k : List Int) : List Evt × Bool := (l.eraseP (fun e => decide (e.key = k)), l.any (fun e => decide (e.key = k)))
section
variable (l : List Evt) (c : Bool) (k : List Int) (d : Bool)
theorem q6y {i : Nat} {x : Evt} (h : l[i]? = some x) (hx : x.key = k) (hb : ∀ (j : Nat) (z : Evt), j < i → l[j]? = some z → ¬ z.key = k) : qgu l k = (l.take i ++ l.drop (i + 1), true) := by
  unfold qgu
  have hany : l.any (fun e => decide (e.key = k)) = true := List.any_eq_true.2 ⟨x, List.mem_of_getElem? h, by simpa using hx⟩
  rw [hany]
  obtain ⟨hi, hxe⟩ := List.getElem?_eq_some_iff.1 h
  have hsplit : l = l.take i ++ x :: l.drop (i + 1) := by
    rw [← hxe]; simp
  congr 1
  conv => lhs; rw [hsplit]
  rw [List.eraseP_append_right _ (fun z hz => by
    obtain ⟨j, hj⟩ := List.mem_iff_getElem?.1 hz
    rw [List.getElem?_take] at hj
    split at hj
    · simpa using hb j z (by omega) hj
    · cases hj)]
  rw [List.eraseP_cons_of_pos (by simpa using hx)]
theorem q2k (h : ∀ x ∈ l, ¬ x.key = k) : qgu l k = (l, false) := by
  unfold qgu
  rw [List.eraseP_of_forall_not (fun x hx => by simpa using h x hx)]
  congr 1
  rw [List.any_eq_false]
  exact fun x hx => by simpa using h x hx
end
open Go.Ev
set_option maxRecDepth 10000
theorem qtf {α : Type} [DecidableEq α] : ∀ {a b : List α}, a.length = b.length → ((a.zip b).all (fun z => decide (z.1 = z.2)) = true ↔ a = b)
  | [], [], _ => by simp
  | x :: a, y :: b, h => by
    rw [List.zip_cons_cons, List.all_cons, Bool.and_eq_true, decide_eq_true_eq, qtf (a := a) (b := b) (by simpa using h), List.cons.injEq]
  | [], _ :: _, h => by simp at h
  | _ :: _, [], h => by simp at h
section
variable (a b : List Int) (c d : Bool)
theorem qyo (hab : a.length = b.length) (hl : a.length ≤ 9223372036854775807) :
    ∃ y, itB (exec (evL T) itL none qdh) (qr [0, 1, 12, 13] true 0) ⟨[(0, (.fsl ((a).map qbz) c)), (1, (.fsl ((b).map qbz) d)), (12, (ii a.length)), (13, (ii 0))], []⟩ [] = some y ∧ ((a.zip b).all (fun z => decide (z.1 = z.2)) = true ∧ (y.1 = .exit 0 ∧ y.2.1.marks = [] ∧ y.2.2 = []) ∨
      (a.zip b).all (fun z => decide (z.1 = z.2)) = false ∧ ∃ x, (a.zip b).find? (fun z => !decide (z.1 = z.2)) = some x ∧ (y.1 = .ret ∧ y.2.1.marks = [] ∧ y.2.2 = [] ∧ Ev.look y.2.1.vars 4 = some (bb false))) := by
  have hzl : (a.zip b).length = a.length := by rw [List.length_zip, ← hab, Nat.min_self]
  refine qhl (a.zip b) (fun i => ⟨[(0, (.fsl ((a).map qbz) c)), (1, (.fsl ((b).map qbz) d)), (12, (ii a.length)), (13, (ii i))], []⟩) [] (fun z => decide (z.1 = z.2)) _ (fun _ y => _) ?_ ?_ ?_
  · intro i x hi hx hp
    rw [hzl] at hi
    have hi' : (i : Int) < (a.length : Int) := by omega
    have hw : IntKind.i64.wrap ((i : Int) + 1) = ((i + 1 : Nat) : Int) := by rw [qar (by omega) (by omega)]; simp
    obtain ⟨hxa, hxb⟩ := List.getElem?_zip_eq_some.1 hx
    have hp' := of_decide_eq_true hp
    simp only [qdh, Int.natCast_nonneg, Int.toNat_natCast, List.getElem?_map, Option.map_some, hxa, hxb, hi', hw, hp', qx, qbz, Ev.exec, qb, qe, qc, qah, Ev.Opnd.ev, Ev.Env.get, Ev.Env.set, Ev.look, qf, qv, qap, qbu, qi, qr, Ev.keep, qal, qad, qg, qbc, qm, ↓qn, Ev.it1, ↓reduceIte, List.length_cons, List.length_nil, zfe, List.head?_cons, Nat.reduceEqDiff, reduceCtorEq, decide_true, decide_false, zfc, zfa, and_self, ne_eq, not_true_eq_false, zfd, eq_self]
  · intro i x hi hx hp
    rw [hzl] at hi
    have hi' : (i : Int) < (a.length : Int) := by omega
    obtain ⟨hxa, hxb⟩ := List.getElem?_zip_eq_some.1 hx
    have hp' : ¬ x.1 = x.2 := of_decide_eq_false hp
    simp only [qdh, Int.natCast_nonneg, Int.toNat_natCast, List.getElem?_map, Option.map_some, hxa, hxb, hi', hp', qbz, Ev.exec, qb, qe, qc, qah, Ev.Opnd.ev, Ev.Env.get, Ev.Env.set, Ev.look, qf, qv, qbu, qi, ↓qn, Ev.it1, ↓reduceIte, List.length_cons, List.length_nil, List.head?_cons, Nat.reduceEqDiff, reduceCtorEq, decide_true, zfa, ne_eq, zfb, zfd, eq_self]
    exact ⟨_, rfl, rfl, rfl, rfl, rfl⟩
  · rw [hzl]
    simp only [qdh, Int.lt_irrefl, Ev.exec, qb, qe, qc, qah, Ev.Opnd.ev, Ev.Env.get, Ev.Env.set, Ev.look, qi, ↓qn, Ev.it1, ↓reduceIte, Nat.reduceEqDiff, reduceCtorEq, decide_false, zfa, eq_self]
    exact ⟨_, rfl, rfl, rfl, rfl⟩
theorem qqg (hl : a.length ≤ 9223372036854775807) (hl2 : b.length ≤ 9223372036854775807) : qa7 (evL T) qcj [(.fsl ((a).map qbz) c), (.fsl ((b).map qbz) d)] = some (bb (decide (a = b))) := by
  rw [qa7, qae qnm qm2]
  by_cases hab : a.length = b.length
  · have hab' : (a.length : Int) = (b.length : Int) := by omega
    obtain ⟨⟨y, e, σ⟩, k1, k2⟩ := qyo a b c d hab hl
    simp only at k2
    rcases k2 with ⟨k3, rfl, k4, rfl⟩ | ⟨k3, x, _, rfl, k4, rfl, k5⟩
    · have : a = b := (qtf hab).1 k3
      rw [hab'] at k1
      simp only [qdf, this, qx, qk, Ev.exec, qb, qe, qc, qah, Ev.Opnd.ev, Ev.Env.get, Ev.Env.set, Ev.look, ql, qbu, qj, qs, qak, qai, qr, Ev.keep, qal, qad, qg, qbc, qm, List.length_map, ↓qn, ↓qa0, ↓reduceIte, List.length_cons, List.length_nil, List.take_zero, zfe, Nat.reduceAdd, Nat.reduceEqDiff, reduceCtorEq, decide_true, decide_false, zfc, zfa, and_self, and_true, ne_eq, not_true_eq_false, zfd, eq_self]
      subst this
      simp only [k1, k4, Ev.look, Ev.kill, qbc, qac, ↓reduceIte, eq_self]
    · have : ¬ a = b := fun h => by rw [(qtf hab).2 h] at k3; cases k3
      simp only [this]
      rw [hab'] at k1
      simp only [qdf, hab', k1, k4, k5, qx, qk, Ev.exec, qb, qe, qc, qah, Ev.Opnd.ev, Ev.Env.get, Ev.Env.set, Ev.look, ql, qbu, qj, qs, qak, Ev.kill, qai, qr, Ev.keep, qal, qad, qg, qbc, qm, qac, List.length_map, ↓qn, ↓qa0, ↓reduceIte, List.length_cons, List.length_nil, zfe, Nat.reduceAdd, Nat.reduceEqDiff, reduceCtorEq, decide_false, zfc, zfa, and_self, ne_eq, not_true_eq_false, zfd, eq_self]
  · have hab' : ¬ (a.length : Int) = (b.length : Int) := by omega
    have : ¬ a = b := fun h => hab (by rw [h])
    simp only [qdf, hab', this, qk, Ev.exec, qb, qe, qc, qah, Ev.Opnd.ev, Ev.Env.get, Ev.Env.set, Ev.look, ql, qbu, qj, qs, qak, Ev.kill, qai, qg, qbc, qac, List.length_map, ↓qn, ↓reduceIte, List.length_cons, List.length_nil, zfe, Nat.reduceAdd, Nat.reduceEqDiff, reduceCtorEq, decide_true, decide_false, and_self, ne_eq, zfb, zfd, eq_self]
end
open Go.Ev
mutual
theorem qy4 {n m : Nat} (h : n ≤ m) : ∀ (a : AV), a.lo n = true → a.lo m = true
  | .v _, _ => by simp only [AV.lo]
  | .agg cs, k => by simp only [AV.lo] at k ⊢; exact qox h cs k
  | .tup cs, k => by simp only [AV.lo] at k ⊢; exact qox h cs k
  | .fsl es _, k => by simp only [AV.lo] at k ⊢; exact qww h es k
  | .fptr cs, k => by simp only [AV.lo] at k ⊢; exact qox h cs k
  | .sl o _ _ _ _, k => by simp only [AV.lo, decide_eq_true_eq] at k ⊢; omega
  | .ptr o _ _ _, k => by simp only [AV.lo, decide_eq_true_eq] at k ⊢; omega
  | .fn _ a b, k => by simp only [AV.lo, Bool.and_eq_true] at k ⊢; exact ⟨qox h a k.1, qox h b k.2⟩
  | .yld o, k => by simp only [AV.lo, decide_eq_true_eq] at k ⊢; omega
  | .mp o, k => by simp only [AV.lo, decide_eq_true_eq] at k ⊢; omega
theorem qox {n m : Nat} (h : n ≤ m) : ∀ (l : List AV), los n l = true → los m l = true
  | [], _ => by simp only [los]
  | a :: l, k => by simp only [los, Bool.and_eq_true] at k ⊢; exact ⟨qy4 h a k.1, qox h l k.2⟩
theorem qww {n m : Nat} (h : n ≤ m) : ∀ (es : List (List AV)), qiz n es = true → qiz m es = true
  | [], _ => by simp only [qiz]
  | a :: l, k => by simp only [qiz, Bool.and_eq_true] at k ⊢; exact ⟨qox h a k.1, qww h l k.2⟩
end
theorem qxj {n m : Nat} (h : n ≤ m) : ∀ (l : List (Nat × AV)), qal n l = true → qal m l = true
  | [], _ => by simp only [qal]
  | (_, a) :: r, k => by simp only [qal, Bool.and_eq_true] at k ⊢; exact ⟨qy4 h a k.1, qxj h r k.2⟩
theorem q2x {n m : Nat} (h : n ≤ m) (o : SObj) (k : o.lo n = true) : o.lo m = true := by
  cases o <;> simp only [SObj.lo] at k ⊢
  · exact qww h _ k
  · exact qxj h _ k
open Go.Ev
set_option maxRecDepth 10000
def qez : List (Int × AV) := [(1, .fn (.func qb2) [] []), (2, .fn (.func qb3) [] []), (3, .fn (.func qbx) [] []), (4, .fn (.func qbr) [] []), (5, .fn (.func qby) [] []), (6, .fn (.func qb8) [] []), (7, .fn (.func qb4) [] []), (8, .fn (.func qb9) [] [])]
section
variable (a0 a1 a2 : Int) (am : Nat) (x : Ex) (gp gc gg : Nat)
theorem qqm (i : Nat) (hi : x.ev.proc = i) (hp : i < x.procs.length) :
    (evL T).call qao [.ptr 5 0 0 0] [.row 4 [[(ii a0), (ii a1), .sl 2 0 0 am false, (ii a2)]] 0, .row 4 [[(ii 0), (ii 0), .fsl [] false, (ii 0)]] 0, .row 4 ((x.procs).map Pr.r) gp, .row 6 ((x.out).map Evt.r) gc, .row 1 ((x.gone).map qel) gg, .row 14 [[(ii x.r0), (ii x.r1), .sl 2 gp 0 x.procs.length false, (ii x.sum), (ii x.ev.time), (.fsl ((x.ev.key).map qbz) false), (ii x.ev.lp), (ii x.ev.kind), (ii x.ev.proc), (ii x.ev.arg), .sl 3 gc 0 x.out.length false, (ii x.n), .sl 4 gg 0 x.gone.length false, (bb x.over)]] 0, .mp .i64 qez] = some (.ptr 2 gp i 0, [.row 4 [[(ii a0), (ii a1), .sl 2 0 0 am false, (ii a2)]] 0, .row 4 [[(ii 0), (ii 0), .fsl [] false, (ii 0)]] 0, .row 4 ((x.procs).map Pr.r) gp, .row 6 ((x.out).map Evt.r) gc, .row 1 ((x.gone).map qel) gg, .row 14 [[(ii x.r0), (ii x.r1), .sl 2 gp 0 x.procs.length false, (ii x.sum), (ii x.ev.time), (.fsl ((x.ev.key).map qbz) false), (ii x.ev.lp), (ii x.ev.kind), (ii x.ev.proc), (ii x.ev.arg), .sl 3 gc 0 x.out.length false, (ii x.n), .sl 4 gg 0 x.gone.length false, (bb x.over)]] 0, .mp .i64 qez]) := by
  rw [qae qjk qi8]
  simp only [qd3, hi, hp, Int.natCast_nonneg, Int.toNat_natCast, qx, qag, qaa, qbm, Nat.reduceLT, qk, Ev.exec, qb, qe, qc, qah, Ev.Opnd.ev, Ev.Env.get, Ev.Env.set, Ev.look, ql, qf, qv, qj, qs, qak, Ev.kill, qai, qg, Ev.SObj.lo, qbc, qm, qdn, qg1, qh, qd, qu, qaj, ↓qn, ↓reduceIte, List.length_cons, List.length_nil, List.getElem?_cons_zero, List.getElem?_cons_succ, List.take_succ_cons, zfe, List.drop_succ_cons, List.drop_zero, List.head?_cons, Nat.reduceAdd, Nat.reduceEqDiff, Nat.reduceLT, reduceCtorEq, decide_true, zfc, zfa, and_self, zfd, Nat.add_zero, eq_self]
theorem q7h (k p a : Int) : (evL T).call qb6 [.ptr 5 0 0 0, (ii k), (ii p), (ii a)] [.row 4 [[(ii a0), (ii a1), .sl 2 0 0 am false, (ii a2)]] 0, .row 4 [[(ii 0), (ii 0), .fsl [] false, (ii 0)]] 0, .row 4 ((x.procs).map Pr.r) gp, .row 6 ((x.out).map Evt.r) gc, .row 1 ((x.gone).map qel) gg, .row 14 [[(ii x.r0), (ii x.r1), .sl 2 gp 0 x.procs.length false, (ii x.sum), (ii x.ev.time), (.fsl ((x.ev.key).map qbz) false), (ii x.ev.lp), (ii x.ev.kind), (ii x.ev.proc), (ii x.ev.arg), .sl 3 gc 0 x.out.length false, (ii x.n), .sl 4 gg 0 x.gone.length false, (bb x.over)]] 0, .mp .i64 qez] = some (.agg [(ii 0), .fsl [] false, (ii x.ev.lp), (ii k), (ii p), (ii a)], [.row 4 [[(ii a0), (ii a1), .sl 2 0 0 am false, (ii a2)]] 0, .row 4 [[(ii 0), (ii 0), .fsl [] false, (ii 0)]] 0, .row 4 ((x.procs).map Pr.r) gp, .row 6 ((x.out).map Evt.r) gc, .row 1 ((x.gone).map qel) gg, .row 14 [[(ii x.r0), (ii x.r1), .sl 2 gp 0 x.procs.length false, (ii x.sum), (ii x.ev.time), (.fsl ((x.ev.key).map qbz) false), (ii x.ev.lp), (ii x.ev.kind), (ii x.ev.proc), (ii x.ev.arg), .sl 3 gc 0 x.out.length false, (ii x.n), .sl 4 gg 0 x.gone.length false, (bb x.over)]] 0, .mp .i64 qez]) := by
  rw [qae qng qm0]
  simp only [qff, qx, qag, qaa, qbm, Nat.reduceLT, Nat.reduceLeDiff, qk, Ev.exec, qb, qe, qc, qah, Ev.Opnd.ev, Ev.Env.get, Ev.Env.set, Ev.look, ql, qf, qv, qfs, Ev.AV.cells, Ev.AV.uc, qo, Ev.AV.plain, qj, qs, qak, Ev.kill, qai, qg, Ev.SObj.lo, qbc, qa2, qm, qdn, qh, qd, qu, qaj, ↓qn, ↓reduceIte, List.length_cons, List.length_nil, List.getElem?_cons_zero, List.getElem?_cons_succ, List.take_succ_cons, List.take_zero, zfe, List.drop_succ_cons, List.drop_zero, List.drop_nil, List.cons_append, List.nil_append, List.append_nil, List.set_cons_zero, List.set_cons_succ, List.head?_cons, Nat.reduceAdd, Nat.reduceEqDiff, Nat.reduceLT, Nat.reduceLeDiff, reduceCtorEq, decide_true, zfc, zfa, and_self, ne_eq, zfb, zff, zfd, Nat.le_refl, eq_self]
def qlc (x : Ex) (d : Int) (gc : Nat) : Nat := if w64 (x.ev.time + d) > 1152921504606846976 then gc else gc + 1
theorem qsn (h : x.Small) (d : Int) (t0 lp k p a : Int) (ks : List Int) :
    (evL T).call qbj [.ptr 5 0 0 0, (ii d), .agg [(ii t0), (.fsl ((ks).map qbz) false), (ii lp), (ii k), (ii p), (ii a)]] [.row 4 [[(ii a0), (ii a1), .sl 2 0 0 am false, (ii a2)]] 0, .row 4 [[(ii 0), (ii 0), .fsl [] false, (ii 0)]] 0, .row 4 ((x.procs).map Pr.r) gp, .row 6 ((x.out).map Evt.r) gc, .row 1 ((x.gone).map qel) gg, .row 14 [[(ii x.r0), (ii x.r1), .sl 2 gp 0 x.procs.length false, (ii x.sum), (ii x.ev.time), (.fsl ((x.ev.key).map qbz) false), (ii x.ev.lp), (ii x.ev.kind), (ii x.ev.proc), (ii x.ev.arg), .sl 3 gc 0 x.out.length false, (ii x.n), .sl 4 gg 0 x.gone.length false, (bb x.over)]] 0, .mp .i64 qez] = some ((.fsl ((x.kid).map qbz) false), [.row 4 [[(ii a0), (ii a1), .sl 2 0 0 am false, (ii a2)]] 0, .row 4 [[(ii 0), (ii 0), .fsl [] false, (ii 0)]] 0, .row 4 (((x.create d ⟨t0, ks, lp, k, p, a⟩).procs).map Pr.r) gp, .row 6 (((x.create d ⟨t0, ks, lp, k, p, a⟩).out).map Evt.r) (qlc x d gc), .row 1 (((x.create d ⟨t0, ks, lp, k, p, a⟩).gone).map qel) gg, .row 14 [[(ii ((x.create d ⟨t0, ks, lp, k, p, a⟩).r0)), (ii ((x.create d ⟨t0, ks, lp, k, p, a⟩).r1)), .sl 2 gp 0 (x.create d ⟨t0, ks, lp, k, p, a⟩).procs.length false, (ii ((x.create d ⟨t0, ks, lp, k, p, a⟩).sum)), (ii ((x.create d ⟨t0, ks, lp, k, p, a⟩).ev.time)), (.fsl (((x.create d ⟨t0, ks, lp, k, p, a⟩).ev.key).map qbz) false), (ii ((x.create d ⟨t0, ks, lp, k, p, a⟩).ev.lp)), (ii ((x.create d ⟨t0, ks, lp, k, p, a⟩).ev.kind)), (ii ((x.create d ⟨t0, ks, lp, k, p, a⟩).ev.proc)), (ii ((x.create d ⟨t0, ks, lp, k, p, a⟩).ev.arg)), .sl 3 (qlc x d gc) 0 (x.create d ⟨t0, ks, lp, k, p, a⟩).out.length false, (ii ((x.create d ⟨t0, ks, lp, k, p, a⟩).n)), .sl 4 gg 0 (x.create d ⟨t0, ks, lp, k, p, a⟩).gone.length false, (bb ((x.create d ⟨t0, ks, lp, k, p, a⟩).over))]] 0, .mp .i64 qez]) := by
  have hk := qx4 x.ev.key false x.n h.key
  have hs : (x.out.length + 1) * 64 ≤ 140737488355328 := by have := h.out; omega
  have htl : List.take x.out.length (x.out.map Evt.r) = x.out.map Evt.r := List.take_of_length_le (by simp)
  have hlo : los 7 ([(ii x.r0), (ii x.r1), .sl 2 gp 0 x.procs.length false, (ii x.sum), (ii x.ev.time), (.fsl ((x.ev.key).map qbz) false), (ii x.ev.lp), (ii x.ev.kind), (ii x.ev.proc), (ii x.ev.arg), .sl 3 gc 0 x.out.length false, (ii x.n), .sl 4 gg 0 x.gone.length false, (bb x.over)]) = true := by simp only [qx, Nat.reduceLT, qbc, qm, qdn, qh, qd, Nat.reduceLT, decide_true, zfc, eq_self]
  rw [qae qlk qlf]
  unfold Ex.create qlc Ex.kid
  by_cases ho : w64 (x.ev.time + d) > 1152921504606846976
  · have ho' : IntKind.i64.wrap (x.ev.time + d) > 1152921504606846976 := ho
    simp only [ho, if_true]
    simp only [qdi, hk, ho', qx, qag, qaa, qbm, Nat.reduceLT, Nat.reduceLeDiff, qk, Ev.exec, qb, qe, qc, qa5, qah, Ev.evs, Ev.Opnd.ev, Ev.Env.get, Ev.Env.set, Ev.look, ql, qf, qv, Ev.AV.cells, Ev.AV.uc, qo, Ev.AV.plain, qap, qbb, qj, qs, qak, Ev.kill, qai, qg, Ev.SObj.lo, qbc, qm, qdn, qh, qd, qu, qaj, ↓qn, ↓reduceIte, List.length_cons, List.length_nil, List.getElem?_cons_zero, List.getElem?_cons_succ, List.take_succ_cons, List.take_zero, List.drop_succ_cons, List.drop_zero, List.drop_nil, List.cons_append, List.nil_append, List.append_nil, List.set_cons_zero, List.set_cons_succ, List.head?_cons, Nat.reduceAdd, Nat.reduceEqDiff, Nat.reduceLT, Nat.reduceLeDiff, reduceCtorEq, decide_true, zfc, zfa, and_self, ne_eq, zfb, zff, zfd, Nat.add_zero, Nat.le_refl, eq_self]
    done
  · have ho' : ¬ IntKind.i64.wrap (x.ev.time + d) > 1152921504606846976 := ho
    simp only [ho, if_false]
    have hr : ∀ e : Evt, (x.out ++ [e]).map Evt.r = x.out.map Evt.r ++ [e.r] := fun e => by rw [List.map_append]; rfl
    simp only [qdi, hk, ho', hs, htl, hr, qjj, Evt.r, qx, qag, qaa, qbm, Nat.reduceLT, Nat.reduceLeDiff, qk, Ev.exec, qb, qe, qc, qa5, qah, qn4, Ev.evs, Ev.Opnd.ev, Ev.Env.get, Ev.Env.set, Ev.look, ql, qf, qbt, qv, qfz, Ev.AV.cells, Ev.AV.uc, qo, Ev.AV.plain, qap, qbb, qj, qs, qak, Ev.kill, qai, qg, Ev.SObj.lo, qbc, qm, qdn, qh, qd, qu, qaj, qbg, qbf, List.replicate_one, List.length_map, ↓qn, ↓reduceIte, List.length_cons, List.length_nil, List.length_append, List.getElem?_cons_zero, List.getElem?_cons_succ, List.take_succ_cons, List.take_zero, zfe, List.drop_succ_cons, List.drop_zero, List.cons_append, List.nil_append, List.set_cons_zero, List.set_cons_succ, List.head?_cons, Nat.reduceAdd, Nat.reduceEqDiff, Nat.reduceMul, Nat.reduceLT, Nat.reduceLeDiff, Nat.reducePow, reduceCtorEq, decide_true, decide_false, zfc, zfa, and_self, ne_eq, zfb, zff, zfd, Nat.add_zero, Nat.lt_add_one, Nat.le_refl, eq_self]
    done
end
end Go.Proofs.Ytbhhifdhlafklaa.K
