/- For every input the statement of this claim returns true: texts of its proof, joined (part 7). -/
import Derived.Test.YtbhhifdhlafklaaProg
import Derived.KernelRfl
import Derived.Test.YtbhhifdhlafklaaEWT3
import Derived.Test.YtbhhifdhlafklaaSKWT
set_option linter.unusedSectionVars false
set_option linter.unusedSimpArgs false
set_option linter.unusedVariables false
namespace Go.Proofs.Ytbhhifdhlafklaa.K
open Go.Ev
set_option maxRecDepth 100000
theorem qq8 : qf6 Try.prog { frz := [4], appN := [134, 143], appZ := [136, 145] } qen = some qcm := by kernel_rfl
theorem q0e : qf6 Try.prog {  } qi5 = some qqk := by kernel_rfl
theorem q3m : qf6 Try.prog { frz := [1] } qku = some qqu := by kernel_rfl
theorem qyn : qf6 Try.prog { frz := [2] } qhy = some qlo := by kernel_rfl
theorem qxy : qf6 Try.prog { frzv := [27], own := [4], loops := [([4, 7, 8, 9], true)] } qeq = some qj0 := by kernel_rfl
theorem qui : qf6 Try.prog { frz := [2] } qdv = some qj5 := by kernel_rfl
theorem qt4 : qf6 Try.prog { frz := [4, 5], mI := [21, 26, 28], ownB := [(17, (5, 6)), (17, (6, 6))], loops := [([4, 13], true)] } qdg = some qj4 := by kernel_rfl
theorem qtb : qf6 Try.prog { frz := [2, 3] } qem = some qc2 := by kernel_rfl
theorem qul : qf6 Try.prog { mA := [12], mF := [53], topZ := [15], ownS := [(15, 6)], appB := [(33, 8)], ldB := [(25, 8)], loops := [([5, 6, 17, 18, 19], true), ([5, 36, 37, 38], true)] } qfh = some qlg := by kernel_rfl
theorem qx0 : qf6 Try.prog { frz := [2, 3], loops := [([2, 3, 5], true)] } qg4 = some qer := by kernel_rfl
theorem qr5 : qf6 Try.prog { loops := [([0, 1, 5], true)] } qc7 = some qe9 := by kernel_rfl
theorem q0f : qf6 Try.prog {  } qkc = some qql := by kernel_rfl
theorem qxg : qf6 Try.prog { mF := [9] } qip = some qnj := by kernel_rfl
theorem qvs : qf6 Try.prog { frz := [1], frzv := [41], own := [3], loops := [([1, 3, 4], true), ([1, 3, 4, 5], true)] } qey = some qkq := by kernel_rfl
theorem qwt : qf6 Try.prog { frz := [1], own := [3], topZ := [5], loops := [([1, 3, 4], false), ([1, 3, 4, 5, 6], false)] } qfu = some qk1 := by kernel_rfl
theorem qzb : qf6 Try.prog { frz := [1], loops := [([1, 3, 4, 5], true), ([1, 3, 4, 6], true), ([1, 3, 4, 6, 7], true)] } qhw = some qfo := by kernel_rfl
theorem qt8 : qf6 Try.prog { frz := [2], loops := [([1, 2, 4, 5], true)] } qfe = some qj1 := by kernel_rfl
theorem qyx : qf6 Try.prog { own := [5], loops := [([0, 1, 5, 6], true), ([0, 1, 5, 6, 7, 8], true)] } qh1 = some qlt := by kernel_rfl
theorem qpi : qf6 Try.prog { bad := true, loops := [([0, 3, 4], true)] } qde = some qgw := by kernel_rfl
theorem qn5 : qf6 Try.prog { frz := [2, 3] } qc0 = some qfq := by kernel_rfl
theorem qno : qf6 Try.prog { frz := [4, 5], loops := [([0, 5, 8, 50, 51, 52], true), ([0, 81, 82, 83], true)] } qcs = some qeb := by kernel_rfl
theorem qn7 : qf6 Try.prog { ldx := [(14, 2), (18, 2), (22, 2), (26, 2)] } qcz = some qfr := by kernel_rfl
theorem qpm : qf6 Try.prog { frz := [2, 3] } qcw = some qeu := by kernel_rfl
theorem qvz : qf6 Try.prog {  } qdt = some qi8 := by kernel_rfl
theorem qh4 : qf6 Try.prog { mA := [24], bad := true, loops := [([0, 3, 9, 10, 11], true), ([6, 25, 26, 27], false)] } qaq = some qcc := by kernel_rfl
theorem qvx : qf6 Try.prog { mA := [8], mI := [9] } qhf = some qmf := by kernel_rfl
theorem qry : qf6 Try.prog { frzv := [49], own := [6], loops := [([0, 3, 4], true), ([0, 3, 4, 5], true)] } qc9 = some qix := by kernel_rfl
theorem qy4 : qf6 Try.prog { frz := [1], loops := [([1, 3], true), ([1, 4], true)] } qh7 = some qgp := by kernel_rfl
theorem qy9 : qf6 Try.prog { frz := [1], loops := [([1, 3], true), ([1, 5], true), ([1, 5, 6], true)] } qh6 = some qgt := by kernel_rfl
theorem qyk : qf6 Try.prog { frz := [1], topZ := [9], loops := [([1, 2, 3, 4], false)] } qh2 = some qly := by kernel_rfl
theorem qyi : qf6 Try.prog { frz := [2], appN := [21, 28, 57, 69], frzv := [36, 38, 63, 73] } qg1 = some qjz := by kernel_rfl
theorem qxl : qf6 Try.prog { frz := [3], own := [6], loops := [([0, 3, 5], true)] } qfw = some qg0 := by kernel_rfl
theorem qms : qf6 Try.prog { loops := [([0, 1, 2], true)] } qca = some qdq := by kernel_rfl
theorem qw0 : qf6 Try.prog { mA := [20] } qg3 = some qir := by kernel_rfl
theorem qya : qf6 Try.prog { frz := [3, 5], mA := [52], mI := [59, 82, 88], ldF := [80], ldx := [(96, 6), (100, 6), (104, 6)], ownB := [(56, (10, 6)), (56, (12, 1))] } qdr = some qbr := by kernel_rfl
theorem qup : qf6 Try.prog { frz := [3], mA := [14], mI := [18] } qek = some qj2 := by kernel_rfl
theorem que : qf6 Try.prog { frz := [3], mA := [21], mI := [9] } qfj = some qij := by kernel_rfl
theorem qvm : qf6 Try.prog {  } qeg = some qhk := by kernel_rfl
theorem qq6 : qf6 Try.prog { loops := [([0, 1, 5], true)] } qdb = some qf3 := by kernel_rfl
theorem qis : qf6 Try.prog { bad := true } qav = some qbw := by kernel_rfl
theorem qk3 : qf6 Try.prog { mI := [4] } qch = some qfi := by kernel_rfl
theorem qt5 : qf6 Try.prog {  } qgc = some qlh := by kernel_rfl
theorem qsj : qf6 Try.prog { mA := [5], mI := [7] } qfb = some qkj := by kernel_rfl
theorem qyu : qf6 Try.prog { frz := [1], loops := [([1, 3], true)] } qhq = some qdu := by kernel_rfl
theorem qyo : qf6 Try.prog { loops := [([0, 1, 2, 3, 9], true), ([0, 2, 3, 10], true), ([0, 3, 11], true)] } qhv = some qgv := by kernel_rfl
theorem q0d : qf6 Try.prog { frz := [3, 4, 5], ldx := [(96, 6), (98, 6), (100, 6)] } qex = some qb0 := by kernel_rfl
theorem qv9 : qf6 Try.prog { own := [5], loops := [([0, 1, 5, 6], true), ([0, 1, 5, 6, 7, 8], true)] } qf4 = some qkl := by kernel_rfl
theorem qnm : qf6 Try.prog {  } qap = some qd6 := by kernel_rfl
theorem qoe : qf6 Try.prog { loops := [([0, 1, 12, 13], true)] } qcj = some qdi := by kernel_rfl
theorem qld : qf6 Try.prog { mA := [6], mI := [10, 19, 44, 49], loops := [([0, 1, 4, 7], true)] } qb9 = some qc8 := by kernel_rfl
theorem qd7 : qf6 Try.prog { frz := [4], loops := [([0, 2, 4, 8, 9, 10], true)] } qac = some qan := by kernel_rfl
theorem qpo : qf6 Try.prog { frz := [2, 3] } qa5 = some qgm := by kernel_rfl
theorem qg8 : qf6 Try.prog { loops := [([0, 1, 7, 8], true)] } qat = some qbo := by kernel_rfl
theorem qrx : qf6 Try.prog { frz := [2] } qcv = some qiy := by kernel_rfl
theorem qg7 : qf6 Try.prog { own := [2], loops := [([2], true)] } qa9 = some qcu := by kernel_rfl
theorem qsg : qf6 Try.prog { loops := [([0, 1, 2], true)] } qe5 = some qki := by kernel_rfl
theorem qf5 : qf6 Try.prog { mI := [8] } qay = some qcf := by kernel_rfl
theorem qy6 : qf6 Try.prog { loops := [([0, 3], true)] } qhz = some qh0 := by kernel_rfl
theorem qum : qf6 Try.prog { frz := [3] } qfg = some qdf := by kernel_rfl
theorem q1k : qf6 Try.prog { frz := [5], appN := [12], frzv := [17] } qd3 = some qoz := by kernel_rfl
theorem quk : qf6 Try.prog { frz := [3], loops := [([2, 3, 4, 6, 7], true)] } qff = some qgg := by kernel_rfl
theorem qou : qf6 Try.prog {  } qc6 = some qf7 := by kernel_rfl
theorem qyv : qf6 Try.prog {  } qhr = some qlx := by kernel_rfl
theorem qsw : qf6 Try.prog {  } qec = some qf1 := by kernel_rfl
theorem qra : qf6 Try.prog {  } qdz = some qh5 := by kernel_rfl
theorem qjv : qf6 Try.prog { mI := [18, 27, 43, 60], loops := [([0, 1, 2, 6, 7, 8], true), ([0, 1, 2, 6], true), ([0, 1, 2, 6, 7, 8], true)] } qbv = some qd1 := by kernel_rfl
theorem qyq : qf6 Try.prog {  } qes = some qlk := by kernel_rfl
theorem qy0 : qf6 Try.prog {  } qfn = some qln := by kernel_rfl
theorem q0o : qf6 Try.prog { frz := [5], appN := [134], frzv := [141] } qcy = some qc5 := by kernel_rfl
theorem qnr : qf6 Try.prog { frz := [3], mI := [14, 15], ldF := [7] } qb2 = some qfd := by kernel_rfl
theorem qn1 : qf6 Try.prog { frz := [3], mI := [13] } qb3 = some qe6 := by kernel_rfl
theorem qmw : qf6 Try.prog { frz := [3], mI := [7, 21, 22], mR := [9], ldF := [12] } qbx = some qet := by kernel_rfl
theorem qnq : qf6 Try.prog { frz := [3], mI := [7] } qbt = some qd5 := by kernel_rfl
theorem qmy : qf6 Try.prog { frz := [3], mI := [33, 34], ldF := [30] } qbz = some qdp := by kernel_rfl
theorem qn8 : qf6 Try.prog { frz := [3] } qb8 = some qef := by kernel_rfl
theorem qnv : qf6 Try.prog { frz := [3], mI := [17], ldF := [19] } qb4 = some qct := by kernel_rfl
theorem qn4 : qf6 Try.prog { frz := [3] } qb6 = some qfs := by kernel_rfl
theorem q01 : qf6 Try.prog { loops := [([3, 6, 7, 8], true)] } qjc = some qk5 := by kernel_rfl
theorem qv6 : qf6 Try.prog {  } qez = some qkk := by kernel_rfl
theorem qmr : qf6 Try.prog { loops := [([0, 1, 9, 10, 11], true)] } qck = some qcl := by kernel_rfl
theorem qhp : qf6 Try.prog { loops := [([0, 1, 2, 3, 8], true), ([0, 1, 2, 3, 8, 9], true)] } qa1 = some qc1 := by kernel_rfl
theorem qjm : qf6 Try.prog { mI := [191, 205, 219], loops := [([0, 1, 4, 10, 11], true), ([0, 10, 13], true), ([0, 2, 4, 14, 15], true), ([0, 14, 17], true), ([0, 1, 2, 3, 4, 18, 19, 20, 21, 22], true)] } qam = some qdm := by kernel_rfl
theorem qwz : qf6 Try.prog { appN := [36], frzv := [41], ldx := [(32, 6), (45, 6)] } qed = some qju := by kernel_rfl
theorem qs4 : qf6 Try.prog { appN := [8] } qd9 = some qjh := by kernel_rfl
theorem qma : qf6 Try.prog {  } qbj = some qdk := by kernel_rfl
theorem qoj : qf6 Try.prog {  } qb7 = some qfp := by kernel_rfl
theorem qjt : qf6 Try.prog { mI := [31, 46, 57], loops := [([0, 2, 4, 10, 11], true)] } qbi = some qdx := by kernel_rfl
theorem qyz : qf6 Try.prog { appN := [8] } qhu = some qlz := by kernel_rfl
theorem qyt : qf6 Try.prog { mA := [6] } qhx = some qlr := by kernel_rfl
theorem qjd : qf6 Try.prog { loops := [([0, 1, 2, 3, 10], true)] } qa0 = some qdj := by kernel_rfl
theorem qhd : qr0 Try.prog qb5 = some (1, 24) := by kernel_rfl
theorem qh3 : qr0 Try.prog qa6 = some (6, 64) := by kernel_rfl
theorem qj7 : qr0 Try.prog qci = some (4, 48) := by kernel_rfl
theorem qns : qr0 Try.prog qee = some (1, 8) := by kernel_rfl
theorem qhm : InsB Try.prog qbd 6 64 75 39 4 := ⟨by kernel_rfl, by kernel_rfl, by kernel_rfl, by kernel_rfl, by kernel_rfl, by kernel_rfl, by kernel_rfl, by kernel_rfl, by kernel_rfl, by kernel_rfl, by kernel_rfl, by kernel_rfl, by kernel_rfl, by kernel_rfl, by kernel_rfl, by kernel_rfl, by kernel_rfl, by kernel_rfl, by kernel_rfl, by kernel_rfl, by kernel_rfl, by kernel_rfl, by kernel_rfl, by kernel_rfl⟩
def codeL : List (Nat × CFunc) := [(qen, qcm), (qi5, qqk), (qku, qqu), (qhy, qlo), (qeq, qj0), (qdv, qj5), (qdg, qj4), (qem, qc2), (qfh, qlg), (qg4, qer), (qc7, qe9), (qkc, qql), (qip, qnj), (qey, qkq), (qfu, qk1), (qhw, qfo), (qfe, qj1), (qh1, qlt), (qde, qgw), (qc0, qfq), (qcs, qeb), (qcz, qfr), (qcw, qeu), (qdt, qi8), (qaq, qcc), (qhf, qmf), (qc9, qix), (qh7, qgp), (qh6, qgt), (qh2, qly), (qg1, qjz), (qfw, qg0), (qca, qdq), (qg3, qir), (qdr, qbr), (qek, qj2), (qfj, qij), (qeg, qhk), (qdb, qf3), (qav, qbw), (qch, qfi), (qgc, qlh), (qfb, qkj), (qhq, qdu), (qhv, qgv), (qex, qb0), (qf4, qkl), (qap, qd6), (qcj, qdi), (qb9, qc8), (qac, qan), (qa5, qgm), (qat, qbo), (qcv, qiy), (qa9, qcu), (qe5, qki), (qay, qcf), (qhz, qh0), (qfg, qdf), (qd3, qoz), (qff, qgg), (qc6, qf7), (qhr, qlx), (qec, qf1), (qdz, qh5), (qbv, qd1), (qes, qlk), (qfn, qln), (qcy, qc5), (qb2, qfd), (qb3, qe6), (qbx, qet), (qbt, qd5), (qbz, qdp), (qb8, qef), (qb4, qct), (qb6, qfs), (qjc, qk5), (qez, qkk), (qck, qcl), (qa1, qc1), (qam, qdm), (qed, qju), (qd9, qjh), (qbj, qdk), (qb7, qfp), (qbi, qdx), (qhu, qlz), (qhx, qlr), (qa0, qdj)]
def extL : List (Nat × (Nat × Nat)) := [(qb5, (1, 24)), (qa6, (6, 64)), (qci, (4, 48)), (qee, (1, 8))]
def insL : List (Nat × (Nat × Nat)) := [(qbd, (6, 64))]
def q3d {α : Type} : List (Nat × α) → Nat → Option α
  | [], _ => none
  | (k, x) :: l, i => if k = i then some x else q3d l i
theorem qtk {α : Type} : ∀ {l : List (Nat × α)} {i : Nat} {x : α}, q3d l i = some x → (i, x) ∈ l
  | [], _, _, h => by simp [q3d] at h
  | (k, y) :: l, i, x, h => by
    simp only [q3d] at h
    split at h
    · rename_i hk; subst hk; cases h; simp
    · exact List.mem_cons_of_mem _ (qtk h)
def T : Tab := { code := q3d codeL, ext := fun k => (q3d extL k).map fun p => qro p.1 p.2, ins := q3d insL }
theorem codeL_ok : ∀ x ∈ codeL, ∃ h, qf6 Try.prog h x.1 = some x.2 := by
  intro x hx
  simp only [codeL, List.mem_cons, List.not_mem_nil, or_false] at hx
  rcases hx with rfl | rfl | rfl | rfl | rfl | rfl | rfl | rfl | rfl | rfl | rfl | rfl | rfl | rfl | rfl | rfl | rfl | rfl | rfl | rfl | rfl | rfl | rfl | rfl | rfl | rfl | rfl | rfl | rfl | rfl | rfl | rfl | rfl | rfl | rfl | rfl | rfl | rfl | rfl | rfl | rfl | rfl | rfl | rfl | rfl | rfl | rfl | rfl | rfl | rfl | rfl | rfl | rfl | rfl | rfl | rfl | rfl | rfl | rfl | rfl | rfl | rfl | rfl | rfl | rfl | rfl | rfl | rfl | rfl | rfl | rfl | rfl | rfl | rfl | rfl | rfl | rfl | rfl | rfl | rfl | rfl | rfl | rfl | rfl | rfl | rfl | rfl | rfl | rfl | rfl
  · exact ⟨_, qq8⟩
  · exact ⟨_, q0e⟩
  · exact ⟨_, q3m⟩
  · exact ⟨_, qyn⟩
  · exact ⟨_, qxy⟩
  · exact ⟨_, qui⟩
  · exact ⟨_, qt4⟩
  · exact ⟨_, qtb⟩
  · exact ⟨_, qul⟩
  · exact ⟨_, qx0⟩
  · exact ⟨_, qr5⟩
  · exact ⟨_, q0f⟩
  · exact ⟨_, qxg⟩
  · exact ⟨_, qvs⟩
  · exact ⟨_, qwt⟩
  · exact ⟨_, qzb⟩
  · exact ⟨_, qt8⟩
  · exact ⟨_, qyx⟩
  · exact ⟨_, qpi⟩
  · exact ⟨_, qn5⟩
  · exact ⟨_, qno⟩
  · exact ⟨_, qn7⟩
  · exact ⟨_, qpm⟩
  · exact ⟨_, qvz⟩
  · exact ⟨_, qh4⟩
  · exact ⟨_, qvx⟩
  · exact ⟨_, qry⟩
  · exact ⟨_, qy4⟩
  · exact ⟨_, qy9⟩
  · exact ⟨_, qyk⟩
  · exact ⟨_, qyi⟩
  · exact ⟨_, qxl⟩
  · exact ⟨_, qms⟩
  · exact ⟨_, qw0⟩
  · exact ⟨_, qya⟩
  · exact ⟨_, qup⟩
  · exact ⟨_, que⟩
  · exact ⟨_, qvm⟩
  · exact ⟨_, qq6⟩
  · exact ⟨_, qis⟩
  · exact ⟨_, qk3⟩
  · exact ⟨_, qt5⟩
  · exact ⟨_, qsj⟩
  · exact ⟨_, qyu⟩
  · exact ⟨_, qyo⟩
  · exact ⟨_, q0d⟩
  · exact ⟨_, qv9⟩
  · exact ⟨_, qnm⟩
  · exact ⟨_, qoe⟩
  · exact ⟨_, qld⟩
  · exact ⟨_, qd7⟩
  · exact ⟨_, qpo⟩
  · exact ⟨_, qg8⟩
  · exact ⟨_, qrx⟩
  · exact ⟨_, qg7⟩
  · exact ⟨_, qsg⟩
  · exact ⟨_, qf5⟩
  · exact ⟨_, qy6⟩
  · exact ⟨_, qum⟩
  · exact ⟨_, q1k⟩
  · exact ⟨_, quk⟩
  · exact ⟨_, qou⟩
  · exact ⟨_, qyv⟩
  · exact ⟨_, qsw⟩
  · exact ⟨_, qra⟩
  · exact ⟨_, qjv⟩
  · exact ⟨_, qyq⟩
  · exact ⟨_, qy0⟩
  · exact ⟨_, q0o⟩
  · exact ⟨_, qnr⟩
  · exact ⟨_, qn1⟩
  · exact ⟨_, qmw⟩
  · exact ⟨_, qnq⟩
  · exact ⟨_, qmy⟩
  · exact ⟨_, qn8⟩
  · exact ⟨_, qnv⟩
  · exact ⟨_, qn4⟩
  · exact ⟨_, q01⟩
  · exact ⟨_, qv6⟩
  · exact ⟨_, qmr⟩
  · exact ⟨_, qhp⟩
  · exact ⟨_, qjm⟩
  · exact ⟨_, qwz⟩
  · exact ⟨_, qs4⟩
  · exact ⟨_, qma⟩
  · exact ⟨_, qoj⟩
  · exact ⟨_, qjt⟩
  · exact ⟨_, qyz⟩
  · exact ⟨_, qyt⟩
  · exact ⟨_, qjd⟩
theorem extL_ok : ∀ x ∈ extL, qr0 Try.prog x.1 = some x.2 := by
  intro x hx
  simp only [extL, List.mem_cons, List.not_mem_nil, or_false] at hx
  rcases hx with rfl | rfl | rfl | rfl
  · exact qhd
  · exact qh3
  · exact qj7
  · exact qns
theorem mixed : Try.prog.follows .mixedOrders = true := by kernel_rfl
theorem insL_ok : ∀ x ∈ insL, InsOk Try.prog x.1 (insF x.2.1 x.2.2) := by
  intro x hx
  simp only [insL, List.mem_cons, List.not_mem_nil, or_false] at hx
  rcases hx with rfl
  · exact ins_ok mixed qhm
theorem T_ok : TabOk Try.prog T where
  code k f h := codeL_ok _ (qtk h)
  ext k F h := by
    simp only [T, Option.map_eq_some_iff] at h
    obtain ⟨p, h1, rfl⟩ := h
    exact clone_ok mixed (extL_ok _ (qtk h1))
  ins k p h := insL_ok (k, p) (qtk h)
  mixed := mixed
theorem qkr : T.code qen = some qcm := rfl
theorem q6s : T.code qi5 = some qqk := rfl
theorem q0q : T.code qku = some qqu := rfl
theorem qvq : T.code qhy = some qlo := rfl
theorem qu0 : T.code qeq = some qj0 := rfl
theorem qrq : T.code qdv = some qj5 := rfl
theorem qrv : T.code qdg = some qj4 := rfl
theorem qrd : T.code qem = some qc2 := rfl
theorem q3h : T.code qfh = some qlg := rfl
theorem quw : T.code qg4 = some qer := rfl
theorem qqe : T.code qc7 = some qe9 := rfl
theorem q7l : T.code qkc = some qql := rfl
theorem q5z : T.code qip = some qnj := rfl
theorem qti : T.code qey = some qkq := rfl
theorem qtw : T.code qfu = some qk1 := rfl
theorem qv4 : T.code qhw = some qfo := rfl
theorem qr8 : T.code qfe = some qj1 := rfl
theorem qvv : T.code qh1 = some qlt := rfl
theorem qoi : T.code qde = some qgw := rfl
theorem qm5 : T.code qc0 = some qfq := rfl
theorem qmg : T.code qcs = some qeb := rfl
theorem qmz : T.code qcz = some qfr := rfl
theorem qoc : T.code qcw = some qeu := rfl
theorem qs5 : T.code qdt = some qi8 := rfl
theorem qhi : T.code qaq = some qcc := rfl
theorem q4n : T.code qhf = some qmf := rfl
theorem qpr : T.code qc9 = some qix := rfl
theorem qvg : T.code qh7 = some qgp := rfl
theorem qvl : T.code qh6 = some qgt := rfl
theorem qv8 : T.code qh2 = some qly := rfl
theorem qtz : T.code qg1 = some qjz := rfl
theorem qus : T.code qfw = some qg0 := rfl
theorem qlp : T.code qca = some qdq := rfl
theorem qut : T.code qg3 = some qir := rfl
theorem qjf : T.code qdr = some qbr := rfl
theorem qr4 : T.code qek = some qj2 := rfl
theorem qmp : T.code qfj = some qij := rfl
theorem qs7 : T.code qeg = some qhk := rfl
theorem qpl : T.code qdb = some qf3 := rfl
theorem qh9 : T.code qav = some qbw := rfl
theorem qtp : T.code qch = some qfi := rfl
theorem q3s : T.code qgc = some qlh := rfl
theorem q1j : T.code qfb = some qkj := rfl
theorem qvy : T.code qhq = some qdu := rfl
theorem qvi : T.code qhv = some qgv := rfl
theorem qkm : T.code qex = some qb0 := rfl
theorem qst : T.code qf4 = some qkl := rfl
theorem qi9 : T.code qap = some qd6 := rfl
theorem qmt : T.code qcj = some qdi := rfl
theorem qkx : T.code qb9 = some qc8 := rfl
theorem qdw : T.code qac = some qan := rfl
theorem qol : T.code qa5 = some qgm := rfl
theorem qgo : T.code qat = some qbo := rfl
theorem qqh : T.code qcv = some qiy := rfl
theorem qnf : T.code qa9 = some qcu := rfl
theorem q1y : T.code qe5 = some qki := rfl
theorem qlv : T.code qay = some qcf := rfl
theorem qvw : T.code qhz = some qh0 := rfl
theorem qsb : T.code qfg = some qdf := rfl
theorem qy7 : T.code qd3 = some qoz := rfl
theorem qrt : T.code qff = some qgg := rfl
theorem qn3 : T.code qc6 = some qf7 := rfl
theorem qv2 : T.code qhr = some qlx := rfl
theorem qq3 : T.code qec = some qf1 := rfl
theorem qpn : T.code qdz = some qh5 := rfl
theorem qqx : T.code qbv = some qd1 := rfl
theorem qwa : T.code qes = some qlk := rfl
theorem qv1 : T.code qfn = some qln := rfl
theorem qcq : T.code qcy = some qc5 := rfl
theorem qmo : T.code qb2 = some qfd := rfl
theorem ql7 : T.code qb3 = some qe6 := rfl
theorem qls : T.code qbx = some qet := rfl
theorem ql8 : T.code qbt = some qd5 := rfl
theorem qlm : T.code qbz = some qdp := rfl
theorem qmv : T.code qb8 = some qef := rfl
theorem qmn : T.code qb4 = some qct := rfl
theorem qm1 : T.code qb6 = some qfs := rfl
theorem qx1 : T.code qjc = some qk5 := rfl
theorem qsy : T.code qez = some qkk := rfl
theorem qlw : T.code qck = some qcl := rfl
theorem qon : T.code qa1 = some qc1 := rfl
theorem qpq : T.code qam = some qdm := rfl
theorem qtt : T.code qed = some qju := rfl
theorem qq7 : T.code qd9 = some qjh := rfl
theorem qle : T.code qbj = some qdk := rfl
theorem qm2 : T.code qb7 = some qfp := rfl
theorem qqy : T.code qbi = some qdx := rfl
theorem qvp : T.code qhu = some qlz := rfl
theorem qvj : T.code qhx = some qlr := rfl
theorem qpj : T.code qa0 = some qdj := rfl
theorem qp9 : T.ext qen = none ∧ T.ins qen = none := ⟨rfl, rfl⟩
theorem ext_law23_head : T.ext qi5 = none ∧ T.ins qi5 = none := ⟨rfl, rfl⟩
theorem q1g : T.ext qku = none ∧ T.ins qku = none := ⟨rfl, rfl⟩
theorem qwx : T.ext qhy = none ∧ T.ins qhy = none := ⟨rfl, rfl⟩
theorem qvk : T.ext qeq = none ∧ T.ins qeq = none := ⟨rfl, rfl⟩
theorem qtd : T.ext qdv = none ∧ T.ins qdv = none := ⟨rfl, rfl⟩
theorem qsx : T.ext qdg = none ∧ T.ins qdg = none := ⟨rfl, rfl⟩
theorem qsa : T.ext qem = none ∧ T.ins qem = none := ⟨rfl, rfl⟩
theorem q4o : T.ext qfh = none ∧ T.ins qfh = none := ⟨rfl, rfl⟩
theorem qv0 : T.ext qg4 = none ∧ T.ins qg4 = none := ⟨rfl, rfl⟩
theorem qq5 : T.ext qc7 = none ∧ T.ins qc7 = none := ⟨rfl, rfl⟩
theorem ext_law19_Base : T.ext qkc = none ∧ T.ins qkc = none := ⟨rfl, rfl⟩
theorem q6f : T.ext qip = none ∧ T.ins qip = none := ⟨rfl, rfl⟩
theorem qt0 : T.ext qey = none ∧ T.ins qey = none := ⟨rfl, rfl⟩
theorem qv7 : T.ext qfu = none ∧ T.ins qfu = none := ⟨rfl, rfl⟩
theorem qxe : T.ext qhw = none ∧ T.ins qhw = none := ⟨rfl, rfl⟩
theorem qs6 : T.ext qfe = none ∧ T.ins qfe = none := ⟨rfl, rfl⟩
theorem qw6 : T.ext qh1 = none ∧ T.ins qh1 = none := ⟨rfl, rfl⟩
theorem qov : T.ext qde = none ∧ T.ins qde = none := ⟨rfl, rfl⟩
theorem qnz : T.ext qc0 = none ∧ T.ins qc0 = none := ⟨rfl, rfl⟩
theorem qmq : T.ext qcs = none ∧ T.ins qcs = none := ⟨rfl, rfl⟩
theorem qnn : T.ext qcz = none ∧ T.ins qcz = none := ⟨rfl, rfl⟩
theorem qox : T.ext qcw = none ∧ T.ins qcw = none := ⟨rfl, rfl⟩
theorem qua : T.ext qdt = none ∧ T.ins qdt = none := ⟨rfl, rfl⟩
theorem qhn : T.ext qaq = none ∧ T.ins qaq = none := ⟨rfl, rfl⟩
theorem q43 : T.ext qhf = none ∧ T.ins qhf = none := ⟨rfl, rfl⟩
theorem qq9 : T.ext qc9 = none ∧ T.ins qc9 = none := ⟨rfl, rfl⟩
theorem qwk : T.ext qh7 = none ∧ T.ins qh7 = none := ⟨rfl, rfl⟩
theorem qxp : T.ext qh6 = none ∧ T.ins qh6 = none := ⟨rfl, rfl⟩
theorem qxa : T.ext qh2 = none ∧ T.ins qh2 = none := ⟨rfl, rfl⟩
theorem qvt : T.ext qg1 = none ∧ T.ins qg1 = none := ⟨rfl, rfl⟩
theorem qvo : T.ext qfw = none ∧ T.ins qfw = none := ⟨rfl, rfl⟩
theorem qja : T.ext qca = none ∧ T.ins qca = none := ⟨rfl, rfl⟩
theorem qvn : T.ext qg3 = none ∧ T.ins qg3 = none := ⟨rfl, rfl⟩
theorem qj3 : T.ext qdr = none ∧ T.ins qdr = none := ⟨rfl, rfl⟩
theorem qtl : T.ext qek = none ∧ T.ins qek = none := ⟨rfl, rfl⟩
theorem qm8 : T.ext qfj = none ∧ T.ins qfj = none := ⟨rfl, rfl⟩
theorem qt7 : T.ext qeg = none ∧ T.ins qeg = none := ⟨rfl, rfl⟩
theorem qp6 : T.ext qdb = none ∧ T.ins qdb = none := ⟨rfl, rfl⟩
theorem qie : T.ext qav = none ∧ T.ins qav = none := ⟨rfl, rfl⟩
theorem qtv : T.ext qch = none ∧ T.ins qch = none := ⟨rfl, rfl⟩
theorem q35 : T.ext qgc = none ∧ T.ins qgc = none := ⟨rfl, rfl⟩
theorem q2q : T.ext qfb = none ∧ T.ins qfb = none := ⟨rfl, rfl⟩
theorem qye : T.ext qhq = none ∧ T.ins qhq = none := ⟨rfl, rfl⟩
theorem qw4 : T.ext qhv = none ∧ T.ins qhv = none := ⟨rfl, rfl⟩
theorem qkz : T.ext qex = none ∧ T.ins qex = none := ⟨rfl, rfl⟩
theorem quf : T.ext qf4 = none ∧ T.ins qf4 = none := ⟨rfl, rfl⟩
theorem qjo : T.ext qap = none ∧ T.ins qap = none := ⟨rfl, rfl⟩
theorem qny : T.ext qcj = none ∧ T.ins qcj = none := ⟨rfl, rfl⟩
theorem qk4 : T.ext qb9 = none ∧ T.ins qb9 = none := ⟨rfl, rfl⟩
theorem qd2 : T.ext qac = none ∧ T.ins qac = none := ⟨rfl, rfl⟩
theorem qo0 : T.ext qa5 = none ∧ T.ins qa5 = none := ⟨rfl, rfl⟩
theorem qgz : T.ext qat = none ∧ T.ins qat = none := ⟨rfl, rfl⟩
theorem qre : T.ext qcv = none ∧ T.ins qcv = none := ⟨rfl, rfl⟩
theorem qnx : T.ext qa9 = none ∧ T.ins qa9 = none := ⟨rfl, rfl⟩
theorem q2r : T.ext qe5 = none ∧ T.ins qe5 = none := ⟨rfl, rfl⟩
theorem ql4 : T.ext qay = none ∧ T.ins qay = none := ⟨rfl, rfl⟩
theorem qwu : T.ext qhz = none ∧ T.ins qhz = none := ⟨rfl, rfl⟩
theorem qs3 : T.ext qfg = none ∧ T.ins qfg = none := ⟨rfl, rfl⟩
theorem q0p : T.ext qd3 = none ∧ T.ins qd3 = none := ⟨rfl, rfl⟩
theorem qsz : T.ext qff = none ∧ T.ins qff = none := ⟨rfl, rfl⟩
theorem qoh : T.ext qc6 = none ∧ T.ins qc6 = none := ⟨rfl, rfl⟩
theorem qw9 : T.ext qhr = none ∧ T.ins qhr = none := ⟨rfl, rfl⟩
theorem qsk : T.ext qec = none ∧ T.ins qec = none := ⟨rfl, rfl⟩
theorem qqa : T.ext qdz = none ∧ T.ins qdz = none := ⟨rfl, rfl⟩
theorem qrc : T.ext qbv = none ∧ T.ins qbv = none := ⟨rfl, rfl⟩
theorem qw7 : T.ext qes = none ∧ T.ins qes = none := ⟨rfl, rfl⟩
theorem qyj : T.ext qfn = none ∧ T.ins qfn = none := ⟨rfl, rfl⟩
theorem qc3 : T.ext qcy = none ∧ T.ins qcy = none := ⟨rfl, rfl⟩
theorem qmu : T.ext qb2 = none ∧ T.ins qb2 = none := ⟨rfl, rfl⟩
theorem qm3 : T.ext qb3 = none ∧ T.ins qb3 = none := ⟨rfl, rfl⟩
theorem qmi : T.ext qbx = none ∧ T.ins qbx = none := ⟨rfl, rfl⟩
theorem qmx : T.ext qbt = none ∧ T.ins qbt = none := ⟨rfl, rfl⟩
theorem ql5 : T.ext qbz = none ∧ T.ins qbz = none := ⟨rfl, rfl⟩
theorem qni : T.ext qb8 = none ∧ T.ins qb8 = none := ⟨rfl, rfl⟩
theorem qm0 : T.ext qb4 = none ∧ T.ins qb4 = none := ⟨rfl, rfl⟩
theorem qnp : T.ext qb6 = none ∧ T.ins qb6 = none := ⟨rfl, rfl⟩
theorem qze : T.ext qjc = none ∧ T.ins qjc = none := ⟨rfl, rfl⟩
theorem qtr : T.ext qez = none ∧ T.ins qez = none := ⟨rfl, rfl⟩
theorem ql9 : T.ext qck = none ∧ T.ins qck = none := ⟨rfl, rfl⟩
theorem qos : T.ext qa1 = none ∧ T.ins qa1 = none := ⟨rfl, rfl⟩
theorem qpz : T.ext qam = none ∧ T.ins qam = none := ⟨rfl, rfl⟩
theorem qvr : T.ext qed = none ∧ T.ins qed = none := ⟨rfl, rfl⟩
theorem qr2 : T.ext qd9 = none ∧ T.ins qd9 = none := ⟨rfl, rfl⟩
theorem qlq : T.ext qbj = none ∧ T.ins qbj = none := ⟨rfl, rfl⟩
theorem qnt : T.ext qb7 = none ∧ T.ins qb7 = none := ⟨rfl, rfl⟩
theorem qrb : T.ext qbi = none ∧ T.ins qbi = none := ⟨rfl, rfl⟩
theorem qxt : T.ext qhu = none ∧ T.ins qhu = none := ⟨rfl, rfl⟩
theorem qxw : T.ext qhx = none ∧ T.ins qhx = none := ⟨rfl, rfl⟩
theorem qpp : T.ext qa0 = none ∧ T.ins qa0 = none := ⟨rfl, rfl⟩
theorem qop : T.ext qb5 = some (qro 1 24) := rfl
theorem qia : T.ext qa6 = some (qro 6 64) := rfl
theorem qj9 : T.ext qci = some (qro 4 48) := rfl
theorem qnl : T.ext qee = some (qro 1 8) := rfl
theorem qhl : T.ins qbd = some (6, 64) := rfl
theorem qhh : T.ext qbd = none := rfl
def qby (n : Int) : List AV := [(ii n)]
theorem int_lo (n : Nat) (x : Int) : los n (qby x) = true := rfl
theorem int_pl (x : Int) : (qby x).length = 1 ∧ qo (qby x) = true := ⟨rfl, rfl⟩
theorem qw (n : Nat) (l : List Int) : qiu n (l.map qby) = true := qkh (int_lo n) l
theorem q73 (l : List Int) : qcd 1 (l.map qby) = true := qkt int_pl l
def qep (l : List Int) : List AV := [(.fsl ((l).map qby) false)]
theorem key_lo (n : Nat) (l : List Int) : los n (qep l) = true := by simp only [qep, los, AV.lo, qw, zfc]
theorem key_pl (l : List Int) : (qep l).length = 1 ∧ qo (qep l) = true := ⟨rfl, rfl⟩
theorem qbn (n : Nat) (l : List (List Int)) : qiu n (l.map qep) = true := qkh (key_lo n) l
theorem keys_ok (l : List (List Int)) : qcd 1 (l.map qep) = true := qkt key_pl l
structure OpI where
  code : Int
  a : Int
  b : Int
  c : Int
  deriving DecidableEq
def OpI.r (x : OpI) : List AV := [(ii x.code), (ii x.a), (ii x.b), (ii x.c)]
theorem op_lo (n : Nat) (x : OpI) : los n x.r = true := rfl
theorem qh8 (n : Nat) (l : List OpI) : qiu n (l.map OpI.r) = true := qkh (op_lo n) l
def qce (p : List OpI) : List AV := [(.fsl ((p).map OpI.r) false)]
theorem progC_lo (n : Nat) (l : List OpI) : los n (qce l) = true := by simp only [qce, los, AV.lo, qh8, zfc]
theorem qax (n : Nat) (l : List (List OpI)) : qiu n (l.map qce) = true := qkh (progC_lo n) l
structure Start where
  prog : Int
  time : Int
  deriving DecidableEq
def Start.r (x : Start) : List AV := [(ii x.prog), (ii x.time)]
theorem start_lo (n : Nat) (x : Start) : los n x.r = true := rfl
theorem q7b (n : Nat) (l : List Start) : qiu n (l.map Start.r) = true := qkh (start_lo n) l
def lpC (p : List Start) : List AV := [(.fsl ((p).map Start.r) false)]
theorem lpC_lo (n : Nat) (l : List Start) : los n (lpC l) = true := by simp only [lpC, los, AV.lo, q7b, zfc]
theorem qcb (n : Nat) (l : List (List Start)) : qiu n (l.map lpC) = true := qkh (lpC_lo n) l
structure Cfg where
  lps : List (List Start)
  progs : List (List OpI)
  look : Int
  fin : Int
  cap : Int
def qp7 (n : Int) : Bool := decide (n ≥ 1) && decide (n ≤ 1099511627776)
def qva (n : Int) : Bool := decide (n ≥ -1073741824) && decide (n ≤ 1073741824)
theorem qk0 (n : Int) : qa4 (evL T) qes [(ii n)] = some (bb (qp7 n)) := by
  rw [qa4, qad qw7 qwa]
  by_cases h1 : n ≥ 1 <;> simp only [qp7, qlk, h1, qj, Ev.exec, qb, qe, qc, qai, Ev.Opnd.ev, Ev.Env.get, Ev.Env.set, Ev.Env.unset, Ev.look, qk, qqm, qbu, qi, qq, qaj, Ev.kill, qag, qg, qbb, qx, ↓qn, ↓reduceIte, List.length_cons, List.length_nil, zfe, Nat.reduceEqDiff, reduceCtorEq, decide_true, decide_false, Bool.true_and, zfa, and_self, zfd, eq_self, Bool.false_and]
theorem qn0 (n : Int) : qa4 (evL T) qfn [(ii n)] = some (bb (qva n)) := by
  rw [qa4, qad qyj qv1]
  by_cases h1 : n ≥ -1073741824 <;> simp only [qva, qln, h1, qj, Ev.exec, qb, qe, qc, qai, Ev.Opnd.ev, Ev.Env.get, Ev.Env.set, Ev.Env.unset, Ev.look, qk, qqm, qbu, qi, qq, qaj, Ev.kill, qag, qg, qbb, qx, ↓qn, ↓reduceIte, List.length_cons, List.length_nil, zfe, Nat.reduceEqDiff, Int.reduceNeg, reduceCtorEq, decide_true, decide_false, Bool.true_and, zfa, and_self, zfd, eq_self, Bool.false_and]
def qzd (x : OpI) (n ps : Int) : Bool :=
  if x.code = 1 then qp7 x.a && (decide (x.b = 0) && decide (x.c = 0))
  else if x.code = 2 then decide (x.a ≥ 0) && (qva x.b && qp7 x.c)
  else if x.code = 3 then qp7 x.a && (decide (x.b ≥ 0) && (decide (x.b < n) && decide (x.c = 0)))
  else if x.code = 5 then decide (x.a ≥ 0) && (decide (x.a < ps) && (qp7 x.b && decide (x.c = 0)))
  else if x.code = 6 then decide (x.a ≥ 0) && (decide (x.a < 2) && (qva x.b && decide (x.c = 0)))
  else if x.code = 7 then decide (x.a ≥ 0) && (decide (x.a < 2) && (qva x.b && (decide (x.c ≥ 0) && decide (x.c < n))))
  else decide (x.a = 0) && (decide (x.b = 0) && decide (x.c = 0))
theorem qom (x : OpI) (n ps : Int) : qa4 (evL T) qfg [(.agg [(ii x.code), (ii x.a), (ii x.b), (ii x.c)]), (ii n), (ii ps)] = some (bb (qzd x n ps)) := by
  obtain ⟨k, a, b, c⟩ := x
  rw [qa4, qad qs3 qsb]
  simp only [qzd]
  by_cases k1 : k = 1
  · subst k1
    cases h1 : qp7 a <;> by_cases h2 : b = 0 <;> simp only [qdf, qk0, h1, h2, qj, Ev.exec, qb, qe, qc, qaw, qai, Ev.evs, Ev.Opnd.ev, Ev.Env.get, Ev.Env.set, Ev.Env.unset, Ev.look, qk, qf, qv, Ev.AV.cells, qo, Ev.AV.plain, qar, qi, qq, qaj, Ev.kill, qag, qg, qbb, qh, qd, qx, ↓qn, ↓reduceIte, List.length_cons, List.length_nil, zfe, List.drop_succ_cons, List.drop_zero, List.head?_cons, Nat.reduceAdd, Nat.reduceEqDiff, decide_true, decide_false, zfc, Bool.true_and, zfa, and_self, ne_eq, zfb, zff, zfd, eq_self, Bool.false_and, Bool.and_false]
  by_cases k2 : k = 2
  · subst k2
    by_cases h1 : a ≥ 0 <;> cases h2 : qva b <;> simp only [qdf, qk0, qn0, h1, h2, qj, Ev.exec, qb, qe, qc, qaw, qai, Ev.evs, Ev.Opnd.ev, Ev.Env.get, Ev.Env.set, Ev.Env.unset, Ev.look, qk, qf, qv, Ev.AV.cells, qo, Ev.AV.plain, qar, qbu, qi, qq, qaj, Ev.kill, qag, qg, qbb, qh, qd, qx, ↓qn, ↓reduceIte, List.length_cons, List.length_nil, zfe, List.drop_succ_cons, List.drop_zero, List.head?_cons, Nat.reduceAdd, Nat.reduceEqDiff, Int.reduceEq, decide_true, decide_false, zfc, Bool.true_and, zfa, and_self, ne_eq, zfb, zff, zfd, eq_self, Bool.false_and, Bool.and_false]
  by_cases k3 : k = 3
  · subst k3
    cases h1 : qp7 a <;> by_cases h2 : b ≥ 0 <;> by_cases h3 : b < n <;> simp only [qdf, qk0, h1, h2, h3, qj, Ev.exec, qb, qe, qc, qaw, qai, Ev.evs, Ev.Opnd.ev, Ev.Env.get, Ev.Env.set, Ev.Env.unset, Ev.look, qk, qf, qv, Ev.AV.cells, qo, Ev.AV.plain, qar, ql, qbu, qi, qq, qaj, Ev.kill, qag, qg, qbb, qh, qd, qx, ↓qn, ↓reduceIte, List.length_cons, List.length_nil, zfe, List.drop_succ_cons, List.drop_zero, List.head?_cons, Nat.reduceAdd, Nat.reduceEqDiff, Int.reduceEq, reduceCtorEq, decide_true, decide_false, zfc, Bool.true_and, zfa, and_self, ne_eq, zfb, zff, zfd, eq_self, Bool.false_and, Bool.and_false]
  by_cases k5 : k = 5
  · subst k5
    by_cases h1 : a ≥ 0 <;> by_cases h2 : a < ps <;> cases h3 : qp7 b <;> simp only [qdf, qk0, h1, h2, h3, qj, Ev.exec, qb, qe, qc, qaw, qai, Ev.evs, Ev.Opnd.ev, Ev.Env.get, Ev.Env.set, Ev.Env.unset, Ev.look, qk, qf, qv, Ev.AV.cells, qo, Ev.AV.plain, qar, ql, qbu, qi, qq, qaj, Ev.kill, qag, qg, qbb, qh, qd, qx, ↓qn, ↓reduceIte, List.length_cons, List.length_nil, zfe, List.drop_succ_cons, List.drop_zero, List.head?_cons, Nat.reduceAdd, Nat.reduceEqDiff, Int.reduceEq, reduceCtorEq, decide_true, decide_false, zfc, Bool.true_and, zfa, and_self, ne_eq, zfb, zff, zfd, eq_self, Bool.false_and, Bool.and_false]
  by_cases k6 : k = 6
  · subst k6
    by_cases h1 : a ≥ 0 <;> by_cases h2 : a < 2 <;> cases h3 : qva b <;> simp only [qdf, qn0, h1, h2, h3, qj, Ev.exec, qb, qe, qc, qaw, qai, Ev.evs, Ev.Opnd.ev, Ev.Env.get, Ev.Env.set, Ev.Env.unset, Ev.look, qk, qf, qv, Ev.AV.cells, qo, Ev.AV.plain, qar, ql, qbu, qi, qq, qaj, Ev.kill, qag, qg, qbb, qh, qd, qx, ↓qn, ↓reduceIte, List.length_cons, List.length_nil, zfe, List.drop_succ_cons, List.drop_zero, List.head?_cons, Nat.reduceAdd, Nat.reduceEqDiff, Int.reduceEq, decide_true, decide_false, zfc, Bool.true_and, zfa, and_self, ne_eq, zfb, zff, zfd, eq_self, Bool.false_and, Bool.and_false]
  by_cases k7 : k = 7
  · subst k7
    by_cases h1 : a ≥ 0 <;> by_cases h2 : a < 2 <;> cases h3 : qva b <;> by_cases h4 : c ≥ 0 <;> simp only [qdf, qn0, h1, h2, h3, h4, qj, Ev.exec, qb, qe, qc, qaw, qai, Ev.evs, Ev.Opnd.ev, Ev.Env.get, Ev.Env.set, Ev.Env.unset, Ev.look, qk, qf, qv, Ev.AV.cells, qo, Ev.AV.plain, qar, ql, qbu, qi, qq, qaj, Ev.kill, qag, qg, qbb, qh, qd, qx, ↓qn, ↓reduceIte, List.length_cons, List.length_nil, zfe, List.drop_succ_cons, List.drop_zero, List.head?_cons, Nat.reduceAdd, Nat.reduceEqDiff, Int.reduceEq, reduceCtorEq, decide_true, decide_false, zfc, Bool.true_and, zfa, and_self, ne_eq, zfb, zff, zfd, eq_self, Bool.false_and, Bool.and_false]
  by_cases h1 : a = 0 <;> by_cases h2 : b = 0 <;> simp only [qdf, k1, k2, k3, k5, k6, k7, h1, h2, qj, Ev.exec, qb, qe, qc, qai, Ev.Opnd.ev, Ev.Env.get, Ev.Env.set, Ev.Env.unset, Ev.look, qk, qf, qv, Ev.AV.cells, qo, Ev.AV.plain, qar, qi, qq, qaj, Ev.kill, qag, qg, qbb, qx, ↓qn, ↓reduceIte, List.length_cons, List.length_nil, zfe, List.drop_succ_cons, List.drop_zero, List.head?_cons, Nat.reduceAdd, Nat.reduceEqDiff, decide_true, decide_false, zfc, Bool.true_and, zfa, and_self, ne_eq, zfb, zff, zfd, eq_self, Bool.false_and, Bool.and_false]
def q2d (x : OpI) : Bool := decide (x.code ≥ 1) && decide (x.code ≤ 8)
def qqj (p : List OpI) : Bool := decide (1 ≤ p.length ∧ p.length ≤ 16) && p.all q2d
def q8m (lps : Int) (x : OpI) : Bool := !(decide (x.code = 2) && decide (x.a ≥ lps))
def qqc (look : Int) (x : OpI) : Bool := !(decide (x.code = 2) && decide (x.c < look))
def qpf (p : List OpI) (ps lps look : Int) : Int :=
  if qqj p = false then 22 else if p.all (fun x => qzd x p.length ps) = false then 22 else if p.all (q8m lps) = false then 23 else if p.all (qqc look) = false then 21 else 0
section
variable (p : List OpI) (c : Bool) (ps lps look : Int)
theorem q0n (hl : p.length ≤ 16) :
    ∃ y, itB (exec (evL T) itL none qgi) (qs [0, 3] true 0) ⟨[(0, (.fsl ((p).map OpI.r) c)), (3, (ii 0))], []⟩ [] = some y ∧ (p.all q2d = true ∧ (y.1 = .exit 0 ∧ y.2.1.marks = [] ∧ y.2.2 = []) ∨
      p.all q2d = false ∧ ∃ x, p.find? (fun x => !q2d x) = some x ∧ (y.1 = .ret ∧ y.2.1.marks = [] ∧ y.2.2 = [] ∧ Ev.look y.2.1.vars 2 = some (bb false))) := by
  refine qg9 p (fun i => ⟨[(0, (.fsl ((p).map OpI.r) c)), (3, (ii i))], []⟩) [] q2d _ (fun _ y => _) ?_ ?_ ?_
  · intro i x hi hx hp
    have hi' : (i : Int) < (p.length : Int) := by omega
    have hw : IntKind.i64.wrap ((i : Int) + 1) = ((i + 1 : Nat) : Int) := by rw [qas (by omega) (by omega)]; simp
    simp only [q2d, Bool.and_eq_true, decide_eq_true_eq] at hp
    have h1 : ¬ x.code < 1 := by omega
    have h2 : ¬ x.code > 8 := by omega
    simp only [qgi, Int.natCast_nonneg, Int.toNat_natCast, List.getElem?_map, Option.map_some, OpI.r, hx, hi', hw, h1, h2, qh8, Ev.exec, qb, qe, qc, qai, Ev.Opnd.ev, Ev.Env.get, Ev.Env.set, Ev.look, qf, qv, qao, ql, qbh, qs, Ev.keep, qal, qaf, qg, qbb, qm, List.length_map, ↓qn, Ev.it1, ↓reduceIte, List.length_cons, List.length_nil, zfe, List.drop_zero, List.head?_cons, Nat.reduceAdd, Nat.reduceEqDiff, reduceCtorEq, decide_true, decide_false, zfc, zfa, and_self, zfd, eq_self]
  · intro i x hi hx hp
    have hi' : (i : Int) < (p.length : Int) := by omega
    simp only [q2d, Bool.and_eq_false_iff, decide_eq_false_iff_not] at hp
    by_cases h1 : x.code < 1
    · simp only [qgi, Int.natCast_nonneg, Int.toNat_natCast, List.getElem?_map, Option.map_some, OpI.r, hx, hi', h1, Ev.exec, qb, qe, qc, qai, Ev.Opnd.ev, Ev.Env.get, Ev.Env.set, Ev.Env.unset, Ev.look, qf, qv, ql, List.length_map, ↓qn, Ev.it1, ↓reduceIte, List.length_cons, List.length_nil, List.drop_zero, List.head?_cons, Nat.reduceAdd, Nat.reduceEqDiff, reduceCtorEq, decide_true, zfa, Bool.true_eq_false, zfd, eq_self]
      exact ⟨_, rfl, rfl, rfl, rfl, rfl⟩
    · have h2 : x.code > 8 := by omega
      simp only [qgi, Int.natCast_nonneg, Int.toNat_natCast, List.getElem?_map, Option.map_some, OpI.r, hx, hi', h1, h2, Ev.exec, qb, qe, qc, qai, Ev.Opnd.ev, Ev.Env.get, Ev.Env.set, Ev.look, qf, qv, ql, qbh, List.length_map, ↓qn, Ev.it1, ↓reduceIte, List.length_cons, List.length_nil, List.drop_zero, List.head?_cons, Nat.reduceAdd, Nat.reduceEqDiff, reduceCtorEq, decide_true, decide_false, zfa, zfd, eq_self]
      exact ⟨_, rfl, rfl, rfl, rfl, rfl⟩
  · simp only [qgi, Int.lt_irrefl, Ev.exec, qb, qe, qc, qai, Ev.Opnd.ev, Ev.Env.get, Ev.Env.set, Ev.look, ql, List.length_map, ↓qn, Ev.it1, ↓reduceIte, Nat.reduceEqDiff, reduceCtorEq, decide_false, zfa, eq_self]
    exact ⟨_, rfl, rfl, rfl, rfl⟩
theorem qzc : qa4 (evL T) qhz [(.fsl ((p).map OpI.r) c)] = some (bb (qqj p)) := by
  rw [qa4, qad qwu qvw]
  by_cases h1 : (p.length : Int) < 1
  · have : ¬ (1 ≤ p.length ∧ p.length ≤ 16) := by omega
    simp only [qh0, qqj, this, h1, qj, Ev.exec, qb, qe, qc, qai, Ev.Opnd.ev, Ev.Env.get, Ev.Env.set, Ev.Env.unset, Ev.look, qk, ql, qi, qq, qaj, Ev.kill, qag, qg, qbb, qx, List.length_map, ↓qn, ↓reduceIte, List.length_cons, List.length_nil, zfe, Nat.reduceEqDiff, reduceCtorEq, decide_true, decide_false, Bool.true_eq_false, and_self, zfd, eq_self, Bool.false_and]
  by_cases h2 : (p.length : Int) > 16
  · have : ¬ (1 ≤ p.length ∧ p.length ≤ 16) := by omega
    simp only [qh0, qqj, this, h1, h2, qj, Ev.exec, qb, qe, qc, qai, Ev.Opnd.ev, Ev.Env.get, Ev.Env.set, Ev.look, qk, ql, qbh, qi, qq, qaj, Ev.kill, qag, qg, qbb, qx, List.length_map, ↓qn, ↓reduceIte, List.length_cons, List.length_nil, zfe, Nat.reduceEqDiff, reduceCtorEq, decide_true, decide_false, zfa, and_self, zfd, eq_self, Bool.false_and]
  have h3 : 1 ≤ p.length ∧ p.length ≤ 16 := by omega
  obtain ⟨⟨y, e, σ⟩, k1, k2⟩ := q0n p c h3.2
  simp only at k2
  rcases k2 with ⟨k3, rfl, k4, rfl⟩ | ⟨k3, x, _, rfl, k4, rfl, k5⟩
  · simp only [qh0, qqj, h3, h1, h2, k1, k3, k4, qh8, qj, Ev.exec, qb, qe, qc, qai, Ev.Opnd.ev, Ev.Env.get, Ev.Env.set, Ev.look, qk, ql, qbh, qi, qq, qaj, Ev.kill, qag, qs, Ev.keep, qal, qaf, qg, qbb, qm, qx, List.length_map, ↓qn, ↓qa3, ↓reduceIte, List.length_cons, List.length_nil, zfe, Nat.reduceEqDiff, reduceCtorEq, decide_true, decide_false, zfc, zfa, and_self, zfd, eq_self]
  · simp only [qh0, qqj, h3, h1, h2, k1, k3, k4, k5, qh8, qj, Ev.exec, qb, qe, qc, qai, Ev.Opnd.ev, Ev.Env.get, Ev.Env.set, Ev.look, qk, ql, qbh, qi, qq, qaj, Ev.kill, qag, qs, Ev.keep, qal, qaf, qg, qbb, qm, qx, List.length_map, ↓qn, ↓qa3, ↓reduceIte, List.length_cons, List.length_nil, zfe, Nat.reduceEqDiff, reduceCtorEq, decide_true, decide_false, zfc, zfa, and_self, zfd, eq_self, Bool.and_false]
theorem qyp (hl : p.length ≤ 16) :
    ∃ y, itB (exec (evL T) itL none qin) (qs [0, 1, 2, 3, 9] true 0) ⟨[(0, (.fsl ((p).map OpI.r) c)), (1, (ii ps)), (2, (ii lps)), (3, (ii look)), (9, (ii 0))], []⟩ [] = some y ∧
      (p.all (fun x => qzd x p.length ps) = true ∧ (y.1 = .exit 0 ∧ y.2.1.marks = [] ∧ y.2.2 = [] ∧ Ev.look y.2.1.vars 0 = some (.fsl ((p).map OpI.r) c) ∧ Ev.look y.2.1.vars 2 = some (ii lps) ∧ Ev.look y.2.1.vars 3 = some (ii look)) ∨
      p.all (fun x => qzd x p.length ps) = false ∧ ∃ x, p.find? (fun x => !qzd x p.length ps) = some x ∧ (y.1 = .ret ∧ y.2.1.marks = [] ∧ y.2.2 = [] ∧ Ev.look y.2.1.vars 8 = some (ii 22))) := by
  refine qg9 p (fun i => ⟨[(0, (.fsl ((p).map OpI.r) c)), (1, (ii ps)), (2, (ii lps)), (3, (ii look)), (9, (ii i))], []⟩) [] (fun x => qzd x p.length ps) _ (fun _ y => _) ?_ ?_ ?_
  · intro i x hi hx hp
    have hi' : (i : Int) < (p.length : Int) := by omega
    have hw : IntKind.i64.wrap ((i : Int) + 1) = ((i + 1 : Nat) : Int) := by rw [qas (by omega) (by omega)]; simp
    simp only [qin, Int.natCast_nonneg, Int.toNat_natCast, List.getElem?_map, Option.map_some, OpI.r, hx, hi', hw, qom, hp, qh8, Ev.exec, qb, qe, qc, qaw, qai, Ev.evs, Ev.Opnd.ev, Ev.Env.get, Ev.Env.set, Ev.look, qf, qv, qao, ql, qs, Ev.keep, qal, qaf, qg, qbb, qa2, qm, qh, qd, List.length_map, ↓qn, Ev.it1, ↓reduceIte, List.length_cons, List.length_nil, List.take_succ_cons, zfe, Nat.reduceAdd, Nat.reduceEqDiff, reduceCtorEq, decide_true, zfc, Bool.not_true, zfa, and_self, zfd, Nat.le_refl, eq_self]
  · intro i x hi hx hp
    have hi' : (i : Int) < (p.length : Int) := by omega
    simp only [qin, Int.natCast_nonneg, Int.toNat_natCast, List.getElem?_map, Option.map_some, OpI.r, hx, hi', qom, hp, Ev.exec, qb, qe, qc, qaw, qai, Ev.evs, Ev.Opnd.ev, Ev.Env.get, Ev.Env.set, Ev.look, qf, qv, ql, qbb, qa2, qh, qd, List.length_map, ↓qn, Ev.it1, ↓reduceIte, List.length_cons, List.length_nil, List.take_succ_cons, zfe, Nat.reduceAdd, Nat.reduceEqDiff, reduceCtorEq, decide_true, zfc, Bool.not_false, zfd, Nat.le_refl, eq_self]
    exact ⟨_, rfl, rfl, rfl, rfl, rfl⟩
  · simp only [qin, Int.lt_irrefl, Ev.exec, qb, qe, qc, qai, Ev.Opnd.ev, Ev.Env.get, Ev.Env.set, Ev.look, ql, List.length_map, ↓qn, Ev.it1, ↓reduceIte, Nat.reduceEqDiff, reduceCtorEq, decide_false, zfa, eq_self]
    exact ⟨_, rfl, rfl, rfl, rfl, rfl, rfl, rfl⟩
theorem qyw (hl : p.length ≤ 16) :
    ∃ y, itB (exec (evL T) itL none qgf) (qs [0, 2, 3, 10] true 0) ⟨[(0, (.fsl ((p).map OpI.r) c)), (2, (ii lps)), (3, (ii look)), (10, (ii 0))], []⟩ [] = some y ∧
      (p.all (q8m lps) = true ∧ (y.1 = .exit 2 ∧ y.2.1.marks = [] ∧ y.2.2 = [] ∧ Ev.look y.2.1.vars 0 = some (.fsl ((p).map OpI.r) c) ∧ Ev.look y.2.1.vars 3 = some (ii look)) ∨
      p.all (q8m lps) = false ∧ ∃ x, p.find? (fun x => !q8m lps x) = some x ∧ (y.1 = .ret ∧ y.2.1.marks = [] ∧ y.2.2 = [] ∧ Ev.look y.2.1.vars 8 = some (ii 23))) := by
  refine qg9 p (fun i => ⟨[(0, (.fsl ((p).map OpI.r) c)), (2, (ii lps)), (3, (ii look)), (10, (ii i))], []⟩) [] (q8m lps) _ (fun _ y => _) ?_ ?_ ?_
  · intro i x hi hx hp
    have hi' : (i : Int) < (p.length : Int) := by omega
    have hw : IntKind.i64.wrap ((i : Int) + 1) = ((i + 1 : Nat) : Int) := by rw [qas (by omega) (by omega)]; simp
    by_cases h1 : x.code = 2
    · have h2 : ¬ x.a ≥ lps := by simpa [q8m, h1] using hp
      simp only [qgf, Int.natCast_nonneg, Int.toNat_natCast, List.getElem?_map, Option.map_some, OpI.r, hx, hi', hw, h1, h2, qh8, Ev.exec, qb, qe, qc, qai, Ev.Opnd.ev, Ev.Env.get, Ev.Env.set, Ev.look, qf, qv, qao, qar, ql, qbu, qs, Ev.keep, qal, qaf, qg, qbb, qm, List.length_map, ↓qn, Ev.it1, ↓reduceIte, List.length_cons, List.length_nil, zfe, List.drop_succ_cons, List.drop_zero, List.head?_cons, Nat.reduceAdd, Nat.reduceEqDiff, reduceCtorEq, decide_true, decide_false, zfc, zfa, and_self, zfd, eq_self]
    · simp only [qgf, Int.natCast_nonneg, Int.toNat_natCast, List.getElem?_map, Option.map_some, OpI.r, hx, hi', hw, h1, qh8, Ev.exec, qb, qe, qc, qai, Ev.Opnd.ev, Ev.Env.get, Ev.Env.set, Ev.Env.unset, Ev.look, qf, qv, qao, qar, ql, qs, Ev.keep, qal, qaf, qg, qbb, qm, List.length_map, ↓qn, Ev.it1, ↓reduceIte, List.length_cons, List.length_nil, zfe, List.drop_zero, List.head?_cons, Nat.reduceAdd, Nat.reduceEqDiff, reduceCtorEq, decide_true, decide_false, zfc, zfa, and_self, zfd, eq_self]
  · intro i x hi hx hp
    have hi' : (i : Int) < (p.length : Int) := by omega
    have h1 : x.code = 2 := by
      by_cases h1 : x.code = 2
      · exact h1
      · simp [q8m, h1] at hp
    have h2 : x.a ≥ lps := by simpa [q8m, h1] using hp
    simp only [qgf, Int.natCast_nonneg, Int.toNat_natCast, List.getElem?_map, Option.map_some, OpI.r, hx, hi', h1, h2, Ev.exec, qb, qe, qc, qai, Ev.Opnd.ev, Ev.Env.get, Ev.Env.set, Ev.look, qf, qv, qar, ql, qbu, List.length_map, ↓qn, Ev.it1, ↓reduceIte, List.length_cons, List.length_nil, List.drop_succ_cons, List.drop_zero, List.head?_cons, Nat.reduceAdd, Nat.reduceEqDiff, reduceCtorEq, decide_true, zfa, zfd, eq_self]
    exact ⟨_, rfl, rfl, rfl, rfl, rfl⟩
  · simp only [qgf, Int.lt_irrefl, Ev.exec, qb, qe, qc, qai, Ev.Opnd.ev, Ev.Env.get, Ev.Env.set, Ev.look, ql, List.length_map, ↓qn, Ev.it1, ↓reduceIte, Nat.reduceEqDiff, reduceCtorEq, decide_false, zfa, eq_self]
    exact ⟨_, rfl, rfl, rfl, rfl, rfl, rfl⟩
theorem qy2 (hl : p.length ≤ 16) :
    ∃ y, itB (exec (evL T) itL none qge) (qs [0, 3, 11] true 0) ⟨[(0, (.fsl ((p).map OpI.r) c)), (3, (ii look)), (11, (ii 0))], []⟩ [] = some y ∧
      (p.all (qqc look) = true ∧ (y.1 = .exit 4 ∧ y.2.1.marks = [] ∧ y.2.2 = []) ∨
      p.all (qqc look) = false ∧ ∃ x, p.find? (fun x => !qqc look x) = some x ∧ (y.1 = .ret ∧ y.2.1.marks = [] ∧ y.2.2 = [] ∧ Ev.look y.2.1.vars 8 = some (ii 21))) := by
  refine qg9 p (fun i => ⟨[(0, (.fsl ((p).map OpI.r) c)), (3, (ii look)), (11, (ii i))], []⟩) [] (qqc look) _ (fun _ y => _) ?_ ?_ ?_
  · intro i x hi hx hp
    have hi' : (i : Int) < (p.length : Int) := by omega
    have hw : IntKind.i64.wrap ((i : Int) + 1) = ((i + 1 : Nat) : Int) := by rw [qas (by omega) (by omega)]; simp
    by_cases h1 : x.code = 2
    · have h2 : ¬ x.c < look := by simpa [qqc, h1] using hp
      simp only [qge, Int.natCast_nonneg, Int.toNat_natCast, List.getElem?_map, Option.map_some, OpI.r, hx, hi', hw, h1, h2, qh8, Ev.exec, qb, qe, qc, qai, Ev.Opnd.ev, Ev.Env.get, Ev.Env.set, Ev.look, qf, qv, qao, qar, ql, qs, Ev.keep, qal, qaf, qg, qbb, qm, List.length_map, ↓qn, Ev.it1, ↓reduceIte, List.length_cons, List.length_nil, zfe, List.drop_succ_cons, List.drop_zero, List.head?_cons, Nat.reduceAdd, Nat.reduceEqDiff, reduceCtorEq, decide_true, decide_false, zfc, zfa, and_self, zfd, eq_self]
    · simp only [qge, Int.natCast_nonneg, Int.toNat_natCast, List.getElem?_map, Option.map_some, OpI.r, hx, hi', hw, h1, qh8, Ev.exec, qb, qe, qc, qai, Ev.Opnd.ev, Ev.Env.get, Ev.Env.set, Ev.Env.unset, Ev.look, qf, qv, qao, qar, ql, qs, Ev.keep, qal, qaf, qg, qbb, qm, List.length_map, ↓qn, Ev.it1, ↓reduceIte, List.length_cons, List.length_nil, zfe, List.drop_zero, List.head?_cons, Nat.reduceAdd, Nat.reduceEqDiff, reduceCtorEq, decide_true, decide_false, zfc, zfa, and_self, zfd, eq_self]
  · intro i x hi hx hp
    have hi' : (i : Int) < (p.length : Int) := by omega
    have h1 : x.code = 2 := by
      by_cases h1 : x.code = 2
      · exact h1
      · simp [qqc, h1] at hp
    have h2 : x.c < look := by simpa [qqc, h1] using hp
    simp only [qge, Int.natCast_nonneg, Int.toNat_natCast, List.getElem?_map, Option.map_some, OpI.r, hx, hi', h1, h2, Ev.exec, qb, qe, qc, qai, Ev.Opnd.ev, Ev.Env.get, Ev.Env.set, Ev.look, qf, qv, qar, ql, List.length_map, ↓qn, Ev.it1, ↓reduceIte, List.length_cons, List.length_nil, List.drop_succ_cons, List.drop_zero, List.head?_cons, Nat.reduceAdd, Nat.reduceEqDiff, reduceCtorEq, decide_true, zfa, zfd, eq_self]
    exact ⟨_, rfl, rfl, rfl, rfl, rfl⟩
  · simp only [qge, Int.lt_irrefl, Ev.exec, qb, qe, qc, qai, Ev.Opnd.ev, Ev.Env.get, Ev.Env.set, Ev.look, ql, List.length_map, ↓qn, Ev.it1, ↓reduceIte, Nat.reduceEqDiff, reduceCtorEq, decide_false, zfa, eq_self]
    exact ⟨_, rfl, rfl, rfl, rfl⟩
theorem qrg : qa4 (evL T) qhv [(.fsl ((p).map OpI.r) c), (ii ps), (ii lps), (ii look)] = some (ii (qpf p ps lps look)) := by
  have h0 := qzc p c
  rw [qa4, qad qw4 qvi]
  cases hs : qqj p with
  | false =>
    rw [hs] at h0
    simp only [qgv, qpf, h0, hs, qh8, qj, Ev.exec, qb, qe, qc, qaw, qai, Ev.evs, Ev.Opnd.ev, Ev.Env.get, Ev.Env.set, Ev.look, qk, qi, qq, qaj, Ev.kill, qag, qg, qbb, qm, qh, qd, qx, ↓qn, ↓reduceIte, List.length_cons, List.length_nil, zfe, Nat.reduceAdd, reduceCtorEq, zfc, Bool.not_false, and_self, zfd, eq_self]
  | true =>
    rw [hs] at h0
    have hl : p.length ≤ 16 := by simp only [qqj, Bool.and_eq_true, decide_eq_true_eq] at hs; exact hs.1.2
    obtain ⟨⟨y1, e1, σ1⟩, k1, k2⟩ := qyp p c ps lps look hl
    obtain ⟨⟨y2, e2, σ2⟩, m1, m2⟩ := qyw p c lps look hl
    obtain ⟨⟨y3, e3, σ3⟩, n1, n2⟩ := qy2 p c look hl
    simp only at k2 m2 n2
    rcases k2 with ⟨q1, rfl, q2, rfl, q3, q4, q5⟩ | ⟨q1, x, _, rfl, q2, rfl, q3⟩
    · rcases m2 with ⟨r1, rfl, r2, rfl, r3, r4⟩ | ⟨r1, x, _, rfl, r2, rfl, r3⟩
      · rcases n2 with ⟨t1, rfl, t2, rfl⟩ | ⟨t1, x, _, rfl, t2, rfl, t3⟩
        · simp only [qgv, qpf, h0, hs, k1, q1, q2, q3, q4, q5, m1, r1, r2, r3, r4, n1, t1, t2, qh8, qj, Ev.exec, qb, qe, qc, qaw, qai, Ev.evs, Ev.Opnd.ev, Ev.Env.get, Ev.Env.set, Ev.look, qk, qi, qq, qaj, Ev.kill, qag, qs, Ev.keep, qal, qaf, qg, qbb, qm, qh, qd, qx, ↓qn, ↓qa3, ↓reduceIte, List.length_cons, List.length_nil, zfe, Nat.reduceAdd, Nat.reduceEqDiff, reduceCtorEq, zfc, Bool.not_true, zfa, Bool.true_eq_false, and_self, zfd, eq_self]
        · simp only [qgv, qpf, h0, hs, k1, q1, q2, q3, q4, q5, m1, r1, r2, r3, r4, n1, t1, t2, t3, qh8, qj, Ev.exec, qb, qe, qc, qaw, qai, Ev.evs, Ev.Opnd.ev, Ev.Env.get, Ev.Env.set, Ev.look, qk, qi, qq, qaj, Ev.kill, qag, qs, Ev.keep, qal, qaf, qg, qbb, qm, qh, qd, qx, ↓qn, ↓qa3, ↓reduceIte, List.length_cons, List.length_nil, zfe, Nat.reduceAdd, Nat.reduceEqDiff, reduceCtorEq, zfc, Bool.not_true, zfa, Bool.true_eq_false, and_self, zfd, eq_self]
      · simp only [qgv, qpf, h0, hs, k1, q1, q2, q3, q4, q5, m1, r1, r2, r3, qh8, qj, Ev.exec, qb, qe, qc, qaw, qai, Ev.evs, Ev.Opnd.ev, Ev.Env.get, Ev.Env.set, Ev.look, qk, qi, qq, qaj, Ev.kill, qag, qs, Ev.keep, qal, qaf, qg, qbb, qm, qh, qd, qx, ↓qn, ↓qa3, ↓reduceIte, List.length_cons, List.length_nil, zfe, Nat.reduceAdd, Nat.reduceEqDiff, reduceCtorEq, zfc, Bool.not_true, zfa, Bool.true_eq_false, and_self, zfd, eq_self]
    · simp only [qgv, qpf, h0, hs, k1, q1, q2, q3, qh8, qj, Ev.exec, qb, qe, qc, qaw, qai, Ev.evs, Ev.Opnd.ev, Ev.Env.get, Ev.Env.set, Ev.look, qk, qi, qq, qaj, Ev.kill, qag, qs, Ev.keep, qal, qaf, qg, qbb, qm, qh, qd, qx, ↓qn, ↓qa3, ↓reduceIte, List.length_cons, List.length_nil, zfe, Nat.reduceAdd, Nat.reduceEqDiff, reduceCtorEq, zfc, Bool.not_true, zfa, Bool.true_eq_false, and_self, zfd, eq_self]
end
set_option maxRecDepth 10000
structure Pr where
  prog : Int
  pc : Int
  alive : Bool
  timer : List Int
  deriving DecidableEq
def Pr.r (x : Pr) : List AV := [(ii x.prog), (ii x.pc), (bb x.alive), (.fsl ((x.timer).map qby) false)]
theorem pr_lo (n : Nat) (x : Pr) : los n x.r = true := by simp only [Pr.r, qw, qbb, qm, qh, qd, zfc, eq_self]
theorem pr_pl (x : Pr) : x.r.length = 4 ∧ qo x.r = true := ⟨rfl, rfl⟩
theorem qae (n : Nat) (l : List Pr) : qiu n (l.map Pr.r) = true := qkh (pr_lo n) l
theorem q0k (l : List Pr) : qcd 4 (l.map Pr.r) = true := qkt pr_pl l
structure Evt where
  time : Int
  key : List Int
  lp : Int
  kind : Int
  proc : Int
  arg : Int
  deriving DecidableEq
def Evt.r (x : Evt) : List AV := [(ii x.time), (.fsl ((x.key).map qby) false), (ii x.lp), (ii x.kind), (ii x.proc), (ii x.arg)]
theorem evt_lo (n : Nat) (x : Evt) : los n x.r = true := by simp only [Evt.r, qw, qbb, qm, qh, qd, zfc, eq_self]
theorem evt_pl (x : Evt) : x.r.length = 6 ∧ qo x.r = true := ⟨rfl, rfl⟩
theorem qaa (n : Nat) (l : List Evt) : qiu n (l.map Evt.r) = true := qkh (evt_lo n) l
theorem qe1 (l : List Evt) : qcd 6 (l.map Evt.r) = true := qkt evt_pl l
structure Lp where
  r0 : Int
  r1 : Int
  procs : List Pr
  sum : Int
  deriving DecidableEq
def Lp.r (x : Lp) : List AV := [(ii x.r0), (ii x.r1), (.fsl ((x.procs).map Pr.r) false), (ii x.sum)]
structure Ex where
  r0 : Int
  r1 : Int
  procs : List Pr
  sum : Int
  ev : Evt
  out : List Evt
  n : Int
  gone : List (List Int)
  over : Bool
def Ex.kid (x : Ex) : List Int := x.ev.key ++ [x.n]
def Ex.create (x : Ex) (d : Int) (e : Evt) : Ex :=
  { x with n := w64 (x.n + 1), out := if w64 (x.ev.time + d) > 1152921504606846976 then x.out else x.out ++ [⟨w64 (x.ev.time + d), x.kid, e.lp, e.kind, e.proc, e.arg⟩],
           over := if w64 (x.ev.time + d) > 1152921504606846976 then true else x.over }
structure Ex.Small (x : Ex) : Prop where
  procs : x.procs.length ≤ 1000
  out : x.out.length ≤ 1000
  gone : x.gone.length ≤ 1000
  key : x.ev.key.length ≤ 100000
theorem q02 (l : List Int) : qpk (l.map qby) (l.map qby) = true := qqd (fun x => by simp only [qby, qsu, qqf, q06, decide_true, zfc, eq_self]) l
theorem eq_procs (l : List Pr) : qpk (l.map Pr.r) (l.map Pr.r) = true := qqd (fun x => by simp only [Pr.r, q02, qsu, qqf, q06, q4l, q0u, decide_true, zfc, eq_self, beq_self_eq_true]) l
theorem eq_evts (l : List Evt) : qpk (l.map Evt.r) (l.map Evt.r) = true := qqd (fun x => by simp only [Evt.r, q02, qsu, qqf, q06, q0u, decide_true, zfc, eq_self, beq_self_eq_true]) l
theorem eq_keys (l : List (List Int)) : qpk (l.map qep) (l.map qep) = true := qqd (fun x => by simp only [qep, q02, qsu, qqf, q0u, zfc, eq_self, beq_self_eq_true]) l
set_option maxRecDepth 10000
def qor (a b : Int) : Int := if a < b then -1 else if a > b then 1 else 0
theorem qlb (a b : Int) : qa4 (evL T) qeg [(ii a), (ii b)] = some (ii (qor a b)) := by
  rw [qa4, qad qt7 qs7]
  by_cases h1 : a < b
  · simp only [qhk, qor, h1, qj, Ev.exec, qb, qe, qc, qai, Ev.Opnd.ev, Ev.Env.get, Ev.Env.set, Ev.look, qk, ql, qi, qq, qaj, Ev.kill, qag, qg, qbb, qx, ↓qn, ↓reduceIte, List.length_cons, List.length_nil, zfe, Nat.reduceAdd, Nat.reduceEqDiff, Int.reduceNeg, reduceCtorEq, decide_true, and_self, zfd, eq_self]
  by_cases h2 : a > b
  · simp only [qhk, qor, h1, h2, qj, Ev.exec, qb, qe, qc, qai, Ev.Opnd.ev, Ev.Env.get, Ev.Env.set, Ev.look, qk, ql, qbh, qi, qq, qaj, Ev.kill, qag, qg, qbb, qx, ↓qn, ↓reduceIte, List.length_cons, List.length_nil, zfe, Nat.reduceAdd, Nat.reduceEqDiff, Int.reduceNeg, reduceCtorEq, decide_true, decide_false, zfa, and_self, zfd, eq_self]
  · simp only [qhk, qor, h1, h2, qj, Ev.exec, qb, qe, qc, qai, Ev.Opnd.ev, Ev.Env.get, Ev.Env.set, Ev.look, qk, ql, qbh, qi, qq, qaj, Ev.kill, qag, qg, qbb, qx, ↓qn, ↓reduceIte, List.length_cons, List.length_nil, zfe, Nat.reduceAdd, Nat.reduceEqDiff, Int.reduceNeg, reduceCtorEq, decide_false, zfa, and_self, zfd, eq_self]
def qkn : List Int → List Int → Int
  | x :: a, y :: b => if x = y then qkn a b else qor x y
  | [], b => if b.length = 0 then 0 else -1
  | _ :: _, [] => 1
theorem qun : ∀ a b : List Int, ((a.zip b).all (fun z => decide (z.1 = z.2)) = true → qkn a b = qor a.length b.length) ∧ ∀ x, (a.zip b).find? (fun z => !decide (z.1 = z.2)) = some x → qkn a b = qor x.1 x.2
  | [], b => by
    refine ⟨fun _ => ?_, fun x h => by simp at h⟩
    cases b with
    | nil => rfl
    | cons y b =>
      have : ((0 : Nat) : Int) < ((y :: b).length : Int) := by simp only [List.length_cons]; omega
      simp only [qkn, List.length_cons, Nat.succ_ne_zero, if_false, qor, List.length_nil]
      rw [if_pos (by omega)]
  | x :: a, [] => by
    refine ⟨fun _ => ?_, fun x h => by simp at h⟩
    simp only [qkn, qor, List.length_cons, List.length_nil]
    rw [if_neg (by omega), if_pos (by omega)]
  | x :: a, y :: b => by
    obtain ⟨h1, h2⟩ := qun a b
    simp only [List.zip_cons_cons, List.all_cons, List.find?_cons, qkn, List.length_cons]
    by_cases h : x = y
    · simp only [h, decide_true, Bool.true_and, if_true, Bool.not_true]
      refine ⟨fun k => ?_, h2⟩
      rw [h1 k]; unfold qor
      have e1 : ((a.length : Int) < b.length) ↔ (((a.length + 1 : Nat) : Int) < ((b.length + 1 : Nat) : Int)) := by omega
      have e2 : ((a.length : Int) > b.length) ↔ (((a.length + 1 : Nat) : Int) > ((b.length + 1 : Nat) : Int)) := by omega
      simp only [e1, e2]
    · simp only [h, decide_false, Bool.false_and, if_false, Bool.not_false]
      exact ⟨fun k => by simp at k, fun z k => by simp at k; rw [← k]⟩
theorem qwo (a b : Int) : qor a b = 0 ↔ a = b := by
  unfold qor; split
  · constructor <;> intro h <;> omega
  split
  · constructor <;> intro h <;> omega
  · constructor <;> intro h <;> omega
theorem qt6 : ∀ a b : List Int, qkn a b = 0 ↔ a = b
  | [], [] => by simp [qkn]
  | [], y :: b => by simp [qkn]
  | x :: a, [] => by simp [qkn]
  | x :: a, y :: b => by
    simp only [qkn, List.cons.injEq]
    split
    next h => rw [qt6 a b]; simp [h]
    next h => rw [qwo]; simp [h]
section
variable (a b : List Int) (c d : Bool)
theorem q0g (h1 : a.length ≤ 9223372036854775807) (h2 : b.length ≤ 9223372036854775807) :
    ∃ y, itB (exec (evL T) itL none qdo) (qs [0, 1, 5] true 0) ⟨[(0, (.fsl ((a).map qby) c)), (1, (.fsl ((b).map qby) d)), (5, (ii 0))], []⟩ [] = some y ∧
      ((a.zip b).all (fun z => decide (z.1 = z.2)) = true ∧ (y.1 = .exit 0 ∧ y.2.1.marks = [] ∧ y.2.2 = [] ∧ Ev.look y.2.1.vars 0 = some (.fsl ((a).map qby) c) ∧ Ev.look y.2.1.vars 1 = some (.fsl ((b).map qby) d)) ∨
      (a.zip b).all (fun z => decide (z.1 = z.2)) = false ∧ ∃ x, (a.zip b).find? (fun z => !decide (z.1 = z.2)) = some x ∧ (y.1 = .ret ∧ y.2.1.marks = [] ∧ y.2.2 = [] ∧ Ev.look y.2.1.vars 4 = some (ii (qor x.1 x.2)))) := by
  have hzl : (a.zip b).length = min a.length b.length := List.length_zip
  refine qg9 (a.zip b) (fun i => ⟨[(0, (.fsl ((a).map qby) c)), (1, (.fsl ((b).map qby) d)), (5, (ii i))], []⟩) [] (fun z => decide (z.1 = z.2)) _ (fun x y => _) ?_ ?_ ?_
  · intro i x hi hx hp
    rw [hzl] at hi
    have hi' : (i : Int) < (a.length : Int) := by omega
    have hi2 : (i : Int) < (b.length : Int) := by omega
    have hw : IntKind.i64.wrap ((i : Int) + 1) = ((i + 1 : Nat) : Int) := by rw [qas (by omega) (by omega)]; simp
    obtain ⟨hxa, hxb⟩ := List.getElem?_zip_eq_some.1 hx
    have hp' := of_decide_eq_true hp
    simp only [qdo, Int.natCast_nonneg, Int.toNat_natCast, List.getElem?_map, Option.map_some, hxa, hxb, hi', hi2, hw, hp', qw, qby, Ev.exec, qb, qe, qc, qai, Ev.Opnd.ev, Ev.Env.get, Ev.Env.set, Ev.look, qf, qv, qao, qbe, ql, qs, Ev.keep, qal, qaf, qg, qbb, qm, List.length_map, ↓qn, Ev.it1, ↓reduceIte, List.length_cons, List.length_nil, zfe, List.head?_cons, Nat.reduceEqDiff, reduceCtorEq, decide_true, decide_false, zfc, zfa, and_self, ne_eq, not_true_eq_false, zfd, eq_self]
  · intro i x hi hx hp
    rw [hzl] at hi
    have hi' : (i : Int) < (a.length : Int) := by omega
    have hi2 : (i : Int) < (b.length : Int) := by omega
    obtain ⟨hxa, hxb⟩ := List.getElem?_zip_eq_some.1 hx
    have hp' : ¬ x.1 = x.2 := of_decide_eq_false hp
    have hc := qlb x.1 x.2
    simp only [qdo, Int.natCast_nonneg, Int.toNat_natCast, List.getElem?_map, Option.map_some, hxa, hxb, hi', hi2, hp', hc, qby, Ev.exec, qb, qe, qc, qaw, qai, Ev.evs, Ev.Opnd.ev, Ev.Env.get, Ev.Env.set, Ev.look, qf, qv, qbe, ql, qbb, qh, qd, List.length_map, ↓qn, Ev.it1, ↓reduceIte, List.length_cons, List.length_nil, List.head?_cons, Nat.reduceEqDiff, reduceCtorEq, decide_true, zfc, zfa, ne_eq, zfb, zfd, eq_self]
    exact ⟨_, rfl, rfl, rfl, rfl, rfl⟩
  · rw [hzl]
    by_cases hab : a.length ≤ b.length
    · rw [Nat.min_eq_left hab]
      simp only [qdo, Int.lt_irrefl, Ev.exec, qb, qe, qc, qai, Ev.Opnd.ev, Ev.Env.get, Ev.Env.set, Ev.Env.unset, Ev.look, ql, List.length_map, ↓qn, Ev.it1, ↓reduceIte, Nat.reduceEqDiff, reduceCtorEq, decide_false, zfa, eq_self]
      exact ⟨_, rfl, rfl, rfl, rfl, rfl, rfl⟩
    · rw [Nat.min_eq_right (by omega)]
      have h3 : (b.length : Int) < (a.length : Int) := by omega
      simp only [qdo, Int.lt_irrefl, h3, Ev.exec, qb, qe, qc, qai, Ev.Opnd.ev, Ev.Env.get, Ev.Env.set, Ev.look, ql, List.length_map, ↓qn, Ev.it1, ↓reduceIte, Nat.reduceEqDiff, reduceCtorEq, decide_true, decide_false, zfa, eq_self]
      exact ⟨_, rfl, rfl, rfl, rfl, rfl, rfl⟩
theorem qrj (h1 : a.length ≤ 9223372036854775807) (h2 : b.length ≤ 9223372036854775807) : qa4 (evL T) qdb [(.fsl ((a).map qby) c), (.fsl ((b).map qby) d)] = some (ii (qkn a b)) := by
  obtain ⟨⟨y, e, σ⟩, k1, k2⟩ := q0g a b c d h1 h2
  simp only at k2
  obtain ⟨z1, z2⟩ := qun a b
  rw [qa4, qad qp6 qpl]
  rcases k2 with ⟨k3, rfl, k4, rfl, k5, k6⟩ | ⟨k3, x, k7, rfl, k4, rfl, k5⟩
  · have hc := qlb a.length b.length
    rw [z1 k3]
    simp only [qf3, k1, k4, k5, k6, hc, qw, qj, Ev.exec, qb, qe, qc, qaw, qai, Ev.evs, Ev.Opnd.ev, Ev.Env.get, Ev.Env.set, Ev.look, qk, qi, qq, qaj, Ev.kill, qag, qs, Ev.keep, qal, qaf, qg, qbb, qm, qh, qd, qx, List.length_map, ↓qn, ↓qa3, ↓reduceIte, List.length_cons, List.length_nil, zfe, Nat.reduceAdd, Nat.reduceEqDiff, reduceCtorEq, zfc, and_self, zfd, eq_self]
  · rw [z2 x k7]
    simp only [qf3, k1, k4, k5, qw, qj, Ev.exec, qb, qe, qc, qai, Ev.Opnd.ev, Ev.Env.get, Ev.Env.set, Ev.look, qk, qi, qq, qaj, Ev.kill, qag, qs, Ev.keep, qal, qaf, qg, qbb, qm, qx, ↓qn, ↓qa3, ↓reduceIte, List.length_cons, List.length_nil, zfe, Nat.reduceAdd, Nat.reduceEqDiff, reduceCtorEq, zfc, and_self, zfd, eq_self]
theorem qof (h1 : a.length ≤ 9223372036854775807) (h2 : b.length ≤ 9223372036854775807) : qa4 (evL T) qdt [(.fsl ((a).map qby) c), (.fsl ((b).map qby) d)] = some (bb (decide (a = b))) := by
  have hk := qrj a b c d h1 h2
  have hz := qt6 a b
  rw [qa4, qad qua qs5]
  by_cases h : a = b
  · have h3 := hz.2 h
    rw [h3] at hk
    simp only [h, decide_true]
    simp only [h] at hk
    simp only [qi8, hk, qw, qj, Ev.exec, qb, qe, qc, qaw, qai, Ev.evs, Ev.Opnd.ev, Ev.Env.get, Ev.Env.set, Ev.look, qk, qar, qi, qq, qaj, Ev.kill, qag, qg, qbb, qm, qh, qd, qx, ↓qn, ↓reduceIte, List.length_cons, List.length_nil, zfe, Nat.reduceAdd, Nat.reduceEqDiff, reduceCtorEq, decide_true, zfc, and_self, zfd, eq_self]
  · have h3 : ¬ qkn a b = 0 := fun k => h (hz.1 k)
    simp only [h, decide_false]
    simp only [qi8, hk, h3, qw, qj, Ev.exec, qb, qe, qc, qaw, qai, Ev.evs, Ev.Opnd.ev, Ev.Env.get, Ev.Env.set, Ev.look, qk, qar, qi, qq, qaj, Ev.kill, qag, qg, qbb, qm, qh, qd, qx, ↓qn, ↓reduceIte, List.length_cons, List.length_nil, zfe, Nat.reduceAdd, Nat.reduceEqDiff, reduceCtorEq, decide_false, zfc, and_self, zfd, eq_self]
end
structure Evt.Short (x : Evt) : Prop where
  key : x.key.length ≤ 9223372036854775807
theorem qu1 (x y : Evt) (hx : x.key.length ≤ 9223372036854775807) (hy : y.key.length ≤ 9223372036854775807) : qa4 (evL T) qem [(.agg [(ii x.time), (.fsl ((x.key).map qby) false), (ii x.lp), (ii x.kind), (ii x.proc), (ii x.arg)]), (.agg [(ii y.time), (.fsl ((y.key).map qby) false), (ii y.lp), (ii y.kind), (ii y.proc), (ii y.arg)])] = some (bb (decide (x = y))) := by
  obtain ⟨xt, xk, xl, xi, xp, xa⟩ := x
  obtain ⟨yt, yk, yl, yi, yp, ya⟩ := y
  have hk := qof xk yk false false hx hy
  simp only [Evt.mk.injEq]
  rw [qa4, qad qsa qrd]
  by_cases h1 : xt = yt
  case neg => simp only [qc2, h1, false_and, decide_false, qj, Ev.exec, qb, qe, qc, qai, Ev.Opnd.ev, Ev.Env.get, Ev.Env.set, Ev.Env.unset, Ev.look, qk, qf, qv, Ev.AV.cells, qo, Ev.AV.plain, qar, qi, qq, qaj, Ev.kill, qag, qg, qbb, qx, ↓qn, ↓reduceIte, List.length_cons, List.length_nil, zfe, List.drop_zero, List.head?_cons, Nat.reduceAdd, Nat.reduceEqDiff, reduceCtorEq, decide_false, zfc, zfa, and_self, ne_eq, zfb, zff, zfd, eq_self, false_and]
  by_cases h2 : xk = yk
  case neg =>
    simp only [h2, decide_false] at hk
    simp only [qc2, h1, h2, hk, qw, false_and, and_false, decide_false, qj, Ev.exec, qb, qe, qc, qaw, qai, Ev.evs, Ev.Opnd.ev, Ev.Env.get, Ev.Env.set, Ev.Env.unset, Ev.look, qk, qf, qv, Ev.AV.cells, qo, Ev.AV.plain, qar, qi, qq, qaj, Ev.kill, qag, qg, qbb, qm, qh, qd, qx, ↓qn, ↓reduceIte, List.length_cons, List.length_nil, zfe, List.drop_succ_cons, List.drop_zero, List.head?_cons, Nat.reduceAdd, Nat.reduceEqDiff, reduceCtorEq, decide_true, decide_false, zfc, zfa, and_self, ne_eq, zfb, zff, zfd, eq_self, false_and, and_false]
  simp only [h2, decide_true] at hk
  by_cases h3 : xl = yl
  case neg => simp only [qc2, h1, h2, h3, hk, qw, false_and, and_false, decide_false, qj, Ev.exec, qb, qe, qc, qaw, qai, Ev.evs, Ev.Opnd.ev, Ev.Env.get, Ev.Env.set, Ev.Env.unset, Ev.look, qk, qf, qv, Ev.AV.cells, qo, Ev.AV.plain, qar, qi, qq, qaj, Ev.kill, qag, qg, qbb, qm, qh, qd, qx, ↓qn, ↓reduceIte, List.length_cons, List.length_nil, zfe, List.drop_succ_cons, List.drop_zero, List.head?_cons, Nat.reduceAdd, Nat.reduceEqDiff, reduceCtorEq, decide_true, decide_false, zfc, zfa, and_self, ne_eq, zfb, zff, zfd, eq_self, false_and, and_false]
  by_cases h4 : xi = yi
  case neg => simp only [qc2, h1, h2, h3, h4, hk, qw, false_and, and_false, decide_false, qj, Ev.exec, qb, qe, qc, qaw, qai, Ev.evs, Ev.Opnd.ev, Ev.Env.get, Ev.Env.set, Ev.Env.unset, Ev.look, qk, qf, qv, Ev.AV.cells, qo, Ev.AV.plain, qar, qi, qq, qaj, Ev.kill, qag, qg, qbb, qm, qh, qd, qx, ↓qn, ↓reduceIte, List.length_cons, List.length_nil, zfe, List.drop_succ_cons, List.drop_zero, List.head?_cons, Nat.reduceAdd, Nat.reduceEqDiff, reduceCtorEq, decide_true, decide_false, zfc, zfa, and_self, ne_eq, zfb, zff, zfd, eq_self, false_and, and_false]
  by_cases h5 : xp = yp
  case neg => simp only [qc2, h1, h2, h3, h4, h5, hk, qw, false_and, and_false, decide_false, qj, Ev.exec, qb, qe, qc, qaw, qai, Ev.evs, Ev.Opnd.ev, Ev.Env.get, Ev.Env.set, Ev.Env.unset, Ev.look, qk, qf, qv, Ev.AV.cells, qo, Ev.AV.plain, qar, qi, qq, qaj, Ev.kill, qag, qg, qbb, qm, qh, qd, qx, ↓qn, ↓reduceIte, List.length_cons, List.length_nil, zfe, List.drop_succ_cons, List.drop_zero, List.head?_cons, Nat.reduceAdd, Nat.reduceEqDiff, reduceCtorEq, decide_true, decide_false, zfc, zfa, and_self, ne_eq, zfb, zff, zfd, eq_self, false_and, and_false]
  by_cases h6 : xa = ya
  case neg => simp only [qc2, h1, h2, h3, h4, h5, h6, hk, qw, and_false, decide_false, qj, Ev.exec, qb, qe, qc, qaw, qai, Ev.evs, Ev.Opnd.ev, Ev.Env.get, Ev.Env.set, Ev.look, qk, qf, qv, Ev.AV.cells, qo, Ev.AV.plain, qar, qi, qq, qaj, Ev.kill, qag, qg, qbb, qm, qh, qd, qx, ↓qn, ↓reduceIte, List.length_cons, List.length_nil, zfe, List.drop_succ_cons, List.drop_zero, List.head?_cons, Nat.reduceAdd, Nat.reduceEqDiff, reduceCtorEq, decide_true, decide_false, zfc, zfa, and_self, ne_eq, zfb, zff, zfd, eq_self, and_false]
  simp only [qc2, h1, h2, h3, h4, h5, h6, hk, qw, and_self, decide_true, qj, Ev.exec, qb, qe, qc, qaw, qai, Ev.evs, Ev.Opnd.ev, Ev.Env.get, Ev.Env.set, Ev.look, qk, qf, qv, Ev.AV.cells, qo, Ev.AV.plain, qar, qi, qq, qaj, Ev.kill, qag, qg, qbb, qm, qh, qd, qx, ↓qn, ↓reduceIte, List.length_cons, List.length_nil, zfe, List.drop_succ_cons, List.drop_zero, List.head?_cons, Nat.reduceAdd, Nat.reduceEqDiff, reduceCtorEq, decide_true, zfc, zfa, and_self, ne_eq, zfb, zff, zfd, eq_self]
theorem qmj {α : Type} [DecidableEq α] : ∀ {a b : List α}, a.length = b.length → ((a.zip b).all (fun z => decide (z.1 = z.2)) = true ↔ a = b)
  | [], [], _ => by simp
  | x :: a, y :: b, h => by
    rw [List.zip_cons_cons, List.all_cons, Bool.and_eq_true, decide_eq_true_eq, qmj (a := a) (b := b) (by simpa using h), List.cons.injEq]
  | [], _ :: _, h => by simp at h
  | _ :: _, [], h => by simp at h
section
variable (a b : List Evt) (c d : Bool)
theorem qo3 (h1 : a.length ≤ 9223372036854775807) (h2 : b.length ≤ 9223372036854775807) (ha : ∀ x ∈ a, x.key.length ≤ 9223372036854775807) (hb : ∀ x ∈ b, x.key.length ≤ 9223372036854775807) :
    qa4 (evL T) qc7 [(.fsl ((a).map Evt.r) c), (.fsl ((b).map Evt.r) d)] = some (bb (decide (a = b))) := by
  rw [qa4, qad qq5 qqe]
  by_cases hab : a.length = b.length
  case neg =>
    have hab' : ¬ (a.length : Int) = (b.length : Int) := by omega
    have : ¬ a = b := fun h => hab (by rw [h])
    simp only [qe9, hab', this, qj, Ev.exec, qb, qe, qc, qai, Ev.Opnd.ev, Ev.Env.get, Ev.Env.set, Ev.look, qk, qbe, qi, qq, qaj, Ev.kill, qag, qg, qbb, qx, List.length_map, ↓qn, ↓reduceIte, List.length_cons, List.length_nil, zfe, Nat.reduceAdd, Nat.reduceEqDiff, reduceCtorEq, decide_true, decide_false, and_self, ne_eq, zfb, zfd, eq_self]
  have hab' : (a.length : Int) = (b.length : Int) := by omega
  have hzl : (a.zip b).length = a.length := by rw [List.length_zip, ← hab, Nat.min_self]
  have hL : ∃ y, itB (exec (evL T) itL none qew) (qs [0, 1, 5] true 0) ⟨[(0, (.fsl ((a).map Evt.r) c)), (1, (.fsl ((b).map Evt.r) d)), (5, (ii 0))], []⟩ [] = some y ∧ ((a.zip b).all (fun z => decide (z.1 = z.2)) = true ∧ (y.1 = .exit 0 ∧ y.2.1.marks = [] ∧ y.2.2 = []) ∨
      (a.zip b).all (fun z => decide (z.1 = z.2)) = false ∧ ∃ x, (a.zip b).find? (fun z => !decide (z.1 = z.2)) = some x ∧ (y.1 = .ret ∧ y.2.1.marks = [] ∧ y.2.2 = [] ∧ Ev.look y.2.1.vars 4 = some (bb false))) := by
    refine qg9 (a.zip b) (fun i => ⟨[(0, (.fsl ((a).map Evt.r) c)), (1, (.fsl ((b).map Evt.r) d)), (5, (ii i))], []⟩) [] (fun z => decide (z.1 = z.2)) _ (fun _ y => _) ?_ ?_ ?_
    · intro i x hi hx hp
      rw [hzl] at hi
      have hi' : (i : Int) < (a.length : Int) := by omega
      have hw : IntKind.i64.wrap ((i : Int) + 1) = ((i + 1 : Nat) : Int) := by rw [qas (by omega) (by omega)]; simp
      obtain ⟨hxa, hxb⟩ := List.getElem?_zip_eq_some.1 hx
      have hv := qu1 x.1 x.2 (ha _ (List.mem_of_getElem? hxa)) (hb _ (List.mem_of_getElem? hxb))
      rw [hp] at hv
      simp only [qew, Int.natCast_nonneg, Int.toNat_natCast, List.getElem?_map, Option.map_some, hxa, hxb, hi', hw, hv, qaa, qw, Evt.r, Ev.exec, qb, qe, qc, qaw, qai, Ev.evs, Ev.Opnd.ev, Ev.Env.get, Ev.Env.set, Ev.look, qf, qv, qao, ql, qs, Ev.keep, qal, qaf, qg, qbb, qa2, qm, qh, qd, List.length_map, ↓qn, Ev.it1, ↓reduceIte, List.length_cons, List.length_nil, List.take_succ_cons, zfe, Nat.reduceAdd, Nat.reduceEqDiff, reduceCtorEq, decide_true, zfc, Bool.not_true, zfa, and_self, zfd, Nat.le_refl, eq_self]
    · intro i x hi hx hp
      rw [hzl] at hi
      have hi' : (i : Int) < (a.length : Int) := by omega
      obtain ⟨hxa, hxb⟩ := List.getElem?_zip_eq_some.1 hx
      have hv := qu1 x.1 x.2 (ha _ (List.mem_of_getElem? hxa)) (hb _ (List.mem_of_getElem? hxb))
      rw [hp] at hv
      simp only [qew, Int.natCast_nonneg, Int.toNat_natCast, List.getElem?_map, Option.map_some, hxa, hxb, hi', hv, qw, Evt.r, Ev.exec, qb, qe, qc, qaw, qai, Ev.evs, Ev.Opnd.ev, Ev.Env.get, Ev.Env.set, Ev.look, qf, qv, ql, qbb, qa2, qm, qh, qd, List.length_map, ↓qn, Ev.it1, ↓reduceIte, List.length_cons, List.length_nil, List.take_succ_cons, zfe, Nat.reduceAdd, Nat.reduceEqDiff, reduceCtorEq, decide_true, zfc, Bool.not_false, zfd, Nat.le_refl, eq_self]
      exact ⟨_, rfl, rfl, rfl, rfl, rfl⟩
    · rw [hzl]
      simp only [qew, Int.lt_irrefl, Ev.exec, qb, qe, qc, qai, Ev.Opnd.ev, Ev.Env.get, Ev.Env.set, Ev.look, ql, List.length_map, ↓qn, Ev.it1, ↓reduceIte, Nat.reduceEqDiff, reduceCtorEq, decide_false, zfa, eq_self]
      exact ⟨_, rfl, rfl, rfl, rfl⟩
  obtain ⟨⟨y, e, σ⟩, k1, k2⟩ := hL
  simp only at k2
  rcases k2 with ⟨k3, rfl, k4, rfl⟩ | ⟨k3, x, _, rfl, k4, rfl, k5⟩
  · have : a = b := (qmj hab).1 k3
    subst this
    simp only [qe9, k1, k4, qaa, qj, Ev.exec, qb, qe, qc, qai, Ev.Opnd.ev, Ev.Env.get, Ev.Env.set, Ev.look, qk, qbe, qi, qq, qaj, Ev.kill, qag, qs, Ev.keep, qal, qaf, qg, qbb, qm, qx, List.length_map, ↓qn, ↓qa3, ↓reduceIte, List.length_cons, List.length_nil, zfe, Nat.reduceAdd, Nat.reduceEqDiff, reduceCtorEq, decide_true, decide_false, zfc, zfa, and_self, ne_eq, not_true_eq_false, zfd, eq_self]
  · have : ¬ a = b := fun h => by rw [(qmj hab).2 h] at k3; cases k3
    simp only [this]
    simp only [qe9, hab', k1, k4, k5, qaa, qj, Ev.exec, qb, qe, qc, qai, Ev.Opnd.ev, Ev.Env.get, Ev.Env.set, Ev.look, qk, qbe, qi, qq, qaj, Ev.kill, qag, qs, Ev.keep, qal, qaf, qg, qbb, qm, qx, List.length_map, ↓qn, ↓qa3, ↓reduceIte, List.length_cons, List.length_nil, zfe, Nat.reduceAdd, Nat.reduceEqDiff, reduceCtorEq, decide_false, zfc, zfa, and_self, ne_eq, not_true_eq_false, zfd, eq_self]
end
set_option maxRecDepth 10000
theorem q2m (a : Int) : qa4 (evL T) qez [(ii a)] = some (bb false) := by
  rw [qa4, qad qtr qsy]
  simp only [qkk, qj, Ev.exec, qb, qe, qc, qai, Ev.Opnd.ev, Ev.Env.get, Ev.Env.set, Ev.look, qk, qbe, qi, qq, qaj, Ev.kill, qag, qg, qbb, qx, ↓qn, ↓reduceIte, List.length_cons, List.length_nil, zfe, Nat.reduceEqDiff, reduceCtorEq, decide_false, and_self, ne_eq, not_true_eq_false, zfd, eq_self]
theorem qn2 (a b : Int) : qa4 (evL T) qec [(ii a), (ii b)] = some (ii (qor a b)) := by
  have h0 := q2m
  rw [qa4, qad qsk qq3]
  by_cases h1 : a < b
  · simp only [qf1, qor, h0, h1, qj, Ev.exec, qb, qe, qc, qaw, qai, Ev.evs, Ev.Opnd.ev, Ev.Env.get, Ev.Env.set, Ev.look, qk, ql, qi, qq, qaj, Ev.kill, qag, qg, qbb, qh, qd, qx, ↓qn, ↓reduceIte, List.length_cons, List.length_nil, zfe, Nat.reduceAdd, Nat.reduceEqDiff, Int.reduceNeg, reduceCtorEq, decide_true, zfc, zfa, and_self, zfd, eq_self]
  by_cases h2 : a > b
  · simp only [qf1, qor, h0, h1, h2, qj, Ev.exec, qb, qe, qc, qaw, qai, Ev.evs, Ev.Opnd.ev, Ev.Env.get, Ev.Env.set, Ev.look, qk, ql, qbh, qi, qq, qaj, Ev.kill, qag, qg, qbb, qh, qd, qx, ↓qn, ↓reduceIte, List.length_cons, List.length_nil, zfe, Nat.reduceAdd, Nat.reduceEqDiff, Int.reduceNeg, reduceCtorEq, decide_true, decide_false, zfc, zfa, and_self, zfd, eq_self]
  · simp only [qf1, qor, h0, h1, h2, qj, Ev.exec, qb, qe, qc, qaw, qai, Ev.evs, Ev.Opnd.ev, Ev.Env.get, Ev.Env.set, Ev.look, qk, ql, qbh, qi, qq, qaj, Ev.kill, qag, qg, qbb, qh, qd, qx, ↓qn, ↓reduceIte, List.length_cons, List.length_nil, zfe, Nat.reduceAdd, Nat.reduceEqDiff, Int.reduceNeg, reduceCtorEq, decide_false, zfc, zfa, and_self, zfd, eq_self]
theorem q6u (x z : Int) (c : Bool) : qa4 (evL T) qjc [(.fsl (([x, z]).map qby) c)] = some (ii (if x = 0 then z else x)) := by
  have hL : ∃ y, itB (exec (evL T) itL none qi7) (qs [3, 6, 7, 8] true 0) ⟨[(3, (ii 0)), (6, (.fsl (([x, z]).map qby) c)), (7, (ii 2)), (8, (ii 0))], []⟩ [] = some y ∧ ([x, z].all (fun v => decide (v = 0)) = true ∧ (y.1 = .exit 0 ∧ y.2.1.marks = [] ∧ y.2.2 = [] ∧ Ev.look y.2.1.vars 3 = some (ii 0)) ∨
      [x, z].all (fun v => decide (v = 0)) = false ∧ ∃ v, [x, z].find? (fun v => !decide (v = 0)) = some v ∧ (y.1 = .ret ∧ y.2.1.marks = [] ∧ y.2.2 = [] ∧ Ev.look y.2.1.vars 2 = some (ii v))) := by
    refine qg9 [x, z] (fun i => ⟨[(3, (ii 0)), (6, (.fsl (([x, z]).map qby) c)), (7, (ii 2)), (8, (ii i))], []⟩) [] (fun v => decide (v = 0)) _ (fun v y => _) ?_ ?_ ?_
    · intro i v hi hv hp
      have hi2 : (i : Int) < 2 := by simp at hi; omega
      have hw : IntKind.i64.wrap ((i : Int) + 1) = ((i + 1 : Nat) : Int) := by rw [qas (by omega) (by omega)]; simp
      have hp' := of_decide_eq_true hp
      subst hp'
      have hl := qw 0 [x, z]
      generalize [x, z] = l at hv hl ⊢
      simp only [qi7, Int.natCast_nonneg, Int.toNat_natCast, List.getElem?_map, Option.map_some, hv, hl, hi2, hw, qby, Ev.exec, qb, qe, qc, qai, Ev.Opnd.ev, Ev.Env.get, Ev.Env.set, Ev.look, qf, qv, qao, qbe, ql, qs, Ev.keep, qal, qaf, qg, qbb, qm, ↓qn, Ev.it1, ↓reduceIte, List.length_cons, List.length_nil, zfe, List.head?_cons, Nat.reduceEqDiff, decide_true, decide_false, zfc, zfa, and_self, ne_eq, not_true_eq_false, zfd, eq_self]
    · intro i v hi hv hp
      have hi2 : (i : Int) < 2 := by simp at hi; omega
      have hp' : ¬ v = 0 := of_decide_eq_false hp
      have hl := qw 0 [x, z]
      generalize [x, z] = l at hv hl ⊢
      simp only [qi7, Int.natCast_nonneg, Int.toNat_natCast, List.getElem?_map, Option.map_some, hv, hi2, hp', qby, Ev.exec, qb, qe, qc, qai, Ev.Opnd.ev, Ev.Env.get, Ev.Env.set, Ev.look, qf, qv, qbe, ql, ↓qn, Ev.it1, ↓reduceIte, List.length_cons, List.length_nil, List.head?_cons, Nat.reduceEqDiff, decide_true, zfa, ne_eq, zfb, zfd, eq_self]
      exact ⟨_, rfl, rfl, rfl, rfl, rfl⟩
    · have hl := qw 0 [x, z]
      rw [show ([x, z] : List Int).length = 2 from rfl]
      simp only [qi7, Int.lt_irrefl, Int.cast_ofNat_Int, Ev.exec, qb, qe, qc, qai, Ev.Opnd.ev, Ev.Env.get, Ev.Env.set, Ev.look, ql, ↓qn, Ev.it1, ↓reduceIte, Nat.reduceEqDiff, Int.cast_ofNat_Int, decide_false, zfa, eq_self]
      exact ⟨_, rfl, rfl, rfl, rfl, rfl⟩
  obtain ⟨⟨y, e, σ⟩, k1, k2⟩ := hL
  simp only at k2
  have hl := qw 0 [x, z]
  have hn : ([x, z].map qby).length = 2 := rfl
  rw [qa4, qad qze qx1]
  rcases k2 with ⟨k3, rfl, k4, rfl, k5⟩ | ⟨k3, v, k6, rfl, k4, rfl, k5⟩
  · have h1 : x = 0 ∧ z = 0 := by simpa using k3
    have h2 : (if x = 0 then z else x) = 0 := by rw [if_pos h1.1, h1.2]
    rw [h2]
    generalize [x, z].map qby = l at k1 hl hn ⊢
    simp only [qk5, hn, Int.cast_ofNat_Int, k1, k4, k5, hl, qj, Ev.exec, qb, qe, qc, qai, Ev.Opnd.ev, Ev.Env.get, Ev.Env.set, Ev.look, qk, qi, qq, qaj, Ev.kill, qag, qs, Ev.keep, qal, qaf, qg, qbb, qm, qx, ↓qn, ↓qa3, ↓reduceIte, List.length_cons, List.length_nil, zfe, Nat.reduceEqDiff, Int.cast_ofNat_Int, reduceCtorEq, zfc, and_self, zfd, eq_self]
  · have h1 : (if x = 0 then z else x) = v := by
      rw [List.find?_cons] at k6
      by_cases hx : x = 0
      · rw [if_pos hx]; simp [hx] at k6; exact k6.2
      · rw [if_neg hx]; simp [hx] at k6; exact k6
    rw [h1]
    generalize [x, z].map qby = l at k1 hl hn ⊢
    simp only [qk5, hn, Int.cast_ofNat_Int, k1, k4, k5, hl, qj, Ev.exec, qb, qe, qc, qai, Ev.Opnd.ev, Ev.Env.get, Ev.Env.set, Ev.look, qk, qi, qq, qaj, Ev.kill, qag, qs, Ev.keep, qal, qaf, qg, qbb, qm, qx, ↓qn, ↓qa3, ↓reduceIte, List.length_cons, List.length_nil, zfe, Nat.reduceEqDiff, Int.cast_ofNat_Int, reduceCtorEq, zfc, and_self, zfd, eq_self]
theorem qyy (x z : Int) (c : Bool) : qa4 (evL T) qhr [(.fsl (([x, z]).map qby) c)] = some (ii (if x = 0 then z else x)) := by
  have h := q6u x z c
  have hl := qw 0 [x, z]
  generalize [x, z].map qby = l at h hl ⊢
  rw [qa4, qad qw9 qv2]
  simp only [qlx, h, hl, qj, Ev.exec, qb, qe, qc, qaw, qai, Ev.evs, Ev.Opnd.ev, Ev.Env.get, Ev.Env.set, Ev.look, qk, qi, qq, qaj, Ev.kill, qag, qg, qbb, qm, qh, qd, qx, ↓qn, ↓reduceIte, List.length_cons, List.length_nil, zfe, reduceCtorEq, zfc, and_self, zfd, eq_self]
section
variable (a b : List Int) (c d : Bool)
theorem qvf (h1 : a.length ≤ 9223372036854775807) (h2 : b.length ≤ 9223372036854775807) :
    ∃ y, itB (exec (evL T) itL none qcn) (qs [0, 1, 9, 10, 11] true 0) ⟨[(0, (.fsl ((a).map qby) c)), (1, (.fsl ((b).map qby) d)), (9, (.fsl ((a).map qby) c)), (10, (ii a.length)), (11, (ii 0))], []⟩ [] = some y ∧
      ((a.zip b).all (fun z => decide (z.1 = z.2)) = true ∧ (a.length ≤ b.length ∧ y.1 = .exit 0 ∧ y.2.1.marks = [] ∧ y.2.2 = [] ∧ Ev.look y.2.1.vars 0 = some (.fsl ((a).map qby) c) ∧ Ev.look y.2.1.vars 1 = some (.fsl ((b).map qby) d) ∨ b.length < a.length ∧ y.1 = .ret ∧ y.2.1.marks = [] ∧ y.2.2 = [] ∧ Ev.look y.2.1.vars 4 = some (ii 1)) ∨
      (a.zip b).all (fun z => decide (z.1 = z.2)) = false ∧ ∃ x, (a.zip b).find? (fun z => !decide (z.1 = z.2)) = some x ∧ (y.1 = .ret ∧ y.2.1.marks = [] ∧ y.2.2 = [] ∧ Ev.look y.2.1.vars 4 = some (ii (qor x.1 x.2)))) := by
  have hzl : (a.zip b).length = min a.length b.length := List.length_zip
  refine qg9 (a.zip b) (fun i => ⟨[(0, (.fsl ((a).map qby) c)), (1, (.fsl ((b).map qby) d)), (9, (.fsl ((a).map qby) c)), (10, (ii a.length)), (11, (ii i))], []⟩) [] (fun z => decide (z.1 = z.2)) _ (fun x y => _) ?_ ?_ ?_
  · intro i x hi hx hp
    rw [hzl] at hi
    have hi' : (i : Int) < (a.length : Int) := by omega
    have hi2 : ¬ (i : Int) ≥ (b.length : Int) := by omega
    have hw : IntKind.i64.wrap ((i : Int) + 1) = ((i + 1 : Nat) : Int) := by rw [qas (by omega) (by omega)]; simp
    obtain ⟨hxa, hxb⟩ := List.getElem?_zip_eq_some.1 hx
    have hp' := of_decide_eq_true hp
    have hc := qn2 x.1 x.2
    rw [(qwo x.1 x.2).2 hp'] at hc
    simp only [qcn, Int.natCast_nonneg, Int.toNat_natCast, List.getElem?_map, Option.map_some, hxa, hxb, hi', hi2, hw, hc, qw, qby, Ev.exec, qb, qe, qc, qaw, qai, Ev.evs, Ev.Opnd.ev, Ev.Env.get, Ev.Env.set, Ev.look, qf, qv, qao, qbe, ql, qbu, qs, Ev.keep, qal, qaf, qg, qbb, qm, qh, qd, List.length_map, ↓qn, Ev.it1, ↓reduceIte, List.length_cons, List.length_nil, zfe, List.head?_cons, Nat.reduceEqDiff, reduceCtorEq, decide_true, decide_false, zfc, zfa, and_self, ne_eq, not_true_eq_false, zfd, eq_self]
  · intro i x hi hx hp
    rw [hzl] at hi
    have hi' : (i : Int) < (a.length : Int) := by omega
    have hi2 : ¬ (i : Int) ≥ (b.length : Int) := by omega
    obtain ⟨hxa, hxb⟩ := List.getElem?_zip_eq_some.1 hx
    have hp' : ¬ x.1 = x.2 := of_decide_eq_false hp
    have hc := qn2 x.1 x.2
    have hz : ¬ qor x.1 x.2 = 0 := fun h => hp' ((qwo _ _).1 h)
    simp only [qcn, Int.natCast_nonneg, Int.toNat_natCast, List.getElem?_map, Option.map_some, hxa, hxb, hi', hi2, hz, hc, qby, Ev.exec, qb, qe, qc, qaw, qai, Ev.evs, Ev.Opnd.ev, Ev.Env.get, Ev.Env.set, Ev.look, qf, qv, qbe, ql, qbu, qbb, qh, qd, List.length_map, ↓qn, Ev.it1, ↓reduceIte, List.length_cons, List.length_nil, List.head?_cons, Nat.reduceEqDiff, reduceCtorEq, decide_true, decide_false, zfc, zfa, ne_eq, zfb, zfd, eq_self]
    exact ⟨_, rfl, rfl, rfl, rfl, rfl⟩
  · rw [hzl]
    by_cases hab : a.length ≤ b.length
    · rw [Nat.min_eq_left hab]
      simp only [qcn, Int.lt_irrefl, Ev.exec, qb, qe, qc, qai, Ev.Opnd.ev, Ev.Env.get, Ev.Env.set, Ev.look, ql, ↓qn, Ev.it1, ↓reduceIte, Nat.reduceEqDiff, reduceCtorEq, decide_false, zfa, eq_self]
      exact ⟨_, rfl, .inl ⟨hab, rfl, rfl, rfl, rfl, rfl⟩⟩
    · rw [Nat.min_eq_right (by omega)]
      have h3 : (b.length : Int) < (a.length : Int) := by omega
      obtain ⟨x, hx⟩ : ∃ x, a[b.length]? = some x := ⟨_, List.getElem?_eq_getElem (by omega)⟩
      have h4 : (b.length : Int) ≥ (b.length : Int) := Int.le_refl _
      simp only [qcn, Int.natCast_nonneg, Int.toNat_natCast, List.getElem?_map, Option.map_some, h3, h4, hx, qby, Ev.exec, qb, qe, qc, qai, Ev.Opnd.ev, Ev.Env.get, Ev.Env.set, Ev.look, qf, qv, ql, qbu, List.length_map, ↓qn, Ev.it1, ↓reduceIte, List.length_cons, List.length_nil, List.head?_cons, Nat.reduceEqDiff, reduceCtorEq, decide_true, zfa, zfd, eq_self]
      exact ⟨_, rfl, .inr ⟨by omega, rfl, rfl, rfl, rfl⟩⟩
theorem qtq (h1 : a.length ≤ 9223372036854775807) (h2 : b.length ≤ 9223372036854775807) : qa4 (evL T) qck [(.fsl ((a).map qby) c), (.fsl ((b).map qby) d)] = some (ii (qkn a b)) := by
  obtain ⟨⟨y, e, σ⟩, k1, k2⟩ := qvf a b c d h1 h2
  simp only at k2
  obtain ⟨z1, z2⟩ := qun a b
  rw [qa4, qad ql9 qlw]
  rcases k2 with ⟨k3, ⟨k7, rfl, k4, rfl, k5, k6⟩ | ⟨k7, rfl, k4, rfl, k5⟩⟩ | ⟨k3, x, k7, rfl, k4, rfl, k5⟩
  · rw [z1 k3]
    by_cases hl : (a.length : Int) < (b.length : Int)
    · simp only [qcl, k1, k4, k5, k6, hl, qor, qw, qj, Ev.exec, qb, qe, qc, qai, Ev.Opnd.ev, Ev.Env.get, Ev.Env.set, Ev.look, qk, ql, qi, qq, qaj, Ev.kill, qag, qs, Ev.keep, qal, qaf, qg, qbb, qm, qx, List.length_map, ↓qn, ↓qa3, ↓reduceIte, List.length_cons, List.length_nil, zfe, Nat.reduceAdd, Nat.reduceEqDiff, Int.reduceNeg, reduceCtorEq, decide_true, zfc, and_self, zfd, eq_self]
    · have hg : ¬ (a.length : Int) > (b.length : Int) := by omega
      simp only [qcl, k1, k4, k5, k6, hl, hg, qor, qw, qj, Ev.exec, qb, qe, qc, qai, Ev.Opnd.ev, Ev.Env.get, Ev.Env.set, Ev.look, qk, ql, qi, qq, qaj, Ev.kill, qag, qs, Ev.keep, qal, qaf, qg, qbb, qm, qx, List.length_map, ↓qn, ↓qa3, ↓reduceIte, List.length_cons, List.length_nil, zfe, Nat.reduceAdd, Nat.reduceEqDiff, Int.reduceNeg, reduceCtorEq, decide_false, zfc, zfa, and_self, zfd, eq_self]
  · have hl : ¬ (a.length : Int) < (b.length : Int) := by omega
    have hg : (a.length : Int) > (b.length : Int) := by omega
    rw [z1 k3]
    simp only [qcl, k1, k4, k5, hl, hg, qor, qw, qj, Ev.exec, qb, qe, qc, qai, Ev.Opnd.ev, Ev.Env.get, Ev.Env.set, Ev.look, qk, qi, qq, qaj, Ev.kill, qag, qs, Ev.keep, qal, qaf, qg, qbb, qm, qx, List.length_map, ↓qn, ↓qa3, ↓reduceIte, List.length_cons, List.length_nil, zfe, Nat.reduceAdd, Nat.reduceEqDiff, Int.reduceNeg, reduceCtorEq, zfc, and_self, zfd, eq_self]
  · rw [z2 x k7]
    simp only [qcl, k1, k4, k5, qw, qj, Ev.exec, qb, qe, qc, qai, Ev.Opnd.ev, Ev.Env.get, Ev.Env.set, Ev.look, qk, qi, qq, qaj, Ev.kill, qag, qs, Ev.keep, qal, qaf, qg, qbb, qm, qx, List.length_map, ↓qn, ↓qa3, ↓reduceIte, List.length_cons, List.length_nil, zfe, Nat.reduceAdd, Nat.reduceEqDiff, Int.reduceNeg, reduceCtorEq, zfc, and_self, zfd, eq_self]
theorem qq4 (h1 : a.length ≤ 9223372036854775807) (h2 : b.length ≤ 9223372036854775807) : qa4 (evL T) qdz [(.fsl ((a).map qby) c), (.fsl ((b).map qby) d)] = some (ii (qkn a b)) := by
  have h := qtq a b c d h1 h2
  rw [qa4, qad qqa qpn]
  simp only [qh5, h, qw, qj, Ev.exec, qb, qe, qc, qaw, qai, Ev.evs, Ev.Opnd.ev, Ev.Env.get, Ev.Env.set, Ev.look, qk, qi, qq, qaj, Ev.kill, qag, qg, qbb, qm, qh, qd, qx, ↓qn, ↓reduceIte, List.length_cons, List.length_nil, zfe, Nat.reduceAdd, Nat.reduceEqDiff, reduceCtorEq, zfc, and_self, zfd, eq_self]
end
def qsl (x y : Evt) : Int := if qor x.time y.time = 0 then qkn x.key y.key else qor x.time y.time
end Go.Proofs.Ytbhhifdhlafklaa.K
namespace Go.Ev
section
variable {α : Type}
variable {R : α → α → Prop}
theorem cross (tr : ∀ a b c, R a b → R b c → R a c) {X Y : List α} (hX : X.Pairwise R) (hY : Y.Pairwise R) (h : ∀ u v, X[X.length - 1]? = some u → Y[0]? = some v → R u v) : ∀ a ∈ X, ∀ b ∈ Y, R a b := by
  intro a ha b hb
  obtain ⟨i, hi⟩ := List.mem_iff_getElem?.1 ha
  obtain ⟨j, hj⟩ := List.mem_iff_getElem?.1 hb
  obtain ⟨hi', hi⟩ := List.getElem?_eq_some_iff.1 hi
  obtain ⟨hj', hj⟩ := List.getElem?_eq_some_iff.1 hj
  rw [List.pairwise_iff_getElem] at hX hY
  have h0 := h _ _ (List.getElem?_eq_getElem (by omega)) (List.getElem?_eq_getElem (by omega))
  have h1 : R a Y[0] := by
    by_cases c : i = X.length - 1
    · subst c; rw [← hi]; exact h0
    · exact tr _ _ _ (by rw [← hi]; exact hX i (X.length - 1) hi' (by omega) (by omega)) h0
  by_cases c : j = 0
  · subst c; rw [← hj]; exact h1
  · exact tr _ _ _ h1 (by rw [← hj]; exact hY 0 j (by omega) hj' (by omega))
theorem qu4 (tr : ∀ a b c, R a b → R b c → R a c) {A B : List α} {x : α} (h : (A ++ B).Pairwise R) (h1 : ∀ u, A[A.length - 1]? = some u → R u x) (h2 : ∀ v, B[0]? = some v → R x v) : (A ++ x :: B).Pairwise R := by
  obtain ⟨a1, a2, a3⟩ := List.pairwise_append.1 h
  have c1 := cross tr a1 (List.pairwise_singleton R x) (fun u v hu hv => by simp at hv; subst hv; exact h1 u hu)
  have c2 := cross tr (List.pairwise_singleton R x) a2 (fun u v hu hv => by simp at hu; subst hu; exact h2 v hv)
  refine List.pairwise_append.2 ⟨a1, List.pairwise_cons.2 ⟨fun b hb => c2 x (by simp) b hb, a2⟩, fun a ha b hb => ?_⟩
  rcases List.mem_cons.1 hb with rfl | hb
  · exact c1 a ha _ (by simp)
  · exact a3 a ha b hb
inductive Blk (R : α → α → Prop) (s : Nat) : List α → Prop
  | last {l : List α} : l.length ≤ s → l.Pairwise R → Blk R s l
  | more {X Y : List α} : X.length = s → X.Pairwise R → Blk R s Y → Blk R s (X ++ Y)
theorem qxk {f : Env → qr → R3} {s : Env → qr → Option (Env × qr)} {τ : Type} (E : τ → Env) (S : τ → qr) (m : τ → Nat) (Inv : τ → Prop) (Q : CExit × Env × qr → Prop)
    (step : ∀ a, Inv a → (∃ a', it1 f s (E a) (S a) = some (.inl (E a', S a')) ∧ Inv a' ∧ m a' < m a) ∨ ∃ y, it1 f s (E a) (S a) = some (.inr y) ∧ Q y) :
    ∀ a, Inv a → ∃ y, itB f s (E a) (S a) = some y ∧ Q y := by
  have : ∀ k a, m a ≤ k → Inv a → ∃ y, itB f s (E a) (S a) = some y ∧ Q y := by
    intro k
    induction k with
    | zero =>
      intro a hk ha
      rcases step a ha with ⟨a', h1, h2, h3⟩ | ⟨y, h1, h2⟩
      · omega
      · exact ⟨y, qow h1, h2⟩
    | succ k ih =>
      intro a hk ha
      rcases step a ha with ⟨a', h1, h2, h3⟩ | ⟨y, h1, h2⟩
      · obtain ⟨y, h4, h5⟩ := ih a' (by omega) h2
        exact ⟨y, q0h h1 h4, h5⟩
      · exact ⟨y, qow h1, h2⟩
  exact fun a => this (m a) a (Nat.le_refl _)
end
end Go.Ev
namespace Go.Proofs.Ytbhhifdhlafklaa.K
open Go.Ev
set_option maxRecDepth 10000
theorem q6j {a b : Nat} (h : a + b < 2 ^ 62) : IntKind.i64.wrap ((a : Int) + (b : Int)) = ((a + b : Nat) : Int) := by rw [qas (by omega) (by omega)]; simp
theorem q0w {a : Nat} (h : a < 2 ^ 62) : IntKind.i64.wrap ((a : Int) + 1) = ((a + 1 : Nat) : Int) := by rw [qas (by omega) (by omega)]; simp
theorem q31 {a c : Nat} (h : a = c + 1) (h2 : a < 2 ^ 62) : IntKind.i64.wrap ((a : Int) - 1) = (c : Int) := by rw [qas (by omega) (by omega)]; omega
section
variable (g : Nat) (cl : Bool) (n : Nat)
end
open Go.Ev
theorem q4u (a b : Int) : qor b a = -qor a b := by unfold qor; split <;> split <;> (try split) <;> omega
theorem qiq (a b : Int) : (qor a b < 0 ↔ a < b) ∧ (qor a b = 0 ↔ a = b) ∧ (0 < qor a b ↔ b < a) := by
  unfold qor
  split
  · refine ⟨?_, ?_, ?_⟩ <;> omega
  split
  · refine ⟨?_, ?_, ?_⟩ <;> omega
  · refine ⟨?_, ?_, ?_⟩ <;> omega
theorem q1o : ∀ a b : List Int, qkn b a = -qkn a b
  | [], [] => rfl
  | [], y :: b => by simp [qkn]
  | x :: a, [] => by simp [qkn]
  | x :: a, y :: b => by
    simp only [qkn]
    by_cases h : x = y
    · subst h; simp only [if_true]; exact q1o a b
    · rw [if_neg h, if_neg (fun e => h e.symm)]; exact q4u x y
theorem qyg : ∀ a b c : List Int, qkn a b ≤ 0 → qkn b c ≤ 0 → qkn a c ≤ 0
  | [], b, c, _, _ => by cases c <;> simp [qkn]
  | x :: a, [], c, h, _ => by simp [qkn] at h
  | x :: a, y :: b, [], _, h => by simp [qkn] at h
  | x :: a, y :: b, z :: c, h1, h2 => by
    simp only [qkn] at h1 h2 ⊢
    have c1 := qiq x y
    have c2 := qiq y z
    have c3 := qiq x z
    by_cases e1 : x = y
    · subst e1
      rw [if_pos rfl] at h1
      by_cases e2 : x = z
      · subst e2; rw [if_pos rfl] at h2 ⊢; exact qyg a b c h1 h2
      · rw [if_neg e2] at h2 ⊢; exact h2
    · rw [if_neg e1] at h1
      by_cases e2 : y = z
      · subst e2; rw [if_neg e1]; exact h1
      · rw [if_neg e2] at h2
        have : ¬ x = z := by intro e; omega
        rw [if_neg this]
        omega
def leE (x y : Evt) : Prop := qsl x y ≤ 0
theorem qo8 (x y : Evt) : qsl y x = -qsl x y := by
  unfold qsl
  have := q4u x.time y.time
  have := q1o x.key y.key
  by_cases h : qor x.time y.time = 0
  · rw [if_pos h, if_pos (by omega)]; assumption
  · rw [if_neg h, if_neg (by omega)]; assumption
theorem qte (x y z : Evt) (h1 : leE x y) (h2 : leE y z) : leE x z := by
  unfold leE qsl at *
  have c1 := qiq x.time y.time
  have c2 := qiq y.time z.time
  have c3 := qiq x.time z.time
  by_cases e1 : qor x.time y.time = 0
  · rw [if_pos e1] at h1
    by_cases e2 : qor y.time z.time = 0
    · rw [if_pos e2] at h2
      rw [if_pos (by omega)]; exact qyg _ _ _ h1 h2
    · rw [if_neg e2] at h2
      rw [if_neg (by omega)]; omega
  · rw [if_neg e1] at h1
    by_cases e2 : qor y.time z.time = 0
    · rw [if_neg (by omega)]; omega
    · rw [if_neg e2] at h2
      rw [if_neg (by omega)]; omega
theorem leE_of (x y : Evt) (h : qsl x y < 0) : leE x y := by unfold leE; omega
theorem q1m (x y : Evt) : qsl x y = 0 ↔ x.time = y.time ∧ x.key = y.key := by
  unfold qsl
  have := qiq x.time y.time
  have := qt6 x.key y.key
  by_cases h : qor x.time y.time = 0
  · rw [if_pos h]; constructor
    · intro k; exact ⟨by omega, by simpa [k] using this⟩
    · intro k; exact this.2 k.2
  · rw [if_neg h]; constructor
    · intro k; exact absurd k h
    · intro k; omega
open Go.Ev
set_option maxRecDepth 10000
section
variable (g : Nat) (cl : Bool) (n : Nat)
def qic (D : List Evt) : Prop := ∀ x ∈ D, x.key.length ≤ 9223372036854775807
end
open Go.Ev
set_option maxRecDepth 10000
section
variable (g : Nat) (cl : Bool) (n : Nat)
end
open Go.Ev
set_option maxRecDepth 10000
theorem half_bin (s h : Nat) (hh : h = s / 2) : qli .shr (.v (.int .u64 (s : Int))) (.v (.int .u64 1)) = some (.v (.int .u64 (h : Int))) := by
  subst hh
  show (if (1 : Int) < 0 then none else some (AV.v (.int .u64 ((s : Int).fdiv (2 ^ (min (1 : Int).toNat IntKind.u64.bits)))))) = _
  rw [if_neg (by omega), show (2 : Int) ^ (min (1 : Int).toNat IntKind.u64.bits) = 2 from rfl, Int.fdiv_eq_ediv_of_nonneg _ (by omega)]
  rw [show (s : Int) / 2 = ((s / 2 : Nat) : Int) by omega]
theorem q7m {n : Nat} (h : n < 2 ^ 63) : IntKind.u64.wrap (n : Int) = (n : Int) := by
  have h3 : IntKind.u64.bits = 64 := rfl
  have h4 : IntKind.u64.signed = false := rfl
  simp only [IntKind.wrap, h3, h4, Bool.false_and, zfa, if_false]
  omega
theorem q79 {n : Nat} (h : n < 2 ^ 63) : IntKind.i64.wrap (n : Int) = (n : Int) := qas (by omega) (by omega)
section
variable (g : Nat) (cl : Bool) (n : Nat)
end
open Go.Ev
set_option maxRecDepth 10000
section
variable (g : Nat) (cl : Bool) (n : Nat)
end
open Go.Ev
set_option maxRecDepth 10000
section
variable (g : Nat) (cl : Bool) (n : Nat)
def q6r (a m b : Nat) (D D' : List Evt) : Prop := (evL T).call qam [.sl 0 g 0 n cl, (ii a), (ii m), (ii b), (.fn (.func qa5) [] [])] [.row 6 ((D).map Evt.r) g] = some (.tup [], [.row 6 ((D').map Evt.r) g])
structure Nums (x1 x2 y1 y2 a m b mid nn lo hi p start fin : Nat) : Prop where
  hX1 : 1 < x1 + x2
  hY1 : 1 < y1 + y2
  hb : n < 2 ^ 61
  hmid : mid = (a + b) / 2
  hnn : nn = mid + m
  hp : nn = p + 1
  hfin : nn = start + fin
  hm : m = a + (x1 + x2)
  hbb : b = m + (y1 + y2)
  hbn : b ≤ n
  hst : start = a + x1
  hfi : fin = m + y1
structure Wraps (x1 x2 y1 y2 a m b mid nn p start fin : Nat) : Prop where
  w1 : IntKind.i64.wrap ((m : Int) - (a : Int)) = ((x1 + x2 : Nat) : Int)
  h1 : ¬ ((x1 + x2 : Nat) : Int) = 1
  w2 : IntKind.i64.wrap ((b : Int) - (m : Int)) = ((y1 + y2 : Nat) : Int)
  h2 : ¬ ((y1 + y2 : Nat) : Int) = 1
  w3 : IntKind.i64.wrap ((a : Int) + (b : Int)) = ((a + b : Nat) : Int)
  w4 : IntKind.u64.wrap ((a + b : Nat) : Int) = ((a + b : Nat) : Int)
  w5 : qli .shr (.v (.int .u64 ((a + b : Nat) : Int))) (.v (.int .u64 1)) = some (.v (.int .u64 (mid : Int)))
  w6 : IntKind.i64.wrap (mid : Int) = (mid : Int)
  w7 : IntKind.i64.wrap ((mid : Int) + (m : Int)) = (nn : Int)
  w8 : IntKind.i64.wrap ((nn : Int) - 1) = (p : Int)
  w9 : IntKind.i64.wrap ((nn : Int) - (start : Int)) = (fin : Int)
  c5 : mid < fin ↔ start < m
  c6 : start < mid ↔ m < fin
structure Steps (a m b mid start fin : Nat) (D D2 D3 D4 : List Evt) : Prop where
  s1 : start < m → m < fin → (evL T).call qbi [.sl 0 g 0 n cl, (ii start), (ii m), (ii fin), (.fn (.func qa5) [] [])] [.row 6 ((D).map Evt.r) g] = some (.tup [], [.row 6 ((D2).map Evt.r) g])
  n1 : ¬ (start < m ∧ m < fin) → D2 = D
  s2 : a < start → start < mid → q6r g cl n a start mid D2 D3
  n2 : ¬ (a < start ∧ start < mid) → D3 = D2
  s3 : mid < fin → fin < b → q6r g cl n mid fin b D3 D4
  n3 : ¬ (mid < fin ∧ fin < b) → D4 = D3
end
open Go.Ev
set_option maxRecDepth 10000
section
variable (g : Nat) (cl : Bool) (n : Nat)
end
open Go.Ev
set_option maxRecDepth 10000
section
variable (g : Nat) (cl : Bool) (n : Nat)
end
open Go.Ev
set_option maxRecDepth 10000
def qga (l : List Evt) : List Evt := l.mergeSort (fun a b => decide (qsl a b ≤ 0))
def qvd (l : List Evt) : Prop := l.Pairwise (fun a b => ¬ qsl a b = 0)
theorem qfa (l : List Evt) : (qga l).Perm l := List.mergeSort_perm _ _
theorem qgj (l : List Evt) : (qga l).Pairwise leE := by
  have := List.pairwise_mergeSort (le := fun a b => decide (qsl a b ≤ 0)) (fun a b c h1 h2 => by simp only [decide_eq_true_eq] at h1 h2 ⊢; exact qte a b c h1 h2) (fun a b => by
    have := qo8 a b
    by_cases h : qsl a b ≤ 0
    · simp [h]
    · have : qsl b a ≤ 0 := by omega
      simp [this]) l
  exact this.imp (fun h => of_decide_eq_true h)
theorem qvd.eq {l : List Evt} (h : qvd l) {a b : Evt} (ha : a ∈ l) (hb : b ∈ l) (hc : qsl a b = 0) : a = b := by
  obtain ⟨i, hi⟩ := List.mem_iff_getElem?.1 ha
  obtain ⟨j, hj⟩ := List.mem_iff_getElem?.1 hb
  obtain ⟨hi', rfl⟩ := List.getElem?_eq_some_iff.1 hi
  obtain ⟨hj', rfl⟩ := List.getElem?_eq_some_iff.1 hj
  rw [qvd, List.pairwise_iff_getElem] at h
  rcases Nat.lt_trichotomy i j with c | c | c
  · exact absurd hc (h i j hi' hj' c)
  · subst c; rfl
  · exact absurd (by rw [qo8]; omega) (h j i hj' hi' c)
theorem qpw {l l' : List Evt} (hd : qvd l) (hp : l'.Perm l) (hs : l'.Pairwise leE) : l' = qga l := by
  refine List.Perm.eq_of_pairwise (le := leE) (fun a b ha hb h1 h2 => ?_) hs (qgj l) (hp.trans (qfa l).symm)
  refine hd.eq (hp.mem_iff.1 ha) ((qfa l).mem_iff.1 hb) ?_
  have := qo8 a b
  unfold leE at h1 h2; omega
theorem qvd.perm {l l' : List Evt} (h : qvd l) (p : l'.Perm l) : qvd l' := (p.pairwise_iff (fun {x y} hxy hyx => hxy (by rw [qo8]; omega))).2 h
theorem qtn (l : List Evt) (c : Bool) (h : l.length ≤ 1000000) : (evL T).call qa6 [(.fsl ((l).map Evt.r) c)] [] = some (.sl 0 0 0 l.length false, [.row 6 (l.map Evt.r) 0]) := by
  have h' : l.length * 64 ≤ 140737488355328 := by omega
  rw [q3r qia]
  simp only [qro, qaa, qe1, h', qm, qh, qd, List.length_map, ↓reduceIte, Nat.reduceLT, Nat.reducePow, zfc, and_self, eq_self]
theorem qks (x y : Evt) (hx : x.key.length ≤ 9223372036854775807) (hy : y.key.length ≤ 9223372036854775807) : qa4 (evL T) qcw [(.agg [(ii x.time), (.fsl ((x.key).map qby) false), (ii x.lp), (ii x.kind), (ii x.proc), (ii x.arg)]), (.agg [(ii y.time), (.fsl ((y.key).map qby) false), (ii y.lp), (ii y.kind), (ii y.proc), (ii y.arg)])] = some (ii (qsl x y)) := by
  obtain ⟨xt, xk, xl, xi, xp, xa⟩ := x
  obtain ⟨yt, yk, yl, yi, yp, ya⟩ := y
  have hc := qlb xt yt
  have hk := qrj xk yk false false hx hy
  have hz := (qiq xt yt).2.1
  rw [qa4, qad qox qoc]
  by_cases h : xt = yt
  · subst h
    have h0 : qor xt xt = 0 := hz.2 rfl
    simp only [qeu, qsl, h0, hk, qw, qj, Ev.exec, qb, qe, qc, qaw, qai, Ev.evs, Ev.Opnd.ev, Ev.Env.get, Ev.Env.set, Ev.look, qk, qf, qv, Ev.AV.cells, qo, Ev.AV.plain, qbe, qi, qq, qaj, Ev.kill, qag, qg, qbb, qm, qh, qd, qx, ↓qn, ↓reduceIte, List.length_cons, List.length_nil, zfe, List.drop_succ_cons, List.drop_zero, List.head?_cons, Nat.reduceAdd, Nat.reduceEqDiff, reduceCtorEq, decide_false, zfc, zfa, and_self, ne_eq, zfb, not_true_eq_false, zff, zfd, eq_self]
  · have h0 : ¬ qor xt yt = 0 := fun e => h (hz.1 e)
    simp only [qeu, qsl, h0, h, hc, qj, Ev.exec, qb, qe, qc, qaw, qai, Ev.evs, Ev.Opnd.ev, Ev.Env.get, Ev.Env.set, Ev.look, qk, qf, qv, Ev.AV.cells, qo, Ev.AV.plain, qbe, qi, qq, qaj, Ev.kill, qag, qg, qbb, qh, qd, qx, ↓qn, ↓reduceIte, List.length_cons, List.length_nil, zfe, List.drop_zero, List.head?_cons, Nat.reduceAdd, Nat.reduceEqDiff, reduceCtorEq, decide_true, zfc, zfa, and_self, ne_eq, zfb, zff, zfd, eq_self]
open Go.Ev
set_option maxRecDepth 10000
section
variable (l : List Evt) (c : Bool)
end
open Go.Ev
set_option maxRecDepth 10000
def q54 : Evt := ⟨0, [], 0, 0, 0, 0⟩
def qs1 (l : List Evt) (b : Int) : List Evt × Evt × Bool := match l with
  | [] => ([], q54, false)
  | x :: r => if x.time < b then (r, x, true) else (x :: r, q54, false)
theorem qwl (l : List Evt) (c : Bool) (b : Int) (hl : l.length ≤ 1000000) : ∃ c' : Bool, qa4 (evL T) qg3 [(.fsl ((l).map Evt.r) c), (ii b)] = some (.tup [(.fsl (((qs1 l b).1).map Evt.r) c'), (.agg [(ii ((qs1 l b).2.1.time)), (.fsl (((qs1 l b).2.1.key).map qby) false), (ii ((qs1 l b).2.1.lp)), (ii ((qs1 l b).2.1.kind)), (ii ((qs1 l b).2.1.proc)), (ii ((qs1 l b).2.1.arg))]), (bb ((qs1 l b).2.2))]) := by
  rw [qa4, qad qvn qut]
  cases l with
  | nil =>
    refine ⟨c, ?_⟩
    simp only [qir, qs1, q54, List.map_nil, Int.lt_irrefl, qj, Ev.exec, qb, qe, qc, qai, Ev.Opnd.ev, Ev.Env.get, Ev.Env.set, Ev.Env.unset, Ev.look, qk, qf, qv, qfz, Ev.AV.cells, qo, Ev.AV.plain, qbh, qi, qq, qaj, Ev.kill, qag, qg, qbb, qa2, qb1, qm, qh, qd, qu, qx, ↓qn, ↓reduceIte, List.length_cons, List.length_nil, List.getElem?_cons_zero, List.take_succ_cons, List.take_zero, zfe, List.drop_succ_cons, List.drop_zero, List.drop_nil, List.nil_append, List.append_nil, List.set_cons_zero, Nat.reduceAdd, Nat.reduceEqDiff, Int.cast_ofNat_Int, reduceCtorEq, decide_false, zfc, zfa, and_self, ne_eq, zfb, zff, zfd, Nat.le_refl, eq_self]
    try rfl
  | cons x r =>
    have hcl := qtn r c (by simp at hl; omega)
    have h1 : (1 : Int) ≤ ((r.length + 1 : Nat) : Int) := by omega
    have htk : (r.map Evt.r).take r.length = r.map Evt.r := List.take_of_length_le (by simp)
    obtain ⟨xt, xk, xl, xi, xp, xa⟩ := x
    have h0 : ((r.length + 1 : Nat) : Int) > 0 := by omega
    by_cases h : xt < b
    · refine ⟨false, ?_⟩
      simp only [qir, qs1, Int.toNat_natCast, List.map_cons, Evt.r, h0, h1, h, hcl, htk, Int.le_refl, Nat.add_sub_cancel, imp_self, qw, qaa, qe1, qj, Ev.exec, qb, qe, qc, qrm, q1h, Ev.AV.shift, qai, Ev.evs, Ev.Opnd.ev, Ev.Env.get, Ev.Env.set, Ev.look, qk, qf9, qf, qv, Ev.AV.cells, qo, Ev.AV.plain, ql, qbh, qi, qq, qaj, Ev.kill, qag, qg, qbb, qa2, qb1, qm, qds, qh, qd, qbg, qx, quc, qhg, qe3, qgx, qel, qhb, List.length_map, ↓qn, ↓reduceIte, List.length_cons, List.length_nil, List.getElem?_cons_zero, List.getElem?_cons_succ, List.take_succ_cons, List.take_zero, zfe, List.drop_succ_cons, List.drop_zero, List.drop_nil, List.cons_append, List.nil_append, List.append_nil, List.set_cons_zero, List.head?_cons, Nat.reduceAdd, Nat.reduceEqDiff, Nat.reduceLT, Int.reduceLE, Int.reduceToNat, reduceCtorEq, decide_true, decide_false, zfc, Bool.and_true, zfa, and_self, and_true, ne_eq, zfb, zff, zfd, Nat.le_refl, Option.isSome_none, eq_self]
      try rfl
    · refine ⟨c, ?_⟩
      simp only [qir, qs1, q54, List.map_cons, Evt.r, h0, h, qw, qaa, qj, Ev.exec, qb, qe, qc, qai, Ev.Opnd.ev, Ev.Env.get, Ev.Env.set, Ev.look, qk, qf, qv, qfz, Ev.AV.cells, qo, Ev.AV.plain, ql, qbh, qi, qq, qaj, Ev.kill, qag, qg, qbb, qa2, qb1, qm, qh, qd, qu, qak, qx, List.length_map, ↓qn, ↓reduceIte, List.length_cons, List.length_nil, List.getElem?_cons_zero, List.take_succ_cons, List.take_zero, zfe, List.drop_succ_cons, List.drop_zero, List.drop_nil, List.nil_append, List.append_nil, List.set_cons_zero, List.head?_cons, Nat.reduceAdd, Nat.reduceEqDiff, Int.reduceLE, Int.reduceToNat, reduceCtorEq, decide_true, decide_false, zfc, zfa, and_self, ne_eq, zfb, zff, zfd, Nat.le_refl, eq_self]
      try rfl
open Go.Ev
set_option maxRecDepth 10000
theorem qn6 (x y : Evt) (hx : x.key.length ≤ 9223372036854775807) (hy : y.key.length ≤ 9223372036854775807) :
    (evL T).call qa5 [(.agg [(ii x.time), (.fsl ((x.key).map qby) false), (ii x.lp), (ii x.kind), (ii x.proc), (ii x.arg)]), (.agg [(ii y.time), (.fsl ((y.key).map qby) false), (ii y.lp), (ii y.kind), (ii y.proc), (ii y.arg)])] [] = some ((ii (qsl x y)), []) := by
  obtain ⟨xt, xk, xl, xi, xp, xa⟩ := x
  obtain ⟨yt, yk, yl, yi, yp, ya⟩ := y
  have hc := qn2 xt yt
  have hk := qq4 xk yk false false hx hy
  have hf := qyy (qor xt yt) (qkn xk yk) true
  simp only [List.map_cons, List.map_nil, qby] at hf
  rw [qad qo0 qol]
  simp only [qgm, show ∀ v : List AV, List.replicate 2 v = [v, v] from fun _ => rfl, hc, hk, hf, qsl, qw, qj, Ev.exec, qb, qe, qc, qaw, qai, Ev.evs, Ev.Opnd.ev, Ev.Env.get, Ev.Env.set, Ev.look, qk, qf, qv, qfm, Ev.AV.cells, Ev.AV.uc, qo, Ev.AV.plain, qi, qq, qaj, Ev.kill, qag, qg, qbb, qm, qh, qd, qu, qak, ↓qn, ↓reduceIte, List.length_cons, List.length_nil, zfe, List.drop_succ_cons, List.drop_zero, List.set_cons_zero, List.set_cons_succ, List.head?_cons, Nat.reduceAdd, Nat.reduceEqDiff, Nat.reduceMul, Nat.reduceLT, Nat.reduceLeDiff, Nat.reducePow, reduceCtorEq, zfc, zfa, and_self, ne_eq, zfb, zff, zfd, Nat.lt_add_one, eq_self]
section
variable (l : List Evt) (c : Bool) (x : Evt)
def At (l : List Evt) (x : Evt) (k : Nat) : Prop := k ≤ l.length ∧ (∀ u, 0 < k → l[k - 1]? = some u → qsl u x < 0) ∧ (∀ v, l[k]? = some v → 0 ≤ qsl v x)
theorem bs_L (hl : l.length ≤ 1000000) (hk : qic l) (kx : x.key.length ≤ 9223372036854775807) :
    ∃ y, itB (exec (evL T) itL none qah) (qs [0, 2, 4, 8, 9, 10] true 0) ⟨[(0, (.fsl ((l).map Evt.r) c)), (2, (.fn (.func qa5) [] [])), (4, (.fptr [(ii x.time), (.fsl ((x.key).map qby) false), (ii x.lp), (ii x.kind), (ii x.proc), (ii x.arg)])), (8, (ii l.length)), (9, (ii 0)), (10, (ii l.length))], []⟩ [] = some y ∧
      ∃ k : Nat, y.1 = .exit 0 ∧ y.2.1.marks = [] ∧ y.2.2 = [] ∧ Ev.look y.2.1.vars 0 = some (.fsl ((l).map Evt.r) c) ∧ Ev.look y.2.1.vars 2 = some (.fn (.func qa5) [] []) ∧ Ev.look y.2.1.vars 4 = some (.fptr [(ii x.time), (.fsl ((x.key).map qby) false), (ii x.lp), (ii x.kind), (ii x.proc), (ii x.arg)]) ∧ Ev.look y.2.1.vars 8 = some (ii l.length) ∧ Ev.look y.2.1.vars 9 = some (ii k) ∧ At l x k := by
  have key := qxk (f := exec (evL T) itL none qah) (s := qs [0, 2, 4, 8, 9, 10] true 0) (τ := Nat × Nat) (fun a => ⟨[(0, (.fsl ((l).map Evt.r) c)), (2, (.fn (.func qa5) [] [])), (4, (.fptr [(ii x.time), (.fsl ((x.key).map qby) false), (ii x.lp), (ii x.kind), (ii x.proc), (ii x.arg)])), (8, (ii l.length)), (9, (ii a.1)), (10, (ii a.2))], []⟩) (fun _ => []) (fun a => a.2 - a.1)
    (fun a => a.1 ≤ a.2 ∧ a.2 ≤ l.length ∧ (∀ u, 0 < a.1 → l[a.1 - 1]? = some u → qsl u x < 0) ∧ (∀ v, l[a.2]? = some v → 0 ≤ qsl v x))
    (fun y => ∃ k : Nat, y.1 = .exit 0 ∧ y.2.1.marks = [] ∧ y.2.2 = [] ∧ Ev.look y.2.1.vars 0 = some (.fsl ((l).map Evt.r) c) ∧ Ev.look y.2.1.vars 2 = some (.fn (.func qa5) [] []) ∧ Ev.look y.2.1.vars 4 = some (.fptr [(ii x.time), (.fsl ((x.key).map qby) false), (ii x.lp), (ii x.kind), (ii x.proc), (ii x.arg)]) ∧ Ev.look y.2.1.vars 8 = some (ii l.length) ∧ Ev.look y.2.1.vars 9 = some (ii k) ∧ At l x k)
    ?_ (0, l.length) ⟨Nat.zero_le _, Nat.le_refl _, fun u h => by simp only at h; omega, fun v hv => by simp at hv⟩
  · exact key
  rintro ⟨i, j⟩ ⟨h1, h2, h3, h4⟩
  simp only at h1 h2 h3 h4 ⊢
  by_cases hij : i < j
  case neg =>
    have c1 : ¬ (i : Int) < (j : Int) := by omega
    right
    simp only [qah, c1, Ev.exec, qb, qe, qc, qai, Ev.Opnd.ev, Ev.Env.get, Ev.Env.set, Ev.look, ql, ↓qn, Ev.it1, ↓reduceIte, Nat.reduceEqDiff, reduceCtorEq, decide_false, zfa, eq_self]
    obtain rfl : i = j := by omega
    exact ⟨_, rfl, i, rfl, rfl, rfl, rfl, rfl, rfl, rfl, rfl, by omega, h3, h4⟩
  obtain ⟨h, hh⟩ : ∃ h, h = (i + j) / 2 := ⟨_, rfl⟩
  have c1 : (i : Int) < (j : Int) := by omega
  obtain ⟨y, hy⟩ : ∃ y, l[h]? = some y := ⟨_, List.getElem?_eq_getElem (by omega)⟩
  have w1 : IntKind.i64.wrap ((i : Int) + (j : Int)) = ((i + j : Nat) : Int) := q6j (by omega)
  have w2 : IntKind.u64.wrap ((i + j : Nat) : Int) = ((i + j : Nat) : Int) := q7m (by omega)
  have w3 := half_bin (i + j) h hh
  have w4 : IntKind.i64.wrap (h : Int) = (h : Int) := q79 (by omega)
  have w5 : IntKind.i64.wrap ((h : Int) + 1) = ((h + 1 : Nat) : Int) := q0w (by omega)
  have ky : y.key.length ≤ 9223372036854775807 := hk y (List.mem_of_getElem? hy)
  have hc := qn6 y x ky kx
  left
  by_cases hlt : qsl y x < 0
  · refine ⟨(h + 1, j), ?_, ⟨by simp only; omega, h2, fun u _ hu => ?_, h4⟩, by simp only; omega⟩
    · clear h3 h4
      obtain ⟨xt, xk, xl, xi, xp, xa⟩ := x
      obtain ⟨yt, yk, yl, yi, yp, ya⟩ := y
      simp only at hc
      simp only [qah, Int.natCast_nonneg, Int.toNat_natCast, List.getElem?_map, Option.map_some, hy, c1, w1, w2, w3, w4, w5, hc, hlt, Evt.r, qaa, qw, Ev.exec, qb, qe, qc, qs8, qai, Ev.evs, Ev.Opnd.ev, Ev.Env.get, Ev.Env.set, Ev.look, qf, qv, qao, ql, qs, Ev.keep, qal, qaf, qg, qbb, qm, qbm, qy1, qh, qd, ↓qn, Ev.it1, ↓reduceIte, List.length_cons, List.length_nil, List.take_succ_cons, zfe, List.nil_append, List.append_nil, Nat.reduceAdd, Nat.reduceEqDiff, reduceCtorEq, decide_true, zfc, and_self, zfd, Nat.le_refl, eq_self]
    · simp only [Nat.add_sub_cancel] at hu
      rw [hy] at hu; cases hu; exact hlt
  · refine ⟨(i, h), ?_, ⟨by simp only; omega, by simp only; omega, h3, fun v hv => by simp only at hv; rw [hy] at hv; cases hv; omega⟩, by simp only; omega⟩
    clear h3 h4
    obtain ⟨xt, xk, xl, xi, xp, xa⟩ := x
    obtain ⟨yt, yk, yl, yi, yp, ya⟩ := y
    simp only at hc
    simp only [qah, Int.natCast_nonneg, Int.toNat_natCast, List.getElem?_map, Option.map_some, hy, c1, w1, w2, w3, w4, hc, hlt, Evt.r, qaa, qw, Ev.exec, qb, qe, qc, qs8, qai, Ev.evs, Ev.Opnd.ev, Ev.Env.get, Ev.Env.set, Ev.look, qf, qv, qao, ql, qs, Ev.keep, qal, qaf, qg, qbb, qm, qbm, qy1, qh, qd, ↓qn, Ev.it1, ↓reduceIte, List.length_cons, List.length_nil, List.take_succ_cons, zfe, List.nil_append, List.append_nil, Nat.reduceAdd, Nat.reduceEqDiff, reduceCtorEq, decide_true, decide_false, zfc, zfa, and_self, zfd, Nat.le_refl, eq_self]
theorem bs_ev (hl : l.length ≤ 1000000) (hk : qic l) (kx : x.key.length ≤ 9223372036854775807) : ∃ (k : Nat) (b : Bool), At l x k ∧
    qa4 (evL T) qac [(.fsl ((l).map Evt.r) c), (.agg [(ii x.time), (.fsl ((x.key).map qby) false), (ii x.lp), (ii x.kind), (ii x.proc), (ii x.arg)]), (.fn (.func qa5) [] [])] = some (.tup [(ii k), (bb b)]) := by
  obtain ⟨⟨y, e, σ⟩, h1, k, h2, h3, h4, h5, h6, h7, h8, h9, hA⟩ := bs_L l c x hl hk kx
  simp only at h2 h3 h4 h5 h6 h7 h8 h9
  subst h2; subst h4
  refine ⟨k, match l[k]? with | some v => decide (qsl v x = 0) | none => false, hA, ?_⟩
  rw [qa4, qad qd2 qdw]
  by_cases hkn : k < l.length
  · obtain ⟨v, hv⟩ : ∃ v, l[k]? = some v := ⟨_, List.getElem?_eq_getElem hkn⟩
    have c1 : (k : Int) < (l.length : Int) := by omega
    have hc := qn6 v x (hk v (List.mem_of_getElem? hv)) kx
    clear hA
    obtain ⟨xt, xk, xl, xi, xp, xa⟩ := x
    obtain ⟨yt, yk, yl, yi, yp, ya⟩ := v
    simp only at hc h1 h7
    simp only [qan, Int.natCast_nonneg, Int.toNat_natCast, List.getElem?_map, Option.map_some, h1, h3, h5, h6, h7, h8, h9, hv, c1, hc, Evt.r, qaa, qw, qj, Ev.exec, qb, qe, qc, qs8, qai, Ev.evs, Ev.Opnd.ev, Ev.Env.get, Ev.Env.set, Ev.look, qk, qf, qv, Ev.AV.cells, qo, Ev.AV.plain, qar, ql, qi, qq, qaj, Ev.kill, qag, qs, Ev.keep, qal, qaf, qg, qbb, qb1, qm, qbm, qy1, qh, qd, qx, List.length_map, ↓qn, ↓qa3, ↓reduceIte, List.length_cons, List.length_nil, List.take_succ_cons, zfe, List.nil_append, List.append_nil, Nat.reduceAdd, Nat.reduceEqDiff, reduceCtorEq, decide_true, zfc, and_self, ne_eq, zfb, zff, zfd, Nat.le_refl, eq_self]
  · have c1 : ¬ (k : Int) < (l.length : Int) := by omega
    have hv : l[k]? = none := List.getElem?_eq_none (by omega)
    clear hA
    obtain ⟨xt, xk, xl, xi, xp, xa⟩ := x
    simp only at h1 h7
    simp only [qan, h1, h3, h8, h9, hv, c1, qaa, qw, qj, Ev.exec, qb, qe, qc, qai, Ev.Opnd.ev, Ev.Env.get, Ev.Env.set, Ev.Env.unset, Ev.look, qk, Ev.AV.cells, qo, Ev.AV.plain, ql, qi, qq, qaj, Ev.kill, qag, qs, Ev.keep, qal, qaf, qg, qbb, qb1, qm, qbm, qy1, qh, qd, qx, List.length_map, ↓qn, ↓qa3, ↓reduceIte, List.length_cons, List.length_nil, zfe, Nat.reduceAdd, Nat.reduceEqDiff, reduceCtorEq, decide_false, zfc, zfa, and_self, ne_eq, zfb, zff, zfd, eq_self]
theorem quv (hl : l.length ≤ 1000000) (hk : qic l) (kx : x.key.length ≤ 9223372036854775807) : ∃ k : Nat, At l x k ∧
    qa4 (evL T) qek [(.fsl ((l).map Evt.r) c), (.agg [(ii x.time), (.fsl ((x.key).map qby) false), (ii x.lp), (ii x.kind), (ii x.proc), (ii x.arg)])] = some (.fsl ((l.take k ++ x :: l.drop k).map Evt.r) false) := by
  obtain ⟨k, b, hA, hb⟩ := bs_ev l c x hl hk kx
  refine ⟨k, hA, ?_⟩
  have hcl := qtn l c hl
  have hkl : k ≤ l.length := hA.1
  have ok1 := qe1 [x]
  have ok2 := qe1 l
  have hb2 : (l.length + 1) * 64 ≤ 2 ^ 47 := by omega
  have hins : (evL T).call qbd [.sl 0 0 0 l.length false, (ii k), .fsl [x.r] true] [.row 6 (l.map Evt.r) 0] = some (.sl 0 2 0 (l.length + 1) false, [.row 6 ((l.take k ++ x :: l.drop k).map Evt.r) 2]) := by
    rw [evL_ins qhh qhl]
    simp only [insF, List.getElem?_cons_zero, Int.toNat_natCast]
    rw [if_pos ⟨trivial, trivial, trivial, by omega, by omega, by simp, by omega, hkl, ok1, by rw [List.take_of_length_le (by simp)]; exact ok2, hb2⟩]
    rw [List.map_append, List.map_cons, List.map_take, List.map_drop, List.take_of_length_le (l := l.map Evt.r) (i := l.length) (by simp)]
    rfl
  have htk : ((l.take k ++ x :: l.drop k).map Evt.r).take (l.length + 1) = (l.take k ++ x :: l.drop k).map Evt.r := List.take_of_length_le (by simp; omega)
  have hlen : l.length + 1 ≤ (l.take k ++ x :: l.drop k).length := by simp; omega
  rw [qa4, qad qtl qr4]
  clear hA
  generalize l.take k ++ x :: l.drop k = R at *
  obtain ⟨xt, xk, xl, xi, xp, xa⟩ := x
  simp only [Evt.r] at hins
  simp only at hb
  simp only [qj2, hb, hcl, hins, htk, hlen, qaa, qw, qj, Ev.exec, qb, qe, qc, qaw, qrm, qjw, q1h, Ev.AV.shift, qai, Ev.evs, Ev.Opnd.ev, Ev.Env.get, Ev.Env.set, Ev.look, qk, qf, qv, qfm, Ev.AV.cells, qo, Ev.AV.plain, qi, qq, qaj, Ev.kill, qag, qg, qbb, qa2, qm, qds, qy1, qh, qd, qhg, qe3, qgx, qel, qhb, List.replicate_one, List.length_map, ↓qn, ↓reduceIte, List.length_cons, List.length_nil, List.getElem?_cons_zero, List.getElem?_cons_succ, List.take_succ_cons, List.take_zero, zfe, List.drop_zero, List.nil_append, List.set_cons_zero, Nat.reduceAdd, Nat.reduceEqDiff, Nat.reduceMul, Nat.reduceLT, Nat.reduceLeDiff, Nat.reducePow, reduceCtorEq, decide_false, zfc, zfa, and_self, and_true, ne_eq, zfb, zff, zfd, Nat.add_zero, Nat.lt_add_one, Nat.le_refl, eq_self]
end
open Go.Ev
set_option maxRecDepth 10000
theorem qjk (n : Nat) : ∀ (a b : List (List AV)), qiu n (a ++ b) = (qiu n a && qiu n b)
  | [], b => by simp [qu]
  | x :: a, b => by rw [List.cons_append, qak, qak, qjk n a b, Bool.and_assoc]
theorem q03 (l : List Int) (c : Bool) (h : l.length ≤ 100000) : (evL T).call qee [(.fsl ((l).map qby) c)] [] = some (.sl 0 0 0 l.length false, [.row 1 (l.map qby) 0]) := by
  have h' : l.length * 8 ≤ 140737488355328 := by omega
  rw [q3r qnl]
  simp only [qro, qw, q73, h', Nat.lt_add_one, qm, qh, qd, List.length_map, ↓reduceIte, Nat.reducePow, zfc, and_self, Nat.lt_add_one, eq_self]
theorem qym (l : List Int) (c : Bool) (n : Int) (h : l.length ≤ 100000) : qa4 (evL T) qhx [(.fsl ((l).map qby) c), (ii n)] = some (.fsl ((l ++ [n]).map qby) false) := by
  have h' : (l.length + 1) * 8 ≤ 140737488355328 := by omega
  have htl : List.take l.length (l.map qby) = l.map qby := List.take_of_length_le (by simp)
  have htk : ∀ e : List AV, List.take (l.length + 1) (l.map qby ++ [e]) = l.map qby ++ [e] := fun e => List.take_of_length_le (by simp)
  have hr : (l ++ [n]).map qby = l.map qby ++ [[(ii n)]] := by rw [List.map_append]; rfl
  rw [qa4, qad qxw qvj]
  rw [hr]
  simp only [qlr, q03 l c h, h', htl, htk, qjk, qw, qj, Ev.exec, qb, qe, qc, qrm, q1h, Ev.AV.shift, qai, qm4, Ev.evs, Ev.Opnd.ev, Ev.Env.get, Ev.Env.set, Ev.look, qk, qbq, qfm, Ev.AV.cells, Ev.AV.uc, qo, Ev.AV.plain, qi, qq, qaj, Ev.kill, qag, qg, qbb, qm, qds, qh, qd, qu, qak, qbc, qbg, qhg, qe3, qgx, qel, qhb, List.replicate_one, List.length_map, ↓qn, ↓reduceIte, List.length_cons, List.length_nil, List.length_append, List.getElem?_cons_zero, List.take_zero, List.drop_zero, List.nil_append, List.set_cons_zero, Nat.reduceAdd, Nat.reduceEqDiff, Nat.reduceMul, Nat.reduceLT, Nat.reduceLeDiff, Nat.reducePow, reduceCtorEq, decide_true, decide_false, zfc, zfa, and_self, and_true, ne_eq, zfb, zff, zfd, Nat.add_zero, Nat.lt_add_one, Nat.le_refl, eq_self]
open Go.Ev
set_option maxRecDepth 10000
def Fits (l : List Evt) (x : Evt) (k : Nat) : Prop := k ≤ l.length ∧ (∀ u, 0 < k → l[k - 1]? = some u → leE u x) ∧ (∀ v, l[k]? = some v → leE x v)
theorem At.fits {l : List Evt} {x : Evt} {k : Nat} (h : At l x k) : Fits l x k :=
  ⟨h.1, fun u h0 hu => leE_of u x (h.2.1 u h0 hu), fun v hv => by have := h.2.2 v hv; have := qo8 v x; unfold leE; omega⟩
theorem Fits.perm {l : List Evt} {x : Evt} {k : Nat} : (l.take k ++ x :: l.drop k).Perm (x :: l) := by
  have := List.perm_middle (a := x) (l₁ := l.take k) (l₂ := l.drop k)
  rwa [List.take_append_drop] at this
theorem Fits.sorted {l : List Evt} {x : Evt} {k : Nat} (h : Fits l x k) (hs : l.Pairwise leE) : (l.take k ++ x :: l.drop k).Pairwise leE := by
  obtain ⟨h1, h2, h3⟩ := h
  have hlen : (l.take k).length = k := by rw [List.length_take]; omega
  refine qu4 qte (by rwa [List.take_append_drop]) (fun u hu => ?_) (fun v hv => ?_)
  · rw [hlen] at hu
    rw [List.getElem?_take] at hu
    split at hu
    · exact h2 u (by omega) hu
    · cases hu
  · rw [List.getElem?_drop] at hv
    exact h3 v hv
theorem Fits.eq {l : List Evt} {x : Evt} {k : Nat} (h : Fits l x k) (hs : l.Pairwise leE) (hd : qvd (x :: l)) : l.take k ++ x :: l.drop k = qga (x :: l) :=
  qpw hd Fits.perm (h.sorted hs)
section
variable (l : List Evt) (c : Bool) (x : Evt)
theorem qv5 (hl : l.length ≤ 1000000) (hk : qic l) (kx : x.key.length ≤ 9223372036854775807) (hs : l.Pairwise leE) (hd : qvd (x :: l)) : qa4 (evL T) qek [(.fsl ((l).map Evt.r) c), (.agg [(ii x.time), (.fsl ((x.key).map qby) false), (ii x.lp), (ii x.kind), (ii x.proc), (ii x.arg)])] = some (.fsl ((qga (x :: l)).map Evt.r) false) := by
  obtain ⟨k, hA, h⟩ := quv l c x hl hk kx
  rw [hA.fits.eq hs hd] at h
  exact h
theorem refIns_L (hl : l.length ≤ 1000000) (hk : qic l) (hkx : x.key.length ≤ 9223372036854775807) :
    ∃ y, itB (exec (evL T) itL none qhj) (qs [0, 3, 5] true 0) ⟨[(0, (.fsl ((l).map Evt.r) c)), (3, (.fptr [(ii x.time), (.fsl ((x.key).map qby) false), (ii x.lp), (ii x.kind), (ii x.proc), (ii x.arg)])), (5, (ii l.length))], []⟩ [] = some y ∧
      ∃ k : Nat, y.1 = .exit 0 ∧ y.2.1.marks = [] ∧ y.2.2 = [] ∧ Ev.look y.2.1.vars 0 = some (.fsl ((l).map Evt.r) c) ∧ Ev.look y.2.1.vars 3 = some (.fptr [(ii x.time), (.fsl ((x.key).map qby) false), (ii x.lp), (ii x.kind), (ii x.proc), (ii x.arg)]) ∧ Ev.look y.2.1.vars 5 = some (ii k) ∧ Fits l x k := by
  refine qxk (τ := Nat) (fun k => ⟨[(0, (.fsl ((l).map Evt.r) c)), (3, (.fptr [(ii x.time), (.fsl ((x.key).map qby) false), (ii x.lp), (ii x.kind), (ii x.proc), (ii x.arg)])), (5, (ii k))], []⟩) (fun _ => []) (fun k => k)
    (fun k => k ≤ l.length ∧ (∀ v, l[k]? = some v → leE x v)) _ ?_ l.length ⟨Nat.le_refl _, fun v hv => by simp at hv⟩
  rintro k ⟨h1, h2⟩
  cases k with
  | zero =>
    right
    simp only [qhj, Int.lt_irrefl, gt_iff_lt, Ev.exec, qb, qe, qc, qai, Ev.Opnd.ev, Ev.Env.get, Ev.Env.set, Ev.Env.unset, Ev.look, qbh, ↓qn, Ev.it1, ↓reduceIte, Nat.reduceEqDiff, Int.cast_ofNat_Int, reduceCtorEq, decide_false, zfa, eq_self]
    exact ⟨_, rfl, 0, rfl, rfl, rfl, rfl, rfl, rfl, Nat.zero_le _, fun u h => by omega, h2⟩
  | succ j =>
    obtain ⟨y, hy⟩ : ∃ y, l[j]? = some y := ⟨_, List.getElem?_eq_getElem (by omega)⟩
    obtain ⟨k, hk1⟩ : ∃ k, k = j + 1 := ⟨_, rfl⟩
    rw [← hk1] at h1 h2 ⊢
    have c1 : (k : Int) > 0 := by omega
    have w1 : IntKind.i64.wrap ((k : Int) - 1) = (j : Int) := q31 hk1 (by omega)
    have hc := qks y x (hk y (List.mem_of_getElem? hy)) hkx
    by_cases hlt : qsl y x > 0
    · left
      refine ⟨j, ?_, ⟨by omega, fun v hv => by rw [hy] at hv; cases hv; exact (by have := qo8 y x; unfold leE; omega)⟩, by omega⟩
      clear h2
      obtain ⟨xt, xk, xl, xi, xp, xa⟩ := x
      obtain ⟨yt, yk, yl, yi, yp, ya⟩ := y
      simp only at hc
      simp only [qhj, Int.natCast_nonneg, Int.toNat_natCast, List.getElem?_map, Option.map_some, hy, c1, w1, hc, hlt, Evt.r, qaa, qw, Ev.exec, qb, qe, qc, qaw, qai, Ev.evs, Ev.Opnd.ev, Ev.Env.get, Ev.Env.set, Ev.look, qf, qv, qrs, qbh, qs, Ev.keep, qal, qaf, qg, qbb, qa2, qm, qbm, qh, qd, ↓qn, Ev.it1, ↓reduceIte, List.length_cons, List.length_nil, List.take_succ_cons, zfe, Nat.reduceAdd, Nat.reduceEqDiff, reduceCtorEq, decide_true, zfc, and_self, zfd, Nat.le_refl, eq_self]
    · right
      have hle : leE y x := by unfold leE; omega
      have h3 : ∀ u, 0 < k → l[k - 1]? = some u → leE u x := fun u _ hu => by
        rw [hk1, Nat.add_sub_cancel, hy] at hu; cases hu; exact hle
      have hF : Fits l x k := ⟨h1, h3, h2⟩
      clear hle h3 h2
      obtain ⟨xt, xk, xl, xi, xp, xa⟩ := x
      obtain ⟨yt, yk, yl, yi, yp, ya⟩ := y
      simp only at hc
      simp only [qhj, Int.natCast_nonneg, Int.toNat_natCast, List.getElem?_map, Option.map_some, hy, c1, w1, hc, hlt, Evt.r, qw, Ev.exec, qb, qe, qc, qaw, qai, Ev.evs, Ev.Opnd.ev, Ev.Env.get, Ev.Env.set, Ev.look, qf, qv, qrs, qbh, qbb, qa2, qm, qh, qd, ↓qn, Ev.it1, ↓reduceIte, List.length_cons, List.length_nil, List.take_succ_cons, zfe, Nat.reduceAdd, Nat.reduceEqDiff, reduceCtorEq, decide_true, decide_false, zfc, zfa, zfd, Nat.le_refl, eq_self]
      exact ⟨_, rfl, k, rfl, rfl, rfl, rfl, rfl, rfl, hF⟩
theorem qw3 (hl : l.length ≤ 1000000) (hk : qic l) (hkx : x.key.length ≤ 9223372036854775807) : ∃ k : Nat, Fits l x k ∧ qa4 (evL T) qfw [(.fsl ((l).map Evt.r) c), (.agg [(ii x.time), (.fsl ((x.key).map qby) false), (ii x.lp), (ii x.kind), (ii x.proc), (ii x.arg)])] = some (.fsl ((l.take k ++ x :: l.drop k).map Evt.r) false) := by
  obtain ⟨⟨y, e, σ⟩, k1, k, k2, k3, k4, k5, k6, k7, hF⟩ := refIns_L l c x hl hk hkx
  simp only at k1 k2 k3 k4 k5 k6 k7
  subst k2; subst k4
  refine ⟨k, hF, ?_⟩
  have hkl := hF.1
  clear hF
  obtain ⟨A, B, rfl, hA⟩ : ∃ A B, l = A ++ B ∧ A.length = k := ⟨l.take k, l.drop k, (List.take_append_drop _ _).symm, by simp; omega⟩
  subst hA
  rw [List.take_left' rfl, List.drop_left' rfl]
  have c1 : (A.length : Int) ≤ ((A ++ B).length : Int) := by rw [List.length_append]; omega
  have c2 : (0 : Int) ≤ (A.length : Int) := by omega
  have tk : List.take A.length ((A ++ B).map Evt.r) = A.map Evt.r := by rw [List.map_append]; exact List.take_left' (by simp)
  have dr : List.drop A.length ((A ++ B).map Evt.r) = B.map Evt.r := by rw [List.map_append]; exact List.drop_left' (by simp)
  have hlen : A.length + B.length ≤ 1000000 := by rw [List.length_append] at hl; exact hl
  have b1 : A.length * 64 ≤ 140737488355328 := by omega
  have b2 : (A.length + 1) * 64 ≤ 140737488355328 := by omega
  have b3 : (A.length + 1 + B.length) * 64 ≤ 140737488355328 := by omega
  have tb : List.take ((A ++ B).length - A.length) (B.map Evt.r) = B.map Evt.r := List.take_of_length_le (by simp)
  have ta : List.take A.length (A.map Evt.r) = A.map Evt.r := List.take_of_length_le (by simp)
  have ta2 : ∀ e : List AV, List.take (A.length + 1) (A.map Evt.r ++ [e]) = A.map Evt.r ++ [e] := fun e => List.take_of_length_le (by simp)
  have ta3 : ∀ e : List AV, List.take (A.length + 1 + B.length) (A.map Evt.r ++ e :: B.map Evt.r) = A.map Evt.r ++ e :: B.map Evt.r := fun e => List.take_of_length_le (by simp; omega)
  have okAB : qcd 6 ((A ++ B).map Evt.r) = true := qe1 _
  have goal' : (AV.fsl ((A ++ x :: B).map Evt.r) false) = AV.fsl (A.map Evt.r ++ x.r :: B.map Evt.r) false := by rw [List.map_append, List.map_cons]
  have n1 : ∀ p q : Nat, p + 1 + q ≤ p + (q + 1) := fun p q => by omega
  have n2 : ∀ q : Nat, 1 + q ≤ q + 1 := fun q => by omega
  rw [goal']
  clear hl hk
  rw [qa4, qad qvo qus]
  rcases A with _ | ⟨a, A⟩ <;> rcases B with _ | ⟨b, B⟩
  · obtain ⟨xt, xk, xl, xi, xp, xa⟩ := x
    simp only [List.nil_append, List.length_nil, List.map_nil, Int.ofNat_zero] at *
    simp only [qg0, k1, k3, k5, k6, k7, c1, tk, dr, b1, b2, ta2, okAB, imp_self, Nat.sub_zero, Int.toNat_zero, Evt.r, qw, qj, Ev.exec, qb, qe, qc, qai, qm4, Ev.Opnd.ev, Ev.Env.get, Ev.Env.set, Ev.look, qk, qf9, qf, qbq, qv, qfm, Ev.AV.cells, qo, Ev.AV.plain, qi, qq, qaj, Ev.kill, qag, qs, Ev.keep, qal, qaf, qg, qbb, qm, qbm, qds, qh, qd, qu, qbg, qx, qhg, qgx, qel, List.replicate_one, ↓qn, ↓qa3, ↓reduceIte, List.length_cons, List.length_nil, List.getElem?_cons_zero, List.take_succ_cons, List.take_zero, zfe, List.drop_zero, List.nil_append, List.set_cons_zero, Nat.reduceAdd, Nat.reduceEqDiff, Nat.reduceMul, Nat.reduceLT, Nat.reduceLeDiff, Nat.reducePow, Int.cast_ofNat_Int, reduceCtorEq, decide_true, decide_false, zfc, Bool.and_true, zfa, and_self, and_true, ne_eq, zfb, zff, zfd, Nat.add_zero, Nat.lt_add_one, Nat.le_refl, Option.isSome_some, Option.isSome_none, eq_self, implies_true]
  · generalize hRB : List.map Evt.r (b :: B) = RB at *
    have nB : ¬ RB = [] := by rw [← hRB]; simp
    have lB : RB.length = (b :: B).length := by rw [← hRB]; simp
    have oB : qcd 6 RB = true := by rw [← hRB]; exact qe1 _
    have loB : ∀ n, qiu n RB = true := fun n => by rw [← hRB]; exact qaa n _
    obtain ⟨xt, xk, xl, xi, xp, xa⟩ := x
    simp only [List.nil_append, List.length_nil, List.map_nil, Int.ofNat_zero, hRB, Nat.sub_zero, List.drop_zero] at *
    generalize hrb : (b :: B).length = nb at *
    simp only [qg0, Int.toNat_natCast, k1, k3, k5, k6, k7, c1, c2, tk, b1, b2, b3, ta, ta2, ta3, tb, okAB, imp_self, n2, Int.le_refl, Nat.sub_zero, nB, lB, loB, qbc, Int.toNat_zero, Evt.r, qw, qj, Ev.exec, qb, qe, qc, qai, qm4, Ev.Opnd.ev, Ev.Env.get, Ev.Env.set, Ev.look, qk, qf9, qf, qbq, qv, qfm, Ev.AV.cells, qo, Ev.AV.plain, qi, qq, qaj, Ev.kill, qag, qs, Ev.keep, qal, qaf, qg, qbb, qm, qbm, qds, qh, qd, qbc, qbg, qx, qhg, qe3, qgx, qel, List.replicate_one, ↓qn, ↓qa3, ↓reduceIte, List.length_cons, List.length_nil, List.getElem?_cons_zero, List.take_succ_cons, List.take_zero, zfe, List.drop_zero, List.cons_append, List.nil_append, List.set_cons_zero, Nat.reduceAdd, Nat.reduceEqDiff, Nat.reduceMul, Nat.reduceLT, Nat.reduceLeDiff, Nat.reducePow, reduceCtorEq, decide_true, decide_false, zfc, Bool.and_true, zfa, and_self, and_true, ne_eq, zfb, zff, zfd, Nat.add_zero, Nat.lt_add_one, Nat.le_refl, Option.isSome_some, Option.isSome_none, eq_self, implies_true]
  · generalize hRA : List.map Evt.r (a :: A) = RA at *
    have nA : ¬ RA = [] := by rw [← hRA]; simp
    have lA : RA.length = (a :: A).length := by rw [← hRA]; simp
    have oA : qcd 6 RA = true := by rw [← hRA]; exact qe1 _
    have loA : ∀ n, qiu n RA = true := fun n => by rw [← hRA]; exact qaa n _
    obtain ⟨xt, xk, xl, xi, xp, xa⟩ := x
    simp only [List.append_nil, List.length_nil, List.map_nil, hRA, Nat.add_zero, Nat.sub_self] at *
    generalize hra : (a :: A).length = na at *
    simp only [qg0, Int.toNat_natCast, k1, k3, k5, k6, k7, c1, c2, tk, dr, b1, b2, ta2, tb, okAB, imp_self, Int.le_refl, Nat.sub_zero, nA, lA, loA, qbc, zfe, qjk, Evt.r, qw, qj, Ev.exec, qb, qe, qc, qai, qm4, Ev.Opnd.ev, Ev.Env.get, Ev.Env.set, Ev.look, qk, qf9, qf, qbq, qv, qfm, Ev.AV.cells, qo, Ev.AV.plain, qi, qq, qaj, Ev.kill, qag, qs, Ev.keep, qal, qaf, qg, qbb, qm, qbm, qds, qh, qd, qu, qak, qbc, qbg, qhg, qe3, List.replicate_one, ↓qn, ↓qa3, ↓reduceIte, List.length_cons, List.length_nil, List.length_append, List.getElem?_cons_zero, List.take_succ_cons, List.take_zero, zfe, List.drop_zero, List.nil_append, List.set_cons_zero, Nat.reduceAdd, Nat.reduceEqDiff, Nat.reduceMul, Nat.reduceLT, Nat.reduceLeDiff, Nat.reducePow, Int.reduceToNat, reduceCtorEq, decide_true, decide_false, zfc, Bool.and_true, zfa, and_self, and_true, ne_eq, zfb, zff, zfd, Nat.add_zero, Nat.lt_add_one, Nat.le_refl, Option.isSome_some, Option.isSome_none, eq_self, implies_true]
  · generalize hRA : List.map Evt.r (a :: A) = RA at *
    generalize hRB : List.map Evt.r (b :: B) = RB at *
    have nA : ¬ RA = [] := by rw [← hRA]; simp
    have nB : ¬ RB = [] := by rw [← hRB]; simp
    have lA : RA.length = (a :: A).length := by rw [← hRA]; simp
    have lB : RB.length = (b :: B).length := by rw [← hRB]; simp
    have oA : qcd 6 RA = true := by rw [← hRA]; exact qe1 _
    have oB : qcd 6 RB = true := by rw [← hRB]; exact qe1 _
    have loA : ∀ n, qiu n RA = true := fun n => by rw [← hRA]; exact qaa n _
    have loB : ∀ n, qiu n RB = true := fun n => by rw [← hRB]; exact qaa n _
    generalize hra : (a :: A).length = na at *
    generalize hrb : (b :: B).length = nb at *
    generalize (a :: A) ++ (b :: B) = AB at *
    obtain ⟨xt, xk, xl, xi, xp, xa⟩ := x
    simp only [qg0, Int.toNat_natCast, k1, k3, k5, k6, k7, c1, c2, tk, dr, b1, b2, b3, ta, ta2, ta3, tb, okAB, imp_self, n1, List.append_assoc, Int.le_refl, Nat.sub_zero, nA, nB, lA, lB, oA, oB, loA, loB, qjk, Evt.r, qaa, qw, qj, Ev.exec, qb, qe, qc, qai, qm4, Ev.Opnd.ev, Ev.Env.get, Ev.Env.set, Ev.look, qk, qf9, qf, qbq, qv, qfm, Ev.AV.cells, qo, Ev.AV.plain, qi, qq, qaj, Ev.kill, qag, qs, Ev.keep, qal, qaf, qg, qbb, qm, qbm, qds, qh, qd, qak, qbc, qbg, qhg, qe3, List.replicate_one, List.length_map, ↓qn, ↓qa3, ↓reduceIte, List.length_cons, List.length_nil, List.length_append, List.getElem?_cons_zero, List.take_succ_cons, List.take_zero, zfe, List.drop_zero, List.cons_append, List.nil_append, List.set_cons_zero, Nat.reduceAdd, Nat.reduceEqDiff, Nat.reduceMul, Nat.reduceLT, Nat.reduceLeDiff, Nat.reducePow, Int.reduceToNat, reduceCtorEq, decide_true, decide_false, zfc, Bool.and_true, zfa, and_self, and_true, ne_eq, zfb, zff, zfd, Nat.lt_add_one, Nat.le_refl, Option.isSome_some, Option.isSome_none, eq_self, implies_true]
theorem qza (hl : l.length ≤ 1000000) (hk : qic l) (kx : x.key.length ≤ 9223372036854775807) (hs : l.Pairwise leE) (hd : qvd (x :: l)) : qa4 (evL T) qfw [(.fsl ((l).map Evt.r) c), (.agg [(ii x.time), (.fsl ((x.key).map qby) false), (ii x.lp), (ii x.kind), (ii x.proc), (ii x.arg)])] = some (.fsl ((qga (x :: l)).map Evt.r) false) := by
  obtain ⟨k, hA, h⟩ := qw3 l c x hl hk kx
  rw [hA.eq hs hd] at h
  exact h
end
open Go.Ev
set_option maxRecDepth 10000
theorem qvd.sub {l m : List Evt} (h : qvd m) (s : l.Sublist m) : qvd l := List.Pairwise.sublist s h
theorem q0y {l m : List Evt} (hd : qvd m) (hp : l.Perm m) : qga l = qga m := qpw hd ((qfa l).trans hp) (qgj l)
theorem q1r (l : List Evt) : (qga l).length = l.length := (qfa l).length_eq
section
variable (l m : List Evt) (c d : Bool)
end
def qgy (l : List Evt) (k : List Int) : List Evt × Bool := (l.eraseP (fun e => decide (e.key = k)), l.any (fun e => decide (e.key = k)))
section
variable (l : List Evt) (c : Bool) (k : List Int) (d : Bool)
theorem q7n {i : Nat} {x : Evt} (h : l[i]? = some x) (hx : x.key = k) (hb : ∀ (j : Nat) (z : Evt), j < i → l[j]? = some z → ¬ z.key = k) : qgy l k = (l.take i ++ l.drop (i + 1), true) := by
  unfold qgy
  have hany : l.any (fun e => decide (e.key = k)) = true := List.any_eq_true.2 ⟨x, List.mem_of_getElem? h, by simpa using hx⟩
  rw [hany]
  obtain ⟨hi, hxe⟩ := List.getElem?_eq_some_iff.1 h
  have hsplit : l = l.take i ++ x :: l.drop (i + 1) := by
    rw [← hxe]; simp
  congr 1
  conv => lhs; rw [hsplit]
  rw [List.eraseP_append_right _ (fun z hz => by
    obtain ⟨j, hj⟩ := List.mem_iff_getElem?.1 hz
    rw [List.getElem?_take] at hj
    split at hj
    · simpa using hb j z (by omega) hj
    · cases hj)]
  rw [List.eraseP_cons_of_pos (by simpa using hx)]
theorem q22 (h : ∀ x ∈ l, ¬ x.key = k) : qgy l k = (l, false) := by
  unfold qgy
  rw [List.eraseP_of_forall_not (fun x hx => by simpa using h x hx)]
  congr 1
  rw [List.any_eq_false]
  exact fun x hx => by simpa using h x hx
end
open Go.Ev
set_option maxRecDepth 10000
theorem qtu {α : Type} [DecidableEq α] : ∀ {a b : List α}, a.length = b.length → ((a.zip b).all (fun z => decide (z.1 = z.2)) = true ↔ a = b)
  | [], [], _ => by simp
  | x :: a, y :: b, h => by
    rw [List.zip_cons_cons, List.all_cons, Bool.and_eq_true, decide_eq_true_eq, qtu (a := a) (b := b) (by simpa using h), List.cons.injEq]
  | [], _ :: _, h => by simp at h
  | _ :: _, [], h => by simp at h
section
variable (a b : List Int) (c d : Bool)
theorem qyl (hab : a.length = b.length) (hl : a.length ≤ 9223372036854775807) :
    ∃ y, itB (exec (evL T) itL none qdl) (qs [0, 1, 12, 13] true 0) ⟨[(0, (.fsl ((a).map qby) c)), (1, (.fsl ((b).map qby) d)), (12, (ii a.length)), (13, (ii 0))], []⟩ [] = some y ∧ ((a.zip b).all (fun z => decide (z.1 = z.2)) = true ∧ (y.1 = .exit 0 ∧ y.2.1.marks = [] ∧ y.2.2 = []) ∨
      (a.zip b).all (fun z => decide (z.1 = z.2)) = false ∧ ∃ x, (a.zip b).find? (fun z => !decide (z.1 = z.2)) = some x ∧ (y.1 = .ret ∧ y.2.1.marks = [] ∧ y.2.2 = [] ∧ Ev.look y.2.1.vars 4 = some (bb false))) := by
  have hzl : (a.zip b).length = a.length := by rw [List.length_zip, ← hab, Nat.min_self]
  refine qg9 (a.zip b) (fun i => ⟨[(0, (.fsl ((a).map qby) c)), (1, (.fsl ((b).map qby) d)), (12, (ii a.length)), (13, (ii i))], []⟩) [] (fun z => decide (z.1 = z.2)) _ (fun _ y => _) ?_ ?_ ?_
  · intro i x hi hx hp
    rw [hzl] at hi
    have hi' : (i : Int) < (a.length : Int) := by omega
    have hw : IntKind.i64.wrap ((i : Int) + 1) = ((i + 1 : Nat) : Int) := by rw [qas (by omega) (by omega)]; simp
    obtain ⟨hxa, hxb⟩ := List.getElem?_zip_eq_some.1 hx
    have hp' := of_decide_eq_true hp
    simp only [qdl, Int.natCast_nonneg, Int.toNat_natCast, List.getElem?_map, Option.map_some, hxa, hxb, hi', hw, hp', qw, qby, Ev.exec, qb, qe, qc, qai, Ev.Opnd.ev, Ev.Env.get, Ev.Env.set, Ev.look, qf, qv, qao, qbe, ql, qs, Ev.keep, qal, qaf, qg, qbb, qm, ↓qn, Ev.it1, ↓reduceIte, List.length_cons, List.length_nil, zfe, List.head?_cons, Nat.reduceEqDiff, reduceCtorEq, decide_true, decide_false, zfc, zfa, and_self, ne_eq, not_true_eq_false, zfd, eq_self]
  · intro i x hi hx hp
    rw [hzl] at hi
    have hi' : (i : Int) < (a.length : Int) := by omega
    obtain ⟨hxa, hxb⟩ := List.getElem?_zip_eq_some.1 hx
    have hp' : ¬ x.1 = x.2 := of_decide_eq_false hp
    simp only [qdl, Int.natCast_nonneg, Int.toNat_natCast, List.getElem?_map, Option.map_some, hxa, hxb, hi', hp', qby, Ev.exec, qb, qe, qc, qai, Ev.Opnd.ev, Ev.Env.get, Ev.Env.set, Ev.look, qf, qv, qbe, ql, ↓qn, Ev.it1, ↓reduceIte, List.length_cons, List.length_nil, List.head?_cons, Nat.reduceEqDiff, reduceCtorEq, decide_true, zfa, ne_eq, zfb, zfd, eq_self]
    exact ⟨_, rfl, rfl, rfl, rfl, rfl⟩
  · rw [hzl]
    simp only [qdl, Int.lt_irrefl, Ev.exec, qb, qe, qc, qai, Ev.Opnd.ev, Ev.Env.get, Ev.Env.set, Ev.look, ql, ↓qn, Ev.it1, ↓reduceIte, Nat.reduceEqDiff, reduceCtorEq, decide_false, zfa, eq_self]
    exact ⟨_, rfl, rfl, rfl, rfl⟩
theorem qp3 (hl : a.length ≤ 9223372036854775807) (hl2 : b.length ≤ 9223372036854775807) : qa4 (evL T) qcj [(.fsl ((a).map qby) c), (.fsl ((b).map qby) d)] = some (bb (decide (a = b))) := by
  rw [qa4, qad qny qmt]
  by_cases hab : a.length = b.length
  · have hab' : (a.length : Int) = (b.length : Int) := by omega
    obtain ⟨⟨y, e, σ⟩, k1, k2⟩ := qyl a b c d hab hl
    simp only at k2
    rcases k2 with ⟨k3, rfl, k4, rfl⟩ | ⟨k3, x, _, rfl, k4, rfl, k5⟩
    · have : a = b := (qtu hab).1 k3
      rw [hab'] at k1
      simp only [qdi, this, qw, qj, Ev.exec, qb, qe, qc, qai, Ev.Opnd.ev, Ev.Env.get, Ev.Env.set, Ev.look, qk, qbe, qi, qq, qaj, qag, qs, Ev.keep, qal, qaf, qg, qbb, qm, List.length_map, ↓qn, ↓qa3, ↓reduceIte, List.length_cons, List.length_nil, List.take_zero, zfe, Nat.reduceAdd, Nat.reduceEqDiff, reduceCtorEq, decide_true, decide_false, zfc, zfa, and_self, and_true, ne_eq, not_true_eq_false, zfd, eq_self]
      subst this
      simp only [k1, k4, Ev.look, Ev.kill, qbb, qx, ↓reduceIte, eq_self]
    · have : ¬ a = b := fun h => by rw [(qtu hab).2 h] at k3; cases k3
      simp only [this]
      rw [hab'] at k1
      simp only [qdi, hab', k1, k4, k5, qw, qj, Ev.exec, qb, qe, qc, qai, Ev.Opnd.ev, Ev.Env.get, Ev.Env.set, Ev.look, qk, qbe, qi, qq, qaj, Ev.kill, qag, qs, Ev.keep, qal, qaf, qg, qbb, qm, qx, List.length_map, ↓qn, ↓qa3, ↓reduceIte, List.length_cons, List.length_nil, zfe, Nat.reduceAdd, Nat.reduceEqDiff, reduceCtorEq, decide_false, zfc, zfa, and_self, ne_eq, not_true_eq_false, zfd, eq_self]
  · have hab' : ¬ (a.length : Int) = (b.length : Int) := by omega
    have : ¬ a = b := fun h => hab (by rw [h])
    simp only [qdi, hab', this, qj, Ev.exec, qb, qe, qc, qai, Ev.Opnd.ev, Ev.Env.get, Ev.Env.set, Ev.look, qk, qbe, qi, qq, qaj, Ev.kill, qag, qg, qbb, qx, List.length_map, ↓qn, ↓reduceIte, List.length_cons, List.length_nil, zfe, Nat.reduceAdd, Nat.reduceEqDiff, reduceCtorEq, decide_true, decide_false, and_self, ne_eq, zfb, zfd, eq_self]
end
open Go.Ev
mutual
theorem qzh {n m : Nat} (h : n ≤ m) : ∀ (a : AV), a.lo n = true → a.lo m = true
  | .v _, _ => by simp only [AV.lo]
  | .agg cs, k => by simp only [AV.lo] at k ⊢; exact qo4 h cs k
  | .tup cs, k => by simp only [AV.lo] at k ⊢; exact qo4 h cs k
  | .fsl es _, k => by simp only [AV.lo] at k ⊢; exact qxo h es k
  | .fptr cs, k => by simp only [AV.lo] at k ⊢; exact qo4 h cs k
  | .sl o _ _ _ _, k => by simp only [AV.lo, decide_eq_true_eq] at k ⊢; omega
  | .ptr o _ _ _, k => by simp only [AV.lo, decide_eq_true_eq] at k ⊢; omega
  | .fn _ a b, k => by simp only [AV.lo, Bool.and_eq_true] at k ⊢; exact ⟨qo4 h a k.1, qo4 h b k.2⟩
  | .yld o, k => by simp only [AV.lo, decide_eq_true_eq] at k ⊢; omega
  | .mp o, k => by simp only [AV.lo, decide_eq_true_eq] at k ⊢; omega
theorem qo4 {n m : Nat} (h : n ≤ m) : ∀ (l : List AV), los n l = true → los m l = true
  | [], _ => by simp only [los]
  | a :: l, k => by simp only [los, Bool.and_eq_true] at k ⊢; exact ⟨qzh h a k.1, qo4 h l k.2⟩
theorem qxo {n m : Nat} (h : n ≤ m) : ∀ (es : List (List AV)), qiu n es = true → qiu m es = true
  | [], _ => by simp only [qiu]
  | a :: l, k => by simp only [qiu, Bool.and_eq_true] at k ⊢; exact ⟨qo4 h a k.1, qxo h l k.2⟩
end
theorem qwn {n m : Nat} (h : n ≤ m) : ∀ (l : List (Nat × AV)), qal n l = true → qal m l = true
  | [], _ => by simp only [qal]
  | (_, a) :: r, k => by simp only [qal, Bool.and_eq_true] at k ⊢; exact ⟨qzh h a k.1, qwn h r k.2⟩
theorem q23 {n m : Nat} (h : n ≤ m) (o : SObj) (k : o.lo n = true) : o.lo m = true := by
  cases o <;> simp only [SObj.lo] at k ⊢
  · exact qxo h _ k
  · exact qwn h _ k
end Go.Proofs.Ytbhhifdhlafklaa.K
