/- For every input the statement of this claim returns true: texts of its proof, joined (part 7). -/
import Derived.Test.YtbhhifdhlafklaaProg
import Derived.KernelRfl
import Derived.Test.YtbhhifdhlafklaaEWT3
import Derived.Test.YtbhhifdhlafklaaSKWT
set_option linter.unusedSectionVars false
set_option linter.unusedSimpArgs false
set_option linter.unusedVariables false
namespace Go.Proofs.Ytbhhifdhlafklaa.K
open Go.Ev
set_option maxRecDepth 100000
theorem qrf : qf5 Try.prog { frz := [4], appN := [134, 143], appZ := [136, 145] } qem = some qcl := by kernel_rfl
theorem q0d : qf5 Try.prog {  } qi9 = some qqb := by kernel_rfl
theorem q3a : qf5 Try.prog { frz := [1] } qky = some qqz := by kernel_rfl
theorem qyx : qf5 Try.prog { frz := [2] } qh5 = some qll := by kernel_rfl
theorem qwx : qf5 Try.prog { frzv := [27], own := [4], loops := [([4, 7, 8, 9], true)] } qet = some qju := by kernel_rfl
theorem qux : qf5 Try.prog { frz := [2] } qdw = some qj3 := by kernel_rfl
theorem qts : qf5 Try.prog { frz := [4, 5], mI := [21, 26, 28], ownB := [(17, (5, 6)), (17, (6, 6))], loops := [([4, 13], true)] } qdf = some qj4 := by kernel_rfl
theorem qsz : qf5 Try.prog { frz := [2, 3] } qeo = some qc3 := by kernel_rfl
theorem qt3 : qf5 Try.prog { mA := [12], mF := [53], topZ := [15], ownS := [(15, 6)], appB := [(33, 8)], ldB := [(25, 8)], loops := [([5, 6, 17, 18, 19], true), ([5, 36, 37, 38], true)] } qfh = some qli := by kernel_rfl
theorem qyf : qf5 Try.prog { frz := [2, 3], loops := [([2, 3, 5], true)] } qg0 = some qer := by kernel_rfl
theorem qr1 : qf5 Try.prog { loops := [([0, 1, 5], true)] } qc8 = some qfa := by kernel_rfl
theorem q0v : qf5 Try.prog {  } qkd = some qpy := by kernel_rfl
theorem qx3 : qf5 Try.prog { mF := [9] } qir = some qnn := by kernel_rfl
theorem qv6 : qf5 Try.prog { frz := [1], frzv := [41], own := [3], loops := [([1, 3, 4], true), ([1, 3, 4, 5], true)] } qex = some qkq := by kernel_rfl
theorem qxa : qf5 Try.prog { frz := [1], own := [3], topZ := [5], loops := [([1, 3, 4], false), ([1, 3, 4, 5, 6], false)] } qfv = some qkz := by kernel_rfl
theorem qzc : qf5 Try.prog { frz := [1], loops := [([1, 3, 4, 5], true), ([1, 3, 4, 6], true), ([1, 3, 4, 6, 7], true)] } qh0 = some qfr := by kernel_rfl
theorem qt8 : qf5 Try.prog { frz := [2], loops := [([1, 2, 4, 5], true)] } qfe = some qj1 := by kernel_rfl
theorem qyp : qf5 Try.prog { own := [5], loops := [([0, 1, 5, 6], true), ([0, 1, 5, 6, 7, 8], true)] } qhu = some qln := by kernel_rfl
theorem qpm : qf5 Try.prog { bad := true, loops := [([0, 3, 4], true)] } qda = some qgt := by kernel_rfl
theorem qod : qf5 Try.prog { frz := [2, 3] } qcz = some qfp := by kernel_rfl
theorem qn3 : qf5 Try.prog { frz := [4, 5], loops := [([0, 5, 8, 50, 51, 52], true), ([0, 81, 82, 83], true)] } qcu = some qd8 := by kernel_rfl
theorem qoa : qf5 Try.prog { ldx := [(14, 2), (18, 2), (22, 2), (26, 2)] } qc0 = some qfn := by kernel_rfl
theorem qpl : qf5 Try.prog { frz := [2, 3] } qcy = some qe1 := by kernel_rfl
theorem qv2 : qf5 Try.prog {  } qdt = some qjc := by kernel_rfl
theorem qh7 : qf5 Try.prog { mA := [24], bad := true, loops := [([0, 3, 9, 10, 11], true), ([6, 25, 26, 27], false)] } qaq = some qcc := by kernel_rfl
theorem qv8 : qf5 Try.prog { mA := [8], mI := [9] } qhe = some ql8 := by kernel_rfl
theorem qr9 : qf5 Try.prog { frzv := [49], own := [6], loops := [([0, 3, 4], true), ([0, 3, 4, 5], true)] } qc7 = some qix := by kernel_rfl
theorem qyn : qf5 Try.prog { frz := [1], loops := [([1, 3], true), ([1, 4], true)] } qh2 = some qgk := by kernel_rfl
theorem qyq : qf5 Try.prog { frz := [1], loops := [([1, 3], true), ([1, 5], true), ([1, 5, 6], true)] } qh9 = some qgv := by kernel_rfl
theorem qyu : qf5 Try.prog { frz := [1], topZ := [9], loops := [([1, 2, 3, 4], false)] } qh1 = some qlt := by kernel_rfl
theorem qx9 : qf5 Try.prog { frz := [2], appN := [21, 28, 57, 69], frzv := [36, 38, 63, 73] } qg4 = some qj0 := by kernel_rfl
theorem qw3 : qf5 Try.prog { frz := [3], own := [6], loops := [([0, 3, 5], true)] } qfw = some qgz := by kernel_rfl
theorem qm0 : qf5 Try.prog { loops := [([0, 1, 2], true)] } qca = some qdr := by kernel_rfl
theorem qxi : qf5 Try.prog { mA := [20] } qg5 = some qiq := by kernel_rfl
theorem qw6 : qf5 Try.prog { frz := [3, 5], mA := [52], mI := [59, 82, 88], ldF := [80], ldx := [(96, 6), (100, 6), (104, 6)], ownB := [(56, (10, 6)), (56, (12, 1))] } qdp = some qbr := by kernel_rfl
theorem qun : qf5 Try.prog { frz := [3], mA := [14], mI := [18] } qek = some qj2 := by kernel_rfl
theorem qut : qf5 Try.prog { frz := [3], mA := [21], mI := [9] } qff = some qin := by kernel_rfl
theorem qvx : qf5 Try.prog {  } qef = some qhf := by kernel_rfl
theorem qra : qf5 Try.prog { loops := [([0, 1, 5], true)] } qdd = some qf2 := by kernel_rfl
theorem qis : qf5 Try.prog { bad := true } qaw = some qbw := by kernel_rfl
theorem qk3 : qf5 Try.prog { mI := [4] } qch = some qfg := by kernel_rfl
theorem qtw : qf5 Try.prog {  } qgh = some qlb := by kernel_rfl
theorem qrq : qf5 Try.prog { mA := [5], mI := [7] } qe5 = some qki := by kernel_rfl
theorem qzb : qf5 Try.prog { frz := [1], loops := [([1, 3], true)] } qhy = some qdu := by kernel_rfl
theorem qym : qf5 Try.prog { loops := [([0, 1, 2, 3, 9], true), ([0, 2, 3, 10], true), ([0, 3, 11], true)] } qh8 = some qgw := by kernel_rfl
theorem q0k : qf5 Try.prog { frz := [3, 4, 5], ldx := [(96, 6), (98, 6), (100, 6)] } qeu = some qb1 := by kernel_rfl
theorem qv0 : qf5 Try.prog { own := [5], loops := [([0, 1, 5, 6], true), ([0, 1, 5, 6, 7, 8], true)] } qf3 = some qkm := by kernel_rfl
theorem qnt : qf5 Try.prog {  } qap = some qd5 := by kernel_rfl
theorem qn7 : qf5 Try.prog { loops := [([0, 1, 12, 13], true)] } qcj = some qdj := by kernel_rfl
theorem qlf : qf5 Try.prog { mA := [6], mI := [10, 19, 44, 49], loops := [([0, 1, 4, 7], true)] } qb6 = some qc9 := by kernel_rfl
theorem qd6 : qf5 Try.prog { frz := [4], loops := [([0, 2, 4, 8, 9, 10], true)] } qac = some qan := by kernel_rfl
theorem qpj : qf5 Try.prog { frz := [2, 3] } qa5 = some qgm := by kernel_rfl
theorem qg8 : qf5 Try.prog { loops := [([0, 1, 7, 8], true)] } qau = some qbo := by kernel_rfl
theorem qry : qf5 Try.prog { frz := [2] } qcv = some qiv := by kernel_rfl
theorem qg7 : qf5 Try.prog { own := [2], loops := [([2], true)] } qa9 = some qcs := by kernel_rfl
theorem qr2 : qf5 Try.prog { loops := [([0, 1, 2], true)] } qe7 = some qkl := by kernel_rfl
theorem qf6 : qf5 Try.prog { mI := [8] } qay = some qce := by kernel_rfl
theorem qys : qf5 Try.prog { loops := [([0, 3], true)] } qht = some qh6 := by kernel_rfl
theorem qug : qf5 Try.prog { frz := [3] } qfi = some qdg := by kernel_rfl
theorem q1f : qf5 Try.prog { frz := [5], appN := [12], frzv := [17] } qd4 = some qpa := by kernel_rfl
theorem quk : qf5 Try.prog { frz := [3], loops := [([2, 3, 4, 6, 7], true)] } qfj = some qgi := by kernel_rfl
theorem qo1 : qf5 Try.prog {  } qc6 = some qf7 := by kernel_rfl
theorem qza : qf5 Try.prog {  } qhv = some qlm := by kernel_rfl
theorem qtf : qf5 Try.prog {  } qd9 = some qf1 := by kernel_rfl
theorem qre : qf5 Try.prog {  } qd3 = some qhr := by kernel_rfl
theorem qjz : qf5 Try.prog { mI := [18, 27, 43, 60], loops := [([0, 1, 2, 6, 7, 8], true), ([0, 1, 2, 6], true), ([0, 1, 2, 6, 7, 8], true)] } qbv = some qdy := by kernel_rfl
theorem qyt : qf5 Try.prog {  } qeq = some ql1 := by kernel_rfl
theorem qyk : qf5 Try.prog {  } qfs = some qlo := by kernel_rfl
theorem q0c : qf5 Try.prog { frz := [5], appN := [134], frzv := [141] } qcw = some qc5 := by kernel_rfl
theorem qnj : qf5 Try.prog { frz := [3], mI := [14, 15], ldF := [7] } qb3 = some qfd := by kernel_rfl
theorem qnx : qf5 Try.prog { frz := [3], mI := [13] } qb4 = some qfb := by kernel_rfl
theorem qmq : qf5 Try.prog { frz := [3], mI := [7, 21, 22], mR := [9], ldF := [12] } qbz = some qes := by kernel_rfl
theorem qni : qf5 Try.prog { frz := [3], mI := [7] } qbs = some qd7 := by kernel_rfl
theorem qm3 : qf5 Try.prog { frz := [3], mI := [33, 34], ldF := [30] } qbx = some qds := by kernel_rfl
theorem qn6 : qf5 Try.prog { frz := [3] } qb5 = some qee := by kernel_rfl
theorem qno : qf5 Try.prog { frz := [3], mI := [17], ldF := [19] } qb2 = some qct := by kernel_rfl
theorem qon : qf5 Try.prog { frz := [3] } qb9 = some qfo := by kernel_rfl
theorem q0z : qf5 Try.prog { loops := [([3, 6, 7, 8], true)] } qi5 = some qk8 := by kernel_rfl
theorem qv7 : qf5 Try.prog {  } qe0 = some qkk := by kernel_rfl
theorem qm2 : qf5 Try.prog { loops := [([0, 1, 9, 10, 11], true)] } qcm = some qck := by kernel_rfl
theorem qia : qf5 Try.prog { loops := [([0, 1, 2, 3, 8], true), ([0, 1, 2, 3, 8, 9], true)] } qa1 = some qc1 := by kernel_rfl
theorem qjg : qf5 Try.prog { mI := [191, 205, 219], loops := [([0, 1, 4, 10, 11], true), ([0, 10, 13], true), ([0, 2, 4, 14, 15], true), ([0, 14, 17], true), ([0, 1, 2, 3, 4, 18, 19, 20, 21, 22], true)] } qam = some qdm := by kernel_rfl
theorem qyi : qf5 Try.prog { appN := [36], frzv := [41], ldx := [(32, 6), (45, 6)] } qed = some qjx := by kernel_rfl
theorem qti : qf5 Try.prog { appN := [8] } qec = some qjl := by kernel_rfl
theorem qmo : qf5 Try.prog {  } qbj = some qdk := by kernel_rfl
theorem qof : qf5 Try.prog {  } qb8 = some qfq := by kernel_rfl
theorem qjt : qf5 Try.prog { mI := [31, 46, 57], loops := [([0, 2, 4, 10, 11], true)] } qbi = some qd0 := by kernel_rfl
theorem qyo : qf5 Try.prog { appN := [8] } qhw = some qlx := by kernel_rfl
theorem qyv : qf5 Try.prog { mA := [6] } qh4 = some qlv := by kernel_rfl
theorem qja : qf5 Try.prog { loops := [([0, 1, 2, 3, 10], true)] } qa0 = some qdi := by kernel_rfl
theorem qhk : qrt Try.prog qb7 = some (1, 24) := by kernel_rfl
theorem qhx : qrt Try.prog qa6 = some (6, 64) := by kernel_rfl
theorem qka : qrt Try.prog qci = some (4, 48) := by kernel_rfl
theorem qnw : qrt Try.prog qeh = some (1, 8) := by kernel_rfl
theorem qhl : InsB Try.prog qbd 6 64 75 39 4 := ⟨by kernel_rfl, by kernel_rfl, by kernel_rfl, by kernel_rfl, by kernel_rfl, by kernel_rfl, by kernel_rfl, by kernel_rfl, by kernel_rfl, by kernel_rfl, by kernel_rfl, by kernel_rfl, by kernel_rfl, by kernel_rfl, by kernel_rfl, by kernel_rfl, by kernel_rfl, by kernel_rfl, by kernel_rfl, by kernel_rfl, by kernel_rfl, by kernel_rfl, by kernel_rfl, by kernel_rfl⟩
def codeL : List (Nat × CFunc) := [(qem, qcl), (qi9, qqb), (qky, qqz), (qh5, qll), (qet, qju), (qdw, qj3), (qdf, qj4), (qeo, qc3), (qfh, qli), (qg0, qer), (qc8, qfa), (qkd, qpy), (qir, qnn), (qex, qkq), (qfv, qkz), (qh0, qfr), (qfe, qj1), (qhu, qln), (qda, qgt), (qcz, qfp), (qcu, qd8), (qc0, qfn), (qcy, qe1), (qdt, qjc), (qaq, qcc), (qhe, ql8), (qc7, qix), (qh2, qgk), (qh9, qgv), (qh1, qlt), (qg4, qj0), (qfw, qgz), (qca, qdr), (qg5, qiq), (qdp, qbr), (qek, qj2), (qff, qin), (qef, qhf), (qdd, qf2), (qaw, qbw), (qch, qfg), (qgh, qlb), (qe5, qki), (qhy, qdu), (qh8, qgw), (qeu, qb1), (qf3, qkm), (qap, qd5), (qcj, qdj), (qb6, qc9), (qac, qan), (qa5, qgm), (qau, qbo), (qcv, qiv), (qa9, qcs), (qe7, qkl), (qay, qce), (qht, qh6), (qfi, qdg), (qd4, qpa), (qfj, qgi), (qc6, qf7), (qhv, qlm), (qd9, qf1), (qd3, qhr), (qbv, qdy), (qeq, ql1), (qfs, qlo), (qcw, qc5), (qb3, qfd), (qb4, qfb), (qbz, qes), (qbs, qd7), (qbx, qds), (qb5, qee), (qb2, qct), (qb9, qfo), (qi5, qk8), (qe0, qkk), (qcm, qck), (qa1, qc1), (qam, qdm), (qed, qjx), (qec, qjl), (qbj, qdk), (qb8, qfq), (qbi, qd0), (qhw, qlx), (qh4, qlv), (qa0, qdi)]
def extL : List (Nat × (Nat × Nat)) := [(qb7, (1, 24)), (qa6, (6, 64)), (qci, (4, 48)), (qeh, (1, 8))]
def insL : List (Nat × (Nat × Nat)) := [(qbd, (6, 64))]
def q3s {α : Type} : List (Nat × α) → Nat → Option α
 | [], _ => none
 | (k, x) :: l, i => if k = i then some x else q3s l i
theorem qsv {α : Type} : ∀ {l : List (Nat × α)} {i : Nat} {x : α}, q3s l i = some x → (i, x) ∈ l
 | [], _, _, h => by simp [q3s] at h
 | (k, y) :: l, i, x, h => by
  simp only [q3s] at h
  split at h
  ·rename_i hk; subst hk; cases h; simp
  ·exact List.mem_cons_of_mem _ (qsv h)
def T : Tab := { code := q3s codeL, ext := fun k => (q3s extL k).map fun p => qrj p.1 p.2, ins := q3s insL }
theorem codeL_ok : ∀ x ∈ codeL, ∃ h, qf5 Try.prog h x.1 = some x.2 := by
 intro x hx
 simp only [codeL, List.mem_cons, List.not_mem_nil, or_false] at hx
 rcases hx with rfl | rfl | rfl | rfl | rfl | rfl | rfl | rfl | rfl | rfl | rfl | rfl | rfl | rfl | rfl | rfl | rfl | rfl | rfl | rfl | rfl | rfl | rfl | rfl | rfl | rfl | rfl | rfl | rfl | rfl | rfl | rfl | rfl | rfl | rfl | rfl | rfl | rfl | rfl | rfl | rfl | rfl | rfl | rfl | rfl | rfl | rfl | rfl | rfl | rfl | rfl | rfl | rfl | rfl | rfl | rfl | rfl | rfl | rfl | rfl | rfl | rfl | rfl | rfl | rfl | rfl | rfl | rfl | rfl | rfl | rfl | rfl | rfl | rfl | rfl | rfl | rfl | rfl | rfl | rfl | rfl | rfl | rfl | rfl | rfl | rfl | rfl | rfl | rfl | rfl
 ·exact ⟨_, qrf⟩
 ·exact ⟨_, q0d⟩
 ·exact ⟨_, q3a⟩
 ·exact ⟨_, qyx⟩
 ·exact ⟨_, qwx⟩
 ·exact ⟨_, qux⟩
 ·exact ⟨_, qts⟩
 ·exact ⟨_, qsz⟩
 ·exact ⟨_, qt3⟩
 ·exact ⟨_, qyf⟩
 ·exact ⟨_, qr1⟩
 ·exact ⟨_, q0v⟩
 ·exact ⟨_, qx3⟩
 ·exact ⟨_, qv6⟩
 ·exact ⟨_, qxa⟩
 ·exact ⟨_, qzc⟩
 ·exact ⟨_, qt8⟩
 ·exact ⟨_, qyp⟩
 ·exact ⟨_, qpm⟩
 ·exact ⟨_, qod⟩
 ·exact ⟨_, qn3⟩
 ·exact ⟨_, qoa⟩
 ·exact ⟨_, qpl⟩
 ·exact ⟨_, qv2⟩
 ·exact ⟨_, qh7⟩
 ·exact ⟨_, qv8⟩
 ·exact ⟨_, qr9⟩
 ·exact ⟨_, qyn⟩
 ·exact ⟨_, qyq⟩
 ·exact ⟨_, qyu⟩
 ·exact ⟨_, qx9⟩
 ·exact ⟨_, qw3⟩
 ·exact ⟨_, qm0⟩
 ·exact ⟨_, qxi⟩
 ·exact ⟨_, qw6⟩
 ·exact ⟨_, qun⟩
 ·exact ⟨_, qut⟩
 ·exact ⟨_, qvx⟩
 ·exact ⟨_, qra⟩
 ·exact ⟨_, qis⟩
 ·exact ⟨_, qk3⟩
 ·exact ⟨_, qtw⟩
 ·exact ⟨_, qrq⟩
 ·exact ⟨_, qzb⟩
 ·exact ⟨_, qym⟩
 ·exact ⟨_, q0k⟩
 ·exact ⟨_, qv0⟩
 ·exact ⟨_, qnt⟩
 ·exact ⟨_, qn7⟩
 ·exact ⟨_, qlf⟩
 ·exact ⟨_, qd6⟩
 ·exact ⟨_, qpj⟩
 ·exact ⟨_, qg8⟩
 ·exact ⟨_, qry⟩
 ·exact ⟨_, qg7⟩
 ·exact ⟨_, qr2⟩
 ·exact ⟨_, qf6⟩
 ·exact ⟨_, qys⟩
 ·exact ⟨_, qug⟩
 ·exact ⟨_, q1f⟩
 ·exact ⟨_, quk⟩
 ·exact ⟨_, qo1⟩
 ·exact ⟨_, qza⟩
 ·exact ⟨_, qtf⟩
 ·exact ⟨_, qre⟩
 ·exact ⟨_, qjz⟩
 ·exact ⟨_, qyt⟩
 ·exact ⟨_, qyk⟩
 ·exact ⟨_, q0c⟩
 ·exact ⟨_, qnj⟩
 ·exact ⟨_, qnx⟩
 ·exact ⟨_, qmq⟩
 ·exact ⟨_, qni⟩
 ·exact ⟨_, qm3⟩
 ·exact ⟨_, qn6⟩
 ·exact ⟨_, qno⟩
 ·exact ⟨_, qon⟩
 ·exact ⟨_, q0z⟩
 ·exact ⟨_, qv7⟩
 ·exact ⟨_, qm2⟩
 ·exact ⟨_, qia⟩
 ·exact ⟨_, qjg⟩
 ·exact ⟨_, qyi⟩
 ·exact ⟨_, qti⟩
 ·exact ⟨_, qmo⟩
 ·exact ⟨_, qof⟩
 ·exact ⟨_, qjt⟩
 ·exact ⟨_, qyo⟩
 ·exact ⟨_, qyv⟩
 ·exact ⟨_, qja⟩
theorem extL_ok : ∀ x ∈ extL, qrt Try.prog x.1 = some x.2 := by
 intro x hx
 simp only [extL, List.mem_cons, List.not_mem_nil, or_false] at hx
 rcases hx with rfl | rfl | rfl | rfl
 ·exact qhk
 ·exact qhx
 ·exact qka
 ·exact qnw
theorem mixed : Try.prog.follows .mixedOrders = true := by kernel_rfl
theorem insL_ok : ∀ x ∈ insL, InsOk Try.prog x.1 (insF x.2.1 x.2.2) := by
 intro x hx
 simp only [insL, List.mem_cons, List.not_mem_nil, or_false] at hx
 rcases hx with rfl
 ·exact ins_ok mixed qhl
theorem T_ok : TabOk Try.prog T where
 code k f h := codeL_ok _ (qsv h)
 ext k F h := by
  simp only [T, Option.map_eq_some_iff] at h
  obtain ⟨p, h1, rfl⟩ := h
  exact clone_ok mixed (extL_ok _ (qsv h1))
 ins k p h := insL_ok (k, p) (qsv h)
 mixed := mixed
theorem qks : T.code qem = some qcl := rfl
theorem q7j : T.code qi9 = some qqb := rfl
theorem q0p : T.code qky = some qqz := rfl
theorem qv4 : T.code qh5 = some qll := rfl
theorem qtq : T.code qet = some qju := rfl
theorem qsa : T.code qdw = some qj3 := rfl
theorem qsk : T.code qdf = some qj4 := rfl
theorem qq9 : T.code qeo = some qc3 := rfl
theorem q22 : T.code qfh = some qli := rfl
theorem qui : T.code qg0 = some qer := rfl
theorem qqf : T.code qc8 = some qfa := rfl
theorem q79 : T.code qkd = some qpy := rfl
theorem q49 : T.code qir = some qnn := rfl
theorem qtc : T.code qex = some qkq := rfl
theorem quw : T.code qfv = some qkz := rfl
theorem qvj : T.code qh0 = some qfr := rfl
theorem qrz : T.code qfe = some qj1 := rfl
theorem qvy : T.code qhu = some qln := rfl
theorem qn8 : T.code qda = some qgt := rfl
theorem qmw : T.code qcz = some qfp := rfl
theorem qmh : T.code qcu = some qd8 := rfl
theorem qm6 : T.code qc0 = some qfn := rfl
theorem qn9 : T.code qcy = some qe1 := rfl
theorem qtb : T.code qdt = some qjc := rfl
theorem qhd : T.code qaq = some qcc := rfl
theorem q4c : T.code qhe = some ql8 := rfl
theorem qpx : T.code qc7 = some qix := rfl
theorem qvz : T.code qh2 = some qgk := rfl
theorem qvh : T.code qh9 = some qgv := rfl
theorem qv5 : T.code qh1 = some qlt := rfl
theorem quq : T.code qg4 = some qj0 := rfl
theorem qub : T.code qfw = some qgz := rfl
theorem qlq : T.code qca = some qdr := rfl
theorem qt5 : T.code qg5 = some qiq := rfl
theorem qjk : T.code qdp = some qbr := rfl
theorem qsh : T.code qek = some qj2 := rfl
theorem qme : T.code qff = some qin := rfl
theorem qs5 : T.code qef = some qhf := rfl
theorem qpo : T.code qdd = some qf2 := rfl
theorem qh3 : T.code qaw = some qbw := rfl
theorem qtp : T.code qch = some qfg := rfl
theorem q2u : T.code qgh = some qlb := rfl
theorem q1k : T.code qe5 = some qki := rfl
theorem qvp : T.code qhy = some qdu := rfl
theorem qwa : T.code qh8 = some qgw := rfl
theorem qkn : T.code qeu = some qb1 := rfl
theorem qsw : T.code qf3 = some qkm := rfl
theorem qi4 : T.code qap = some qd5 := rfl
theorem qmt : T.code qcj = some qdj := rfl
theorem qkv : T.code qb6 = some qc9 := rfl
theorem qdv : T.code qac = some qan := rfl
theorem qoc : T.code qa5 = some qgm := rfl
theorem qgu : T.code qau = some qbo := rfl
theorem qpu : T.code qcv = some qiv := rfl
theorem qne : T.code qa9 = some qcs := rfl
theorem q2j : T.code qe7 = some qkl := rfl
theorem qlk : T.code qay = some qce := rfl
theorem qvi : T.code qht = some qh6 := rfl
theorem qr3 : T.code qfi = some qdg := rfl
theorem qy7 : T.code qd4 = some qpa := rfl
theorem qrv : T.code qfj = some qgi := rfl
theorem qny : T.code qc6 = some qf7 := rfl
theorem qvs : T.code qhv = some qlm := rfl
theorem qrd : T.code qd9 = some qf1 := rfl
theorem qpk : T.code qd3 = some qhr := rfl
theorem qq0 : T.code qbv = some qdy := rfl
theorem qvl : T.code qeq = some ql1 := rfl
theorem qvm : T.code qfs = some qlo := rfl
theorem qcq : T.code qcw = some qc5 := rfl
theorem qmp : T.code qb3 = some qfd := rfl
theorem qmf : T.code qb4 = some qfb := rfl
theorem ql0 : T.code qbz = some qes := rfl
theorem ql5 : T.code qbs = some qd7 := rfl
theorem qlz : T.code qbx = some qds := rfl
theorem qmr : T.code qb5 = some qee := rfl
theorem qmj : T.code qb2 = some qct := rfl
theorem qm1 : T.code qb9 = some qfo := rfl
theorem qw2 : T.code qi5 = some qk8 := rfl
theorem qsx : T.code qe0 = some qkk := rfl
theorem qls : T.code qcm = some qck := rfl
theorem qoo : T.code qa1 = some qc1 := rfl
theorem qpq : T.code qam = some qdm := rfl
theorem qup : T.code qed = some qjx := rfl
theorem qq4 : T.code qec = some qjl := rfl
theorem qld : T.code qbj = some qdk := rfl
theorem qmx : T.code qb8 = some qfq := rfl
theorem qqr : T.code qbi = some qd0 := rfl
theorem qvf : T.code qhw = some qlx := rfl
theorem qvt : T.code qh4 = some qlv := rfl
theorem qpi : T.code qa0 = some qdi := rfl
theorem qpr : T.ext qem = none ∧ T.ins qem = none := ⟨rfl, rfl⟩
theorem ext_law23_head : T.ext qi9 = none ∧ T.ins qi9 = none := ⟨rfl, rfl⟩
theorem q1x : T.ext qky = none ∧ T.ins qky = none := ⟨rfl, rfl⟩
theorem qx4 : T.ext qh5 = none ∧ T.ins qh5 = none := ⟨rfl, rfl⟩
theorem qv1 : T.ext qet = none ∧ T.ins qet = none := ⟨rfl, rfl⟩
theorem qte : T.ext qdw = none ∧ T.ins qdw = none := ⟨rfl, rfl⟩
theorem qst : T.ext qdf = none ∧ T.ins qdf = none := ⟨rfl, rfl⟩
theorem qrr : T.ext qeo = none ∧ T.ins qeo = none := ⟨rfl, rfl⟩
theorem q4s : T.ext qfh = none ∧ T.ins qfh = none := ⟨rfl, rfl⟩
theorem qvw : T.ext qg0 = none ∧ T.ins qg0 = none := ⟨rfl, rfl⟩
theorem qq8 : T.ext qc8 = none ∧ T.ins qc8 = none := ⟨rfl, rfl⟩
theorem ext_law19_Base : T.ext qkd = none ∧ T.ins qkd = none := ⟨rfl, rfl⟩
theorem q6f : T.ext qir = none ∧ T.ins qir = none := ⟨rfl, rfl⟩
theorem qul : T.ext qex = none ∧ T.ins qex = none := ⟨rfl, rfl⟩
theorem qvn : T.ext qfv = none ∧ T.ins qfv = none := ⟨rfl, rfl⟩
theorem qyg : T.ext qh0 = none ∧ T.ins qh0 = none := ⟨rfl, rfl⟩
theorem qs7 : T.ext qfe = none ∧ T.ins qfe = none := ⟨rfl, rfl⟩
theorem qxj : T.ext qhu = none ∧ T.ins qhu = none := ⟨rfl, rfl⟩
theorem qo9 : T.ext qda = none ∧ T.ins qda = none := ⟨rfl, rfl⟩
theorem qnk : T.ext qcz = none ∧ T.ins qcz = none := ⟨rfl, rfl⟩
theorem qmy : T.ext qcu = none ∧ T.ins qcu = none := ⟨rfl, rfl⟩
theorem qn2 : T.ext qc0 = none ∧ T.ins qc0 = none := ⟨rfl, rfl⟩
theorem qou : T.ext qcy = none ∧ T.ins qcy = none := ⟨rfl, rfl⟩
theorem qua : T.ext qdt = none ∧ T.ins qdt = none := ⟨rfl, rfl⟩
theorem qhn : T.ext qaq = none ∧ T.ins qaq = none := ⟨rfl, rfl⟩
theorem q5p : T.ext qhe = none ∧ T.ins qhe = none := ⟨rfl, rfl⟩
theorem qq6 : T.ext qc7 = none ∧ T.ins qc7 = none := ⟨rfl, rfl⟩
theorem qwt : T.ext qh2 = none ∧ T.ins qh2 = none := ⟨rfl, rfl⟩
theorem qw5 : T.ext qh9 = none ∧ T.ins qh9 = none := ⟨rfl, rfl⟩
theorem qw4 : T.ext qh1 = none ∧ T.ins qh1 = none := ⟨rfl, rfl⟩
theorem qvg : T.ext qg4 = none ∧ T.ins qg4 = none := ⟨rfl, rfl⟩
theorem qvk : T.ext qfw = none ∧ T.ins qfw = none := ⟨rfl, rfl⟩
theorem qje : T.ext qca = none ∧ T.ins qca = none := ⟨rfl, rfl⟩
theorem qv3 : T.ext qg5 = none ∧ T.ins qg5 = none := ⟨rfl, rfl⟩
theorem qj5 : T.ext qdp = none ∧ T.ins qdp = none := ⟨rfl, rfl⟩
theorem qs2 : T.ext qek = none ∧ T.ins qek = none := ⟨rfl, rfl⟩
theorem qm8 : T.ext qff = none ∧ T.ins qff = none := ⟨rfl, rfl⟩
theorem quf : T.ext qef = none ∧ T.ins qef = none := ⟨rfl, rfl⟩
theorem qp8 : T.ext qdd = none ∧ T.ins qdd = none := ⟨rfl, rfl⟩
theorem qig : T.ext qaw = none ∧ T.ins qaw = none := ⟨rfl, rfl⟩
theorem que : T.ext qch = none ∧ T.ins qch = none := ⟨rfl, rfl⟩
theorem q4f : T.ext qgh = none ∧ T.ins qgh = none := ⟨rfl, rfl⟩
theorem q2r : T.ext qe5 = none ∧ T.ins qe5 = none := ⟨rfl, rfl⟩
theorem qxy : T.ext qhy = none ∧ T.ins qhy = none := ⟨rfl, rfl⟩
theorem qxg : T.ext qh8 = none ∧ T.ins qh8 = none := ⟨rfl, rfl⟩
theorem qk1 : T.ext qeu = none ∧ T.ins qeu = none := ⟨rfl, rfl⟩
theorem qum : T.ext qf3 = none ∧ T.ins qf3 = none := ⟨rfl, rfl⟩
theorem qjn : T.ext qap = none ∧ T.ins qap = none := ⟨rfl, rfl⟩
theorem qnv : T.ext qcj = none ∧ T.ins qcj = none := ⟨rfl, rfl⟩
theorem qla : T.ext qb6 = none ∧ T.ins qb6 = none := ⟨rfl, rfl⟩
theorem qd2 : T.ext qac = none ∧ T.ins qac = none := ⟨rfl, rfl⟩
theorem qo4 : T.ext qa5 = none ∧ T.ins qa5 = none := ⟨rfl, rfl⟩
theorem qg1 : T.ext qau = none ∧ T.ins qau = none := ⟨rfl, rfl⟩
theorem qq5 : T.ext qcv = none ∧ T.ins qcv = none := ⟨rfl, rfl⟩
theorem qnz : T.ext qa9 = none ∧ T.ins qa9 = none := ⟨rfl, rfl⟩
theorem q2q : T.ext qe7 = none ∧ T.ins qe7 = none := ⟨rfl, rfl⟩
theorem ql4 : T.ext qay = none ∧ T.ins qay = none := ⟨rfl, rfl⟩
theorem qwn : T.ext qht = none ∧ T.ins qht = none := ⟨rfl, rfl⟩
theorem qta : T.ext qfi = none ∧ T.ins qfi = none := ⟨rfl, rfl⟩
theorem q02 : T.ext qd4 = none ∧ T.ins qd4 = none := ⟨rfl, rfl⟩
theorem qtg : T.ext qfj = none ∧ T.ins qfj = none := ⟨rfl, rfl⟩
theorem qob : T.ext qc6 = none ∧ T.ins qc6 = none := ⟨rfl, rfl⟩
theorem qwv : T.ext qhv = none ∧ T.ins qhv = none := ⟨rfl, rfl⟩
theorem qsc : T.ext qd9 = none ∧ T.ins qd9 = none := ⟨rfl, rfl⟩
theorem qp7 : T.ext qd3 = none ∧ T.ins qd3 = none := ⟨rfl, rfl⟩
theorem qq3 : T.ext qbv = none ∧ T.ins qbv = none := ⟨rfl, rfl⟩
theorem qwo : T.ext qeq = none ∧ T.ins qeq = none := ⟨rfl, rfl⟩
theorem qx6 : T.ext qfs = none ∧ T.ins qfs = none := ⟨rfl, rfl⟩
theorem qc2 : T.ext qcw = none ∧ T.ins qcw = none := ⟨rfl, rfl⟩
theorem qm4 : T.ext qb3 = none ∧ T.ins qb3 = none := ⟨rfl, rfl⟩
theorem qmv : T.ext qb4 = none ∧ T.ins qb4 = none := ⟨rfl, rfl⟩
theorem qmm : T.ext qbz = none ∧ T.ins qbz = none := ⟨rfl, rfl⟩
theorem qmu : T.ext qbs = none ∧ T.ins qbs = none := ⟨rfl, rfl⟩
theorem ql7 : T.ext qbx = none ∧ T.ins qbx = none := ⟨rfl, rfl⟩
theorem qnu : T.ext qb5 = none ∧ T.ins qb5 = none := ⟨rfl, rfl⟩
theorem qmz : T.ext qb2 = none ∧ T.ins qb2 = none := ⟨rfl, rfl⟩
theorem qnr : T.ext qb9 = none ∧ T.ins qb9 = none := ⟨rfl, rfl⟩
theorem qyw : T.ext qi5 = none ∧ T.ins qi5 = none := ⟨rfl, rfl⟩
theorem quh : T.ext qe0 = none ∧ T.ins qe0 = none := ⟨rfl, rfl⟩
theorem qmc : T.ext qcm = none ∧ T.ins qcm = none := ⟨rfl, rfl⟩
theorem qoq : T.ext qa1 = none ∧ T.ins qa1 = none := ⟨rfl, rfl⟩
theorem qqg : T.ext qam = none ∧ T.ins qam = none := ⟨rfl, rfl⟩
theorem qvu : T.ext qed = none ∧ T.ins qed = none := ⟨rfl, rfl⟩
theorem qrx : T.ext qec = none ∧ T.ins qec = none := ⟨rfl, rfl⟩
theorem qlw : T.ext qbj = none ∧ T.ins qbj = none := ⟨rfl, rfl⟩
theorem qnq : T.ext qb8 = none ∧ T.ins qb8 = none := ⟨rfl, rfl⟩
theorem qq7 : T.ext qbi = none ∧ T.ins qbi = none := ⟨rfl, rfl⟩
theorem qyd : T.ext qhw = none ∧ T.ins qhw = none := ⟨rfl, rfl⟩
theorem qxx : T.ext qh4 = none ∧ T.ins qh4 = none := ⟨rfl, rfl⟩
theorem qpp : T.ext qa0 = none ∧ T.ins qa0 = none := ⟨rfl, rfl⟩
theorem qom : T.ext qb7 = some (qrj 1 24) := rfl
theorem qhz : T.ext qa6 = some (qrj 6 64) := rfl
theorem qj9 : T.ext qci = some (qrj 4 48) := rfl
theorem qn0 : T.ext qeh = some (qrj 1 8) := rfl
theorem qhm : T.ins qbd = some (6, 64) := rfl
theorem qhh : T.ext qbd = none := rfl
def qby (n : Int) : List AV := [(ii n)]
theorem int_lo (n : Nat) (x : Int) : los n (qby x) = true := rfl
theorem int_pl (x : Int) : (qby x).length = 1 ∧ qo (qby x) = true := ⟨rfl, rfl⟩
theorem qw (n : Nat) (l : List Int) : qiu n (l.map qby) = true := qko (int_lo n) l
theorem q7l (l : List Int) : qcd 1 (l.map qby) = true := qkw int_pl l
def qep (l : List Int) : List AV := [(.fsl ((l).map qby) false)]
theorem key_lo (n : Nat) (l : List Int) : los n (qep l) = true := by simp only [qep, los, AV.lo, qw, zfc]
theorem key_pl (l : List Int) : (qep l).length = 1 ∧ qo (qep l) = true := ⟨rfl, rfl⟩
theorem qbk (n : Nat) (l : List (List Int)) : qiu n (l.map qep) = true := qko (key_lo n) l
theorem keys_ok (l : List (List Int)) : qcd 1 (l.map qep) = true := qkw key_pl l
structure OpI where
 code : Int
 a : Int
 b : Int
 c : Int
 deriving DecidableEq
def OpI.r (x : OpI) : List AV := [(ii x.code), (ii x.a), (ii x.b), (ii x.c)]
theorem op_lo (n : Nat) (x : OpI) : los n x.r = true := rfl
theorem qhq (n : Nat) (l : List OpI) : qiu n (l.map OpI.r) = true := qko (op_lo n) l
def qcf (p : List OpI) : List AV := [(.fsl ((p).map OpI.r) false)]
theorem progC_lo (n : Nat) (l : List OpI) : los n (qcf l) = true := by simp only [qcf, los, AV.lo, qhq, zfc]
theorem qax (n : Nat) (l : List (List OpI)) : qiu n (l.map qcf) = true := qko (progC_lo n) l
structure Start where
 prog : Int
 time : Int
 deriving DecidableEq
def Start.r (x : Start) : List AV := [(ii x.prog), (ii x.time)]
theorem start_lo (n : Nat) (x : Start) : los n x.r = true := rfl
theorem q6l (n : Nat) (l : List Start) : qiu n (l.map Start.r) = true := qko (start_lo n) l
def lpC (p : List Start) : List AV := [(.fsl ((p).map Start.r) false)]
theorem lpC_lo (n : Nat) (l : List Start) : los n (lpC l) = true := by simp only [lpC, los, AV.lo, q6l, zfc]
theorem qcb (n : Nat) (l : List (List Start)) : qiu n (l.map lpC) = true := qko (lpC_lo n) l
structure Cfg where
 lps : List (List Start)
 progs : List (List OpI)
 look : Int
 fin : Int
 cap : Int
def qqk (n : Int) : Bool := decide (n ≥ 1) && decide (n ≤ 1099511627776)
def qvb (n : Int) : Bool := decide (n ≥ -1073741824) && decide (n ≤ 1073741824)
theorem qk0 (n : Int) : qa3 (evL T) qeq [(ii n)] = some (bb (qqk n)) := by
 rw [qa3, qad qwo qvl]
 by_cases h1 : n ≥ 1 <;> simp only [qqk, ql1, h1, qj, Ev.exec, qb, qe, qc, qai, Ev.Opnd.ev, Ev.Env.get, Ev.Env.set, Ev.Env.unset, Ev.look, qk, qqc, qbu, qi, qq, qaj, Ev.kill, qag, qg, qba, qx, ↓qn, ↓reduceIte, zga, zgb, zfe, Nat.reduceEqDiff, reduceCtorEq, zgv, zgw, Bool.true_and, zfa, zgx, zfd, zgy, Bool.false_and]
theorem qnp (n : Int) : qa3 (evL T) qfs [(ii n)] = some (bb (qvb n)) := by
 rw [qa3, qad qx6 qvm]
 by_cases h1 : n ≥ -1073741824 <;> simp only [qvb, qlo, h1, qj, Ev.exec, qb, qe, qc, qai, Ev.Opnd.ev, Ev.Env.get, Ev.Env.set, Ev.Env.unset, Ev.look, qk, qqc, qbu, qi, qq, qaj, Ev.kill, qag, qg, qba, qx, ↓qn, ↓reduceIte, zga, zgb, zfe, Nat.reduceEqDiff, Int.reduceNeg, reduceCtorEq, zgv, zgw, Bool.true_and, zfa, zgx, zfd, zgy, Bool.false_and]
def qy8 (x : OpI) (n ps : Int) : Bool :=
 if x.code = 1 then qqk x.a && (decide (x.b = 0) && decide (x.c = 0))
 else if x.code = 2 then decide (x.a ≥ 0) && (qvb x.b && qqk x.c)
 else if x.code = 3 then qqk x.a && (decide (x.b ≥ 0) && (decide (x.b < n) && decide (x.c = 0)))
 else if x.code = 5 then decide (x.a ≥ 0) && (decide (x.a < ps) && (qqk x.b && decide (x.c = 0)))
 else if x.code = 6 then decide (x.a ≥ 0) && (decide (x.a < 2) && (qvb x.b && decide (x.c = 0)))
 else if x.code = 7 then decide (x.a ≥ 0) && (decide (x.a < 2) && (qvb x.b && (decide (x.c ≥ 0) && decide (x.c < n))))
 else decide (x.a = 0) && (decide (x.b = 0) && decide (x.c = 0))
theorem qoh (x : OpI) (n ps : Int) : qa3 (evL T) qfi [(.agg [(ii x.code), (ii x.a), (ii x.b), (ii x.c)]), (ii n), (ii ps)] = some (bb (qy8 x n ps)) := by
 obtain ⟨k, a, b, c⟩ := x
 rw [qa3, qad qta qr3]
 simp only [qy8]
 by_cases k1 : k = 1
 ·subst k1
  cases h1 : qqk a <;> by_cases h2 : b = 0 <;> simp only [qdg, qk0, h1, h2, qj, Ev.exec, qb, qe, qc, qav, qai, Ev.evs, Ev.Opnd.ev, Ev.Env.get, Ev.Env.set, Ev.Env.unset, Ev.look, qk, qf, qv, Ev.AV.cells, qo, Ev.AV.plain, qar, qi, qq, qaj, Ev.kill, qag, qg, qba, qh, qd, qx, ↓qn, ↓reduceIte, zga, zgb, zfe, zgf, zgg, zgh, Nat.reduceAdd, Nat.reduceEqDiff, zgv, zgw, zfc, Bool.true_and, zfa, zgx, ne_eq, zfb, zff, zfd, zgy, Bool.false_and, Bool.and_false]
 by_cases k2 : k = 2
 ·subst k2
  by_cases h1 : a ≥ 0 <;> cases h2 : qvb b <;> simp only [qdg, qk0, qnp, h1, h2, qj, Ev.exec, qb, qe, qc, qav, qai, Ev.evs, Ev.Opnd.ev, Ev.Env.get, Ev.Env.set, Ev.Env.unset, Ev.look, qk, qf, qv, Ev.AV.cells, qo, Ev.AV.plain, qar, qbu, qi, qq, qaj, Ev.kill, qag, qg, qba, qh, qd, qx, ↓qn, ↓reduceIte, zga, zgb, zfe, zgf, zgg, zgh, Nat.reduceAdd, Nat.reduceEqDiff, Int.reduceEq, zgv, zgw, zfc, Bool.true_and, zfa, zgx, ne_eq, zfb, zff, zfd, zgy, Bool.false_and, Bool.and_false]
 by_cases k3 : k = 3
 ·subst k3
  cases h1 : qqk a <;> by_cases h2 : b ≥ 0 <;> by_cases h3 : b < n <;> simp only [qdg, qk0, h1, h2, h3, qj, Ev.exec, qb, qe, qc, qav, qai, Ev.evs, Ev.Opnd.ev, Ev.Env.get, Ev.Env.set, Ev.Env.unset, Ev.look, qk, qf, qv, Ev.AV.cells, qo, Ev.AV.plain, qar, ql, qbu, qi, qq, qaj, Ev.kill, qag, qg, qba, qh, qd, qx, ↓qn, ↓reduceIte, zga, zgb, zfe, zgf, zgg, zgh, Nat.reduceAdd, Nat.reduceEqDiff, Int.reduceEq, reduceCtorEq, zgv, zgw, zfc, Bool.true_and, zfa, zgx, ne_eq, zfb, zff, zfd, zgy, Bool.false_and, Bool.and_false]
 by_cases k5 : k = 5
 ·subst k5
  by_cases h1 : a ≥ 0 <;> by_cases h2 : a < ps <;> cases h3 : qqk b <;> simp only [qdg, qk0, h1, h2, h3, qj, Ev.exec, qb, qe, qc, qav, qai, Ev.evs, Ev.Opnd.ev, Ev.Env.get, Ev.Env.set, Ev.Env.unset, Ev.look, qk, qf, qv, Ev.AV.cells, qo, Ev.AV.plain, qar, ql, qbu, qi, qq, qaj, Ev.kill, qag, qg, qba, qh, qd, qx, ↓qn, ↓reduceIte, zga, zgb, zfe, zgf, zgg, zgh, Nat.reduceAdd, Nat.reduceEqDiff, Int.reduceEq, reduceCtorEq, zgv, zgw, zfc, Bool.true_and, zfa, zgx, ne_eq, zfb, zff, zfd, zgy, Bool.false_and, Bool.and_false]
 by_cases k6 : k = 6
 ·subst k6
  by_cases h1 : a ≥ 0 <;> by_cases h2 : a < 2 <;> cases h3 : qvb b <;> simp only [qdg, qnp, h1, h2, h3, qj, Ev.exec, qb, qe, qc, qav, qai, Ev.evs, Ev.Opnd.ev, Ev.Env.get, Ev.Env.set, Ev.Env.unset, Ev.look, qk, qf, qv, Ev.AV.cells, qo, Ev.AV.plain, qar, ql, qbu, qi, qq, qaj, Ev.kill, qag, qg, qba, qh, qd, qx, ↓qn, ↓reduceIte, zga, zgb, zfe, zgf, zgg, zgh, Nat.reduceAdd, Nat.reduceEqDiff, Int.reduceEq, zgv, zgw, zfc, Bool.true_and, zfa, zgx, ne_eq, zfb, zff, zfd, zgy, Bool.false_and, Bool.and_false]
 by_cases k7 : k = 7
 ·subst k7
  by_cases h1 : a ≥ 0 <;> by_cases h2 : a < 2 <;> cases h3 : qvb b <;> by_cases h4 : c ≥ 0 <;> simp only [qdg, qnp, h1, h2, h3, h4, qj, Ev.exec, qb, qe, qc, qav, qai, Ev.evs, Ev.Opnd.ev, Ev.Env.get, Ev.Env.set, Ev.Env.unset, Ev.look, qk, qf, qv, Ev.AV.cells, qo, Ev.AV.plain, qar, ql, qbu, qi, qq, qaj, Ev.kill, qag, qg, qba, qh, qd, qx, ↓qn, ↓reduceIte, zga, zgb, zfe, zgf, zgg, zgh, Nat.reduceAdd, Nat.reduceEqDiff, Int.reduceEq, reduceCtorEq, zgv, zgw, zfc, Bool.true_and, zfa, zgx, ne_eq, zfb, zff, zfd, zgy, Bool.false_and, Bool.and_false]
 by_cases h1 : a = 0 <;> by_cases h2 : b = 0 <;> simp only [qdg, k1, k2, k3, k5, k6, k7, h1, h2, qj, Ev.exec, qb, qe, qc, qai, Ev.Opnd.ev, Ev.Env.get, Ev.Env.set, Ev.Env.unset, Ev.look, qk, qf, qv, Ev.AV.cells, qo, Ev.AV.plain, qar, qi, qq, qaj, Ev.kill, qag, qg, qba, qx, ↓qn, ↓reduceIte, zga, zgb, zfe, zgf, zgg, zgh, Nat.reduceAdd, Nat.reduceEqDiff, zgv, zgw, zfc, Bool.true_and, zfa, zgx, ne_eq, zfb, zff, zfd, zgy, Bool.false_and, Bool.and_false]
def q2h (x : OpI) : Bool := decide (x.code ≥ 1) && decide (x.code ≤ 8)
def qqh (p : List OpI) : Bool := decide (1 ≤ p.length ∧ p.length ≤ 16) && p.all q2h
def q7b (lps : Int) (x : OpI) : Bool := !(decide (x.code = 2) && decide (x.a ≥ lps))
def qpz (look : Int) (x : OpI) : Bool := !(decide (x.code = 2) && decide (x.c < look))
def qpb (p : List OpI) (ps lps look : Int) : Int :=
 if qqh p = false then 22 else if p.all (fun x => qy8 x p.length ps) = false then 22 else if p.all (q7b lps) = false then 23 else if p.all (qpz look) = false then 21 else 0
section
variable (p : List OpI) (c : Bool) (ps lps look : Int)
theorem q0x (hl : p.length ≤ 16) :
  ∃ y, itB (exec (evL T) itL none qge) (qs [0, 3] true 0) ⟨[(0, (.fsl ((p).map OpI.r) c)), (3, (ii 0))], []⟩ [] = some y ∧ (p.all q2h = true ∧ (y.1 = .exit 0 ∧ y.2.1.marks = [] ∧ y.2.2 = []) ∨
   p.all q2h = false ∧ ∃ x, p.find? (fun x => !q2h x) = some x ∧ (y.1 = .ret ∧ y.2.1.marks = [] ∧ y.2.2 = [] ∧ Ev.look y.2.1.vars 2 = some (bb false))) := by
 refine qg9 p (fun i => ⟨[(0, (.fsl ((p).map OpI.r) c)), (3, (ii i))], []⟩) [] q2h _ (fun _ y => _) ?_ ?_ ?_
 ·intro i x hi hx hp
  have hi' : (i : Int) < (p.length : Int) := by omega
  have hw : IntKind.i64.wrap ((i : Int) + 1) = ((i + 1 : Nat) : Int) := by rw [qas (by omega) (by omega)]; simp
  simp only [q2h, Bool.and_eq_true, decide_eq_true_eq] at hp
  have h1 : ¬ x.code < 1 := by omega
  have h2 : ¬ x.code > 8 := by omega
  simp only [qge, zgs, zgr, zgq, zgt, OpI.r, hx, hi', hw, h1, h2, qhq, Ev.exec, qb, qe, qc, qai, Ev.Opnd.ev, Ev.Env.get, Ev.Env.set, Ev.look, qf, qv, qao, ql, qbh, qs, Ev.keep, qal, qaf, qg, qba, qm, zgi, ↓qn, Ev.it1, ↓reduceIte, zga, zgb, zfe, zgg, zgh, Nat.reduceAdd, Nat.reduceEqDiff, reduceCtorEq, zgv, zgw, zfc, zfa, zgx, zfd, zgy]
 ·intro i x hi hx hp
  have hi' : (i : Int) < (p.length : Int) := by omega
  simp only [q2h, Bool.and_eq_false_iff, decide_eq_false_iff_not] at hp
  by_cases h1 : x.code < 1
  ·simp only [qge, zgs, zgr, zgq, zgt, OpI.r, hx, hi', h1, Ev.exec, qb, qe, qc, qai, Ev.Opnd.ev, Ev.Env.get, Ev.Env.set, Ev.Env.unset, Ev.look, qf, qv, ql, zgi, ↓qn, Ev.it1, ↓reduceIte, zga, zgb, zgg, zgh, Nat.reduceAdd, Nat.reduceEqDiff, reduceCtorEq, zgv, zfa, Bool.true_eq_false, zfd, zgy]
   exact ⟨_, rfl, rfl, rfl, rfl, rfl⟩
  ·have h2 : x.code > 8 := by omega
   simp only [qge, zgs, zgr, zgq, zgt, OpI.r, hx, hi', h1, h2, Ev.exec, qb, qe, qc, qai, Ev.Opnd.ev, Ev.Env.get, Ev.Env.set, Ev.look, qf, qv, ql, qbh, zgi, ↓qn, Ev.it1, ↓reduceIte, zga, zgb, zgg, zgh, Nat.reduceAdd, Nat.reduceEqDiff, reduceCtorEq, zgv, zgw, zfa, zfd, zgy]
   exact ⟨_, rfl, rfl, rfl, rfl, rfl⟩
 ·simp only [qge, Int.lt_irrefl, Ev.exec, qb, qe, qc, qai, Ev.Opnd.ev, Ev.Env.get, Ev.Env.set, Ev.look, ql, zgi, ↓qn, Ev.it1, ↓reduceIte, Nat.reduceEqDiff, reduceCtorEq, zgw, zfa, zgy]
  exact ⟨_, rfl, rfl, rfl, rfl⟩
theorem qyy : qa3 (evL T) qht [(.fsl ((p).map OpI.r) c)] = some (bb (qqh p)) := by
 rw [qa3, qad qwn qvi]
 by_cases h1 : (p.length : Int) < 1
 ·have : ¬ (1 ≤ p.length ∧ p.length ≤ 16) := by omega
  simp only [qh6, qqh, this, h1, qj, Ev.exec, qb, qe, qc, qai, Ev.Opnd.ev, Ev.Env.get, Ev.Env.set, Ev.Env.unset, Ev.look, qk, ql, qi, qq, qaj, Ev.kill, qag, qg, qba, qx, zgi, ↓qn, ↓reduceIte, zga, zgb, zfe, Nat.reduceEqDiff, reduceCtorEq, zgv, zgw, Bool.true_eq_false, zgx, zfd, zgy, Bool.false_and]
 by_cases h2 : (p.length : Int) > 16
 ·have : ¬ (1 ≤ p.length ∧ p.length ≤ 16) := by omega
  simp only [qh6, qqh, this, h1, h2, qj, Ev.exec, qb, qe, qc, qai, Ev.Opnd.ev, Ev.Env.get, Ev.Env.set, Ev.look, qk, ql, qbh, qi, qq, qaj, Ev.kill, qag, qg, qba, qx, zgi, ↓qn, ↓reduceIte, zga, zgb, zfe, Nat.reduceEqDiff, reduceCtorEq, zgv, zgw, zfa, zgx, zfd, zgy, Bool.false_and]
 have h3 : 1 ≤ p.length ∧ p.length ≤ 16 := by omega
 obtain ⟨⟨y, e, σ⟩, k1, k2⟩ := q0x p c h3.2
 simp only at k2
 rcases k2 with ⟨k3, rfl, k4, rfl⟩ | ⟨k3, x, _, rfl, k4, rfl, k5⟩
 ·simp only [qh6, qqh, h3, h1, h2, k1, k3, k4, qhq, qj, Ev.exec, qb, qe, qc, qai, Ev.Opnd.ev, Ev.Env.get, Ev.Env.set, Ev.look, qk, ql, qbh, qi, qq, qaj, Ev.kill, qag, qs, Ev.keep, qal, qaf, qg, qba, qm, qx, zgi, ↓qn, ↓qa4, ↓reduceIte, zga, zgb, zfe, Nat.reduceEqDiff, reduceCtorEq, zgv, zgw, zfc, zfa, zgx, zfd, zgy]
 ·simp only [qh6, qqh, h3, h1, h2, k1, k3, k4, k5, qhq, qj, Ev.exec, qb, qe, qc, qai, Ev.Opnd.ev, Ev.Env.get, Ev.Env.set, Ev.look, qk, ql, qbh, qi, qq, qaj, Ev.kill, qag, qs, Ev.keep, qal, qaf, qg, qba, qm, qx, zgi, ↓qn, ↓qa4, ↓reduceIte, zga, zgb, zfe, Nat.reduceEqDiff, reduceCtorEq, zgv, zgw, zfc, zfa, zgx, zfd, zgy, Bool.and_false]
theorem qyz (hl : p.length ≤ 16) :
  ∃ y, itB (exec (evL T) itL none qif) (qs [0, 1, 2, 3, 9] true 0) ⟨[(0, (.fsl ((p).map OpI.r) c)), (1, (ii ps)), (2, (ii lps)), (3, (ii look)), (9, (ii 0))], []⟩ [] = some y ∧
   (p.all (fun x => qy8 x p.length ps) = true ∧ (y.1 = .exit 0 ∧ y.2.1.marks = [] ∧ y.2.2 = [] ∧ Ev.look y.2.1.vars 0 = some (.fsl ((p).map OpI.r) c) ∧ Ev.look y.2.1.vars 2 = some (ii lps) ∧ Ev.look y.2.1.vars 3 = some (ii look)) ∨
   p.all (fun x => qy8 x p.length ps) = false ∧ ∃ x, p.find? (fun x => !qy8 x p.length ps) = some x ∧ (y.1 = .ret ∧ y.2.1.marks = [] ∧ y.2.2 = [] ∧ Ev.look y.2.1.vars 8 = some (ii 22))) := by
 refine qg9 p (fun i => ⟨[(0, (.fsl ((p).map OpI.r) c)), (1, (ii ps)), (2, (ii lps)), (3, (ii look)), (9, (ii i))], []⟩) [] (fun x => qy8 x p.length ps) _ (fun _ y => _) ?_ ?_ ?_
 ·intro i x hi hx hp
  have hi' : (i : Int) < (p.length : Int) := by omega
  have hw : IntKind.i64.wrap ((i : Int) + 1) = ((i + 1 : Nat) : Int) := by rw [qas (by omega) (by omega)]; simp
  simp only [qif, zgs, zgr, zgq, zgt, OpI.r, hx, hi', hw, qoh, hp, qhq, Ev.exec, qb, qe, qc, qav, qai, Ev.evs, Ev.Opnd.ev, Ev.Env.get, Ev.Env.set, Ev.look, qf, qv, qao, ql, qs, Ev.keep, qal, qaf, qg, qba, qa2, qm, qh, qd, zgi, ↓qn, Ev.it1, ↓reduceIte, zga, zgb, zgc, zfe, Nat.reduceAdd, Nat.reduceEqDiff, reduceCtorEq, zgv, zfc, Bool.not_true, zfa, zgx, zfd, Nat.le_refl, zgy]
 ·intro i x hi hx hp
  have hi' : (i : Int) < (p.length : Int) := by omega
  simp only [qif, zgs, zgr, zgq, zgt, OpI.r, hx, hi', qoh, hp, Ev.exec, qb, qe, qc, qav, qai, Ev.evs, Ev.Opnd.ev, Ev.Env.get, Ev.Env.set, Ev.look, qf, qv, ql, qba, qa2, qh, qd, zgi, ↓qn, Ev.it1, ↓reduceIte, zga, zgb, zgc, zfe, Nat.reduceAdd, Nat.reduceEqDiff, reduceCtorEq, zgv, zfc, Bool.not_false, zfd, Nat.le_refl, zgy]
  exact ⟨_, rfl, rfl, rfl, rfl, rfl⟩
 ·simp only [qif, Int.lt_irrefl, Ev.exec, qb, qe, qc, qai, Ev.Opnd.ev, Ev.Env.get, Ev.Env.set, Ev.look, ql, zgi, ↓qn, Ev.it1, ↓reduceIte, Nat.reduceEqDiff, reduceCtorEq, zgw, zfa, zgy]
  exact ⟨_, rfl, rfl, rfl, rfl, rfl, rfl, rfl⟩
theorem qyl (hl : p.length ≤ 16) :
  ∃ y, itB (exec (evL T) itL none qgb) (qs [0, 2, 3, 10] true 0) ⟨[(0, (.fsl ((p).map OpI.r) c)), (2, (ii lps)), (3, (ii look)), (10, (ii 0))], []⟩ [] = some y ∧
   (p.all (q7b lps) = true ∧ (y.1 = .exit 2 ∧ y.2.1.marks = [] ∧ y.2.2 = [] ∧ Ev.look y.2.1.vars 0 = some (.fsl ((p).map OpI.r) c) ∧ Ev.look y.2.1.vars 3 = some (ii look)) ∨
   p.all (q7b lps) = false ∧ ∃ x, p.find? (fun x => !q7b lps x) = some x ∧ (y.1 = .ret ∧ y.2.1.marks = [] ∧ y.2.2 = [] ∧ Ev.look y.2.1.vars 8 = some (ii 23))) := by
 refine qg9 p (fun i => ⟨[(0, (.fsl ((p).map OpI.r) c)), (2, (ii lps)), (3, (ii look)), (10, (ii i))], []⟩) [] (q7b lps) _ (fun _ y => _) ?_ ?_ ?_
 ·intro i x hi hx hp
  have hi' : (i : Int) < (p.length : Int) := by omega
  have hw : IntKind.i64.wrap ((i : Int) + 1) = ((i + 1 : Nat) : Int) := by rw [qas (by omega) (by omega)]; simp
  by_cases h1 : x.code = 2
  ·have h2 : ¬ x.a ≥ lps := by simpa [q7b, h1] using hp
   simp only [qgb, zgs, zgr, zgq, zgt, OpI.r, hx, hi', hw, h1, h2, qhq, Ev.exec, qb, qe, qc, qai, Ev.Opnd.ev, Ev.Env.get, Ev.Env.set, Ev.look, qf, qv, qao, qar, ql, qbu, qs, Ev.keep, qal, qaf, qg, qba, qm, zgi, ↓qn, Ev.it1, ↓reduceIte, zga, zgb, zfe, zgf, zgg, zgh, Nat.reduceAdd, Nat.reduceEqDiff, reduceCtorEq, zgv, zgw, zfc, zfa, zgx, zfd, zgy]
  ·simp only [qgb, zgs, zgr, zgq, zgt, OpI.r, hx, hi', hw, h1, qhq, Ev.exec, qb, qe, qc, qai, Ev.Opnd.ev, Ev.Env.get, Ev.Env.set, Ev.Env.unset, Ev.look, qf, qv, qao, qar, ql, qs, Ev.keep, qal, qaf, qg, qba, qm, zgi, ↓qn, Ev.it1, ↓reduceIte, zga, zgb, zfe, zgg, zgh, Nat.reduceAdd, Nat.reduceEqDiff, reduceCtorEq, zgv, zgw, zfc, zfa, zgx, zfd, zgy]
 ·intro i x hi hx hp
  have hi' : (i : Int) < (p.length : Int) := by omega
  have h1 : x.code = 2 := by
   by_cases h1 : x.code = 2
   ·exact h1
   ·simp [q7b, h1] at hp
  have h2 : x.a ≥ lps := by simpa [q7b, h1] using hp
  simp only [qgb, zgs, zgr, zgq, zgt, OpI.r, hx, hi', h1, h2, Ev.exec, qb, qe, qc, qai, Ev.Opnd.ev, Ev.Env.get, Ev.Env.set, Ev.look, qf, qv, qar, ql, qbu, zgi, ↓qn, Ev.it1, ↓reduceIte, zga, zgb, zgf, zgg, zgh, Nat.reduceAdd, Nat.reduceEqDiff, reduceCtorEq, zgv, zfa, zfd, zgy]
  exact ⟨_, rfl, rfl, rfl, rfl, rfl⟩
 ·simp only [qgb, Int.lt_irrefl, Ev.exec, qb, qe, qc, qai, Ev.Opnd.ev, Ev.Env.get, Ev.Env.set, Ev.look, ql, zgi, ↓qn, Ev.it1, ↓reduceIte, Nat.reduceEqDiff, reduceCtorEq, zgw, zfa, zgy]
  exact ⟨_, rfl, rfl, rfl, rfl, rfl, rfl⟩
theorem qy2 (hl : p.length ≤ 16) :
  ∃ y, itB (exec (evL T) itL none qgg) (qs [0, 3, 11] true 0) ⟨[(0, (.fsl ((p).map OpI.r) c)), (3, (ii look)), (11, (ii 0))], []⟩ [] = some y ∧
   (p.all (qpz look) = true ∧ (y.1 = .exit 4 ∧ y.2.1.marks = [] ∧ y.2.2 = []) ∨
   p.all (qpz look) = false ∧ ∃ x, p.find? (fun x => !qpz look x) = some x ∧ (y.1 = .ret ∧ y.2.1.marks = [] ∧ y.2.2 = [] ∧ Ev.look y.2.1.vars 8 = some (ii 21))) := by
 refine qg9 p (fun i => ⟨[(0, (.fsl ((p).map OpI.r) c)), (3, (ii look)), (11, (ii i))], []⟩) [] (qpz look) _ (fun _ y => _) ?_ ?_ ?_
 ·intro i x hi hx hp
  have hi' : (i : Int) < (p.length : Int) := by omega
  have hw : IntKind.i64.wrap ((i : Int) + 1) = ((i + 1 : Nat) : Int) := by rw [qas (by omega) (by omega)]; simp
  by_cases h1 : x.code = 2
  ·have h2 : ¬ x.c < look := by simpa [qpz, h1] using hp
   simp only [qgg, zgs, zgr, zgq, zgt, OpI.r, hx, hi', hw, h1, h2, qhq, Ev.exec, qb, qe, qc, qai, Ev.Opnd.ev, Ev.Env.get, Ev.Env.set, Ev.look, qf, qv, qao, qar, ql, qs, Ev.keep, qal, qaf, qg, qba, qm, zgi, ↓qn, Ev.it1, ↓reduceIte, zga, zgb, zfe, zgf, zgg, zgh, Nat.reduceAdd, Nat.reduceEqDiff, reduceCtorEq, zgv, zgw, zfc, zfa, zgx, zfd, zgy]
  ·simp only [qgg, zgs, zgr, zgq, zgt, OpI.r, hx, hi', hw, h1, qhq, Ev.exec, qb, qe, qc, qai, Ev.Opnd.ev, Ev.Env.get, Ev.Env.set, Ev.Env.unset, Ev.look, qf, qv, qao, qar, ql, qs, Ev.keep, qal, qaf, qg, qba, qm, zgi, ↓qn, Ev.it1, ↓reduceIte, zga, zgb, zfe, zgg, zgh, Nat.reduceAdd, Nat.reduceEqDiff, reduceCtorEq, zgv, zgw, zfc, zfa, zgx, zfd, zgy]
 ·intro i x hi hx hp
  have hi' : (i : Int) < (p.length : Int) := by omega
  have h1 : x.code = 2 := by
   by_cases h1 : x.code = 2
   ·exact h1
   ·simp [qpz, h1] at hp
  have h2 : x.c < look := by simpa [qpz, h1] using hp
  simp only [qgg, zgs, zgr, zgq, zgt, OpI.r, hx, hi', h1, h2, Ev.exec, qb, qe, qc, qai, Ev.Opnd.ev, Ev.Env.get, Ev.Env.set, Ev.look, qf, qv, qar, ql, zgi, ↓qn, Ev.it1, ↓reduceIte, zga, zgb, zgf, zgg, zgh, Nat.reduceAdd, Nat.reduceEqDiff, reduceCtorEq, zgv, zfa, zfd, zgy]
  exact ⟨_, rfl, rfl, rfl, rfl, rfl⟩
 ·simp only [qgg, Int.lt_irrefl, Ev.exec, qb, qe, qc, qai, Ev.Opnd.ev, Ev.Env.get, Ev.Env.set, Ev.look, ql, zgi, ↓qn, Ev.it1, ↓reduceIte, Nat.reduceEqDiff, reduceCtorEq, zgw, zfa, zgy]
  exact ⟨_, rfl, rfl, rfl, rfl⟩
theorem qrh : qa3 (evL T) qh8 [(.fsl ((p).map OpI.r) c), (ii ps), (ii lps), (ii look)] = some (ii (qpb p ps lps look)) := by
 have h0 := qyy p c
 rw [qa3, qad qxg qwa]
 cases hs : qqh p with
 | false =>
  rw [hs] at h0
  simp only [qgw, qpb, h0, hs, qhq, qj, Ev.exec, qb, qe, qc, qav, qai, Ev.evs, Ev.Opnd.ev, Ev.Env.get, Ev.Env.set, Ev.look, qk, qi, qq, qaj, Ev.kill, qag, qg, qba, qm, qh, qd, qx, ↓qn, ↓reduceIte, zga, zgb, zfe, Nat.reduceAdd, reduceCtorEq, zfc, Bool.not_false, zgx, zfd, zgy]
 | true =>
  rw [hs] at h0
  have hl : p.length ≤ 16 := by simp only [qqh, Bool.and_eq_true, decide_eq_true_eq] at hs; exact hs.1.2
  obtain ⟨⟨y1, e1, σ1⟩, k1, k2⟩ := qyz p c ps lps look hl
  obtain ⟨⟨y2, e2, σ2⟩, m1, m2⟩ := qyl p c lps look hl
  obtain ⟨⟨y3, e3, σ3⟩, n1, n2⟩ := qy2 p c look hl
  simp only at k2 m2 n2
  rcases k2 with ⟨q1, rfl, q2, rfl, q3, q4, q5⟩ | ⟨q1, x, _, rfl, q2, rfl, q3⟩
  ·rcases m2 with ⟨r1, rfl, r2, rfl, r3, r4⟩ | ⟨r1, x, _, rfl, r2, rfl, r3⟩
   ·rcases n2 with ⟨t1, rfl, t2, rfl⟩ | ⟨t1, x, _, rfl, t2, rfl, t3⟩
    ·simp only [qgw, qpb, h0, hs, k1, q1, q2, q3, q4, q5, m1, r1, r2, r3, r4, n1, t1, t2, qhq, qj, Ev.exec, qb, qe, qc, qav, qai, Ev.evs, Ev.Opnd.ev, Ev.Env.get, Ev.Env.set, Ev.look, qk, qi, qq, qaj, Ev.kill, qag, qs, Ev.keep, qal, qaf, qg, qba, qm, qh, qd, qx, ↓qn, ↓qa4, ↓reduceIte, zga, zgb, zfe, Nat.reduceAdd, Nat.reduceEqDiff, reduceCtorEq, zfc, Bool.not_true, zfa, Bool.true_eq_false, zgx, zfd, zgy]
    ·simp only [qgw, qpb, h0, hs, k1, q1, q2, q3, q4, q5, m1, r1, r2, r3, r4, n1, t1, t2, t3, qhq, qj, Ev.exec, qb, qe, qc, qav, qai, Ev.evs, Ev.Opnd.ev, Ev.Env.get, Ev.Env.set, Ev.look, qk, qi, qq, qaj, Ev.kill, qag, qs, Ev.keep, qal, qaf, qg, qba, qm, qh, qd, qx, ↓qn, ↓qa4, ↓reduceIte, zga, zgb, zfe, Nat.reduceAdd, Nat.reduceEqDiff, reduceCtorEq, zfc, Bool.not_true, zfa, Bool.true_eq_false, zgx, zfd, zgy]
   ·simp only [qgw, qpb, h0, hs, k1, q1, q2, q3, q4, q5, m1, r1, r2, r3, qhq, qj, Ev.exec, qb, qe, qc, qav, qai, Ev.evs, Ev.Opnd.ev, Ev.Env.get, Ev.Env.set, Ev.look, qk, qi, qq, qaj, Ev.kill, qag, qs, Ev.keep, qal, qaf, qg, qba, qm, qh, qd, qx, ↓qn, ↓qa4, ↓reduceIte, zga, zgb, zfe, Nat.reduceAdd, Nat.reduceEqDiff, reduceCtorEq, zfc, Bool.not_true, zfa, Bool.true_eq_false, zgx, zfd, zgy]
  ·simp only [qgw, qpb, h0, hs, k1, q1, q2, q3, qhq, qj, Ev.exec, qb, qe, qc, qav, qai, Ev.evs, Ev.Opnd.ev, Ev.Env.get, Ev.Env.set, Ev.look, qk, qi, qq, qaj, Ev.kill, qag, qs, Ev.keep, qal, qaf, qg, qba, qm, qh, qd, qx, ↓qn, ↓qa4, ↓reduceIte, zga, zgb, zfe, Nat.reduceAdd, Nat.reduceEqDiff, reduceCtorEq, zfc, Bool.not_true, zfa, Bool.true_eq_false, zgx, zfd, zgy]
end
set_option maxRecDepth 10000
structure Pr where
 prog : Int
 pc : Int
 alive : Bool
 timer : List Int
 deriving DecidableEq
def Pr.r (x : Pr) : List AV := [(ii x.prog), (ii x.pc), (bb x.alive), (.fsl ((x.timer).map qby) false)]
theorem pr_lo (n : Nat) (x : Pr) : los n x.r = true := by simp only [Pr.r, qw, qba, qm, qh, qd, zfc, zgy]
theorem pr_pl (x : Pr) : x.r.length = 4 ∧ qo x.r = true := ⟨rfl, rfl⟩
theorem qae (n : Nat) (l : List Pr) : qiu n (l.map Pr.r) = true := qko (pr_lo n) l
theorem q00 (l : List Pr) : qcd 4 (l.map Pr.r) = true := qkw pr_pl l
structure Evt where
 time : Int
 key : List Int
 lp : Int
 kind : Int
 proc : Int
 arg : Int
 deriving DecidableEq
def Evt.r (x : Evt) : List AV := [(ii x.time), (.fsl ((x.key).map qby) false), (ii x.lp), (ii x.kind), (ii x.proc), (ii x.arg)]
theorem evt_lo (n : Nat) (x : Evt) : los n x.r = true := by simp only [Evt.r, qw, qba, qm, qh, qd, zfc, zgy]
theorem evt_pl (x : Evt) : x.r.length = 6 ∧ qo x.r = true := ⟨rfl, rfl⟩
theorem qaa (n : Nat) (l : List Evt) : qiu n (l.map Evt.r) = true := qko (evt_lo n) l
theorem qew (l : List Evt) : qcd 6 (l.map Evt.r) = true := qkw evt_pl l
structure Lp where
 r0 : Int
 r1 : Int
 procs : List Pr
 sum : Int
 deriving DecidableEq
def Lp.r (x : Lp) : List AV := [(ii x.r0), (ii x.r1), (.fsl ((x.procs).map Pr.r) false), (ii x.sum)]
structure Ex where
 r0 : Int
 r1 : Int
 procs : List Pr
 sum : Int
 ev : Evt
 out : List Evt
 n : Int
 gone : List (List Int)
 over : Bool
def Ex.kid (x : Ex) : List Int := x.ev.key ++ [x.n]
def Ex.create (x : Ex) (d : Int) (e : Evt) : Ex :=
 { x with n := w64 (x.n + 1), out := if w64 (x.ev.time + d) > 1152921504606846976 then x.out else x.out ++ [⟨w64 (x.ev.time + d), x.kid, e.lp, e.kind, e.proc, e.arg⟩],
      over := if w64 (x.ev.time + d) > 1152921504606846976 then true else x.over }
structure Ex.Small (x : Ex) : Prop where
 procs : x.procs.length ≤ 1000
 out : x.out.length ≤ 1000
 gone : x.gone.length ≤ 1000
 key : x.ev.key.length ≤ 100000
theorem q0q (l : List Int) : qpn (l.map qby) (l.map qby) = true := qp6 (fun x => by simp only [qby, qtk, qqe, qz9, zgv, zfc, zgy]) l
theorem eq_procs (l : List Pr) : qpn (l.map Pr.r) (l.map Pr.r) = true := qp6 (fun x => by simp only [Pr.r, q0q, qtk, qqe, qz9, q36, q03, zgv, zfc, zgy, beq_self_eq_true]) l
theorem eq_evts (l : List Evt) : qpn (l.map Evt.r) (l.map Evt.r) = true := qp6 (fun x => by simp only [Evt.r, q0q, qtk, qqe, qz9, q03, zgv, zfc, zgy, beq_self_eq_true]) l
theorem eq_keys (l : List (List Int)) : qpn (l.map qep) (l.map qep) = true := qp6 (fun x => by simp only [qep, q0q, qtk, qqe, q03, zfc, zgy, beq_self_eq_true]) l
set_option maxRecDepth 10000
def qos (a b : Int) : Int := if a < b then -1 else if a > b then 1 else 0
theorem qlg (a b : Int) : qa3 (evL T) qef [(ii a), (ii b)] = some (ii (qos a b)) := by
 rw [qa3, qad quf qs5]
 by_cases h1 : a < b
 ·simp only [qhf, qos, h1, qj, Ev.exec, qb, qe, qc, qai, Ev.Opnd.ev, Ev.Env.get, Ev.Env.set, Ev.look, qk, ql, qi, qq, qaj, Ev.kill, qag, qg, qba, qx, ↓qn, ↓reduceIte, zga, zgb, zfe, Nat.reduceAdd, Nat.reduceEqDiff, Int.reduceNeg, reduceCtorEq, zgv, zgx, zfd, zgy]
 by_cases h2 : a > b
 ·simp only [qhf, qos, h1, h2, qj, Ev.exec, qb, qe, qc, qai, Ev.Opnd.ev, Ev.Env.get, Ev.Env.set, Ev.look, qk, ql, qbh, qi, qq, qaj, Ev.kill, qag, qg, qba, qx, ↓qn, ↓reduceIte, zga, zgb, zfe, Nat.reduceAdd, Nat.reduceEqDiff, Int.reduceNeg, reduceCtorEq, zgv, zgw, zfa, zgx, zfd, zgy]
 ·simp only [qhf, qos, h1, h2, qj, Ev.exec, qb, qe, qc, qai, Ev.Opnd.ev, Ev.Env.get, Ev.Env.set, Ev.look, qk, ql, qbh, qi, qq, qaj, Ev.kill, qag, qg, qba, qx, ↓qn, ↓reduceIte, zga, zgb, zfe, Nat.reduceAdd, Nat.reduceEqDiff, Int.reduceNeg, reduceCtorEq, zgw, zfa, zgx, zfd, zgy]
def qkh : List Int → List Int → Int
 | x :: a, y :: b => if x = y then qkh a b else qos x y
 | [], b => if b.length = 0 then 0 else -1
 | _ :: _, [] => 1
theorem qtt : ∀ a b : List Int, ((a.zip b).all (fun z => decide (z.1 = z.2)) = true → qkh a b = qos a.length b.length) ∧ ∀ x, (a.zip b).find? (fun z => !decide (z.1 = z.2)) = some x → qkh a b = qos x.1 x.2
 | [], b => by
  refine ⟨fun _ => ?_, fun x h => by simp at h⟩
  cases b with
  | nil => rfl
  | cons y b =>
   have : ((0 : Nat) : Int) < ((y :: b).length : Int) := by simp only [zga]; omega
   simp only [qkh, zga, Nat.succ_ne_zero, if_false, qos, zgb]
   rw [if_pos (by omega)]
 | x :: a, [] => by
  refine ⟨fun _ => ?_, fun x h => by simp at h⟩
  simp only [qkh, qos, zga, zgb]
  rw [if_neg (by omega), if_pos (by omega)]
 | x :: a, y :: b => by
  obtain ⟨h1, h2⟩ := qtt a b
  simp only [List.zip_cons_cons, List.all_cons, List.find?_cons, qkh, zga]
  by_cases h : x = y
  ·simp only [h, zgv, Bool.true_and, if_true, Bool.not_true]
   refine ⟨fun k => ?_, h2⟩
   rw [h1 k]; unfold qos
   have e1 : ((a.length : Int) < b.length) ↔ (((a.length + 1 : Nat) : Int) < ((b.length + 1 : Nat) : Int)) := by omega
   have e2 : ((a.length : Int) > b.length) ↔ (((a.length + 1 : Nat) : Int) > ((b.length + 1 : Nat) : Int)) := by omega
   simp only [e1, e2]
  ·simp only [h, zgw, Bool.false_and, if_false, Bool.not_false]
   exact ⟨fun k => by simp at k, fun z k => by simp at k; rw [← k]⟩
theorem qyb (a b : Int) : qos a b = 0 ↔ a = b := by
 unfold qos; split
 ·constructor <;> intro h <;> omega
 split
 ·constructor <;> intro h <;> omega
 ·constructor <;> intro h <;> omega
theorem qu0 : ∀ a b : List Int, qkh a b = 0 ↔ a = b
 | [], [] => by simp [qkh]
 | [], y :: b => by simp [qkh]
 | x :: a, [] => by simp [qkh]
 | x :: a, y :: b => by
  simp only [qkh, List.cons.injEq]
  split
  next h => rw [qu0 a b]; simp [h]
  next h => rw [qyb]; simp [h]
section
variable (a b : List Int) (c d : Bool)
theorem qz8 (h1 : a.length ≤ 9223372036854775807) (h2 : b.length ≤ 9223372036854775807) :
  ∃ y, itB (exec (evL T) itL none qdo) (qs [0, 1, 5] true 0) ⟨[(0, (.fsl ((a).map qby) c)), (1, (.fsl ((b).map qby) d)), (5, (ii 0))], []⟩ [] = some y ∧
   ((a.zip b).all (fun z => decide (z.1 = z.2)) = true ∧ (y.1 = .exit 0 ∧ y.2.1.marks = [] ∧ y.2.2 = [] ∧ Ev.look y.2.1.vars 0 = some (.fsl ((a).map qby) c) ∧ Ev.look y.2.1.vars 1 = some (.fsl ((b).map qby) d)) ∨
   (a.zip b).all (fun z => decide (z.1 = z.2)) = false ∧ ∃ x, (a.zip b).find? (fun z => !decide (z.1 = z.2)) = some x ∧ (y.1 = .ret ∧ y.2.1.marks = [] ∧ y.2.2 = [] ∧ Ev.look y.2.1.vars 4 = some (ii (qos x.1 x.2)))) := by
 have hzl : (a.zip b).length = min a.length b.length := List.length_zip
 refine qg9 (a.zip b) (fun i => ⟨[(0, (.fsl ((a).map qby) c)), (1, (.fsl ((b).map qby) d)), (5, (ii i))], []⟩) [] (fun z => decide (z.1 = z.2)) _ (fun x y => _) ?_ ?_ ?_
 ·intro i x hi hx hp
  rw [hzl] at hi
  have hi' : (i : Int) < (a.length : Int) := by omega
  have hi2 : (i : Int) < (b.length : Int) := by omega
  have hw : IntKind.i64.wrap ((i : Int) + 1) = ((i + 1 : Nat) : Int) := by rw [qas (by omega) (by omega)]; simp
  obtain ⟨hxa, hxb⟩ := List.getElem?_zip_eq_some.1 hx
  have hp' := of_decide_eq_true hp
  simp only [qdo, zgs, zgr, zgq, zgt, hxa, hxb, hi', hi2, hw, hp', qw, qby, Ev.exec, qb, qe, qc, qai, Ev.Opnd.ev, Ev.Env.get, Ev.Env.set, Ev.look, qf, qv, qao, qbe, ql, qs, Ev.keep, qal, qaf, qg, qba, qm, zgi, ↓qn, Ev.it1, ↓reduceIte, zga, zgb, zfe, zgh, Nat.reduceEqDiff, reduceCtorEq, zgv, zgw, zfc, zfa, zgx, ne_eq, not_true_eq_false, zfd, zgy]
 ·intro i x hi hx hp
  rw [hzl] at hi
  have hi' : (i : Int) < (a.length : Int) := by omega
  have hi2 : (i : Int) < (b.length : Int) := by omega
  obtain ⟨hxa, hxb⟩ := List.getElem?_zip_eq_some.1 hx
  have hp' : ¬ x.1 = x.2 := of_decide_eq_false hp
  have hc := qlg x.1 x.2
  simp only [qdo, zgs, zgr, zgq, zgt, hxa, hxb, hi', hi2, hp', hc, qby, Ev.exec, qb, qe, qc, qav, qai, Ev.evs, Ev.Opnd.ev, Ev.Env.get, Ev.Env.set, Ev.look, qf, qv, qbe, ql, qba, qh, qd, zgi, ↓qn, Ev.it1, ↓reduceIte, zga, zgb, zgh, Nat.reduceEqDiff, reduceCtorEq, zgv, zfc, zfa, ne_eq, zfb, zfd, zgy]
  exact ⟨_, rfl, rfl, rfl, rfl, rfl⟩
 ·rw [hzl]
  by_cases hab : a.length ≤ b.length
  ·rw [Nat.min_eq_left hab]
   simp only [qdo, Int.lt_irrefl, Ev.exec, qb, qe, qc, qai, Ev.Opnd.ev, Ev.Env.get, Ev.Env.set, Ev.Env.unset, Ev.look, ql, zgi, ↓qn, Ev.it1, ↓reduceIte, Nat.reduceEqDiff, reduceCtorEq, zgw, zfa, zgy]
   exact ⟨_, rfl, rfl, rfl, rfl, rfl, rfl⟩
  ·rw [Nat.min_eq_right (by omega)]
   have h3 : (b.length : Int) < (a.length : Int) := by omega
   simp only [qdo, Int.lt_irrefl, h3, Ev.exec, qb, qe, qc, qai, Ev.Opnd.ev, Ev.Env.get, Ev.Env.set, Ev.look, ql, zgi, ↓qn, Ev.it1, ↓reduceIte, Nat.reduceEqDiff, reduceCtorEq, zgv, zgw, zfa, zgy]
   exact ⟨_, rfl, rfl, rfl, rfl, rfl, rfl⟩
theorem qro (h1 : a.length ≤ 9223372036854775807) (h2 : b.length ≤ 9223372036854775807) : qa3 (evL T) qdd [(.fsl ((a).map qby) c), (.fsl ((b).map qby) d)] = some (ii (qkh a b)) := by
 obtain ⟨⟨y, e, σ⟩, k1, k2⟩ := qz8 a b c d h1 h2
 simp only at k2
 obtain ⟨z1, z2⟩ := qtt a b
 rw [qa3, qad qp8 qpo]
 rcases k2 with ⟨k3, rfl, k4, rfl, k5, k6⟩ | ⟨k3, x, k7, rfl, k4, rfl, k5⟩
 ·have hc := qlg a.length b.length
  rw [z1 k3]
  simp only [qf2, k1, k4, k5, k6, hc, qw, qj, Ev.exec, qb, qe, qc, qav, qai, Ev.evs, Ev.Opnd.ev, Ev.Env.get, Ev.Env.set, Ev.look, qk, qi, qq, qaj, Ev.kill, qag, qs, Ev.keep, qal, qaf, qg, qba, qm, qh, qd, qx, zgi, ↓qn, ↓qa4, ↓reduceIte, zga, zgb, zfe, Nat.reduceAdd, Nat.reduceEqDiff, reduceCtorEq, zfc, zgx, zfd, zgy]
 ·rw [z2 x k7]
  simp only [qf2, k1, k4, k5, qw, qj, Ev.exec, qb, qe, qc, qai, Ev.Opnd.ev, Ev.Env.get, Ev.Env.set, Ev.look, qk, qi, qq, qaj, Ev.kill, qag, qs, Ev.keep, qal, qaf, qg, qba, qm, qx, ↓qn, ↓qa4, ↓reduceIte, zga, zgb, zfe, Nat.reduceAdd, Nat.reduceEqDiff, reduceCtorEq, zfc, zgx, zfd, zgy]
theorem qoi (h1 : a.length ≤ 9223372036854775807) (h2 : b.length ≤ 9223372036854775807) : qa3 (evL T) qdt [(.fsl ((a).map qby) c), (.fsl ((b).map qby) d)] = some (bb (decide (a = b))) := by
 have hk := qro a b c d h1 h2
 have hz := qu0 a b
 rw [qa3, qad qua qtb]
 by_cases h : a = b
 ·have h3 := hz.2 h
  rw [h3] at hk
  simp only [h, zgv]
  simp only [h] at hk
  simp only [qjc, hk, qw, qj, Ev.exec, qb, qe, qc, qav, qai, Ev.evs, Ev.Opnd.ev, Ev.Env.get, Ev.Env.set, Ev.look, qk, qar, qi, qq, qaj, Ev.kill, qag, qg, qba, qm, qh, qd, qx, ↓qn, ↓reduceIte, zga, zgb, zfe, Nat.reduceAdd, Nat.reduceEqDiff, reduceCtorEq, zgv, zfc, zgx, zfd, zgy]
 ·have h3 : ¬ qkh a b = 0 := fun k => h (hz.1 k)
  simp only [h, zgw]
  simp only [qjc, hk, h3, qw, qj, Ev.exec, qb, qe, qc, qav, qai, Ev.evs, Ev.Opnd.ev, Ev.Env.get, Ev.Env.set, Ev.look, qk, qar, qi, qq, qaj, Ev.kill, qag, qg, qba, qm, qh, qd, qx, ↓qn, ↓reduceIte, zga, zgb, zfe, Nat.reduceAdd, Nat.reduceEqDiff, reduceCtorEq, zgw, zfc, zgx, zfd, zgy]
end
structure Evt.Short (x : Evt) : Prop where
 key : x.key.length ≤ 9223372036854775807
theorem qu4 (x y : Evt) (hx : x.key.length ≤ 9223372036854775807) (hy : y.key.length ≤ 9223372036854775807) : qa3 (evL T) qeo [(.agg [(ii x.time), (.fsl ((x.key).map qby) false), (ii x.lp), (ii x.kind), (ii x.proc), (ii x.arg)]), (.agg [(ii y.time), (.fsl ((y.key).map qby) false), (ii y.lp), (ii y.kind), (ii y.proc), (ii y.arg)])] = some (bb (decide (x = y))) := by
 obtain ⟨xt, xk, xl, xi, xp, xa⟩ := x
 obtain ⟨yt, yk, yl, yi, yp, ya⟩ := y
 have hk := qoi xk yk false false hx hy
 simp only [Evt.mk.injEq]
 rw [qa3, qad qrr qq9]
 by_cases h1 : xt = yt
 case neg => simp only [qc3, h1, false_and, zgw, qj, Ev.exec, qb, qe, qc, qai, Ev.Opnd.ev, Ev.Env.get, Ev.Env.set, Ev.Env.unset, Ev.look, qk, qf, qv, Ev.AV.cells, qo, Ev.AV.plain, qar, qi, qq, qaj, Ev.kill, qag, qg, qba, qx, ↓qn, ↓reduceIte, zga, zgb, zfe, zgg, zgh, Nat.reduceAdd, Nat.reduceEqDiff, reduceCtorEq, zgw, zfc, zfa, zgx, ne_eq, zfb, zff, zfd, zgy, false_and]
 by_cases h2 : xk = yk
 case neg =>
  simp only [h2, zgw] at hk
  simp only [qc3, h1, h2, hk, qw, false_and, and_false, zgw, qj, Ev.exec, qb, qe, qc, qav, qai, Ev.evs, Ev.Opnd.ev, Ev.Env.get, Ev.Env.set, Ev.Env.unset, Ev.look, qk, qf, qv, Ev.AV.cells, qo, Ev.AV.plain, qar, qi, qq, qaj, Ev.kill, qag, qg, qba, qm, qh, qd, qx, ↓qn, ↓reduceIte, zga, zgb, zfe, zgf, zgg, zgh, Nat.reduceAdd, Nat.reduceEqDiff, reduceCtorEq, zgv, zgw, zfc, zfa, zgx, ne_eq, zfb, zff, zfd, zgy, false_and, and_false]
 simp only [h2, zgv] at hk
 by_cases h3 : xl = yl
 case neg => simp only [qc3, h1, h2, h3, hk, qw, false_and, and_false, zgw, qj, Ev.exec, qb, qe, qc, qav, qai, Ev.evs, Ev.Opnd.ev, Ev.Env.get, Ev.Env.set, Ev.Env.unset, Ev.look, qk, qf, qv, Ev.AV.cells, qo, Ev.AV.plain, qar, qi, qq, qaj, Ev.kill, qag, qg, qba, qm, qh, qd, qx, ↓qn, ↓reduceIte, zga, zgb, zfe, zgf, zgg, zgh, Nat.reduceAdd, Nat.reduceEqDiff, reduceCtorEq, zgv, zgw, zfc, zfa, zgx, ne_eq, zfb, zff, zfd, zgy, false_and, and_false]
 by_cases h4 : xi = yi
 case neg => simp only [qc3, h1, h2, h3, h4, hk, qw, false_and, and_false, zgw, qj, Ev.exec, qb, qe, qc, qav, qai, Ev.evs, Ev.Opnd.ev, Ev.Env.get, Ev.Env.set, Ev.Env.unset, Ev.look, qk, qf, qv, Ev.AV.cells, qo, Ev.AV.plain, qar, qi, qq, qaj, Ev.kill, qag, qg, qba, qm, qh, qd, qx, ↓qn, ↓reduceIte, zga, zgb, zfe, zgf, zgg, zgh, Nat.reduceAdd, Nat.reduceEqDiff, reduceCtorEq, zgv, zgw, zfc, zfa, zgx, ne_eq, zfb, zff, zfd, zgy, false_and, and_false]
 by_cases h5 : xp = yp
 case neg => simp only [qc3, h1, h2, h3, h4, h5, hk, qw, false_and, and_false, zgw, qj, Ev.exec, qb, qe, qc, qav, qai, Ev.evs, Ev.Opnd.ev, Ev.Env.get, Ev.Env.set, Ev.Env.unset, Ev.look, qk, qf, qv, Ev.AV.cells, qo, Ev.AV.plain, qar, qi, qq, qaj, Ev.kill, qag, qg, qba, qm, qh, qd, qx, ↓qn, ↓reduceIte, zga, zgb, zfe, zgf, zgg, zgh, Nat.reduceAdd, Nat.reduceEqDiff, reduceCtorEq, zgv, zgw, zfc, zfa, zgx, ne_eq, zfb, zff, zfd, zgy, false_and, and_false]
 by_cases h6 : xa = ya
 case neg => simp only [qc3, h1, h2, h3, h4, h5, h6, hk, qw, and_false, zgw, qj, Ev.exec, qb, qe, qc, qav, qai, Ev.evs, Ev.Opnd.ev, Ev.Env.get, Ev.Env.set, Ev.look, qk, qf, qv, Ev.AV.cells, qo, Ev.AV.plain, qar, qi, qq, qaj, Ev.kill, qag, qg, qba, qm, qh, qd, qx, ↓qn, ↓reduceIte, zga, zgb, zfe, zgf, zgg, zgh, Nat.reduceAdd, Nat.reduceEqDiff, reduceCtorEq, zgv, zgw, zfc, zfa, zgx, ne_eq, zfb, zff, zfd, zgy, and_false]
 simp only [qc3, h1, h2, h3, h4, h5, h6, hk, qw, zgx, zgv, qj, Ev.exec, qb, qe, qc, qav, qai, Ev.evs, Ev.Opnd.ev, Ev.Env.get, Ev.Env.set, Ev.look, qk, qf, qv, Ev.AV.cells, qo, Ev.AV.plain, qar, qi, qq, qaj, Ev.kill, qag, qg, qba, qm, qh, qd, qx, ↓qn, ↓reduceIte, zga, zgb, zfe, zgf, zgg, zgh, Nat.reduceAdd, Nat.reduceEqDiff, reduceCtorEq, zgv, zfc, zfa, zgx, ne_eq, zfb, zff, zfd, zgy]
theorem ql9 {α : Type} [DecidableEq α] : ∀ {a b : List α}, a.length = b.length → ((a.zip b).all (fun z => decide (z.1 = z.2)) = true ↔ a = b)
 | [], [], _ => by simp
 | x :: a, y :: b, h => by
  rw [List.zip_cons_cons, List.all_cons, Bool.and_eq_true, decide_eq_true_eq, ql9 (a := a) (b := b) (by simpa using h), List.cons.injEq]
 | [], _ :: _, h => by simp at h
 | _ :: _, [], h => by simp at h
section
variable (a b : List Evt) (c d : Bool)
theorem qo8 (h1 : a.length ≤ 9223372036854775807) (h2 : b.length ≤ 9223372036854775807) (ha : ∀ x ∈ a, x.key.length ≤ 9223372036854775807) (hb : ∀ x ∈ b, x.key.length ≤ 9223372036854775807) :
  qa3 (evL T) qc8 [(.fsl ((a).map Evt.r) c), (.fsl ((b).map Evt.r) d)] = some (bb (decide (a = b))) := by
 rw [qa3, qad qq8 qqf]
 by_cases hab : a.length = b.length
 case neg =>
  have hab' : ¬ (a.length : Int) = (b.length : Int) := by omega
  have : ¬ a = b := fun h => hab (by rw [h])
  simp only [qfa, hab', this, qj, Ev.exec, qb, qe, qc, qai, Ev.Opnd.ev, Ev.Env.get, Ev.Env.set, Ev.look, qk, qbe, qi, qq, qaj, Ev.kill, qag, qg, qba, qx, zgi, ↓qn, ↓reduceIte, zga, zgb, zfe, Nat.reduceAdd, Nat.reduceEqDiff, reduceCtorEq, zgv, zgw, zgx, ne_eq, zfb, zfd, zgy]
 have hab' : (a.length : Int) = (b.length : Int) := by omega
 have hzl : (a.zip b).length = a.length := by rw [List.length_zip, ← hab, Nat.min_self]
 have hL : ∃ y, itB (exec (evL T) itL none qey) (qs [0, 1, 5] true 0) ⟨[(0, (.fsl ((a).map Evt.r) c)), (1, (.fsl ((b).map Evt.r) d)), (5, (ii 0))], []⟩ [] = some y ∧ ((a.zip b).all (fun z => decide (z.1 = z.2)) = true ∧ (y.1 = .exit 0 ∧ y.2.1.marks = [] ∧ y.2.2 = []) ∨
   (a.zip b).all (fun z => decide (z.1 = z.2)) = false ∧ ∃ x, (a.zip b).find? (fun z => !decide (z.1 = z.2)) = some x ∧ (y.1 = .ret ∧ y.2.1.marks = [] ∧ y.2.2 = [] ∧ Ev.look y.2.1.vars 4 = some (bb false))) := by
  refine qg9 (a.zip b) (fun i => ⟨[(0, (.fsl ((a).map Evt.r) c)), (1, (.fsl ((b).map Evt.r) d)), (5, (ii i))], []⟩) [] (fun z => decide (z.1 = z.2)) _ (fun _ y => _) ?_ ?_ ?_
  ·intro i x hi hx hp
   rw [hzl] at hi
   have hi' : (i : Int) < (a.length : Int) := by omega
   have hw : IntKind.i64.wrap ((i : Int) + 1) = ((i + 1 : Nat) : Int) := by rw [qas (by omega) (by omega)]; simp
   obtain ⟨hxa, hxb⟩ := List.getElem?_zip_eq_some.1 hx
   have hv := qu4 x.1 x.2 (ha _ (List.mem_of_getElem? hxa)) (hb _ (List.mem_of_getElem? hxb))
   rw [hp] at hv
   simp only [qey, zgs, zgr, zgq, zgt, hxa, hxb, hi', hw, hv, qaa, qw, Evt.r, Ev.exec, qb, qe, qc, qav, qai, Ev.evs, Ev.Opnd.ev, Ev.Env.get, Ev.Env.set, Ev.look, qf, qv, qao, ql, qs, Ev.keep, qal, qaf, qg, qba, qa2, qm, qh, qd, zgi, ↓qn, Ev.it1, ↓reduceIte, zga, zgb, zgc, zfe, Nat.reduceAdd, Nat.reduceEqDiff, reduceCtorEq, zgv, zfc, Bool.not_true, zfa, zgx, zfd, Nat.le_refl, zgy]
  ·intro i x hi hx hp
   rw [hzl] at hi
   have hi' : (i : Int) < (a.length : Int) := by omega
   obtain ⟨hxa, hxb⟩ := List.getElem?_zip_eq_some.1 hx
   have hv := qu4 x.1 x.2 (ha _ (List.mem_of_getElem? hxa)) (hb _ (List.mem_of_getElem? hxb))
   rw [hp] at hv
   simp only [qey, zgs, zgr, zgq, zgt, hxa, hxb, hi', hv, qw, Evt.r, Ev.exec, qb, qe, qc, qav, qai, Ev.evs, Ev.Opnd.ev, Ev.Env.get, Ev.Env.set, Ev.look, qf, qv, ql, qba, qa2, qm, qh, qd, zgi, ↓qn, Ev.it1, ↓reduceIte, zga, zgb, zgc, zfe, Nat.reduceAdd, Nat.reduceEqDiff, reduceCtorEq, zgv, zfc, Bool.not_false, zfd, Nat.le_refl, zgy]
   exact ⟨_, rfl, rfl, rfl, rfl, rfl⟩
  ·rw [hzl]
   simp only [qey, Int.lt_irrefl, Ev.exec, qb, qe, qc, qai, Ev.Opnd.ev, Ev.Env.get, Ev.Env.set, Ev.look, ql, zgi, ↓qn, Ev.it1, ↓reduceIte, Nat.reduceEqDiff, reduceCtorEq, zgw, zfa, zgy]
   exact ⟨_, rfl, rfl, rfl, rfl⟩
 obtain ⟨⟨y, e, σ⟩, k1, k2⟩ := hL
 simp only at k2
 rcases k2 with ⟨k3, rfl, k4, rfl⟩ | ⟨k3, x, _, rfl, k4, rfl, k5⟩
 ·have : a = b := (ql9 hab).1 k3
  subst this
  simp only [qfa, k1, k4, qaa, qj, Ev.exec, qb, qe, qc, qai, Ev.Opnd.ev, Ev.Env.get, Ev.Env.set, Ev.look, qk, qbe, qi, qq, qaj, Ev.kill, qag, qs, Ev.keep, qal, qaf, qg, qba, qm, qx, zgi, ↓qn, ↓qa4, ↓reduceIte, zga, zgb, zfe, Nat.reduceAdd, Nat.reduceEqDiff, reduceCtorEq, zgv, zgw, zfc, zfa, zgx, ne_eq, not_true_eq_false, zfd, zgy]
 ·have : ¬ a = b := fun h => by rw [(ql9 hab).2 h] at k3; cases k3
  simp only [this]
  simp only [qfa, hab', k1, k4, k5, qaa, qj, Ev.exec, qb, qe, qc, qai, Ev.Opnd.ev, Ev.Env.get, Ev.Env.set, Ev.look, qk, qbe, qi, qq, qaj, Ev.kill, qag, qs, Ev.keep, qal, qaf, qg, qba, qm, qx, zgi, ↓qn, ↓qa4, ↓reduceIte, zga, zgb, zfe, Nat.reduceAdd, Nat.reduceEqDiff, reduceCtorEq, zgw, zfc, zfa, zgx, ne_eq, not_true_eq_false, zfd, zgy]
end
set_option maxRecDepth 10000
theorem q2n (a : Int) : qa3 (evL T) qe0 [(ii a)] = some (bb false) := by
 rw [qa3, qad quh qsx]
 simp only [qkk, qj, Ev.exec, qb, qe, qc, qai, Ev.Opnd.ev, Ev.Env.get, Ev.Env.set, Ev.look, qk, qbe, qi, qq, qaj, Ev.kill, qag, qg, qba, qx, ↓qn, ↓reduceIte, zga, zgb, zfe, Nat.reduceEqDiff, reduceCtorEq, zgw, zgx, ne_eq, not_true_eq_false, zfd, zgy]
theorem qns (a b : Int) : qa3 (evL T) qd9 [(ii a), (ii b)] = some (ii (qos a b)) := by
 have h0 := q2n
 rw [qa3, qad qsc qrd]
 by_cases h1 : a < b
 ·simp only [qf1, qos, h0, h1, qj, Ev.exec, qb, qe, qc, qav, qai, Ev.evs, Ev.Opnd.ev, Ev.Env.get, Ev.Env.set, Ev.look, qk, ql, qi, qq, qaj, Ev.kill, qag, qg, qba, qh, qd, qx, ↓qn, ↓reduceIte, zga, zgb, zfe, Nat.reduceAdd, Nat.reduceEqDiff, Int.reduceNeg, reduceCtorEq, zgv, zfc, zfa, zgx, zfd, zgy]
 by_cases h2 : a > b
 ·simp only [qf1, qos, h0, h1, h2, qj, Ev.exec, qb, qe, qc, qav, qai, Ev.evs, Ev.Opnd.ev, Ev.Env.get, Ev.Env.set, Ev.look, qk, ql, qbh, qi, qq, qaj, Ev.kill, qag, qg, qba, qh, qd, qx, ↓qn, ↓reduceIte, zga, zgb, zfe, Nat.reduceAdd, Nat.reduceEqDiff, Int.reduceNeg, reduceCtorEq, zgv, zgw, zfc, zfa, zgx, zfd, zgy]
 ·simp only [qf1, qos, h0, h1, h2, qj, Ev.exec, qb, qe, qc, qav, qai, Ev.evs, Ev.Opnd.ev, Ev.Env.get, Ev.Env.set, Ev.look, qk, ql, qbh, qi, qq, qaj, Ev.kill, qag, qg, qba, qh, qd, qx, ↓qn, ↓reduceIte, zga, zgb, zfe, Nat.reduceAdd, Nat.reduceEqDiff, Int.reduceNeg, reduceCtorEq, zgw, zfc, zfa, zgx, zfd, zgy]
theorem q7h (x z : Int) (c : Bool) : qa3 (evL T) qi5 [(.fsl (([x, z]).map qby) c)] = some (ii (if x = 0 then z else x)) := by
 have hL : ∃ y, itB (exec (evL T) itL none qi8) (qs [3, 6, 7, 8] true 0) ⟨[(3, (ii 0)), (6, (.fsl (([x, z]).map qby) c)), (7, (ii 2)), (8, (ii 0))], []⟩ [] = some y ∧ ([x, z].all (fun v => decide (v = 0)) = true ∧ (y.1 = .exit 0 ∧ y.2.1.marks = [] ∧ y.2.2 = [] ∧ Ev.look y.2.1.vars 3 = some (ii 0)) ∨
   [x, z].all (fun v => decide (v = 0)) = false ∧ ∃ v, [x, z].find? (fun v => !decide (v = 0)) = some v ∧ (y.1 = .ret ∧ y.2.1.marks = [] ∧ y.2.2 = [] ∧ Ev.look y.2.1.vars 2 = some (ii v))) := by
  refine qg9 [x, z] (fun i => ⟨[(3, (ii 0)), (6, (.fsl (([x, z]).map qby) c)), (7, (ii 2)), (8, (ii i))], []⟩) [] (fun v => decide (v = 0)) _ (fun v y => _) ?_ ?_ ?_
  ·intro i v hi hv hp
   have hi2 : (i : Int) < 2 := by simp at hi; omega
   have hw : IntKind.i64.wrap ((i : Int) + 1) = ((i + 1 : Nat) : Int) := by rw [qas (by omega) (by omega)]; simp
   have hp' := of_decide_eq_true hp
   subst hp'
   have hl := qw 0 [x, z]
   generalize [x, z] = l at hv hl ⊢
   simp only [qi8, zgs, zgr, zgq, zgt, hv, hl, hi2, hw, qby, Ev.exec, qb, qe, qc, qai, Ev.Opnd.ev, Ev.Env.get, Ev.Env.set, Ev.look, qf, qv, qao, qbe, ql, qs, Ev.keep, qal, qaf, qg, qba, qm, ↓qn, Ev.it1, ↓reduceIte, zga, zgb, zfe, zgh, Nat.reduceEqDiff, zgv, zgw, zfc, zfa, zgx, ne_eq, not_true_eq_false, zfd, zgy]
  ·intro i v hi hv hp
   have hi2 : (i : Int) < 2 := by simp at hi; omega
   have hp' : ¬ v = 0 := of_decide_eq_false hp
   have hl := qw 0 [x, z]
   generalize [x, z] = l at hv hl ⊢
   simp only [qi8, zgs, zgr, zgq, zgt, hv, hi2, hp', qby, Ev.exec, qb, qe, qc, qai, Ev.Opnd.ev, Ev.Env.get, Ev.Env.set, Ev.look, qf, qv, qbe, ql, ↓qn, Ev.it1, ↓reduceIte, zga, zgb, zgh, Nat.reduceEqDiff, zgv, zfa, ne_eq, zfb, zfd, zgy]
   exact ⟨_, rfl, rfl, rfl, rfl, rfl⟩
  ·have hl := qw 0 [x, z]
   rw [show ([x, z] : List Int).length = 2 from rfl]
   simp only [qi8, Int.lt_irrefl, Int.cast_ofNat_Int, Ev.exec, qb, qe, qc, qai, Ev.Opnd.ev, Ev.Env.get, Ev.Env.set, Ev.look, ql, ↓qn, Ev.it1, ↓reduceIte, Nat.reduceEqDiff, Int.cast_ofNat_Int, zgw, zfa, zgy]
   exact ⟨_, rfl, rfl, rfl, rfl, rfl⟩
 obtain ⟨⟨y, e, σ⟩, k1, k2⟩ := hL
 simp only at k2
 have hl := qw 0 [x, z]
 have hn : ([x, z].map qby).length = 2 := rfl
 rw [qa3, qad qyw qw2]
 rcases k2 with ⟨k3, rfl, k4, rfl, k5⟩ | ⟨k3, v, k6, rfl, k4, rfl, k5⟩
 ·have h1 : x = 0 ∧ z = 0 := by simpa using k3
  have h2 : (if x = 0 then z else x) = 0 := by rw [if_pos h1.1, h1.2]
  rw [h2]
  generalize [x, z].map qby = l at k1 hl hn ⊢
  simp only [qk8, hn, Int.cast_ofNat_Int, k1, k4, k5, hl, qj, Ev.exec, qb, qe, qc, qai, Ev.Opnd.ev, Ev.Env.get, Ev.Env.set, Ev.look, qk, qi, qq, qaj, Ev.kill, qag, qs, Ev.keep, qal, qaf, qg, qba, qm, qx, ↓qn, ↓qa4, ↓reduceIte, zga, zgb, zfe, Nat.reduceEqDiff, Int.cast_ofNat_Int, reduceCtorEq, zfc, zgx, zfd, zgy]
 ·have h1 : (if x = 0 then z else x) = v := by
   rw [List.find?_cons] at k6
   by_cases hx : x = 0
   ·rw [if_pos hx]; simp [hx] at k6; exact k6.2
   ·rw [if_neg hx]; simp [hx] at k6; exact k6
  rw [h1]
  generalize [x, z].map qby = l at k1 hl hn ⊢
  simp only [qk8, hn, Int.cast_ofNat_Int, k1, k4, k5, hl, qj, Ev.exec, qb, qe, qc, qai, Ev.Opnd.ev, Ev.Env.get, Ev.Env.set, Ev.look, qk, qi, qq, qaj, Ev.kill, qag, qs, Ev.keep, qal, qaf, qg, qba, qm, qx, ↓qn, ↓qa4, ↓reduceIte, zga, zgb, zfe, Nat.reduceEqDiff, Int.cast_ofNat_Int, reduceCtorEq, zfc, zgx, zfd, zgy]
theorem qy3 (x z : Int) (c : Bool) : qa3 (evL T) qhv [(.fsl (([x, z]).map qby) c)] = some (ii (if x = 0 then z else x)) := by
 have h := q7h x z c
 have hl := qw 0 [x, z]
 generalize [x, z].map qby = l at h hl ⊢
 rw [qa3, qad qwv qvs]
 simp only [qlm, h, hl, qj, Ev.exec, qb, qe, qc, qav, qai, Ev.evs, Ev.Opnd.ev, Ev.Env.get, Ev.Env.set, Ev.look, qk, qi, qq, qaj, Ev.kill, qag, qg, qba, qm, qh, qd, qx, ↓qn, ↓reduceIte, zga, zgb, zfe, reduceCtorEq, zfc, zgx, zfd, zgy]
section
variable (a b : List Int) (c d : Bool)
theorem qvr (h1 : a.length ≤ 9223372036854775807) (h2 : b.length ≤ 9223372036854775807) :
  ∃ y, itB (exec (evL T) itL none qcn) (qs [0, 1, 9, 10, 11] true 0) ⟨[(0, (.fsl ((a).map qby) c)), (1, (.fsl ((b).map qby) d)), (9, (.fsl ((a).map qby) c)), (10, (ii a.length)), (11, (ii 0))], []⟩ [] = some y ∧
   ((a.zip b).all (fun z => decide (z.1 = z.2)) = true ∧ (a.length ≤ b.length ∧ y.1 = .exit 0 ∧ y.2.1.marks = [] ∧ y.2.2 = [] ∧ Ev.look y.2.1.vars 0 = some (.fsl ((a).map qby) c) ∧ Ev.look y.2.1.vars 1 = some (.fsl ((b).map qby) d) ∨ b.length < a.length ∧ y.1 = .ret ∧ y.2.1.marks = [] ∧ y.2.2 = [] ∧ Ev.look y.2.1.vars 4 = some (ii 1)) ∨
   (a.zip b).all (fun z => decide (z.1 = z.2)) = false ∧ ∃ x, (a.zip b).find? (fun z => !decide (z.1 = z.2)) = some x ∧ (y.1 = .ret ∧ y.2.1.marks = [] ∧ y.2.2 = [] ∧ Ev.look y.2.1.vars 4 = some (ii (qos x.1 x.2)))) := by
 have hzl : (a.zip b).length = min a.length b.length := List.length_zip
 refine qg9 (a.zip b) (fun i => ⟨[(0, (.fsl ((a).map qby) c)), (1, (.fsl ((b).map qby) d)), (9, (.fsl ((a).map qby) c)), (10, (ii a.length)), (11, (ii i))], []⟩) [] (fun z => decide (z.1 = z.2)) _ (fun x y => _) ?_ ?_ ?_
 ·intro i x hi hx hp
  rw [hzl] at hi
  have hi' : (i : Int) < (a.length : Int) := by omega
  have hi2 : ¬ (i : Int) ≥ (b.length : Int) := by omega
  have hw : IntKind.i64.wrap ((i : Int) + 1) = ((i + 1 : Nat) : Int) := by rw [qas (by omega) (by omega)]; simp
  obtain ⟨hxa, hxb⟩ := List.getElem?_zip_eq_some.1 hx
  have hp' := of_decide_eq_true hp
  have hc := qns x.1 x.2
  rw [(qyb x.1 x.2).2 hp'] at hc
  simp only [qcn, zgs, zgr, zgq, zgt, hxa, hxb, hi', hi2, hw, hc, qw, qby, Ev.exec, qb, qe, qc, qav, qai, Ev.evs, Ev.Opnd.ev, Ev.Env.get, Ev.Env.set, Ev.look, qf, qv, qao, qbe, ql, qbu, qs, Ev.keep, qal, qaf, qg, qba, qm, qh, qd, zgi, ↓qn, Ev.it1, ↓reduceIte, zga, zgb, zfe, zgh, Nat.reduceEqDiff, reduceCtorEq, zgv, zgw, zfc, zfa, zgx, ne_eq, not_true_eq_false, zfd, zgy]
 ·intro i x hi hx hp
  rw [hzl] at hi
  have hi' : (i : Int) < (a.length : Int) := by omega
  have hi2 : ¬ (i : Int) ≥ (b.length : Int) := by omega
  obtain ⟨hxa, hxb⟩ := List.getElem?_zip_eq_some.1 hx
  have hp' : ¬ x.1 = x.2 := of_decide_eq_false hp
  have hc := qns x.1 x.2
  have hz : ¬ qos x.1 x.2 = 0 := fun h => hp' ((qyb _ _).1 h)
  simp only [qcn, zgs, zgr, zgq, zgt, hxa, hxb, hi', hi2, hz, hc, qby, Ev.exec, qb, qe, qc, qav, qai, Ev.evs, Ev.Opnd.ev, Ev.Env.get, Ev.Env.set, Ev.look, qf, qv, qbe, ql, qbu, qba, qh, qd, zgi, ↓qn, Ev.it1, ↓reduceIte, zga, zgb, zgh, Nat.reduceEqDiff, reduceCtorEq, zgv, zgw, zfc, zfa, ne_eq, zfb, zfd, zgy]
  exact ⟨_, rfl, rfl, rfl, rfl, rfl⟩
 ·rw [hzl]
  by_cases hab : a.length ≤ b.length
  ·rw [Nat.min_eq_left hab]
   simp only [qcn, Int.lt_irrefl, Ev.exec, qb, qe, qc, qai, Ev.Opnd.ev, Ev.Env.get, Ev.Env.set, Ev.look, ql, ↓qn, Ev.it1, ↓reduceIte, Nat.reduceEqDiff, reduceCtorEq, zgw, zfa, zgy]
   exact ⟨_, rfl, .inl ⟨hab, rfl, rfl, rfl, rfl, rfl⟩⟩
  ·rw [Nat.min_eq_right (by omega)]
   have h3 : (b.length : Int) < (a.length : Int) := by omega
   obtain ⟨x, hx⟩ : ∃ x, a[b.length]? = some x := ⟨_, List.getElem?_eq_getElem (by omega)⟩
   have h4 : (b.length : Int) ≥ (b.length : Int) := Int.le_refl _
   simp only [qcn, zgs, zgr, zgq, zgt, h3, h4, hx, qby, Ev.exec, qb, qe, qc, qai, Ev.Opnd.ev, Ev.Env.get, Ev.Env.set, Ev.look, qf, qv, ql, qbu, zgi, ↓qn, Ev.it1, ↓reduceIte, zga, zgb, zgh, Nat.reduceEqDiff, reduceCtorEq, zgv, zfa, zfd, zgy]
   exact ⟨_, rfl, .inr ⟨by omega, rfl, rfl, rfl, rfl⟩⟩
theorem qtz (h1 : a.length ≤ 9223372036854775807) (h2 : b.length ≤ 9223372036854775807) : qa3 (evL T) qcm [(.fsl ((a).map qby) c), (.fsl ((b).map qby) d)] = some (ii (qkh a b)) := by
 obtain ⟨⟨y, e, σ⟩, k1, k2⟩ := qvr a b c d h1 h2
 simp only at k2
 obtain ⟨z1, z2⟩ := qtt a b
 rw [qa3, qad qmc qls]
 rcases k2 with ⟨k3, ⟨k7, rfl, k4, rfl, k5, k6⟩ | ⟨k7, rfl, k4, rfl, k5⟩⟩ | ⟨k3, x, k7, rfl, k4, rfl, k5⟩
 ·rw [z1 k3]
  by_cases hl : (a.length : Int) < (b.length : Int)
  ·simp only [qck, k1, k4, k5, k6, hl, qos, qw, qj, Ev.exec, qb, qe, qc, qai, Ev.Opnd.ev, Ev.Env.get, Ev.Env.set, Ev.look, qk, ql, qi, qq, qaj, Ev.kill, qag, qs, Ev.keep, qal, qaf, qg, qba, qm, qx, zgi, ↓qn, ↓qa4, ↓reduceIte, zga, zgb, zfe, Nat.reduceAdd, Nat.reduceEqDiff, Int.reduceNeg, reduceCtorEq, zgv, zfc, zgx, zfd, zgy]
  ·have hg : ¬ (a.length : Int) > (b.length : Int) := by omega
   simp only [qck, k1, k4, k5, k6, hl, hg, qos, qw, qj, Ev.exec, qb, qe, qc, qai, Ev.Opnd.ev, Ev.Env.get, Ev.Env.set, Ev.look, qk, ql, qi, qq, qaj, Ev.kill, qag, qs, Ev.keep, qal, qaf, qg, qba, qm, qx, zgi, ↓qn, ↓qa4, ↓reduceIte, zga, zgb, zfe, Nat.reduceAdd, Nat.reduceEqDiff, Int.reduceNeg, reduceCtorEq, zgw, zfc, zfa, zgx, zfd, zgy]
 ·have hl : ¬ (a.length : Int) < (b.length : Int) := by omega
  have hg : (a.length : Int) > (b.length : Int) := by omega
  rw [z1 k3]
  simp only [qck, k1, k4, k5, hl, hg, qos, qw, qj, Ev.exec, qb, qe, qc, qai, Ev.Opnd.ev, Ev.Env.get, Ev.Env.set, Ev.look, qk, qi, qq, qaj, Ev.kill, qag, qs, Ev.keep, qal, qaf, qg, qba, qm, qx, zgi, ↓qn, ↓qa4, ↓reduceIte, zga, zgb, zfe, Nat.reduceAdd, Nat.reduceEqDiff, Int.reduceNeg, reduceCtorEq, zfc, zgx, zfd, zgy]
 ·rw [z2 x k7]
  simp only [qck, k1, k4, k5, qw, qj, Ev.exec, qb, qe, qc, qai, Ev.Opnd.ev, Ev.Env.get, Ev.Env.set, Ev.look, qk, qi, qq, qaj, Ev.kill, qag, qs, Ev.keep, qal, qaf, qg, qba, qm, qx, zgi, ↓qn, ↓qa4, ↓reduceIte, zga, zgb, zfe, Nat.reduceAdd, Nat.reduceEqDiff, Int.reduceNeg, reduceCtorEq, zfc, zgx, zfd, zgy]
theorem qrc (h1 : a.length ≤ 9223372036854775807) (h2 : b.length ≤ 9223372036854775807) : qa3 (evL T) qd3 [(.fsl ((a).map qby) c), (.fsl ((b).map qby) d)] = some (ii (qkh a b)) := by
 have h := qtz a b c d h1 h2
 rw [qa3, qad qp7 qpk]
 simp only [qhr, h, qw, qj, Ev.exec, qb, qe, qc, qav, qai, Ev.evs, Ev.Opnd.ev, Ev.Env.get, Ev.Env.set, Ev.look, qk, qi, qq, qaj, Ev.kill, qag, qg, qba, qm, qh, qd, qx, ↓qn, ↓reduceIte, zga, zgb, zfe, Nat.reduceAdd, Nat.reduceEqDiff, reduceCtorEq, zfc, zgx, zfd, zgy]
end
def qr7 (x y : Evt) : Int := if qos x.time y.time = 0 then qkh x.key y.key else qos x.time y.time
end Go.Proofs.Ytbhhifdhlafklaa.K
namespace Go.Ev
section
variable {α : Type}
variable {R : α → α → Prop}
theorem cross (tr : ∀ a b c, R a b → R b c → R a c) {X Y : List α} (hX : X.Pairwise R) (hY : Y.Pairwise R) (h : ∀ u v, X[X.length - 1]? = some u → Y[0]? = some v → R u v) : ∀ a ∈ X, ∀ b ∈ Y, R a b := by
 intro a ha b hb
 obtain ⟨i, hi⟩ := List.mem_iff_getElem?.1 ha
 obtain ⟨j, hj⟩ := List.mem_iff_getElem?.1 hb
 obtain ⟨hi', hi⟩ := List.getElem?_eq_some_iff.1 hi
 obtain ⟨hj', hj⟩ := List.getElem?_eq_some_iff.1 hj
 rw [List.pairwise_iff_getElem] at hX hY
 have h0 := h _ _ (List.getElem?_eq_getElem (by omega)) (List.getElem?_eq_getElem (by omega))
 have h1 : R a Y[0] := by
  by_cases c : i = X.length - 1
  ·subst c; rw [← hi]; exact h0
  ·exact tr _ _ _ (by rw [← hi]; exact hX i (X.length - 1) hi' (by omega) (by omega)) h0
 by_cases c : j = 0
 ·subst c; rw [← hj]; exact h1
 ·exact tr _ _ _ h1 (by rw [← hj]; exact hY 0 j (by omega) hj' (by omega))
theorem qvc (tr : ∀ a b c, R a b → R b c → R a c) {A B : List α} {x : α} (h : (A ++ B).Pairwise R) (h1 : ∀ u, A[A.length - 1]? = some u → R u x) (h2 : ∀ v, B[0]? = some v → R x v) : (A ++ x :: B).Pairwise R := by
 obtain ⟨a1, a2, a3⟩ := List.pairwise_append.1 h
 have c1 := cross tr a1 (List.pairwise_singleton R x) (fun u v hu hv => by simp at hv; subst hv; exact h1 u hu)
 have c2 := cross tr (List.pairwise_singleton R x) a2 (fun u v hu hv => by simp at hu; subst hu; exact h2 v hv)
 refine List.pairwise_append.2 ⟨a1, List.pairwise_cons.2 ⟨fun b hb => c2 x (by simp) b hb, a2⟩, fun a ha b hb => ?_⟩
 rcases List.mem_cons.1 hb with rfl | hb
 ·exact c1 a ha _ (by simp)
 ·exact a3 a ha b hb
inductive Blk (R : α → α → Prop) (s : Nat) : List α → Prop
 | last {l : List α} : l.length ≤ s → l.Pairwise R → Blk R s l
 | more {X Y : List α} : X.length = s → X.Pairwise R → Blk R s Y → Blk R s (X ++ Y)
theorem qwz {f : Env → qr → R3} {s : Env → qr → Option (Env × qr)} {τ : Type} (E : τ → Env) (S : τ → qr) (m : τ → Nat) (Inv : τ → Prop) (Q : CExit × Env × qr → Prop)
  (step : ∀ a, Inv a → (∃ a', it1 f s (E a) (S a) = some (.inl (E a', S a')) ∧ Inv a' ∧ m a' < m a) ∨ ∃ y, it1 f s (E a) (S a) = some (.inr y) ∧ Q y) :
  ∀ a, Inv a → ∃ y, itB f s (E a) (S a) = some y ∧ Q y := by
 have : ∀ k a, m a ≤ k → Inv a → ∃ y, itB f s (E a) (S a) = some y ∧ Q y := by
  intro k
  induction k with
  | zero =>
   intro a hk ha
   rcases step a ha with ⟨a', h1, h2, h3⟩ | ⟨y, h1, h2⟩
   ·omega
   ·exact ⟨y, qoy h1, h2⟩
  | succ k ih =>
   intro a hk ha
   rcases step a ha with ⟨a', h1, h2, h3⟩ | ⟨y, h1, h2⟩
   ·obtain ⟨y, h4, h5⟩ := ih a' (by omega) h2
    exact ⟨y, q0o h1 h4, h5⟩
   ·exact ⟨y, qoy h1, h2⟩
 exact fun a => this (m a) a (Nat.le_refl _)
end
end Go.Ev
namespace Go.Proofs.Ytbhhifdhlafklaa.K
open Go.Ev
set_option maxRecDepth 10000
theorem q7x {a b : Nat} (h : a + b < 2 ^ 62) : IntKind.i64.wrap ((a : Int) + (b : Int)) = ((a + b : Nat) : Int) := by rw [qas (by omega) (by omega)]; simp
theorem q0e {a : Nat} (h : a < 2 ^ 62) : IntKind.i64.wrap ((a : Int) + 1) = ((a + 1 : Nat) : Int) := by rw [qas (by omega) (by omega)]; simp
theorem q4u {a c : Nat} (h : a = c + 1) (h2 : a < 2 ^ 62) : IntKind.i64.wrap ((a : Int) - 1) = (c : Int) := by rw [qas (by omega) (by omega)]; omega
section
variable (g : Nat) (cl : Bool) (n : Nat)
end
open Go.Ev
theorem q33 (a b : Int) : qos b a = -qos a b := by unfold qos; split <;> split <;> (try split) <;> omega
theorem qip (a b : Int) : (qos a b < 0 ↔ a < b) ∧ (qos a b = 0 ↔ a = b) ∧ (0 < qos a b ↔ b < a) := by
 unfold qos
 split
 ·refine ⟨?_, ?_, ?_⟩ <;> omega
 split
 ·refine ⟨?_, ?_, ?_⟩ <;> omega
 ·refine ⟨?_, ?_, ?_⟩ <;> omega
theorem q2c : ∀ a b : List Int, qkh b a = -qkh a b
 | [], [] => rfl
 | [], y :: b => by simp [qkh]
 | x :: a, [] => by simp [qkh]
 | x :: a, y :: b => by
  simp only [qkh]
  by_cases h : x = y
  ·subst h; simp only [if_true]; exact q2c a b
  ·rw [if_neg h, if_neg (fun e => h e.symm)]; exact q33 x y
theorem qw0 : ∀ a b c : List Int, qkh a b ≤ 0 → qkh b c ≤ 0 → qkh a c ≤ 0
 | [], b, c, _, _ => by cases c <;> simp [qkh]
 | x :: a, [], c, h, _ => by simp [qkh] at h
 | x :: a, y :: b, [], _, h => by simp [qkh] at h
 | x :: a, y :: b, z :: c, h1, h2 => by
  simp only [qkh] at h1 h2 ⊢
  have c1 := qip x y
  have c2 := qip y z
  have c3 := qip x z
  by_cases e1 : x = y
  ·subst e1
   rw [if_pos rfl] at h1
   by_cases e2 : x = z
   ·subst e2; rw [if_pos rfl] at h2 ⊢; exact qw0 a b c h1 h2
   ·rw [if_neg e2] at h2 ⊢; exact h2
  ·rw [if_neg e1] at h1
   by_cases e2 : y = z
   ·subst e2; rw [if_neg e1]; exact h1
   ·rw [if_neg e2] at h2
    have : ¬ x = z := by intro e; omega
    rw [if_neg this]
    omega
def leE (x y : Evt) : Prop := qr7 x y ≤ 0
theorem qo3 (x y : Evt) : qr7 y x = -qr7 x y := by
 unfold qr7
 have := q33 x.time y.time
 have := q2c x.key y.key
 by_cases h : qos x.time y.time = 0
 ·rw [if_pos h, if_pos (by omega)]; assumption
 ·rw [if_neg h, if_neg (by omega)]; assumption
theorem qth (x y z : Evt) (h1 : leE x y) (h2 : leE y z) : leE x z := by
 unfold leE qr7 at *
 have c1 := qip x.time y.time
 have c2 := qip y.time z.time
 have c3 := qip x.time z.time
 by_cases e1 : qos x.time y.time = 0
 ·rw [if_pos e1] at h1
  by_cases e2 : qos y.time z.time = 0
  ·rw [if_pos e2] at h2
   rw [if_pos (by omega)]; exact qw0 _ _ _ h1 h2
  ·rw [if_neg e2] at h2
   rw [if_neg (by omega)]; omega
 ·rw [if_neg e1] at h1
  by_cases e2 : qos y.time z.time = 0
  ·rw [if_neg (by omega)]; omega
  ·rw [if_neg e2] at h2
   rw [if_neg (by omega)]; omega
theorem leE_of (x y : Evt) (h : qr7 x y < 0) : leE x y := by unfold leE; omega
theorem q1b (x y : Evt) : qr7 x y = 0 ↔ x.time = y.time ∧ x.key = y.key := by
 unfold qr7
 have := qip x.time y.time
 have := qu0 x.key y.key
 by_cases h : qos x.time y.time = 0
 ·rw [if_pos h]; constructor
  ·intro k; exact ⟨by omega, by simpa [k] using this⟩
  ·intro k; exact this.2 k.2
 ·rw [if_neg h]; constructor
  ·intro k; exact absurd k h
  ·intro k; omega
open Go.Ev
set_option maxRecDepth 10000
section
variable (g : Nat) (cl : Bool) (n : Nat)
def qid (D : List Evt) : Prop := ∀ x ∈ D, x.key.length ≤ 9223372036854775807
end
open Go.Ev
set_option maxRecDepth 10000
section
variable (g : Nat) (cl : Bool) (n : Nat)
end
open Go.Ev
set_option maxRecDepth 10000
theorem half_bin (s h : Nat) (hh : h = s / 2) : qle .shr (.v (.int .u64 (s : Int))) (.v (.int .u64 1)) = some (.v (.int .u64 (h : Int))) := by
 subst hh
 show (if (1 : Int) < 0 then none else some (AV.v (.int .u64 ((s : Int).fdiv (2 ^ (min (1 : Int).toNat IntKind.u64.bits)))))) = _
 rw [if_neg (by omega), show (2 : Int) ^ (min (1 : Int).toNat IntKind.u64.bits) = 2 from rfl, Int.fdiv_eq_ediv_of_nonneg _ (by omega)]
 rw [show (s : Int) / 2 = ((s / 2 : Nat) : Int) by omega]
theorem q7v {n : Nat} (h : n < 2 ^ 63) : IntKind.u64.wrap (n : Int) = (n : Int) := by
 have h3 : IntKind.u64.bits = 64 := rfl
 have h4 : IntKind.u64.signed = false := rfl
 simp only [IntKind.wrap, h3, h4, Bool.false_and, zfa, if_false]
 omega
theorem q73 {n : Nat} (h : n < 2 ^ 63) : IntKind.i64.wrap (n : Int) = (n : Int) := qas (by omega) (by omega)
section
variable (g : Nat) (cl : Bool) (n : Nat)
end
open Go.Ev
set_option maxRecDepth 10000
section
variable (g : Nat) (cl : Bool) (n : Nat)
end
open Go.Ev
set_option maxRecDepth 10000
section
variable (g : Nat) (cl : Bool) (n : Nat)
def q7c (a m b : Nat) (D D' : List Evt) : Prop := (evL T).call qam [.sl 0 g 0 n cl, (ii a), (ii m), (ii b), (.fn (.func qa5) [] [])] [.row 6 ((D).map Evt.r) g] = some (.tup [], [.row 6 ((D').map Evt.r) g])
structure Nums (x1 x2 y1 y2 a m b mid nn lo hi p start fin : Nat) : Prop where
 hX1 : 1 < x1 + x2
 hY1 : 1 < y1 + y2
 hb : n < 2 ^ 61
 hmid : mid = (a + b) / 2
 hnn : nn = mid + m
 hp : nn = p + 1
 hfin : nn = start + fin
 hm : m = a + (x1 + x2)
 hbb : b = m + (y1 + y2)
 hbn : b ≤ n
 hst : start = a + x1
 hfi : fin = m + y1
structure Wraps (x1 x2 y1 y2 a m b mid nn p start fin : Nat) : Prop where
 w1 : IntKind.i64.wrap ((m : Int) - (a : Int)) = ((x1 + x2 : Nat) : Int)
 h1 : ¬ ((x1 + x2 : Nat) : Int) = 1
 w2 : IntKind.i64.wrap ((b : Int) - (m : Int)) = ((y1 + y2 : Nat) : Int)
 h2 : ¬ ((y1 + y2 : Nat) : Int) = 1
 w3 : IntKind.i64.wrap ((a : Int) + (b : Int)) = ((a + b : Nat) : Int)
 w4 : IntKind.u64.wrap ((a + b : Nat) : Int) = ((a + b : Nat) : Int)
 w5 : qle .shr (.v (.int .u64 ((a + b : Nat) : Int))) (.v (.int .u64 1)) = some (.v (.int .u64 (mid : Int)))
 w6 : IntKind.i64.wrap (mid : Int) = (mid : Int)
 w7 : IntKind.i64.wrap ((mid : Int) + (m : Int)) = (nn : Int)
 w8 : IntKind.i64.wrap ((nn : Int) - 1) = (p : Int)
 w9 : IntKind.i64.wrap ((nn : Int) - (start : Int)) = (fin : Int)
 c5 : mid < fin ↔ start < m
 c6 : start < mid ↔ m < fin
structure Steps (a m b mid start fin : Nat) (D D2 D3 D4 : List Evt) : Prop where
 s1 : start < m → m < fin → (evL T).call qbi [.sl 0 g 0 n cl, (ii start), (ii m), (ii fin), (.fn (.func qa5) [] [])] [.row 6 ((D).map Evt.r) g] = some (.tup [], [.row 6 ((D2).map Evt.r) g])
 n1 : ¬ (start < m ∧ m < fin) → D2 = D
 s2 : a < start → start < mid → q7c g cl n a start mid D2 D3
 n2 : ¬ (a < start ∧ start < mid) → D3 = D2
 s3 : mid < fin → fin < b → q7c g cl n mid fin b D3 D4
 n3 : ¬ (mid < fin ∧ fin < b) → D4 = D3
end
open Go.Ev
set_option maxRecDepth 10000
section
variable (g : Nat) (cl : Bool) (n : Nat)
end
open Go.Ev
set_option maxRecDepth 10000
section
variable (g : Nat) (cl : Bool) (n : Nat)
end
open Go.Ev
set_option maxRecDepth 10000
def qga (l : List Evt) : List Evt := l.mergeSort (fun a b => decide (qr7 a b ≤ 0))
def qu6 (l : List Evt) : Prop := l.Pairwise (fun a b => ¬ qr7 a b = 0)
theorem qe6 (l : List Evt) : (qga l).Perm l := List.mergeSort_perm _ _
theorem qgr (l : List Evt) : (qga l).Pairwise leE := by
 have := List.pairwise_mergeSort (le := fun a b => decide (qr7 a b ≤ 0)) (fun a b c h1 h2 => by simp only [decide_eq_true_eq] at h1 h2 ⊢; exact qth a b c h1 h2) (fun a b => by
  have := qo3 a b
  by_cases h : qr7 a b ≤ 0
  ·simp [h]
  ·have : qr7 b a ≤ 0 := by omega
   simp [this]) l
 exact this.imp (fun h => of_decide_eq_true h)
theorem qu6.eq {l : List Evt} (h : qu6 l) {a b : Evt} (ha : a ∈ l) (hb : b ∈ l) (hc : qr7 a b = 0) : a = b := by
 obtain ⟨i, hi⟩ := List.mem_iff_getElem?.1 ha
 obtain ⟨j, hj⟩ := List.mem_iff_getElem?.1 hb
 obtain ⟨hi', rfl⟩ := List.getElem?_eq_some_iff.1 hi
 obtain ⟨hj', rfl⟩ := List.getElem?_eq_some_iff.1 hj
 rw [qu6, List.pairwise_iff_getElem] at h
 rcases Nat.lt_trichotomy i j with c | c | c
 ·exact absurd hc (h i j hi' hj' c)
 ·subst c; rfl
 ·exact absurd (by rw [qo3]; omega) (h j i hj' hi' c)
theorem qp4 {l l' : List Evt} (hd : qu6 l) (hp : l'.Perm l) (hs : l'.Pairwise leE) : l' = qga l := by
 refine List.Perm.eq_of_pairwise (le := leE) (fun a b ha hb h1 h2 => ?_) hs (qgr l) (hp.trans (qe6 l).symm)
 refine hd.eq (hp.mem_iff.1 ha) ((qe6 l).mem_iff.1 hb) ?_
 have := qo3 a b
 unfold leE at h1 h2; omega
theorem qu6.perm {l l' : List Evt} (h : qu6 l) (p : l'.Perm l) : qu6 l' := (p.pairwise_iff (fun {x y} hxy hyx => hxy (by rw [qo3]; omega))).2 h
theorem qs3 (l : List Evt) (c : Bool) (h : l.length ≤ 1000000) : (evL T).call qa6 [(.fsl ((l).map Evt.r) c)] [] = some (.sl 0 0 0 l.length false, [.row 6 (l.map Evt.r) 0]) := by
 have h' : l.length * 64 ≤ 140737488355328 := by omega
 rw [q2w qhz]
 simp only [qrj, qaa, qew, h', qm, qh, qd, zgi, ↓reduceIte, Nat.reduceLT, Nat.reducePow, zfc, zgx, zgy]
theorem qkr (x y : Evt) (hx : x.key.length ≤ 9223372036854775807) (hy : y.key.length ≤ 9223372036854775807) : qa3 (evL T) qcy [(.agg [(ii x.time), (.fsl ((x.key).map qby) false), (ii x.lp), (ii x.kind), (ii x.proc), (ii x.arg)]), (.agg [(ii y.time), (.fsl ((y.key).map qby) false), (ii y.lp), (ii y.kind), (ii y.proc), (ii y.arg)])] = some (ii (qr7 x y)) := by
 obtain ⟨xt, xk, xl, xi, xp, xa⟩ := x
 obtain ⟨yt, yk, yl, yi, yp, ya⟩ := y
 have hc := qlg xt yt
 have hk := qro xk yk false false hx hy
 have hz := (qip xt yt).2.1
 rw [qa3, qad qou qn9]
 by_cases h : xt = yt
 ·subst h
  have h0 : qos xt xt = 0 := hz.2 rfl
  simp only [qe1, qr7, h0, hk, qw, qj, Ev.exec, qb, qe, qc, qav, qai, Ev.evs, Ev.Opnd.ev, Ev.Env.get, Ev.Env.set, Ev.look, qk, qf, qv, Ev.AV.cells, qo, Ev.AV.plain, qbe, qi, qq, qaj, Ev.kill, qag, qg, qba, qm, qh, qd, qx, ↓qn, ↓reduceIte, zga, zgb, zfe, zgf, zgg, zgh, Nat.reduceAdd, Nat.reduceEqDiff, reduceCtorEq, zgw, zfc, zfa, zgx, ne_eq, zfb, not_true_eq_false, zff, zfd, zgy]
 ·have h0 : ¬ qos xt yt = 0 := fun e => h (hz.1 e)
  simp only [qe1, qr7, h0, h, hc, qj, Ev.exec, qb, qe, qc, qav, qai, Ev.evs, Ev.Opnd.ev, Ev.Env.get, Ev.Env.set, Ev.look, qk, qf, qv, Ev.AV.cells, qo, Ev.AV.plain, qbe, qi, qq, qaj, Ev.kill, qag, qg, qba, qh, qd, qx, ↓qn, ↓reduceIte, zga, zgb, zfe, zgg, zgh, Nat.reduceAdd, Nat.reduceEqDiff, reduceCtorEq, zgv, zfc, zfa, zgx, ne_eq, zfb, zff, zfd, zgy]
open Go.Ev
set_option maxRecDepth 10000
section
variable (l : List Evt) (c : Bool)
end
open Go.Ev
set_option maxRecDepth 10000
def q5y : Evt := ⟨0, [], 0, 0, 0, 0⟩
def qtm (l : List Evt) (b : Int) : List Evt × Evt × Bool := match l with
 | [] => ([], q5y, false)
 | x :: r => if x.time < b then (r, x, true) else (x :: r, q5y, false)
theorem qya (l : List Evt) (c : Bool) (b : Int) (hl : l.length ≤ 1000000) : ∃ c' : Bool, qa3 (evL T) qg5 [(.fsl ((l).map Evt.r) c), (ii b)] = some (.tup [(.fsl (((qtm l b).1).map Evt.r) c'), (.agg [(ii ((qtm l b).2.1.time)), (.fsl (((qtm l b).2.1.key).map qby) false), (ii ((qtm l b).2.1.lp)), (ii ((qtm l b).2.1.kind)), (ii ((qtm l b).2.1.proc)), (ii ((qtm l b).2.1.arg))]), (bb ((qtm l b).2.2))]) := by
 rw [qa3, qad qv3 qt5]
 cases l with
 | nil =>
  refine ⟨c, ?_⟩
  simp only [qiq, qtm, q5y, List.map_nil, Int.lt_irrefl, qj, Ev.exec, qb, qe, qc, qai, Ev.Opnd.ev, Ev.Env.get, Ev.Env.set, Ev.Env.unset, Ev.look, qk, qf, qv, qfz, Ev.AV.cells, qo, Ev.AV.plain, qbh, qi, qq, qaj, Ev.kill, qag, qg, qba, qa2, qb0, qm, qh, qd, qu, qx, ↓qn, ↓reduceIte, zga, zgb, zgd, zgc, zgo, zfe, zgf, zgg, List.drop_nil, zgl, zgn, zgj, Nat.reduceAdd, Nat.reduceEqDiff, Int.cast_ofNat_Int, reduceCtorEq, zgw, zfc, zfa, zgx, ne_eq, zfb, zff, zfd, Nat.le_refl, zgy]
  try rfl
 | cons x r =>
  have hcl := qs3 r c (by simp at hl; omega)
  have h1 : (1 : Int) ≤ ((r.length + 1 : Nat) : Int) := by omega
  have htk : (r.map Evt.r).take r.length = r.map Evt.r := List.take_of_length_le (by simp)
  obtain ⟨xt, xk, xl, xi, xp, xa⟩ := x
  have h0 : ((r.length + 1 : Nat) : Int) > 0 := by omega
  by_cases h : xt < b
  ·refine ⟨false, ?_⟩
   simp only [qiq, qtm, zgr, List.map_cons, Evt.r, h0, h1, h, hcl, htk, Int.le_refl, Nat.add_sub_cancel, imp_self, qw, qaa, qew, qj, Ev.exec, qb, qe, qc, qrg, q2m, Ev.AV.shift, qai, Ev.evs, Ev.Opnd.ev, Ev.Env.get, Ev.Env.set, Ev.look, qk, qf9, qf, qv, Ev.AV.cells, qo, Ev.AV.plain, ql, qbh, qi, qq, qaj, Ev.kill, qag, qg, qba, qa2, qb0, qm, qdq, qh, qd, qbg, qx, quu, qhb, qe3, qgs, qel, qhi, zgi, ↓qn, ↓reduceIte, zga, zgb, zgd, zge, zgc, zgo, zfe, zgf, zgg, List.drop_nil, zgm, zgl, zgn, zgj, zgh, Nat.reduceAdd, Nat.reduceEqDiff, Nat.reduceLT, Int.reduceLE, Int.reduceToNat, reduceCtorEq, zgv, zgw, zfc, Bool.and_true, zfa, zgx, and_true, ne_eq, zfb, zff, zfd, Nat.le_refl, Option.isSome_none, zgy]
   try rfl
  ·refine ⟨c, ?_⟩
   simp only [qiq, qtm, q5y, List.map_cons, Evt.r, h0, h, qw, qaa, qj, Ev.exec, qb, qe, qc, qai, Ev.Opnd.ev, Ev.Env.get, Ev.Env.set, Ev.look, qk, qf, qv, qfz, Ev.AV.cells, qo, Ev.AV.plain, ql, qbh, qi, qq, qaj, Ev.kill, qag, qg, qba, qa2, qb0, qm, qh, qd, qu, qak, qx, zgi, ↓qn, ↓reduceIte, zga, zgb, zgd, zgc, zgo, zfe, zgf, zgg, List.drop_nil, zgl, zgn, zgj, zgh, Nat.reduceAdd, Nat.reduceEqDiff, Int.reduceLE, Int.reduceToNat, reduceCtorEq, zgv, zgw, zfc, zfa, zgx, ne_eq, zfb, zff, zfd, Nat.le_refl, zgy]
   try rfl
open Go.Ev
set_option maxRecDepth 10000
theorem qok (x y : Evt) (hx : x.key.length ≤ 9223372036854775807) (hy : y.key.length ≤ 9223372036854775807) :
  (evL T).call qa5 [(.agg [(ii x.time), (.fsl ((x.key).map qby) false), (ii x.lp), (ii x.kind), (ii x.proc), (ii x.arg)]), (.agg [(ii y.time), (.fsl ((y.key).map qby) false), (ii y.lp), (ii y.kind), (ii y.proc), (ii y.arg)])] [] = some ((ii (qr7 x y)), []) := by
 obtain ⟨xt, xk, xl, xi, xp, xa⟩ := x
 obtain ⟨yt, yk, yl, yi, yp, ya⟩ := y
 have hc := qns xt yt
 have hk := qrc xk yk false false hx hy
 have hf := qy3 (qos xt yt) (qkh xk yk) true
 simp only [List.map_cons, List.map_nil, qby] at hf
 rw [qad qo4 qoc]
 simp only [qgm, show ∀ v : List AV, List.replicate 2 v = [v, v] from fun _ => rfl, hc, hk, hf, qr7, qw, qj, Ev.exec, qb, qe, qc, qav, qai, Ev.evs, Ev.Opnd.ev, Ev.Env.get, Ev.Env.set, Ev.look, qk, qf, qv, qfk, Ev.AV.cells, Ev.AV.uc, qo, Ev.AV.plain, qi, qq, qaj, Ev.kill, qag, qg, qba, qm, qh, qd, qu, qak, ↓qn, ↓reduceIte, zga, zgb, zfe, zgf, zgg, zgj, zgk, zgh, Nat.reduceAdd, Nat.reduceEqDiff, Nat.reduceMul, Nat.reduceLT, Nat.reduceLeDiff, Nat.reducePow, reduceCtorEq, zfc, zfa, zgx, ne_eq, zfb, zff, zfd, zgu, zgy]
section
variable (l : List Evt) (c : Bool) (x : Evt)
def At (l : List Evt) (x : Evt) (k : Nat) : Prop := k ≤ l.length ∧ (∀ u, 0 < k → l[k - 1]? = some u → qr7 u x < 0) ∧ (∀ v, l[k]? = some v → 0 ≤ qr7 v x)
theorem bs_L (hl : l.length ≤ 1000000) (hk : qid l) (kx : x.key.length ≤ 9223372036854775807) :
  ∃ y, itB (exec (evL T) itL none qah) (qs [0, 2, 4, 8, 9, 10] true 0) ⟨[(0, (.fsl ((l).map Evt.r) c)), (2, (.fn (.func qa5) [] [])), (4, (.fptr [(ii x.time), (.fsl ((x.key).map qby) false), (ii x.lp), (ii x.kind), (ii x.proc), (ii x.arg)])), (8, (ii l.length)), (9, (ii 0)), (10, (ii l.length))], []⟩ [] = some y ∧
   ∃ k : Nat, y.1 = .exit 0 ∧ y.2.1.marks = [] ∧ y.2.2 = [] ∧ Ev.look y.2.1.vars 0 = some (.fsl ((l).map Evt.r) c) ∧ Ev.look y.2.1.vars 2 = some (.fn (.func qa5) [] []) ∧ Ev.look y.2.1.vars 4 = some (.fptr [(ii x.time), (.fsl ((x.key).map qby) false), (ii x.lp), (ii x.kind), (ii x.proc), (ii x.arg)]) ∧ Ev.look y.2.1.vars 8 = some (ii l.length) ∧ Ev.look y.2.1.vars 9 = some (ii k) ∧ At l x k := by
 have key := qwz (f := exec (evL T) itL none qah) (s := qs [0, 2, 4, 8, 9, 10] true 0) (τ := Nat × Nat) (fun a => ⟨[(0, (.fsl ((l).map Evt.r) c)), (2, (.fn (.func qa5) [] [])), (4, (.fptr [(ii x.time), (.fsl ((x.key).map qby) false), (ii x.lp), (ii x.kind), (ii x.proc), (ii x.arg)])), (8, (ii l.length)), (9, (ii a.1)), (10, (ii a.2))], []⟩) (fun _ => []) (fun a => a.2 - a.1)
  (fun a => a.1 ≤ a.2 ∧ a.2 ≤ l.length ∧ (∀ u, 0 < a.1 → l[a.1 - 1]? = some u → qr7 u x < 0) ∧ (∀ v, l[a.2]? = some v → 0 ≤ qr7 v x))
  (fun y => ∃ k : Nat, y.1 = .exit 0 ∧ y.2.1.marks = [] ∧ y.2.2 = [] ∧ Ev.look y.2.1.vars 0 = some (.fsl ((l).map Evt.r) c) ∧ Ev.look y.2.1.vars 2 = some (.fn (.func qa5) [] []) ∧ Ev.look y.2.1.vars 4 = some (.fptr [(ii x.time), (.fsl ((x.key).map qby) false), (ii x.lp), (ii x.kind), (ii x.proc), (ii x.arg)]) ∧ Ev.look y.2.1.vars 8 = some (ii l.length) ∧ Ev.look y.2.1.vars 9 = some (ii k) ∧ At l x k)
  ?_ (0, l.length) ⟨Nat.zero_le _, Nat.le_refl _, fun u h => by simp only at h; omega, fun v hv => by simp at hv⟩
 ·exact key
 rintro ⟨i, j⟩ ⟨h1, h2, h3, h4⟩
 simp only at h1 h2 h3 h4 ⊢
 by_cases hij : i < j
 case neg =>
  have c1 : ¬ (i : Int) < (j : Int) := by omega
  right
  simp only [qah, c1, Ev.exec, qb, qe, qc, qai, Ev.Opnd.ev, Ev.Env.get, Ev.Env.set, Ev.look, ql, ↓qn, Ev.it1, ↓reduceIte, Nat.reduceEqDiff, reduceCtorEq, zgw, zfa, zgy]
  obtain rfl : i = j := by omega
  exact ⟨_, rfl, i, rfl, rfl, rfl, rfl, rfl, rfl, rfl, rfl, by omega, h3, h4⟩
 obtain ⟨h, hh⟩ : ∃ h, h = (i + j) / 2 := ⟨_, rfl⟩
 have c1 : (i : Int) < (j : Int) := by omega
 obtain ⟨y, hy⟩ : ∃ y, l[h]? = some y := ⟨_, List.getElem?_eq_getElem (by omega)⟩
 have w1 : IntKind.i64.wrap ((i : Int) + (j : Int)) = ((i + j : Nat) : Int) := q7x (by omega)
 have w2 : IntKind.u64.wrap ((i + j : Nat) : Int) = ((i + j : Nat) : Int) := q7v (by omega)
 have w3 := half_bin (i + j) h hh
 have w4 : IntKind.i64.wrap (h : Int) = (h : Int) := q73 (by omega)
 have w5 : IntKind.i64.wrap ((h : Int) + 1) = ((h + 1 : Nat) : Int) := q0e (by omega)
 have ky : y.key.length ≤ 9223372036854775807 := hk y (List.mem_of_getElem? hy)
 have hc := qok y x ky kx
 left
 by_cases hlt : qr7 y x < 0
 ·refine ⟨(h + 1, j), ?_, ⟨by simp only; omega, h2, fun u _ hu => ?_, h4⟩, by simp only; omega⟩
  ·clear h3 h4
   obtain ⟨xt, xk, xl, xi, xp, xa⟩ := x
   obtain ⟨yt, yk, yl, yi, yp, ya⟩ := y
   simp only at hc
   simp only [qah, zgs, zgr, zgq, zgt, hy, c1, w1, w2, w3, w4, w5, hc, hlt, Evt.r, qaa, qw, Ev.exec, qb, qe, qc, qtl, qai, Ev.evs, Ev.Opnd.ev, Ev.Env.get, Ev.Env.set, Ev.look, qf, qv, qao, ql, qs, Ev.keep, qal, qaf, qg, qba, qm, qbm, qzd, qh, qd, ↓qn, Ev.it1, ↓reduceIte, zga, zgb, zgc, zfe, zgl, zgn, Nat.reduceAdd, Nat.reduceEqDiff, reduceCtorEq, zgv, zfc, zgx, zfd, Nat.le_refl, zgy]
  ·simp only [Nat.add_sub_cancel] at hu
   rw [hy] at hu; cases hu; exact hlt
 ·refine ⟨(i, h), ?_, ⟨by simp only; omega, by simp only; omega, h3, fun v hv => by simp only at hv; rw [hy] at hv; cases hv; omega⟩, by simp only; omega⟩
  clear h3 h4
  obtain ⟨xt, xk, xl, xi, xp, xa⟩ := x
  obtain ⟨yt, yk, yl, yi, yp, ya⟩ := y
  simp only at hc
  simp only [qah, zgs, zgr, zgq, zgt, hy, c1, w1, w2, w3, w4, hc, hlt, Evt.r, qaa, qw, Ev.exec, qb, qe, qc, qtl, qai, Ev.evs, Ev.Opnd.ev, Ev.Env.get, Ev.Env.set, Ev.look, qf, qv, qao, ql, qs, Ev.keep, qal, qaf, qg, qba, qm, qbm, qzd, qh, qd, ↓qn, Ev.it1, ↓reduceIte, zga, zgb, zgc, zfe, zgl, zgn, Nat.reduceAdd, Nat.reduceEqDiff, reduceCtorEq, zgv, zgw, zfc, zfa, zgx, zfd, Nat.le_refl, zgy]
theorem bs_ev (hl : l.length ≤ 1000000) (hk : qid l) (kx : x.key.length ≤ 9223372036854775807) : ∃ (k : Nat) (b : Bool), At l x k ∧
  qa3 (evL T) qac [(.fsl ((l).map Evt.r) c), (.agg [(ii x.time), (.fsl ((x.key).map qby) false), (ii x.lp), (ii x.kind), (ii x.proc), (ii x.arg)]), (.fn (.func qa5) [] [])] = some (.tup [(ii k), (bb b)]) := by
 obtain ⟨⟨y, e, σ⟩, h1, k, h2, h3, h4, h5, h6, h7, h8, h9, hA⟩ := bs_L l c x hl hk kx
 simp only at h2 h3 h4 h5 h6 h7 h8 h9
 subst h2; subst h4
 refine ⟨k, match l[k]? with | some v => decide (qr7 v x = 0) | none => false, hA, ?_⟩
 rw [qa3, qad qd2 qdv]
 by_cases hkn : k < l.length
 ·obtain ⟨v, hv⟩ : ∃ v, l[k]? = some v := ⟨_, List.getElem?_eq_getElem hkn⟩
  have c1 : (k : Int) < (l.length : Int) := by omega
  have hc := qok v x (hk v (List.mem_of_getElem? hv)) kx
  clear hA
  obtain ⟨xt, xk, xl, xi, xp, xa⟩ := x
  obtain ⟨yt, yk, yl, yi, yp, ya⟩ := v
  simp only at hc h1 h7
  simp only [qan, zgs, zgr, zgq, zgt, h1, h3, h5, h6, h7, h8, h9, hv, c1, hc, Evt.r, qaa, qw, qj, Ev.exec, qb, qe, qc, qtl, qai, Ev.evs, Ev.Opnd.ev, Ev.Env.get, Ev.Env.set, Ev.look, qk, qf, qv, Ev.AV.cells, qo, Ev.AV.plain, qar, ql, qi, qq, qaj, Ev.kill, qag, qs, Ev.keep, qal, qaf, qg, qba, qb0, qm, qbm, qzd, qh, qd, qx, zgi, ↓qn, ↓qa4, ↓reduceIte, zga, zgb, zgc, zfe, zgl, zgn, Nat.reduceAdd, Nat.reduceEqDiff, reduceCtorEq, zgv, zfc, zgx, ne_eq, zfb, zff, zfd, Nat.le_refl, zgy]
 ·have c1 : ¬ (k : Int) < (l.length : Int) := by omega
  have hv : l[k]? = none := List.getElem?_eq_none (by omega)
  clear hA
  obtain ⟨xt, xk, xl, xi, xp, xa⟩ := x
  simp only at h1 h7
  simp only [qan, h1, h3, h8, h9, hv, c1, qaa, qw, qj, Ev.exec, qb, qe, qc, qai, Ev.Opnd.ev, Ev.Env.get, Ev.Env.set, Ev.Env.unset, Ev.look, qk, Ev.AV.cells, qo, Ev.AV.plain, ql, qi, qq, qaj, Ev.kill, qag, qs, Ev.keep, qal, qaf, qg, qba, qb0, qm, qbm, qzd, qh, qd, qx, zgi, ↓qn, ↓qa4, ↓reduceIte, zga, zgb, zfe, Nat.reduceAdd, Nat.reduceEqDiff, reduceCtorEq, zgw, zfc, zfa, zgx, ne_eq, zfb, zff, zfd, zgy]
theorem qt4 (hl : l.length ≤ 1000000) (hk : qid l) (kx : x.key.length ≤ 9223372036854775807) : ∃ k : Nat, At l x k ∧
  qa3 (evL T) qek [(.fsl ((l).map Evt.r) c), (.agg [(ii x.time), (.fsl ((x.key).map qby) false), (ii x.lp), (ii x.kind), (ii x.proc), (ii x.arg)])] = some (.fsl ((l.take k ++ x :: l.drop k).map Evt.r) false) := by
 obtain ⟨k, b, hA, hb⟩ := bs_ev l c x hl hk kx
 refine ⟨k, hA, ?_⟩
 have hcl := qs3 l c hl
 have hkl : k ≤ l.length := hA.1
 have ok1 := qew [x]
 have ok2 := qew l
 have hb2 : (l.length + 1) * 64 ≤ 2 ^ 47 := by omega
 have hins : (evL T).call qbd [.sl 0 0 0 l.length false, (ii k), .fsl [x.r] true] [.row 6 (l.map Evt.r) 0] = some (.sl 0 2 0 (l.length + 1) false, [.row 6 ((l.take k ++ x :: l.drop k).map Evt.r) 2]) := by
  rw [evL_ins qhh qhm]
  simp only [insF, zgd, zgr]
  rw [if_pos ⟨trivial, trivial, trivial, by omega, by omega, by simp, by omega, hkl, ok1, by rw [List.take_of_length_le (by simp)]; exact ok2, hb2⟩]
  rw [List.map_append, List.map_cons, List.map_take, List.map_drop, List.take_of_length_le (l := l.map Evt.r) (i := l.length) (by simp)]
  rfl
 have htk : ((l.take k ++ x :: l.drop k).map Evt.r).take (l.length + 1) = (l.take k ++ x :: l.drop k).map Evt.r := List.take_of_length_le (by simp; omega)
 have hlen : l.length + 1 ≤ (l.take k ++ x :: l.drop k).length := by simp; omega
 rw [qa3, qad qs2 qsh]
 clear hA
 generalize l.take k ++ x :: l.drop k = R at *
 obtain ⟨xt, xk, xl, xi, xp, xa⟩ := x
 simp only [Evt.r] at hins
 simp only at hb
 simp only [qj2, hb, hcl, hins, htk, hlen, qaa, qw, qj, Ev.exec, qb, qe, qc, qav, qrg, qjv, q2m, Ev.AV.shift, qai, Ev.evs, Ev.Opnd.ev, Ev.Env.get, Ev.Env.set, Ev.look, qk, qf, qv, qfk, Ev.AV.cells, qo, Ev.AV.plain, qi, qq, qaj, Ev.kill, qag, qg, qba, qa2, qm, qdq, qzd, qh, qd, qhb, qe3, qgs, qel, qhi, List.replicate_one, zgi, ↓qn, ↓reduceIte, zga, zgb, zgd, zge, zgc, zgo, zfe, zgg, zgl, zgj, Nat.reduceAdd, Nat.reduceEqDiff, Nat.reduceMul, Nat.reduceLT, Nat.reduceLeDiff, Nat.reducePow, reduceCtorEq, zgw, zfc, zfa, zgx, and_true, ne_eq, zfb, zff, zfd, Nat.add_zero, zgu, Nat.le_refl, zgy]
end
open Go.Ev
set_option maxRecDepth 10000
theorem qjj (n : Nat) : ∀ (a b : List (List AV)), qiu n (a ++ b) = (qiu n a && qiu n b)
 | [], b => by simp [qu]
 | x :: a, b => by rw [List.cons_append, qak, qak, qjj n a b, Bool.and_assoc]
theorem qz7 (l : List Int) (c : Bool) (h : l.length ≤ 100000) : (evL T).call qeh [(.fsl ((l).map qby) c)] [] = some (.sl 0 0 0 l.length false, [.row 1 (l.map qby) 0]) := by
 have h' : l.length * 8 ≤ 140737488355328 := by omega
 rw [q2w qn0]
 simp only [qrj, qw, q7l, h', zgu, qm, qh, qd, zgi, ↓reduceIte, Nat.reducePow, zfc, zgx, zgu, zgy]
theorem qy5 (l : List Int) (c : Bool) (n : Int) (h : l.length ≤ 100000) : qa3 (evL T) qh4 [(.fsl ((l).map qby) c), (ii n)] = some (.fsl ((l ++ [n]).map qby) false) := by
 have h' : (l.length + 1) * 8 ≤ 140737488355328 := by omega
 have htl : List.take l.length (l.map qby) = l.map qby := List.take_of_length_le (by simp)
 have htk : ∀ e : List AV, List.take (l.length + 1) (l.map qby ++ [e]) = l.map qby ++ [e] := fun e => List.take_of_length_le (by simp)
 have hr : (l ++ [n]).map qby = l.map qby ++ [[(ii n)]] := by rw [List.map_append]; rfl
 rw [qa3, qad qxx qvt]
 rw [hr]
 simp only [qlv, qz7 l c h, h', htl, htk, qjj, qw, qj, Ev.exec, qb, qe, qc, qrg, q2m, Ev.AV.shift, qai, qm5, Ev.evs, Ev.Opnd.ev, Ev.Env.get, Ev.Env.set, Ev.look, qk, qbq, qfk, Ev.AV.cells, Ev.AV.uc, qo, Ev.AV.plain, qi, qq, qaj, Ev.kill, qag, qg, qba, qm, qdq, qh, qd, qu, qak, qbc, qbg, qhb, qe3, qgs, qel, qhi, List.replicate_one, zgi, ↓qn, ↓reduceIte, zga, zgb, zgp, zgd, zgo, zgg, zgl, zgj, Nat.reduceAdd, Nat.reduceEqDiff, Nat.reduceMul, Nat.reduceLT, Nat.reduceLeDiff, Nat.reducePow, reduceCtorEq, zgv, zgw, zfc, zfa, zgx, and_true, ne_eq, zfb, zff, zfd, Nat.add_zero, zgu, Nat.le_refl, zgy]
open Go.Ev
set_option maxRecDepth 10000
def Fits (l : List Evt) (x : Evt) (k : Nat) : Prop := k ≤ l.length ∧ (∀ u, 0 < k → l[k - 1]? = some u → leE u x) ∧ (∀ v, l[k]? = some v → leE x v)
theorem At.fits {l : List Evt} {x : Evt} {k : Nat} (h : At l x k) : Fits l x k :=
 ⟨h.1, fun u h0 hu => leE_of u x (h.2.1 u h0 hu), fun v hv => by have := h.2.2 v hv; have := qo3 v x; unfold leE; omega⟩
theorem Fits.perm {l : List Evt} {x : Evt} {k : Nat} : (l.take k ++ x :: l.drop k).Perm (x :: l) := by
 have := List.perm_middle (a := x) (l₁ := l.take k) (l₂ := l.drop k)
 rwa [List.take_append_drop] at this
theorem Fits.sorted {l : List Evt} {x : Evt} {k : Nat} (h : Fits l x k) (hs : l.Pairwise leE) : (l.take k ++ x :: l.drop k).Pairwise leE := by
 obtain ⟨h1, h2, h3⟩ := h
 have hlen : (l.take k).length = k := by rw [List.length_take]; omega
 refine qvc qth (by rwa [List.take_append_drop]) (fun u hu => ?_) (fun v hv => ?_)
 ·rw [hlen] at hu
  rw [List.getElem?_take] at hu
  split at hu
  ·exact h2 u (by omega) hu
  ·cases hu
 ·rw [List.getElem?_drop] at hv
  exact h3 v hv
theorem Fits.eq {l : List Evt} {x : Evt} {k : Nat} (h : Fits l x k) (hs : l.Pairwise leE) (hd : qu6 (x :: l)) : l.take k ++ x :: l.drop k = qga (x :: l) :=
 qp4 hd Fits.perm (h.sorted hs)
section
variable (l : List Evt) (c : Bool) (x : Evt)
theorem qvv (hl : l.length ≤ 1000000) (hk : qid l) (kx : x.key.length ≤ 9223372036854775807) (hs : l.Pairwise leE) (hd : qu6 (x :: l)) : qa3 (evL T) qek [(.fsl ((l).map Evt.r) c), (.agg [(ii x.time), (.fsl ((x.key).map qby) false), (ii x.lp), (ii x.kind), (ii x.proc), (ii x.arg)])] = some (.fsl ((qga (x :: l)).map Evt.r) false) := by
 obtain ⟨k, hA, h⟩ := qt4 l c x hl hk kx
 rw [hA.fits.eq hs hd] at h
 exact h
theorem refIns_L (hl : l.length ≤ 1000000) (hk : qid l) (hkx : x.key.length ≤ 9223372036854775807) :
  ∃ y, itB (exec (evL T) itL none qha) (qs [0, 3, 5] true 0) ⟨[(0, (.fsl ((l).map Evt.r) c)), (3, (.fptr [(ii x.time), (.fsl ((x.key).map qby) false), (ii x.lp), (ii x.kind), (ii x.proc), (ii x.arg)])), (5, (ii l.length))], []⟩ [] = some y ∧
   ∃ k : Nat, y.1 = .exit 0 ∧ y.2.1.marks = [] ∧ y.2.2 = [] ∧ Ev.look y.2.1.vars 0 = some (.fsl ((l).map Evt.r) c) ∧ Ev.look y.2.1.vars 3 = some (.fptr [(ii x.time), (.fsl ((x.key).map qby) false), (ii x.lp), (ii x.kind), (ii x.proc), (ii x.arg)]) ∧ Ev.look y.2.1.vars 5 = some (ii k) ∧ Fits l x k := by
 refine qwz (τ := Nat) (fun k => ⟨[(0, (.fsl ((l).map Evt.r) c)), (3, (.fptr [(ii x.time), (.fsl ((x.key).map qby) false), (ii x.lp), (ii x.kind), (ii x.proc), (ii x.arg)])), (5, (ii k))], []⟩) (fun _ => []) (fun k => k)
  (fun k => k ≤ l.length ∧ (∀ v, l[k]? = some v → leE x v)) _ ?_ l.length ⟨Nat.le_refl _, fun v hv => by simp at hv⟩
 rintro k ⟨h1, h2⟩
 cases k with
 | zero =>
  right
  simp only [qha, Int.lt_irrefl, gt_iff_lt, Ev.exec, qb, qe, qc, qai, Ev.Opnd.ev, Ev.Env.get, Ev.Env.set, Ev.Env.unset, Ev.look, qbh, ↓qn, Ev.it1, ↓reduceIte, Nat.reduceEqDiff, Int.cast_ofNat_Int, reduceCtorEq, zgw, zfa, zgy]
  exact ⟨_, rfl, 0, rfl, rfl, rfl, rfl, rfl, rfl, Nat.zero_le _, fun u h => by omega, h2⟩
 | succ j =>
  obtain ⟨y, hy⟩ : ∃ y, l[j]? = some y := ⟨_, List.getElem?_eq_getElem (by omega)⟩
  obtain ⟨k, hk1⟩ : ∃ k, k = j + 1 := ⟨_, rfl⟩
  rw [← hk1] at h1 h2 ⊢
  have c1 : (k : Int) > 0 := by omega
  have w1 : IntKind.i64.wrap ((k : Int) - 1) = (j : Int) := q4u hk1 (by omega)
  have hc := qkr y x (hk y (List.mem_of_getElem? hy)) hkx
  by_cases hlt : qr7 y x > 0
  ·left
   refine ⟨j, ?_, ⟨by omega, fun v hv => by rw [hy] at hv; cases hv; exact (by have := qo3 y x; unfold leE; omega)⟩, by omega⟩
   clear h2
   obtain ⟨xt, xk, xl, xi, xp, xa⟩ := x
   obtain ⟨yt, yk, yl, yi, yp, ya⟩ := y
   simp only at hc
   simp only [qha, zgs, zgr, zgq, zgt, hy, c1, w1, hc, hlt, Evt.r, qaa, qw, Ev.exec, qb, qe, qc, qav, qai, Ev.evs, Ev.Opnd.ev, Ev.Env.get, Ev.Env.set, Ev.look, qf, qv, qsf, qbh, qs, Ev.keep, qal, qaf, qg, qba, qa2, qm, qbm, qh, qd, ↓qn, Ev.it1, ↓reduceIte, zga, zgb, zgc, zfe, Nat.reduceAdd, Nat.reduceEqDiff, reduceCtorEq, zgv, zfc, zgx, zfd, Nat.le_refl, zgy]
  ·right
   have hle : leE y x := by unfold leE; omega
   have h3 : ∀ u, 0 < k → l[k - 1]? = some u → leE u x := fun u _ hu => by
    rw [hk1, Nat.add_sub_cancel, hy] at hu; cases hu; exact hle
   have hF : Fits l x k := ⟨h1, h3, h2⟩
   clear hle h3 h2
   obtain ⟨xt, xk, xl, xi, xp, xa⟩ := x
   obtain ⟨yt, yk, yl, yi, yp, ya⟩ := y
   simp only at hc
   simp only [qha, zgs, zgr, zgq, zgt, hy, c1, w1, hc, hlt, Evt.r, qw, Ev.exec, qb, qe, qc, qav, qai, Ev.evs, Ev.Opnd.ev, Ev.Env.get, Ev.Env.set, Ev.look, qf, qv, qsf, qbh, qba, qa2, qm, qh, qd, ↓qn, Ev.it1, ↓reduceIte, zga, zgb, zgc, zfe, Nat.reduceAdd, Nat.reduceEqDiff, reduceCtorEq, zgv, zgw, zfc, zfa, zfd, Nat.le_refl, zgy]
   exact ⟨_, rfl, k, rfl, rfl, rfl, rfl, rfl, rfl, hF⟩
theorem qx0 (hl : l.length ≤ 1000000) (hk : qid l) (hkx : x.key.length ≤ 9223372036854775807) : ∃ k : Nat, Fits l x k ∧ qa3 (evL T) qfw [(.fsl ((l).map Evt.r) c), (.agg [(ii x.time), (.fsl ((x.key).map qby) false), (ii x.lp), (ii x.kind), (ii x.proc), (ii x.arg)])] = some (.fsl ((l.take k ++ x :: l.drop k).map Evt.r) false) := by
 obtain ⟨⟨y, e, σ⟩, k1, k, k2, k3, k4, k5, k6, k7, hF⟩ := refIns_L l c x hl hk hkx
 simp only at k1 k2 k3 k4 k5 k6 k7
 subst k2; subst k4
 refine ⟨k, hF, ?_⟩
 have hkl := hF.1
 clear hF
 obtain ⟨A, B, rfl, hA⟩ : ∃ A B, l = A ++ B ∧ A.length = k := ⟨l.take k, l.drop k, (List.take_append_drop _ _).symm, by simp; omega⟩
 subst hA
 rw [List.take_left' rfl, List.drop_left' rfl]
 have c1 : (A.length : Int) ≤ ((A ++ B).length : Int) := by rw [List.length_append]; omega
 have c2 : (0 : Int) ≤ (A.length : Int) := by omega
 have tk : List.take A.length ((A ++ B).map Evt.r) = A.map Evt.r := by rw [List.map_append]; exact List.take_left' (by simp)
 have dr : List.drop A.length ((A ++ B).map Evt.r) = B.map Evt.r := by rw [List.map_append]; exact List.drop_left' (by simp)
 have hlen : A.length + B.length ≤ 1000000 := by rw [List.length_append] at hl; exact hl
 have b1 : A.length * 64 ≤ 140737488355328 := by omega
 have b2 : (A.length + 1) * 64 ≤ 140737488355328 := by omega
 have b3 : (A.length + 1 + B.length) * 64 ≤ 140737488355328 := by omega
 have tb : List.take ((A ++ B).length - A.length) (B.map Evt.r) = B.map Evt.r := List.take_of_length_le (by simp)
 have ta : List.take A.length (A.map Evt.r) = A.map Evt.r := List.take_of_length_le (by simp)
 have ta2 : ∀ e : List AV, List.take (A.length + 1) (A.map Evt.r ++ [e]) = A.map Evt.r ++ [e] := fun e => List.take_of_length_le (by simp)
 have ta3 : ∀ e : List AV, List.take (A.length + 1 + B.length) (A.map Evt.r ++ e :: B.map Evt.r) = A.map Evt.r ++ e :: B.map Evt.r := fun e => List.take_of_length_le (by simp; omega)
 have okAB : qcd 6 ((A ++ B).map Evt.r) = true := qew _
 have goal' : (AV.fsl ((A ++ x :: B).map Evt.r) false) = AV.fsl (A.map Evt.r ++ x.r :: B.map Evt.r) false := by rw [List.map_append, List.map_cons]
 have n1 : ∀ p q : Nat, p + 1 + q ≤ p + (q + 1) := fun p q => by omega
 have n2 : ∀ q : Nat, 1 + q ≤ q + 1 := fun q => by omega
 rw [goal']
 clear hl hk
 rw [qa3, qad qvk qub]
 rcases A with _ | ⟨a, A⟩ <;> rcases B with _ | ⟨b, B⟩
 ·obtain ⟨xt, xk, xl, xi, xp, xa⟩ := x
  simp only [zgl, zgb, List.map_nil, Int.ofNat_zero] at *
  simp only [qgz, k1, k3, k5, k6, k7, c1, tk, dr, b1, b2, ta2, okAB, imp_self, Nat.sub_zero, Int.toNat_zero, Evt.r, qw, qj, Ev.exec, qb, qe, qc, qai, qm5, Ev.Opnd.ev, Ev.Env.get, Ev.Env.set, Ev.look, qk, qf9, qf, qbq, qv, qfk, Ev.AV.cells, qo, Ev.AV.plain, qi, qq, qaj, Ev.kill, qag, qs, Ev.keep, qal, qaf, qg, qba, qm, qbm, qdq, qh, qd, qu, qbg, qx, qhb, qgs, qel, List.replicate_one, ↓qn, ↓qa4, ↓reduceIte, zga, zgb, zgd, zgc, zgo, zfe, zgg, zgl, zgj, Nat.reduceAdd, Nat.reduceEqDiff, Nat.reduceMul, Nat.reduceLT, Nat.reduceLeDiff, Nat.reducePow, Int.cast_ofNat_Int, reduceCtorEq, zgv, zgw, zfc, Bool.and_true, zfa, zgx, and_true, ne_eq, zfb, zff, zfd, Nat.add_zero, zgu, Nat.le_refl, Option.isSome_some, Option.isSome_none, zgy, implies_true]
 ·generalize hRB : List.map Evt.r (b :: B) = RB at *
  have nB : ¬ RB = [] := by rw [← hRB]; simp
  have lB : RB.length = (b :: B).length := by rw [← hRB]; simp
  have oB : qcd 6 RB = true := by rw [← hRB]; exact qew _
  have loB : ∀ n, qiu n RB = true := fun n => by rw [← hRB]; exact qaa n _
  obtain ⟨xt, xk, xl, xi, xp, xa⟩ := x
  simp only [zgl, zgb, List.map_nil, Int.ofNat_zero, hRB, Nat.sub_zero, zgg] at *
  generalize hrb : (b :: B).length = nb at *
  simp only [qgz, zgr, k1, k3, k5, k6, k7, c1, c2, tk, b1, b2, b3, ta, ta2, ta3, tb, okAB, imp_self, n2, Int.le_refl, Nat.sub_zero, nB, lB, loB, qbc, Int.toNat_zero, Evt.r, qw, qj, Ev.exec, qb, qe, qc, qai, qm5, Ev.Opnd.ev, Ev.Env.get, Ev.Env.set, Ev.look, qk, qf9, qf, qbq, qv, qfk, Ev.AV.cells, qo, Ev.AV.plain, qi, qq, qaj, Ev.kill, qag, qs, Ev.keep, qal, qaf, qg, qba, qm, qbm, qdq, qh, qd, qbc, qbg, qx, qhb, qe3, qgs, qel, List.replicate_one, ↓qn, ↓qa4, ↓reduceIte, zga, zgb, zgd, zgc, zgo, zfe, zgg, zgm, zgl, zgj, Nat.reduceAdd, Nat.reduceEqDiff, Nat.reduceMul, Nat.reduceLT, Nat.reduceLeDiff, Nat.reducePow, reduceCtorEq, zgv, zgw, zfc, Bool.and_true, zfa, zgx, and_true, ne_eq, zfb, zff, zfd, Nat.add_zero, zgu, Nat.le_refl, Option.isSome_some, Option.isSome_none, zgy, implies_true]
 ·generalize hRA : List.map Evt.r (a :: A) = RA at *
  have nA : ¬ RA = [] := by rw [← hRA]; simp
  have lA : RA.length = (a :: A).length := by rw [← hRA]; simp
  have oA : qcd 6 RA = true := by rw [← hRA]; exact qew _
  have loA : ∀ n, qiu n RA = true := fun n => by rw [← hRA]; exact qaa n _
  obtain ⟨xt, xk, xl, xi, xp, xa⟩ := x
  simp only [zgn, zgb, List.map_nil, hRA, Nat.add_zero, Nat.sub_self] at *
  generalize hra : (a :: A).length = na at *
  simp only [qgz, zgr, k1, k3, k5, k6, k7, c1, c2, tk, dr, b1, b2, ta2, tb, okAB, imp_self, Int.le_refl, Nat.sub_zero, nA, lA, loA, qbc, zfe, qjj, Evt.r, qw, qj, Ev.exec, qb, qe, qc, qai, qm5, Ev.Opnd.ev, Ev.Env.get, Ev.Env.set, Ev.look, qk, qf9, qf, qbq, qv, qfk, Ev.AV.cells, qo, Ev.AV.plain, qi, qq, qaj, Ev.kill, qag, qs, Ev.keep, qal, qaf, qg, qba, qm, qbm, qdq, qh, qd, qu, qak, qbc, qbg, qhb, qe3, List.replicate_one, ↓qn, ↓qa4, ↓reduceIte, zga, zgb, zgp, zgd, zgc, zgo, zfe, zgg, zgl, zgj, Nat.reduceAdd, Nat.reduceEqDiff, Nat.reduceMul, Nat.reduceLT, Nat.reduceLeDiff, Nat.reducePow, Int.reduceToNat, reduceCtorEq, zgv, zgw, zfc, Bool.and_true, zfa, zgx, and_true, ne_eq, zfb, zff, zfd, Nat.add_zero, zgu, Nat.le_refl, Option.isSome_some, Option.isSome_none, zgy, implies_true]
 ·generalize hRA : List.map Evt.r (a :: A) = RA at *
  generalize hRB : List.map Evt.r (b :: B) = RB at *
  have nA : ¬ RA = [] := by rw [← hRA]; simp
  have nB : ¬ RB = [] := by rw [← hRB]; simp
  have lA : RA.length = (a :: A).length := by rw [← hRA]; simp
  have lB : RB.length = (b :: B).length := by rw [← hRB]; simp
  have oA : qcd 6 RA = true := by rw [← hRA]; exact qew _
  have oB : qcd 6 RB = true := by rw [← hRB]; exact qew _
  have loA : ∀ n, qiu n RA = true := fun n => by rw [← hRA]; exact qaa n _
  have loB : ∀ n, qiu n RB = true := fun n => by rw [← hRB]; exact qaa n _
  generalize hra : (a :: A).length = na at *
  generalize hrb : (b :: B).length = nb at *
  generalize (a :: A) ++ (b :: B) = AB at *
  obtain ⟨xt, xk, xl, xi, xp, xa⟩ := x
  simp only [qgz, zgr, k1, k3, k5, k6, k7, c1, c2, tk, dr, b1, b2, b3, ta, ta2, ta3, tb, okAB, imp_self, n1, List.append_assoc, Int.le_refl, Nat.sub_zero, nA, nB, lA, lB, oA, oB, loA, loB, qjj, Evt.r, qaa, qw, qj, Ev.exec, qb, qe, qc, qai, qm5, Ev.Opnd.ev, Ev.Env.get, Ev.Env.set, Ev.look, qk, qf9, qf, qbq, qv, qfk, Ev.AV.cells, qo, Ev.AV.plain, qi, qq, qaj, Ev.kill, qag, qs, Ev.keep, qal, qaf, qg, qba, qm, qbm, qdq, qh, qd, qak, qbc, qbg, qhb, qe3, List.replicate_one, zgi, ↓qn, ↓qa4, ↓reduceIte, zga, zgb, zgp, zgd, zgc, zgo, zfe, zgg, zgm, zgl, zgj, Nat.reduceAdd, Nat.reduceEqDiff, Nat.reduceMul, Nat.reduceLT, Nat.reduceLeDiff, Nat.reducePow, Int.reduceToNat, reduceCtorEq, zgv, zgw, zfc, Bool.and_true, zfa, zgx, and_true, ne_eq, zfb, zff, zfd, zgu, Nat.le_refl, Option.isSome_some, Option.isSome_none, zgy, implies_true]
theorem qy0 (hl : l.length ≤ 1000000) (hk : qid l) (kx : x.key.length ≤ 9223372036854775807) (hs : l.Pairwise leE) (hd : qu6 (x :: l)) : qa3 (evL T) qfw [(.fsl ((l).map Evt.r) c), (.agg [(ii x.time), (.fsl ((x.key).map qby) false), (ii x.lp), (ii x.kind), (ii x.proc), (ii x.arg)])] = some (.fsl ((qga (x :: l)).map Evt.r) false) := by
 obtain ⟨k, hA, h⟩ := qx0 l c x hl hk kx
 rw [hA.eq hs hd] at h
 exact h
end
open Go.Ev
set_option maxRecDepth 10000
theorem qu6.sub {l m : List Evt} (h : qu6 m) (s : l.Sublist m) : qu6 l := List.Pairwise.sublist s h
theorem q05 {l m : List Evt} (hd : qu6 m) (hp : l.Perm m) : qga l = qga m := qp4 hd ((qe6 l).trans hp) (qgr l)
theorem q1n (l : List Evt) : (qga l).length = l.length := (qe6 l).length_eq
section
variable (l m : List Evt) (c d : Bool)
end
def qg2 (l : List Evt) (k : List Int) : List Evt × Bool := (l.eraseP (fun e => decide (e.key = k)), l.any (fun e => decide (e.key = k)))
section
variable (l : List Evt) (c : Bool) (k : List Int) (d : Bool)
theorem q8j {i : Nat} {x : Evt} (h : l[i]? = some x) (hx : x.key = k) (hb : ∀ (j : Nat) (z : Evt), j < i → l[j]? = some z → ¬ z.key = k) : qg2 l k = (l.take i ++ l.drop (i + 1), true) := by
 unfold qg2
 have hany : l.any (fun e => decide (e.key = k)) = true := List.any_eq_true.2 ⟨x, List.mem_of_getElem? h, by simpa using hx⟩
 rw [hany]
 obtain ⟨hi, hxe⟩ := List.getElem?_eq_some_iff.1 h
 have hsplit : l = l.take i ++ x :: l.drop (i + 1) := by
  rw [← hxe]; simp
 congr 1
 conv => lhs; rw [hsplit]
 rw [List.eraseP_append_right _ (fun z hz => by
  obtain ⟨j, hj⟩ := List.mem_iff_getElem?.1 hz
  rw [List.getElem?_take] at hj
  split at hj
  ·simpa using hb j z (by omega) hj
  ·cases hj)]
 rw [List.eraseP_cons_of_pos (by simpa using hx)]
theorem q3f (h : ∀ x ∈ l, ¬ x.key = k) : qg2 l k = (l, false) := by
 unfold qg2
 rw [List.eraseP_of_forall_not (fun x hx => by simpa using h x hx)]
 congr 1
 rw [List.any_eq_false]
 exact fun x hx => by simpa using h x hx
end
open Go.Ev
set_option maxRecDepth 10000
theorem qt9 {α : Type} [DecidableEq α] : ∀ {a b : List α}, a.length = b.length → ((a.zip b).all (fun z => decide (z.1 = z.2)) = true ↔ a = b)
 | [], [], _ => by simp
 | x :: a, y :: b, h => by
  rw [List.zip_cons_cons, List.all_cons, Bool.and_eq_true, decide_eq_true_eq, qt9 (a := a) (b := b) (by simpa using h), List.cons.injEq]
 | [], _ :: _, h => by simp at h
 | _ :: _, [], h => by simp at h
section
variable (a b : List Int) (c d : Bool)
theorem qze (hab : a.length = b.length) (hl : a.length ≤ 9223372036854775807) :
  ∃ y, itB (exec (evL T) itL none qdl) (qs [0, 1, 12, 13] true 0) ⟨[(0, (.fsl ((a).map qby) c)), (1, (.fsl ((b).map qby) d)), (12, (ii a.length)), (13, (ii 0))], []⟩ [] = some y ∧ ((a.zip b).all (fun z => decide (z.1 = z.2)) = true ∧ (y.1 = .exit 0 ∧ y.2.1.marks = [] ∧ y.2.2 = []) ∨
   (a.zip b).all (fun z => decide (z.1 = z.2)) = false ∧ ∃ x, (a.zip b).find? (fun z => !decide (z.1 = z.2)) = some x ∧ (y.1 = .ret ∧ y.2.1.marks = [] ∧ y.2.2 = [] ∧ Ev.look y.2.1.vars 4 = some (bb false))) := by
 have hzl : (a.zip b).length = a.length := by rw [List.length_zip, ← hab, Nat.min_self]
 refine qg9 (a.zip b) (fun i => ⟨[(0, (.fsl ((a).map qby) c)), (1, (.fsl ((b).map qby) d)), (12, (ii a.length)), (13, (ii i))], []⟩) [] (fun z => decide (z.1 = z.2)) _ (fun _ y => _) ?_ ?_ ?_
 ·intro i x hi hx hp
  rw [hzl] at hi
  have hi' : (i : Int) < (a.length : Int) := by omega
  have hw : IntKind.i64.wrap ((i : Int) + 1) = ((i + 1 : Nat) : Int) := by rw [qas (by omega) (by omega)]; simp
  obtain ⟨hxa, hxb⟩ := List.getElem?_zip_eq_some.1 hx
  have hp' := of_decide_eq_true hp
  simp only [qdl, zgs, zgr, zgq, zgt, hxa, hxb, hi', hw, hp', qw, qby, Ev.exec, qb, qe, qc, qai, Ev.Opnd.ev, Ev.Env.get, Ev.Env.set, Ev.look, qf, qv, qao, qbe, ql, qs, Ev.keep, qal, qaf, qg, qba, qm, ↓qn, Ev.it1, ↓reduceIte, zga, zgb, zfe, zgh, Nat.reduceEqDiff, reduceCtorEq, zgv, zgw, zfc, zfa, zgx, ne_eq, not_true_eq_false, zfd, zgy]
 ·intro i x hi hx hp
  rw [hzl] at hi
  have hi' : (i : Int) < (a.length : Int) := by omega
  obtain ⟨hxa, hxb⟩ := List.getElem?_zip_eq_some.1 hx
  have hp' : ¬ x.1 = x.2 := of_decide_eq_false hp
  simp only [qdl, zgs, zgr, zgq, zgt, hxa, hxb, hi', hp', qby, Ev.exec, qb, qe, qc, qai, Ev.Opnd.ev, Ev.Env.get, Ev.Env.set, Ev.look, qf, qv, qbe, ql, ↓qn, Ev.it1, ↓reduceIte, zga, zgb, zgh, Nat.reduceEqDiff, reduceCtorEq, zgv, zfa, ne_eq, zfb, zfd, zgy]
  exact ⟨_, rfl, rfl, rfl, rfl, rfl⟩
 ·rw [hzl]
  simp only [qdl, Int.lt_irrefl, Ev.exec, qb, qe, qc, qai, Ev.Opnd.ev, Ev.Env.get, Ev.Env.set, Ev.look, ql, ↓qn, Ev.it1, ↓reduceIte, Nat.reduceEqDiff, reduceCtorEq, zgw, zfa, zgy]
  exact ⟨_, rfl, rfl, rfl, rfl⟩
theorem qp2 (hl : a.length ≤ 9223372036854775807) (hl2 : b.length ≤ 9223372036854775807) : qa3 (evL T) qcj [(.fsl ((a).map qby) c), (.fsl ((b).map qby) d)] = some (bb (decide (a = b))) := by
 rw [qa3, qad qnv qmt]
 by_cases hab : a.length = b.length
 ·have hab' : (a.length : Int) = (b.length : Int) := by omega
  obtain ⟨⟨y, e, σ⟩, k1, k2⟩ := qze a b c d hab hl
  simp only at k2
  rcases k2 with ⟨k3, rfl, k4, rfl⟩ | ⟨k3, x, _, rfl, k4, rfl, k5⟩
  ·have : a = b := (qt9 hab).1 k3
   rw [hab'] at k1
   simp only [qdj, this, qw, qj, Ev.exec, qb, qe, qc, qai, Ev.Opnd.ev, Ev.Env.get, Ev.Env.set, Ev.look, qk, qbe, qi, qq, qaj, qag, qs, Ev.keep, qal, qaf, qg, qba, qm, zgi, ↓qn, ↓qa4, ↓reduceIte, zga, zgb, zgo, zfe, Nat.reduceAdd, Nat.reduceEqDiff, reduceCtorEq, zgv, zgw, zfc, zfa, zgx, and_true, ne_eq, not_true_eq_false, zfd, zgy]
   subst this
   simp only [k1, k4, Ev.look, Ev.kill, qba, qx, ↓reduceIte, zgy]
  ·have : ¬ a = b := fun h => by rw [(qt9 hab).2 h] at k3; cases k3
   simp only [this]
   rw [hab'] at k1
   simp only [qdj, hab', k1, k4, k5, qw, qj, Ev.exec, qb, qe, qc, qai, Ev.Opnd.ev, Ev.Env.get, Ev.Env.set, Ev.look, qk, qbe, qi, qq, qaj, Ev.kill, qag, qs, Ev.keep, qal, qaf, qg, qba, qm, qx, zgi, ↓qn, ↓qa4, ↓reduceIte, zga, zgb, zfe, Nat.reduceAdd, Nat.reduceEqDiff, reduceCtorEq, zgw, zfc, zfa, zgx, ne_eq, not_true_eq_false, zfd, zgy]
 ·have hab' : ¬ (a.length : Int) = (b.length : Int) := by omega
  have : ¬ a = b := fun h => hab (by rw [h])
  simp only [qdj, hab', this, qj, Ev.exec, qb, qe, qc, qai, Ev.Opnd.ev, Ev.Env.get, Ev.Env.set, Ev.look, qk, qbe, qi, qq, qaj, Ev.kill, qag, qg, qba, qx, zgi, ↓qn, ↓reduceIte, zga, zgb, zfe, Nat.reduceAdd, Nat.reduceEqDiff, reduceCtorEq, zgv, zgw, zgx, ne_eq, zfb, zfd, zgy]
end
open Go.Ev
mutual
theorem qzz {n m : Nat} (h : n ≤ m) : ∀ (a : AV), a.lo n = true → a.lo m = true
 | .v _, _ => by simp only [AV.lo]
 | .agg cs, k => by simp only [AV.lo] at k ⊢; exact qo2 h cs k
 | .tup cs, k => by simp only [AV.lo] at k ⊢; exact qo2 h cs k
 | .fsl es _, k => by simp only [AV.lo] at k ⊢; exact qxp h es k
 | .fptr cs, k => by simp only [AV.lo] at k ⊢; exact qo2 h cs k
 | .sl o _ _ _ _, k => by simp only [AV.lo, decide_eq_true_eq] at k ⊢; omega
 | .ptr o _ _ _, k => by simp only [AV.lo, decide_eq_true_eq] at k ⊢; omega
 | .fn _ a b, k => by simp only [AV.lo, Bool.and_eq_true] at k ⊢; exact ⟨qo2 h a k.1, qo2 h b k.2⟩
 | .yld o, k => by simp only [AV.lo, decide_eq_true_eq] at k ⊢; omega
 | .mp o, k => by simp only [AV.lo, decide_eq_true_eq] at k ⊢; omega
theorem qo2 {n m : Nat} (h : n ≤ m) : ∀ (l : List AV), los n l = true → los m l = true
 | [], _ => by simp only [los]
 | a :: l, k => by simp only [los, Bool.and_eq_true] at k ⊢; exact ⟨qzz h a k.1, qo2 h l k.2⟩
theorem qxp {n m : Nat} (h : n ≤ m) : ∀ (es : List (List AV)), qiu n es = true → qiu m es = true
 | [], _ => by simp only [qiu]
 | a :: l, k => by simp only [qiu, Bool.and_eq_true] at k ⊢; exact ⟨qo2 h a k.1, qxp h l k.2⟩
end
theorem qwm {n m : Nat} (h : n ≤ m) : ∀ (l : List (Nat × AV)), qal n l = true → qal m l = true
 | [], _ => by simp only [qal]
 | (_, a) :: r, k => by simp only [qal, Bool.and_eq_true] at k ⊢; exact ⟨qzz h a k.1, qwm h r k.2⟩
theorem q3k {n m : Nat} (h : n ≤ m) (o : SObj) (k : o.lo n = true) : o.lo m = true := by
 cases o <;> simp only [SObj.lo] at k ⊢
 ·exact qxp h _ k
 ·exact qwm h _ k
open Go.Ev
set_option maxRecDepth 10000
def qe8 : List (Int × AV) := [(1, .fn (.func qb3) [] []), (2, .fn (.func qb4) [] []), (3, .fn (.func qbz) [] []), (4, .fn (.func qbs) [] []), (5, .fn (.func qbx) [] []), (6, .fn (.func qb5) [] []), (7, .fn (.func qb2) [] []), (8, .fn (.func qb9) [] [])]
section
variable (a0 a1 a2 : Int) (am : Nat) (x : Ex) (gp gc gg : Nat)
theorem qqo (i : Nat) (hi : x.ev.proc = i) (hp : i < x.procs.length) :
  (evL T).call qap [.ptr 5 0 0 0] [.row 4 [[(ii a0), (ii a1), .sl 2 0 0 am false, (ii a2)]] 0, .row 4 [[(ii 0), (ii 0), .fsl [] false, (ii 0)]] 0, .row 4 ((x.procs).map Pr.r) gp, .row 6 ((x.out).map Evt.r) gc, .row 1 ((x.gone).map qep) gg, .row 14 [[(ii x.r0), (ii x.r1), .sl 2 gp 0 x.procs.length false, (ii x.sum), (ii x.ev.time), (.fsl ((x.ev.key).map qby) false), (ii x.ev.lp), (ii x.ev.kind), (ii x.ev.proc), (ii x.ev.arg), .sl 3 gc 0 x.out.length false, (ii x.n), .sl 4 gg 0 x.gone.length false, (bb x.over)]] 0, .mp .i64 qe8] = some (.ptr 2 gp i 0, [.row 4 [[(ii a0), (ii a1), .sl 2 0 0 am false, (ii a2)]] 0, .row 4 [[(ii 0), (ii 0), .fsl [] false, (ii 0)]] 0, .row 4 ((x.procs).map Pr.r) gp, .row 6 ((x.out).map Evt.r) gc, .row 1 ((x.gone).map qep) gg, .row 14 [[(ii x.r0), (ii x.r1), .sl 2 gp 0 x.procs.length false, (ii x.sum), (ii x.ev.time), (.fsl ((x.ev.key).map qby) false), (ii x.ev.lp), (ii x.ev.kind), (ii x.ev.proc), (ii x.ev.arg), .sl 3 gc 0 x.out.length false, (ii x.n), .sl 4 gg 0 x.gone.length false, (bb x.over)]] 0, .mp .i64 qe8]) := by
 rw [qad qjn qi4]
 simp only [qd5, hi, hp, zgs, zgr, qw, qae, qaa, qbk, Nat.reduceLT, qj, Ev.exec, qb, qe, qc, qai, Ev.Opnd.ev, Ev.Env.get, Ev.Env.set, Ev.look, qk, qf, qv, qi, qq, qaj, Ev.kill, qag, qg, Ev.SObj.lo, qba, qm, qdq, qg6, qh, qd, qu, qak, ↓qn, ↓reduceIte, zga, zgb, zgd, zge, zgc, zfe, zgf, zgg, zgh, Nat.reduceAdd, Nat.reduceEqDiff, Nat.reduceLT, reduceCtorEq, zgv, zfc, zfa, zgx, zfd, Nat.add_zero, zgy]
theorem q8b (k p a : Int) : (evL T).call qb8 [.ptr 5 0 0 0, (ii k), (ii p), (ii a)] [.row 4 [[(ii a0), (ii a1), .sl 2 0 0 am false, (ii a2)]] 0, .row 4 [[(ii 0), (ii 0), .fsl [] false, (ii 0)]] 0, .row 4 ((x.procs).map Pr.r) gp, .row 6 ((x.out).map Evt.r) gc, .row 1 ((x.gone).map qep) gg, .row 14 [[(ii x.r0), (ii x.r1), .sl 2 gp 0 x.procs.length false, (ii x.sum), (ii x.ev.time), (.fsl ((x.ev.key).map qby) false), (ii x.ev.lp), (ii x.ev.kind), (ii x.ev.proc), (ii x.ev.arg), .sl 3 gc 0 x.out.length false, (ii x.n), .sl 4 gg 0 x.gone.length false, (bb x.over)]] 0, .mp .i64 qe8] = some (.agg [(ii 0), .fsl [] false, (ii x.ev.lp), (ii k), (ii p), (ii a)], [.row 4 [[(ii a0), (ii a1), .sl 2 0 0 am false, (ii a2)]] 0, .row 4 [[(ii 0), (ii 0), .fsl [] false, (ii 0)]] 0, .row 4 ((x.procs).map Pr.r) gp, .row 6 ((x.out).map Evt.r) gc, .row 1 ((x.gone).map qep) gg, .row 14 [[(ii x.r0), (ii x.r1), .sl 2 gp 0 x.procs.length false, (ii x.sum), (ii x.ev.time), (.fsl ((x.ev.key).map qby) false), (ii x.ev.lp), (ii x.ev.kind), (ii x.ev.proc), (ii x.ev.arg), .sl 3 gc 0 x.out.length false, (ii x.n), .sl 4 gg 0 x.gone.length false, (bb x.over)]] 0, .mp .i64 qe8]) := by
 rw [qad qnq qmx]
 simp only [qfq, qw, qae, qaa, qbk, Nat.reduceLT, Nat.reduceLeDiff, qj, Ev.exec, qb, qe, qc, qai, Ev.Opnd.ev, Ev.Env.get, Ev.Env.set, Ev.look, qk, qf, qv, qfz, Ev.AV.cells, Ev.AV.uc, qo, Ev.AV.plain, qi, qq, qaj, Ev.kill, qag, qg, Ev.SObj.lo, qba, qa2, qm, qdq, qh, qd, qu, qak, ↓qn, ↓reduceIte, zga, zgb, zgd, zge, zgc, zgo, zfe, zgf, zgg, List.drop_nil, zgm, zgl, zgn, zgj, zgk, zgh, Nat.reduceAdd, Nat.reduceEqDiff, Nat.reduceLT, Nat.reduceLeDiff, reduceCtorEq, zgv, zfc, zfa, zgx, ne_eq, zfb, zff, zfd, Nat.le_refl, zgy]
def qlh (x : Ex) (d : Int) (gc : Nat) : Nat := if w64 (x.ev.time + d) > 1152921504606846976 then gc else gc + 1
theorem qsq (h : x.Small) (d : Int) (t0 lp k p a : Int) (ks : List Int) :
  (evL T).call qbj [.ptr 5 0 0 0, (ii d), .agg [(ii t0), (.fsl ((ks).map qby) false), (ii lp), (ii k), (ii p), (ii a)]] [.row 4 [[(ii a0), (ii a1), .sl 2 0 0 am false, (ii a2)]] 0, .row 4 [[(ii 0), (ii 0), .fsl [] false, (ii 0)]] 0, .row 4 ((x.procs).map Pr.r) gp, .row 6 ((x.out).map Evt.r) gc, .row 1 ((x.gone).map qep) gg, .row 14 [[(ii x.r0), (ii x.r1), .sl 2 gp 0 x.procs.length false, (ii x.sum), (ii x.ev.time), (.fsl ((x.ev.key).map qby) false), (ii x.ev.lp), (ii x.ev.kind), (ii x.ev.proc), (ii x.ev.arg), .sl 3 gc 0 x.out.length false, (ii x.n), .sl 4 gg 0 x.gone.length false, (bb x.over)]] 0, .mp .i64 qe8] = some ((.fsl ((x.kid).map qby) false), [.row 4 [[(ii a0), (ii a1), .sl 2 0 0 am false, (ii a2)]] 0, .row 4 [[(ii 0), (ii 0), .fsl [] false, (ii 0)]] 0, .row 4 (((x.create d ⟨t0, ks, lp, k, p, a⟩).procs).map Pr.r) gp, .row 6 (((x.create d ⟨t0, ks, lp, k, p, a⟩).out).map Evt.r) (qlh x d gc), .row 1 (((x.create d ⟨t0, ks, lp, k, p, a⟩).gone).map qep) gg, .row 14 [[(ii ((x.create d ⟨t0, ks, lp, k, p, a⟩).r0)), (ii ((x.create d ⟨t0, ks, lp, k, p, a⟩).r1)), .sl 2 gp 0 (x.create d ⟨t0, ks, lp, k, p, a⟩).procs.length false, (ii ((x.create d ⟨t0, ks, lp, k, p, a⟩).sum)), (ii ((x.create d ⟨t0, ks, lp, k, p, a⟩).ev.time)), (.fsl (((x.create d ⟨t0, ks, lp, k, p, a⟩).ev.key).map qby) false), (ii ((x.create d ⟨t0, ks, lp, k, p, a⟩).ev.lp)), (ii ((x.create d ⟨t0, ks, lp, k, p, a⟩).ev.kind)), (ii ((x.create d ⟨t0, ks, lp, k, p, a⟩).ev.proc)), (ii ((x.create d ⟨t0, ks, lp, k, p, a⟩).ev.arg)), .sl 3 (qlh x d gc) 0 (x.create d ⟨t0, ks, lp, k, p, a⟩).out.length false, (ii ((x.create d ⟨t0, ks, lp, k, p, a⟩).n)), .sl 4 gg 0 (x.create d ⟨t0, ks, lp, k, p, a⟩).gone.length false, (bb ((x.create d ⟨t0, ks, lp, k, p, a⟩).over))]] 0, .mp .i64 qe8]) := by
 have hk := qy5 x.ev.key false x.n h.key
 have hs : (x.out.length + 1) * 64 ≤ 140737488355328 := by have := h.out; omega
 have htl : List.take x.out.length (x.out.map Evt.r) = x.out.map Evt.r := List.take_of_length_le (by simp)
 have hlo : los 7 ([(ii x.r0), (ii x.r1), .sl 2 gp 0 x.procs.length false, (ii x.sum), (ii x.ev.time), (.fsl ((x.ev.key).map qby) false), (ii x.ev.lp), (ii x.ev.kind), (ii x.ev.proc), (ii x.ev.arg), .sl 3 gc 0 x.out.length false, (ii x.n), .sl 4 gg 0 x.gone.length false, (bb x.over)]) = true := by simp only [qw, Nat.reduceLT, qba, qm, qdq, qh, qd, Nat.reduceLT, zgv, zfc, zgy]
 rw [qad qlw qld]
 unfold Ex.create qlh Ex.kid
 by_cases ho : w64 (x.ev.time + d) > 1152921504606846976
 ·have ho' : IntKind.i64.wrap (x.ev.time + d) > 1152921504606846976 := ho
  simp only [ho, if_true]
  simp only [qdk, hk, ho', qw, qae, qaa, qbk, Nat.reduceLT, Nat.reduceLeDiff, qj, Ev.exec, qb, qe, qc, qav, qai, Ev.evs, Ev.Opnd.ev, Ev.Env.get, Ev.Env.set, Ev.look, qk, qf, qv, Ev.AV.cells, Ev.AV.uc, qo, Ev.AV.plain, qao, qbh, qi, qq, qaj, Ev.kill, qag, qg, Ev.SObj.lo, qba, qm, qdq, qh, qd, qu, qak, ↓qn, ↓reduceIte, zga, zgb, zgd, zge, zgc, zgo, zgf, zgg, List.drop_nil, zgm, zgl, zgn, zgj, zgk, zgh, Nat.reduceAdd, Nat.reduceEqDiff, Nat.reduceLT, Nat.reduceLeDiff, reduceCtorEq, zgv, zfc, zfa, zgx, ne_eq, zfb, zff, zfd, Nat.add_zero, Nat.le_refl, zgy]
  done
 ·have ho' : ¬ IntKind.i64.wrap (x.ev.time + d) > 1152921504606846976 := ho
  simp only [ho, if_false]
  have hr : ∀ e : Evt, (x.out ++ [e]).map Evt.r = x.out.map Evt.r ++ [e.r] := fun e => by rw [List.map_append]; rfl
  simp only [qdk, hk, ho', hs, htl, hr, qjj, Evt.r, qw, qae, qaa, qbk, Nat.reduceLT, Nat.reduceLeDiff, qj, Ev.exec, qb, qe, qc, qav, qai, qm5, Ev.evs, Ev.Opnd.ev, Ev.Env.get, Ev.Env.set, Ev.look, qk, qf, qbq, qv, qfk, Ev.AV.cells, Ev.AV.uc, qo, Ev.AV.plain, qao, qbh, qi, qq, qaj, Ev.kill, qag, qg, Ev.SObj.lo, qba, qm, qdq, qh, qd, qu, qak, qbc, qbg, List.replicate_one, zgi, ↓qn, ↓reduceIte, zga, zgb, zgp, zgd, zge, zgc, zgo, zfe, zgf, zgg, zgm, zgl, zgj, zgk, zgh, Nat.reduceAdd, Nat.reduceEqDiff, Nat.reduceMul, Nat.reduceLT, Nat.reduceLeDiff, Nat.reducePow, reduceCtorEq, zgv, zgw, zfc, zfa, zgx, ne_eq, zfb, zff, zfd, Nat.add_zero, zgu, Nat.le_refl, zgy]
  done
end
end Go.Proofs.Ytbhhifdhlafklaa.K
