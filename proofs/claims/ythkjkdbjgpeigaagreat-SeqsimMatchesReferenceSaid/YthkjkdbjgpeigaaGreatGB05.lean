/- For every input the statement of this claim returns true: texts of its proof, joined (part 6). -/
import Derived.Test.YthkjkdbjgpeigaaGreatProg
import Derived.KernelRfl
import Derived.Test.YthkjkdbjgpeigaaGreatEB3
import Derived.Test.YthkjkdbjgpeigaaGreatSKB
set_option linter.unusedSectionVars false
set_option linter.unusedSimpArgs false
set_option linter.unusedVariables false
namespace Go.Proofs.YthkjkdbjgpeigaaGreat.K
open Go.Ev
set_option maxRecDepth 100000
theorem qme : qfz Tryz.prog { frz := [2] } qdo = some qct := by kernel_rfl
theorem q3w : qfz Tryz.prog {  } qlj = some qtc := by kernel_rfl
theorem q2u : qfz Tryz.prog { frz := [1], loops := [([1, 3], true), ([1, 4], true)] } qko = some qhs := by kernel_rfl
theorem q2l : qfz Tryz.prog {  } qgy = some qnl := by kernel_rfl
theorem q4z : qfz Tryz.prog { frz := [2], mA := [15], mI := [18, 21] } qf9 = some qj3 := by kernel_rfl
theorem q5m : qfz Tryz.prog { frz := [2] } qk9 = some qk8 := by kernel_rfl
theorem qve : qfz Tryz.prog { loops := [([0, 1, 5], true)] } qga = some qju := by kernel_rfl
theorem qyo : qfz Tryz.prog { loops := [([0, 1, 5], true)] } qis = some qim := by kernel_rfl
theorem qxm : qfz Tryz.prog { frz := [2], mA := [10], mI := [13] } qfr = some qje := by kernel_rfl
theorem qy2 : qfz Tryz.prog { frz := [2] } qg7 = some qj5 := by kernel_rfl
theorem qu3 : qfz Tryz.prog { loops := [([0, 1, 5], true)] } qfn = some qgc := by kernel_rfl
theorem qw1 : qfz Tryz.prog { mA := [4] } qgl = some qjc := by kernel_rfl
theorem qyv : qfz Tryz.prog { loops := [([0, 3, 4], true)] } qiv = some ql0 := by kernel_rfl
theorem q4x : qfz Tryz.prog {  } qj9 = some qsz := by kernel_rfl
theorem q09 : qfz Tryz.prog { frz := [1] } qig = some qmm := by kernel_rfl
theorem q0h : qfz Tryz.prog { frz := [1], mA := [9], ldF := [10], topZ := [7], holes := [1], fillC := [(9, 0)], ownS := [(7, 6)] } qib = some qml := by kernel_rfl
theorem qru : qfz Tryz.prog { mI := [12, 15], loops := [([0, 1], true)] } qd7 = some qhd := by kernel_rfl
theorem qqb : qfz Tryz.prog {  } qdm = some qe8 := by kernel_rfl
theorem q2i : qfz Tryz.prog { frz := [1], loops := [([1, 3], true), ([1, 5], true), ([1, 5, 6], true)] } qi6 = some qh7 := by kernel_rfl
theorem qwz : qfz Tryz.prog { frz := [2], loops := [([1, 2, 4, 5], true)] } qgn = some qk3 := by kernel_rfl
theorem q0u : qfz Tryz.prog { frz := [2, 3], loops := [([2, 3, 5], true)] } qjp = some qf4 := by kernel_rfl
theorem qwa : qfz Tryz.prog { frz := [2, 3] } qg1 = some qdy := by kernel_rfl
theorem qi5 : qfz Tryz.prog { mA := [24], bad := true, loops := [([0, 3, 9, 10, 11], true), ([6, 25, 26, 27], false)] } qa2 = some qcp := by kernel_rfl
theorem qry : qfz Tryz.prog { frz := [1], loops := [([3, 32, 33, 34], true)] } qd5 = some qd6 := by kernel_rfl
theorem qob : qfz Tryz.prog { frz := [1] } qcz = some qft := by kernel_rfl
theorem qo9 : qfz Tryz.prog { frz := [1] } qc8 = some qf3 := by kernel_rfl
theorem qqv : qfz Tryz.prog { frz := [1] } qdq = some qgu := by kernel_rfl
theorem qmt : qfz Tryz.prog { loops := [([1, 8, 9, 10], true)] } qc2 = some qdu := by kernel_rfl
theorem qwv : qfz Tryz.prog {  } qe2 = some qk6 := by kernel_rfl
theorem qye : qfz Tryz.prog { frz := [1], topZ := [11], loops := [([3, 13, 14, 15], false), ([3, 4, 13, 14, 15, 20, 21, 22], false)] } qio = some qlz := by kernel_rfl
theorem qww : qfz Tryz.prog { frz := [1], frzv := [37], own := [3], loops := [([3, 9, 10, 11], true), ([3, 4, 9, 10, 11, 16, 17, 18], true)] } qhj = some qk1 := by kernel_rfl
theorem qph : qfz Tryz.prog { mA := [92], mI := [94], mF := [95], holes := [2], fillB := [(5, 2)], appB := [(38, 0), (38, 2)], ldB := [(25, 0), (27, 2)] } qd0 = some qap := by kernel_rfl
theorem q24 : qfz Tryz.prog { frz := [1], loops := [([1, 3], true)] } qkf = some qe0 := by kernel_rfl
theorem q2k : qfz Tryz.prog { loops := [([0, 1, 2, 3, 9], true), ([0, 2, 3, 10], true), ([0, 3, 11], true)] } qke = some qht := by kernel_rfl
theorem q2m : qfz Tryz.prog { frz := [1], topZ := [9], loops := [([1, 2, 3, 4], false)] } qkg = some qno := by kernel_rfl
theorem q0r : qfz Tryz.prog { frz := [2], appN := [21, 28, 57, 69], frzv := [36, 38, 63, 73] } qjo = some qkx := by kernel_rfl
theorem qyw : qfz Tryz.prog {  } qfp = some qj7 := by kernel_rfl
theorem qjs : qfz Tryz.prog { bad := true } qbi = some qca := by kernel_rfl
theorem qyu : qfz Tryz.prog {  } qex = some qlx := by kernel_rfl
theorem qxc : qfz Tryz.prog {  } qfq = some qk7 := by kernel_rfl
theorem qnr : qfz Tryz.prog {  } qcr = some qfh := by kernel_rfl
theorem qrk : qfz Tryz.prog { loops := [([1, 8, 9, 10], true)] } qes = some qfu := by kernel_rfl
theorem qpk : qfz Tryz.prog {  } qc9 = some qf0 := by kernel_rfl
theorem qpg : qfz Tryz.prog { loops := [([1, 8, 9, 10], true)] } qd1 = some qev := by kernel_rfl
theorem q2y : qfz Tryz.prog { mA := [6] } qi2 = some qnu := by kernel_rfl
theorem quk : qfz Tryz.prog { mA := [5], mI := [7] } qen = some qjt := by kernel_rfl
theorem qzs : qfz Tryz.prog { frz := [3, 5], mA := [52], mI := [59, 82, 88], ldF := [80], ldx := [(96, 6), (100, 6), (104, 6)], ownB := [(56, (10, 6)), (56, (12, 1))] } qez = some qbz := by kernel_rfl
theorem qnn : qfz Tryz.prog { frz := [2] } qa0 = some qfi := by kernel_rfl
theorem qh8 : qfz Tryz.prog { mI := [10], loops := [([0, 1, 5, 6], true)] } qbf = some qbr := by kernel_rfl
theorem q2h : qfz Tryz.prog { loops := [([0, 3], true)] } qkp = some qi7 := by kernel_rfl
theorem qxy : qfz Tryz.prog { frz := [3] } qho = some qeg := by kernel_rfl
theorem qzo : qfz Tryz.prog { frz := [1], own := [3], topZ := [5], loops := [([1, 3, 4], false), ([1, 3, 4, 5, 6], false)] } qjq = some qmq := by kernel_rfl
theorem qyj : qfz Tryz.prog { frz := [1], frzv := [41], own := [3], loops := [([1, 3, 4], true), ([1, 3, 4, 5], true)] } qin = some qlw := by kernel_rfl
theorem q33 : qfz Tryz.prog { frz := [3, 4, 5], ldx := [(96, 6), (98, 6), (100, 6)] } qgz = some qcd := by kernel_rfl
theorem qy7 : qfz Tryz.prog { own := [5], loops := [([0, 1, 5, 6], true), ([0, 1, 5, 6, 7, 8], true)] } qip = some ql3 := by kernel_rfl
theorem qut : qfz Tryz.prog { frzv := [49], own := [6], loops := [([0, 3, 4], true), ([0, 3, 4, 5], true)] } qeq = some qjw := by kernel_rfl
theorem qt2 : qfz Tryz.prog { loops := [([0, 1, 5], true)] } qe3 = some qha := by kernel_rfl
theorem qy5 : qfz Tryz.prog { loops := [([0, 33, 34, 35], true), ([0, 11, 33, 34, 35, 39, 40, 41], true)] } qil = some qit := by kernel_rfl
theorem qnt : qfz Tryz.prog { frz := [2] } qcq = some qfm := by kernel_rfl
theorem qqk : qfz Tryz.prog { loops := [([1, 8, 9, 10], true)] } qec = some qe6 := by kernel_rfl
theorem qg6 : qfz Tryz.prog { mI := [8] } qa7 = some qb0 := by kernel_rfl
theorem qsf : qfz Tryz.prog { frz := [2, 3] } qu = some qhy := by kernel_rfl
theorem qqa : qfz Tryz.prog {  } qa6 = some qe5 := by kernel_rfl
theorem qrf : qfz Tryz.prog { loops := [([0, 1, 12, 13], true)] } qdr = some qei := by kernel_rfl
theorem qm3 : qfz Tryz.prog { mA := [6], mI := [10, 19, 44, 49], loops := [([0, 1, 4, 7], true)] } qdg = some qeb := by kernel_rfl
theorem qmw : qfz Tryz.prog {  } qbl = some qe1 := by kernel_rfl
theorem qlu : qfz Tryz.prog {  } qcj = some qed := by kernel_rfl
theorem qij : qfz Tryz.prog { loops := [([0, 1, 7, 8], true)] } qbj = some qbv := by kernel_rfl
theorem q2w : qfz Tryz.prog {  } qgv = some qnz := by kernel_rfl
theorem q2r : qfz Tryz.prog {  } qhx = some qnv := by kernel_rfl
theorem q55 : qfz Tryz.prog { frz := [5], appN := [12], frzv := [17] } qfj = some qrx := by kernel_rfl
theorem qxs : qfz Tryz.prog { frz := [3], loops := [([2, 3, 4, 6, 7], true)] } qhq = some qhk := by kernel_rfl
theorem qsj : qfz Tryz.prog { frz := [2, 3] } qfa = some qf7 := by kernel_rfl
theorem qyp : qfz Tryz.prog {  } qf8 = some qir := by kernel_rfl
theorem qxx : qfz Tryz.prog {  } qbp = some qk2 := by kernel_rfl
theorem qrr : qfz Tryz.prog { frz := [2, 3] } qa8 = some qhf := by kernel_rfl
theorem qod : qfz Tryz.prog { frz := [2, 3], ldF := [41, 60, 79] } qau = some qbs := by kernel_rfl
theorem qqh : qfz Tryz.prog { frz := [2, 3] } qa1 = some qgk := by kernel_rfl
theorem qrb : qfz Tryz.prog { frz := [2, 3] } qa4 = some qgr := by kernel_rfl
theorem qkv : qfz Tryz.prog { mI := [18, 27, 43, 60], loops := [([0, 1, 2, 6, 7, 8], true), ([0, 1, 2, 6], true), ([0, 1, 2, 6, 7, 8], true)] } qb7 = some qdt := by kernel_rfl
theorem qvg : qfz Tryz.prog {  } qfx = some qg3 := by kernel_rfl
theorem qt1 : qfz Tryz.prog {  } qfv = some qja := by kernel_rfl
theorem q2s : qfz Tryz.prog {  } qkc = some qng := by kernel_rfl
theorem qrz : qfz Tryz.prog {  } qer = some qhe := by kernel_rfl
theorem qmr : qfz Tryz.prog { loops := [([0, 1, 7, 8], true)] } qc3 = some qdv := by kernel_rfl
theorem q42 : qfz Tryz.prog { frz := [5], appN := [134], frzv := [141] } qd3 = some qd4 := by kernel_rfl
theorem qi3 : qfz Tryz.prog { loops := [([0, 1, 2, 3, 8], true), ([0, 1, 2, 3, 8, 9], true)] } qbd = some qco := by kernel_rfl
theorem qkn : qfz Tryz.prog { mI := [191, 205, 219], loops := [([0, 1, 4, 10, 11], true), ([0, 10, 13], true), ([0, 2, 4, 14, 15], true), ([0, 14, 17], true), ([0, 1, 2, 3, 4, 18, 19, 20, 21, 22], true)] } qas = some qg := by kernel_rfl
theorem qy1 : qfz Tryz.prog {  } qhb = some qlr := by kernel_rfl
theorem qo7 : qfz Tryz.prog { loops := [([0, 1, 9, 10, 11], true)] } qdz = some qdc := by kernel_rfl
theorem q3y : qfz Tryz.prog { loops := [([3, 6, 7, 8], true)] } qlk = some qm2 := by kernel_rfl
theorem qqf : qfz Tryz.prog { frz := [3], mI := [14, 15], ldF := [7] } qcw = some qgb := by kernel_rfl
theorem qqi : qfz Tryz.prog { frz := [3], mI := [13] } qcu = some qge := by kernel_rfl
theorem qpi : qfz Tryz.prog { frz := [3], mI := [7, 21, 22], mR := [9], ldF := [12] } qcl = some qf2 := by kernel_rfl
theorem qp8 : qfz Tryz.prog { frz := [3], mI := [7] } qch = some qfb := by kernel_rfl
theorem qpo : qfz Tryz.prog { frz := [3], mI := [33, 34], ldF := [30] } qck = some qew := by kernel_rfl
theorem qq2 : qfz Tryz.prog { frz := [3] } qc4 = some qfl := by kernel_rfl
theorem qp3 : qfz Tryz.prog { frz := [3], mI := [17], ldF := [19] } qcv = some qdl := by kernel_rfl
theorem qre : qfz Tryz.prog { frz := [3] } qc7 = some qgs := by kernel_rfl
theorem q1y : qfz Tryz.prog { appN := [36], frzv := [41], ldx := [(32, 6), (45, 6)] } qf1 = some qkw := by kernel_rfl
theorem qvp : qfz Tryz.prog { appN := [8] } qfw = some qkh := by kernel_rfl
theorem qky : qfz Tryz.prog { mI := [31, 46, 57], loops := [([0, 2, 4, 10, 11], true)] } qbk = some qds := by kernel_rfl
theorem qqr : qfz Tryz.prog {  } qc6 = some qgw := by kernel_rfl
theorem qot : qfz Tryz.prog {  } qb3 = some qek := by kernel_rfl
theorem q2e : qfz Tryz.prog { appN := [8] } qkb = some qnm := by kernel_rfl
theorem qj1 : qfz Tryz.prog { loops := [([0, 1, 2, 3, 10], true)] } qba = some qde := by kernel_rfl
theorem qqp : qxq Tryz.prog qfo = some (1, 8) := by kernel_rfl
theorem qi9 : qxq Tryz.prog qb4 = some (6, 64) := by kernel_rfl
theorem qle : qxq Tryz.prog qc5 = some (4, 48) := by kernel_rfl
def codeL : List (Nat × CFunc) := [(qdo, qct), (qlj, qtc), (qko, qhs), (qgy, qnl), (qf9, qj3), (qk9, qk8), (qga, qju), (qis, qim), (qfr, qje), (qg7, qj5), (qfn, qgc), (qgl, qjc), (qiv, ql0), (qj9, qsz), (qig, qmm), (qib, qml), (qd7, qhd), (qdm, qe8), (qi6, qh7), (qgn, qk3), (qjp, qf4), (qg1, qdy), (qa2, qcp), (qd5, qd6), (qcz, qft), (qc8, qf3), (qdq, qgu), (qc2, qdu), (qe2, qk6), (qio, qlz), (qhj, qk1), (qd0, qap), (qkf, qe0), (qke, qht), (qkg, qno), (qjo, qkx), (qfp, qj7), (qbi, qca), (qex, qlx), (qfq, qk7), (qcr, qfh), (qes, qfu), (qc9, qf0), (qd1, qev), (qi2, qnu), (qen, qjt), (qez, qbz), (qa0, qfi), (qbf, qbr), (qkp, qi7), (qho, qeg), (qjq, qmq), (qin, qlw), (qgz, qcd), (qip, ql3), (qeq, qjw), (qe3, qha), (qil, qit), (qcq, qfm), (qec, qe6), (qa7, qb0), (qu, qhy), (qa6, qe5), (qdr, qei), (qdg, qeb), (qbl, qe1), (qcj, qed), (qbj, qbv), (qgv, qnz), (qhx, qnv), (qfj, qrx), (qhq, qhk), (qfa, qf7), (qf8, qir), (qbp, qk2), (qa8, qhf), (qau, qbs), (qa1, qgk), (qa4, qgr), (qb7, qdt), (qfx, qg3), (qfv, qja), (qkc, qng), (qer, qhe), (qc3, qdv), (qd3, qd4), (qbd, qco), (qas, qg), (qhb, qlr), (qdz, qdc), (qlk, qm2), (qcw, qgb), (qcu, qge), (qcl, qf2), (qch, qfb), (qck, qew), (qc4, qfl), (qcv, qdl), (qc7, qgs), (qf1, qkw), (qfw, qkh), (qbk, qds), (qc6, qgw), (qb3, qek), (qkb, qnm), (qba, qde)]
def extL : List (Nat × (Nat × Nat)) := [(qfo, (1, 8)), (qb4, (6, 64)), (qc5, (4, 48))]
def q9a {α : Type} : List (Nat × α) → Nat → Option α
  | [], _ => none
  | (k, x) :: l, i => if k = i then some x else q9a l i
theorem q18 {α : Type} : ∀ {l : List (Nat × α)} {i : Nat} {x : α}, q9a l i = some x → (i, x) ∈ l
  | [], _, _, h => by simp [q9a] at h
  | (k, y) :: l, i, x, h => by
    simp only [q9a] at h
    split at h
    · rename_i hk; subst hk; cases h; simp
    · exact List.mem_cons_of_mem _ (q18 h)
def T : Tab := { code := q9a codeL, ext := fun k => (q9a extL k).map fun p => qvo p.1 p.2 }
theorem codeL_ok : ∀ x ∈ codeL, ∃ h, qfz Tryz.prog h x.1 = some x.2 := by
  intro x hx
  simp only [codeL, List.mem_cons, List.not_mem_nil, or_false] at hx
  rcases hx with rfl | rfl | rfl | rfl | rfl | rfl | rfl | rfl | rfl | rfl | rfl | rfl | rfl | rfl | rfl | rfl | rfl | rfl | rfl | rfl | rfl | rfl | rfl | rfl | rfl | rfl | rfl | rfl | rfl | rfl | rfl | rfl | rfl | rfl | rfl | rfl | rfl | rfl | rfl | rfl | rfl | rfl | rfl | rfl | rfl | rfl | rfl | rfl | rfl | rfl | rfl | rfl | rfl | rfl | rfl | rfl | rfl | rfl | rfl | rfl | rfl | rfl | rfl | rfl | rfl | rfl | rfl | rfl | rfl | rfl | rfl | rfl | rfl | rfl | rfl | rfl | rfl | rfl | rfl | rfl | rfl | rfl | rfl | rfl | rfl | rfl | rfl | rfl | rfl | rfl | rfl | rfl | rfl | rfl | rfl | rfl | rfl | rfl | rfl | rfl | rfl | rfl | rfl | rfl | rfl | rfl
  · exact ⟨_, qme⟩
  · exact ⟨_, q3w⟩
  · exact ⟨_, q2u⟩
  · exact ⟨_, q2l⟩
  · exact ⟨_, q4z⟩
  · exact ⟨_, q5m⟩
  · exact ⟨_, qve⟩
  · exact ⟨_, qyo⟩
  · exact ⟨_, qxm⟩
  · exact ⟨_, qy2⟩
  · exact ⟨_, qu3⟩
  · exact ⟨_, qw1⟩
  · exact ⟨_, qyv⟩
  · exact ⟨_, q4x⟩
  · exact ⟨_, q09⟩
  · exact ⟨_, q0h⟩
  · exact ⟨_, qru⟩
  · exact ⟨_, qqb⟩
  · exact ⟨_, q2i⟩
  · exact ⟨_, qwz⟩
  · exact ⟨_, q0u⟩
  · exact ⟨_, qwa⟩
  · exact ⟨_, qi5⟩
  · exact ⟨_, qry⟩
  · exact ⟨_, qob⟩
  · exact ⟨_, qo9⟩
  · exact ⟨_, qqv⟩
  · exact ⟨_, qmt⟩
  · exact ⟨_, qwv⟩
  · exact ⟨_, qye⟩
  · exact ⟨_, qww⟩
  · exact ⟨_, qph⟩
  · exact ⟨_, q24⟩
  · exact ⟨_, q2k⟩
  · exact ⟨_, q2m⟩
  · exact ⟨_, q0r⟩
  · exact ⟨_, qyw⟩
  · exact ⟨_, qjs⟩
  · exact ⟨_, qyu⟩
  · exact ⟨_, qxc⟩
  · exact ⟨_, qnr⟩
  · exact ⟨_, qrk⟩
  · exact ⟨_, qpk⟩
  · exact ⟨_, qpg⟩
  · exact ⟨_, q2y⟩
  · exact ⟨_, quk⟩
  · exact ⟨_, qzs⟩
  · exact ⟨_, qnn⟩
  · exact ⟨_, qh8⟩
  · exact ⟨_, q2h⟩
  · exact ⟨_, qxy⟩
  · exact ⟨_, qzo⟩
  · exact ⟨_, qyj⟩
  · exact ⟨_, q33⟩
  · exact ⟨_, qy7⟩
  · exact ⟨_, qut⟩
  · exact ⟨_, qt2⟩
  · exact ⟨_, qy5⟩
  · exact ⟨_, qnt⟩
  · exact ⟨_, qqk⟩
  · exact ⟨_, qg6⟩
  · exact ⟨_, qsf⟩
  · exact ⟨_, qqa⟩
  · exact ⟨_, qrf⟩
  · exact ⟨_, qm3⟩
  · exact ⟨_, qmw⟩
  · exact ⟨_, qlu⟩
  · exact ⟨_, qij⟩
  · exact ⟨_, q2w⟩
  · exact ⟨_, q2r⟩
  · exact ⟨_, q55⟩
  · exact ⟨_, qxs⟩
  · exact ⟨_, qsj⟩
  · exact ⟨_, qyp⟩
  · exact ⟨_, qxx⟩
  · exact ⟨_, qrr⟩
  · exact ⟨_, qod⟩
  · exact ⟨_, qqh⟩
  · exact ⟨_, qrb⟩
  · exact ⟨_, qkv⟩
  · exact ⟨_, qvg⟩
  · exact ⟨_, qt1⟩
  · exact ⟨_, q2s⟩
  · exact ⟨_, qrz⟩
  · exact ⟨_, qmr⟩
  · exact ⟨_, q42⟩
  · exact ⟨_, qi3⟩
  · exact ⟨_, qkn⟩
  · exact ⟨_, qy1⟩
  · exact ⟨_, qo7⟩
  · exact ⟨_, q3y⟩
  · exact ⟨_, qqf⟩
  · exact ⟨_, qqi⟩
  · exact ⟨_, qpi⟩
  · exact ⟨_, qp8⟩
  · exact ⟨_, qpo⟩
  · exact ⟨_, qq2⟩
  · exact ⟨_, qp3⟩
  · exact ⟨_, qre⟩
  · exact ⟨_, q1y⟩
  · exact ⟨_, qvp⟩
  · exact ⟨_, qky⟩
  · exact ⟨_, qqr⟩
  · exact ⟨_, qot⟩
  · exact ⟨_, q2e⟩
  · exact ⟨_, qj1⟩
theorem extL_ok : ∀ x ∈ extL, qxq Tryz.prog x.1 = some x.2 := by
  intro x hx
  simp only [extL, List.mem_cons, List.not_mem_nil, or_false] at hx
  rcases hx with rfl | rfl | rfl
  · exact qqp
  · exact qi9
  · exact qle
theorem mixed : Tryz.prog.follows .mixedOrders = true := by kernel_rfl
theorem T_ok : TabOk Tryz.prog T where
  code k f h := codeL_ok _ (q18 h)
  ext k F h := by
    simp only [T, Option.map_eq_some_iff] at h
    obtain ⟨p, h1, rfl⟩ := h
    exact clone_ok mixed (extL_ok _ (q18 h1))
  mixed := mixed
theorem qhw : T.code qdo = some qct := rfl
theorem qaby : T.code qlj = some qtc := rfl
theorem qyk : T.code qko = some qhs := rfl
theorem qyr : T.code qgy = some qnl := rfl
theorem qst : T.code qf9 = some qj3 := rfl
theorem qub : T.code qk9 = some qk8 := rfl
theorem qta : T.code qga = some qju := rfl
theorem qvw : T.code qis = some qim := rfl
theorem qoz : T.code qfr = some qje := rfl
theorem qpq : T.code qg7 = some qj5 := rfl
theorem qs3 : T.code qfn = some qgc := rfl
theorem qo1 : T.code qgl = some qjc := rfl
theorem qvf : T.code qiv = some ql0 := rfl
theorem qabc : T.code qj9 = some qsz := rfl
theorem qxh : T.code qig = some qmm := rfl
theorem qwy : T.code qib = some qml := rfl
theorem qp2 : T.code qd7 = some qhd := rfl
theorem qos : T.code qdm = some qe8 := rfl
theorem qyf : T.code qi6 = some qh7 := rfl
theorem qu0 : T.code qgn = some qk3 := rfl
theorem qxf : T.code qjp = some qf4 := rfl
theorem qtz : T.code qg1 = some qdy := rfl
theorem qiw : T.code qa2 = some qcp := rfl
theorem qp6 : T.code qd5 = some qd6 := rfl
theorem qm6 : T.code qcz = some qft := rfl
theorem qnx : T.code qc8 = some qf3 := rfl
theorem qpb : T.code qdq = some qgu := rfl
theorem ql9 : T.code qc2 = some qdu := rfl
theorem qu8 : T.code qe2 = some qk6 := rfl
theorem qwm : T.code qio = some qlz := rfl
theorem qux : T.code qhj = some qk1 := rfl
theorem qnw : T.code qd0 = some qap := rfl
theorem qyi : T.code qkf = some qe0 := rfl
theorem qza : T.code qke = some qht := rfl
theorem qy6 : T.code qkg = some qno := rfl
theorem qws : T.code qjo = some qkx := rfl
theorem qwb : T.code qfp = some qj7 := rfl
theorem qi8 : T.code qbi = some qca := rfl
theorem qvz : T.code qex = some qlx := rfl
theorem qui : T.code qfq = some qk7 := rfl
theorem qmy : T.code qcr = some qfh := rfl
theorem qp0 : T.code qes = some qfu := rfl
theorem qn2 : T.code qc9 = some qf0 := rfl
theorem qny : T.code qd1 = some qev := rfl
theorem qy8 : T.code qi2 = some qnu := rfl
theorem qtd : T.code qen = some qjt := rfl
theorem qkl : T.code qez = some qbz := rfl
theorem qmv : T.code qa0 = some qfi := rfl
theorem qhh : T.code qbf = some qbr := rfl
theorem qym : T.code qkp = some qi7 := rfl
theorem qun : T.code qho = some qeg := rfl
theorem qxj : T.code qjq = some qmq := rfl
theorem qvr : T.code qin = some qlw := rfl
theorem ql5 : T.code qgz = some qcd := rfl
theorem qwc : T.code qip = some ql3 := rfl
theorem qsl : T.code qeq = some qjw := rfl
theorem qsk : T.code qe3 = some qha := rfl
theorem qwd : T.code qil = some qit := rfl
theorem qmu : T.code qcq = some qfm := rfl
theorem qok : T.code qec = some qe6 := rfl
theorem qgt : T.code qa7 = some qb0 := rfl
theorem qqt : T.code qu = some qhy := rfl
theorem qj6 : T.code qa6 = some qe5 := rfl
theorem qo3 : T.code qdr = some qei := rfl
theorem qmj : T.code qdg = some qeb := rfl
theorem ql6 : T.code qbl = some qe1 := rfl
theorem qld : T.code qcj = some qed := rfl
theorem qh2 : T.code qbj = some qbv := rfl
theorem qy4 : T.code qgv = some qnz := rfl
theorem qy0 : T.code qhx = some qnv := rfl
theorem q22 : T.code qfj = some qrx := rfl
theorem qu2 : T.code qhq = some qhk := rfl
theorem qrg : T.code qfa = some qf7 := rfl
theorem qvi : T.code qf8 = some qir := rfl
theorem qu1 : T.code qbp = some qk2 := rfl
theorem qp1 : T.code qa8 = some qhf := rfl
theorem qm8 : T.code qau = some qbs := rfl
theorem qoy : T.code qa1 = some qgk := rfl
theorem qpa : T.code qa4 = some qgr := rfl
theorem qkj : T.code qb7 = some qdt := rfl
theorem qt7 : T.code qfx = some qg3 := rfl
theorem qsi : T.code qfv = some qja := rfl
theorem qyl : T.code qkc = some qng := rfl
theorem qqd : T.code qer = some qhe := rfl
theorem ql7 : T.code qc3 = some qdv := rfl
theorem qdn : T.code qd3 = some qd4 := rfl
theorem qiq : T.code qbd = some qco := rfl
theorem qf : T.code qas = some qg := rfl
theorem qv7 : T.code qhb = some qlr := rfl
theorem qnq : T.code qdz = some qdc := rfl
theorem qz2 : T.code qlk = some qm2 := rfl
theorem qoq : T.code qcw = some qgb := rfl
theorem qn8 : T.code qcu = some qge := rfl
theorem qn1 : T.code qcl = some qf2 := rfl
theorem qn7 : T.code qch = some qfb := rfl
theorem qni : T.code qck = some qew := rfl
theorem qo4 : T.code qc4 = some qfl := rfl
theorem qoa : T.code qcv = some qdl := rfl
theorem qpj : T.code qc7 = some qgs := rfl
theorem qwr : T.code qf1 = some qkw := rfl
theorem qt3 : T.code qfw = some qkh := rfl
theorem qki : T.code qbk = some qds := rfl
theorem qpm : T.code qc6 = some qgw := rfl
theorem qm9 : T.code qb3 = some qek := rfl
theorem qyy : T.code qkb = some qnm := rfl
theorem qjr : T.code qba = some qde := rfl
theorem ql8 : T.ext qdo = none := rfl
theorem ext_law21_head : T.ext qlj = none := rfl
theorem q1i : T.ext qko = none := rfl
theorem q0y : T.ext qgy = none := rfl
theorem qug : T.ext qf9 = none := rfl
theorem qwj : T.ext qk9 = none := rfl
theorem qty : T.ext qga = none := rfl
theorem qwp : T.ext qis = none := rfl
theorem qpv : T.ext qfr = none := rfl
theorem qqy : T.ext qg7 = none := rfl
theorem qt5 : T.ext qfn = none := rfl
theorem qpy : T.ext qgl = none := rfl
theorem qw2 : T.ext qiv = none := rfl
theorem ext_law19_Base : T.ext qj9 = none := rfl
theorem qy9 : T.ext qig = none := rfl
theorem qzb : T.ext qib = none := rfl
theorem qq4 : T.ext qd7 = none := rfl
theorem qpf : T.ext qdm = none := rfl
theorem q13 : T.ext qi6 = none := rfl
theorem qwl : T.ext qgn = none := rfl
theorem qy3 : T.ext qjp = none := rfl
theorem quq : T.ext qg1 = none := rfl
theorem qiy : T.ext qa2 = none := rfl
theorem qqq : T.ext qd5 = none := rfl
theorem qnk : T.ext qcz = none := rfl
theorem qoh : T.ext qc8 = none := rfl
theorem qqc : T.ext qdq = none := rfl
theorem qmf : T.ext qc2 = none := rfl
theorem qv8 : T.ext qe2 = none := rfl
theorem qxw : T.ext qio = none := rfl
theorem qv9 : T.ext qhj = none := rfl
theorem qou : T.ext qd0 = none := rfl
theorem q1k : T.ext qkf = none := rfl
theorem q16 : T.ext qke = none := rfl
theorem q05 : T.ext qkg = none := rfl
theorem qys : T.ext qjo = none := rfl
theorem qxn : T.ext qfp = none := rfl
theorem qjl : T.ext qbi = none := rfl
theorem qxp : T.ext qex = none := rfl
theorem qvh : T.ext qfq = none := rfl
theorem qm5 : T.ext qcr = none := rfl
theorem qqx : T.ext qes = none := rfl
theorem qom : T.ext qc9 = none := rfl
theorem qox : T.ext qd1 = none := rfl
theorem q19 : T.ext qi2 = none := rfl
theorem qt4 : T.ext qen = none := rfl
theorem qk4 : T.ext qez = none := rfl
theorem qnc : T.ext qa0 = none := rfl
theorem qh4 : T.ext qbf = none := rfl
theorem q1s : T.ext qkp = none := rfl
theorem qvy : T.ext qho = none := rfl
theorem qyz : T.ext qjq = none := rfl
theorem qwt : T.ext qin = none := rfl
theorem qmn : T.ext qgz = none := rfl
theorem qxo : T.ext qip = none := rfl
theorem qt0 : T.ext qeq = none := rfl
theorem qtb : T.ext qe3 = none := rfl
theorem qxt : T.ext qil = none := rfl
theorem qm4 : T.ext qcq = none := rfl
theorem qpe : T.ext qec = none := rfl
theorem qg5 : T.ext qa7 = none := rfl
theorem qr1 : T.ext qu = none := rfl
theorem qkq : T.ext qa6 = none := rfl
theorem qqn : T.ext qdr = none := rfl
theorem qm1 : T.ext qdg = none := rfl
theorem qmi : T.ext qbl = none := rfl
theorem qln : T.ext qcj = none := rfl
theorem qia : T.ext qbj = none := rfl
theorem qz6 : T.ext qgv = none := rfl
theorem qzy : T.ext qhx = none := rfl
theorem q39 : T.ext qfj = none := rfl
theorem qvv : T.ext qhq = none := rfl
theorem qrs : T.ext qfa = none := rfl
theorem qxi : T.ext qf8 = none := rfl
theorem qvs : T.ext qbp = none := rfl
theorem qq1 : T.ext qa8 = none := rfl
theorem qn0 : T.ext qau = none := rfl
theorem qpd : T.ext qa1 = none := rfl
theorem qp7 : T.ext qa4 = none := rfl
theorem qkt : T.ext qb7 = none := rfl
theorem quz : T.ext qfx = none := rfl
theorem qtf : T.ext qfv = none := rfl
theorem q1x : T.ext qkc = none := rfl
theorem qqw : T.ext qer = none := rfl
theorem qmh : T.ext qc3 = none := rfl
theorem qdx : T.ext qd3 = none := rfl
theorem qix : T.ext qbd = none := rfl
theorem qi : T.ext qas = none := rfl
theorem qxd : T.ext qhb = none := rfl
theorem qow : T.ext qdz = none := rfl
theorem q2x : T.ext qlk = none := rfl
theorem qo8 : T.ext qcw = none := rfl
theorem qo6 : T.ext qcu = none := rfl
theorem qol : T.ext qcl = none := rfl
theorem qo5 : T.ext qch = none := rfl
theorem qoe : T.ext qck = none := rfl
theorem qql : T.ext qc4 = none := rfl
theorem qpn : T.ext qcv = none := rfl
theorem qqm : T.ext qc7 = none := rfl
theorem qyn : T.ext qf1 = none := rfl
theorem quw : T.ext qfw = none := rfl
theorem qks : T.ext qbk = none := rfl
theorem qp9 : T.ext qc6 = none := rfl
theorem qnj : T.ext qb3 = none := rfl
theorem q0d : T.ext qkb = none := rfl
theorem qjx : T.ext qba = none := rfl
theorem qp5 : T.ext qfo = some (qvo 1 8) := rfl
theorem qi4 : T.ext qb4 = some (qvo 6 64) := rfl
theorem qla : T.ext qc5 = some (qvo 4 48) := rfl
def qcm (n : Int) : List AV := [(ii n)]
theorem int_lo (n : Nat) (x : Int) : los n (qcm x) = true := rfl
theorem int_pl (x : Int) : (qcm x).length = 1 ∧ qv (qcm x) = true := ⟨rfl, rfl⟩
theorem qar (n : Nat) (l : List Int) : qi0 n (l.map qcm) = true := qk5 (int_lo n) l
theorem qace (l : List Int) : qeh 1 (l.map qcm) = true := qma int_pl l
def qfe (l : List Int) : List AV := [(.fsl ((l).map qcm) false)]
theorem key_lo (n : Nat) (l : List Int) : los n (qfe l) = true := by simp only [qfe, los, AV.lo, qar, zfc]
theorem key_pl (l : List Int) : (qfe l).length = 1 ∧ qv (qfe l) = true := ⟨rfl, rfl⟩
theorem qbq (n : Nat) (l : List (List Int)) : qi0 n (l.map qfe) = true := qk5 (key_lo n) l
theorem keys_ok (l : List (List Int)) : qeh 1 (l.map qfe) = true := qma key_pl l
structure OpI where
  code : Int
  a : Int
  b : Int
  c : Int
  deriving DecidableEq
def OpI.r (x : OpI) : List AV := [(ii x.code), (ii x.a), (ii x.b), (ii x.c)]
theorem op_lo (n : Nat) (x : OpI) : los n x.r = true := rfl
theorem qgm (n : Nat) (l : List OpI) : qi0 n (l.map OpI.r) = true := qk5 (op_lo n) l
def qbm (p : List OpI) : List AV := [(.fsl ((p).map OpI.r) false)]
theorem progC_lo (n : Nat) (l : List OpI) : los n (qbm l) = true := by simp only [qbm, los, AV.lo, qgm, zfc]
theorem qa3 (n : Nat) (l : List (List OpI)) : qi0 n (l.map qbm) = true := qk5 (progC_lo n) l
structure Start where
  prog : Int
  time : Int
  deriving DecidableEq
def Start.r (x : Start) : List AV := [(ii x.prog), (ii x.time)]
theorem start_lo (n : Nat) (x : Start) : los n x.r = true := rfl
theorem qog (n : Nat) (l : List Start) : qi0 n (l.map Start.r) = true := qk5 (start_lo n) l
def lpC (p : List Start) : List AV := [(.fsl ((p).map Start.r) false)]
theorem lpC_lo (n : Nat) (l : List Start) : los n (lpC l) = true := by simp only [lpC, los, AV.lo, qog, zfc]
theorem qb1 (n : Nat) (l : List (List Start)) : qi0 n (l.map lpC) = true := qk5 (lpC_lo n) l
structure Cfg where
  lps : List (List Start)
  progs : List (List OpI)
  look : Int
  fin : Int
  cap : Int
def qsa (n : Int) : Bool := decide (n ≥ 1) && decide (n ≤ 1099511627776)
def qvu (n : Int) : Bool := decide (n ≥ -1073741824) && decide (n ≤ 1073741824)
theorem qmp (n : Int) : qaz (evL T) qgv [(ii n)] = some (bb (qsa n)) := by
  rw [qaz, qs qz6 qy4]
  by_cases h1 : n ≥ 1 <;> simp only [qsa, qnz, h1, qm, Ev.exec, qb, qe, qc, qag, Ev.Opnd.ev, Ev.Env.get, Ev.Env.set, Ev.Env.unset, Ev.look, qn, qku, qb5, ql, qx, qae, Ev.kill, qad, qd, qay, qah, ↓qq, ↓reduceIte, List.length_cons, List.length_nil, zfe, Nat.reduceEqDiff, reduceCtorEq, decide_true, decide_false, Bool.true_and, zfa, and_self, zfd, eq_self, Bool.false_and]
theorem qqe (n : Int) : qaz (evL T) qhx [(ii n)] = some (bb (qvu n)) := by
  rw [qaz, qs qzy qy0]
  by_cases h1 : n ≥ -1073741824 <;> simp only [qvu, qnv, h1, qm, Ev.exec, qb, qe, qc, qag, Ev.Opnd.ev, Ev.Env.get, Ev.Env.set, Ev.Env.unset, Ev.look, qn, qku, qb5, ql, qx, qae, Ev.kill, qad, qd, qay, qah, ↓qq, ↓reduceIte, List.length_cons, List.length_nil, zfe, Nat.reduceEqDiff, Int.reduceNeg, reduceCtorEq, decide_true, decide_false, Bool.true_and, zfa, and_self, zfd, eq_self, Bool.false_and]
def qvc (x : OpI) (n ps : Int) : Bool :=
  if x.code = 1 then qsa x.a && (decide (x.b = 0) && decide (x.c = 0))
  else if x.code = 2 then decide (x.a ≥ 0) && (qvu x.b && qsa x.c)
  else if x.code = 3 then qsa x.a && (decide (x.b ≥ 0) && (decide (x.b < n) && decide (x.c = 0)))
  else if x.code = 5 then decide (x.a ≥ 0) && (decide (x.a < ps) && (qsa x.b && decide (x.c = 0)))
  else if x.code = 6 then decide (x.a ≥ 0) && (decide (x.a < 2) && (qvu x.b && decide (x.c = 0)))
  else if x.code = 7 then decide (x.a ≥ 0) && (decide (x.a < 2) && (qvu x.b && (decide (x.c ≥ 0) && decide (x.c < n))))
  else decide (x.a = 0) && (decide (x.b = 0) && decide (x.c = 0))
theorem qq3 (x : OpI) (n ps : Int) : qaz (evL T) qho [(.agg [(ii x.code), (ii x.a), (ii x.b), (ii x.c)]), (ii n), (ii ps)] = some (bb (qvc x n ps)) := by
  obtain ⟨k, a, b, c⟩ := x
  rw [qaz, qs qvy qun]
  simp only [qvc]
  by_cases k1 : k = 1
  · subst k1
    cases h1 : qsa a <;> by_cases h2 : b = 0 <;> simp only [qeg, qmp, h1, h2, qm, Ev.exec, qb, qe, qc, qaw, qag, Ev.evs, Ev.Opnd.ev, Ev.Env.get, Ev.Env.set, Ev.Env.unset, Ev.look, qn, qh, qab, Ev.AV.cells, qv, Ev.AV.plain, qal, ql, qx, qae, Ev.kill, qad, qd, qay, qj, qk, qah, ↓qq, ↓reduceIte, List.length_cons, List.length_nil, zfe, List.drop_succ_cons, List.drop_zero, List.head?_cons, Nat.reduceAdd, Nat.reduceEqDiff, decide_true, decide_false, zfc, Bool.true_and, zfa, and_self, ne_eq, zfb, zff, zfd, eq_self, Bool.false_and, Bool.and_false]
  by_cases k2 : k = 2
  · subst k2
    by_cases h1 : a ≥ 0 <;> cases h2 : qvu b <;> simp only [qeg, qmp, qqe, h1, h2, qm, Ev.exec, qb, qe, qc, qaw, qag, Ev.evs, Ev.Opnd.ev, Ev.Env.get, Ev.Env.set, Ev.Env.unset, Ev.look, qn, qh, qab, Ev.AV.cells, qv, Ev.AV.plain, qal, qb5, ql, qx, qae, Ev.kill, qad, qd, qay, qj, qk, qah, ↓qq, ↓reduceIte, List.length_cons, List.length_nil, zfe, List.drop_succ_cons, List.drop_zero, List.head?_cons, Nat.reduceAdd, Nat.reduceEqDiff, Int.reduceEq, decide_true, decide_false, zfc, Bool.true_and, zfa, and_self, ne_eq, zfb, zff, zfd, eq_self, Bool.false_and, Bool.and_false]
  by_cases k3 : k = 3
  · subst k3
    cases h1 : qsa a <;> by_cases h2 : b ≥ 0 <;> by_cases h3 : b < n <;> simp only [qeg, qmp, h1, h2, h3, qm, Ev.exec, qb, qe, qc, qaw, qag, Ev.evs, Ev.Opnd.ev, Ev.Env.get, Ev.Env.set, Ev.Env.unset, Ev.look, qn, qh, qab, Ev.AV.cells, qv, Ev.AV.plain, qal, qo, qb5, ql, qx, qae, Ev.kill, qad, qd, qay, qj, qk, qah, ↓qq, ↓reduceIte, List.length_cons, List.length_nil, zfe, List.drop_succ_cons, List.drop_zero, List.head?_cons, Nat.reduceAdd, Nat.reduceEqDiff, Int.reduceEq, reduceCtorEq, decide_true, decide_false, zfc, Bool.true_and, zfa, and_self, ne_eq, zfb, zff, zfd, eq_self, Bool.false_and, Bool.and_false]
  by_cases k5 : k = 5
  · subst k5
    by_cases h1 : a ≥ 0 <;> by_cases h2 : a < ps <;> cases h3 : qsa b <;> simp only [qeg, qmp, h1, h2, h3, qm, Ev.exec, qb, qe, qc, qaw, qag, Ev.evs, Ev.Opnd.ev, Ev.Env.get, Ev.Env.set, Ev.Env.unset, Ev.look, qn, qh, qab, Ev.AV.cells, qv, Ev.AV.plain, qal, qo, qb5, ql, qx, qae, Ev.kill, qad, qd, qay, qj, qk, qah, ↓qq, ↓reduceIte, List.length_cons, List.length_nil, zfe, List.drop_succ_cons, List.drop_zero, List.head?_cons, Nat.reduceAdd, Nat.reduceEqDiff, Int.reduceEq, reduceCtorEq, decide_true, decide_false, zfc, Bool.true_and, zfa, and_self, ne_eq, zfb, zff, zfd, eq_self, Bool.false_and, Bool.and_false]
  by_cases k6 : k = 6
  · subst k6
    by_cases h1 : a ≥ 0 <;> by_cases h2 : a < 2 <;> cases h3 : qvu b <;> simp only [qeg, qqe, h1, h2, h3, qm, Ev.exec, qb, qe, qc, qaw, qag, Ev.evs, Ev.Opnd.ev, Ev.Env.get, Ev.Env.set, Ev.Env.unset, Ev.look, qn, qh, qab, Ev.AV.cells, qv, Ev.AV.plain, qal, qo, qb5, ql, qx, qae, Ev.kill, qad, qd, qay, qj, qk, qah, ↓qq, ↓reduceIte, List.length_cons, List.length_nil, zfe, List.drop_succ_cons, List.drop_zero, List.head?_cons, Nat.reduceAdd, Nat.reduceEqDiff, Int.reduceEq, decide_true, decide_false, zfc, Bool.true_and, zfa, and_self, ne_eq, zfb, zff, zfd, eq_self, Bool.false_and, Bool.and_false]
  by_cases k7 : k = 7
  · subst k7
    by_cases h1 : a ≥ 0 <;> by_cases h2 : a < 2 <;> cases h3 : qvu b <;> by_cases h4 : c ≥ 0 <;> simp only [qeg, qqe, h1, h2, h3, h4, qm, Ev.exec, qb, qe, qc, qaw, qag, Ev.evs, Ev.Opnd.ev, Ev.Env.get, Ev.Env.set, Ev.Env.unset, Ev.look, qn, qh, qab, Ev.AV.cells, qv, Ev.AV.plain, qal, qo, qb5, ql, qx, qae, Ev.kill, qad, qd, qay, qj, qk, qah, ↓qq, ↓reduceIte, List.length_cons, List.length_nil, zfe, List.drop_succ_cons, List.drop_zero, List.head?_cons, Nat.reduceAdd, Nat.reduceEqDiff, Int.reduceEq, reduceCtorEq, decide_true, decide_false, zfc, Bool.true_and, zfa, and_self, ne_eq, zfb, zff, zfd, eq_self, Bool.false_and, Bool.and_false]
  by_cases h1 : a = 0 <;> by_cases h2 : b = 0 <;> simp only [qeg, k1, k2, k3, k5, k6, k7, h1, h2, qm, Ev.exec, qb, qe, qc, qag, Ev.Opnd.ev, Ev.Env.get, Ev.Env.set, Ev.Env.unset, Ev.look, qn, qh, qab, Ev.AV.cells, qv, Ev.AV.plain, qal, ql, qx, qae, Ev.kill, qad, qd, qay, qah, ↓qq, ↓reduceIte, List.length_cons, List.length_nil, zfe, List.drop_succ_cons, List.drop_zero, List.head?_cons, Nat.reduceAdd, Nat.reduceEqDiff, decide_true, decide_false, zfc, Bool.true_and, zfa, and_self, ne_eq, zfb, zff, zfd, eq_self, Bool.false_and, Bool.and_false]
def qyx (x : OpI) : Bool := decide (x.code ≥ 1) && decide (x.code ≤ 8)
def qsc (p : List OpI) : Bool := decide (1 ≤ p.length ∧ p.length ≤ 16) && p.all qyx
def q7m (lps : Int) (x : OpI) : Bool := !(decide (x.code = 2) && decide (x.a ≥ lps))
def qo2 (look : Int) (x : OpI) : Bool := !(decide (x.code = 2) && decide (x.c < look))
def qne (p : List OpI) (ps lps look : Int) : Int :=
  if qsc p = false then 22 else if p.all (fun x => qvc x p.length ps) = false then 22 else if p.all (q7m lps) = false then 23 else if p.all (qo2 look) = false then 21 else 0
section
variable (p : List OpI) (c : Bool) (ps lps look : Int)
theorem q43 (hl : p.length ≤ 16) :
    ∃ y, itB (exec (evL T) itL none qhp) (qr [0, 3] true 0) ⟨[(0, (.fsl ((p).map OpI.r) c)), (3, (ii 0))], []⟩ [] = some y ∧ (p.all qyx = true ∧ (y.1 = .exit 0 ∧ y.2.1.marks = [] ∧ y.2.2 = []) ∨
      p.all qyx = false ∧ ∃ x, p.find? (fun x => !qyx x) = some x ∧ (y.1 = .ret ∧ y.2.1.marks = [] ∧ y.2.2 = [] ∧ Ev.look y.2.1.vars 2 = some (bb false))) := by
  refine qfd p (fun i => ⟨[(0, (.fsl ((p).map OpI.r) c)), (3, (ii i))], []⟩) [] qyx _ (fun _ y => _) ?_ ?_ ?_
  · intro i x hi hx hp
    have hi' : (i : Int) < (p.length : Int) := by omega
    have hw : IntKind.i64.wrap ((i : Int) + 1) = ((i + 1 : Nat) : Int) := by rw [qao (by omega) (by omega)]; simp
    simp only [qyx, Bool.and_eq_true, decide_eq_true_eq] at hp
    have h1 : ¬ x.code < 1 := by omega
    have h2 : ¬ x.code > 8 := by omega
    simp only [qhp, Int.natCast_nonneg, Int.toNat_natCast, List.getElem?_map, Option.map_some, OpI.r, hx, hi', hw, h1, h2, qgm, Ev.exec, qb, qe, qc, qag, Ev.Opnd.ev, Ev.Env.get, Ev.Env.set, Ev.look, qh, qab, qaj, qo, qav, qr, Ev.keep, qai, qy, qd, qay, qw, List.length_map, ↓qq, Ev.it1, ↓reduceIte, List.length_cons, List.length_nil, zfe, List.drop_zero, List.head?_cons, Nat.reduceAdd, Nat.reduceEqDiff, reduceCtorEq, decide_true, decide_false, zfc, zfa, and_self, zfd, eq_self]
  · intro i x hi hx hp
    have hi' : (i : Int) < (p.length : Int) := by omega
    simp only [qyx, Bool.and_eq_false_iff, decide_eq_false_iff_not] at hp
    by_cases h1 : x.code < 1
    · simp only [qhp, Int.natCast_nonneg, Int.toNat_natCast, List.getElem?_map, Option.map_some, OpI.r, hx, hi', h1, Ev.exec, qb, qe, qc, qag, Ev.Opnd.ev, Ev.Env.get, Ev.Env.set, Ev.Env.unset, Ev.look, qh, qab, qo, List.length_map, ↓qq, Ev.it1, ↓reduceIte, List.length_cons, List.length_nil, List.drop_zero, List.head?_cons, Nat.reduceAdd, Nat.reduceEqDiff, reduceCtorEq, decide_true, zfa, Bool.true_eq_false, zfd, eq_self]
      exact ⟨_, rfl, rfl, rfl, rfl, rfl⟩
    · have h2 : x.code > 8 := by omega
      simp only [qhp, Int.natCast_nonneg, Int.toNat_natCast, List.getElem?_map, Option.map_some, OpI.r, hx, hi', h1, h2, Ev.exec, qb, qe, qc, qag, Ev.Opnd.ev, Ev.Env.get, Ev.Env.set, Ev.look, qh, qab, qo, qav, List.length_map, ↓qq, Ev.it1, ↓reduceIte, List.length_cons, List.length_nil, List.drop_zero, List.head?_cons, Nat.reduceAdd, Nat.reduceEqDiff, reduceCtorEq, decide_true, decide_false, zfa, zfd, eq_self]
      exact ⟨_, rfl, rfl, rfl, rfl, rfl⟩
  · simp only [qhp, Int.lt_irrefl, Ev.exec, qb, qe, qc, qag, Ev.Opnd.ev, Ev.Env.get, Ev.Env.set, Ev.look, qo, List.length_map, ↓qq, Ev.it1, ↓reduceIte, Nat.reduceEqDiff, reduceCtorEq, decide_false, zfa, eq_self]
    exact ⟨_, rfl, rfl, rfl, rfl⟩
theorem q2t : qaz (evL T) qkp [(.fsl ((p).map OpI.r) c)] = some (bb (qsc p)) := by
  rw [qaz, qs q1s qym]
  by_cases h1 : (p.length : Int) < 1
  · have : ¬ (1 ≤ p.length ∧ p.length ≤ 16) := by omega
    simp only [qi7, qsc, this, h1, qm, Ev.exec, qb, qe, qc, qag, Ev.Opnd.ev, Ev.Env.get, Ev.Env.set, Ev.Env.unset, Ev.look, qn, qo, ql, qx, qae, Ev.kill, qad, qd, qay, qah, List.length_map, ↓qq, ↓reduceIte, List.length_cons, List.length_nil, zfe, Nat.reduceEqDiff, reduceCtorEq, decide_true, decide_false, Bool.true_eq_false, and_self, zfd, eq_self, Bool.false_and]
  by_cases h2 : (p.length : Int) > 16
  · have : ¬ (1 ≤ p.length ∧ p.length ≤ 16) := by omega
    simp only [qi7, qsc, this, h1, h2, qm, Ev.exec, qb, qe, qc, qag, Ev.Opnd.ev, Ev.Env.get, Ev.Env.set, Ev.look, qn, qo, qav, ql, qx, qae, Ev.kill, qad, qd, qay, qah, List.length_map, ↓qq, ↓reduceIte, List.length_cons, List.length_nil, zfe, Nat.reduceEqDiff, reduceCtorEq, decide_true, decide_false, zfa, and_self, zfd, eq_self, Bool.false_and]
  have h3 : 1 ≤ p.length ∧ p.length ≤ 16 := by omega
  obtain ⟨⟨y, e, σ⟩, k1, k2⟩ := q43 p c h3.2
  simp only at k2
  rcases k2 with ⟨k3, rfl, k4, rfl⟩ | ⟨k3, x, _, rfl, k4, rfl, k5⟩
  · simp only [qi7, qsc, h3, h1, h2, k1, k3, k4, qgm, qm, Ev.exec, qb, qe, qc, qag, Ev.Opnd.ev, Ev.Env.get, Ev.Env.set, Ev.look, qn, qo, qav, ql, qx, qae, Ev.kill, qad, qr, Ev.keep, qai, qy, qd, qay, qw, qah, List.length_map, ↓qq, ↓qak, ↓reduceIte, List.length_cons, List.length_nil, zfe, Nat.reduceEqDiff, reduceCtorEq, decide_true, decide_false, zfc, zfa, and_self, zfd, eq_self]
  · simp only [qi7, qsc, h3, h1, h2, k1, k3, k4, k5, qgm, qm, Ev.exec, qb, qe, qc, qag, Ev.Opnd.ev, Ev.Env.get, Ev.Env.set, Ev.look, qn, qo, qav, ql, qx, qae, Ev.kill, qad, qr, Ev.keep, qai, qy, qd, qay, qw, qah, List.length_map, ↓qq, ↓qak, ↓reduceIte, List.length_cons, List.length_nil, zfe, Nat.reduceEqDiff, reduceCtorEq, decide_true, decide_false, zfc, zfa, and_self, zfd, eq_self, Bool.and_false]
theorem q21 (hl : p.length ≤ 16) :
    ∃ y, itB (exec (evL T) itL none qjd) (qr [0, 1, 2, 3, 9] true 0) ⟨[(0, (.fsl ((p).map OpI.r) c)), (1, (ii ps)), (2, (ii lps)), (3, (ii look)), (9, (ii 0))], []⟩ [] = some y ∧
      (p.all (fun x => qvc x p.length ps) = true ∧ (y.1 = .exit 0 ∧ y.2.1.marks = [] ∧ y.2.2 = [] ∧ Ev.look y.2.1.vars 0 = some (.fsl ((p).map OpI.r) c) ∧ Ev.look y.2.1.vars 2 = some (ii lps) ∧ Ev.look y.2.1.vars 3 = some (ii look)) ∨
      p.all (fun x => qvc x p.length ps) = false ∧ ∃ x, p.find? (fun x => !qvc x p.length ps) = some x ∧ (y.1 = .ret ∧ y.2.1.marks = [] ∧ y.2.2 = [] ∧ Ev.look y.2.1.vars 8 = some (ii 22))) := by
  refine qfd p (fun i => ⟨[(0, (.fsl ((p).map OpI.r) c)), (1, (ii ps)), (2, (ii lps)), (3, (ii look)), (9, (ii i))], []⟩) [] (fun x => qvc x p.length ps) _ (fun _ y => _) ?_ ?_ ?_
  · intro i x hi hx hp
    have hi' : (i : Int) < (p.length : Int) := by omega
    have hw : IntKind.i64.wrap ((i : Int) + 1) = ((i + 1 : Nat) : Int) := by rw [qao (by omega) (by omega)]; simp
    simp only [qjd, Int.natCast_nonneg, Int.toNat_natCast, List.getElem?_map, Option.map_some, OpI.r, hx, hi', hw, qq3, hp, qgm, Ev.exec, qb, qe, qc, qaw, qag, Ev.evs, Ev.Opnd.ev, Ev.Env.get, Ev.Env.set, Ev.look, qh, qab, qaj, qo, qr, Ev.keep, qai, qy, qd, qay, qbe, qw, qj, qk, List.length_map, ↓qq, Ev.it1, ↓reduceIte, List.length_cons, List.length_nil, List.take_succ_cons, zfe, Nat.reduceAdd, Nat.reduceEqDiff, reduceCtorEq, decide_true, zfc, Bool.not_true, zfa, and_self, zfd, Nat.le_refl, eq_self]
  · intro i x hi hx hp
    have hi' : (i : Int) < (p.length : Int) := by omega
    simp only [qjd, Int.natCast_nonneg, Int.toNat_natCast, List.getElem?_map, Option.map_some, OpI.r, hx, hi', qq3, hp, Ev.exec, qb, qe, qc, qaw, qag, Ev.evs, Ev.Opnd.ev, Ev.Env.get, Ev.Env.set, Ev.look, qh, qab, qo, qay, qbe, qj, qk, List.length_map, ↓qq, Ev.it1, ↓reduceIte, List.length_cons, List.length_nil, List.take_succ_cons, zfe, Nat.reduceAdd, Nat.reduceEqDiff, reduceCtorEq, decide_true, zfc, Bool.not_false, zfd, Nat.le_refl, eq_self]
    exact ⟨_, rfl, rfl, rfl, rfl, rfl⟩
  · simp only [qjd, Int.lt_irrefl, Ev.exec, qb, qe, qc, qag, Ev.Opnd.ev, Ev.Env.get, Ev.Env.set, Ev.look, qo, List.length_map, ↓qq, Ev.it1, ↓reduceIte, Nat.reduceEqDiff, reduceCtorEq, decide_false, zfa, eq_self]
    exact ⟨_, rfl, rfl, rfl, rfl, rfl, rfl, rfl⟩
theorem q23 (hl : p.length ≤ 16) :
    ∃ y, itB (exec (evL T) itL none qhm) (qr [0, 2, 3, 10] true 0) ⟨[(0, (.fsl ((p).map OpI.r) c)), (2, (ii lps)), (3, (ii look)), (10, (ii 0))], []⟩ [] = some y ∧
      (p.all (q7m lps) = true ∧ (y.1 = .exit 2 ∧ y.2.1.marks = [] ∧ y.2.2 = [] ∧ Ev.look y.2.1.vars 0 = some (.fsl ((p).map OpI.r) c) ∧ Ev.look y.2.1.vars 3 = some (ii look)) ∨
      p.all (q7m lps) = false ∧ ∃ x, p.find? (fun x => !q7m lps x) = some x ∧ (y.1 = .ret ∧ y.2.1.marks = [] ∧ y.2.2 = [] ∧ Ev.look y.2.1.vars 8 = some (ii 23))) := by
  refine qfd p (fun i => ⟨[(0, (.fsl ((p).map OpI.r) c)), (2, (ii lps)), (3, (ii look)), (10, (ii i))], []⟩) [] (q7m lps) _ (fun _ y => _) ?_ ?_ ?_
  · intro i x hi hx hp
    have hi' : (i : Int) < (p.length : Int) := by omega
    have hw : IntKind.i64.wrap ((i : Int) + 1) = ((i + 1 : Nat) : Int) := by rw [qao (by omega) (by omega)]; simp
    by_cases h1 : x.code = 2
    · have h2 : ¬ x.a ≥ lps := by simpa [q7m, h1] using hp
      simp only [qhm, Int.natCast_nonneg, Int.toNat_natCast, List.getElem?_map, Option.map_some, OpI.r, hx, hi', hw, h1, h2, qgm, Ev.exec, qb, qe, qc, qag, Ev.Opnd.ev, Ev.Env.get, Ev.Env.set, Ev.look, qh, qab, qaj, qal, qo, qb5, qr, Ev.keep, qai, qy, qd, qay, qw, List.length_map, ↓qq, Ev.it1, ↓reduceIte, List.length_cons, List.length_nil, zfe, List.drop_succ_cons, List.drop_zero, List.head?_cons, Nat.reduceAdd, Nat.reduceEqDiff, reduceCtorEq, decide_true, decide_false, zfc, zfa, and_self, zfd, eq_self]
    · simp only [qhm, Int.natCast_nonneg, Int.toNat_natCast, List.getElem?_map, Option.map_some, OpI.r, hx, hi', hw, h1, qgm, Ev.exec, qb, qe, qc, qag, Ev.Opnd.ev, Ev.Env.get, Ev.Env.set, Ev.Env.unset, Ev.look, qh, qab, qaj, qal, qo, qr, Ev.keep, qai, qy, qd, qay, qw, List.length_map, ↓qq, Ev.it1, ↓reduceIte, List.length_cons, List.length_nil, zfe, List.drop_zero, List.head?_cons, Nat.reduceAdd, Nat.reduceEqDiff, reduceCtorEq, decide_true, decide_false, zfc, zfa, and_self, zfd, eq_self]
  · intro i x hi hx hp
    have hi' : (i : Int) < (p.length : Int) := by omega
    have h1 : x.code = 2 := by
      by_cases h1 : x.code = 2
      · exact h1
      · simp [q7m, h1] at hp
    have h2 : x.a ≥ lps := by simpa [q7m, h1] using hp
    simp only [qhm, Int.natCast_nonneg, Int.toNat_natCast, List.getElem?_map, Option.map_some, OpI.r, hx, hi', h1, h2, Ev.exec, qb, qe, qc, qag, Ev.Opnd.ev, Ev.Env.get, Ev.Env.set, Ev.look, qh, qab, qal, qo, qb5, List.length_map, ↓qq, Ev.it1, ↓reduceIte, List.length_cons, List.length_nil, List.drop_succ_cons, List.drop_zero, List.head?_cons, Nat.reduceAdd, Nat.reduceEqDiff, reduceCtorEq, decide_true, zfa, zfd, eq_self]
    exact ⟨_, rfl, rfl, rfl, rfl, rfl⟩
  · simp only [qhm, Int.lt_irrefl, Ev.exec, qb, qe, qc, qag, Ev.Opnd.ev, Ev.Env.get, Ev.Env.set, Ev.look, qo, List.length_map, ↓qq, Ev.it1, ↓reduceIte, Nat.reduceEqDiff, reduceCtorEq, decide_false, zfa, eq_self]
    exact ⟨_, rfl, rfl, rfl, rfl, rfl, rfl⟩
theorem q2g (hl : p.length ≤ 16) :
    ∃ y, itB (exec (evL T) itL none qhl) (qr [0, 3, 11] true 0) ⟨[(0, (.fsl ((p).map OpI.r) c)), (3, (ii look)), (11, (ii 0))], []⟩ [] = some y ∧
      (p.all (qo2 look) = true ∧ (y.1 = .exit 4 ∧ y.2.1.marks = [] ∧ y.2.2 = []) ∨
      p.all (qo2 look) = false ∧ ∃ x, p.find? (fun x => !qo2 look x) = some x ∧ (y.1 = .ret ∧ y.2.1.marks = [] ∧ y.2.2 = [] ∧ Ev.look y.2.1.vars 8 = some (ii 21))) := by
  refine qfd p (fun i => ⟨[(0, (.fsl ((p).map OpI.r) c)), (3, (ii look)), (11, (ii i))], []⟩) [] (qo2 look) _ (fun _ y => _) ?_ ?_ ?_
  · intro i x hi hx hp
    have hi' : (i : Int) < (p.length : Int) := by omega
    have hw : IntKind.i64.wrap ((i : Int) + 1) = ((i + 1 : Nat) : Int) := by rw [qao (by omega) (by omega)]; simp
    by_cases h1 : x.code = 2
    · have h2 : ¬ x.c < look := by simpa [qo2, h1] using hp
      simp only [qhl, Int.natCast_nonneg, Int.toNat_natCast, List.getElem?_map, Option.map_some, OpI.r, hx, hi', hw, h1, h2, qgm, Ev.exec, qb, qe, qc, qag, Ev.Opnd.ev, Ev.Env.get, Ev.Env.set, Ev.look, qh, qab, qaj, qal, qo, qr, Ev.keep, qai, qy, qd, qay, qw, List.length_map, ↓qq, Ev.it1, ↓reduceIte, List.length_cons, List.length_nil, zfe, List.drop_succ_cons, List.drop_zero, List.head?_cons, Nat.reduceAdd, Nat.reduceEqDiff, reduceCtorEq, decide_true, decide_false, zfc, zfa, and_self, zfd, eq_self]
    · simp only [qhl, Int.natCast_nonneg, Int.toNat_natCast, List.getElem?_map, Option.map_some, OpI.r, hx, hi', hw, h1, qgm, Ev.exec, qb, qe, qc, qag, Ev.Opnd.ev, Ev.Env.get, Ev.Env.set, Ev.Env.unset, Ev.look, qh, qab, qaj, qal, qo, qr, Ev.keep, qai, qy, qd, qay, qw, List.length_map, ↓qq, Ev.it1, ↓reduceIte, List.length_cons, List.length_nil, zfe, List.drop_zero, List.head?_cons, Nat.reduceAdd, Nat.reduceEqDiff, reduceCtorEq, decide_true, decide_false, zfc, zfa, and_self, zfd, eq_self]
  · intro i x hi hx hp
    have hi' : (i : Int) < (p.length : Int) := by omega
    have h1 : x.code = 2 := by
      by_cases h1 : x.code = 2
      · exact h1
      · simp [qo2, h1] at hp
    have h2 : x.c < look := by simpa [qo2, h1] using hp
    simp only [qhl, Int.natCast_nonneg, Int.toNat_natCast, List.getElem?_map, Option.map_some, OpI.r, hx, hi', h1, h2, Ev.exec, qb, qe, qc, qag, Ev.Opnd.ev, Ev.Env.get, Ev.Env.set, Ev.look, qh, qab, qal, qo, List.length_map, ↓qq, Ev.it1, ↓reduceIte, List.length_cons, List.length_nil, List.drop_succ_cons, List.drop_zero, List.head?_cons, Nat.reduceAdd, Nat.reduceEqDiff, reduceCtorEq, decide_true, zfa, zfd, eq_self]
    exact ⟨_, rfl, rfl, rfl, rfl, rfl⟩
  · simp only [qhl, Int.lt_irrefl, Ev.exec, qb, qe, qc, qag, Ev.Opnd.ev, Ev.Env.get, Ev.Env.set, Ev.look, qo, List.length_map, ↓qq, Ev.it1, ↓reduceIte, Nat.reduceEqDiff, reduceCtorEq, decide_false, zfa, eq_self]
    exact ⟨_, rfl, rfl, rfl, rfl⟩
theorem qt9 : qaz (evL T) qke [(.fsl ((p).map OpI.r) c), (ii ps), (ii lps), (ii look)] = some (ii (qne p ps lps look)) := by
  have h0 := q2t p c
  rw [qaz, qs q16 qza]
  cases hs : qsc p with
  | false =>
    rw [hs] at h0
    simp only [qht, qne, h0, hs, qgm, qm, Ev.exec, qb, qe, qc, qaw, qag, Ev.evs, Ev.Opnd.ev, Ev.Env.get, Ev.Env.set, Ev.look, qn, ql, qx, qae, Ev.kill, qad, qd, qay, qw, qj, qk, qah, ↓qq, ↓reduceIte, List.length_cons, List.length_nil, zfe, Nat.reduceAdd, reduceCtorEq, zfc, Bool.not_false, and_self, zfd, eq_self]
  | true =>
    rw [hs] at h0
    have hl : p.length ≤ 16 := by simp only [qsc, Bool.and_eq_true, decide_eq_true_eq] at hs; exact hs.1.2
    obtain ⟨⟨y1, e1, σ1⟩, k1, k2⟩ := q21 p c ps lps look hl
    obtain ⟨⟨y2, e2, σ2⟩, m1, m2⟩ := q23 p c lps look hl
    obtain ⟨⟨y3, e3, σ3⟩, n1, n2⟩ := q2g p c look hl
    simp only at k2 m2 n2
    rcases k2 with ⟨q1, rfl, q2, rfl, q3, q4, q5⟩ | ⟨q1, x, _, rfl, q2, rfl, q3⟩
    · rcases m2 with ⟨r1, rfl, r2, rfl, r3, r4⟩ | ⟨r1, x, _, rfl, r2, rfl, r3⟩
      · rcases n2 with ⟨t1, rfl, t2, rfl⟩ | ⟨t1, x, _, rfl, t2, rfl, t3⟩
        · simp only [qht, qne, h0, hs, k1, q1, q2, q3, q4, q5, m1, r1, r2, r3, r4, n1, t1, t2, qgm, qm, Ev.exec, qb, qe, qc, qaw, qag, Ev.evs, Ev.Opnd.ev, Ev.Env.get, Ev.Env.set, Ev.look, qn, ql, qx, qae, Ev.kill, qad, qr, Ev.keep, qai, qy, qd, qay, qw, qj, qk, qah, ↓qq, ↓qak, ↓reduceIte, List.length_cons, List.length_nil, zfe, Nat.reduceAdd, Nat.reduceEqDiff, reduceCtorEq, zfc, Bool.not_true, zfa, Bool.true_eq_false, and_self, zfd, eq_self]
        · simp only [qht, qne, h0, hs, k1, q1, q2, q3, q4, q5, m1, r1, r2, r3, r4, n1, t1, t2, t3, qgm, qm, Ev.exec, qb, qe, qc, qaw, qag, Ev.evs, Ev.Opnd.ev, Ev.Env.get, Ev.Env.set, Ev.look, qn, ql, qx, qae, Ev.kill, qad, qr, Ev.keep, qai, qy, qd, qay, qw, qj, qk, qah, ↓qq, ↓qak, ↓reduceIte, List.length_cons, List.length_nil, zfe, Nat.reduceAdd, Nat.reduceEqDiff, reduceCtorEq, zfc, Bool.not_true, zfa, Bool.true_eq_false, and_self, zfd, eq_self]
      · simp only [qht, qne, h0, hs, k1, q1, q2, q3, q4, q5, m1, r1, r2, r3, qgm, qm, Ev.exec, qb, qe, qc, qaw, qag, Ev.evs, Ev.Opnd.ev, Ev.Env.get, Ev.Env.set, Ev.look, qn, ql, qx, qae, Ev.kill, qad, qr, Ev.keep, qai, qy, qd, qay, qw, qj, qk, qah, ↓qq, ↓qak, ↓reduceIte, List.length_cons, List.length_nil, zfe, Nat.reduceAdd, Nat.reduceEqDiff, reduceCtorEq, zfc, Bool.not_true, zfa, Bool.true_eq_false, and_self, zfd, eq_self]
    · simp only [qht, qne, h0, hs, k1, q1, q2, q3, qgm, qm, Ev.exec, qb, qe, qc, qaw, qag, Ev.evs, Ev.Opnd.ev, Ev.Env.get, Ev.Env.set, Ev.look, qn, ql, qx, qae, Ev.kill, qad, qr, Ev.keep, qai, qy, qd, qay, qw, qj, qk, qah, ↓qq, ↓qak, ↓reduceIte, List.length_cons, List.length_nil, zfe, Nat.reduceAdd, Nat.reduceEqDiff, reduceCtorEq, zfc, Bool.not_true, zfa, Bool.true_eq_false, and_self, zfd, eq_self]
end
set_option maxRecDepth 10000
structure Pr where
  prog : Int
  pc : Int
  alive : Bool
  timer : List Int
  deriving DecidableEq
def Pr.r (x : Pr) : List AV := [(ii x.prog), (ii x.pc), (bb x.alive), (.fsl ((x.timer).map qcm) false)]
theorem pr_lo (n : Nat) (x : Pr) : los n x.r = true := by simp only [Pr.r, qar, qay, qw, qj, qk, zfc, eq_self]
theorem pr_pl (x : Pr) : x.r.length = 4 ∧ qv x.r = true := ⟨rfl, rfl⟩
theorem qat (n : Nat) (l : List Pr) : qi0 n (l.map Pr.r) = true := qk5 (pr_lo n) l
theorem q3z (l : List Pr) : qeh 4 (l.map Pr.r) = true := qma pr_pl l
structure Evt where
  time : Int
  key : List Int
  lp : Int
  kind : Int
  proc : Int
  arg : Int
  deriving DecidableEq
def Evt.r (x : Evt) : List AV := [(ii x.time), (.fsl ((x.key).map qcm) false), (ii x.lp), (ii x.kind), (ii x.proc), (ii x.arg)]
theorem q75 (n : Nat) (x : Evt) : los n x.r = true := by simp only [Evt.r, qar, qay, qw, qj, qk, zfc, eq_self]
theorem evt_pl (x : Evt) : x.r.length = 6 ∧ qv x.r = true := ⟨rfl, rfl⟩
theorem qac (n : Nat) (l : List Evt) : qi0 n (l.map Evt.r) = true := qk5 (q75 n) l
theorem qlv (l : List Evt) : qeh 6 (l.map Evt.r) = true := qma evt_pl l
structure Lp where
  r0 : Int
  r1 : Int
  procs : List Pr
  sum : Int
  deriving DecidableEq
def Lp.r (x : Lp) : List AV := [(ii x.r0), (ii x.r1), (.fsl ((x.procs).map Pr.r) false), (ii x.sum)]
structure Ex where
  r0 : Int
  r1 : Int
  procs : List Pr
  sum : Int
  ev : Evt
  out : List Evt
  n : Int
  gone : List (List Int)
  over : Bool
def Ex.kid (x : Ex) : List Int := x.ev.key ++ [x.n]
def Ex.create (x : Ex) (d : Int) (e : Evt) : Ex :=
  { x with n := w64 (x.n + 1), out := if w64 (x.ev.time + d) > 1152921504606846976 then x.out else x.out ++ [⟨w64 (x.ev.time + d), x.kid, e.lp, e.kind, e.proc, e.arg⟩],
           over := if w64 (x.ev.time + d) > 1152921504606846976 then true else x.over }
structure Ex.Small (x : Ex) : Prop where
  procs : x.procs.length ≤ 1000
  out : x.out.length ≤ 1000
  gone : x.gone.length ≤ 1000
  key : x.ev.key.length ≤ 1000
theorem q41 (l : List Int) : qsg (l.map qcm) (l.map qcm) = true := qti (fun x => by simp only [qcm, qv3, qs8, q4c, decide_true, zfc, eq_self]) l
theorem eq_procs (l : List Pr) : qsg (l.map Pr.r) (l.map Pr.r) = true := qti (fun x => by simp only [Pr.r, q41, qv3, qs8, q4c, q7s, q4k, decide_true, zfc, eq_self, beq_self_eq_true]) l
theorem eq_evts (l : List Evt) : qsg (l.map Evt.r) (l.map Evt.r) = true := qti (fun x => by simp only [Evt.r, q41, qv3, qs8, q4c, q4k, decide_true, zfc, eq_self, beq_self_eq_true]) l
theorem eq_keys (l : List (List Int)) : qsg (l.map qfe) (l.map qfe) = true := qti (fun x => by simp only [qfe, q41, qv3, qs8, q4k, zfc, eq_self, beq_self_eq_true]) l
set_option maxRecDepth 10000
theorem qw7 {α : Type} [DecidableEq α] : ∀ {a b : List α}, a.length = b.length → ((a.zip b).all (fun z => decide (z.1 = z.2)) = true ↔ a = b)
  | [], [], _ => by simp
  | x :: a, y :: b, h => by
    rw [List.zip_cons_cons, List.all_cons, Bool.and_eq_true, decide_eq_true_eq, qw7 (a := a) (b := b) (by simpa using h), List.cons.injEq]
  | [], _ :: _, h => by simp at h
  | _ :: _, [], h => by simp at h
section
variable (a b : List Int) (c d : Bool)
theorem q20 (hab : a.length = b.length) (hl : a.length ≤ 9223372036854775807) :
    ∃ y, itB (exec (evL T) itL none qej) (qr [0, 1, 12, 13] true 0) ⟨[(0, (.fsl ((a).map qcm) c)), (1, (.fsl ((b).map qcm) d)), (12, (ii a.length)), (13, (ii 0))], []⟩ [] = some y ∧ ((a.zip b).all (fun z => decide (z.1 = z.2)) = true ∧ (y.1 = .exit 0 ∧ y.2.1.marks = [] ∧ y.2.2 = []) ∨
      (a.zip b).all (fun z => decide (z.1 = z.2)) = false ∧ ∃ x, (a.zip b).find? (fun z => !decide (z.1 = z.2)) = some x ∧ (y.1 = .ret ∧ y.2.1.marks = [] ∧ y.2.2 = [] ∧ Ev.look y.2.1.vars 4 = some (bb false))) := by
  have hzl : (a.zip b).length = a.length := by rw [List.length_zip, ← hab, Nat.min_self]
  refine qfd (a.zip b) (fun i => ⟨[(0, (.fsl ((a).map qcm) c)), (1, (.fsl ((b).map qcm) d)), (12, (ii a.length)), (13, (ii i))], []⟩) [] (fun z => decide (z.1 = z.2)) _ (fun _ y => _) ?_ ?_ ?_
  · intro i x hi hx hp
    rw [hzl] at hi
    have hi' : (i : Int) < (a.length : Int) := by omega
    have hw : IntKind.i64.wrap ((i : Int) + 1) = ((i + 1 : Nat) : Int) := by rw [qao (by omega) (by omega)]; simp
    obtain ⟨hxa, hxb⟩ := List.getElem?_zip_eq_some.1 hx
    have hp' := of_decide_eq_true hp
    simp only [qej, Int.natCast_nonneg, Int.toNat_natCast, List.getElem?_map, Option.map_some, hxa, hxb, hi', hw, hp', qar, qcm, Ev.exec, qb, qe, qc, qag, Ev.Opnd.ev, Ev.Env.get, Ev.Env.set, Ev.look, qh, qab, qaj, qax, qo, qr, Ev.keep, qai, qy, qd, qay, qw, ↓qq, Ev.it1, ↓reduceIte, List.length_cons, List.length_nil, zfe, List.head?_cons, Nat.reduceEqDiff, reduceCtorEq, decide_true, decide_false, zfc, zfa, and_self, ne_eq, not_true_eq_false, zfd, eq_self]
  · intro i x hi hx hp
    rw [hzl] at hi
    have hi' : (i : Int) < (a.length : Int) := by omega
    obtain ⟨hxa, hxb⟩ := List.getElem?_zip_eq_some.1 hx
    have hp' : ¬ x.1 = x.2 := of_decide_eq_false hp
    simp only [qej, Int.natCast_nonneg, Int.toNat_natCast, List.getElem?_map, Option.map_some, hxa, hxb, hi', hp', qcm, Ev.exec, qb, qe, qc, qag, Ev.Opnd.ev, Ev.Env.get, Ev.Env.set, Ev.look, qh, qab, qax, qo, ↓qq, Ev.it1, ↓reduceIte, List.length_cons, List.length_nil, List.head?_cons, Nat.reduceEqDiff, reduceCtorEq, decide_true, zfa, ne_eq, zfb, zfd, eq_self]
    exact ⟨_, rfl, rfl, rfl, rfl, rfl⟩
  · rw [hzl]
    simp only [qej, Int.lt_irrefl, Ev.exec, qb, qe, qc, qag, Ev.Opnd.ev, Ev.Env.get, Ev.Env.set, Ev.look, qo, ↓qq, Ev.it1, ↓reduceIte, Nat.reduceEqDiff, reduceCtorEq, decide_false, zfa, eq_self]
    exact ⟨_, rfl, rfl, rfl, rfl⟩
theorem qs5 (hl : a.length ≤ 9223372036854775807) (hl2 : b.length ≤ 9223372036854775807) : qaz (evL T) qdr [(.fsl ((a).map qcm) c), (.fsl ((b).map qcm) d)] = some (bb (decide (a = b))) := by
  rw [qaz, qs qqn qo3]
  by_cases hab : a.length = b.length
  · have hab' : (a.length : Int) = (b.length : Int) := by omega
    obtain ⟨⟨y, e, σ⟩, k1, k2⟩ := q20 a b c d hab hl
    simp only at k2
    rcases k2 with ⟨k3, rfl, k4, rfl⟩ | ⟨k3, x, _, rfl, k4, rfl, k5⟩
    · have : a = b := (qw7 hab).1 k3
      rw [hab'] at k1
      simp only [qei, this, qar, qm, Ev.exec, qb, qe, qc, qag, Ev.Opnd.ev, Ev.Env.get, Ev.Env.set, Ev.look, qn, qax, ql, qx, qae, qad, qr, Ev.keep, qai, qy, qd, qay, qw, List.length_map, ↓qq, ↓qak, ↓reduceIte, List.length_cons, List.length_nil, List.take_zero, zfe, Nat.reduceAdd, Nat.reduceEqDiff, reduceCtorEq, decide_true, decide_false, zfc, zfa, and_self, and_true, ne_eq, not_true_eq_false, zfd, eq_self]
      subst this
      simp only [k1, k4, Ev.look, Ev.kill, qay, qah, ↓reduceIte, eq_self]
    · have : ¬ a = b := fun h => by rw [(qw7 hab).2 h] at k3; cases k3
      simp only [this]
      rw [hab'] at k1
      simp only [qei, hab', k1, k4, k5, qar, qm, Ev.exec, qb, qe, qc, qag, Ev.Opnd.ev, Ev.Env.get, Ev.Env.set, Ev.look, qn, qax, ql, qx, qae, Ev.kill, qad, qr, Ev.keep, qai, qy, qd, qay, qw, qah, List.length_map, ↓qq, ↓qak, ↓reduceIte, List.length_cons, List.length_nil, zfe, Nat.reduceAdd, Nat.reduceEqDiff, reduceCtorEq, decide_false, zfc, zfa, and_self, ne_eq, not_true_eq_false, zfd, eq_self]
  · have hab' : ¬ (a.length : Int) = (b.length : Int) := by omega
    have : ¬ a = b := fun h => hab (by rw [h])
    simp only [qei, hab', this, qm, Ev.exec, qb, qe, qc, qag, Ev.Opnd.ev, Ev.Env.get, Ev.Env.set, Ev.look, qn, qax, ql, qx, qae, Ev.kill, qad, qd, qay, qah, List.length_map, ↓qq, ↓reduceIte, List.length_cons, List.length_nil, zfe, Nat.reduceAdd, Nat.reduceEqDiff, reduceCtorEq, decide_true, decide_false, and_self, ne_eq, zfb, zfd, eq_self]
end
theorem qrv (n : Nat) : ∀ (a b : qaa), qd n (a ++ b) = (qd n a && qd n b)
  | [], b => by simp [qd]
  | x :: a, b => by simp only [List.cons_append, qd, qrv n a b, Bool.and_assoc]
theorem qrw {n : Nat} : ∀ {σ : qaa}, qd n σ = true ↔ ∀ x ∈ σ, SObj.lo n x = true
  | [] => by simp [qd]
  | x :: a => by simp only [qd, Bool.and_eq_true, qrw (σ := a), List.mem_cons, forall_eq_or_imp]
theorem quy {n : Nat} {σ : qaa} (h : qd n σ = true) (i : Nat) {x : SObj} (hx : x.lo n = true) : qd n (σ.set i x) = true := by
  rw [qrw] at h ⊢
  intro y hy
  rcases List.mem_or_eq_of_mem_set hy with hy | rfl
  · exact h y hy
  · exact hx
mutual
theorem q25 {n m : Nat} (h : n ≤ m) : ∀ (a : AV), a.lo n = true → a.lo m = true
  | .v _, _ => by simp only [AV.lo]
  | .agg cs, k => by simp only [AV.lo] at k ⊢; exact qrp h cs k
  | .tup cs, k => by simp only [AV.lo] at k ⊢; exact qrp h cs k
  | .fsl es _, k => by simp only [AV.lo] at k ⊢; exact qq0 h es k
  | .fptr cs, k => by simp only [AV.lo] at k ⊢; exact qrp h cs k
  | .sl o _ _ _ _, k => by simp only [AV.lo, decide_eq_true_eq] at k ⊢; omega
  | .ptr o _ _ _, k => by simp only [AV.lo, decide_eq_true_eq] at k ⊢; omega
  | .fn _ a b, k => by simp only [AV.lo, Bool.and_eq_true] at k ⊢; exact ⟨qrp h a k.1, qrp h b k.2⟩
  | .yld o, k => by simp only [AV.lo, decide_eq_true_eq] at k ⊢; omega
  | .mp o, k => by simp only [AV.lo, decide_eq_true_eq] at k ⊢; omega
theorem qrp {n m : Nat} (h : n ≤ m) : ∀ (l : List AV), los n l = true → los m l = true
  | [], _ => by simp only [los]
  | a :: l, k => by simp only [los, Bool.and_eq_true] at k ⊢; exact ⟨q25 h a k.1, qrp h l k.2⟩
theorem qq0 {n m : Nat} (h : n ≤ m) : ∀ (es : List (List AV)), qi0 n es = true → qi0 m es = true
  | [], _ => by simp only [qi0]
  | a :: l, k => by simp only [qi0, Bool.and_eq_true] at k ⊢; exact ⟨qrp h a k.1, qq0 h l k.2⟩
end
theorem q0i {n m : Nat} (h : n ≤ m) : ∀ (l : List (Nat × AV)), qai n l = true → qai m l = true
  | [], _ => by simp only [qai]
  | (_, a) :: r, k => by simp only [qai, Bool.and_eq_true] at k ⊢; exact ⟨q25 h a k.1, q0i h r k.2⟩
theorem qva {n m : Nat} (h : n ≤ m) (o : SObj) (k : o.lo n = true) : o.lo m = true := by
  cases o <;> simp only [SObj.lo] at k ⊢
  · exact qq0 h _ k
  · exact q0i h _ k
theorem qs7 {n m : Nat} (h : n ≤ m) {σ : qaa} (k : qd n σ = true) : qd m σ = true := by
  rw [qrw] at k ⊢
  exact fun x hx => qva h x (k x hx)
set_option maxRecDepth 10000
theorem qly (n : Nat) : ∀ (a b : List (List AV)), qi0 n (a ++ b) = (qi0 n a && qi0 n b)
  | [], b => by simp [qaf]
  | x :: a, b => by rw [List.cons_append, qaq, qaq, qly n a b, Bool.and_assoc]
theorem q4m (l : List Int) (c : Bool) (h : l.length ≤ 1000) : (evL T).call qfo [(.fsl ((l).map qcm) c)] [] = some (.sl 0 0 0 l.length false, [.row 1 (l.map qcm) 0]) := by
  have h' : l.length * 8 ≤ 140737488355328 := by omega
  rw [q6o qp5]
  simp only [qvo, qar, qace, h', Nat.lt_add_one, qw, qj, qk, List.length_map, ↓reduceIte, Nat.reducePow, zfc, and_self, Nat.lt_add_one, eq_self]
theorem quh (l : List Int) (c : Bool) (n : Int) (h : l.length ≤ 1000) : qaz (evL T) qi2 [(.fsl ((l).map qcm) c), (ii n)] = some (.fsl ((l ++ [n]).map qcm) false) := by
  have h' : (l.length + 1) * 8 ≤ 140737488355328 := by omega
  have htl : List.take l.length (l.map qcm) = l.map qcm := List.take_of_length_le (by simp)
  have htk : ∀ e : List AV, List.take (l.length + 1) (l.map qcm ++ [e]) = l.map qcm ++ [e] := fun e => List.take_of_length_le (by simp)
  have hr : (l ++ [n]).map qcm = l.map qcm ++ [[(ii n)]] := by rw [List.map_append]; rfl
  rw [qaz, qs q19 qy8]
  rw [hr]
  simp only [qnu, q4m l c h, h', htl, htk, qly, qar, qm, Ev.exec, qb, qe, qc, qoo, q27, Ev.AV.shift, qag, qsn, Ev.evs, Ev.Opnd.ev, Ev.Env.get, Ev.Env.set, Ev.look, qn, qc0, qh9, Ev.AV.cells, Ev.AV.uc, qv, Ev.AV.plain, ql, qx, qae, Ev.kill, qad, qd, qay, qw, qb2, qj, qk, qaf, qaq, qcb, qcc, qlc, qik, qgx, qfc, qgj, List.replicate_one, List.length_map, ↓qq, ↓reduceIte, List.length_cons, List.length_nil, List.length_append, List.getElem?_cons_zero, List.take_zero, List.drop_zero, List.nil_append, List.set_cons_zero, Nat.reduceAdd, Nat.reduceEqDiff, Nat.reduceMul, Nat.reduceLT, Nat.reduceLeDiff, Nat.reducePow, reduceCtorEq, decide_true, decide_false, zfc, zfa, and_self, and_true, ne_eq, zfb, zff, zfd, Nat.add_zero, Nat.lt_add_one, Nat.le_refl, eq_self]
set_option maxRecDepth 10000
def qgf : List (Int × AV) := [(1, .fn (.func qcw) [] []), (2, .fn (.func qcu) [] []), (3, .fn (.func qcl) [] []), (4, .fn (.func qch) [] []), (5, .fn (.func qck) [] []), (6, .fn (.func qc4) [] []), (7, .fn (.func qcv) [] []), (8, .fn (.func qc7) [] [])]
section
variable (a0 a1 a2 : Int) (am : Nat) (x : Ex) (gp gc gg : Nat)
theorem qtm (i : Nat) (hi : x.ev.proc = i) (hp : i < x.procs.length) :
    (evL T).call qa6 [.ptr 5 0 0 0] [.row 4 [[(ii a0), (ii a1), .sl 2 0 0 am false, (ii a2)]] 0, .row 4 [[(ii 0), (ii 0), .fsl [] false, (ii 0)]] 0, .row 4 ((x.procs).map Pr.r) gp, .row 6 ((x.out).map Evt.r) gc, .row 1 ((x.gone).map qfe) gg, .row 14 [[(ii x.r0), (ii x.r1), .sl 2 gp 0 x.procs.length false, (ii x.sum), (ii x.ev.time), (.fsl ((x.ev.key).map qcm) false), (ii x.ev.lp), (ii x.ev.kind), (ii x.ev.proc), (ii x.ev.arg), .sl 3 gc 0 x.out.length false, (ii x.n), .sl 4 gg 0 x.gone.length false, (bb x.over)]] 0, .mp .i64 qgf] = some (.ptr 2 gp i 0, [.row 4 [[(ii a0), (ii a1), .sl 2 0 0 am false, (ii a2)]] 0, .row 4 [[(ii 0), (ii 0), .fsl [] false, (ii 0)]] 0, .row 4 ((x.procs).map Pr.r) gp, .row 6 ((x.out).map Evt.r) gc, .row 1 ((x.gone).map qfe) gg, .row 14 [[(ii x.r0), (ii x.r1), .sl 2 gp 0 x.procs.length false, (ii x.sum), (ii x.ev.time), (.fsl ((x.ev.key).map qcm) false), (ii x.ev.lp), (ii x.ev.kind), (ii x.ev.proc), (ii x.ev.arg), .sl 3 gc 0 x.out.length false, (ii x.n), .sl 4 gg 0 x.gone.length false, (bb x.over)]] 0, .mp .i64 qgf]) := by
  rw [qs qkq qj6]
  simp only [qe5, hi, hp, Int.natCast_nonneg, Int.toNat_natCast, qar, qat, qac, qbq, Nat.reduceLT, qm, Ev.exec, qb, qe, qc, qag, Ev.Opnd.ev, Ev.Env.get, Ev.Env.set, Ev.look, qn, qh, qab, ql, qx, qae, Ev.kill, qad, qd, Ev.SObj.lo, qay, qw, qb2, qlg, qj, qk, qaf, qaq, ↓qq, ↓reduceIte, List.length_cons, List.length_nil, List.getElem?_cons_zero, List.getElem?_cons_succ, List.take_succ_cons, zfe, List.drop_succ_cons, List.drop_zero, List.head?_cons, Nat.reduceAdd, Nat.reduceEqDiff, Nat.reduceLT, reduceCtorEq, decide_true, zfc, zfa, and_self, zfd, Nat.add_zero, eq_self]
theorem qabj (k p a : Int) : (evL T).call qc6 [.ptr 5 0 0 0, (ii k), (ii p), (ii a)] [.row 4 [[(ii a0), (ii a1), .sl 2 0 0 am false, (ii a2)]] 0, .row 4 [[(ii 0), (ii 0), .fsl [] false, (ii 0)]] 0, .row 4 ((x.procs).map Pr.r) gp, .row 6 ((x.out).map Evt.r) gc, .row 1 ((x.gone).map qfe) gg, .row 14 [[(ii x.r0), (ii x.r1), .sl 2 gp 0 x.procs.length false, (ii x.sum), (ii x.ev.time), (.fsl ((x.ev.key).map qcm) false), (ii x.ev.lp), (ii x.ev.kind), (ii x.ev.proc), (ii x.ev.arg), .sl 3 gc 0 x.out.length false, (ii x.n), .sl 4 gg 0 x.gone.length false, (bb x.over)]] 0, .mp .i64 qgf] = some (.agg [(ii 0), .fsl [] false, (ii x.ev.lp), (ii k), (ii p), (ii a)], [.row 4 [[(ii a0), (ii a1), .sl 2 0 0 am false, (ii a2)]] 0, .row 4 [[(ii 0), (ii 0), .fsl [] false, (ii 0)]] 0, .row 4 ((x.procs).map Pr.r) gp, .row 6 ((x.out).map Evt.r) gc, .row 1 ((x.gone).map qfe) gg, .row 14 [[(ii x.r0), (ii x.r1), .sl 2 gp 0 x.procs.length false, (ii x.sum), (ii x.ev.time), (.fsl ((x.ev.key).map qcm) false), (ii x.ev.lp), (ii x.ev.kind), (ii x.ev.proc), (ii x.ev.arg), .sl 3 gc 0 x.out.length false, (ii x.n), .sl 4 gg 0 x.gone.length false, (bb x.over)]] 0, .mp .i64 qgf]) := by
  rw [qs qp9 qpm]
  simp only [qgw, qar, qat, qac, qbq, Nat.reduceLT, Nat.reduceLeDiff, qm, Ev.exec, qb, qe, qc, qag, Ev.Opnd.ev, Ev.Env.get, Ev.Env.set, Ev.look, qn, qh, qab, qff, Ev.AV.cells, Ev.AV.uc, qv, Ev.AV.plain, ql, qx, qae, Ev.kill, qad, qd, Ev.SObj.lo, qay, qbe, qw, qb2, qj, qk, qaf, qaq, ↓qq, ↓reduceIte, List.length_cons, List.length_nil, List.getElem?_cons_zero, List.getElem?_cons_succ, List.take_succ_cons, List.take_zero, zfe, List.drop_succ_cons, List.drop_zero, List.drop_nil, List.cons_append, List.nil_append, List.append_nil, List.set_cons_zero, List.set_cons_succ, List.head?_cons, Nat.reduceAdd, Nat.reduceEqDiff, Nat.reduceLT, Nat.reduceLeDiff, reduceCtorEq, decide_true, zfc, zfa, and_self, ne_eq, zfb, zff, zfd, Nat.le_refl, eq_self]
def qm7 (x : Ex) (d : Int) (gc : Nat) : Nat := if w64 (x.ev.time + d) > 1152921504606846976 then gc else gc + 1
theorem qvn (h : x.Small) (d : Int) (t0 lp k p a : Int) (ks : List Int) :
    (evL T).call qb3 [.ptr 5 0 0 0, (ii d), .agg [(ii t0), (.fsl ((ks).map qcm) false), (ii lp), (ii k), (ii p), (ii a)]] [.row 4 [[(ii a0), (ii a1), .sl 2 0 0 am false, (ii a2)]] 0, .row 4 [[(ii 0), (ii 0), .fsl [] false, (ii 0)]] 0, .row 4 ((x.procs).map Pr.r) gp, .row 6 ((x.out).map Evt.r) gc, .row 1 ((x.gone).map qfe) gg, .row 14 [[(ii x.r0), (ii x.r1), .sl 2 gp 0 x.procs.length false, (ii x.sum), (ii x.ev.time), (.fsl ((x.ev.key).map qcm) false), (ii x.ev.lp), (ii x.ev.kind), (ii x.ev.proc), (ii x.ev.arg), .sl 3 gc 0 x.out.length false, (ii x.n), .sl 4 gg 0 x.gone.length false, (bb x.over)]] 0, .mp .i64 qgf] = some ((.fsl ((x.kid).map qcm) false), [.row 4 [[(ii a0), (ii a1), .sl 2 0 0 am false, (ii a2)]] 0, .row 4 [[(ii 0), (ii 0), .fsl [] false, (ii 0)]] 0, .row 4 (((x.create d ⟨t0, ks, lp, k, p, a⟩).procs).map Pr.r) gp, .row 6 (((x.create d ⟨t0, ks, lp, k, p, a⟩).out).map Evt.r) (qm7 x d gc), .row 1 (((x.create d ⟨t0, ks, lp, k, p, a⟩).gone).map qfe) gg, .row 14 [[(ii ((x.create d ⟨t0, ks, lp, k, p, a⟩).r0)), (ii ((x.create d ⟨t0, ks, lp, k, p, a⟩).r1)), .sl 2 gp 0 (x.create d ⟨t0, ks, lp, k, p, a⟩).procs.length false, (ii ((x.create d ⟨t0, ks, lp, k, p, a⟩).sum)), (ii ((x.create d ⟨t0, ks, lp, k, p, a⟩).ev.time)), (.fsl (((x.create d ⟨t0, ks, lp, k, p, a⟩).ev.key).map qcm) false), (ii ((x.create d ⟨t0, ks, lp, k, p, a⟩).ev.lp)), (ii ((x.create d ⟨t0, ks, lp, k, p, a⟩).ev.kind)), (ii ((x.create d ⟨t0, ks, lp, k, p, a⟩).ev.proc)), (ii ((x.create d ⟨t0, ks, lp, k, p, a⟩).ev.arg)), .sl 3 (qm7 x d gc) 0 (x.create d ⟨t0, ks, lp, k, p, a⟩).out.length false, (ii ((x.create d ⟨t0, ks, lp, k, p, a⟩).n)), .sl 4 gg 0 (x.create d ⟨t0, ks, lp, k, p, a⟩).gone.length false, (bb ((x.create d ⟨t0, ks, lp, k, p, a⟩).over))]] 0, .mp .i64 qgf]) := by
  have hk := quh x.ev.key false x.n h.key
  have hs : (x.out.length + 1) * 64 ≤ 140737488355328 := by have := h.out; omega
  have htl : List.take x.out.length (x.out.map Evt.r) = x.out.map Evt.r := List.take_of_length_le (by simp)
  have hlo : los 7 ([(ii x.r0), (ii x.r1), .sl 2 gp 0 x.procs.length false, (ii x.sum), (ii x.ev.time), (.fsl ((x.ev.key).map qcm) false), (ii x.ev.lp), (ii x.ev.kind), (ii x.ev.proc), (ii x.ev.arg), .sl 3 gc 0 x.out.length false, (ii x.n), .sl 4 gg 0 x.gone.length false, (bb x.over)]) = true := by simp only [qar, Nat.reduceLT, qay, qw, qb2, qj, qk, Nat.reduceLT, decide_true, zfc, eq_self]
  rw [qs qnj qm9]
  unfold Ex.create qm7 Ex.kid
  by_cases ho : w64 (x.ev.time + d) > 1152921504606846976
  · have ho' : IntKind.i64.wrap (x.ev.time + d) > 1152921504606846976 := ho
    simp only [ho, if_true]
    simp only [qek, hk, ho', qar, qat, qac, qbq, Nat.reduceLT, Nat.reduceLeDiff, qm, Ev.exec, qb, qe, qc, qaw, qag, Ev.evs, Ev.Opnd.ev, Ev.Env.get, Ev.Env.set, Ev.look, qn, qh, qab, Ev.AV.cells, Ev.AV.uc, qv, Ev.AV.plain, qaj, qav, ql, qx, qae, Ev.kill, qad, qd, Ev.SObj.lo, qay, qw, qb2, qj, qk, qaf, qaq, ↓qq, ↓reduceIte, List.length_cons, List.length_nil, List.getElem?_cons_zero, List.getElem?_cons_succ, List.take_succ_cons, List.take_zero, List.drop_succ_cons, List.drop_zero, List.drop_nil, List.cons_append, List.nil_append, List.append_nil, List.set_cons_zero, List.set_cons_succ, List.head?_cons, Nat.reduceAdd, Nat.reduceEqDiff, Nat.reduceLT, Nat.reduceLeDiff, reduceCtorEq, decide_true, zfc, zfa, and_self, ne_eq, zfb, zff, zfd, Nat.add_zero, Nat.le_refl, eq_self]
    done
  · have ho' : ¬ IntKind.i64.wrap (x.ev.time + d) > 1152921504606846976 := ho
    simp only [ho, if_false]
    have hr : ∀ e : Evt, (x.out ++ [e]).map Evt.r = x.out.map Evt.r ++ [e.r] := fun e => by rw [List.map_append]; rfl
    simp only [qek, hk, ho', hs, htl, hr, qly, Evt.r, qar, qat, qac, qbq, Nat.reduceLT, Nat.reduceLeDiff, qm, Ev.exec, qb, qe, qc, qaw, qag, qsn, Ev.evs, Ev.Opnd.ev, Ev.Env.get, Ev.Env.set, Ev.look, qn, qh, qc0, qab, qh9, Ev.AV.cells, Ev.AV.uc, qv, Ev.AV.plain, qaj, qav, ql, qx, qae, Ev.kill, qad, qd, Ev.SObj.lo, qay, qw, qb2, qj, qk, qaf, qaq, qcb, qcc, List.replicate_one, List.length_map, ↓qq, ↓reduceIte, List.length_cons, List.length_nil, List.length_append, List.getElem?_cons_zero, List.getElem?_cons_succ, List.take_succ_cons, List.take_zero, zfe, List.drop_succ_cons, List.drop_zero, List.cons_append, List.nil_append, List.set_cons_zero, List.set_cons_succ, List.head?_cons, Nat.reduceAdd, Nat.reduceEqDiff, Nat.reduceMul, Nat.reduceLT, Nat.reduceLeDiff, Nat.reducePow, reduceCtorEq, decide_true, decide_false, zfc, zfa, and_self, ne_eq, zfb, zff, zfd, Nat.add_zero, Nat.lt_add_one, Nat.le_refl, eq_self]
    done
end
set_option maxRecDepth 10000
theorem eq_table : eqBm qgf qgf = true := by
  have h : decide (eqBm qgf qgf = true) = true := by kernel_rfl
  exact of_decide_eq_true h
def Ex.ownE (x : Ex) (k p a : Int) : Evt := ⟨0, [], x.ev.lp, k, p, a⟩
def Ex.setP (x : Ex) (i : Nat) (q : Pr) : Ex := { x with procs := x.procs.set i q }
def Ex.stopE (x : Ex) (i : Nat) (q : Pr) : Ex := if 0 < q.timer.length then { x with gone := x.gone ++ [q.timer], procs := x.procs.set i { q with timer := [] } } else x
section
variable (a0 a1 a2 : Int) (am : Nat) (x : Ex) (gp gc gg : Nat) (op : OpI)
theorem hold_ev (h : x.Small) : (evL T).call qcw [.ptr 5 0 0 0, (.agg [(ii op.code), (ii op.a), (ii op.b), (ii op.c)])] [.row 4 [[(ii a0), (ii a1), .sl 2 0 0 am false, (ii a2)]] 0, .row 4 [[(ii 0), (ii 0), .fsl [] false, (ii 0)]] 0, .row 4 ((x.procs).map Pr.r) gp, .row 6 ((x.out).map Evt.r) gc, .row 1 ((x.gone).map qfe) gg, .row 14 [[(ii x.r0), (ii x.r1), .sl 2 gp 0 x.procs.length false, (ii x.sum), (ii x.ev.time), (.fsl ((x.ev.key).map qcm) false), (ii x.ev.lp), (ii x.ev.kind), (ii x.ev.proc), (ii x.ev.arg), .sl 3 gc 0 x.out.length false, (ii x.n), .sl 4 gg 0 x.gone.length false, (bb x.over)]] 0, .mp .i64 qgf] = some ((ii 1), [.row 4 [[(ii a0), (ii a1), .sl 2 0 0 am false, (ii a2)]] 0, .row 4 [[(ii 0), (ii 0), .fsl [] false, (ii 0)]] 0, .row 4 (((x.create op.a (x.ownE 1 x.ev.proc 0)).procs).map Pr.r) gp, .row 6 (((x.create op.a (x.ownE 1 x.ev.proc 0)).out).map Evt.r) (qm7 x op.a gc), .row 1 (((x.create op.a (x.ownE 1 x.ev.proc 0)).gone).map qfe) gg, .row 14 [[(ii ((x.create op.a (x.ownE 1 x.ev.proc 0)).r0)), (ii ((x.create op.a (x.ownE 1 x.ev.proc 0)).r1)), .sl 2 gp 0 (x.create op.a (x.ownE 1 x.ev.proc 0)).procs.length false, (ii ((x.create op.a (x.ownE 1 x.ev.proc 0)).sum)), (ii ((x.create op.a (x.ownE 1 x.ev.proc 0)).ev.time)), (.fsl (((x.create op.a (x.ownE 1 x.ev.proc 0)).ev.key).map qcm) false), (ii ((x.create op.a (x.ownE 1 x.ev.proc 0)).ev.lp)), (ii ((x.create op.a (x.ownE 1 x.ev.proc 0)).ev.kind)), (ii ((x.create op.a (x.ownE 1 x.ev.proc 0)).ev.proc)), (ii ((x.create op.a (x.ownE 1 x.ev.proc 0)).ev.arg)), .sl 3 (qm7 x op.a gc) 0 (x.create op.a (x.ownE 1 x.ev.proc 0)).out.length false, (ii ((x.create op.a (x.ownE 1 x.ev.proc 0)).n)), .sl 4 gg 0 (x.create op.a (x.ownE 1 x.ev.proc 0)).gone.length false, (bb ((x.create op.a (x.ownE 1 x.ev.proc 0)).over))]] 0, .mp .i64 qgf]) := by
  have h1 := qabj a0 a1 a2 am x gp gc gg 1 x.ev.proc 0
  have h2 := qvn a0 a1 a2 am x gp gc gg h op.a 0 x.ev.lp 1 x.ev.proc 0 []
  simp only [List.map_nil] at h2
  rw [qs qo8 qoq]
  simp only [qgb, h1, h2, Ex.ownE, qar, qat, qac, qbq, Nat.reduceLT, qm, Ev.exec, qb, qe, qc, qd2, qag, Ev.evs, Ev.Opnd.ev, Ev.Env.get, Ev.Env.set, Ev.look, qn, qh, qab, Ev.AV.cells, qv, Ev.AV.plain, ql, qx, qae, Ev.kill, qad, qd, Ev.SObj.lo, qay, qw, qb2, qj, qk, qaf, qaq, ↓qq, ↓reduceIte, List.length_cons, List.length_nil, List.getElem?_cons_zero, List.getElem?_cons_succ, List.take_succ_cons, zfe, List.drop_succ_cons, List.drop_zero, List.head?_cons, Nat.reduceAdd, Nat.reduceEqDiff, Nat.reduceLT, reduceCtorEq, decide_true, zfc, zfa, and_self, ne_eq, zfb, zff, zfd, eq_self]
theorem send_ev (h : x.Small) : (evL T).call qcu [.ptr 5 0 0 0, (.agg [(ii op.code), (ii op.a), (ii op.b), (ii op.c)])] [.row 4 [[(ii a0), (ii a1), .sl 2 0 0 am false, (ii a2)]] 0, .row 4 [[(ii 0), (ii 0), .fsl [] false, (ii 0)]] 0, .row 4 ((x.procs).map Pr.r) gp, .row 6 ((x.out).map Evt.r) gc, .row 1 ((x.gone).map qfe) gg, .row 14 [[(ii x.r0), (ii x.r1), .sl 2 gp 0 x.procs.length false, (ii x.sum), (ii x.ev.time), (.fsl ((x.ev.key).map qcm) false), (ii x.ev.lp), (ii x.ev.kind), (ii x.ev.proc), (ii x.ev.arg), .sl 3 gc 0 x.out.length false, (ii x.n), .sl 4 gg 0 x.gone.length false, (bb x.over)]] 0, .mp .i64 qgf] = some ((ii 0), [.row 4 [[(ii a0), (ii a1), .sl 2 0 0 am false, (ii a2)]] 0, .row 4 [[(ii 0), (ii 0), .fsl [] false, (ii 0)]] 0, .row 4 (((x.create op.c ⟨0, [], op.a, 3, 0, op.b⟩).procs).map Pr.r) gp, .row 6 (((x.create op.c ⟨0, [], op.a, 3, 0, op.b⟩).out).map Evt.r) (qm7 x op.c gc), .row 1 (((x.create op.c ⟨0, [], op.a, 3, 0, op.b⟩).gone).map qfe) gg, .row 14 [[(ii ((x.create op.c ⟨0, [], op.a, 3, 0, op.b⟩).r0)), (ii ((x.create op.c ⟨0, [], op.a, 3, 0, op.b⟩).r1)), .sl 2 gp 0 (x.create op.c ⟨0, [], op.a, 3, 0, op.b⟩).procs.length false, (ii ((x.create op.c ⟨0, [], op.a, 3, 0, op.b⟩).sum)), (ii ((x.create op.c ⟨0, [], op.a, 3, 0, op.b⟩).ev.time)), (.fsl (((x.create op.c ⟨0, [], op.a, 3, 0, op.b⟩).ev.key).map qcm) false), (ii ((x.create op.c ⟨0, [], op.a, 3, 0, op.b⟩).ev.lp)), (ii ((x.create op.c ⟨0, [], op.a, 3, 0, op.b⟩).ev.kind)), (ii ((x.create op.c ⟨0, [], op.a, 3, 0, op.b⟩).ev.proc)), (ii ((x.create op.c ⟨0, [], op.a, 3, 0, op.b⟩).ev.arg)), .sl 3 (qm7 x op.c gc) 0 (x.create op.c ⟨0, [], op.a, 3, 0, op.b⟩).out.length false, (ii ((x.create op.c ⟨0, [], op.a, 3, 0, op.b⟩).n)), .sl 4 gg 0 (x.create op.c ⟨0, [], op.a, 3, 0, op.b⟩).gone.length false, (bb ((x.create op.c ⟨0, [], op.a, 3, 0, op.b⟩).over))]] 0, .mp .i64 qgf]) := by
  have h2 := qvn a0 a1 a2 am x gp gc gg h op.c 0 op.a 3 0 op.b []
  simp only [List.map_nil] at h2
  rw [qs qo6 qn8]
  simp only [qge, h2, qar, qat, qac, qbq, Nat.reduceLT, Nat.reduceLeDiff, qm, Ev.exec, qb, qe, qc, qd2, qag, Ev.evs, Ev.Opnd.ev, Ev.Env.get, Ev.Env.set, Ev.look, qn, qh, qab, qff, Ev.AV.cells, Ev.AV.uc, qv, Ev.AV.plain, ql, qx, qae, Ev.kill, qad, qd, Ev.SObj.lo, qay, qw, qb2, qj, qk, qaf, qaq, ↓qq, ↓reduceIte, List.length_cons, List.length_nil, List.take_succ_cons, List.take_zero, zfe, List.drop_succ_cons, List.drop_zero, List.drop_nil, List.cons_append, List.nil_append, List.append_nil, List.head?_cons, Nat.reduceAdd, Nat.reduceEqDiff, Nat.reduceLT, Nat.reduceLeDiff, reduceCtorEq, decide_true, zfc, zfa, and_self, ne_eq, zfb, zff, zfd, Nat.le_refl, eq_self]
theorem end_ev : (evL T).call qc7 [.ptr 5 0 0 0, (.agg [(ii op.code), (ii op.a), (ii op.b), (ii op.c)])] [.row 4 [[(ii a0), (ii a1), .sl 2 0 0 am false, (ii a2)]] 0, .row 4 [[(ii 0), (ii 0), .fsl [] false, (ii 0)]] 0, .row 4 ((x.procs).map Pr.r) gp, .row 6 ((x.out).map Evt.r) gc, .row 1 ((x.gone).map qfe) gg, .row 14 [[(ii x.r0), (ii x.r1), .sl 2 gp 0 x.procs.length false, (ii x.sum), (ii x.ev.time), (.fsl ((x.ev.key).map qcm) false), (ii x.ev.lp), (ii x.ev.kind), (ii x.ev.proc), (ii x.ev.arg), .sl 3 gc 0 x.out.length false, (ii x.n), .sl 4 gg 0 x.gone.length false, (bb x.over)]] 0, .mp .i64 qgf] = some ((ii 2), [.row 4 [[(ii a0), (ii a1), .sl 2 0 0 am false, (ii a2)]] 0, .row 4 [[(ii 0), (ii 0), .fsl [] false, (ii 0)]] 0, .row 4 ((x.procs).map Pr.r) gp, .row 6 ((x.out).map Evt.r) gc, .row 1 ((x.gone).map qfe) gg, .row 14 [[(ii x.r0), (ii x.r1), .sl 2 gp 0 x.procs.length false, (ii x.sum), (ii x.ev.time), (.fsl ((x.ev.key).map qcm) false), (ii x.ev.lp), (ii x.ev.kind), (ii x.ev.proc), (ii x.ev.arg), .sl 3 gc 0 x.out.length false, (ii x.n), .sl 4 gg 0 x.gone.length false, (bb x.over)]] 0, .mp .i64 qgf]) := by
  rw [qs qqm qpj]
  simp only [qgs, qar, qat, qac, qbq, Nat.reduceLT, qm, Ev.exec, qb, qe, qc, qag, Ev.Opnd.ev, Ev.Env.get, Ev.Env.set, Ev.look, qn, Ev.AV.cells, qv, Ev.AV.plain, ql, qx, qae, Ev.kill, qad, qd, Ev.SObj.lo, qay, qw, qb2, qj, qk, qaf, qaq, ↓qq, ↓reduceIte, List.length_cons, List.length_nil, List.take_succ_cons, zfe, Nat.reduceAdd, Nat.reduceLT, reduceCtorEq, decide_true, zfc, and_self, ne_eq, zfb, zff, zfd, eq_self]
def Ex.reg (x : Ex) (k : Int) : Int := if k = 0 then x.r0 else x.r1
def Ex.setReg (x : Ex) (k v : Int) : Ex := if k = 0 then { x with r0 := v } else { x with r1 := v }
theorem add_ev (ha : op.a = 0 ∨ op.a = 1) : (evL T).call qc4 [.ptr 5 0 0 0, (.agg [(ii op.code), (ii op.a), (ii op.b), (ii op.c)])] [.row 4 [[(ii a0), (ii a1), .sl 2 0 0 am false, (ii a2)]] 0, .row 4 [[(ii 0), (ii 0), .fsl [] false, (ii 0)]] 0, .row 4 ((x.procs).map Pr.r) gp, .row 6 ((x.out).map Evt.r) gc, .row 1 ((x.gone).map qfe) gg, .row 14 [[(ii x.r0), (ii x.r1), .sl 2 gp 0 x.procs.length false, (ii x.sum), (ii x.ev.time), (.fsl ((x.ev.key).map qcm) false), (ii x.ev.lp), (ii x.ev.kind), (ii x.ev.proc), (ii x.ev.arg), .sl 3 gc 0 x.out.length false, (ii x.n), .sl 4 gg 0 x.gone.length false, (bb x.over)]] 0, .mp .i64 qgf] = some ((ii 0), [.row 4 [[(ii a0), (ii a1), .sl 2 0 0 am false, (ii a2)]] 0, .row 4 [[(ii 0), (ii 0), .fsl [] false, (ii 0)]] 0, .row 4 (((x.setReg op.a (w64 (x.reg op.a + op.b))).procs).map Pr.r) gp, .row 6 (((x.setReg op.a (w64 (x.reg op.a + op.b))).out).map Evt.r) gc, .row 1 (((x.setReg op.a (w64 (x.reg op.a + op.b))).gone).map qfe) gg, .row 14 [[(ii ((x.setReg op.a (w64 (x.reg op.a + op.b))).r0)), (ii ((x.setReg op.a (w64 (x.reg op.a + op.b))).r1)), .sl 2 gp 0 (x.setReg op.a (w64 (x.reg op.a + op.b))).procs.length false, (ii ((x.setReg op.a (w64 (x.reg op.a + op.b))).sum)), (ii ((x.setReg op.a (w64 (x.reg op.a + op.b))).ev.time)), (.fsl (((x.setReg op.a (w64 (x.reg op.a + op.b))).ev.key).map qcm) false), (ii ((x.setReg op.a (w64 (x.reg op.a + op.b))).ev.lp)), (ii ((x.setReg op.a (w64 (x.reg op.a + op.b))).ev.kind)), (ii ((x.setReg op.a (w64 (x.reg op.a + op.b))).ev.proc)), (ii ((x.setReg op.a (w64 (x.reg op.a + op.b))).ev.arg)), .sl 3 gc 0 (x.setReg op.a (w64 (x.reg op.a + op.b))).out.length false, (ii ((x.setReg op.a (w64 (x.reg op.a + op.b))).n)), .sl 4 gg 0 (x.setReg op.a (w64 (x.reg op.a + op.b))).gone.length false, (bb ((x.setReg op.a (w64 (x.reg op.a + op.b))).over))]] 0, .mp .i64 qgf]) := by
  rw [qs qql qo4]
  rcases ha with ha | ha
  · simp only [qfl, ha, Ex.setReg, Ex.reg, qar, qat, qac, qbq, Nat.reduceLT, Nat.reduceLeDiff, qm, Ev.exec, qb, qe, qc, qag, Ev.Opnd.ev, Ev.Env.get, Ev.Env.set, Ev.look, qn, qh, qab, Ev.AV.cells, Ev.AV.uc, qv, Ev.AV.plain, qaj, ql, qx, qae, Ev.kill, qad, qd, Ev.SObj.lo, qay, qw, qb2, qj, qk, qaf, qaq, ↓qq, ↓reduceIte, List.length_cons, List.length_nil, List.getElem?_cons_zero, List.getElem?_cons_succ, List.take_succ_cons, List.take_zero, zfe, List.drop_succ_cons, List.drop_zero, List.cons_append, List.nil_append, List.set_cons_zero, List.set_cons_succ, List.head?_cons, Nat.reduceAdd, Nat.reduceEqDiff, Nat.reduceMul, Nat.reduceLT, Nat.reduceLeDiff, Int.reduceLE, Int.reduceToNat, reduceCtorEq, decide_true, zfc, zfa, and_self, ne_eq, zfb, zff, zfd, Nat.add_zero, eq_self]
  · simp only [qfl, ha, Ex.setReg, Ex.reg, qar, qat, qac, qbq, Nat.reduceLT, Nat.reduceLeDiff, qm, Ev.exec, qb, qe, qc, qag, Ev.Opnd.ev, Ev.Env.get, Ev.Env.set, Ev.look, qn, qh, qab, Ev.AV.cells, Ev.AV.uc, qv, Ev.AV.plain, qaj, ql, qx, qae, Ev.kill, qad, qd, Ev.SObj.lo, qay, qw, qb2, qj, qk, qaf, qaq, ↓qq, ↓reduceIte, List.length_cons, List.length_nil, List.getElem?_cons_zero, List.getElem?_cons_succ, List.take_succ_cons, List.take_zero, zfe, List.drop_succ_cons, List.drop_zero, List.cons_append, List.nil_append, List.set_cons_zero, List.set_cons_succ, List.head?_cons, Nat.reduceAdd, Nat.reduceEqDiff, Nat.reduceMul, Nat.reduceLT, Nat.reduceLeDiff, Int.reduceLE, Int.reduceToNat, Int.reduceEq, reduceCtorEq, decide_true, zfc, zfa, and_self, ne_eq, zfb, zff, zfd, Nat.add_zero, Nat.lt_add_one, eq_self]
section
variable (i : Nat) (q : Pr) (hi : x.ev.proc = i) (hq : x.procs[i]? = some q)
include hi hq
theorem less_ev (ha : op.a = 0 ∨ op.a = 1) : (evL T).call qcv [.ptr 5 0 0 0, (.agg [(ii op.code), (ii op.a), (ii op.b), (ii op.c)])] [.row 4 [[(ii a0), (ii a1), .sl 2 0 0 am false, (ii a2)]] 0, .row 4 [[(ii 0), (ii 0), .fsl [] false, (ii 0)]] 0, .row 4 ((x.procs).map Pr.r) gp, .row 6 ((x.out).map Evt.r) gc, .row 1 ((x.gone).map qfe) gg, .row 14 [[(ii x.r0), (ii x.r1), .sl 2 gp 0 x.procs.length false, (ii x.sum), (ii x.ev.time), (.fsl ((x.ev.key).map qcm) false), (ii x.ev.lp), (ii x.ev.kind), (ii x.ev.proc), (ii x.ev.arg), .sl 3 gc 0 x.out.length false, (ii x.n), .sl 4 gg 0 x.gone.length false, (bb x.over)]] 0, .mp .i64 qgf] = some ((ii 0), [.row 4 [[(ii a0), (ii a1), .sl 2 0 0 am false, (ii a2)]] 0, .row 4 [[(ii 0), (ii 0), .fsl [] false, (ii 0)]] 0, .row 4 (((if x.reg op.a < op.b then x.setP i { q with pc := op.c } else x).procs).map Pr.r) gp, .row 6 (((if x.reg op.a < op.b then x.setP i { q with pc := op.c } else x).out).map Evt.r) gc, .row 1 (((if x.reg op.a < op.b then x.setP i { q with pc := op.c } else x).gone).map qfe) gg, .row 14 [[(ii ((if x.reg op.a < op.b then x.setP i { q with pc := op.c } else x).r0)), (ii ((if x.reg op.a < op.b then x.setP i { q with pc := op.c } else x).r1)), .sl 2 gp 0 (if x.reg op.a < op.b then x.setP i { q with pc := op.c } else x).procs.length false, (ii ((if x.reg op.a < op.b then x.setP i { q with pc := op.c } else x).sum)), (ii ((if x.reg op.a < op.b then x.setP i { q with pc := op.c } else x).ev.time)), (.fsl (((if x.reg op.a < op.b then x.setP i { q with pc := op.c } else x).ev.key).map qcm) false), (ii ((if x.reg op.a < op.b then x.setP i { q with pc := op.c } else x).ev.lp)), (ii ((if x.reg op.a < op.b then x.setP i { q with pc := op.c } else x).ev.kind)), (ii ((if x.reg op.a < op.b then x.setP i { q with pc := op.c } else x).ev.proc)), (ii ((if x.reg op.a < op.b then x.setP i { q with pc := op.c } else x).ev.arg)), .sl 3 gc 0 (if x.reg op.a < op.b then x.setP i { q with pc := op.c } else x).out.length false, (ii ((if x.reg op.a < op.b then x.setP i { q with pc := op.c } else x).n)), .sl 4 gg 0 (if x.reg op.a < op.b then x.setP i { q with pc := op.c } else x).gone.length false, (bb ((if x.reg op.a < op.b then x.setP i { q with pc := op.c } else x).over))]] 0, .mp .i64 qgf]) := by
  have hp := (List.getElem?_eq_some_iff.1 hq).1
  have h1 := qtm a0 a1 a2 am x gp gc gg i hi hp
  have hset : (x.procs.map Pr.r).set i [(ii q.prog), (ii op.c), (bb q.alive), (.fsl ((q.timer).map qcm) false)] = (x.procs.set i { q with pc := op.c }).map Pr.r := by rw [List.map_set]; rfl
  have hl : (x.procs.set i { q with pc := op.c }).length = x.procs.length := by simp
  rw [qs qpn qoa]
  unfold Ex.reg
  rcases ha with ha | ha
  · by_cases hlt : x.r0 < op.b
    · simp only [qdl, ha, hlt, Ex.setP, h1, hl, List.getElem?_map, Option.map_some, hq, Pr.r, qar, qat, qac, qbq, Nat.reduceLT, Nat.reduceLeDiff, qm, Ev.exec, qb, qe, qc, qd2, qag, Ev.evs, Ev.Opnd.ev, Ev.Env.get, Ev.Env.set, Ev.look, qn, qh, qab, Ev.AV.cells, Ev.AV.uc, qv, Ev.AV.plain, qo, ql, qx, qae, Ev.kill, qad, qd, Ev.SObj.lo, qay, qw, qb2, qj, qk, qaf, qaq, ↓qq, ↓reduceIte, List.length_cons, List.length_nil, List.getElem?_cons_zero, List.getElem?_cons_succ, List.take_succ_cons, List.take_zero, zfe, List.drop_succ_cons, List.drop_zero, List.cons_append, List.nil_append, List.set_cons_zero, List.set_cons_succ, List.head?_cons, Nat.reduceAdd, Nat.reduceEqDiff, Nat.reduceMul, Nat.reduceLT, Nat.reduceLeDiff, Int.reduceLE, Int.reduceToNat, reduceCtorEq, decide_true, zfc, zfa, and_self, ne_eq, zfb, zff, zfd, Nat.add_zero, eq_self, hset]
    · simp only [qdl, ha, hlt, qar, qat, qac, qbq, Nat.reduceLT, qm, Ev.exec, qb, qe, qc, qag, Ev.Opnd.ev, Ev.Env.get, Ev.Env.set, Ev.look, qn, qh, qab, Ev.AV.cells, qv, Ev.AV.plain, qo, ql, qx, qae, Ev.kill, qad, qd, Ev.SObj.lo, qay, qw, qb2, qj, qk, qaf, qaq, ↓qq, ↓reduceIte, List.length_cons, List.length_nil, List.getElem?_cons_zero, List.getElem?_cons_succ, List.take_succ_cons, zfe, List.drop_succ_cons, List.drop_zero, List.head?_cons, Nat.reduceAdd, Nat.reduceEqDiff, Nat.reduceMul, Nat.reduceLT, Int.reduceLE, Int.reduceToNat, reduceCtorEq, decide_true, decide_false, zfc, zfa, and_self, ne_eq, zfb, zff, zfd, Nat.add_zero, eq_self]
  · have h01 : ¬ (1 : Int) = 0 := by decide
    by_cases hlt : x.r1 < op.b
    · simp only [qdl, ha, h01, hlt, Ex.setP, h1, hl, List.getElem?_map, Option.map_some, hq, Pr.r, qar, qat, qac, qbq, Nat.reduceLT, Nat.reduceLeDiff, qm, Ev.exec, qb, qe, qc, qd2, qag, Ev.evs, Ev.Opnd.ev, Ev.Env.get, Ev.Env.set, Ev.look, qn, qh, qab, Ev.AV.cells, Ev.AV.uc, qv, Ev.AV.plain, qo, ql, qx, qae, Ev.kill, qad, qd, Ev.SObj.lo, qay, qw, qb2, qj, qk, qaf, qaq, ↓qq, ↓reduceIte, List.length_cons, List.length_nil, List.getElem?_cons_zero, List.getElem?_cons_succ, List.take_succ_cons, List.take_zero, zfe, List.drop_succ_cons, List.drop_zero, List.cons_append, List.nil_append, List.set_cons_zero, List.set_cons_succ, List.head?_cons, Nat.reduceAdd, Nat.reduceEqDiff, Nat.reduceMul, Nat.reduceLT, Nat.reduceLeDiff, Int.reduceLE, Int.reduceToNat, reduceCtorEq, decide_true, zfc, zfa, and_self, ne_eq, zfb, zff, zfd, Nat.add_zero, Nat.lt_add_one, eq_self, hset]
    · simp only [qdl, ha, h01, hlt, qar, qat, qac, qbq, Nat.reduceLT, qm, Ev.exec, qb, qe, qc, qag, Ev.Opnd.ev, Ev.Env.get, Ev.Env.set, Ev.look, qn, qh, qab, Ev.AV.cells, qv, Ev.AV.plain, qo, ql, qx, qae, Ev.kill, qad, qd, Ev.SObj.lo, qay, qw, qb2, qj, qk, qaf, qaq, ↓qq, ↓reduceIte, List.length_cons, List.length_nil, List.getElem?_cons_zero, List.getElem?_cons_succ, List.take_succ_cons, zfe, List.drop_succ_cons, List.drop_zero, List.head?_cons, Nat.reduceAdd, Nat.reduceEqDiff, Nat.reduceMul, Nat.reduceLT, Int.reduceLE, Int.reduceToNat, reduceCtorEq, decide_true, decide_false, zfc, zfa, and_self, ne_eq, zfb, zff, zfd, Nat.add_zero, Nat.lt_add_one, eq_self]
theorem qabl (h : x.Small) : (evL T).call qch [.ptr 5 0 0 0, (.agg [(ii op.code), (ii op.a), (ii op.b), (ii op.c)])] [.row 4 [[(ii a0), (ii a1), .sl 2 0 0 am false, (ii a2)]] 0, .row 4 [[(ii 0), (ii 0), .fsl [] false, (ii 0)]] 0, .row 4 ((x.procs).map Pr.r) gp, .row 6 ((x.out).map Evt.r) gc, .row 1 ((x.gone).map qfe) gg, .row 14 [[(ii x.r0), (ii x.r1), .sl 2 gp 0 x.procs.length false, (ii x.sum), (ii x.ev.time), (.fsl ((x.ev.key).map qcm) false), (ii x.ev.lp), (ii x.ev.kind), (ii x.ev.proc), (ii x.ev.arg), .sl 3 gc 0 x.out.length false, (ii x.n), .sl 4 gg 0 x.gone.length false, (bb x.over)]] 0, .mp .i64 qgf] = some ((ii 0), [.row 4 [[(ii a0), (ii a1), .sl 2 0 0 am false, (ii a2)]] 0, .row 4 [[(ii 0), (ii 0), .fsl [] false, (ii 0)]] 0, .row 4 (((x.stopE i q).procs).map Pr.r) gp, .row 6 (((x.stopE i q).out).map Evt.r) gc, .row 1 (((x.stopE i q).gone).map qfe) (if 0 < q.timer.length then gg + 1 else gg), .row 14 [[(ii ((x.stopE i q).r0)), (ii ((x.stopE i q).r1)), .sl 2 gp 0 (x.stopE i q).procs.length false, (ii ((x.stopE i q).sum)), (ii ((x.stopE i q).ev.time)), (.fsl (((x.stopE i q).ev.key).map qcm) false), (ii ((x.stopE i q).ev.lp)), (ii ((x.stopE i q).ev.kind)), (ii ((x.stopE i q).ev.proc)), (ii ((x.stopE i q).ev.arg)), .sl 3 gc 0 (x.stopE i q).out.length false, (ii ((x.stopE i q).n)), .sl 4 (if 0 < q.timer.length then gg + 1 else gg) 0 (x.stopE i q).gone.length false, (bb ((x.stopE i q).over))]] 0, .mp .i64 qgf]) := by
  have hp := (List.getElem?_eq_some_iff.1 hq).1
  have h1 := qtm a0 a1 a2 am x gp gc gg i hi hp
  have hset : (x.procs.map Pr.r).set i [(ii q.prog), (ii q.pc), (bb q.alive), .fsl [] false] = (x.procs.set i { q with timer := [] }).map Pr.r := by rw [List.map_set]; rfl
  have hl : (x.procs.set i { q with timer := [] }).length = x.procs.length := by simp
  have hs : (x.gone.length + 1) * 24 ≤ 140737488355328 := by have := h.gone; omega
  have htl : List.take x.gone.length (x.gone.map qfe) = x.gone.map qfe := List.take_of_length_le (by simp)
  have hr : ∀ e : List Int, (x.gone ++ [e]).map qfe = x.gone.map qfe ++ [qfe e] := fun e => by rw [List.map_append]; rfl
  rw [qs qo5 qn7]
  unfold Ex.stopE
  by_cases ht : 0 < q.timer.length
  · have ht' : (q.timer.length : Int) > 0 := by omega
    simp only [qfb, ht, ht', h1, hl, hs, htl, hr, qly, qfe, List.getElem?_map, Option.map_some, hq, Pr.r, qar, qat, qac, qbq, Nat.reduceLT, Nat.reduceLeDiff, qm, Ev.exec, qb, qe, qc, qd2, qag, qsn, Ev.evs, Ev.Opnd.ev, Ev.Env.get, Ev.Env.set, Ev.look, qn, qh, qc0, qab, qh9, Ev.AV.cells, Ev.AV.uc, qv, Ev.AV.plain, qav, ql, qx, qae, Ev.kill, qad, qd, Ev.SObj.lo, qay, qw, qb2, qj, qk, qaf, qaq, qcb, qcc, List.replicate_one, List.length_map, ↓qq, ↓reduceIte, List.length_cons, List.length_nil, List.length_append, List.getElem?_cons_zero, List.getElem?_cons_succ, List.take_succ_cons, List.take_zero, zfe, List.drop_succ_cons, List.drop_zero, List.drop_nil, List.cons_append, List.nil_append, List.append_nil, List.set_cons_zero, List.set_cons_succ, List.head?_cons, Nat.reduceAdd, Nat.reduceEqDiff, Nat.reduceMul, Nat.reduceLT, Nat.reduceLeDiff, Nat.reducePow, reduceCtorEq, decide_true, zfc, zfa, and_self, ne_eq, zfb, zff, zfd, Nat.lt_add_one, Nat.le_refl, eq_self, hset]
  · have ht' : ¬ (q.timer.length : Int) > 0 := by omega
    simp only [qfb, ht, ht', h1, List.getElem?_map, Option.map_some, hq, Pr.r, qar, qat, qac, qbq, Nat.reduceLT, qm, Ev.exec, qb, qe, qc, qd2, qag, Ev.evs, Ev.Opnd.ev, Ev.Env.get, Ev.Env.set, Ev.look, qn, qh, qab, Ev.AV.cells, qv, Ev.AV.plain, qav, ql, qx, qae, Ev.kill, qad, qd, Ev.SObj.lo, qay, qw, qb2, qj, qk, qaf, qaq, List.length_map, ↓qq, ↓reduceIte, List.length_cons, List.length_nil, List.getElem?_cons_zero, List.getElem?_cons_succ, List.take_succ_cons, zfe, List.drop_succ_cons, List.drop_zero, List.head?_cons, Nat.reduceAdd, Nat.reduceLT, reduceCtorEq, decide_true, decide_false, zfc, zfa, and_self, ne_eq, zfb, zff, zfd, eq_self]
def Ex.spawnE (x : Ex) (op : OpI) : Ex := if x.procs.length < 8 then ({ x with procs := x.procs ++ [⟨op.a, 0, true, []⟩] } : Ex).create op.b (x.ownE 1 x.procs.length 0) else x
omit hi hq in
theorem spawn_ev (h : x.Small) : ∃ gp' gc', (evL T).call qck [.ptr 5 0 0 0, (.agg [(ii op.code), (ii op.a), (ii op.b), (ii op.c)])] [.row 4 [[(ii a0), (ii a1), .sl 2 0 0 am false, (ii a2)]] 0, .row 4 [[(ii 0), (ii 0), .fsl [] false, (ii 0)]] 0, .row 4 ((x.procs).map Pr.r) gp, .row 6 ((x.out).map Evt.r) gc, .row 1 ((x.gone).map qfe) gg, .row 14 [[(ii x.r0), (ii x.r1), .sl 2 gp 0 x.procs.length false, (ii x.sum), (ii x.ev.time), (.fsl ((x.ev.key).map qcm) false), (ii x.ev.lp), (ii x.ev.kind), (ii x.ev.proc), (ii x.ev.arg), .sl 3 gc 0 x.out.length false, (ii x.n), .sl 4 gg 0 x.gone.length false, (bb x.over)]] 0, .mp .i64 qgf] = some ((ii 0), [.row 4 [[(ii a0), (ii a1), .sl 2 0 0 am false, (ii a2)]] 0, .row 4 [[(ii 0), (ii 0), .fsl [] false, (ii 0)]] 0, .row 4 (((x.spawnE op).procs).map Pr.r) gp', .row 6 (((x.spawnE op).out).map Evt.r) gc', .row 1 (((x.spawnE op).gone).map qfe) gg, .row 14 [[(ii ((x.spawnE op).r0)), (ii ((x.spawnE op).r1)), .sl 2 gp' 0 (x.spawnE op).procs.length false, (ii ((x.spawnE op).sum)), (ii ((x.spawnE op).ev.time)), (.fsl (((x.spawnE op).ev.key).map qcm) false), (ii ((x.spawnE op).ev.lp)), (ii ((x.spawnE op).ev.kind)), (ii ((x.spawnE op).ev.proc)), (ii ((x.spawnE op).ev.arg)), .sl 3 gc' 0 (x.spawnE op).out.length false, (ii ((x.spawnE op).n)), .sl 4 gg 0 (x.spawnE op).gone.length false, (bb ((x.spawnE op).over))]] 0, .mp .i64 qgf]) := by
  rw [qs qoe qni]
  unfold Ex.spawnE
  by_cases h8 : x.procs.length < 8
  · have h8' : (x.procs.length : Int) < 8 := by omega
    have hs : (x.procs.length + 1) * 48 ≤ 140737488355328 := by omega
    have htl : List.take x.procs.length (x.procs.map Pr.r) = x.procs.map Pr.r := List.take_of_length_le (by simp)
    have hr : ∀ e : Pr, (x.procs ++ [e]).map Pr.r = x.procs.map Pr.r ++ [e.r] := fun e => by rw [List.map_append]; rfl
    have hl : ∀ e : Pr, (x.procs ++ [e]).length = x.procs.length + 1 := fun e => by simp
    have hsm : ({ x with procs := x.procs ++ [⟨op.a, 0, true, []⟩] } : Ex).Small := ⟨by simp; omega, h.out, h.gone, h.key⟩
    have h1 := qabj a0 a1 a2 am { x with procs := x.procs ++ [⟨op.a, 0, true, []⟩] } (gp + 1) gc gg 1 x.procs.length 0
    have h2 := qvn a0 a1 a2 am { x with procs := x.procs ++ [⟨op.a, 0, true, []⟩] } (gp + 1) gc gg hsm op.b 0 x.ev.lp 1 x.procs.length 0 []
    refine ⟨gp + 1, qm7 { x with procs := x.procs ++ [⟨op.a, 0, true, []⟩] } op.b gc, ?_⟩
    simp only [hr, hl, Pr.r, List.map_nil] at h1 h2
    simp only [qew, h8, h8', h1, h2, hs, htl, Ex.ownE, qar, qat, qac, qbq, Nat.reduceLT, Nat.reduceLeDiff, qm, Ev.exec, qb, qe, qc, qd2, qag, qsn, Ev.evs, Ev.Opnd.ev, Ev.Env.get, Ev.Env.set, Ev.look, qn, qh, qc0, qab, qff, qh9, Ev.AV.cells, Ev.AV.uc, qv, Ev.AV.plain, qo, ql, qx, qae, Ev.kill, qad, qd, Ev.SObj.lo, qay, qw, qb2, qj, qk, qaf, qaq, qcb, qcc, List.replicate_one, List.length_map, ↓qq, ↓reduceIte, List.length_cons, List.length_nil, List.getElem?_cons_zero, List.getElem?_cons_succ, List.take_succ_cons, List.take_zero, zfe, List.drop_succ_cons, List.drop_zero, List.cons_append, List.nil_append, List.set_cons_zero, List.set_cons_succ, List.head?_cons, Nat.reduceAdd, Nat.reduceEqDiff, Nat.reduceMul, Nat.reduceLT, Nat.reduceLeDiff, Nat.reducePow, reduceCtorEq, decide_true, zfc, zfa, and_self, ne_eq, zfb, zff, zfd, Nat.add_zero, Nat.lt_add_one, Nat.le_refl, eq_self]
  · have h8' : ¬ (x.procs.length : Int) < 8 := by omega
    refine ⟨gp, gc, ?_⟩
    simp only [qew, h8, h8', qar, qat, qac, qbq, Nat.reduceLT, qm, Ev.exec, qb, qe, qc, qag, Ev.Opnd.ev, Ev.Env.get, Ev.Env.set, Ev.look, qn, qh, qab, Ev.AV.cells, qv, Ev.AV.plain, qo, ql, qx, qae, Ev.kill, qad, qd, Ev.SObj.lo, qay, qw, qb2, qj, qk, qaf, qaq, ↓qq, ↓reduceIte, List.length_cons, List.length_nil, List.getElem?_cons_zero, List.getElem?_cons_succ, List.take_succ_cons, zfe, List.drop_succ_cons, List.drop_zero, List.head?_cons, Nat.reduceAdd, Nat.reduceLT, reduceCtorEq, decide_true, decide_false, zfc, zfa, and_self, ne_eq, zfb, zff, zfd, Nat.add_zero, eq_self]
def Ex.timerE (x : Ex) (i : Nat) (q : Pr) (op : OpI) : Ex := ((x.stopE i q).create op.a (x.ownE 2 x.ev.proc op.b)).setP i { q with timer := (x.stopE i q).kid }
theorem timer_ev (h : x.Small) (hg : x.gone.length < 1000) : ∃ gc' gg', (evL T).call qcl [.ptr 5 0 0 0, (.agg [(ii op.code), (ii op.a), (ii op.b), (ii op.c)])] [.row 4 [[(ii a0), (ii a1), .sl 2 0 0 am false, (ii a2)]] 0, .row 4 [[(ii 0), (ii 0), .fsl [] false, (ii 0)]] 0, .row 4 ((x.procs).map Pr.r) gp, .row 6 ((x.out).map Evt.r) gc, .row 1 ((x.gone).map qfe) gg, .row 14 [[(ii x.r0), (ii x.r1), .sl 2 gp 0 x.procs.length false, (ii x.sum), (ii x.ev.time), (.fsl ((x.ev.key).map qcm) false), (ii x.ev.lp), (ii x.ev.kind), (ii x.ev.proc), (ii x.ev.arg), .sl 3 gc 0 x.out.length false, (ii x.n), .sl 4 gg 0 x.gone.length false, (bb x.over)]] 0, .mp .i64 qgf] = some ((ii 0), [.row 4 [[(ii a0), (ii a1), .sl 2 0 0 am false, (ii a2)]] 0, .row 4 [[(ii 0), (ii 0), .fsl [] false, (ii 0)]] 0, .row 4 (((x.timerE i q op).procs).map Pr.r) gp, .row 6 (((x.timerE i q op).out).map Evt.r) gc', .row 1 (((x.timerE i q op).gone).map qfe) gg', .row 14 [[(ii ((x.timerE i q op).r0)), (ii ((x.timerE i q op).r1)), .sl 2 gp 0 (x.timerE i q op).procs.length false, (ii ((x.timerE i q op).sum)), (ii ((x.timerE i q op).ev.time)), (.fsl (((x.timerE i q op).ev.key).map qcm) false), (ii ((x.timerE i q op).ev.lp)), (ii ((x.timerE i q op).ev.kind)), (ii ((x.timerE i q op).ev.proc)), (ii ((x.timerE i q op).ev.arg)), .sl 3 gc' 0 (x.timerE i q op).out.length false, (ii ((x.timerE i q op).n)), .sl 4 gg' 0 (x.timerE i q op).gone.length false, (bb ((x.timerE i q op).over))]] 0, .mp .i64 qgf]) := by
  have h0 := qabl a0 a1 a2 am x gp gc gg op i q hi hq h
  have hev : (x.stopE i q).ev = x.ev := by unfold Ex.stopE; split <;> rfl
  have hpl : (x.stopE i q).procs.length = x.procs.length := by unfold Ex.stopE; split <;> simp
  have hp := (List.getElem?_eq_some_iff.1 hq).1
  have hsm : (x.stopE i q).Small := ⟨by rw [hpl]; exact h.procs, by unfold Ex.stopE; split <;> exact h.out, by
    unfold Ex.stopE; split
    · simp only [List.length_append, List.length_cons, List.length_nil]; omega
    · exact h.gone, by rw [hev]; exact h.key⟩
  generalize (if 0 < q.timer.length then gg + 1 else gg) = gg' at h0
  have hset2 : ∀ k : List Int, (x.stopE i q).procs.set i { q with timer := k } = x.procs.set i { q with timer := k } := fun k => by
    unfold Ex.stopE; split <;> simp
  have hq2 : ∃ q2, (x.stopE i q).procs[i]? = some q2 ∧ q2.prog = q.prog ∧ q2.pc = q.pc ∧ q2.alive = q.alive := by
    by_cases ht : 0 < q.timer.length
    · simp only [Ex.stopE, ht, if_true]
      exact ⟨{ q with timer := [] }, by rw [List.getElem?_set_self hp], rfl, rfl, rfl⟩
    · simp only [Ex.stopE, ht, if_false]
      exact ⟨q, hq, rfl, rfl, rfl⟩
  unfold Ex.timerE
  generalize x.stopE i q = y at h0 hev hpl hsm hset2 hq2
  obtain ⟨q2, hq2, e1, e2, e3⟩ := hq2
  have hi2 : y.ev.proc = i := by rw [hev]; exact hi
  have h1 := qtm a0 a1 a2 am y gp gc gg' i hi2 (by omega)
  have h2 := qabj a0 a1 a2 am y gp gc gg' 2 y.ev.proc op.b
  have h3 := qvn a0 a1 a2 am y gp gc gg' hsm op.a 0 y.ev.lp 2 y.ev.proc op.b []
  refine ⟨qm7 y op.a gc, gg', ?_⟩
  have hcp : (y.create op.a ⟨0, [], y.ev.lp, 2, y.ev.proc, op.b⟩).procs = y.procs := rfl
  simp only [Ex.ownE, Ex.setP, ← hev] at h0 ⊢
  generalize qm7 y op.a gc = gc' at h3
  generalize y.create op.a ⟨0, [], y.ev.lp, 2, y.ev.proc, op.b⟩ = z at h3 hcp
  have hset : (y.procs.map Pr.r).set i [(ii q2.prog), (ii q2.pc), (bb q2.alive), (.fsl ((y.kid).map qcm) false)] = (y.procs.set i { q with timer := y.kid }).map Pr.r := by rw [List.map_set, e1, e2, e3]; rfl
  have hl : (y.procs.set i { q with timer := y.kid }).length = y.procs.length := by simp
  rw [qs qol qn1]
  simp only [List.map_nil, hcp] at h3
  simp only [qf2, h0, h1, h2, h3, hcp, hl, List.getElem?_map, Option.map_some, hq2, Pr.r, eq_procs, eq_evts, eq_keys, q41, eq_table, qar, qat, qac, qbq, Nat.reduceLT, qm, Ev.exec, qb, qe, qc, qd2, Ev.item_R, qtj, Ev.SObj.eqB, q5f, q3m, qv3, qs8, q4c, q7s, q4k, Ev.eqB_sl, qag, Ev.evs, Ev.Opnd.ev, Ev.Env.get, Ev.Env.set, Ev.look, qn, qh, qab, Ev.AV.cells, Ev.AV.uc, qv, Ev.AV.plain, ql, qx, qae, Ev.kill, qad, qd, Ev.SObj.lo, qay, qw, qb2, qj, qk, qaf, qaq, ↓qq, ↓reduceIte, List.length_cons, List.length_nil, List.getElem?_cons_zero, List.getElem?_cons_succ, List.take_succ_cons, List.take_zero, zfe, List.drop_succ_cons, List.drop_zero, List.drop_nil, List.cons_append, List.nil_append, List.append_nil, List.set_cons_zero, List.set_cons_succ, List.head?_cons, Nat.reduceAdd, Nat.reduceEqDiff, Nat.reduceLT, reduceCtorEq, decide_true, zfc, zfa, and_self, ne_eq, zfb, zff, zfd, Nat.le_refl, eq_self, beq_self_eq_true, hset]
end
end
set_option maxRecDepth 10000
def qdw (x : Ex) (i : Nat) (q : Pr) (op : OpI) : Ex × Int :=
  if op.code = 1 then (x.create op.a (x.ownE 1 x.ev.proc 0), 1)
  else if op.code = 2 then (x.create op.c ⟨0, [], op.a, 3, 0, op.b⟩, 0)
  else if op.code = 3 then (x.timerE i q op, 0)
  else if op.code = 4 then (x.stopE i q, 0)
  else if op.code = 5 then (x.spawnE op, 0)
  else if op.code = 6 then (x.setReg op.a (w64 (x.reg op.a + op.b)), 0)
  else if op.code = 7 then (if x.reg op.a < op.b then x.setP i { q with pc := op.c } else x, 0)
  else (x, 2)
structure OpOk' (op : OpI) : Prop where
  code : 1 ≤ op.code ∧ op.code ≤ 8
  reg : op.code = 6 ∨ op.code = 7 → op.a = 0 ∨ op.a = 1
  to : op.code = 7 → 0 ≤ op.c ∧ op.c ≤ 1000000
section
variable (a0 a1 a2 : Int) (am : Nat) (x : Ex) (gp gc gg : Nat) (op : OpI) (i : Nat) (q : Pr)
theorem step_ev (h : x.Small) (hg : x.gone.length < 1000) (hi : x.ev.proc = i) (hq : x.procs[i]? = some q) (ho : OpOk' op) :
    ∃ k gp' gc' gg', getL op.code qgf = some (.fn (.func k) [] []) ∧ (evL T).call k [.ptr 5 0 0 0, (.agg [(ii op.code), (ii op.a), (ii op.b), (ii op.c)])] [.row 4 [[(ii a0), (ii a1), .sl 2 0 0 am false, (ii a2)]] 0, .row 4 [[(ii 0), (ii 0), .fsl [] false, (ii 0)]] 0, .row 4 ((x.procs).map Pr.r) gp, .row 6 ((x.out).map Evt.r) gc, .row 1 ((x.gone).map qfe) gg, .row 14 [[(ii x.r0), (ii x.r1), .sl 2 gp 0 x.procs.length false, (ii x.sum), (ii x.ev.time), (.fsl ((x.ev.key).map qcm) false), (ii x.ev.lp), (ii x.ev.kind), (ii x.ev.proc), (ii x.ev.arg), .sl 3 gc 0 x.out.length false, (ii x.n), .sl 4 gg 0 x.gone.length false, (bb x.over)]] 0, .mp .i64 qgf] = some ((ii ((qdw x i q op).2)), [.row 4 [[(ii a0), (ii a1), .sl 2 0 0 am false, (ii a2)]] 0, .row 4 [[(ii 0), (ii 0), .fsl [] false, (ii 0)]] 0, .row 4 (((qdw x i q op).1.procs).map Pr.r) gp', .row 6 (((qdw x i q op).1.out).map Evt.r) gc', .row 1 (((qdw x i q op).1.gone).map qfe) gg', .row 14 [[(ii ((qdw x i q op).1.r0)), (ii ((qdw x i q op).1.r1)), .sl 2 gp' 0 (qdw x i q op).1.procs.length false, (ii ((qdw x i q op).1.sum)), (ii ((qdw x i q op).1.ev.time)), (.fsl (((qdw x i q op).1.ev.key).map qcm) false), (ii ((qdw x i q op).1.ev.lp)), (ii ((qdw x i q op).1.ev.kind)), (ii ((qdw x i q op).1.ev.proc)), (ii ((qdw x i q op).1.ev.arg)), .sl 3 gc' 0 (qdw x i q op).1.out.length false, (ii ((qdw x i q op).1.n)), .sl 4 gg' 0 (qdw x i q op).1.gone.length false, (bb ((qdw x i q op).1.over))]] 0, .mp .i64 qgf]) := by
  have hc : op.code = 1 ∨ op.code = 2 ∨ op.code = 3 ∨ op.code = 4 ∨ op.code = 5 ∨ op.code = 6 ∨ op.code = 7 ∨ op.code = 8 := by have := ho.code; omega
  have ne : ∀ m n : Int, decide (m = n) = false → ¬ m = n := fun m n h => of_decide_eq_false h
  rcases hc with hc | hc | hc | hc | hc | hc | hc | hc
  · refine ⟨qcw, gp, qm7 x op.a gc, gg, by rw [hc]; rfl, ?_⟩
    have e : qdw x i q op = (x.create op.a (x.ownE 1 x.ev.proc 0), 1) := by simp [qdw, hc]
    rw [e]; exact hold_ev a0 a1 a2 am x gp gc gg op h
  · refine ⟨qcu, gp, qm7 x op.c gc, gg, by rw [hc]; rfl, ?_⟩
    have e : qdw x i q op = (x.create op.c ⟨0, [], op.a, 3, 0, op.b⟩, 0) := by simp [qdw, hc]
    rw [e]; exact send_ev a0 a1 a2 am x gp gc gg op h
  · obtain ⟨gc', gg', hz⟩ := timer_ev a0 a1 a2 am x gp gc gg op i q hi hq h hg
    refine ⟨qcl, gp, gc', gg', by rw [hc]; rfl, ?_⟩
    have e : qdw x i q op = (x.timerE i q op, 0) := by simp [qdw, hc]
    rw [e]; exact hz
  · refine ⟨qch, gp, gc, (if 0 < q.timer.length then gg + 1 else gg), by rw [hc]; rfl, ?_⟩
    have e : qdw x i q op = (x.stopE i q, 0) := by simp [qdw, hc]
    rw [e]; exact qabl a0 a1 a2 am x gp gc gg op i q hi hq h
  · obtain ⟨gp', gc', hz⟩ := spawn_ev a0 a1 a2 am x gp gc gg op h
    refine ⟨qck, gp', gc', gg, by rw [hc]; rfl, ?_⟩
    have e : qdw x i q op = (x.spawnE op, 0) := by simp [qdw, hc]
    rw [e]; exact hz
  · refine ⟨qc4, gp, gc, gg, by rw [hc]; rfl, ?_⟩
    have e : qdw x i q op = (x.setReg op.a (w64 (x.reg op.a + op.b)), 0) := by simp [qdw, hc]
    rw [e]; exact add_ev a0 a1 a2 am x gp gc gg op (ho.reg (.inl hc))
  · refine ⟨qcv, gp, gc, gg, by rw [hc]; rfl, ?_⟩
    have e : qdw x i q op = (if x.reg op.a < op.b then x.setP i { q with pc := op.c } else x, 0) := by simp [qdw, hc]
    rw [e]; exact less_ev a0 a1 a2 am x gp gc gg op i q hi hq (ho.reg (.inr hc))
  · refine ⟨qc7, gp, gc, gg, by rw [hc]; rfl, ?_⟩
    have e : qdw x i q op = (x, 2) := by simp [qdw, hc]
    rw [e]; exact end_ev a0 a1 a2 am x gp gc gg op
end
def qms (x : Ex) (i : Nat) : Ex := match x.procs[i]? with
  | some q => x.setP i { q with alive := false }
  | none => x
def qlo (p : List OpI) (i : Nat) : Nat → Ex → Ex
  | 0, x => qms x i
  | n + 1, x => match x.procs[i]? with
    | none => x
    | some q => match p[q.pc.toNat]? with
      | none => qms x i
      | some op =>
        if (qdw (x.setP i { q with pc := w64 (q.pc + 1) }) i { q with pc := w64 (q.pc + 1) } op).2 = 1 then (qdw (x.setP i { q with pc := w64 (q.pc + 1) }) i { q with pc := w64 (q.pc + 1) } op).1
        else if (qdw (x.setP i { q with pc := w64 (q.pc + 1) }) i { q with pc := w64 (q.pc + 1) } op).2 = 2 then qms (qdw (x.setP i { q with pc := w64 (q.pc + 1) }) i { q with pc := w64 (q.pc + 1) } op).1 i
        else qlo p i n (qdw (x.setP i { q with pc := w64 (q.pc + 1) }) i { q with pc := w64 (q.pc + 1) } op).1
structure ActInv (e : Evt) (i n : Nat) (x : Ex) : Prop where
  ev : x.ev = e
  has : ∃ q, x.procs[i]? = some q ∧ 0 ≤ q.pc ∧ q.pc ≤ 1000000
  procs : x.procs.length ≤ 20
  out : x.out.length ≤ n
  gone : x.gone.length ≤ n
theorem ActInv.small {e : Evt} {i n : Nat} {x : Ex} (h : ActInv e i n x) (hn : n ≤ 100) (hk : e.key.length ≤ 1000) : x.Small := ⟨by have := h.procs; omega, by have := h.out; omega, by have := h.gone; omega, by rw [h.ev]; exact hk⟩
theorem q81 (x : Ex) (d : Int) (e : Evt) : (x.create d e).out.length ≤ x.out.length + 1 := by
  unfold Ex.create; simp only; split
  · omega
  · simp
theorem ActInv.step {e : Evt} {i n : Nat} {x : Ex} (h : ActInv e i n x) {q : Pr} (hq : x.procs[i]? = some q) (hpc : 0 ≤ q.pc ∧ q.pc ≤ 1000000) {op : OpI} (ho : OpOk' op) : ActInv e i (n + 1) (qdw x i q op).1 := by
  have hlt := (List.getElem?_eq_some_iff.1 hq).1
  have hp := h.procs
  have h1 := h.out
  have h2 := h.gone
  have stop : ActInv e i (n + 1) (x.stopE i q) ∧ (x.stopE i q).out = x.out := by
    unfold Ex.stopE; split
    · exact ⟨⟨h.ev, ⟨{ q with timer := [] }, by simp only; rw [List.getElem?_set_self hlt], hpc⟩, by simpa using hp, by simp only; omega, by simp; omega⟩, rfl⟩
    · exact ⟨⟨h.ev, ⟨q, hq, hpc⟩, hp, by omega, by omega⟩, rfl⟩
  have crt : ∀ (y : Ex) (d : Int) (ev : Evt), y.ev = e → (∃ q, y.procs[i]? = some q ∧ 0 ≤ q.pc ∧ q.pc ≤ 1000000) → y.procs.length ≤ 20 → y.out.length ≤ n → y.gone.length ≤ n + 1 → ActInv e i (n + 1) (y.create d ev) := fun y d ev k1 k2 k3 k4 k5 =>
    ⟨k1, k2, k3, by have := q81 y d ev; omega, k5⟩
  unfold qdw
  split
  · exact crt x _ _ h.ev ⟨q, hq, hpc⟩ hp h1 (by omega)
  split
  · exact crt x _ _ h.ev ⟨q, hq, hpc⟩ hp h1 (by omega)
  split
  · obtain ⟨s1, s2⟩ := stop
    have hc := crt (x.stopE i q) op.a (x.ownE 2 x.ev.proc op.b) s1.ev s1.has s1.procs (by rw [s2]; exact h1) s1.gone
    have hl : i < ((x.stopE i q).create op.a (x.ownE 2 x.ev.proc op.b)).procs.length := by
      obtain ⟨q', hq', _⟩ := hc.has
      exact (List.getElem?_eq_some_iff.1 hq').1
    exact ⟨hc.ev, ⟨{ q with timer := (x.stopE i q).kid }, by simp only [Ex.timerE, Ex.setP]; rw [List.getElem?_set_self hl], hpc⟩, by simp only [Ex.timerE, Ex.setP, List.length_set]; exact hc.procs, hc.out, hc.gone⟩
  split
  · exact stop.1
  split
  · unfold Ex.spawnE
    split
    · refine crt _ _ _ h.ev ⟨q, by simp only; rw [List.getElem?_append_left hlt]; exact hq, hpc⟩ (by simp; omega) h1 (by simp only; omega)
    · exact ⟨h.ev, ⟨q, hq, hpc⟩, hp, by first | omega | (simp only; omega), by first | omega | (simp only; omega)⟩
  split
  · unfold Ex.setReg
    split <;> exact ⟨h.ev, ⟨q, hq, hpc⟩, hp, by first | omega | (simp only; omega), by first | omega | (simp only; omega)⟩
  split
  · rename_i h7
    simp only
    split
    · exact ⟨h.ev, ⟨{ q with pc := op.c }, by simp only [Ex.setP]; rw [List.getElem?_set_self hlt], ho.to h7⟩, by simp only [Ex.setP, List.length_set]; exact hp, by simp only [Ex.setP]; omega, by simp only [Ex.setP]; omega⟩
    · exact ⟨h.ev, ⟨q, hq, hpc⟩, hp, by first | omega | (simp only; omega), by first | omega | (simp only; omega)⟩
  · exact ⟨h.ev, ⟨q, hq, hpc⟩, hp, by first | omega | (simp only; omega), by first | omega | (simp only; omega)⟩
set_option maxRecDepth 10000
theorem ActInv.pc {e : Evt} {i n : Nat} {x : Ex} (h : ActInv e i n x) {q : Pr} (hq : x.procs[i]? = some q) {pc : Int} (hp : 0 ≤ pc ∧ pc ≤ 1000000) (al : Bool) : ActInv e i n (x.setP i { q with pc := pc, alive := al }) := by
  have hlt := (List.getElem?_eq_some_iff.1 hq).1
  exact ⟨h.ev, ⟨{ q with pc := pc, alive := al }, by simp only [Ex.setP]; rw [List.getElem?_set_self hlt], hp⟩, by simp only [Ex.setP, List.length_set]; exact h.procs, h.out, h.gone⟩
section
variable (a0 a1 a2 : Int) (am : Nat) (e0 : Evt) (i : Nat) (p : List OpI) (cl : Bool)
def ActEnd (a0 a1 a2 : Int) (am : Nat) (e0 : Evt) (i : Nat) (F : Ex) (y : CExit × Env × qaa) : Prop :=
  ∃ z gp gc gg, y.2.2 = [.row 4 [[(ii a0), (ii a1), .sl 2 0 0 am false, (ii a2)]] 0, .row 4 [[(ii 0), (ii 0), .fsl [] false, (ii 0)]] 0, .row 4 ((z.procs).map Pr.r) gp, .row 6 ((z.out).map Evt.r) gc, .row 1 ((z.gone).map qfe) gg, .row 14 [[(ii z.r0), (ii z.r1), .sl 2 gp 0 z.procs.length false, (ii z.sum), (ii z.ev.time), (.fsl ((z.ev.key).map qcm) false), (ii z.ev.lp), (ii z.ev.kind), (ii z.ev.proc), (ii z.ev.arg), .sl 3 gc 0 z.out.length false, (ii z.n), .sl 4 gg 0 z.gone.length false, (bb z.over)]] 0, .mp .i64 qgf] ∧ y.2.1.marks = [] ∧ ((y.1 = .ret ∧ z = F ∧ ActInv e0 i 16 z) ∨ (y.1 = .exit 0 ∧ Ev.look y.2.1.vars 0 = some (.ptr 5 0 0 0) ∧ qms z i = F ∧ ActInv e0 i 16 z))
theorem act_loop (hk : e0.key.length ≤ 1000) (hpr : e0.proc = i) (hpl : p.length ≤ 1000) (hok : ∀ op ∈ p, OpOk' op) (x : Ex) (gp gc gg : Nat) (h0 : ActInv e0 i 0 x) :
    ∃ y, itB (exec (evL T) itL none qbx) (qr [0, 1, 4, 7] true 7) ⟨[(0, .ptr 5 0 0 0), (1, (.fsl ((p).map OpI.r) cl)), (4, .mp 6), (7, (ii 0))], []⟩ [.row 4 [[(ii a0), (ii a1), .sl 2 0 0 am false, (ii a2)]] 0, .row 4 [[(ii 0), (ii 0), .fsl [] false, (ii 0)]] 0, .row 4 ((x.procs).map Pr.r) gp, .row 6 ((x.out).map Evt.r) gc, .row 1 ((x.gone).map qfe) gg, .row 14 [[(ii x.r0), (ii x.r1), .sl 2 gp 0 x.procs.length false, (ii x.sum), (ii x.ev.time), (.fsl ((x.ev.key).map qcm) false), (ii x.ev.lp), (ii x.ev.kind), (ii x.ev.proc), (ii x.ev.arg), .sl 3 gc 0 x.out.length false, (ii x.n), .sl 4 gg 0 x.gone.length false, (bb x.over)]] 0, .mp .i64 qgf] = some y ∧ ActEnd a0 a1 a2 am e0 i (qlo p i 16 x) y := by
  have := qhi (f := exec (evL T) itL none qbx) (s := qr [0, 1, 4, 7] true 7) (α := Ex × Nat × Nat × Nat) (fun j _ => ⟨[(0, .ptr 5 0 0 0), (1, (.fsl ((p).map OpI.r) cl)), (4, .mp 6), (7, (ii ((j : Int))))], []⟩) (fun _ a => [.row 4 [[(ii a0), (ii a1), .sl 2 0 0 am false, (ii a2)]] 0, .row 4 [[(ii 0), (ii 0), .fsl [] false, (ii 0)]] 0, .row 4 ((a.1.procs).map Pr.r) a.2.1, .row 6 ((a.1.out).map Evt.r) a.2.2.1, .row 1 ((a.1.gone).map qfe) a.2.2.2, .row 14 [[(ii a.1.r0), (ii a.1.r1), .sl 2 a.2.1 0 a.1.procs.length false, (ii a.1.sum), (ii a.1.ev.time), (.fsl ((a.1.ev.key).map qcm) false), (ii a.1.ev.lp), (ii a.1.ev.kind), (ii a.1.ev.proc), (ii a.1.ev.arg), .sl 3 a.2.2.1 0 a.1.out.length false, (ii a.1.n), .sl 4 a.2.2.2 0 a.1.gone.length false, (bb a.1.over)]] 0, .mp .i64 qgf])
    (fun j a => ActInv e0 i j a.1 ∧ qlo p i (16 - j) a.1 = qlo p i 16 x) 16 (ActEnd a0 a1 a2 am e0 i (qlo p i 16 x)) ?_ ?_ 0 (x, gp, gc, gg) (Nat.zero_le _) ⟨h0, rfl⟩
  · exact this
  · rintro j ⟨y, gp, gc, gg⟩ hj ⟨hi1, hi2⟩
    simp only at hi1 hi2 ⊢
    obtain ⟨q, hq, hpc⟩ := hi1.has
    have hlt := (List.getElem?_eq_some_iff.1 hq).1
    have hpr' : y.ev.proc = i := by rw [hi1.ev]; exact hpr
    have hj' : (j : Int) < 16 := by omega
    have hw : IntKind.i64.wrap ((j : Int) + 1) = ((j + 1 : Nat) : Int) := by rw [qao (by omega) (by omega)]; simp
    have s1 := qtm a0 a1 a2 am y gp gc gg i hpr' hlt
    rw [show 16 - j = (16 - (j + 1)) + 1 from by omega, qlo, hq] at hi2
    simp only at hi2
    cases hop : p[q.pc.toNat]? with
    | none =>
      rw [hop] at hi2
      simp only at hi2
      have hge : q.pc ≥ (p.length : Int) := by have := List.getElem?_eq_none_iff.1 hop; omega
      right
      simp only [qbx, hj', hge, s1, List.getElem?_map, Option.map_some, hq, Pr.r, Ev.exec, qb, qe, qc, qd2, qag, Ev.evs, Ev.Opnd.ev, Ev.Env.get, Ev.Env.set, Ev.look, qh, qab, qo, qb5, List.length_map, ↓qq, Ev.it1, ↓reduceIte, List.getElem?_cons_zero, List.getElem?_cons_succ, List.drop_succ_cons, List.drop_zero, List.head?_cons, Nat.reduceEqDiff, reduceCtorEq, decide_true, zfa, zfd, eq_self]
      exact ⟨_, rfl, y, gp, gc, gg, rfl, rfl, .inr ⟨rfl, rfl, hi2, ⟨hi1.ev, hi1.has, hi1.procs, by have := hi1.out; omega, by have := hi1.gone; omega⟩⟩⟩
    | some op =>
      rw [hop] at hi2
      simp only at hi2
      have hlp := (List.getElem?_eq_some_iff.1 hop).1
      have hge : ¬ q.pc ≥ (p.length : Int) := by omega
      have hwq : w64 (q.pc + 1) = q.pc + 1 := qao (by omega) (by omega)
      have hwq' : IntKind.i64.wrap (q.pc + 1) = q.pc + 1 := hwq
      have hset : (y.procs.map Pr.r).set i [(ii q.prog), (ii (q.pc + 1)), (bb q.alive), (.fsl ((q.timer).map qcm) false)] = (y.procs.set i { q with pc := q.pc + 1 }).map Pr.r := by rw [List.map_set]; rfl
      have hl : (y.procs.set i { q with pc := q.pc + 1 }).length = y.procs.length := by simp
      rw [hwq] at hi2
      have hz : ActInv e0 i j (y.setP i { q with pc := q.pc + 1 }) := hi1.pc hq (by omega) q.alive
      have hzq : (y.setP i { q with pc := q.pc + 1 }).procs[i]? = some { q with pc := q.pc + 1 } := by simp only [Ex.setP]; rw [List.getElem?_set_self hlt]
      have hzp : (y.setP i { q with pc := q.pc + 1 }).ev.proc = i := hpr'
      have hoo := hok op (List.mem_of_getElem? hop)
      have hn := hz.step hzq (show 0 ≤ q.pc + 1 ∧ q.pc + 1 ≤ 1000000 by omega) hoo
      obtain ⟨k, gp', gc', gg', t1, t2⟩ := step_ev a0 a1 a2 am (y.setP i { q with pc := q.pc + 1 }) gp gc gg op i { q with pc := q.pc + 1 } (hz.small (by omega) hk) (by have := hz.gone; omega) hzp hzq hoo
      generalize hS : qdw (y.setP i { q with pc := q.pc + 1 }) i { q with pc := q.pc + 1 } op = S at hi2 hn t2
      obtain ⟨z, sig⟩ := S
      simp only at hi2 hn t2
      have hsig : sig = 0 ∨ sig = 1 ∨ sig = 2 := by
        have : (qdw (y.setP i { q with pc := q.pc + 1 }) i { q with pc := q.pc + 1 } op).2 = sig := by rw [hS]
        rw [← this]
        unfold qdw
        repeat' (first | (split) | exact .inl rfl | exact .inr (.inl rfl) | exact .inr (.inr rfl))
      simp only [Ex.setP, hl] at t2
      obtain ⟨qz, hqz, hqzp⟩ := hn.has
      have hltz := (List.getElem?_eq_some_iff.1 hqz).1
      have s2 := qtm a0 a1 a2 am z gp' gc' gg' i (by rw [hn.ev]; exact hpr) hltz
      rcases hsig with rfl | rfl | rfl
      · left
        refine ⟨(z, gp', gc', gg'), ?_, hn, ?_⟩
        · simp only [qbx, hj', hge, s1, hpc, hop, hwq', t1, t2, hw, List.getElem?_map, Option.map_some, hq, Pr.r, OpI.r, qgm, qar, qat, qac, qbq, Nat.reduceLT, Nat.reduceLeDiff, Ev.exec, qb, qe, qc, qd2, qii, qag, Ev.evs, Ev.Opnd.ev, Ev.Env.get, Ev.Env.set, Ev.look, qh, qab, Ev.AV.cells, Ev.AV.uc, qv, Ev.AV.plain, qaj, qal, qo, qb5, qr, Ev.keep, qai, qy, qd, Ev.SObj.lo, qay, qw, qb2, qlg, Ev.lo_mp, Ev.gotL, qj, qk, qaf, qaq, List.length_map, ↓qq, Ev.it1, ↓reduceIte, List.length_cons, List.length_nil, List.getElem?_cons_zero, List.getElem?_cons_succ, List.take_succ_cons, List.take_zero, zfe, List.drop_succ_cons, List.drop_zero, List.cons_append, List.nil_append, List.append_nil, List.set_cons_zero, List.set_cons_succ, List.head?_cons, Nat.reduceAdd, Nat.reduceEqDiff, Nat.reduceLT, Nat.reduceLeDiff, Int.reduceEq, reduceCtorEq, decide_true, decide_false, zfc, zfa, and_self, zfd, Nat.lt_add_one, Nat.le_refl, eq_self, hset]
        · simp only [show ¬ (0 : Int) = 1 from by decide, show ¬ (0 : Int) = 2 from by decide, if_false] at hi2
          exact hi2
      · right
        simp only [if_true] at hi2
        simp only [qbx, hj', hge, s1, hpc, hop, hwq', t1, t2, List.getElem?_map, Option.map_some, hq, Pr.r, OpI.r, Nat.reduceLeDiff, Ev.exec, qb, qe, qc, qd2, qii, qag, Ev.evs, Ev.Opnd.ev, Ev.Env.get, Ev.Env.set, Ev.look, qh, qab, Ev.AV.cells, Ev.AV.uc, qv, Ev.AV.plain, qaj, qal, qo, qb5, Ev.gotL, List.length_map, ↓qq, Ev.it1, ↓reduceIte, List.length_cons, List.length_nil, List.getElem?_cons_zero, List.getElem?_cons_succ, List.take_succ_cons, List.take_zero, zfe, List.drop_succ_cons, List.drop_zero, List.cons_append, List.nil_append, List.append_nil, List.set_cons_zero, List.set_cons_succ, List.head?_cons, Nat.reduceAdd, Nat.reduceEqDiff, Nat.reduceLeDiff, reduceCtorEq, decide_true, decide_false, zfc, zfa, and_self, zfd, Nat.le_refl, eq_self, hset]
        exact ⟨_, rfl, z, gp', gc', gg', rfl, rfl, .inl ⟨rfl, hi2, ⟨hn.ev, hn.has, hn.procs, by have := hn.out; omega, by have := hn.gone; omega⟩⟩⟩
      · right
        simp only [show ¬ (2 : Int) = 1 from by decide, if_true, if_false] at hi2
        have hkz : qms z i = z.setP i { qz with alive := false } := by unfold qms; rw [hqz]
        rw [hkz] at hi2
        have hset2 : (z.procs.map Pr.r).set i [(ii qz.prog), (ii qz.pc), (bb false), (.fsl ((qz.timer).map qcm) false)] = (z.procs.set i { qz with alive := false }).map Pr.r := by rw [List.map_set]; rfl
        have hl2 : (z.procs.set i { qz with alive := false }).length = z.procs.length := by simp
        have hfin := hn.pc hqz hqzp false
        simp only [qbx, hj', hge, s1, hpc, hop, hwq', t1, t2, s2, List.getElem?_map, Option.map_some, hq, hqz, Pr.r, OpI.r, Nat.reduceLeDiff, Ev.exec, qb, qe, qc, qd2, qii, qag, Ev.evs, Ev.Opnd.ev, Ev.Env.get, Ev.Env.set, Ev.look, qh, qab, Ev.AV.cells, Ev.AV.uc, qv, Ev.AV.plain, qaj, qal, qo, qb5, Ev.gotL, List.length_map, ↓qq, Ev.it1, ↓reduceIte, List.length_cons, List.length_nil, List.getElem?_cons_zero, List.getElem?_cons_succ, List.take_succ_cons, List.take_zero, zfe, List.drop_succ_cons, List.drop_zero, List.cons_append, List.nil_append, List.append_nil, List.set_cons_zero, List.set_cons_succ, List.head?_cons, Nat.reduceAdd, Nat.reduceEqDiff, Nat.reduceLeDiff, Int.reduceEq, reduceCtorEq, decide_true, decide_false, zfc, zfa, and_self, zfd, Nat.le_refl, eq_self, hset, hset2]
        refine ⟨_, rfl, z.setP i { qz with alive := false }, gp', gc', gg', ?_, rfl, .inl ⟨rfl, hi2, ⟨hfin.ev, hfin.has, hfin.procs, by have := hfin.out; omega, by have := hfin.gone; omega⟩⟩⟩
        simp only [Ex.setP, hl2]
  · rintro ⟨y, gp, gc, gg⟩ ⟨hi1, hi2⟩
    simp only [qbx, Int.lt_irrefl, Ev.exec, qb, qe, qc, qag, Ev.Opnd.ev, Ev.Env.get, Ev.Env.set, Ev.look, qo, ↓qq, Ev.it1, ↓reduceIte, Nat.reduceEqDiff, Int.cast_ofNat_Int, reduceCtorEq, decide_false, zfa, eq_self]
    exact ⟨_, rfl, y, gp, gc, gg, rfl, rfl, .inr ⟨rfl, rfl, hi2, hi1⟩⟩
end
set_option maxRecDepth 10000
theorem qs6 : (evL T).call qer [] [] = some (.mp 0, [.mp .i64 qgf]) := by
  rw [qs qqw qqd]
  simp only [qhe, qgf, qm, Ev.exec, qb, qe, qc, qag, Ev.Opnd.ev, Ev.Env.get, Ev.Env.set, Ev.look, qn, ql, qx, qae, Ev.kill, qad, qd, qdj, Ev.lo_mp, q95, qj, ↓qq, ↓reduceIte, List.length_nil, List.getElem?_cons_zero, List.take_zero, List.nil_append, List.set_cons_zero, Nat.reduceLT, Int.reduceEq, decide_false, zfc, zfa, and_self, and_true, eq_self]
section
variable (a0 a1 a2 : Int) (am : Nat) (e0 : Evt) (i : Nat) (p : List OpI) (cl : Bool)
theorem q6h (hk : e0.key.length ≤ 1000) (hpr : e0.proc = i) (hpl : p.length ≤ 1000) (hok : ∀ op ∈ p, OpOk' op) (x : Ex) (gp gc gg : Nat) (h0 : ActInv e0 i 0 x) :
    ∃ gp' gc' gg', (evL T).call qdg [.ptr 5 0 0 0, (.fsl ((p).map OpI.r) cl)] [.row 4 [[(ii a0), (ii a1), .sl 2 0 0 am false, (ii a2)]] 0, .row 4 [[(ii 0), (ii 0), .fsl [] false, (ii 0)]] 0, .row 4 ((x.procs).map Pr.r) gp, .row 6 ((x.out).map Evt.r) gc, .row 1 ((x.gone).map qfe) gg, .row 14 [[(ii x.r0), (ii x.r1), .sl 2 gp 0 x.procs.length false, (ii x.sum), (ii x.ev.time), (.fsl ((x.ev.key).map qcm) false), (ii x.ev.lp), (ii x.ev.kind), (ii x.ev.proc), (ii x.ev.arg), .sl 3 gc 0 x.out.length false, (ii x.n), .sl 4 gg 0 x.gone.length false, (bb x.over)]] 0] = some (.tup [], [.row 4 [[(ii a0), (ii a1), .sl 2 0 0 am false, (ii a2)]] 0, .row 4 [[(ii 0), (ii 0), .fsl [] false, (ii 0)]] 0, .row 4 (((qlo p i 16 x).procs).map Pr.r) gp', .row 6 (((qlo p i 16 x).out).map Evt.r) gc', .row 1 (((qlo p i 16 x).gone).map qfe) gg', .row 14 [[(ii ((qlo p i 16 x).r0)), (ii ((qlo p i 16 x).r1)), .sl 2 gp' 0 (qlo p i 16 x).procs.length false, (ii ((qlo p i 16 x).sum)), (ii ((qlo p i 16 x).ev.time)), (.fsl (((qlo p i 16 x).ev.key).map qcm) false), (ii ((qlo p i 16 x).ev.lp)), (ii ((qlo p i 16 x).ev.kind)), (ii ((qlo p i 16 x).ev.proc)), (ii ((qlo p i 16 x).ev.arg)), .sl 3 gc' 0 (qlo p i 16 x).out.length false, (ii ((qlo p i 16 x).n)), .sl 4 gg' 0 (qlo p i 16 x).gone.length false, (bb ((qlo p i 16 x).over))]] 0]) ∧ ActInv e0 i 16 (qlo p i 16 x) := by
  obtain ⟨⟨y, e, σ⟩, k1, z, gp', gc', gg', k2, k3, k4⟩ := act_loop a0 a1 a2 am e0 i p cl hk hpr hpl hok x gp gc gg h0
  simp only at k2 k3 k4
  subst k2
  generalize qlo p i 16 x = F at k4
  rw [qs qm1 qmj]
  rcases k4 with ⟨rfl, rfl, k5⟩ | ⟨rfl, k5, k6, k7⟩
  · refine ⟨gp', gc', gg', ?_, k5⟩
    simp only [qeb, qs6, k1, k3, qgm, qar, qat, qac, qbq, Nat.reduceLT, qm, Ev.exec, qb, qe, qc, qoo, q27, Ev.AV.shift, qag, Ev.evs, Ev.Opnd.ev, Ev.Env.get, Ev.Env.set, Ev.look, qn, ql, qae, Ev.kill, qad, qr, Ev.keep, qai, qy, qd, Ev.SObj.lo, qay, qbc, qw, qb2, qlg, Ev.lo_mp, qj, qk, qaf, qaq, qgx, qfc, ↓qq, ↓qak, ↓reduceIte, List.length_cons, List.length_nil, List.take_succ_cons, List.take_zero, zfe, List.cons_append, List.nil_append, Nat.reduceAdd, Nat.reduceEqDiff, Nat.reduceLT, reduceCtorEq, decide_true, zfc, and_self, zfd, Nat.lt_add_one, eq_self]
  · obtain ⟨q, hq, hpc⟩ := k7.has
    have hlt := (List.getElem?_eq_some_iff.1 hq).1
    have s2 := qtm a0 a1 a2 am z gp' gc' gg' i (by rw [k7.ev]; exact hpr) hlt
    have hkz : qms z i = z.setP i { q with alive := false } := by unfold qms; rw [hq]
    rw [hkz] at k6
    have hset : (z.procs.map Pr.r).set i [(ii q.prog), (ii q.pc), (bb false), (.fsl ((q.timer).map qcm) false)] = (z.procs.set i { q with alive := false }).map Pr.r := by rw [List.map_set]; rfl
    have hl : (z.procs.set i { q with alive := false }).length = z.procs.length := by simp
    have hfin := k7.pc hq hpc false
    subst k6
    refine ⟨gp', gc', gg', ?_, hfin⟩
    simp only [Ex.setP, hl]
    simp only [qeb, qs6, k1, k3, k5, s2, List.getElem?_map, Option.map_some, hq, Pr.r, qgm, qar, qat, qac, qbq, Nat.reduceLT, Nat.reduceLeDiff, qm, Ev.exec, qb, qe, qc, qoo, qd2, q27, Ev.AV.shift, qag, Ev.evs, Ev.Opnd.ev, Ev.Env.get, Ev.Env.set, Ev.look, qn, Ev.AV.cells, Ev.AV.uc, qv, Ev.AV.plain, ql, qae, Ev.kill, qad, qr, Ev.keep, qai, qy, qd, Ev.SObj.lo, qay, qbc, qw, qb2, qlg, Ev.lo_mp, qj, qk, qaf, qaq, qgx, qfc, ↓qq, ↓qak, ↓reduceIte, List.length_cons, List.length_nil, List.getElem?_cons_zero, List.getElem?_cons_succ, List.take_succ_cons, List.take_zero, zfe, List.drop_succ_cons, List.drop_zero, List.cons_append, List.nil_append, List.set_cons_zero, List.set_cons_succ, Nat.reduceAdd, Nat.reduceEqDiff, Nat.reduceLT, Nat.reduceLeDiff, reduceCtorEq, decide_true, zfc, and_self, zfd, Nat.lt_add_one, eq_self, hset]
end
set_option maxRecDepth 10000
theorem q2q (l : List Pr) (c : Bool) (h : l.length ≤ 1000) : (evL T).call qc5 [(.fsl ((l).map Pr.r) c)] [] = some (.sl 0 0 0 l.length false, [.row 4 (l.map Pr.r) 0]) := by
  have h' : l.length * 48 ≤ 140737488355328 := by omega
  rw [q6o qla]
  simp only [qvo, qat, q3z, h', qw, qj, qk, List.length_map, ↓reduceIte, Nat.reduceLT, Nat.reducePow, zfc, and_self, eq_self]
theorem q8m (a0 a1 a2 : Int) (am : Nat) (x : Ex) (gp gc gg : Nat) (i : Nat) (hi : x.ev.proc = i) (hp : i < x.procs.length) :
    (evL T).call qa6 [.ptr 5 0 0 0] [.row 4 [[(ii a0), (ii a1), .sl 2 0 0 am false, (ii a2)]] 0, .row 4 [[(ii 0), (ii 0), .fsl [] false, (ii 0)]] 0, .row 4 ((x.procs).map Pr.r) gp, .row 6 ((x.out).map Evt.r) gc, .row 1 ((x.gone).map qfe) gg, .row 14 [[(ii x.r0), (ii x.r1), .sl 2 gp 0 x.procs.length false, (ii x.sum), (ii x.ev.time), (.fsl ((x.ev.key).map qcm) false), (ii x.ev.lp), (ii x.ev.kind), (ii x.ev.proc), (ii x.ev.arg), .sl 3 gc 0 x.out.length false, (ii x.n), .sl 4 gg 0 x.gone.length false, (bb x.over)]] 0] = some (.ptr 2 gp i 0, [.row 4 [[(ii a0), (ii a1), .sl 2 0 0 am false, (ii a2)]] 0, .row 4 [[(ii 0), (ii 0), .fsl [] false, (ii 0)]] 0, .row 4 ((x.procs).map Pr.r) gp, .row 6 ((x.out).map Evt.r) gc, .row 1 ((x.gone).map qfe) gg, .row 14 [[(ii x.r0), (ii x.r1), .sl 2 gp 0 x.procs.length false, (ii x.sum), (ii x.ev.time), (.fsl ((x.ev.key).map qcm) false), (ii x.ev.lp), (ii x.ev.kind), (ii x.ev.proc), (ii x.ev.arg), .sl 3 gc 0 x.out.length false, (ii x.n), .sl 4 gg 0 x.gone.length false, (bb x.over)]] 0]) := by
  rw [qs qkq qj6]
  simp only [qe5, hi, hp, Int.natCast_nonneg, Int.toNat_natCast, qar, qat, qac, qbq, Nat.reduceLT, qm, Ev.exec, qb, qe, qc, qag, Ev.Opnd.ev, Ev.Env.get, Ev.Env.set, Ev.look, qn, qh, qab, ql, qx, qae, Ev.kill, qad, qd, Ev.SObj.lo, qay, qw, qb2, qlg, qj, qk, qaf, qaq, ↓qq, ↓reduceIte, List.length_cons, List.length_nil, List.getElem?_cons_zero, List.getElem?_cons_succ, List.take_succ_cons, zfe, List.drop_succ_cons, List.drop_zero, List.head?_cons, Nat.reduceAdd, Nat.reduceEqDiff, Nat.reduceLT, reduceCtorEq, decide_true, zfc, zfa, and_self, zfd, Nat.add_zero, eq_self]
def qc1 (x : Lp) (e : Evt) : Ex := ⟨x.r0, x.r1, x.procs, x.sum, e, [], 0, [], false⟩
def qjf (e : Evt) (q : Pr) : Pr := if e.kind = 2 then { q with pc := e.arg, timer := if q.timer = e.key then [] else q.timer } else q
def q46 (x : Ex) : Lp := ⟨x.r0, x.r1, x.procs, x.sum⟩
def qnb (x : Lp) (e : Evt) : Option Pr := if (e.kind = 1 ∨ e.kind = 2) ∧ 0 ≤ e.proc then (x.procs[e.proc.toNat]?).bind fun q => if q.alive = true then some q else none else none
def qr9 (c : Cfg) (x : Lp) (e : Evt) (q : Pr) : Ex := qlo ((c.progs[q.prog.toNat]?).getD []) e.proc.toNat 16 ((qc1 x e).setP e.proc.toNat (qjf e q))
structure qyc (c : Cfg) (x : Lp) (e : Evt) : Prop where
  procs : x.procs.length ≤ 20
  key : e.key.length ≤ 1000
  proc : ∀ q ∈ x.procs, 0 ≤ q.prog ∧ q.prog < c.progs.length ∧ 0 ≤ q.pc ∧ q.pc ≤ 1000000 ∧ q.timer.length ≤ 1000
  prog : ∀ p ∈ c.progs, p.length ≤ 1000 ∧ ∀ op ∈ p, OpOk' op
  arg : e.kind = 2 → 0 ≤ e.arg ∧ e.arg ≤ 1000000
section
variable (c : Cfg) (x : Lp) (e : Evt)
theorem Exec_msg (hk : e.kind = 3) : qaz (evL T) qez [(.agg [(.fsl ((c.lps).map lpC) false), (.fsl ((c.progs).map qbm) false), (ii c.look), (ii c.fin), (ii c.cap)]), (.agg [(ii x.r0), (ii x.r1), (.fsl ((x.procs).map Pr.r) false), (ii x.sum)]), (.agg [(ii e.time), (.fsl ((e.key).map qcm) false), (ii e.lp), (ii e.kind), (ii e.proc), (ii e.arg)])] = some (.tup [(.agg [(ii ((⟨x.r0, x.r1, x.procs, w64 (x.sum + e.arg)⟩ : Lp).r0)), (ii ((⟨x.r0, x.r1, x.procs, w64 (x.sum + e.arg)⟩ : Lp).r1)), (.fsl (((⟨x.r0, x.r1, x.procs, w64 (x.sum + e.arg)⟩ : Lp).procs).map Pr.r) false), (ii ((⟨x.r0, x.r1, x.procs, w64 (x.sum + e.arg)⟩ : Lp).sum))]), .fsl [] true, .fsl [] true, (bb false)]) := by
  rw [qaz, qs qk4 qkl]
  simp only [qbz, hk, qat, qm, Ev.exec, qb, qe, qc, qag, Ev.Opnd.ev, Ev.Env.get, Ev.Env.set, Ev.look, qn, qh, qab, Ev.AV.cells, Ev.AV.uc, qv, Ev.AV.plain, qaj, qal, ql, qx, qae, Ev.kill, qad, qd, qay, qbe, qbc, qw, qj, qk, qaf, qah, ↓qq, ↓reduceIte, List.length_cons, List.length_nil, List.getElem?_cons_zero, List.getElem?_cons_succ, List.take_succ_cons, List.take_zero, zfe, List.drop_succ_cons, List.drop_zero, List.drop_nil, List.cons_append, List.nil_append, List.append_nil, List.set_cons_zero, List.set_cons_succ, List.head?_cons, Nat.reduceAdd, Nat.reduceEqDiff, reduceCtorEq, decide_true, zfc, zfa, and_self, ne_eq, zfb, zff, zfd, Nat.le_refl, eq_self]
theorem qab1 (hk : ¬ e.kind = 3) (ha : qnb x e = none) : qaz (evL T) qez [(.agg [(.fsl ((c.lps).map lpC) false), (.fsl ((c.progs).map qbm) false), (ii c.look), (ii c.fin), (ii c.cap)]), (.agg [(ii x.r0), (ii x.r1), (.fsl ((x.procs).map Pr.r) false), (ii x.sum)]), (.agg [(ii e.time), (.fsl ((e.key).map qcm) false), (ii e.lp), (ii e.kind), (ii e.proc), (ii e.arg)])] = some (.tup [(.agg [(ii x.r0), (ii x.r1), (.fsl ((x.procs).map Pr.r) false), (ii x.sum)]), .fsl [] true, .fsl [] true, (bb false)]) := by
  rw [qaz, qs qk4 qkl]
  by_cases k1 : e.kind = 1
  case neg =>
    by_cases k2 : e.kind = 2
    case neg => simp only [qbz, hk, k1, k2, qat, qm, Ev.exec, qb, qe, qc, qag, Ev.Opnd.ev, Ev.Env.get, Ev.Env.set, Ev.look, qn, qh, qab, Ev.AV.cells, qv, Ev.AV.plain, qal, qax, ql, qx, qae, Ev.kill, qad, qd, qay, qbe, qbc, qw, qj, qk, qaf, qah, ↓qq, ↓reduceIte, List.length_cons, List.length_nil, List.getElem?_cons_zero, List.getElem?_cons_succ, List.take_succ_cons, List.take_zero, zfe, List.drop_succ_cons, List.drop_zero, List.drop_nil, List.cons_append, List.nil_append, List.append_nil, List.set_cons_zero, List.set_cons_succ, List.head?_cons, Nat.reduceAdd, Nat.reduceEqDiff, reduceCtorEq, decide_true, decide_false, zfc, zfa, and_self, ne_eq, zfb, zff, zfd, Nat.le_refl, eq_self]
    by_cases h1 : e.proc < 0
    · simp only [qbz, k2, h1, qat, qm, Ev.exec, qb, qe, qc, qag, Ev.Opnd.ev, Ev.Env.get, Ev.Env.set, Ev.look, qn, qh, qab, Ev.AV.cells, qv, Ev.AV.plain, qal, qax, qo, ql, qx, qae, Ev.kill, qad, qd, qay, qbe, qbc, qw, qj, qk, qaf, qah, ↓qq, ↓reduceIte, List.length_cons, List.length_nil, List.getElem?_cons_zero, List.getElem?_cons_succ, List.take_succ_cons, List.take_zero, zfe, List.drop_succ_cons, List.drop_zero, List.drop_nil, List.cons_append, List.nil_append, List.append_nil, List.set_cons_zero, List.set_cons_succ, List.head?_cons, Nat.reduceAdd, Nat.reduceEqDiff, Int.reduceEq, reduceCtorEq, decide_true, decide_false, zfc, zfa, and_self, ne_eq, zfb, not_true_eq_false, zff, zfd, Nat.le_refl, eq_self]
    by_cases h2 : e.proc ≥ (x.procs.length : Int)
    · simp only [qbz, k2, h1, h2, qat, qm, Ev.exec, qb, qe, qc, qag, Ev.Opnd.ev, Ev.Env.get, Ev.Env.set, Ev.look, qn, qh, qab, Ev.AV.cells, qv, Ev.AV.plain, qal, qax, qo, qb5, ql, qx, qae, Ev.kill, qad, qd, qay, qbe, qbc, qw, qj, qk, qaf, qah, List.length_map, ↓qq, ↓reduceIte, List.length_cons, List.length_nil, List.getElem?_cons_zero, List.getElem?_cons_succ, List.take_succ_cons, List.take_zero, zfe, List.drop_succ_cons, List.drop_zero, List.drop_nil, List.cons_append, List.nil_append, List.append_nil, List.set_cons_zero, List.set_cons_succ, List.head?_cons, Nat.reduceAdd, Nat.reduceEqDiff, Int.reduceEq, reduceCtorEq, decide_true, decide_false, zfc, zfa, and_self, ne_eq, zfb, not_true_eq_false, zff, zfd, Nat.le_refl, eq_self]
    obtain ⟨q, hq⟩ : ∃ q, x.procs[e.proc.toNat]? = some q := ⟨_, List.getElem?_eq_getElem (by omega)⟩
    have h0 : 0 ≤ e.proc := by omega
    have hal : q.alive = false := by
      unfold qnb at ha
      rw [if_pos ⟨.inr k2, h0⟩, hq] at ha
      cases h : q.alive with
      | false => rfl
      | true => simp [h] at ha
    simp only [qbz, k2, h0, h1, h2, hq, hal, List.getElem?_map, Option.map_some, Pr.r, qat, qm, Ev.exec, qb, qe, qc, qag, Ev.Opnd.ev, Ev.Env.get, Ev.Env.set, Ev.look, qn, qh, qab, Ev.AV.cells, qv, Ev.AV.plain, qal, qax, qo, qb5, ql, qx, qae, Ev.kill, qad, qd, qay, qbe, qbc, qw, qj, qk, qaf, qah, List.length_map, ↓qq, ↓reduceIte, List.length_cons, List.length_nil, List.getElem?_cons_zero, List.getElem?_cons_succ, List.take_succ_cons, List.take_zero, zfe, List.drop_succ_cons, List.drop_zero, List.drop_nil, List.cons_append, List.nil_append, List.append_nil, List.set_cons_zero, List.set_cons_succ, List.head?_cons, Nat.reduceAdd, Nat.reduceEqDiff, Int.reduceEq, reduceCtorEq, decide_true, decide_false, zfc, Bool.not_false, zfa, and_self, ne_eq, zfb, not_true_eq_false, zff, zfd, Nat.le_refl, eq_self]
  by_cases h1 : e.proc < 0
  · simp only [qbz, k1, h1, qat, qm, Ev.exec, qb, qe, qc, qag, Ev.Opnd.ev, Ev.Env.get, Ev.Env.set, Ev.Env.unset, Ev.look, qn, qh, qab, Ev.AV.cells, qv, Ev.AV.plain, qal, qax, qo, ql, qx, qae, Ev.kill, qad, qd, qay, qbe, qbc, qw, qj, qk, qaf, qah, ↓qq, ↓reduceIte, List.length_cons, List.length_nil, List.getElem?_cons_zero, List.getElem?_cons_succ, List.take_succ_cons, List.take_zero, zfe, List.drop_succ_cons, List.drop_zero, List.drop_nil, List.cons_append, List.nil_append, List.append_nil, List.set_cons_zero, List.set_cons_succ, List.head?_cons, Nat.reduceAdd, Nat.reduceEqDiff, Int.reduceEq, reduceCtorEq, decide_true, decide_false, zfc, zfa, and_self, ne_eq, zfb, not_true_eq_false, zff, zfd, Nat.le_refl, eq_self]
  by_cases h2 : e.proc ≥ (x.procs.length : Int)
  · simp only [qbz, k1, h1, h2, qat, qm, Ev.exec, qb, qe, qc, qag, Ev.Opnd.ev, Ev.Env.get, Ev.Env.set, Ev.Env.unset, Ev.look, qn, qh, qab, Ev.AV.cells, qv, Ev.AV.plain, qal, qax, qo, qb5, ql, qx, qae, Ev.kill, qad, qd, qay, qbe, qbc, qw, qj, qk, qaf, qah, List.length_map, ↓qq, ↓reduceIte, List.length_cons, List.length_nil, List.getElem?_cons_zero, List.getElem?_cons_succ, List.take_succ_cons, List.take_zero, zfe, List.drop_succ_cons, List.drop_zero, List.drop_nil, List.cons_append, List.nil_append, List.append_nil, List.set_cons_zero, List.set_cons_succ, List.head?_cons, Nat.reduceAdd, Nat.reduceEqDiff, Int.reduceEq, reduceCtorEq, decide_true, decide_false, zfc, zfa, and_self, ne_eq, zfb, not_true_eq_false, zff, zfd, Nat.le_refl, eq_self]
  obtain ⟨q, hq⟩ : ∃ q, x.procs[e.proc.toNat]? = some q := ⟨_, List.getElem?_eq_getElem (by omega)⟩
  have h0 : 0 ≤ e.proc := by omega
  have hal : q.alive = false := by
    unfold qnb at ha
    rw [if_pos ⟨.inl k1, h0⟩, hq] at ha
    cases h : q.alive with
    | false => rfl
    | true => simp [h] at ha
  simp only [qbz, k1, h0, h1, h2, hq, hal, List.getElem?_map, Option.map_some, Pr.r, qat, qm, Ev.exec, qb, qe, qc, qag, Ev.Opnd.ev, Ev.Env.get, Ev.Env.set, Ev.Env.unset, Ev.look, qn, qh, qab, Ev.AV.cells, qv, Ev.AV.plain, qal, qax, qo, qb5, ql, qx, qae, Ev.kill, qad, qd, qay, qbe, qbc, qw, qj, qk, qaf, qah, List.length_map, ↓qq, ↓reduceIte, List.length_cons, List.length_nil, List.getElem?_cons_zero, List.getElem?_cons_succ, List.take_succ_cons, List.take_zero, zfe, List.drop_succ_cons, List.drop_zero, List.drop_nil, List.cons_append, List.nil_append, List.append_nil, List.set_cons_zero, List.set_cons_succ, List.head?_cons, Nat.reduceAdd, Nat.reduceEqDiff, Int.reduceEq, reduceCtorEq, decide_false, zfc, Bool.not_false, zfa, and_self, ne_eq, zfb, not_true_eq_false, zff, zfd, Nat.le_refl, eq_self]
end
set_option maxRecDepth 10000
section
variable (c : Cfg) (x : Lp) (e : Evt)
theorem qz1 (h : qyc c x e) {i : Nat} {q : Pr} (hi : e.proc = i) (hq : x.procs[i]? = some q) : ActInv e i 0 ((qc1 x e).setP i (qjf e q)) := by
  have hlt := (List.getElem?_eq_some_iff.1 hq).1
  obtain ⟨p1, p2, p3, p4, p5⟩ := h.proc q (List.mem_of_getElem? hq)
  refine ⟨rfl, ⟨qjf e q, by simp only [Ex.setP, qc1]; rw [List.getElem?_set_self hlt], ?_⟩, by simp only [Ex.setP, qc1, List.length_set]; exact h.procs, Nat.le_refl _, Nat.le_refl _⟩
  unfold qjf
  by_cases k : e.kind = 2
  · rw [if_pos k]; exact h.arg k
  · rw [if_neg k]; exact ⟨p3, p4⟩
theorem q0q (q : Pr) : (qjf e q).prog = q.prog := by unfold qjf; split <;> rfl
theorem Exec_run (h : qyc c x e) {q : Pr} (ha : qnb x e = some q) :
    qaz (evL T) qez [(.agg [(.fsl ((c.lps).map lpC) false), (.fsl ((c.progs).map qbm) false), (ii c.look), (ii c.fin), (ii c.cap)]), (.agg [(ii x.r0), (ii x.r1), (.fsl ((x.procs).map Pr.r) false), (ii x.sum)]), (.agg [(ii e.time), (.fsl ((e.key).map qcm) false), (ii e.lp), (ii e.kind), (ii e.proc), (ii e.arg)])] = some (.tup [(.agg [(ii ((q46 (qr9 c x e q)).r0)), (ii ((q46 (qr9 c x e q)).r1)), (.fsl (((q46 (qr9 c x e q)).procs).map Pr.r) false), (ii ((q46 (qr9 c x e q)).sum))]), (.fsl (((qr9 c x e q).out).map Evt.r) false), (.fsl (((qr9 c x e q).gone).map qfe) false), (bb ((qr9 c x e q).over))]) := by
  unfold qnb at ha
  split at ha
  case isFalse => cases ha
  rename_i hc
  obtain ⟨hkind, h0⟩ := hc
  obtain ⟨i, hi⟩ : ∃ i : Nat, e.proc = i := ⟨_, (Int.toNat_of_nonneg h0).symm⟩
  have hin : e.proc.toNat = i := by omega
  rw [hin, Option.bind_eq_some_iff] at ha
  obtain ⟨q', hq, ha⟩ := ha
  split at ha
  case isFalse => cases ha
  rename_i hal
  cases ha
  have hlt := (List.getElem?_eq_some_iff.1 hq).1
  obtain ⟨p1, p2, p3, p4, p5⟩ := h.proc q (List.mem_of_getElem? hq)
  obtain ⟨p, hp⟩ : ∃ p, c.progs[q.prog.toNat]? = some p := ⟨_, List.getElem?_eq_getElem (by omega)⟩
  obtain ⟨pl, pok⟩ := h.prog p (List.mem_of_getElem? hp)
  have hinv := qz1 c x e h hi hq
  obtain ⟨gp, gc, gg, hact, hend⟩ := q6h x.r0 x.r1 x.sum x.procs.length e i p false h.key hi pl pok ((qc1 x e).setP i (qjf e q)) 0 0 0 hinv
  have hrun : qr9 c x e q = qlo p i 16 ((qc1 x e).setP i (qjf e q)) := by unfold qr9; rw [hin, hp]; rfl
  rw [hrun]
  generalize qlo p i 16 ((qc1 x e).setP i (qjf e q)) = F at hact hend
  have hcl := q2q x.procs false (by have := h.procs; omega)
  have h1 : ¬ e.proc < 0 := by omega
  have h2 : ¬ e.proc ≥ (x.procs.length : Int) := by omega
  have h9 : ((i : Int)).toNat = i := Int.toNat_natCast i
  have h3 : ¬ e.kind = 3 := by omega
  have s0 := q8m x.r0 x.r1 x.sum x.procs.length (qc1 x e) 0 0 0 i hi hlt
  have hset : (x.procs.map Pr.r).set i [(ii ((qjf e q).prog)), (ii ((qjf e q).pc)), (bb ((qjf e q).alive)), (.fsl (((qjf e q).timer).map qcm) false)] = (x.procs.set i (qjf e q)).map Pr.r := by rw [List.map_set]; rfl
  have hl : (x.procs.set i (qjf e q)).length = x.procs.length := by simp
  have hq2 : (x.procs.set i (qjf e q))[i]? = some (qjf e q) := by rw [List.getElem?_set_self hlt]
  have s1 := q8m x.r0 x.r1 x.sum x.procs.length ((qc1 x e).setP i (qjf e q)) 0 0 0 i hi (by simp only [Ex.setP, qc1, List.length_set]; exact hlt)
  rw [hi] at h0 h1 h2
  simp only [qc1, List.map_nil, List.length_nil, hi] at s0
  simp only [qc1, Ex.setP, List.map_nil, List.length_nil, hl, hi] at s1 hact
  have ft : ∀ {τ : Type} (l : List τ) (f : τ → List AV), List.take l.length (l.map f) = l.map f := fun l f => List.take_of_length_le (by simp)
  have hpr := q0q e q
  rw [qaz, qs qk4 qkl]
  rcases hkind with k1 | k2
  · have hwk : qjf e q = q := by unfold qjf; rw [if_neg (by omega)]
    have hss : x.procs.set i q = x.procs := by
      obtain ⟨hlt', hge⟩ := List.getElem?_eq_some_iff.1 hq
      rw [← hge, List.set_getElem_self]
    rw [hwk, hss] at hact
    have k2 : ¬ e.kind = 2 := by omega
    have k3 : ¬ (1 : Int) = 3 := by decide
    have k4 : ¬ (1 : Int) = 2 := by decide
    simp only [k1] at s0 hact ⊢
    simp only [qbz, k3, k4, h0, h1, h2, hi, hq, hal, hcl, s0, p1, hp, hact, ft, q46, Int.toNat_natCast, List.getElem?_map, Option.map_some, Pr.r, qbm, qat, qac, qbq, Nat.reduceLT, Nat.reduceLeDiff, qm, Ev.exec, qb, qe, qc, qoo, qd2, q27, Ev.AV.shift, qag, q79, Ev.evs, Ev.Opnd.ev, Ev.Env.get, Ev.Env.set, Ev.Env.unset, Ev.look, qn, qh, qab, qff, Ev.AV.cells, Ev.AV.uc, qv, Ev.AV.plain, qal, qax, qo, qb5, ql, qx, qae, Ev.kill, qad, qd, qay, qbe, qbc, qw, qb2, qoi, Ev.AV.obj?, qj, qk, qah, q4a, qw3, qlc, qik, qgx, qfc, qgj, List.length_map, ↓qq, ↓reduceIte, List.length_cons, List.length_nil, List.getElem?_cons_zero, List.getElem?_cons_succ, List.take_succ_cons, List.take_zero, zfe, List.drop_succ_cons, List.drop_zero, List.drop_nil, List.cons_append, List.nil_append, List.append_nil, List.set_cons_zero, List.set_cons_succ, List.head?_cons, Nat.reduceAdd, Nat.reduceEqDiff, Nat.reduceBEq, Nat.reduceLT, Nat.reduceLeDiff, reduceCtorEq, decide_false, zfc, Bool.and_true, Bool.not_true, Bool.not_false, zfa, and_self, and_true, ne_eq, zfb, not_true_eq_false, zff, zfd, Nat.add_zero, Nat.lt_add_one, Nat.le_refl, eq_self, Bool.and_false]
    done
  · have k1 : ¬ (2 : Int) = 1 := by decide
    have k3 : ¬ (2 : Int) = 3 := by decide
    have hkl := h.key
    have hwk : qjf e q = { q with pc := e.arg, timer := if q.timer = e.key then [] else q.timer } := by unfold qjf; rw [if_pos k2]
    obtain ⟨qp, qpc, qa, qt⟩ := q
    dsimp only at *
    subst hal
    have heq := qs5 qt e.key false false (by omega) (by omega)
    have hset1 : (x.procs.map Pr.r).set i [(ii qp), (ii e.arg), (bb true), (.fsl ((qt).map qcm) false)] = (x.procs.set i ⟨qp, e.arg, true, qt⟩).map Pr.r := by rw [List.map_set]; rfl
    have hg1 : (x.procs.set i ⟨qp, e.arg, true, qt⟩)[i]? = some ⟨qp, e.arg, true, qt⟩ := by rw [List.getElem?_set_self hlt]
    have hset2 : ((x.procs.set i ⟨qp, e.arg, true, qt⟩).map Pr.r).set i [(ii qp), (ii e.arg), (bb true), .fsl [] false] = (x.procs.set i ⟨qp, e.arg, true, []⟩).map Pr.r := by
      have : x.procs.set i ⟨qp, e.arg, true, []⟩ = (x.procs.set i ⟨qp, e.arg, true, qt⟩).set i ⟨qp, e.arg, true, []⟩ := by rw [List.set_set]
      rw [this, List.map_set (l := x.procs.set i ⟨qp, e.arg, true, qt⟩)]; rfl
    have hl1 : (x.procs.set i ⟨qp, e.arg, true, qt⟩).length = x.procs.length := by simp
    rw [hwk] at s1 hact hq2
    simp only [k2] at s0 s1 hact ⊢
    by_cases ht : qt = e.key
    · simp only [ht, if_true] at s1 hact hq2
      simp only [ht, decide_true] at heq
      simp only [ht] at hset1 hset2 hg1
      simp only [qbz, k1, k3, h0, h1, h2, hi, hq, hcl, s0, s1, p1, hp, hact, ft, heq, hset1, hset2, hg1, hq2, ht, q46, Int.toNat_natCast, List.getElem?_map, Option.map_some, Pr.r, qbm, qar, qat, qac, qbq, Nat.reduceLT, Nat.reduceLeDiff, qm, Ev.exec, qb, qe, qc, qaw, qoo, qd2, q27, Ev.AV.shift, qag, q79, Ev.evs, Ev.Opnd.ev, Ev.Env.get, Ev.Env.set, Ev.look, qn, qh, qab, qff, Ev.AV.cells, Ev.AV.uc, qv, Ev.AV.plain, qal, qax, qo, qb5, ql, qx, qae, Ev.kill, qad, qd, qay, qbe, qbc, qw, qb2, qoi, Ev.AV.obj?, qj, qk, qah, q4a, qw3, qlc, qik, qgx, qfc, qgj, List.length_map, ↓qq, ↓reduceIte, List.length_cons, List.length_nil, List.getElem?_cons_zero, List.getElem?_cons_succ, List.take_succ_cons, List.take_zero, zfe, List.drop_succ_cons, List.drop_zero, List.drop_nil, List.cons_append, List.nil_append, List.append_nil, List.set_cons_zero, List.set_cons_succ, List.head?_cons, Nat.reduceAdd, Nat.reduceEqDiff, Nat.reduceBEq, Nat.reduceLT, Nat.reduceLeDiff, reduceCtorEq, decide_true, decide_false, zfc, Bool.and_true, Bool.not_true, Bool.not_false, zfa, and_self, and_true, ne_eq, zfb, not_true_eq_false, zff, zfd, Nat.add_zero, Nat.lt_add_one, Nat.le_refl, eq_self, Bool.and_false]
      done
    · simp only [ht, if_false] at s1 hact hq2
      simp only [ht, decide_false] at heq
      simp only [qbz, k1, k3, h0, h1, h2, hi, hq, hcl, s0, s1, p1, hp, hact, ft, heq, hset1, hg1, q46, Int.toNat_natCast, List.getElem?_map, Option.map_some, Pr.r, qbm, qar, qat, qac, qbq, Nat.reduceLT, Nat.reduceLeDiff, qm, Ev.exec, qb, qe, qc, qaw, qoo, qd2, q27, Ev.AV.shift, qag, q79, Ev.evs, Ev.Opnd.ev, Ev.Env.get, Ev.Env.set, Ev.look, qn, qh, qab, qff, Ev.AV.cells, Ev.AV.uc, qv, Ev.AV.plain, qal, qax, qo, qb5, ql, qx, qae, Ev.kill, qad, qd, qay, qbe, qbc, qw, qb2, qoi, Ev.AV.obj?, qj, qk, qah, q4a, qw3, qlc, qik, qgx, qfc, qgj, List.length_map, ↓qq, ↓reduceIte, List.length_cons, List.length_nil, List.getElem?_cons_zero, List.getElem?_cons_succ, List.take_succ_cons, List.take_zero, zfe, List.drop_succ_cons, List.drop_zero, List.drop_nil, List.cons_append, List.nil_append, List.append_nil, List.set_cons_zero, List.set_cons_succ, List.head?_cons, Nat.reduceAdd, Nat.reduceEqDiff, Nat.reduceBEq, Nat.reduceLT, Nat.reduceLeDiff, reduceCtorEq, decide_true, decide_false, zfc, Bool.and_true, Bool.not_true, Bool.not_false, zfa, and_self, and_true, ne_eq, zfb, not_true_eq_false, zff, zfd, Nat.add_zero, Nat.lt_add_one, Nat.le_refl, eq_self, Bool.and_false]
      done
end
end Go.Proofs.YthkjkdbjgpeigaaGreat.K
