/- For every input the statement of this claim returns true: texts of its proof, joined (part 6). -/
import Derived.Test.YthkjkdbjgpeigaaProg
import Derived.KernelRfl
import Derived.Test.YthkjkdbjgpeigaaEB3
import Derived.Test.YthkjkdbjgpeigaaSKB
set_option linter.unusedSectionVars false
set_option linter.unusedSimpArgs false
set_option linter.unusedVariables false
namespace Go.Proofs.Ythkjkdbjgpeigaa.K
open Go.Ev
set_option maxRecDepth 100000
theorem qqt : qgg Try.prog { frz := [2], loops := [([2, 5, 6, 7, 9, 10], true), ([2, 5, 6, 7, 9, 10, 11, 12], true)] } qfv = some qfu := by kernel_rfl
theorem q04 : qgg Try.prog {  } qj9 = some qra := by kernel_rfl
theorem q36 : qgg Try.prog { frz := [1] } qmp = some qpk := by kernel_rfl
theorem q0c : qgg Try.prog {  } qi8 = some qmd := by kernel_rfl
theorem q15 : qgg Try.prog { frz := [2], mA := [15], mI := [18, 21] } qgf = some qkf := by kernel_rfl
theorem quq : qgg Try.prog { mA := [4] } qih = some qlr := by kernel_rfl
theorem qvt : qgg Try.prog {  } qgr = some qiv := by kernel_rfl
theorem qyo : qgg Try.prog { frz := [1], own := [3], topZ := [5], loops := [([1, 3, 4], false), ([1, 3, 4, 5, 6], false)] } qil = some qk8 := by kernel_rfl
theorem q01 : qgg Try.prog { frz := [3, 4, 5], ldx := [(96, 6), (98, 6), (100, 6)] } qgd = some qb9 := by kernel_rfl
theorem qy7 : qgg Try.prog { frz := [2, 3], loops := [([2, 3, 5], true)] } qim = some qfp := by kernel_rfl
theorem qut : qgg Try.prog { frz := [2], mA := [10], mI := [13] } qia = some qlu := by kernel_rfl
theorem q1p : qgg Try.prog {  } qiy = some qq4 := by kernel_rfl
theorem qz5 : qgg Try.prog { frz := [1], loops := [([1, 3], true), ([1, 4], true)] } qji = some qg5 := by kernel_rfl
theorem qzl : qgg Try.prog { frz := [1], loops := [([1, 3], true), ([1, 5], true), ([1, 5, 6], true)] } qjb = some qg7 := by kernel_rfl
theorem qw1 : qgg Try.prog { frz := [1] } qhk = some qla := by kernel_rfl
theorem qx6 : qgg Try.prog { frz := [1], mA := [9], ldF := [10], topZ := [7], holes := [1], fillC := [(9, 0)], ownS := [(7, 6)] } qhf = some qlb := by kernel_rfl
theorem qp1 : qgg Try.prog { mI := [12, 15], loops := [([0, 1], true)] } qdx = some qgu := by kernel_rfl
theorem qot : qgg Try.prog {  } qdi = some qex := by kernel_rfl
theorem qh1 : qgg Try.prog { mA := [24], bad := true, loops := [([0, 3, 9, 10, 11], true), ([6, 25, 26, 27], false)] } qa8 = some qcm := by kernel_rfl
theorem qwj : qgg Try.prog {  } qgo = some qht := by kernel_rfl
theorem qsb : qgg Try.prog { loops := [([0, 1, 5], true)] } qfl = some qgl := by kernel_rfl
theorem q28 : qgg Try.prog { frz := [5], appN := [12], frzv := [17] } qe4 = some qpz := by kernel_rfl
theorem qve : qgg Try.prog { frz := [3], loops := [([2, 3, 4, 6, 7], true)] } qg4 = some qg0 := by kernel_rfl
theorem q0d : qgg Try.prog { frz := [1], loops := [([1, 3], true)] } qjg = some qeu := by kernel_rfl
theorem qzq : qgg Try.prog { loops := [([0, 1, 2, 3, 9], true), ([0, 2, 3, 10], true), ([0, 3, 11], true)] } qjc = some qg6 := by kernel_rfl
theorem qp8 : qgg Try.prog { frz := [1], loops := [([3, 32, 33, 34], true)] } qdy = some qdw := by kernel_rfl
theorem qm7 : qgg Try.prog { frz := [1] } qcw = some qfh := by kernel_rfl
theorem qnz : qgg Try.prog { frz := [1] } qc7 = some qft := by kernel_rfl
theorem qpp : qgg Try.prog { frz := [1] } qdk = some qga := by kernel_rfl
theorem qln : qgg Try.prog { loops := [([1, 8, 9, 10], true)] } qcz = some qdn := by kernel_rfl
theorem qu6 : qgg Try.prog {  } qet = some qj1 := by kernel_rfl
theorem qvx : qgg Try.prog { frz := [1], topZ := [11], loops := [([3, 13, 14, 15], false), ([3, 4, 13, 14, 15, 20, 21, 22], false)] } qho = some qko := by kernel_rfl
theorem qug : qgg Try.prog { frz := [1], frzv := [37], own := [3], loops := [([3, 9, 10, 11], true), ([3, 4, 9, 10, 11, 16, 17, 18], true)] } qg1 = some qjy := by kernel_rfl
theorem qnr : qgg Try.prog { mA := [92], mI := [94], mF := [95], holes := [2], fillB := [(5, 2)], appB := [(38, 0), (38, 2)], ldB := [(25, 0), (27, 2)] } qdr = some qao := by kernel_rfl
theorem qin : qgg Try.prog { bad := true } qbe = some qb6 := by kernel_rfl
theorem q1t : qgg Try.prog { frz := [5], appN := [134], frzv := [141] } qdu = some qdv := by kernel_rfl
theorem qzx : qgg Try.prog { loops := [([0, 3], true)] } qi5 = some qh9 := by kernel_rfl
theorem qur : qgg Try.prog { frz := [3] } qgy = some qd7 := by kernel_rfl
theorem qv8 : qgg Try.prog {  } qeq = some qkr := by kernel_rfl
theorem qum : qgg Try.prog {  } qfc = some qj2 := by kernel_rfl
theorem qmc : qgg Try.prog {  } qcn = some qfa := by kernel_rfl
theorem qqb : qgg Try.prog { loops := [([1, 8, 9, 10], true)] } qek = some qfj := by kernel_rfl
theorem qnx : qgg Try.prog {  } qc6 = some qfs := by kernel_rfl
theorem qnm : qgg Try.prog { loops := [([1, 8, 9, 10], true)] } qds = some qem := by kernel_rfl
theorem qz7 : qgg Try.prog { mA := [6] } qh6 = some ql5 := by kernel_rfl
theorem qso : qgg Try.prog { mA := [5], mI := [7] } qeg = some qir := by kernel_rfl
theorem qx8 : qgg Try.prog { frz := [3, 5], mA := [52], mI := [59, 82, 88], ldF := [80], ldx := [(96, 6), (100, 6), (104, 6)], ownB := [(56, (10, 6)), (56, (12, 1))] } qep = some qby := by kernel_rfl
theorem qmf : qgg Try.prog { frz := [2] } qav = some qfb := by kernel_rfl
theorem qhh : qgg Try.prog { mI := [10], loops := [([0, 1, 5, 6], true)] } qba = some qbp := by kernel_rfl
theorem qxs : qgg Try.prog { appN := [36], frzv := [41], ldx := [(32, 6), (45, 6)] } qfq = some qjr := by kernel_rfl
theorem qtl : qgg Try.prog { appN := [8] } qfo = some qja := by kernel_rfl
theorem qz4 : qgg Try.prog {  } qgc = some ql4 := by kernel_rfl
theorem qzp : qgg Try.prog {  } qhe = some qmk := by kernel_rfl
theorem qvv : qgg Try.prog { loops := [([0, 33, 34, 35], true), ([0, 11, 33, 34, 35, 39, 40, 41], true)] } qhq = some qhv := by kernel_rfl
theorem ql6 : qgg Try.prog { frz := [2] } qco = some qe8 := by kernel_rfl
theorem qod : qgg Try.prog { loops := [([1, 8, 9, 10], true)] } qd3 = some qe1 := by kernel_rfl
theorem qgq : qgg Try.prog { mI := [8] } qa1 = some qb1 := by kernel_rfl
theorem qqw : qgg Try.prog { frz := [2, 3] } qr = some qhb := by kernel_rfl
theorem qow : qgg Try.prog {  } qa0 = some qez := by kernel_rfl
theorem qo6 : qgg Try.prog { loops := [([0, 1, 12, 13], true)] } qdl = some qd9 := by kernel_rfl
theorem qls : qgg Try.prog { mA := [6], mI := [10, 19, 44, 49], loops := [([0, 1, 4, 7], true)] } qdb = some qd1 := by kernel_rfl
theorem qle : qgg Try.prog {  } qbj = some qes := by kernel_rfl
theorem qkm : qgg Try.prog {  } qcf = some qd4 := by kernel_rfl
theorem qhm : qgg Try.prog { loops := [([0, 1, 7, 8], true)] } qbg = some qbw := by kernel_rfl
theorem qz8 : qgg Try.prog { appN := [8] } qje = some qma := by kernel_rfl
theorem qvd : qgg Try.prog {  } qbo = some qjx := by kernel_rfl
theorem qqf : qgg Try.prog { frz := [2, 3] } qa2 = some qgw := by kernel_rfl
theorem qnh : qgg Try.prog { frz := [2, 3], ldF := [41, 60, 79] } qas = some qbq := by kernel_rfl
theorem qol : qgg Try.prog { frz := [2, 3] } qaw = some qfy := by kernel_rfl
theorem qo5 : qgg Try.prog { frz := [2, 3] } qay = some qgb := by kernel_rfl
theorem qjt : qgg Try.prog { mI := [18, 27, 43, 60], loops := [([0, 1, 2, 6, 7, 8], true), ([0, 1, 2, 6], true), ([0, 1, 2, 6, 7, 8], true)] } qb4 = some qdm := by kernel_rfl
theorem qua : qgg Try.prog {  } qfn = some qgk := by kernel_rfl
theorem qr5 : qgg Try.prog {  } qfk = some qh3 := by kernel_rfl
theorem qzn : qgg Try.prog {  } qjd = some ql3 := by kernel_rfl
theorem qpw : qgg Try.prog {  } qej = some qgv := by kernel_rfl
theorem qlf : qgg Try.prog { loops := [([0, 1, 7, 8], true)] } qcy = some qdo := by kernel_rfl
theorem qh8 : qgg Try.prog { loops := [([0, 1, 2, 3, 8], true), ([0, 1, 2, 3, 8, 9], true)] } qa7 = some qcl := by kernel_rfl
theorem qi6 : qgg Try.prog { mI := [191, 205, 219], loops := [([0, 1, 4, 10, 11], true), ([0, 10, 13], true), ([0, 2, 4, 14, 15], true), ([0, 14, 17], true), ([0, 1, 2, 3, 4, 18, 19, 20, 21, 22], true)] } qap = some qg := by kernel_rfl
theorem qwg : qgg Try.prog {  } qgt = some qkq := by kernel_rfl
theorem qnu : qgg Try.prog { loops := [([0, 1, 9, 10, 11], true)] } qdt = some qc5 := by kernel_rfl
theorem q08 : qgg Try.prog { loops := [([3, 6, 7, 8], true)] } qke = some qli := by kernel_rfl
theorem qou : qgg Try.prog { frz := [3], mI := [14, 15], ldF := [7] } qct = some qfz := by kernel_rfl
theorem qoh : qgg Try.prog { frz := [3], mI := [13] } qcs = some qf0 := by kernel_rfl
theorem qnk : qgg Try.prog { frz := [3], mI := [7, 21, 22], mR := [9], ldF := [12] } qci = some qfr := by kernel_rfl
theorem qog : qgg Try.prog { frz := [3], mI := [7] } qcd = some qey := by kernel_rfl
theorem qnt : qgg Try.prog { frz := [3], mI := [33, 34], ldF := [30] } qch = some qen := by kernel_rfl
theorem qo4 : qgg Try.prog { frz := [3] } qc0 = some qe7 := by kernel_rfl
theorem qoc : qgg Try.prog { frz := [3], mI := [17], ldF := [19] } qcr = some qdh := by kernel_rfl
theorem qpa : qgg Try.prog { frz := [3] } qc3 = some qf7 := by kernel_rfl
theorem qjq : qgg Try.prog { mI := [31, 46, 57], loops := [([0, 2, 4, 10, 11], true)] } qbi = some qdj := by kernel_rfl
theorem qpd : qgg Try.prog {  } qc1 = some qf9 := by kernel_rfl
theorem qni : qgg Try.prog {  } qb2 = some qeb := by kernel_rfl
theorem qi1 : qgg Try.prog { loops := [([0, 1, 2, 3, 10], true)] } qa6 = some qda := by kernel_rfl
theorem qoy : qup Try.prog qe3 = some (1, 8) := by kernel_rfl
theorem qh4 : qup Try.prog qb3 = some (6, 64) := by kernel_rfl
theorem qj3 : qup Try.prog qc2 = some (4, 48) := by kernel_rfl
def codeL : List (Nat × CFunc) := [(qfv, qfu), (qj9, qra), (qmp, qpk), (qi8, qmd), (qgf, qkf), (qih, qlr), (qgr, qiv), (qil, qk8), (qgd, qb9), (qim, qfp), (qia, qlu), (qiy, qq4), (qji, qg5), (qjb, qg7), (qhk, qla), (qhf, qlb), (qdx, qgu), (qdi, qex), (qa8, qcm), (qgo, qht), (qfl, qgl), (qe4, qpz), (qg4, qg0), (qjg, qeu), (qjc, qg6), (qdy, qdw), (qcw, qfh), (qc7, qft), (qdk, qga), (qcz, qdn), (qet, qj1), (qho, qko), (qg1, qjy), (qdr, qao), (qbe, qb6), (qdu, qdv), (qi5, qh9), (qgy, qd7), (qeq, qkr), (qfc, qj2), (qcn, qfa), (qek, qfj), (qc6, qfs), (qds, qem), (qh6, ql5), (qeg, qir), (qep, qby), (qav, qfb), (qba, qbp), (qfq, qjr), (qfo, qja), (qgc, ql4), (qhe, qmk), (qhq, qhv), (qco, qe8), (qd3, qe1), (qa1, qb1), (qr, qhb), (qa0, qez), (qdl, qd9), (qdb, qd1), (qbj, qes), (qcf, qd4), (qbg, qbw), (qje, qma), (qbo, qjx), (qa2, qgw), (qas, qbq), (qaw, qfy), (qay, qgb), (qb4, qdm), (qfn, qgk), (qfk, qh3), (qjd, ql3), (qej, qgv), (qcy, qdo), (qa7, qcl), (qap, qg), (qgt, qkq), (qdt, qc5), (qke, qli), (qct, qfz), (qcs, qf0), (qci, qfr), (qcd, qey), (qch, qen), (qc0, qe7), (qcr, qdh), (qc3, qf7), (qbi, qdj), (qc1, qf9), (qb2, qeb), (qa6, qda)]
def extL : List (Nat × (Nat × Nat)) := [(qe3, (1, 8)), (qb3, (6, 64)), (qc2, (4, 48))]
def q57 {α : Type} : List (Nat × α) → Nat → Option α
  | [], _ => none
  | (k, x) :: l, i => if k = i then some x else q57 l i
theorem qxq {α : Type} : ∀ {l : List (Nat × α)} {i : Nat} {x : α}, q57 l i = some x → (i, x) ∈ l
  | [], _, _, h => by simp [q57] at h
  | (k, y) :: l, i, x, h => by
    simp only [q57] at h
    split at h
    · rename_i hk; subst hk; cases h; simp
    · exact List.mem_cons_of_mem _ (qxq h)
def T : Tab := { code := q57 codeL, ext := fun k => (q57 extL k).map fun p => qtu p.1 p.2 }
theorem codeL_ok : ∀ x ∈ codeL, ∃ h, qgg Try.prog h x.1 = some x.2 := by
  intro x hx
  simp only [codeL, List.mem_cons, List.not_mem_nil, or_false] at hx
  rcases hx with rfl | rfl | rfl | rfl | rfl | rfl | rfl | rfl | rfl | rfl | rfl | rfl | rfl | rfl | rfl | rfl | rfl | rfl | rfl | rfl | rfl | rfl | rfl | rfl | rfl | rfl | rfl | rfl | rfl | rfl | rfl | rfl | rfl | rfl | rfl | rfl | rfl | rfl | rfl | rfl | rfl | rfl | rfl | rfl | rfl | rfl | rfl | rfl | rfl | rfl | rfl | rfl | rfl | rfl | rfl | rfl | rfl | rfl | rfl | rfl | rfl | rfl | rfl | rfl | rfl | rfl | rfl | rfl | rfl | rfl | rfl | rfl | rfl | rfl | rfl | rfl | rfl | rfl | rfl | rfl | rfl | rfl | rfl | rfl | rfl | rfl | rfl | rfl | rfl | rfl | rfl | rfl | rfl
  · exact ⟨_, qqt⟩
  · exact ⟨_, q04⟩
  · exact ⟨_, q36⟩
  · exact ⟨_, q0c⟩
  · exact ⟨_, q15⟩
  · exact ⟨_, quq⟩
  · exact ⟨_, qvt⟩
  · exact ⟨_, qyo⟩
  · exact ⟨_, q01⟩
  · exact ⟨_, qy7⟩
  · exact ⟨_, qut⟩
  · exact ⟨_, q1p⟩
  · exact ⟨_, qz5⟩
  · exact ⟨_, qzl⟩
  · exact ⟨_, qw1⟩
  · exact ⟨_, qx6⟩
  · exact ⟨_, qp1⟩
  · exact ⟨_, qot⟩
  · exact ⟨_, qh1⟩
  · exact ⟨_, qwj⟩
  · exact ⟨_, qsb⟩
  · exact ⟨_, q28⟩
  · exact ⟨_, qve⟩
  · exact ⟨_, q0d⟩
  · exact ⟨_, qzq⟩
  · exact ⟨_, qp8⟩
  · exact ⟨_, qm7⟩
  · exact ⟨_, qnz⟩
  · exact ⟨_, qpp⟩
  · exact ⟨_, qln⟩
  · exact ⟨_, qu6⟩
  · exact ⟨_, qvx⟩
  · exact ⟨_, qug⟩
  · exact ⟨_, qnr⟩
  · exact ⟨_, qin⟩
  · exact ⟨_, q1t⟩
  · exact ⟨_, qzx⟩
  · exact ⟨_, qur⟩
  · exact ⟨_, qv8⟩
  · exact ⟨_, qum⟩
  · exact ⟨_, qmc⟩
  · exact ⟨_, qqb⟩
  · exact ⟨_, qnx⟩
  · exact ⟨_, qnm⟩
  · exact ⟨_, qz7⟩
  · exact ⟨_, qso⟩
  · exact ⟨_, qx8⟩
  · exact ⟨_, qmf⟩
  · exact ⟨_, qhh⟩
  · exact ⟨_, qxs⟩
  · exact ⟨_, qtl⟩
  · exact ⟨_, qz4⟩
  · exact ⟨_, qzp⟩
  · exact ⟨_, qvv⟩
  · exact ⟨_, ql6⟩
  · exact ⟨_, qod⟩
  · exact ⟨_, qgq⟩
  · exact ⟨_, qqw⟩
  · exact ⟨_, qow⟩
  · exact ⟨_, qo6⟩
  · exact ⟨_, qls⟩
  · exact ⟨_, qle⟩
  · exact ⟨_, qkm⟩
  · exact ⟨_, qhm⟩
  · exact ⟨_, qz8⟩
  · exact ⟨_, qvd⟩
  · exact ⟨_, qqf⟩
  · exact ⟨_, qnh⟩
  · exact ⟨_, qol⟩
  · exact ⟨_, qo5⟩
  · exact ⟨_, qjt⟩
  · exact ⟨_, qua⟩
  · exact ⟨_, qr5⟩
  · exact ⟨_, qzn⟩
  · exact ⟨_, qpw⟩
  · exact ⟨_, qlf⟩
  · exact ⟨_, qh8⟩
  · exact ⟨_, qi6⟩
  · exact ⟨_, qwg⟩
  · exact ⟨_, qnu⟩
  · exact ⟨_, q08⟩
  · exact ⟨_, qou⟩
  · exact ⟨_, qoh⟩
  · exact ⟨_, qnk⟩
  · exact ⟨_, qog⟩
  · exact ⟨_, qnt⟩
  · exact ⟨_, qo4⟩
  · exact ⟨_, qoc⟩
  · exact ⟨_, qpa⟩
  · exact ⟨_, qjq⟩
  · exact ⟨_, qpd⟩
  · exact ⟨_, qni⟩
  · exact ⟨_, qi1⟩
theorem extL_ok : ∀ x ∈ extL, qup Try.prog x.1 = some x.2 := by
  intro x hx
  simp only [extL, List.mem_cons, List.not_mem_nil, or_false] at hx
  rcases hx with rfl | rfl | rfl
  · exact qoy
  · exact qh4
  · exact qj3
theorem mixed : Try.prog.follows .mixedOrders = true := by kernel_rfl
theorem T_ok : TabOk Try.prog T where
  code k f h := codeL_ok _ (qxq h)
  ext k F h := by
    simp only [T, Option.map_eq_some_iff] at h
    obtain ⟨p, h1, rfl⟩ := h
    exact clone_ok mixed (extL_ok _ (qxq h1))
  mixed := mixed
theorem qkb : T.code qfv = some qfu := rfl
theorem q9k : T.code qj9 = some qra := rfl
theorem q09 : T.code qmp = some qpk := rfl
theorem qwl : T.code qi8 = some qmd := rfl
theorem qyx : T.code qgf = some qkf := rfl
theorem q3s : T.code qih = some qlr := rfl
theorem qt4 : T.code qgr = some qiv := rfl
theorem qu9 : T.code qil = some qk8 := rfl
theorem qkp : T.code qgd = some qb9 := rfl
theorem qus : T.code qim = some qfp := rfl
theorem q4i : T.code qia = some qlu := rfl
theorem q85 : T.code qiy = some qq4 := rfl
theorem qv3 : T.code qji = some qg5 := rfl
theorem qwk : T.code qjb = some qg7 := rfl
theorem qu0 : T.code qhk = some qla := rfl
theorem quh : T.code qhf = some qlb := rfl
theorem qos : T.code qdx = some qgu := rfl
theorem qnj : T.code qdi = some qex := rfl
theorem qhw : T.code qa8 = some qcm := rfl
theorem qt2 : T.code qgo = some qht := rfl
theorem qqs : T.code qfl = some qgl := rfl
theorem qz9 : T.code qe4 = some qpz := rfl
theorem qs7 : T.code qg4 = some qg0 := rfl
theorem qv0 : T.code qjg = some qeu := rfl
theorem qwf : T.code qjc = some qg6 := rfl
theorem qoe : T.code qdy = some qdw := rfl
theorem qlo : T.code qcw = some qfh := rfl
theorem qmg : T.code qc7 = some qft := rfl
theorem qnp : T.code qdk = some qga := rfl
theorem qkv : T.code qcz = some qdn := rfl
theorem qsw : T.code qet = some qj1 := rfl
theorem qtw : T.code qho = some qko := rfl
theorem qs8 : T.code qg1 = some qjy := rfl
theorem qml : T.code qdr = some qao := rfl
theorem qh5 : T.code qbe = some qb6 := rfl
theorem qdg : T.code qdu = some qdv := rfl
theorem qwd : T.code qi5 = some qh9 := rfl
theorem qsn : T.code qgy = some qd7 := rfl
theorem qtk : T.code qeq = some qkr := rfl
theorem qs4 : T.code qfc = some qj2 := rfl
theorem qlh : T.code qcn = some qfa := rfl
theorem qop : T.code qek = some qfj := rfl
theorem qmb : T.code qc6 = some qfs := rfl
theorem ql7 : T.code qds = some qem := rfl
theorem qvz : T.code qh6 = some ql5 := rfl
theorem qrn : T.code qeg = some qir := rfl
theorem qjh : T.code qep = some qby := rfl
theorem qlm : T.code qav = some qfb := rfl
theorem qgx : T.code qba = some qbp := rfl
theorem qu8 : T.code qfq = some qjr := rfl
theorem qsc : T.code qfo = some qja := rfl
theorem qv9 : T.code qgc = some ql4 := rfl
theorem qwc : T.code qhe = some qmk := rfl
theorem qt5 : T.code qhq = some qhv := rfl
theorem qlk : T.code qco = some qe8 := rfl
theorem qmy : T.code qd3 = some qe1 := rfl
theorem qf8 : T.code qa1 = some qb1 := rfl
theorem qpb : T.code qr = some qhb := rfl
theorem qix : T.code qa0 = some qez := rfl
theorem qn1 : T.code qdl = some qd9 := rfl
theorem qk6 : T.code qdb = some qd1 := rfl
theorem qku : T.code qbj = some qes := rfl
theorem qj4 : T.code qcf = some qd4 := rfl
theorem qha : T.code qbg = some qbw := rfl
theorem qv2 : T.code qje = some qma := rfl
theorem qs5 : T.code qbo = some qjx := rfl
theorem qoj : T.code qa2 = some qgw := rfl
theorem qly : T.code qas = some qbq := rfl
theorem qmx : T.code qaw = some qfy := rfl
theorem qnn : T.code qay = some qgb := rfl
theorem qjj : T.code qb4 = some qdm := rfl
theorem qr7 : T.code qfn = some qgk := rfl
theorem qqx : T.code qfk = some qh3 := rfl
theorem qwa : T.code qjd = some ql3 := rfl
theorem qok : T.code qej = some qgv := rfl
theorem qkt : T.code qcy = some qdo := rfl
theorem qhr : T.code qa7 = some qcl := rfl
theorem qf : T.code qap = some qg := rfl
theorem qtd : T.code qgt = some qkq := rfl
theorem ql8 : T.code qdt = some qc5 := rfl
theorem qyc : T.code qke = some qli := rfl
theorem qnf : T.code qct = some qfz := rfl
theorem qmz : T.code qcs = some qf0 := rfl
theorem qme : T.code qci = some qfr := rfl
theorem qms : T.code qcd = some qey := rfl
theorem qmm : T.code qch = some qen := rfl
theorem qns : T.code qc0 = some qe7 := rfl
theorem qng : T.code qcr = some qdh := rfl
theorem qn0 : T.code qc3 = some qf7 := rfl
theorem qi9 : T.code qbi = some qdj := rfl
theorem qny : T.code qc1 = some qf9 := rfl
theorem qlt : T.code qb2 = some qeb := rfl
theorem qio : T.code qa6 = some qda := rfl
theorem qpy : T.ext qfv = none := rfl
theorem ext_law21_head : T.ext qj9 = none := rfl
theorem q3f : T.ext qmp = none := rfl
theorem qxb : T.ext qi8 = none := rfl
theorem qzo : T.ext qgf = none := rfl
theorem q47 : T.ext qih = none := rfl
theorem qvf : T.ext qgr = none := rfl
theorem qwh : T.ext qil = none := rfl
theorem qk9 : T.ext qgd = none := rfl
theorem qv5 : T.ext qim = none := rfl
theorem q5r : T.ext qia = none := rfl
theorem ext_law19_Base : T.ext qiy = none := rfl
theorem qxj : T.ext qji = none := rfl
theorem qx2 : T.ext qjb = none := rfl
theorem qv6 : T.ext qhk = none := rfl
theorem qwi : T.ext qhf = none := rfl
theorem qo7 : T.ext qdx = none := rfl
theorem qnv : T.ext qdi = none := rfl
theorem qhy : T.ext qa8 = none := rfl
theorem qu2 : T.ext qgo = none := rfl
theorem qq6 : T.ext qfl = none := rfl
theorem q1l : T.ext qe4 = none := rfl
theorem qtc : T.ext qg4 = none := rfl
theorem qy0 : T.ext qjg = none := rfl
theorem qze : T.ext qjc = none := rfl
theorem qo8 : T.ext qdy = none := rfl
theorem ql9 : T.ext qcw = none := rfl
theorem qm6 : T.ext qc7 = none := rfl
theorem qov : T.ext qdk = none := rfl
theorem qk2 : T.ext qcz = none := rfl
theorem qtq : T.ext qet = none := rfl
theorem qun : T.ext qho = none := rfl
theorem qtf : T.ext qg1 = none := rfl
theorem qm3 : T.ext qdr = none := rfl
theorem qid : T.ext qbe = none := rfl
theorem qdq : T.ext qdu = none := rfl
theorem qzb : T.ext qi5 = none := rfl
theorem qtz : T.ext qgy = none := rfl
theorem qu1 : T.ext qeq = none := rfl
theorem qto : T.ext qfc = none := rfl
theorem qlz : T.ext qcn = none := rfl
theorem qpq : T.ext qek = none := rfl
theorem qm8 : T.ext qc6 = none := rfl
theorem qna : T.ext qds = none := rfl
theorem qw8 : T.ext qh6 = none := rfl
theorem qr8 : T.ext qeg = none := rfl
theorem qjw : T.ext qep = none := rfl
theorem qlq : T.ext qav = none := rfl
theorem qg9 : T.ext qba = none := rfl
theorem qv4 : T.ext qfq = none := rfl
theorem qsr : T.ext qfo = none := rfl
theorem qxl : T.ext qgc = none := rfl
theorem qy4 : T.ext qhe = none := rfl
theorem qu3 : T.ext qhq = none := rfl
theorem qlp : T.ext qco = none := rfl
theorem qn2 : T.ext qd3 = none := rfl
theorem qgh : T.ext qa1 = none := rfl
theorem qp6 : T.ext qr = none := rfl
theorem qjk : T.ext qa0 = none := rfl
theorem qof : T.ext qdl = none := rfl
theorem qlj : T.ext qdb = none := rfl
theorem qkz : T.ext qbj = none := rfl
theorem qkh : T.ext qcf = none := rfl
theorem qhg : T.ext qbg = none := rfl
theorem qxn : T.ext qje = none := rfl
theorem qta : T.ext qbo = none := rfl
theorem qph : T.ext qa2 = none := rfl
theorem ql2 : T.ext qas = none := rfl
theorem qnl : T.ext qaw = none := rfl
theorem qob : T.ext qay = none := rfl
theorem qjp : T.ext qb4 = none := rfl
theorem qs2 : T.ext qfn = none := rfl
theorem qrl : T.ext qfk = none := rfl
theorem qxf : T.ext qjd = none := rfl
theorem qpe : T.ext qej = none := rfl
theorem qk5 : T.ext qcy = none := rfl
theorem qhx : T.ext qa7 = none := rfl
theorem qh : T.ext qap = none := rfl
theorem quu : T.ext qgt = none := rfl
theorem qne : T.ext qdt = none := rfl
theorem q0b : T.ext qke = none := rfl
theorem qnq : T.ext qct = none := rfl
theorem qnw : T.ext qcs = none := rfl
theorem qmw : T.ext qci = none := rfl
theorem qno : T.ext qcd = none := rfl
theorem qmv : T.ext qch = none := rfl
theorem qom : T.ext qc0 = none := rfl
theorem qn3 : T.ext qcr = none := rfl
theorem qoo : T.ext qc3 = none := rfl
theorem qjn : T.ext qbi = none := rfl
theorem qo0 : T.ext qc1 = none := rfl
theorem qmj : T.ext qb2 = none := rfl
theorem qis : T.ext qa6 = none := rfl
theorem qoq : T.ext qe3 = some (qtu 1 8) := rfl
theorem qh2 : T.ext qb3 = some (qtu 6 64) := rfl
theorem qj5 : T.ext qc2 = some (qtu 4 48) := rfl
def qcp (n : Int) : List AV := [(.v (.int .i64 (n)))]
theorem int_lo (n : Nat) (x : Int) : los n (qcp x) = true := rfl
theorem int_pl (x : Int) : (qcp x).length = 1 ∧ qv (qcp x) = true := ⟨rfl, rfl⟩
theorem qax (n : Nat) (l : List Int) : qit n (l.map qcp) = true := qjz (int_lo n) l
theorem q8j (l : List Int) : qe9 1 (l.map qcp) = true := qo2 int_pl l
def qfe (l : List Int) : List AV := [(.fsl ((l).map qcp) false)]
theorem key_lo (n : Nat) (l : List Int) : los n (qfe l) = true := by simp only [qfe, los, AV.lo, qax, Bool.and_self]
theorem key_pl (l : List Int) : (qfe l).length = 1 ∧ qv (qfe l) = true := ⟨rfl, rfl⟩
theorem qb0 (n : Nat) (l : List (List Int)) : qit n (l.map qfe) = true := qjz (key_lo n) l
theorem keys_ok (l : List (List Int)) : qe9 1 (l.map qfe) = true := qo2 key_pl l
structure OpI where
  code : Int
  a : Int
  b : Int
  c : Int
  deriving DecidableEq
def OpI.r (x : OpI) : List AV := [(.v (.int .i64 (x.code))), (.v (.int .i64 (x.a))), (.v (.int .i64 (x.b))), (.v (.int .i64 (x.c)))]
theorem op_lo (n : Nat) (x : OpI) : los n x.r = true := rfl
theorem qf4 (n : Nat) (l : List OpI) : qit n (l.map OpI.r) = true := qjz (op_lo n) l
def qbu (p : List OpI) : List AV := [(.fsl ((p).map OpI.r) false)]
theorem progC_lo (n : Nat) (l : List OpI) : los n (qbu l) = true := by simp only [qbu, los, AV.lo, qf4, Bool.and_self]
theorem qbh (n : Nat) (l : List (List OpI)) : qit n (l.map qbu) = true := qjz (progC_lo n) l
structure Start where
  prog : Int
  time : Int
  deriving DecidableEq
def Start.r (x : Start) : List AV := [(.v (.int .i64 (x.prog))), (.v (.int .i64 (x.time)))]
theorem start_lo (n : Nat) (x : Start) : los n x.r = true := rfl
theorem qnd (n : Nat) (l : List Start) : qit n (l.map Start.r) = true := qjz (start_lo n) l
def lpC (p : List Start) : List AV := [(.fsl ((p).map Start.r) false)]
theorem lpC_lo (n : Nat) (l : List Start) : los n (lpC l) = true := by simp only [lpC, los, AV.lo, qnd, Bool.and_self]
theorem qcg (n : Nat) (l : List (List Start)) : qit n (l.map lpC) = true := qjz (lpC_lo n) l
structure Cfg where
  lps : List (List Start)
  progs : List (List OpI)
  look : Int
  fin : Int
  cap : Int
def qqq (n : Int) : Bool := decide (n ≥ 1) && decide (n ≤ 1099511627776)
def qtb (n : Int) : Bool := decide (n ≥ -1073741824) && decide (n ≤ 1073741824)
theorem qk7 (n : Int) : qbk (evL T) qgc [(.v (.int .i64 (n)))] = some (.v (.bool (qqq n))) := by
  rw [qbk, qu qxl qv9]
  by_cases h1 : n ≥ 1 <;> simp only [qqq, ql4, h1, Ev.qm, Ev.exec, Ev.qb, Ev.qe, Ev.qc, Ev.qaf, Ev.Opnd.ev, Ev.Env.get, Ev.Env.set, Ev.Env.unset, Ev.look, Ev.qn, Ev.qjl, Ev.qbz, Ev.ql, Ev.qw, Ev.qae, Ev.kill, Ev.qad, Ev.qd, Ev.qa4, Ev.qal, ↓Ev.qq, ↓reduceIte, List.length_cons, List.length_nil, List.take_nil, Nat.reduceEqDiff, reduceCtorEq, decide_true, decide_false, Bool.true_and, Bool.false_eq_true, and_self, Nat.zero_add, eq_self, Bool.false_and]
theorem qoz (n : Int) : qbk (evL T) qhe [(.v (.int .i64 (n)))] = some (.v (.bool (qtb n))) := by
  rw [qbk, qu qy4 qwc]
  by_cases h1 : n ≥ -1073741824 <;> simp only [qtb, qmk, h1, Ev.qm, Ev.exec, Ev.qb, Ev.qe, Ev.qc, Ev.qaf, Ev.Opnd.ev, Ev.Env.get, Ev.Env.set, Ev.Env.unset, Ev.look, Ev.qn, Ev.qjl, Ev.qbz, Ev.ql, Ev.qw, Ev.qae, Ev.kill, Ev.qad, Ev.qd, Ev.qa4, Ev.qal, ↓Ev.qq, ↓reduceIte, List.length_cons, List.length_nil, List.take_nil, Nat.reduceEqDiff, Int.reduceNeg, reduceCtorEq, decide_true, decide_false, Bool.true_and, Bool.false_eq_true, and_self, Nat.zero_add, eq_self, Bool.false_and]
def qss (x : OpI) (n ps : Int) : Bool :=
  if x.code = 1 then qqq x.a && (decide (x.b = 0) && decide (x.c = 0))
  else if x.code = 2 then decide (x.a ≥ 0) && (qtb x.b && qqq x.c)
  else if x.code = 3 then qqq x.a && (decide (x.b ≥ 0) && (decide (x.b < n) && decide (x.c = 0)))
  else if x.code = 5 then decide (x.a ≥ 0) && (decide (x.a < ps) && (qqq x.b && decide (x.c = 0)))
  else if x.code = 6 then decide (x.a ≥ 0) && (decide (x.a < 2) && (qtb x.b && decide (x.c = 0)))
  else if x.code = 7 then decide (x.a ≥ 0) && (decide (x.a < 2) && (qtb x.b && (decide (x.c ≥ 0) && decide (x.c < n))))
  else decide (x.a = 0) && (decide (x.b = 0) && decide (x.c = 0))
theorem qpr (x : OpI) (n ps : Int) : qbk (evL T) qgy [(.agg [(.v (.int .i64 (x.code))), (.v (.int .i64 (x.a))), (.v (.int .i64 (x.b))), (.v (.int .i64 (x.c)))]), (.v (.int .i64 (n))), (.v (.int .i64 (ps)))] = some (.v (.bool (qss x n ps))) := by
  obtain ⟨k, a, b, c⟩ := x
  rw [qbk, qu qtz qsn]
  simp only [qss]
  by_cases k1 : k = 1
  · subst k1
    cases h1 : qqq a <;> by_cases h2 : b = 0 <;> simp only [qd7, qk7, h1, h2, Ev.qm, Ev.exec, Ev.qb, Ev.qe, Ev.qc, Ev.qa9, Ev.qaf, Ev.evs, Ev.Opnd.ev, Ev.Env.get, Ev.Env.set, Ev.Env.unset, Ev.look, Ev.qn, Ev.qi, Ev.qab, Ev.AV.cells, Ev.qv, Ev.AV.plain, Ev.qak, Ev.ql, Ev.qw, Ev.qae, Ev.kill, Ev.qad, Ev.qd, Ev.qa4, Ev.qj, Ev.qk, Ev.qal, ↓Ev.qq, ↓reduceIte, List.length_cons, List.length_nil, List.take_nil, List.drop_succ_cons, List.drop_zero, List.head?_cons, Nat.reduceAdd, Nat.reduceEqDiff, decide_true, decide_false, Bool.and_self, Bool.true_and, Bool.false_eq_true, and_self, ne_eq, not_false_eq_true, List.cons_ne_nil, Nat.zero_add, eq_self, Bool.false_and, Bool.and_false]
  by_cases k2 : k = 2
  · subst k2
    by_cases h1 : a ≥ 0 <;> cases h2 : qtb b <;> simp only [qd7, qk7, qoz, h1, h2, Ev.qm, Ev.exec, Ev.qb, Ev.qe, Ev.qc, Ev.qa9, Ev.qaf, Ev.evs, Ev.Opnd.ev, Ev.Env.get, Ev.Env.set, Ev.Env.unset, Ev.look, Ev.qn, Ev.qi, Ev.qab, Ev.AV.cells, Ev.qv, Ev.AV.plain, Ev.qak, Ev.qbz, Ev.ql, Ev.qw, Ev.qae, Ev.kill, Ev.qad, Ev.qd, Ev.qa4, Ev.qj, Ev.qk, Ev.qal, ↓Ev.qq, ↓reduceIte, List.length_cons, List.length_nil, List.take_nil, List.drop_succ_cons, List.drop_zero, List.head?_cons, Nat.reduceAdd, Nat.reduceEqDiff, Int.reduceEq, decide_true, decide_false, Bool.and_self, Bool.true_and, Bool.false_eq_true, and_self, ne_eq, not_false_eq_true, List.cons_ne_nil, Nat.zero_add, eq_self, Bool.false_and, Bool.and_false]
  by_cases k3 : k = 3
  · subst k3
    cases h1 : qqq a <;> by_cases h2 : b ≥ 0 <;> by_cases h3 : b < n <;> simp only [qd7, qk7, h1, h2, h3, Ev.qm, Ev.exec, Ev.qb, Ev.qe, Ev.qc, Ev.qa9, Ev.qaf, Ev.evs, Ev.Opnd.ev, Ev.Env.get, Ev.Env.set, Ev.Env.unset, Ev.look, Ev.qn, Ev.qi, Ev.qab, Ev.AV.cells, Ev.qv, Ev.AV.plain, Ev.qak, Ev.qo, Ev.qbz, Ev.ql, Ev.qw, Ev.qae, Ev.kill, Ev.qad, Ev.qd, Ev.qa4, Ev.qj, Ev.qk, Ev.qal, ↓Ev.qq, ↓reduceIte, List.length_cons, List.length_nil, List.take_nil, List.drop_succ_cons, List.drop_zero, List.head?_cons, Nat.reduceAdd, Nat.reduceEqDiff, Int.reduceEq, reduceCtorEq, decide_true, decide_false, Bool.and_self, Bool.true_and, Bool.false_eq_true, and_self, ne_eq, not_false_eq_true, List.cons_ne_nil, Nat.zero_add, eq_self, Bool.false_and, Bool.and_false]
  by_cases k5 : k = 5
  · subst k5
    by_cases h1 : a ≥ 0 <;> by_cases h2 : a < ps <;> cases h3 : qqq b <;> simp only [qd7, qk7, h1, h2, h3, Ev.qm, Ev.exec, Ev.qb, Ev.qe, Ev.qc, Ev.qa9, Ev.qaf, Ev.evs, Ev.Opnd.ev, Ev.Env.get, Ev.Env.set, Ev.Env.unset, Ev.look, Ev.qn, Ev.qi, Ev.qab, Ev.AV.cells, Ev.qv, Ev.AV.plain, Ev.qak, Ev.qo, Ev.qbz, Ev.ql, Ev.qw, Ev.qae, Ev.kill, Ev.qad, Ev.qd, Ev.qa4, Ev.qj, Ev.qk, Ev.qal, ↓Ev.qq, ↓reduceIte, List.length_cons, List.length_nil, List.take_nil, List.drop_succ_cons, List.drop_zero, List.head?_cons, Nat.reduceAdd, Nat.reduceEqDiff, Int.reduceEq, reduceCtorEq, decide_true, decide_false, Bool.and_self, Bool.true_and, Bool.false_eq_true, and_self, ne_eq, not_false_eq_true, List.cons_ne_nil, Nat.zero_add, eq_self, Bool.false_and, Bool.and_false]
  by_cases k6 : k = 6
  · subst k6
    by_cases h1 : a ≥ 0 <;> by_cases h2 : a < 2 <;> cases h3 : qtb b <;> simp only [qd7, qoz, h1, h2, h3, Ev.qm, Ev.exec, Ev.qb, Ev.qe, Ev.qc, Ev.qa9, Ev.qaf, Ev.evs, Ev.Opnd.ev, Ev.Env.get, Ev.Env.set, Ev.Env.unset, Ev.look, Ev.qn, Ev.qi, Ev.qab, Ev.AV.cells, Ev.qv, Ev.AV.plain, Ev.qak, Ev.qo, Ev.qbz, Ev.ql, Ev.qw, Ev.qae, Ev.kill, Ev.qad, Ev.qd, Ev.qa4, Ev.qj, Ev.qk, Ev.qal, ↓Ev.qq, ↓reduceIte, List.length_cons, List.length_nil, List.take_nil, List.drop_succ_cons, List.drop_zero, List.head?_cons, Nat.reduceAdd, Nat.reduceEqDiff, Int.reduceEq, decide_true, decide_false, Bool.and_self, Bool.true_and, Bool.false_eq_true, and_self, ne_eq, not_false_eq_true, List.cons_ne_nil, Nat.zero_add, eq_self, Bool.false_and, Bool.and_false]
  by_cases k7 : k = 7
  · subst k7
    by_cases h1 : a ≥ 0 <;> by_cases h2 : a < 2 <;> cases h3 : qtb b <;> by_cases h4 : c ≥ 0 <;> simp only [qd7, qoz, h1, h2, h3, h4, Ev.qm, Ev.exec, Ev.qb, Ev.qe, Ev.qc, Ev.qa9, Ev.qaf, Ev.evs, Ev.Opnd.ev, Ev.Env.get, Ev.Env.set, Ev.Env.unset, Ev.look, Ev.qn, Ev.qi, Ev.qab, Ev.AV.cells, Ev.qv, Ev.AV.plain, Ev.qak, Ev.qo, Ev.qbz, Ev.ql, Ev.qw, Ev.qae, Ev.kill, Ev.qad, Ev.qd, Ev.qa4, Ev.qj, Ev.qk, Ev.qal, ↓Ev.qq, ↓reduceIte, List.length_cons, List.length_nil, List.take_nil, List.drop_succ_cons, List.drop_zero, List.head?_cons, Nat.reduceAdd, Nat.reduceEqDiff, Int.reduceEq, reduceCtorEq, decide_true, decide_false, Bool.and_self, Bool.true_and, Bool.false_eq_true, and_self, ne_eq, not_false_eq_true, List.cons_ne_nil, Nat.zero_add, eq_self, Bool.false_and, Bool.and_false]
  by_cases h1 : a = 0 <;> by_cases h2 : b = 0 <;> simp only [qd7, k1, k2, k3, k5, k6, k7, h1, h2, Ev.qm, Ev.exec, Ev.qb, Ev.qe, Ev.qc, Ev.qaf, Ev.Opnd.ev, Ev.Env.get, Ev.Env.set, Ev.Env.unset, Ev.look, Ev.qn, Ev.qi, Ev.qab, Ev.AV.cells, Ev.qv, Ev.AV.plain, Ev.qak, Ev.ql, Ev.qw, Ev.qae, Ev.kill, Ev.qad, Ev.qd, Ev.qa4, Ev.qal, ↓Ev.qq, ↓reduceIte, List.length_cons, List.length_nil, List.take_nil, List.drop_succ_cons, List.drop_zero, List.head?_cons, Nat.reduceAdd, Nat.reduceEqDiff, decide_true, decide_false, Bool.and_self, Bool.true_and, Bool.false_eq_true, and_self, ne_eq, not_false_eq_true, List.cons_ne_nil, Nat.zero_add, eq_self, Bool.false_and, Bool.and_false]
def qvw (x : OpI) : Bool := decide (x.code ≥ 1) && decide (x.code ≤ 8)
def qqo (p : List OpI) : Bool := decide (1 ≤ p.length ∧ p.length ≤ 16) && p.all qvw
def q3q (lps : Int) (x : OpI) : Bool := !(decide (x.code = 2) && decide (x.a ≥ lps))
def qnb (look : Int) (x : OpI) : Bool := !(decide (x.code = 2) && decide (x.c < look))
def ql0 (p : List OpI) (ps lps look : Int) : Int :=
  if qqo p = false then 22 else if p.all (fun x => qss x p.length ps) = false then 22 else if p.all (q3q lps) = false then 23 else if p.all (qnb look) = false then 21 else 0
section
variable (p : List OpI) (c : Bool) (ps lps look : Int)
theorem q19 (hl : p.length ≤ 16) :
    ∃ y, itB (exec (evL T) itL none qg2) (Ev.qs [0, 3] true 0) ⟨[(0, (.fsl ((p).map OpI.r) c)), (3, (.v (.int .i64 (0))))], []⟩ [] = some y ∧ (p.all qvw = true ∧ (y.1 = .exit 0 ∧ y.2.1.marks = [] ∧ y.2.2 = []) ∨
      p.all qvw = false ∧ ∃ x, p.find? (fun x => !qvw x) = some x ∧ (y.1 = .ret ∧ y.2.1.marks = [] ∧ y.2.2 = [] ∧ Ev.look y.2.1.vars 2 = some (.v (.bool (false))))) := by
  refine qfg p (fun i => ⟨[(0, (.fsl ((p).map OpI.r) c)), (3, (.v (.int .i64 (i))))], []⟩) [] qvw _ (fun _ y => _) ?_ ?_ ?_
  · intro i x hi hx hp
    have hi' : (i : Int) < (p.length : Int) := by omega
    have hw : IntKind.i64.wrap ((i : Int) + 1) = ((i + 1 : Nat) : Int) := by rw [qat (by omega) (by omega)]; simp
    simp only [qvw, Bool.and_eq_true, decide_eq_true_eq] at hp
    have h1 : ¬ x.code < 1 := by omega
    have h2 : ¬ x.code > 8 := by omega
    simp only [qg2, Int.natCast_nonneg, Int.toNat_natCast, List.getElem?_map, Option.map_some, OpI.r, hx, hi', hw, h1, h2, qf4, Ev.exec, Ev.qb, Ev.qe, Ev.qc, Ev.qaf, Ev.Opnd.ev, Ev.Env.get, Ev.Env.set, Ev.look, Ev.qi, Ev.qab, Ev.qaj, Ev.qo, Ev.qau, Ev.qs, Ev.keep, Ev.qai, Ev.qaa, Ev.qd, Ev.qa4, Ev.qy, List.length_map, ↓Ev.qq, Ev.it1, ↓reduceIte, List.length_cons, List.length_nil, List.take_nil, List.drop_zero, List.head?_cons, Nat.reduceAdd, Nat.reduceEqDiff, reduceCtorEq, decide_true, decide_false, Bool.and_self, Bool.false_eq_true, and_self, Nat.zero_add, eq_self]
  · intro i x hi hx hp
    have hi' : (i : Int) < (p.length : Int) := by omega
    simp only [qvw, Bool.and_eq_false_iff, decide_eq_false_iff_not] at hp
    by_cases h1 : x.code < 1
    · simp only [qg2, Int.natCast_nonneg, Int.toNat_natCast, List.getElem?_map, Option.map_some, OpI.r, hx, hi', h1, Ev.exec, Ev.qb, Ev.qe, Ev.qc, Ev.qaf, Ev.Opnd.ev, Ev.Env.get, Ev.Env.set, Ev.Env.unset, Ev.look, Ev.qi, Ev.qab, Ev.qo, List.length_map, ↓Ev.qq, Ev.it1, ↓reduceIte, List.length_cons, List.length_nil, List.drop_zero, List.head?_cons, Nat.reduceAdd, Nat.reduceEqDiff, reduceCtorEq, decide_true, Bool.false_eq_true, Bool.true_eq_false, Nat.zero_add, eq_self]
      exact ⟨_, rfl, rfl, rfl, rfl, rfl⟩
    · have h2 : x.code > 8 := by omega
      simp only [qg2, Int.natCast_nonneg, Int.toNat_natCast, List.getElem?_map, Option.map_some, OpI.r, hx, hi', h1, h2, Ev.exec, Ev.qb, Ev.qe, Ev.qc, Ev.qaf, Ev.Opnd.ev, Ev.Env.get, Ev.Env.set, Ev.look, Ev.qi, Ev.qab, Ev.qo, Ev.qau, List.length_map, ↓Ev.qq, Ev.it1, ↓reduceIte, List.length_cons, List.length_nil, List.drop_zero, List.head?_cons, Nat.reduceAdd, Nat.reduceEqDiff, reduceCtorEq, decide_true, decide_false, Bool.false_eq_true, Nat.zero_add, eq_self]
      exact ⟨_, rfl, rfl, rfl, rfl, rfl⟩
  · simp only [qg2, Int.lt_irrefl, Ev.exec, Ev.qb, Ev.qe, Ev.qc, Ev.qaf, Ev.Opnd.ev, Ev.Env.get, Ev.Env.set, Ev.look, Ev.qo, List.length_map, ↓Ev.qq, Ev.it1, ↓reduceIte, Nat.reduceEqDiff, reduceCtorEq, decide_false, Bool.false_eq_true, eq_self]
    exact ⟨_, rfl, rfl, rfl, rfl⟩
theorem qzr : qbk (evL T) qi5 [(.fsl ((p).map OpI.r) c)] = some (.v (.bool (qqo p))) := by
  rw [qbk, qu qzb qwd]
  by_cases h1 : (p.length : Int) < 1
  · have : ¬ (1 ≤ p.length ∧ p.length ≤ 16) := by omega
    simp only [qh9, qqo, this, h1, Ev.qm, Ev.exec, Ev.qb, Ev.qe, Ev.qc, Ev.qaf, Ev.Opnd.ev, Ev.Env.get, Ev.Env.set, Ev.Env.unset, Ev.look, Ev.qn, Ev.qo, Ev.ql, Ev.qw, Ev.qae, Ev.kill, Ev.qad, Ev.qd, Ev.qa4, Ev.qal, List.length_map, ↓Ev.qq, ↓reduceIte, List.length_cons, List.length_nil, List.take_nil, Nat.reduceEqDiff, reduceCtorEq, decide_true, decide_false, Bool.true_eq_false, and_self, Nat.zero_add, eq_self, Bool.false_and]
  by_cases h2 : (p.length : Int) > 16
  · have : ¬ (1 ≤ p.length ∧ p.length ≤ 16) := by omega
    simp only [qh9, qqo, this, h1, h2, Ev.qm, Ev.exec, Ev.qb, Ev.qe, Ev.qc, Ev.qaf, Ev.Opnd.ev, Ev.Env.get, Ev.Env.set, Ev.look, Ev.qn, Ev.qo, Ev.qau, Ev.ql, Ev.qw, Ev.qae, Ev.kill, Ev.qad, Ev.qd, Ev.qa4, Ev.qal, List.length_map, ↓Ev.qq, ↓reduceIte, List.length_cons, List.length_nil, List.take_nil, Nat.reduceEqDiff, reduceCtorEq, decide_true, decide_false, Bool.false_eq_true, and_self, Nat.zero_add, eq_self, Bool.false_and]
  have h3 : 1 ≤ p.length ∧ p.length ≤ 16 := by omega
  obtain ⟨⟨y, e, σ⟩, k1, k2⟩ := q19 p c h3.2
  simp only at k2
  rcases k2 with ⟨k3, rfl, k4, rfl⟩ | ⟨k3, x, _, rfl, k4, rfl, k5⟩
  · simp only [qh9, qqo, h3, h1, h2, k1, k3, k4, qf4, Ev.qm, Ev.exec, Ev.qb, Ev.qe, Ev.qc, Ev.qaf, Ev.Opnd.ev, Ev.Env.get, Ev.Env.set, Ev.look, Ev.qn, Ev.qo, Ev.qau, Ev.ql, Ev.qw, Ev.qae, Ev.kill, Ev.qad, Ev.qs, Ev.keep, Ev.qai, Ev.qaa, Ev.qd, Ev.qa4, Ev.qy, Ev.qal, List.length_map, ↓Ev.qq, ↓Ev.qan, ↓reduceIte, List.length_cons, List.length_nil, List.take_nil, Nat.reduceEqDiff, reduceCtorEq, decide_true, decide_false, Bool.and_self, Bool.false_eq_true, and_self, Nat.zero_add, eq_self]
  · simp only [qh9, qqo, h3, h1, h2, k1, k3, k4, k5, qf4, Ev.qm, Ev.exec, Ev.qb, Ev.qe, Ev.qc, Ev.qaf, Ev.Opnd.ev, Ev.Env.get, Ev.Env.set, Ev.look, Ev.qn, Ev.qo, Ev.qau, Ev.ql, Ev.qw, Ev.qae, Ev.kill, Ev.qad, Ev.qs, Ev.keep, Ev.qai, Ev.qaa, Ev.qd, Ev.qa4, Ev.qy, Ev.qal, List.length_map, ↓Ev.qq, ↓Ev.qan, ↓reduceIte, List.length_cons, List.length_nil, List.take_nil, Nat.reduceEqDiff, reduceCtorEq, decide_true, decide_false, Bool.and_self, Bool.false_eq_true, and_self, Nat.zero_add, eq_self, Bool.and_false]
theorem qzy (hl : p.length ≤ 16) :
    ∃ y, itB (exec (evL T) itL none qie) (Ev.qs [0, 1, 2, 3, 9] true 0) ⟨[(0, (.fsl ((p).map OpI.r) c)), (1, (.v (.int .i64 (ps)))), (2, (.v (.int .i64 (lps)))), (3, (.v (.int .i64 (look)))), (9, (.v (.int .i64 (0))))], []⟩ [] = some y ∧
      (p.all (fun x => qss x p.length ps) = true ∧ (y.1 = .exit 0 ∧ y.2.1.marks = [] ∧ y.2.2 = [] ∧ Ev.look y.2.1.vars 0 = some (.fsl ((p).map OpI.r) c) ∧ Ev.look y.2.1.vars 2 = some (.v (.int .i64 (lps))) ∧ Ev.look y.2.1.vars 3 = some (.v (.int .i64 (look)))) ∨
      p.all (fun x => qss x p.length ps) = false ∧ ∃ x, p.find? (fun x => !qss x p.length ps) = some x ∧ (y.1 = .ret ∧ y.2.1.marks = [] ∧ y.2.2 = [] ∧ Ev.look y.2.1.vars 8 = some (.v (.int .i64 (22))))) := by
  refine qfg p (fun i => ⟨[(0, (.fsl ((p).map OpI.r) c)), (1, (.v (.int .i64 (ps)))), (2, (.v (.int .i64 (lps)))), (3, (.v (.int .i64 (look)))), (9, (.v (.int .i64 (i))))], []⟩) [] (fun x => qss x p.length ps) _ (fun _ y => _) ?_ ?_ ?_
  · intro i x hi hx hp
    have hi' : (i : Int) < (p.length : Int) := by omega
    have hw : IntKind.i64.wrap ((i : Int) + 1) = ((i + 1 : Nat) : Int) := by rw [qat (by omega) (by omega)]; simp
    simp only [qie, Int.natCast_nonneg, Int.toNat_natCast, List.getElem?_map, Option.map_some, OpI.r, hx, hi', hw, qpr, hp, qf4, Ev.exec, Ev.qb, Ev.qe, Ev.qc, Ev.qa9, Ev.qaf, Ev.evs, Ev.Opnd.ev, Ev.Env.get, Ev.Env.set, Ev.look, Ev.qi, Ev.qab, Ev.qaj, Ev.qo, Ev.qs, Ev.keep, Ev.qai, Ev.qaa, Ev.qd, Ev.qa4, Ev.qbn, Ev.qy, Ev.qj, Ev.qk, List.length_map, ↓Ev.qq, Ev.it1, ↓reduceIte, List.length_cons, List.length_nil, List.take_succ_cons, List.take_nil, Nat.reduceAdd, Nat.reduceEqDiff, reduceCtorEq, decide_true, Bool.and_self, Bool.not_true, Bool.false_eq_true, and_self, Nat.zero_add, Nat.le_refl, eq_self]
  · intro i x hi hx hp
    have hi' : (i : Int) < (p.length : Int) := by omega
    simp only [qie, Int.natCast_nonneg, Int.toNat_natCast, List.getElem?_map, Option.map_some, OpI.r, hx, hi', qpr, hp, Ev.exec, Ev.qb, Ev.qe, Ev.qc, Ev.qa9, Ev.qaf, Ev.evs, Ev.Opnd.ev, Ev.Env.get, Ev.Env.set, Ev.look, Ev.qi, Ev.qab, Ev.qo, Ev.qa4, Ev.qbn, Ev.qj, Ev.qk, List.length_map, ↓Ev.qq, Ev.it1, ↓reduceIte, List.length_cons, List.length_nil, List.take_succ_cons, List.take_nil, Nat.reduceAdd, Nat.reduceEqDiff, reduceCtorEq, decide_true, Bool.and_self, Bool.not_false, Nat.zero_add, Nat.le_refl, eq_self]
    exact ⟨_, rfl, rfl, rfl, rfl, rfl⟩
  · simp only [qie, Int.lt_irrefl, Ev.exec, Ev.qb, Ev.qe, Ev.qc, Ev.qaf, Ev.Opnd.ev, Ev.Env.get, Ev.Env.set, Ev.look, Ev.qo, List.length_map, ↓Ev.qq, Ev.it1, ↓reduceIte, Nat.reduceEqDiff, reduceCtorEq, decide_false, Bool.false_eq_true, eq_self]
    exact ⟨_, rfl, rfl, rfl, rfl, rfl, rfl, rfl⟩
theorem qzt (hl : p.length ≤ 16) :
    ∃ y, itB (exec (evL T) itL none qgz) (Ev.qs [0, 2, 3, 10] true 0) ⟨[(0, (.fsl ((p).map OpI.r) c)), (2, (.v (.int .i64 (lps)))), (3, (.v (.int .i64 (look)))), (10, (.v (.int .i64 (0))))], []⟩ [] = some y ∧
      (p.all (q3q lps) = true ∧ (y.1 = .exit 2 ∧ y.2.1.marks = [] ∧ y.2.2 = [] ∧ Ev.look y.2.1.vars 0 = some (.fsl ((p).map OpI.r) c) ∧ Ev.look y.2.1.vars 3 = some (.v (.int .i64 (look)))) ∨
      p.all (q3q lps) = false ∧ ∃ x, p.find? (fun x => !q3q lps x) = some x ∧ (y.1 = .ret ∧ y.2.1.marks = [] ∧ y.2.2 = [] ∧ Ev.look y.2.1.vars 8 = some (.v (.int .i64 (23))))) := by
  refine qfg p (fun i => ⟨[(0, (.fsl ((p).map OpI.r) c)), (2, (.v (.int .i64 (lps)))), (3, (.v (.int .i64 (look)))), (10, (.v (.int .i64 (i))))], []⟩) [] (q3q lps) _ (fun _ y => _) ?_ ?_ ?_
  · intro i x hi hx hp
    have hi' : (i : Int) < (p.length : Int) := by omega
    have hw : IntKind.i64.wrap ((i : Int) + 1) = ((i + 1 : Nat) : Int) := by rw [qat (by omega) (by omega)]; simp
    by_cases h1 : x.code = 2
    · have h2 : ¬ x.a ≥ lps := by simpa [q3q, h1] using hp
      simp only [qgz, Int.natCast_nonneg, Int.toNat_natCast, List.getElem?_map, Option.map_some, OpI.r, hx, hi', hw, h1, h2, qf4, Ev.exec, Ev.qb, Ev.qe, Ev.qc, Ev.qaf, Ev.Opnd.ev, Ev.Env.get, Ev.Env.set, Ev.look, Ev.qi, Ev.qab, Ev.qaj, Ev.qak, Ev.qo, Ev.qbz, Ev.qs, Ev.keep, Ev.qai, Ev.qaa, Ev.qd, Ev.qa4, Ev.qy, List.length_map, ↓Ev.qq, Ev.it1, ↓reduceIte, List.length_cons, List.length_nil, List.take_nil, List.drop_succ_cons, List.drop_zero, List.head?_cons, Nat.reduceAdd, Nat.reduceEqDiff, reduceCtorEq, decide_true, decide_false, Bool.and_self, Bool.false_eq_true, and_self, Nat.zero_add, eq_self]
    · simp only [qgz, Int.natCast_nonneg, Int.toNat_natCast, List.getElem?_map, Option.map_some, OpI.r, hx, hi', hw, h1, qf4, Ev.exec, Ev.qb, Ev.qe, Ev.qc, Ev.qaf, Ev.Opnd.ev, Ev.Env.get, Ev.Env.set, Ev.Env.unset, Ev.look, Ev.qi, Ev.qab, Ev.qaj, Ev.qak, Ev.qo, Ev.qs, Ev.keep, Ev.qai, Ev.qaa, Ev.qd, Ev.qa4, Ev.qy, List.length_map, ↓Ev.qq, Ev.it1, ↓reduceIte, List.length_cons, List.length_nil, List.take_nil, List.drop_zero, List.head?_cons, Nat.reduceAdd, Nat.reduceEqDiff, reduceCtorEq, decide_true, decide_false, Bool.and_self, Bool.false_eq_true, and_self, Nat.zero_add, eq_self]
  · intro i x hi hx hp
    have hi' : (i : Int) < (p.length : Int) := by omega
    have h1 : x.code = 2 := by
      by_cases h1 : x.code = 2
      · exact h1
      · simp [q3q, h1] at hp
    have h2 : x.a ≥ lps := by simpa [q3q, h1] using hp
    simp only [qgz, Int.natCast_nonneg, Int.toNat_natCast, List.getElem?_map, Option.map_some, OpI.r, hx, hi', h1, h2, Ev.exec, Ev.qb, Ev.qe, Ev.qc, Ev.qaf, Ev.Opnd.ev, Ev.Env.get, Ev.Env.set, Ev.look, Ev.qi, Ev.qab, Ev.qak, Ev.qo, Ev.qbz, List.length_map, ↓Ev.qq, Ev.it1, ↓reduceIte, List.length_cons, List.length_nil, List.drop_succ_cons, List.drop_zero, List.head?_cons, Nat.reduceAdd, Nat.reduceEqDiff, reduceCtorEq, decide_true, Bool.false_eq_true, Nat.zero_add, eq_self]
    exact ⟨_, rfl, rfl, rfl, rfl, rfl⟩
  · simp only [qgz, Int.lt_irrefl, Ev.exec, Ev.qb, Ev.qe, Ev.qc, Ev.qaf, Ev.Opnd.ev, Ev.Env.get, Ev.Env.set, Ev.look, Ev.qo, List.length_map, ↓Ev.qq, Ev.it1, ↓reduceIte, Nat.reduceEqDiff, reduceCtorEq, decide_false, Bool.false_eq_true, eq_self]
    exact ⟨_, rfl, rfl, rfl, rfl, rfl, rfl⟩
theorem qzu (hl : p.length ≤ 16) :
    ∃ y, itB (exec (evL T) itL none qg3) (Ev.qs [0, 3, 11] true 0) ⟨[(0, (.fsl ((p).map OpI.r) c)), (3, (.v (.int .i64 (look)))), (11, (.v (.int .i64 (0))))], []⟩ [] = some y ∧
      (p.all (qnb look) = true ∧ (y.1 = .exit 4 ∧ y.2.1.marks = [] ∧ y.2.2 = []) ∨
      p.all (qnb look) = false ∧ ∃ x, p.find? (fun x => !qnb look x) = some x ∧ (y.1 = .ret ∧ y.2.1.marks = [] ∧ y.2.2 = [] ∧ Ev.look y.2.1.vars 8 = some (.v (.int .i64 (21))))) := by
  refine qfg p (fun i => ⟨[(0, (.fsl ((p).map OpI.r) c)), (3, (.v (.int .i64 (look)))), (11, (.v (.int .i64 (i))))], []⟩) [] (qnb look) _ (fun _ y => _) ?_ ?_ ?_
  · intro i x hi hx hp
    have hi' : (i : Int) < (p.length : Int) := by omega
    have hw : IntKind.i64.wrap ((i : Int) + 1) = ((i + 1 : Nat) : Int) := by rw [qat (by omega) (by omega)]; simp
    by_cases h1 : x.code = 2
    · have h2 : ¬ x.c < look := by simpa [qnb, h1] using hp
      simp only [qg3, Int.natCast_nonneg, Int.toNat_natCast, List.getElem?_map, Option.map_some, OpI.r, hx, hi', hw, h1, h2, qf4, Ev.exec, Ev.qb, Ev.qe, Ev.qc, Ev.qaf, Ev.Opnd.ev, Ev.Env.get, Ev.Env.set, Ev.look, Ev.qi, Ev.qab, Ev.qaj, Ev.qak, Ev.qo, Ev.qs, Ev.keep, Ev.qai, Ev.qaa, Ev.qd, Ev.qa4, Ev.qy, List.length_map, ↓Ev.qq, Ev.it1, ↓reduceIte, List.length_cons, List.length_nil, List.take_nil, List.drop_succ_cons, List.drop_zero, List.head?_cons, Nat.reduceAdd, Nat.reduceEqDiff, reduceCtorEq, decide_true, decide_false, Bool.and_self, Bool.false_eq_true, and_self, Nat.zero_add, eq_self]
    · simp only [qg3, Int.natCast_nonneg, Int.toNat_natCast, List.getElem?_map, Option.map_some, OpI.r, hx, hi', hw, h1, qf4, Ev.exec, Ev.qb, Ev.qe, Ev.qc, Ev.qaf, Ev.Opnd.ev, Ev.Env.get, Ev.Env.set, Ev.Env.unset, Ev.look, Ev.qi, Ev.qab, Ev.qaj, Ev.qak, Ev.qo, Ev.qs, Ev.keep, Ev.qai, Ev.qaa, Ev.qd, Ev.qa4, Ev.qy, List.length_map, ↓Ev.qq, Ev.it1, ↓reduceIte, List.length_cons, List.length_nil, List.take_nil, List.drop_zero, List.head?_cons, Nat.reduceAdd, Nat.reduceEqDiff, reduceCtorEq, decide_true, decide_false, Bool.and_self, Bool.false_eq_true, and_self, Nat.zero_add, eq_self]
  · intro i x hi hx hp
    have hi' : (i : Int) < (p.length : Int) := by omega
    have h1 : x.code = 2 := by
      by_cases h1 : x.code = 2
      · exact h1
      · simp [qnb, h1] at hp
    have h2 : x.c < look := by simpa [qnb, h1] using hp
    simp only [qg3, Int.natCast_nonneg, Int.toNat_natCast, List.getElem?_map, Option.map_some, OpI.r, hx, hi', h1, h2, Ev.exec, Ev.qb, Ev.qe, Ev.qc, Ev.qaf, Ev.Opnd.ev, Ev.Env.get, Ev.Env.set, Ev.look, Ev.qi, Ev.qab, Ev.qak, Ev.qo, List.length_map, ↓Ev.qq, Ev.it1, ↓reduceIte, List.length_cons, List.length_nil, List.drop_succ_cons, List.drop_zero, List.head?_cons, Nat.reduceAdd, Nat.reduceEqDiff, reduceCtorEq, decide_true, Bool.false_eq_true, Nat.zero_add, eq_self]
    exact ⟨_, rfl, rfl, rfl, rfl, rfl⟩
  · simp only [qg3, Int.lt_irrefl, Ev.exec, Ev.qb, Ev.qe, Ev.qc, Ev.qaf, Ev.Opnd.ev, Ev.Env.get, Ev.Env.set, Ev.look, Ev.qo, List.length_map, ↓Ev.qq, Ev.it1, ↓reduceIte, Nat.reduceEqDiff, reduceCtorEq, decide_false, Bool.false_eq_true, eq_self]
    exact ⟨_, rfl, rfl, rfl, rfl⟩
theorem qsg : qbk (evL T) qjc [(.fsl ((p).map OpI.r) c), (.v (.int .i64 (ps))), (.v (.int .i64 (lps))), (.v (.int .i64 (look)))] = some (.v (.int .i64 (ql0 p ps lps look))) := by
  have h0 := qzr p c
  rw [qbk, qu qze qwf]
  cases hs : qqo p with
  | false =>
    rw [hs] at h0
    simp only [qg6, ql0, h0, hs, qf4, Ev.qm, Ev.exec, Ev.qb, Ev.qe, Ev.qc, Ev.qa9, Ev.qaf, Ev.evs, Ev.Opnd.ev, Ev.Env.get, Ev.Env.set, Ev.look, Ev.qn, Ev.ql, Ev.qw, Ev.qae, Ev.kill, Ev.qad, Ev.qd, Ev.qa4, Ev.qy, Ev.qj, Ev.qk, Ev.qal, ↓Ev.qq, ↓reduceIte, List.length_cons, List.length_nil, List.take_nil, Nat.reduceAdd, reduceCtorEq, Bool.and_self, Bool.not_false, and_self, Nat.zero_add, eq_self]
  | true =>
    rw [hs] at h0
    have hl : p.length ≤ 16 := by simp only [qqo, Bool.and_eq_true, decide_eq_true_eq] at hs; exact hs.1.2
    obtain ⟨⟨y1, e1, σ1⟩, k1, k2⟩ := qzy p c ps lps look hl
    obtain ⟨⟨y2, e2, σ2⟩, m1, m2⟩ := qzt p c lps look hl
    obtain ⟨⟨y3, e3, σ3⟩, n1, n2⟩ := qzu p c look hl
    simp only at k2 m2 n2
    rcases k2 with ⟨q1, rfl, q2, rfl, q3, q4, q5⟩ | ⟨q1, x, _, rfl, q2, rfl, q3⟩
    · rcases m2 with ⟨r1, rfl, r2, rfl, r3, r4⟩ | ⟨r1, x, _, rfl, r2, rfl, r3⟩
      · rcases n2 with ⟨t1, rfl, t2, rfl⟩ | ⟨t1, x, _, rfl, t2, rfl, t3⟩
        · simp only [qg6, ql0, h0, hs, k1, q1, q2, q3, q4, q5, m1, r1, r2, r3, r4, n1, t1, t2, qf4, Ev.qm, Ev.exec, Ev.qb, Ev.qe, Ev.qc, Ev.qa9, Ev.qaf, Ev.evs, Ev.Opnd.ev, Ev.Env.get, Ev.Env.set, Ev.look, Ev.qn, Ev.ql, Ev.qw, Ev.qae, Ev.kill, Ev.qad, Ev.qs, Ev.keep, Ev.qai, Ev.qaa, Ev.qd, Ev.qa4, Ev.qy, Ev.qj, Ev.qk, Ev.qal, ↓Ev.qq, ↓Ev.qan, ↓reduceIte, List.length_cons, List.length_nil, List.take_nil, Nat.reduceAdd, Nat.reduceEqDiff, reduceCtorEq, Bool.and_self, Bool.not_true, Bool.false_eq_true, Bool.true_eq_false, and_self, Nat.zero_add, eq_self]
        · simp only [qg6, ql0, h0, hs, k1, q1, q2, q3, q4, q5, m1, r1, r2, r3, r4, n1, t1, t2, t3, qf4, Ev.qm, Ev.exec, Ev.qb, Ev.qe, Ev.qc, Ev.qa9, Ev.qaf, Ev.evs, Ev.Opnd.ev, Ev.Env.get, Ev.Env.set, Ev.look, Ev.qn, Ev.ql, Ev.qw, Ev.qae, Ev.kill, Ev.qad, Ev.qs, Ev.keep, Ev.qai, Ev.qaa, Ev.qd, Ev.qa4, Ev.qy, Ev.qj, Ev.qk, Ev.qal, ↓Ev.qq, ↓Ev.qan, ↓reduceIte, List.length_cons, List.length_nil, List.take_nil, Nat.reduceAdd, Nat.reduceEqDiff, reduceCtorEq, Bool.and_self, Bool.not_true, Bool.false_eq_true, Bool.true_eq_false, and_self, Nat.zero_add, eq_self]
      · simp only [qg6, ql0, h0, hs, k1, q1, q2, q3, q4, q5, m1, r1, r2, r3, qf4, Ev.qm, Ev.exec, Ev.qb, Ev.qe, Ev.qc, Ev.qa9, Ev.qaf, Ev.evs, Ev.Opnd.ev, Ev.Env.get, Ev.Env.set, Ev.look, Ev.qn, Ev.ql, Ev.qw, Ev.qae, Ev.kill, Ev.qad, Ev.qs, Ev.keep, Ev.qai, Ev.qaa, Ev.qd, Ev.qa4, Ev.qy, Ev.qj, Ev.qk, Ev.qal, ↓Ev.qq, ↓Ev.qan, ↓reduceIte, List.length_cons, List.length_nil, List.take_nil, Nat.reduceAdd, Nat.reduceEqDiff, reduceCtorEq, Bool.and_self, Bool.not_true, Bool.false_eq_true, Bool.true_eq_false, and_self, Nat.zero_add, eq_self]
    · simp only [qg6, ql0, h0, hs, k1, q1, q2, q3, qf4, Ev.qm, Ev.exec, Ev.qb, Ev.qe, Ev.qc, Ev.qa9, Ev.qaf, Ev.evs, Ev.Opnd.ev, Ev.Env.get, Ev.Env.set, Ev.look, Ev.qn, Ev.ql, Ev.qw, Ev.qae, Ev.kill, Ev.qad, Ev.qs, Ev.keep, Ev.qai, Ev.qaa, Ev.qd, Ev.qa4, Ev.qy, Ev.qj, Ev.qk, Ev.qal, ↓Ev.qq, ↓Ev.qan, ↓reduceIte, List.length_cons, List.length_nil, List.take_nil, Nat.reduceAdd, Nat.reduceEqDiff, reduceCtorEq, Bool.and_self, Bool.not_true, Bool.false_eq_true, Bool.true_eq_false, and_self, Nat.zero_add, eq_self]
end
set_option maxRecDepth 10000
structure Pr where
  prog : Int
  pc : Int
  alive : Bool
  timer : List Int
  deriving DecidableEq
def Pr.r (x : Pr) : List AV := [(.v (.int .i64 (x.prog))), (.v (.int .i64 (x.pc))), (.v (.bool (x.alive))), (.fsl ((x.timer).map qcp) false)]
theorem pr_lo (n : Nat) (x : Pr) : los n x.r = true := by simp only [Pr.r, qax, Ev.qa4, Ev.qy, Ev.qj, Ev.qk, Bool.and_self, eq_self]
theorem pr_pl (x : Pr) : x.r.length = 4 ∧ qv x.r = true := ⟨rfl, rfl⟩
theorem qar (n : Nat) (l : List Pr) : qit n (l.map Pr.r) = true := qjz (pr_lo n) l
theorem q1e (l : List Pr) : qe9 4 (l.map Pr.r) = true := qo2 pr_pl l
structure Evt where
  time : Int
  key : List Int
  lp : Int
  kind : Int
  proc : Int
  arg : Int
  deriving DecidableEq
def Evt.r (x : Evt) : List AV := [(.v (.int .i64 (x.time))), (.fsl ((x.key).map qcp) false), (.v (.int .i64 (x.lp))), (.v (.int .i64 (x.kind))), (.v (.int .i64 (x.proc))), (.v (.int .i64 (x.arg)))]
theorem q5d (n : Nat) (x : Evt) : los n x.r = true := by simp only [Evt.r, qax, Ev.qa4, Ev.qy, Ev.qj, Ev.qk, Bool.and_self, eq_self]
theorem evt_pl (x : Evt) : x.r.length = 6 ∧ qv x.r = true := ⟨rfl, rfl⟩
theorem qah (n : Nat) (l : List Evt) : qit n (l.map Evt.r) = true := qjz (q5d n) l
theorem qw0 (l : List Evt) : qe9 6 (l.map Evt.r) = true := qo2 evt_pl l
structure Lp where
  r0 : Int
  r1 : Int
  procs : List Pr
  sum : Int
  deriving DecidableEq
def Lp.r (x : Lp) : List AV := [(.v (.int .i64 (x.r0))), (.v (.int .i64 (x.r1))), (.fsl ((x.procs).map Pr.r) false), (.v (.int .i64 (x.sum)))]
structure Ex where
  r0 : Int
  r1 : Int
  procs : List Pr
  sum : Int
  ev : Evt
  out : List Evt
  n : Int
  gone : List (List Int)
  over : Bool
def Ex.kid (x : Ex) : List Int := x.ev.key ++ [x.n]
def Ex.create (x : Ex) (d : Int) (e : Evt) : Ex :=
  { x with n := w64 (x.n + 1), out := if w64 (x.ev.time + d) > 1152921504606846976 then x.out else x.out ++ [⟨w64 (x.ev.time + d), x.kid, e.lp, e.kind, e.proc, e.arg⟩],
           over := if w64 (x.ev.time + d) > 1152921504606846976 then true else x.over }
structure Ex.Small (x : Ex) : Prop where
  procs : x.procs.length ≤ 1000
  out : x.out.length ≤ 1000
  gone : x.gone.length ≤ 1000
  key : x.ev.key.length ≤ 1000
theorem q1u (l : List Int) : qqu (l.map qcp) (l.map qcp) = true := qq0 (fun x => by simp only [qcp, Ev.qt8, Ev.qrj, Ev.q05, decide_true, Bool.and_self, eq_self]) l
theorem eq_procs (l : List Pr) : qqu (l.map Pr.r) (l.map Pr.r) = true := qq0 (fun x => by simp only [Pr.r, q1u, Ev.qt8, Ev.qrj, Ev.q05, Ev.q5a, Ev.q1s, decide_true, Bool.and_self, eq_self, beq_self_eq_true]) l
theorem eq_evts (l : List Evt) : qqu (l.map Evt.r) (l.map Evt.r) = true := qq0 (fun x => by simp only [Evt.r, q1u, Ev.qt8, Ev.qrj, Ev.q05, Ev.q1s, decide_true, Bool.and_self, eq_self, beq_self_eq_true]) l
theorem eq_keys (l : List (List Int)) : qqu (l.map qfe) (l.map qfe) = true := qq0 (fun x => by simp only [qfe, q1u, Ev.qt8, Ev.qrj, Ev.q1s, Bool.and_self, eq_self, beq_self_eq_true]) l
set_option maxRecDepth 10000
theorem qvc {α : Type} [DecidableEq α] : ∀ {a b : List α}, a.length = b.length → ((a.zip b).all (fun z => decide (z.1 = z.2)) = true ↔ a = b)
  | [], [], _ => by simp
  | x :: a, y :: b, h => by
    rw [List.zip_cons_cons, List.all_cons, Bool.and_eq_true, decide_eq_true_eq, qvc (a := a) (b := b) (by simpa using h), List.cons.injEq]
  | [], _ :: _, h => by simp at h
  | _ :: _, [], h => by simp at h
section
variable (a b : List Int) (c d : Bool)
theorem qz0 (hab : a.length = b.length) (hl : a.length ≤ 9223372036854775807) :
    ∃ y, itB (exec (evL T) itL none qec) (Ev.qs [0, 1, 12, 13] true 0) ⟨[(0, (.fsl ((a).map qcp) c)), (1, (.fsl ((b).map qcp) d)), (12, (.v (.int .i64 (a.length)))), (13, (.v (.int .i64 (0))))], []⟩ [] = some y ∧ ((a.zip b).all (fun z => decide (z.1 = z.2)) = true ∧ (y.1 = .exit 0 ∧ y.2.1.marks = [] ∧ y.2.2 = []) ∨
      (a.zip b).all (fun z => decide (z.1 = z.2)) = false ∧ ∃ x, (a.zip b).find? (fun z => !decide (z.1 = z.2)) = some x ∧ (y.1 = .ret ∧ y.2.1.marks = [] ∧ y.2.2 = [] ∧ Ev.look y.2.1.vars 4 = some (.v (.bool (false))))) := by
  have hzl : (a.zip b).length = a.length := by rw [List.length_zip, ← hab, Nat.min_self]
  refine qfg (a.zip b) (fun i => ⟨[(0, (.fsl ((a).map qcp) c)), (1, (.fsl ((b).map qcp) d)), (12, (.v (.int .i64 (a.length)))), (13, (.v (.int .i64 (i))))], []⟩) [] (fun z => decide (z.1 = z.2)) _ (fun _ y => _) ?_ ?_ ?_
  · intro i x hi hx hp
    rw [hzl] at hi
    have hi' : (i : Int) < (a.length : Int) := by omega
    have hw : IntKind.i64.wrap ((i : Int) + 1) = ((i + 1 : Nat) : Int) := by rw [qat (by omega) (by omega)]; simp
    obtain ⟨hxa, hxb⟩ := List.getElem?_zip_eq_some.1 hx
    have hp' := of_decide_eq_true hp
    simp only [qec, Int.natCast_nonneg, Int.toNat_natCast, List.getElem?_map, Option.map_some, hxa, hxb, hi', hw, hp', qax, qcp, Ev.exec, Ev.qb, Ev.qe, Ev.qc, Ev.qaf, Ev.Opnd.ev, Ev.Env.get, Ev.Env.set, Ev.look, Ev.qi, Ev.qab, Ev.qaj, Ev.qbd, Ev.qo, Ev.qs, Ev.keep, Ev.qai, Ev.qaa, Ev.qd, Ev.qa4, Ev.qy, ↓Ev.qq, Ev.it1, ↓reduceIte, List.length_cons, List.length_nil, List.take_nil, List.head?_cons, Nat.reduceEqDiff, reduceCtorEq, decide_true, decide_false, Bool.and_self, Bool.false_eq_true, and_self, ne_eq, not_true_eq_false, Nat.zero_add, eq_self]
  · intro i x hi hx hp
    rw [hzl] at hi
    have hi' : (i : Int) < (a.length : Int) := by omega
    obtain ⟨hxa, hxb⟩ := List.getElem?_zip_eq_some.1 hx
    have hp' : ¬ x.1 = x.2 := of_decide_eq_false hp
    simp only [qec, Int.natCast_nonneg, Int.toNat_natCast, List.getElem?_map, Option.map_some, hxa, hxb, hi', hp', qcp, Ev.exec, Ev.qb, Ev.qe, Ev.qc, Ev.qaf, Ev.Opnd.ev, Ev.Env.get, Ev.Env.set, Ev.look, Ev.qi, Ev.qab, Ev.qbd, Ev.qo, ↓Ev.qq, Ev.it1, ↓reduceIte, List.length_cons, List.length_nil, List.head?_cons, Nat.reduceEqDiff, reduceCtorEq, decide_true, Bool.false_eq_true, ne_eq, not_false_eq_true, Nat.zero_add, eq_self]
    exact ⟨_, rfl, rfl, rfl, rfl, rfl⟩
  · rw [hzl]
    simp only [qec, Int.lt_irrefl, Ev.exec, Ev.qb, Ev.qe, Ev.qc, Ev.qaf, Ev.Opnd.ev, Ev.Env.get, Ev.Env.set, Ev.look, Ev.qo, ↓Ev.qq, Ev.it1, ↓reduceIte, Nat.reduceEqDiff, reduceCtorEq, decide_false, Bool.false_eq_true, eq_self]
    exact ⟨_, rfl, rfl, rfl, rfl⟩
theorem qq8 (hl : a.length ≤ 9223372036854775807) (hl2 : b.length ≤ 9223372036854775807) : qbk (evL T) qdl [(.fsl ((a).map qcp) c), (.fsl ((b).map qcp) d)] = some (.v (.bool (decide (a = b)))) := by
  rw [qbk, qu qof qn1]
  by_cases hab : a.length = b.length
  · have hab' : (a.length : Int) = (b.length : Int) := by omega
    obtain ⟨⟨y, e, σ⟩, k1, k2⟩ := qz0 a b c d hab hl
    simp only at k2
    rcases k2 with ⟨k3, rfl, k4, rfl⟩ | ⟨k3, x, _, rfl, k4, rfl, k5⟩
    · have : a = b := (qvc hab).1 k3
      rw [hab'] at k1
      simp only [qd9, this, qax, Ev.qm, Ev.exec, Ev.qb, Ev.qe, Ev.qc, Ev.qaf, Ev.Opnd.ev, Ev.Env.get, Ev.Env.set, Ev.look, Ev.qn, Ev.qbd, Ev.ql, Ev.qw, Ev.qae, Ev.qad, Ev.qs, Ev.keep, Ev.qai, Ev.qaa, Ev.qd, Ev.qa4, Ev.qy, List.length_map, ↓Ev.qq, ↓Ev.qan, ↓reduceIte, List.length_cons, List.length_nil, List.take_zero, List.take_nil, Nat.reduceAdd, Nat.reduceEqDiff, reduceCtorEq, decide_true, decide_false, Bool.and_self, Bool.false_eq_true, and_self, and_true, ne_eq, not_true_eq_false, Nat.zero_add, eq_self]
      subst this
      simp only [k1, k4, Ev.look, Ev.kill, Ev.qa4, Ev.qal, ↓reduceIte, eq_self]
    · have : ¬ a = b := fun h => by rw [(qvc hab).2 h] at k3; cases k3
      simp only [this]
      rw [hab'] at k1
      simp only [qd9, hab', k1, k4, k5, qax, Ev.qm, Ev.exec, Ev.qb, Ev.qe, Ev.qc, Ev.qaf, Ev.Opnd.ev, Ev.Env.get, Ev.Env.set, Ev.look, Ev.qn, Ev.qbd, Ev.ql, Ev.qw, Ev.qae, Ev.kill, Ev.qad, Ev.qs, Ev.keep, Ev.qai, Ev.qaa, Ev.qd, Ev.qa4, Ev.qy, Ev.qal, List.length_map, ↓Ev.qq, ↓Ev.qan, ↓reduceIte, List.length_cons, List.length_nil, List.take_nil, Nat.reduceAdd, Nat.reduceEqDiff, reduceCtorEq, decide_false, Bool.and_self, Bool.false_eq_true, and_self, ne_eq, not_true_eq_false, Nat.zero_add, eq_self]
  · have hab' : ¬ (a.length : Int) = (b.length : Int) := by omega
    have : ¬ a = b := fun h => hab (by rw [h])
    simp only [qd9, hab', this, Ev.qm, Ev.exec, Ev.qb, Ev.qe, Ev.qc, Ev.qaf, Ev.Opnd.ev, Ev.Env.get, Ev.Env.set, Ev.look, Ev.qn, Ev.qbd, Ev.ql, Ev.qw, Ev.qae, Ev.kill, Ev.qad, Ev.qd, Ev.qa4, Ev.qal, List.length_map, ↓Ev.qq, ↓reduceIte, List.length_cons, List.length_nil, List.take_nil, Nat.reduceAdd, Nat.reduceEqDiff, reduceCtorEq, decide_true, decide_false, and_self, ne_eq, not_false_eq_true, Nat.zero_add, eq_self]
end
theorem qp9 (n : Nat) : ∀ (a b : qx), qd n (a ++ b) = (qd n a && qd n b)
  | [], b => by simp [qd]
  | x :: a, b => by simp only [List.cons_append, qd, qp9 n a b, Bool.and_assoc]
theorem qqg {n : Nat} : ∀ {σ : qx}, qd n σ = true ↔ ∀ x ∈ σ, SObj.lo n x = true
  | [] => by simp [qd]
  | x :: a => by simp only [qd, Bool.and_eq_true, qqg (σ := a), List.mem_cons, forall_eq_or_imp]
theorem qs3 {n : Nat} {σ : qx} (h : qd n σ = true) (i : Nat) {x : SObj} (hx : x.lo n = true) : qd n (σ.set i x) = true := by
  rw [qqg] at h ⊢
  intro y hy
  rcases List.mem_or_eq_of_mem_set hy with hy | rfl
  · exact h y hy
  · exact hx
mutual
theorem q0y {n m : Nat} (h : n ≤ m) : ∀ (a : AV), a.lo n = true → a.lo m = true
  | .v _, _ => by simp only [AV.lo]
  | .agg cs, k => by simp only [AV.lo] at k ⊢; exact qp0 h cs k
  | .tup cs, k => by simp only [AV.lo] at k ⊢; exact qp0 h cs k
  | .fsl es _, k => by simp only [AV.lo] at k ⊢; exact qpf h es k
  | .fptr cs, k => by simp only [AV.lo] at k ⊢; exact qp0 h cs k
  | .sl o _ _ _ _, k => by simp only [AV.lo, decide_eq_true_eq] at k ⊢; omega
  | .ptr o _ _ _, k => by simp only [AV.lo, decide_eq_true_eq] at k ⊢; omega
  | .fn _ a b, k => by simp only [AV.lo, Bool.and_eq_true] at k ⊢; exact ⟨qp0 h a k.1, qp0 h b k.2⟩
  | .yld o, k => by simp only [AV.lo, decide_eq_true_eq] at k ⊢; omega
  | .mp o, k => by simp only [AV.lo, decide_eq_true_eq] at k ⊢; omega
theorem qp0 {n m : Nat} (h : n ≤ m) : ∀ (l : List AV), los n l = true → los m l = true
  | [], _ => by simp only [los]
  | a :: l, k => by simp only [los, Bool.and_eq_true] at k ⊢; exact ⟨q0y h a k.1, qp0 h l k.2⟩
theorem qpf {n m : Nat} (h : n ≤ m) : ∀ (es : List (List AV)), qit n es = true → qit m es = true
  | [], _ => by simp only [qit]
  | a :: l, k => by simp only [qit, Bool.and_eq_true] at k ⊢; exact ⟨qp0 h a k.1, qpf h l k.2⟩
end
theorem qxt {n m : Nat} (h : n ≤ m) : ∀ (l : List (Nat × AV)), qai n l = true → qai m l = true
  | [], _ => by simp only [qai]
  | (_, a) :: r, k => by simp only [qai, Bool.and_eq_true] at k ⊢; exact ⟨q0y h a k.1, qxt h r k.2⟩
theorem qsu {n m : Nat} (h : n ≤ m) (o : SObj) (k : o.lo n = true) : o.lo m = true := by
  cases o <;> simp only [SObj.lo] at k ⊢
  · exact qpf h _ k
  · exact qxt h _ k
theorem qrd {n m : Nat} (h : n ≤ m) {σ : qx} (k : qd n σ = true) : qd m σ = true := by
  rw [qqg] at k ⊢
  exact fun x hx => qsu h x (k x hx)
set_option maxRecDepth 10000
theorem qn4 (n : Nat) : ∀ (a b : List (List AV)), qit n (a ++ b) = (qit n a && qit n b)
  | [], b => by simp [qac]
  | x :: a, b => by rw [List.cons_append, qaq, qaq, qn4 n a b, Bool.and_assoc]
theorem q1r (l : List Int) (c : Bool) (h : l.length ≤ 1000) : (evL T).call qe3 [(.fsl ((l).map qcp) c)] [] = some (.sl 0 0 0 l.length false, [.row 1 (l.map qcp) 0]) := by
  have h' : l.length * 8 ≤ 140737488355328 := by omega
  rw [q38 qoq]
  simp only [qtu, qax, q8j, h', Nat.lt_add_one, Ev.qy, Ev.qj, Ev.qk, List.length_map, ↓reduceIte, Nat.reducePow, Bool.and_self, and_self, Nat.lt_add_one, eq_self]
theorem qsh (l : List Int) (c : Bool) (n : Int) (h : l.length ≤ 1000) : qbk (evL T) qh6 [(.fsl ((l).map qcp) c), (.v (.int .i64 (n)))] = some (.fsl ((l ++ [n]).map qcp) false) := by
  have h' : (l.length + 1) * 8 ≤ 140737488355328 := by omega
  have htl : List.take l.length (l.map qcp) = l.map qcp := List.take_of_length_le (by simp)
  have htk : ∀ e : List AV, List.take (l.length + 1) (l.map qcp ++ [e]) = l.map qcp ++ [e] := fun e => List.take_of_length_le (by simp)
  have hr : (l ++ [n]).map qcp = l.map qcp ++ [[(.v (.int .i64 (n)))]] := by rw [List.map_append]; rfl
  rw [qbk, qu qw8 qvz]
  rw [hr]
  simp only [ql5, q1r l c h, h', htl, htk, qn4, qax, Ev.qm, Ev.exec, Ev.qb, Ev.qe, Ev.qc, Ev.qqm, Ev.q07, Ev.AV.shift, Ev.qaf, Ev.qvy, Ev.evs, Ev.Opnd.ev, Ev.Env.get, Ev.Env.set, Ev.look, Ev.qn, Ev.qd5, Ev.qjo, Ev.AV.cells, Ev.AV.uc, Ev.qv, Ev.AV.plain, Ev.ql, Ev.qw, Ev.qae, Ev.kill, Ev.qad, Ev.qd, Ev.qa4, Ev.qy, Ev.qb8, Ev.qj, Ev.qk, Ev.qac, Ev.qaq, Ev.qd8, Ev.qed, Ev.qk1, Ev.qiq, Ev.qhn, Ev.qfi, Ev.qhs, List.replicate_one, List.length_map, ↓Ev.qq, ↓reduceIte, List.length_cons, List.length_nil, List.length_append, List.getElem?_cons_zero, List.take_zero, List.drop_zero, List.nil_append, List.set_cons_zero, Nat.reduceAdd, Nat.reduceEqDiff, Nat.reduceMul, Nat.reduceLT, Nat.reduceLeDiff, Nat.reducePow, reduceCtorEq, decide_true, decide_false, Bool.and_self, Bool.false_eq_true, and_self, and_true, ne_eq, not_false_eq_true, List.cons_ne_nil, Nat.zero_add, Nat.add_zero, Nat.lt_add_one, Nat.le_refl, eq_self]
set_option maxRecDepth 10000
def qf1 : List (Int × AV) := [(1, .fn (.func qct) [] []), (2, .fn (.func qcs) [] []), (3, .fn (.func qci) [] []), (4, .fn (.func qcd) [] []), (5, .fn (.func qch) [] []), (6, .fn (.func qc0) [] []), (7, .fn (.func qcr) [] []), (8, .fn (.func qc3) [] [])]
section
variable (a0 a1 a2 : Int) (am : Nat) (x : Ex) (gp gc gg : Nat)
theorem qrw (i : Nat) (hi : x.ev.proc = i) (hp : i < x.procs.length) :
    (evL T).call qa0 [.ptr 5 0 0 0] [.row 4 [[(.v (.int .i64 (a0))), (.v (.int .i64 (a1))), .sl 2 0 0 am false, (.v (.int .i64 (a2)))]] 0, .row 4 [[(.v (.int .i64 (0))), (.v (.int .i64 (0))), .fsl [] false, (.v (.int .i64 (0)))]] 0, .row 4 ((x.procs).map Pr.r) gp, .row 6 ((x.out).map Evt.r) gc, .row 1 ((x.gone).map qfe) gg, .row 14 [[(.v (.int .i64 (x.r0))), (.v (.int .i64 (x.r1))), .sl 2 gp 0 x.procs.length false, (.v (.int .i64 (x.sum))), (.v (.int .i64 (x.ev.time))), (.fsl ((x.ev.key).map qcp) false), (.v (.int .i64 (x.ev.lp))), (.v (.int .i64 (x.ev.kind))), (.v (.int .i64 (x.ev.proc))), (.v (.int .i64 (x.ev.arg))), .sl 3 gc 0 x.out.length false, (.v (.int .i64 (x.n))), .sl 4 gg 0 x.gone.length false, (.v (.bool (x.over)))]] 0, .mp .i64 qf1] = some (.ptr 2 gp i 0, [.row 4 [[(.v (.int .i64 (a0))), (.v (.int .i64 (a1))), .sl 2 0 0 am false, (.v (.int .i64 (a2)))]] 0, .row 4 [[(.v (.int .i64 (0))), (.v (.int .i64 (0))), .fsl [] false, (.v (.int .i64 (0)))]] 0, .row 4 ((x.procs).map Pr.r) gp, .row 6 ((x.out).map Evt.r) gc, .row 1 ((x.gone).map qfe) gg, .row 14 [[(.v (.int .i64 (x.r0))), (.v (.int .i64 (x.r1))), .sl 2 gp 0 x.procs.length false, (.v (.int .i64 (x.sum))), (.v (.int .i64 (x.ev.time))), (.fsl ((x.ev.key).map qcp) false), (.v (.int .i64 (x.ev.lp))), (.v (.int .i64 (x.ev.kind))), (.v (.int .i64 (x.ev.proc))), (.v (.int .i64 (x.ev.arg))), .sl 3 gc 0 x.out.length false, (.v (.int .i64 (x.n))), .sl 4 gg 0 x.gone.length false, (.v (.bool (x.over)))]] 0, .mp .i64 qf1]) := by
  rw [qu qjk qix]
  simp only [qez, hi, hp, Int.natCast_nonneg, Int.toNat_natCast, qax, qar, qah, qb0, Nat.reduceLT, Ev.qm, Ev.exec, Ev.qb, Ev.qe, Ev.qc, Ev.qaf, Ev.Opnd.ev, Ev.Env.get, Ev.Env.set, Ev.look, Ev.qn, Ev.qi, Ev.qab, Ev.ql, Ev.qw, Ev.qae, Ev.kill, Ev.qad, Ev.qd, Ev.SObj.lo, Ev.qa4, Ev.qy, Ev.qb8, Ev.qjv, Ev.qj, Ev.qk, Ev.qac, Ev.qaq, ↓Ev.qq, ↓reduceIte, List.length_cons, List.length_nil, List.getElem?_cons_zero, List.getElem?_cons_succ, List.take_succ_cons, List.take_nil, List.drop_succ_cons, List.drop_zero, List.head?_cons, Nat.reduceAdd, Nat.reduceEqDiff, Nat.reduceLT, reduceCtorEq, decide_true, Bool.and_self, Bool.false_eq_true, and_self, Nat.zero_add, Nat.add_zero, eq_self]
theorem q8h (k p a : Int) : (evL T).call qc1 [.ptr 5 0 0 0, (.v (.int .i64 (k))), (.v (.int .i64 (p))), (.v (.int .i64 (a)))] [.row 4 [[(.v (.int .i64 (a0))), (.v (.int .i64 (a1))), .sl 2 0 0 am false, (.v (.int .i64 (a2)))]] 0, .row 4 [[(.v (.int .i64 (0))), (.v (.int .i64 (0))), .fsl [] false, (.v (.int .i64 (0)))]] 0, .row 4 ((x.procs).map Pr.r) gp, .row 6 ((x.out).map Evt.r) gc, .row 1 ((x.gone).map qfe) gg, .row 14 [[(.v (.int .i64 (x.r0))), (.v (.int .i64 (x.r1))), .sl 2 gp 0 x.procs.length false, (.v (.int .i64 (x.sum))), (.v (.int .i64 (x.ev.time))), (.fsl ((x.ev.key).map qcp) false), (.v (.int .i64 (x.ev.lp))), (.v (.int .i64 (x.ev.kind))), (.v (.int .i64 (x.ev.proc))), (.v (.int .i64 (x.ev.arg))), .sl 3 gc 0 x.out.length false, (.v (.int .i64 (x.n))), .sl 4 gg 0 x.gone.length false, (.v (.bool (x.over)))]] 0, .mp .i64 qf1] = some (.agg [(.v (.int .i64 (0))), .fsl [] false, (.v (.int .i64 (x.ev.lp))), (.v (.int .i64 (k))), (.v (.int .i64 (p))), (.v (.int .i64 (a)))], [.row 4 [[(.v (.int .i64 (a0))), (.v (.int .i64 (a1))), .sl 2 0 0 am false, (.v (.int .i64 (a2)))]] 0, .row 4 [[(.v (.int .i64 (0))), (.v (.int .i64 (0))), .fsl [] false, (.v (.int .i64 (0)))]] 0, .row 4 ((x.procs).map Pr.r) gp, .row 6 ((x.out).map Evt.r) gc, .row 1 ((x.gone).map qfe) gg, .row 14 [[(.v (.int .i64 (x.r0))), (.v (.int .i64 (x.r1))), .sl 2 gp 0 x.procs.length false, (.v (.int .i64 (x.sum))), (.v (.int .i64 (x.ev.time))), (.fsl ((x.ev.key).map qcp) false), (.v (.int .i64 (x.ev.lp))), (.v (.int .i64 (x.ev.kind))), (.v (.int .i64 (x.ev.proc))), (.v (.int .i64 (x.ev.arg))), .sl 3 gc 0 x.out.length false, (.v (.int .i64 (x.n))), .sl 4 gg 0 x.gone.length false, (.v (.bool (x.over)))]] 0, .mp .i64 qf1]) := by
  rw [qu qo0 qny]
  simp only [qf9, qax, qar, qah, qb0, Nat.reduceLT, Nat.reduceLeDiff, Ev.qm, Ev.exec, Ev.qb, Ev.qe, Ev.qc, Ev.qaf, Ev.Opnd.ev, Ev.Env.get, Ev.Env.set, Ev.look, Ev.qn, Ev.qi, Ev.qab, Ev.qff, Ev.AV.cells, Ev.AV.uc, Ev.qv, Ev.AV.plain, Ev.ql, Ev.qw, Ev.qae, Ev.kill, Ev.qad, Ev.qd, Ev.SObj.lo, Ev.qa4, Ev.qbn, Ev.qy, Ev.qb8, Ev.qj, Ev.qk, Ev.qac, Ev.qaq, ↓Ev.qq, ↓reduceIte, List.length_cons, List.length_nil, List.getElem?_cons_zero, List.getElem?_cons_succ, List.take_succ_cons, List.take_zero, List.take_nil, List.drop_succ_cons, List.drop_zero, List.drop_nil, List.cons_append, List.nil_append, List.append_nil, List.set_cons_zero, List.set_cons_succ, List.head?_cons, Nat.reduceAdd, Nat.reduceEqDiff, Nat.reduceLT, Nat.reduceLeDiff, reduceCtorEq, decide_true, Bool.and_self, Bool.false_eq_true, and_self, ne_eq, not_false_eq_true, List.cons_ne_nil, Nat.zero_add, Nat.le_refl, eq_self]
def qlv (x : Ex) (d : Int) (gc : Nat) : Nat := if w64 (x.ev.time + d) > 1152921504606846976 then gc else gc + 1
theorem qtg (h : x.Small) (d : Int) (t0 lp k p a : Int) (ks : List Int) :
    (evL T).call qb2 [.ptr 5 0 0 0, (.v (.int .i64 (d))), .agg [(.v (.int .i64 (t0))), (.fsl ((ks).map qcp) false), (.v (.int .i64 (lp))), (.v (.int .i64 (k))), (.v (.int .i64 (p))), (.v (.int .i64 (a)))]] [.row 4 [[(.v (.int .i64 (a0))), (.v (.int .i64 (a1))), .sl 2 0 0 am false, (.v (.int .i64 (a2)))]] 0, .row 4 [[(.v (.int .i64 (0))), (.v (.int .i64 (0))), .fsl [] false, (.v (.int .i64 (0)))]] 0, .row 4 ((x.procs).map Pr.r) gp, .row 6 ((x.out).map Evt.r) gc, .row 1 ((x.gone).map qfe) gg, .row 14 [[(.v (.int .i64 (x.r0))), (.v (.int .i64 (x.r1))), .sl 2 gp 0 x.procs.length false, (.v (.int .i64 (x.sum))), (.v (.int .i64 (x.ev.time))), (.fsl ((x.ev.key).map qcp) false), (.v (.int .i64 (x.ev.lp))), (.v (.int .i64 (x.ev.kind))), (.v (.int .i64 (x.ev.proc))), (.v (.int .i64 (x.ev.arg))), .sl 3 gc 0 x.out.length false, (.v (.int .i64 (x.n))), .sl 4 gg 0 x.gone.length false, (.v (.bool (x.over)))]] 0, .mp .i64 qf1] = some ((.fsl ((x.kid).map qcp) false), [.row 4 [[(.v (.int .i64 (a0))), (.v (.int .i64 (a1))), .sl 2 0 0 am false, (.v (.int .i64 (a2)))]] 0, .row 4 [[(.v (.int .i64 (0))), (.v (.int .i64 (0))), .fsl [] false, (.v (.int .i64 (0)))]] 0, .row 4 (((x.create d ⟨t0, ks, lp, k, p, a⟩).procs).map Pr.r) gp, .row 6 (((x.create d ⟨t0, ks, lp, k, p, a⟩).out).map Evt.r) (qlv x d gc), .row 1 (((x.create d ⟨t0, ks, lp, k, p, a⟩).gone).map qfe) gg, .row 14 [[(.v (.int .i64 ((x.create d ⟨t0, ks, lp, k, p, a⟩).r0))), (.v (.int .i64 ((x.create d ⟨t0, ks, lp, k, p, a⟩).r1))), .sl 2 gp 0 (x.create d ⟨t0, ks, lp, k, p, a⟩).procs.length false, (.v (.int .i64 ((x.create d ⟨t0, ks, lp, k, p, a⟩).sum))), (.v (.int .i64 ((x.create d ⟨t0, ks, lp, k, p, a⟩).ev.time))), (.fsl (((x.create d ⟨t0, ks, lp, k, p, a⟩).ev.key).map qcp) false), (.v (.int .i64 ((x.create d ⟨t0, ks, lp, k, p, a⟩).ev.lp))), (.v (.int .i64 ((x.create d ⟨t0, ks, lp, k, p, a⟩).ev.kind))), (.v (.int .i64 ((x.create d ⟨t0, ks, lp, k, p, a⟩).ev.proc))), (.v (.int .i64 ((x.create d ⟨t0, ks, lp, k, p, a⟩).ev.arg))), .sl 3 (qlv x d gc) 0 (x.create d ⟨t0, ks, lp, k, p, a⟩).out.length false, (.v (.int .i64 ((x.create d ⟨t0, ks, lp, k, p, a⟩).n))), .sl 4 gg 0 (x.create d ⟨t0, ks, lp, k, p, a⟩).gone.length false, (.v (.bool ((x.create d ⟨t0, ks, lp, k, p, a⟩).over)))]] 0, .mp .i64 qf1]) := by
  have hk := qsh x.ev.key false x.n h.key
  have hs : (x.out.length + 1) * 64 ≤ 140737488355328 := by have := h.out; omega
  have htl : List.take x.out.length (x.out.map Evt.r) = x.out.map Evt.r := List.take_of_length_le (by simp)
  have hlo : los 7 ([(.v (.int .i64 (x.r0))), (.v (.int .i64 (x.r1))), .sl 2 gp 0 x.procs.length false, (.v (.int .i64 (x.sum))), (.v (.int .i64 (x.ev.time))), (.fsl ((x.ev.key).map qcp) false), (.v (.int .i64 (x.ev.lp))), (.v (.int .i64 (x.ev.kind))), (.v (.int .i64 (x.ev.proc))), (.v (.int .i64 (x.ev.arg))), .sl 3 gc 0 x.out.length false, (.v (.int .i64 (x.n))), .sl 4 gg 0 x.gone.length false, (.v (.bool (x.over)))]) = true := by simp only [qax, Nat.reduceLT, Ev.qa4, Ev.qy, Ev.qb8, Ev.qj, Ev.qk, Nat.reduceLT, decide_true, Bool.and_self, eq_self]
  rw [qu qmj qlt]
  unfold Ex.create qlv Ex.kid
  by_cases ho : w64 (x.ev.time + d) > 1152921504606846976
  · have ho' : IntKind.i64.wrap (x.ev.time + d) > 1152921504606846976 := ho
    simp only [ho, if_true]
    simp only [qeb, hk, ho', qax, qar, qah, qb0, Nat.reduceLT, Nat.reduceLeDiff, Ev.qm, Ev.exec, Ev.qb, Ev.qe, Ev.qc, Ev.qa9, Ev.qaf, Ev.evs, Ev.Opnd.ev, Ev.Env.get, Ev.Env.set, Ev.look, Ev.qn, Ev.qi, Ev.qab, Ev.AV.cells, Ev.AV.uc, Ev.qv, Ev.AV.plain, Ev.qaj, Ev.qau, Ev.ql, Ev.qw, Ev.qae, Ev.kill, Ev.qad, Ev.qd, Ev.SObj.lo, Ev.qa4, Ev.qy, Ev.qb8, Ev.qj, Ev.qk, Ev.qac, Ev.qaq, ↓Ev.qq, ↓reduceIte, List.length_cons, List.length_nil, List.getElem?_cons_zero, List.getElem?_cons_succ, List.take_succ_cons, List.take_zero, List.drop_succ_cons, List.drop_zero, List.drop_nil, List.cons_append, List.nil_append, List.append_nil, List.set_cons_zero, List.set_cons_succ, List.head?_cons, Nat.reduceAdd, Nat.reduceEqDiff, Nat.reduceLT, Nat.reduceLeDiff, reduceCtorEq, decide_true, Bool.and_self, Bool.false_eq_true, and_self, ne_eq, not_false_eq_true, List.cons_ne_nil, Nat.zero_add, Nat.add_zero, Nat.le_refl, eq_self]
    done
  · have ho' : ¬ IntKind.i64.wrap (x.ev.time + d) > 1152921504606846976 := ho
    simp only [ho, if_false]
    have hr : ∀ e : Evt, (x.out ++ [e]).map Evt.r = x.out.map Evt.r ++ [e.r] := fun e => by rw [List.map_append]; rfl
    simp only [qeb, hk, ho', hs, htl, hr, qn4, Evt.r, qax, qar, qah, qb0, Nat.reduceLT, Nat.reduceLeDiff, Ev.qm, Ev.exec, Ev.qb, Ev.qe, Ev.qc, Ev.qa9, Ev.qaf, Ev.qvy, Ev.evs, Ev.Opnd.ev, Ev.Env.get, Ev.Env.set, Ev.look, Ev.qn, Ev.qi, Ev.qd5, Ev.qab, Ev.qjo, Ev.AV.cells, Ev.AV.uc, Ev.qv, Ev.AV.plain, Ev.qaj, Ev.qau, Ev.ql, Ev.qw, Ev.qae, Ev.kill, Ev.qad, Ev.qd, Ev.SObj.lo, Ev.qa4, Ev.qy, Ev.qb8, Ev.qj, Ev.qk, Ev.qac, Ev.qaq, Ev.qd8, Ev.qed, List.replicate_one, List.length_map, ↓Ev.qq, ↓reduceIte, List.length_cons, List.length_nil, List.length_append, List.getElem?_cons_zero, List.getElem?_cons_succ, List.take_succ_cons, List.take_zero, List.take_nil, List.drop_succ_cons, List.drop_zero, List.cons_append, List.nil_append, List.set_cons_zero, List.set_cons_succ, List.head?_cons, Nat.reduceAdd, Nat.reduceEqDiff, Nat.reduceMul, Nat.reduceLT, Nat.reduceLeDiff, Nat.reducePow, reduceCtorEq, decide_true, decide_false, Bool.and_self, Bool.false_eq_true, and_self, ne_eq, not_false_eq_true, List.cons_ne_nil, Nat.zero_add, Nat.add_zero, Nat.lt_add_one, Nat.le_refl, eq_self]
    done
end
set_option maxRecDepth 10000
theorem eq_table : eqBm qf1 qf1 = true := by
  have h : decide (eqBm qf1 qf1 = true) = true := by kernel_rfl
  exact of_decide_eq_true h
def Ex.ownE (x : Ex) (k p a : Int) : Evt := ⟨0, [], x.ev.lp, k, p, a⟩
def Ex.setP (x : Ex) (i : Nat) (q : Pr) : Ex := { x with procs := x.procs.set i q }
def Ex.stopE (x : Ex) (i : Nat) (q : Pr) : Ex := if 0 < q.timer.length then { x with gone := x.gone ++ [q.timer], procs := x.procs.set i { q with timer := [] } } else x
section
variable (a0 a1 a2 : Int) (am : Nat) (x : Ex) (gp gc gg : Nat) (op : OpI)
theorem hold_ev (h : x.Small) : (evL T).call qct [.ptr 5 0 0 0, (.agg [(.v (.int .i64 (op.code))), (.v (.int .i64 (op.a))), (.v (.int .i64 (op.b))), (.v (.int .i64 (op.c)))])] [.row 4 [[(.v (.int .i64 (a0))), (.v (.int .i64 (a1))), .sl 2 0 0 am false, (.v (.int .i64 (a2)))]] 0, .row 4 [[(.v (.int .i64 (0))), (.v (.int .i64 (0))), .fsl [] false, (.v (.int .i64 (0)))]] 0, .row 4 ((x.procs).map Pr.r) gp, .row 6 ((x.out).map Evt.r) gc, .row 1 ((x.gone).map qfe) gg, .row 14 [[(.v (.int .i64 (x.r0))), (.v (.int .i64 (x.r1))), .sl 2 gp 0 x.procs.length false, (.v (.int .i64 (x.sum))), (.v (.int .i64 (x.ev.time))), (.fsl ((x.ev.key).map qcp) false), (.v (.int .i64 (x.ev.lp))), (.v (.int .i64 (x.ev.kind))), (.v (.int .i64 (x.ev.proc))), (.v (.int .i64 (x.ev.arg))), .sl 3 gc 0 x.out.length false, (.v (.int .i64 (x.n))), .sl 4 gg 0 x.gone.length false, (.v (.bool (x.over)))]] 0, .mp .i64 qf1] = some ((.v (.int .i64 (1))), [.row 4 [[(.v (.int .i64 (a0))), (.v (.int .i64 (a1))), .sl 2 0 0 am false, (.v (.int .i64 (a2)))]] 0, .row 4 [[(.v (.int .i64 (0))), (.v (.int .i64 (0))), .fsl [] false, (.v (.int .i64 (0)))]] 0, .row 4 (((x.create op.a (x.ownE 1 x.ev.proc 0)).procs).map Pr.r) gp, .row 6 (((x.create op.a (x.ownE 1 x.ev.proc 0)).out).map Evt.r) (qlv x op.a gc), .row 1 (((x.create op.a (x.ownE 1 x.ev.proc 0)).gone).map qfe) gg, .row 14 [[(.v (.int .i64 ((x.create op.a (x.ownE 1 x.ev.proc 0)).r0))), (.v (.int .i64 ((x.create op.a (x.ownE 1 x.ev.proc 0)).r1))), .sl 2 gp 0 (x.create op.a (x.ownE 1 x.ev.proc 0)).procs.length false, (.v (.int .i64 ((x.create op.a (x.ownE 1 x.ev.proc 0)).sum))), (.v (.int .i64 ((x.create op.a (x.ownE 1 x.ev.proc 0)).ev.time))), (.fsl (((x.create op.a (x.ownE 1 x.ev.proc 0)).ev.key).map qcp) false), (.v (.int .i64 ((x.create op.a (x.ownE 1 x.ev.proc 0)).ev.lp))), (.v (.int .i64 ((x.create op.a (x.ownE 1 x.ev.proc 0)).ev.kind))), (.v (.int .i64 ((x.create op.a (x.ownE 1 x.ev.proc 0)).ev.proc))), (.v (.int .i64 ((x.create op.a (x.ownE 1 x.ev.proc 0)).ev.arg))), .sl 3 (qlv x op.a gc) 0 (x.create op.a (x.ownE 1 x.ev.proc 0)).out.length false, (.v (.int .i64 ((x.create op.a (x.ownE 1 x.ev.proc 0)).n))), .sl 4 gg 0 (x.create op.a (x.ownE 1 x.ev.proc 0)).gone.length false, (.v (.bool ((x.create op.a (x.ownE 1 x.ev.proc 0)).over)))]] 0, .mp .i64 qf1]) := by
  have h1 := q8h a0 a1 a2 am x gp gc gg 1 x.ev.proc 0
  have h2 := qtg a0 a1 a2 am x gp gc gg h op.a 0 x.ev.lp 1 x.ev.proc 0 []
  simp only [List.map_nil] at h2
  rw [qu qnq qnf]
  simp only [qfz, h1, h2, Ex.ownE, qax, qar, qah, qb0, Nat.reduceLT, Ev.qm, Ev.exec, Ev.qb, Ev.qe, Ev.qc, Ev.qd0, Ev.qaf, Ev.evs, Ev.Opnd.ev, Ev.Env.get, Ev.Env.set, Ev.look, Ev.qn, Ev.qi, Ev.qab, Ev.AV.cells, Ev.qv, Ev.AV.plain, Ev.ql, Ev.qw, Ev.qae, Ev.kill, Ev.qad, Ev.qd, Ev.SObj.lo, Ev.qa4, Ev.qy, Ev.qb8, Ev.qj, Ev.qk, Ev.qac, Ev.qaq, ↓Ev.qq, ↓reduceIte, List.length_cons, List.length_nil, List.getElem?_cons_zero, List.getElem?_cons_succ, List.take_succ_cons, List.take_nil, List.drop_succ_cons, List.drop_zero, List.head?_cons, Nat.reduceAdd, Nat.reduceEqDiff, Nat.reduceLT, reduceCtorEq, decide_true, Bool.and_self, Bool.false_eq_true, and_self, ne_eq, not_false_eq_true, List.cons_ne_nil, Nat.zero_add, eq_self]
theorem send_ev (h : x.Small) : (evL T).call qcs [.ptr 5 0 0 0, (.agg [(.v (.int .i64 (op.code))), (.v (.int .i64 (op.a))), (.v (.int .i64 (op.b))), (.v (.int .i64 (op.c)))])] [.row 4 [[(.v (.int .i64 (a0))), (.v (.int .i64 (a1))), .sl 2 0 0 am false, (.v (.int .i64 (a2)))]] 0, .row 4 [[(.v (.int .i64 (0))), (.v (.int .i64 (0))), .fsl [] false, (.v (.int .i64 (0)))]] 0, .row 4 ((x.procs).map Pr.r) gp, .row 6 ((x.out).map Evt.r) gc, .row 1 ((x.gone).map qfe) gg, .row 14 [[(.v (.int .i64 (x.r0))), (.v (.int .i64 (x.r1))), .sl 2 gp 0 x.procs.length false, (.v (.int .i64 (x.sum))), (.v (.int .i64 (x.ev.time))), (.fsl ((x.ev.key).map qcp) false), (.v (.int .i64 (x.ev.lp))), (.v (.int .i64 (x.ev.kind))), (.v (.int .i64 (x.ev.proc))), (.v (.int .i64 (x.ev.arg))), .sl 3 gc 0 x.out.length false, (.v (.int .i64 (x.n))), .sl 4 gg 0 x.gone.length false, (.v (.bool (x.over)))]] 0, .mp .i64 qf1] = some ((.v (.int .i64 (0))), [.row 4 [[(.v (.int .i64 (a0))), (.v (.int .i64 (a1))), .sl 2 0 0 am false, (.v (.int .i64 (a2)))]] 0, .row 4 [[(.v (.int .i64 (0))), (.v (.int .i64 (0))), .fsl [] false, (.v (.int .i64 (0)))]] 0, .row 4 (((x.create op.c ⟨0, [], op.a, 3, 0, op.b⟩).procs).map Pr.r) gp, .row 6 (((x.create op.c ⟨0, [], op.a, 3, 0, op.b⟩).out).map Evt.r) (qlv x op.c gc), .row 1 (((x.create op.c ⟨0, [], op.a, 3, 0, op.b⟩).gone).map qfe) gg, .row 14 [[(.v (.int .i64 ((x.create op.c ⟨0, [], op.a, 3, 0, op.b⟩).r0))), (.v (.int .i64 ((x.create op.c ⟨0, [], op.a, 3, 0, op.b⟩).r1))), .sl 2 gp 0 (x.create op.c ⟨0, [], op.a, 3, 0, op.b⟩).procs.length false, (.v (.int .i64 ((x.create op.c ⟨0, [], op.a, 3, 0, op.b⟩).sum))), (.v (.int .i64 ((x.create op.c ⟨0, [], op.a, 3, 0, op.b⟩).ev.time))), (.fsl (((x.create op.c ⟨0, [], op.a, 3, 0, op.b⟩).ev.key).map qcp) false), (.v (.int .i64 ((x.create op.c ⟨0, [], op.a, 3, 0, op.b⟩).ev.lp))), (.v (.int .i64 ((x.create op.c ⟨0, [], op.a, 3, 0, op.b⟩).ev.kind))), (.v (.int .i64 ((x.create op.c ⟨0, [], op.a, 3, 0, op.b⟩).ev.proc))), (.v (.int .i64 ((x.create op.c ⟨0, [], op.a, 3, 0, op.b⟩).ev.arg))), .sl 3 (qlv x op.c gc) 0 (x.create op.c ⟨0, [], op.a, 3, 0, op.b⟩).out.length false, (.v (.int .i64 ((x.create op.c ⟨0, [], op.a, 3, 0, op.b⟩).n))), .sl 4 gg 0 (x.create op.c ⟨0, [], op.a, 3, 0, op.b⟩).gone.length false, (.v (.bool ((x.create op.c ⟨0, [], op.a, 3, 0, op.b⟩).over)))]] 0, .mp .i64 qf1]) := by
  have h2 := qtg a0 a1 a2 am x gp gc gg h op.c 0 op.a 3 0 op.b []
  simp only [List.map_nil] at h2
  rw [qu qnw qmz]
  simp only [qf0, h2, qax, qar, qah, qb0, Nat.reduceLT, Nat.reduceLeDiff, Ev.qm, Ev.exec, Ev.qb, Ev.qe, Ev.qc, Ev.qd0, Ev.qaf, Ev.evs, Ev.Opnd.ev, Ev.Env.get, Ev.Env.set, Ev.look, Ev.qn, Ev.qi, Ev.qab, Ev.qff, Ev.AV.cells, Ev.AV.uc, Ev.qv, Ev.AV.plain, Ev.ql, Ev.qw, Ev.qae, Ev.kill, Ev.qad, Ev.qd, Ev.SObj.lo, Ev.qa4, Ev.qy, Ev.qb8, Ev.qj, Ev.qk, Ev.qac, Ev.qaq, ↓Ev.qq, ↓reduceIte, List.length_cons, List.length_nil, List.take_succ_cons, List.take_zero, List.take_nil, List.drop_succ_cons, List.drop_zero, List.drop_nil, List.cons_append, List.nil_append, List.append_nil, List.head?_cons, Nat.reduceAdd, Nat.reduceEqDiff, Nat.reduceLT, Nat.reduceLeDiff, reduceCtorEq, decide_true, Bool.and_self, Bool.false_eq_true, and_self, ne_eq, not_false_eq_true, List.cons_ne_nil, Nat.zero_add, Nat.le_refl, eq_self]
theorem end_ev : (evL T).call qc3 [.ptr 5 0 0 0, (.agg [(.v (.int .i64 (op.code))), (.v (.int .i64 (op.a))), (.v (.int .i64 (op.b))), (.v (.int .i64 (op.c)))])] [.row 4 [[(.v (.int .i64 (a0))), (.v (.int .i64 (a1))), .sl 2 0 0 am false, (.v (.int .i64 (a2)))]] 0, .row 4 [[(.v (.int .i64 (0))), (.v (.int .i64 (0))), .fsl [] false, (.v (.int .i64 (0)))]] 0, .row 4 ((x.procs).map Pr.r) gp, .row 6 ((x.out).map Evt.r) gc, .row 1 ((x.gone).map qfe) gg, .row 14 [[(.v (.int .i64 (x.r0))), (.v (.int .i64 (x.r1))), .sl 2 gp 0 x.procs.length false, (.v (.int .i64 (x.sum))), (.v (.int .i64 (x.ev.time))), (.fsl ((x.ev.key).map qcp) false), (.v (.int .i64 (x.ev.lp))), (.v (.int .i64 (x.ev.kind))), (.v (.int .i64 (x.ev.proc))), (.v (.int .i64 (x.ev.arg))), .sl 3 gc 0 x.out.length false, (.v (.int .i64 (x.n))), .sl 4 gg 0 x.gone.length false, (.v (.bool (x.over)))]] 0, .mp .i64 qf1] = some ((.v (.int .i64 (2))), [.row 4 [[(.v (.int .i64 (a0))), (.v (.int .i64 (a1))), .sl 2 0 0 am false, (.v (.int .i64 (a2)))]] 0, .row 4 [[(.v (.int .i64 (0))), (.v (.int .i64 (0))), .fsl [] false, (.v (.int .i64 (0)))]] 0, .row 4 ((x.procs).map Pr.r) gp, .row 6 ((x.out).map Evt.r) gc, .row 1 ((x.gone).map qfe) gg, .row 14 [[(.v (.int .i64 (x.r0))), (.v (.int .i64 (x.r1))), .sl 2 gp 0 x.procs.length false, (.v (.int .i64 (x.sum))), (.v (.int .i64 (x.ev.time))), (.fsl ((x.ev.key).map qcp) false), (.v (.int .i64 (x.ev.lp))), (.v (.int .i64 (x.ev.kind))), (.v (.int .i64 (x.ev.proc))), (.v (.int .i64 (x.ev.arg))), .sl 3 gc 0 x.out.length false, (.v (.int .i64 (x.n))), .sl 4 gg 0 x.gone.length false, (.v (.bool (x.over)))]] 0, .mp .i64 qf1]) := by
  rw [qu qoo qn0]
  simp only [qf7, qax, qar, qah, qb0, Nat.reduceLT, Ev.qm, Ev.exec, Ev.qb, Ev.qe, Ev.qc, Ev.qaf, Ev.Opnd.ev, Ev.Env.get, Ev.Env.set, Ev.look, Ev.qn, Ev.AV.cells, Ev.qv, Ev.AV.plain, Ev.ql, Ev.qw, Ev.qae, Ev.kill, Ev.qad, Ev.qd, Ev.SObj.lo, Ev.qa4, Ev.qy, Ev.qb8, Ev.qj, Ev.qk, Ev.qac, Ev.qaq, ↓Ev.qq, ↓reduceIte, List.length_cons, List.length_nil, List.take_succ_cons, List.take_nil, Nat.reduceAdd, Nat.reduceLT, reduceCtorEq, decide_true, Bool.and_self, and_self, ne_eq, not_false_eq_true, List.cons_ne_nil, Nat.zero_add, eq_self]
def Ex.reg (x : Ex) (k : Int) : Int := if k = 0 then x.r0 else x.r1
def Ex.setReg (x : Ex) (k v : Int) : Ex := if k = 0 then { x with r0 := v } else { x with r1 := v }
theorem add_ev (ha : op.a = 0 ∨ op.a = 1) : (evL T).call qc0 [.ptr 5 0 0 0, (.agg [(.v (.int .i64 (op.code))), (.v (.int .i64 (op.a))), (.v (.int .i64 (op.b))), (.v (.int .i64 (op.c)))])] [.row 4 [[(.v (.int .i64 (a0))), (.v (.int .i64 (a1))), .sl 2 0 0 am false, (.v (.int .i64 (a2)))]] 0, .row 4 [[(.v (.int .i64 (0))), (.v (.int .i64 (0))), .fsl [] false, (.v (.int .i64 (0)))]] 0, .row 4 ((x.procs).map Pr.r) gp, .row 6 ((x.out).map Evt.r) gc, .row 1 ((x.gone).map qfe) gg, .row 14 [[(.v (.int .i64 (x.r0))), (.v (.int .i64 (x.r1))), .sl 2 gp 0 x.procs.length false, (.v (.int .i64 (x.sum))), (.v (.int .i64 (x.ev.time))), (.fsl ((x.ev.key).map qcp) false), (.v (.int .i64 (x.ev.lp))), (.v (.int .i64 (x.ev.kind))), (.v (.int .i64 (x.ev.proc))), (.v (.int .i64 (x.ev.arg))), .sl 3 gc 0 x.out.length false, (.v (.int .i64 (x.n))), .sl 4 gg 0 x.gone.length false, (.v (.bool (x.over)))]] 0, .mp .i64 qf1] = some ((.v (.int .i64 (0))), [.row 4 [[(.v (.int .i64 (a0))), (.v (.int .i64 (a1))), .sl 2 0 0 am false, (.v (.int .i64 (a2)))]] 0, .row 4 [[(.v (.int .i64 (0))), (.v (.int .i64 (0))), .fsl [] false, (.v (.int .i64 (0)))]] 0, .row 4 (((x.setReg op.a (w64 (x.reg op.a + op.b))).procs).map Pr.r) gp, .row 6 (((x.setReg op.a (w64 (x.reg op.a + op.b))).out).map Evt.r) gc, .row 1 (((x.setReg op.a (w64 (x.reg op.a + op.b))).gone).map qfe) gg, .row 14 [[(.v (.int .i64 ((x.setReg op.a (w64 (x.reg op.a + op.b))).r0))), (.v (.int .i64 ((x.setReg op.a (w64 (x.reg op.a + op.b))).r1))), .sl 2 gp 0 (x.setReg op.a (w64 (x.reg op.a + op.b))).procs.length false, (.v (.int .i64 ((x.setReg op.a (w64 (x.reg op.a + op.b))).sum))), (.v (.int .i64 ((x.setReg op.a (w64 (x.reg op.a + op.b))).ev.time))), (.fsl (((x.setReg op.a (w64 (x.reg op.a + op.b))).ev.key).map qcp) false), (.v (.int .i64 ((x.setReg op.a (w64 (x.reg op.a + op.b))).ev.lp))), (.v (.int .i64 ((x.setReg op.a (w64 (x.reg op.a + op.b))).ev.kind))), (.v (.int .i64 ((x.setReg op.a (w64 (x.reg op.a + op.b))).ev.proc))), (.v (.int .i64 ((x.setReg op.a (w64 (x.reg op.a + op.b))).ev.arg))), .sl 3 gc 0 (x.setReg op.a (w64 (x.reg op.a + op.b))).out.length false, (.v (.int .i64 ((x.setReg op.a (w64 (x.reg op.a + op.b))).n))), .sl 4 gg 0 (x.setReg op.a (w64 (x.reg op.a + op.b))).gone.length false, (.v (.bool ((x.setReg op.a (w64 (x.reg op.a + op.b))).over)))]] 0, .mp .i64 qf1]) := by
  rw [qu qom qns]
  rcases ha with ha | ha
  · simp only [qe7, ha, Ex.setReg, Ex.reg, qax, qar, qah, qb0, Nat.reduceLT, Nat.reduceLeDiff, Ev.qm, Ev.exec, Ev.qb, Ev.qe, Ev.qc, Ev.qaf, Ev.Opnd.ev, Ev.Env.get, Ev.Env.set, Ev.look, Ev.qn, Ev.qi, Ev.qab, Ev.AV.cells, Ev.AV.uc, Ev.qv, Ev.AV.plain, Ev.qaj, Ev.ql, Ev.qw, Ev.qae, Ev.kill, Ev.qad, Ev.qd, Ev.SObj.lo, Ev.qa4, Ev.qy, Ev.qb8, Ev.qj, Ev.qk, Ev.qac, Ev.qaq, ↓Ev.qq, ↓reduceIte, List.length_cons, List.length_nil, List.getElem?_cons_zero, List.getElem?_cons_succ, List.take_succ_cons, List.take_zero, List.take_nil, List.drop_succ_cons, List.drop_zero, List.cons_append, List.nil_append, List.set_cons_zero, List.set_cons_succ, List.head?_cons, Nat.reduceAdd, Nat.reduceEqDiff, Nat.reduceMul, Nat.reduceLT, Nat.reduceLeDiff, Int.reduceLE, Int.reduceToNat, reduceCtorEq, decide_true, Bool.and_self, Bool.false_eq_true, and_self, ne_eq, not_false_eq_true, List.cons_ne_nil, Nat.zero_add, Nat.add_zero, eq_self]
  · simp only [qe7, ha, Ex.setReg, Ex.reg, qax, qar, qah, qb0, Nat.reduceLT, Nat.reduceLeDiff, Ev.qm, Ev.exec, Ev.qb, Ev.qe, Ev.qc, Ev.qaf, Ev.Opnd.ev, Ev.Env.get, Ev.Env.set, Ev.look, Ev.qn, Ev.qi, Ev.qab, Ev.AV.cells, Ev.AV.uc, Ev.qv, Ev.AV.plain, Ev.qaj, Ev.ql, Ev.qw, Ev.qae, Ev.kill, Ev.qad, Ev.qd, Ev.SObj.lo, Ev.qa4, Ev.qy, Ev.qb8, Ev.qj, Ev.qk, Ev.qac, Ev.qaq, ↓Ev.qq, ↓reduceIte, List.length_cons, List.length_nil, List.getElem?_cons_zero, List.getElem?_cons_succ, List.take_succ_cons, List.take_zero, List.take_nil, List.drop_succ_cons, List.drop_zero, List.cons_append, List.nil_append, List.set_cons_zero, List.set_cons_succ, List.head?_cons, Nat.reduceAdd, Nat.reduceEqDiff, Nat.reduceMul, Nat.reduceLT, Nat.reduceLeDiff, Int.reduceLE, Int.reduceToNat, Int.reduceEq, reduceCtorEq, decide_true, Bool.and_self, Bool.false_eq_true, and_self, ne_eq, not_false_eq_true, List.cons_ne_nil, Nat.zero_add, Nat.add_zero, Nat.lt_add_one, eq_self]
section
variable (i : Nat) (q : Pr) (hi : x.ev.proc = i) (hq : x.procs[i]? = some q)
include hi hq
theorem less_ev (ha : op.a = 0 ∨ op.a = 1) : (evL T).call qcr [.ptr 5 0 0 0, (.agg [(.v (.int .i64 (op.code))), (.v (.int .i64 (op.a))), (.v (.int .i64 (op.b))), (.v (.int .i64 (op.c)))])] [.row 4 [[(.v (.int .i64 (a0))), (.v (.int .i64 (a1))), .sl 2 0 0 am false, (.v (.int .i64 (a2)))]] 0, .row 4 [[(.v (.int .i64 (0))), (.v (.int .i64 (0))), .fsl [] false, (.v (.int .i64 (0)))]] 0, .row 4 ((x.procs).map Pr.r) gp, .row 6 ((x.out).map Evt.r) gc, .row 1 ((x.gone).map qfe) gg, .row 14 [[(.v (.int .i64 (x.r0))), (.v (.int .i64 (x.r1))), .sl 2 gp 0 x.procs.length false, (.v (.int .i64 (x.sum))), (.v (.int .i64 (x.ev.time))), (.fsl ((x.ev.key).map qcp) false), (.v (.int .i64 (x.ev.lp))), (.v (.int .i64 (x.ev.kind))), (.v (.int .i64 (x.ev.proc))), (.v (.int .i64 (x.ev.arg))), .sl 3 gc 0 x.out.length false, (.v (.int .i64 (x.n))), .sl 4 gg 0 x.gone.length false, (.v (.bool (x.over)))]] 0, .mp .i64 qf1] = some ((.v (.int .i64 (0))), [.row 4 [[(.v (.int .i64 (a0))), (.v (.int .i64 (a1))), .sl 2 0 0 am false, (.v (.int .i64 (a2)))]] 0, .row 4 [[(.v (.int .i64 (0))), (.v (.int .i64 (0))), .fsl [] false, (.v (.int .i64 (0)))]] 0, .row 4 (((if x.reg op.a < op.b then x.setP i { q with pc := op.c } else x).procs).map Pr.r) gp, .row 6 (((if x.reg op.a < op.b then x.setP i { q with pc := op.c } else x).out).map Evt.r) gc, .row 1 (((if x.reg op.a < op.b then x.setP i { q with pc := op.c } else x).gone).map qfe) gg, .row 14 [[(.v (.int .i64 ((if x.reg op.a < op.b then x.setP i { q with pc := op.c } else x).r0))), (.v (.int .i64 ((if x.reg op.a < op.b then x.setP i { q with pc := op.c } else x).r1))), .sl 2 gp 0 (if x.reg op.a < op.b then x.setP i { q with pc := op.c } else x).procs.length false, (.v (.int .i64 ((if x.reg op.a < op.b then x.setP i { q with pc := op.c } else x).sum))), (.v (.int .i64 ((if x.reg op.a < op.b then x.setP i { q with pc := op.c } else x).ev.time))), (.fsl (((if x.reg op.a < op.b then x.setP i { q with pc := op.c } else x).ev.key).map qcp) false), (.v (.int .i64 ((if x.reg op.a < op.b then x.setP i { q with pc := op.c } else x).ev.lp))), (.v (.int .i64 ((if x.reg op.a < op.b then x.setP i { q with pc := op.c } else x).ev.kind))), (.v (.int .i64 ((if x.reg op.a < op.b then x.setP i { q with pc := op.c } else x).ev.proc))), (.v (.int .i64 ((if x.reg op.a < op.b then x.setP i { q with pc := op.c } else x).ev.arg))), .sl 3 gc 0 (if x.reg op.a < op.b then x.setP i { q with pc := op.c } else x).out.length false, (.v (.int .i64 ((if x.reg op.a < op.b then x.setP i { q with pc := op.c } else x).n))), .sl 4 gg 0 (if x.reg op.a < op.b then x.setP i { q with pc := op.c } else x).gone.length false, (.v (.bool ((if x.reg op.a < op.b then x.setP i { q with pc := op.c } else x).over)))]] 0, .mp .i64 qf1]) := by
  have hp := (List.getElem?_eq_some_iff.1 hq).1
  have h1 := qrw a0 a1 a2 am x gp gc gg i hi hp
  have hset : (x.procs.map Pr.r).set i [(.v (.int .i64 (q.prog))), (.v (.int .i64 (op.c))), (.v (.bool (q.alive))), (.fsl ((q.timer).map qcp) false)] = (x.procs.set i { q with pc := op.c }).map Pr.r := by rw [List.map_set]; rfl
  have hl : (x.procs.set i { q with pc := op.c }).length = x.procs.length := by simp
  rw [qu qn3 qng]
  unfold Ex.reg
  rcases ha with ha | ha
  · by_cases hlt : x.r0 < op.b
    · simp only [qdh, ha, hlt, Ex.setP, h1, hl, List.getElem?_map, Option.map_some, hq, Pr.r, qax, qar, qah, qb0, Nat.reduceLT, Nat.reduceLeDiff, Ev.qm, Ev.exec, Ev.qb, Ev.qe, Ev.qc, Ev.qd0, Ev.qaf, Ev.evs, Ev.Opnd.ev, Ev.Env.get, Ev.Env.set, Ev.look, Ev.qn, Ev.qi, Ev.qab, Ev.AV.cells, Ev.AV.uc, Ev.qv, Ev.AV.plain, Ev.qo, Ev.ql, Ev.qw, Ev.qae, Ev.kill, Ev.qad, Ev.qd, Ev.SObj.lo, Ev.qa4, Ev.qy, Ev.qb8, Ev.qj, Ev.qk, Ev.qac, Ev.qaq, ↓Ev.qq, ↓reduceIte, List.length_cons, List.length_nil, List.getElem?_cons_zero, List.getElem?_cons_succ, List.take_succ_cons, List.take_zero, List.take_nil, List.drop_succ_cons, List.drop_zero, List.cons_append, List.nil_append, List.set_cons_zero, List.set_cons_succ, List.head?_cons, Nat.reduceAdd, Nat.reduceEqDiff, Nat.reduceMul, Nat.reduceLT, Nat.reduceLeDiff, Int.reduceLE, Int.reduceToNat, reduceCtorEq, decide_true, Bool.and_self, Bool.false_eq_true, and_self, ne_eq, not_false_eq_true, List.cons_ne_nil, Nat.zero_add, Nat.add_zero, eq_self, hset]
    · simp only [qdh, ha, hlt, qax, qar, qah, qb0, Nat.reduceLT, Ev.qm, Ev.exec, Ev.qb, Ev.qe, Ev.qc, Ev.qaf, Ev.Opnd.ev, Ev.Env.get, Ev.Env.set, Ev.look, Ev.qn, Ev.qi, Ev.qab, Ev.AV.cells, Ev.qv, Ev.AV.plain, Ev.qo, Ev.ql, Ev.qw, Ev.qae, Ev.kill, Ev.qad, Ev.qd, Ev.SObj.lo, Ev.qa4, Ev.qy, Ev.qb8, Ev.qj, Ev.qk, Ev.qac, Ev.qaq, ↓Ev.qq, ↓reduceIte, List.length_cons, List.length_nil, List.getElem?_cons_zero, List.getElem?_cons_succ, List.take_succ_cons, List.take_nil, List.drop_succ_cons, List.drop_zero, List.head?_cons, Nat.reduceAdd, Nat.reduceEqDiff, Nat.reduceMul, Nat.reduceLT, Int.reduceLE, Int.reduceToNat, reduceCtorEq, decide_true, decide_false, Bool.and_self, Bool.false_eq_true, and_self, ne_eq, not_false_eq_true, List.cons_ne_nil, Nat.zero_add, Nat.add_zero, eq_self]
  · have h01 : ¬ (1 : Int) = 0 := by decide
    by_cases hlt : x.r1 < op.b
    · simp only [qdh, ha, h01, hlt, Ex.setP, h1, hl, List.getElem?_map, Option.map_some, hq, Pr.r, qax, qar, qah, qb0, Nat.reduceLT, Nat.reduceLeDiff, Ev.qm, Ev.exec, Ev.qb, Ev.qe, Ev.qc, Ev.qd0, Ev.qaf, Ev.evs, Ev.Opnd.ev, Ev.Env.get, Ev.Env.set, Ev.look, Ev.qn, Ev.qi, Ev.qab, Ev.AV.cells, Ev.AV.uc, Ev.qv, Ev.AV.plain, Ev.qo, Ev.ql, Ev.qw, Ev.qae, Ev.kill, Ev.qad, Ev.qd, Ev.SObj.lo, Ev.qa4, Ev.qy, Ev.qb8, Ev.qj, Ev.qk, Ev.qac, Ev.qaq, ↓Ev.qq, ↓reduceIte, List.length_cons, List.length_nil, List.getElem?_cons_zero, List.getElem?_cons_succ, List.take_succ_cons, List.take_zero, List.take_nil, List.drop_succ_cons, List.drop_zero, List.cons_append, List.nil_append, List.set_cons_zero, List.set_cons_succ, List.head?_cons, Nat.reduceAdd, Nat.reduceEqDiff, Nat.reduceMul, Nat.reduceLT, Nat.reduceLeDiff, Int.reduceLE, Int.reduceToNat, reduceCtorEq, decide_true, Bool.and_self, Bool.false_eq_true, and_self, ne_eq, not_false_eq_true, List.cons_ne_nil, Nat.zero_add, Nat.add_zero, Nat.lt_add_one, eq_self, hset]
    · simp only [qdh, ha, h01, hlt, qax, qar, qah, qb0, Nat.reduceLT, Ev.qm, Ev.exec, Ev.qb, Ev.qe, Ev.qc, Ev.qaf, Ev.Opnd.ev, Ev.Env.get, Ev.Env.set, Ev.look, Ev.qn, Ev.qi, Ev.qab, Ev.AV.cells, Ev.qv, Ev.AV.plain, Ev.qo, Ev.ql, Ev.qw, Ev.qae, Ev.kill, Ev.qad, Ev.qd, Ev.SObj.lo, Ev.qa4, Ev.qy, Ev.qb8, Ev.qj, Ev.qk, Ev.qac, Ev.qaq, ↓Ev.qq, ↓reduceIte, List.length_cons, List.length_nil, List.getElem?_cons_zero, List.getElem?_cons_succ, List.take_succ_cons, List.take_nil, List.drop_succ_cons, List.drop_zero, List.head?_cons, Nat.reduceAdd, Nat.reduceEqDiff, Nat.reduceMul, Nat.reduceLT, Int.reduceLE, Int.reduceToNat, reduceCtorEq, decide_true, decide_false, Bool.and_self, Bool.false_eq_true, and_self, ne_eq, not_false_eq_true, List.cons_ne_nil, Nat.zero_add, Nat.add_zero, Nat.lt_add_one, eq_self]
theorem q7m (h : x.Small) : (evL T).call qcd [.ptr 5 0 0 0, (.agg [(.v (.int .i64 (op.code))), (.v (.int .i64 (op.a))), (.v (.int .i64 (op.b))), (.v (.int .i64 (op.c)))])] [.row 4 [[(.v (.int .i64 (a0))), (.v (.int .i64 (a1))), .sl 2 0 0 am false, (.v (.int .i64 (a2)))]] 0, .row 4 [[(.v (.int .i64 (0))), (.v (.int .i64 (0))), .fsl [] false, (.v (.int .i64 (0)))]] 0, .row 4 ((x.procs).map Pr.r) gp, .row 6 ((x.out).map Evt.r) gc, .row 1 ((x.gone).map qfe) gg, .row 14 [[(.v (.int .i64 (x.r0))), (.v (.int .i64 (x.r1))), .sl 2 gp 0 x.procs.length false, (.v (.int .i64 (x.sum))), (.v (.int .i64 (x.ev.time))), (.fsl ((x.ev.key).map qcp) false), (.v (.int .i64 (x.ev.lp))), (.v (.int .i64 (x.ev.kind))), (.v (.int .i64 (x.ev.proc))), (.v (.int .i64 (x.ev.arg))), .sl 3 gc 0 x.out.length false, (.v (.int .i64 (x.n))), .sl 4 gg 0 x.gone.length false, (.v (.bool (x.over)))]] 0, .mp .i64 qf1] = some ((.v (.int .i64 (0))), [.row 4 [[(.v (.int .i64 (a0))), (.v (.int .i64 (a1))), .sl 2 0 0 am false, (.v (.int .i64 (a2)))]] 0, .row 4 [[(.v (.int .i64 (0))), (.v (.int .i64 (0))), .fsl [] false, (.v (.int .i64 (0)))]] 0, .row 4 (((x.stopE i q).procs).map Pr.r) gp, .row 6 (((x.stopE i q).out).map Evt.r) gc, .row 1 (((x.stopE i q).gone).map qfe) (if 0 < q.timer.length then gg + 1 else gg), .row 14 [[(.v (.int .i64 ((x.stopE i q).r0))), (.v (.int .i64 ((x.stopE i q).r1))), .sl 2 gp 0 (x.stopE i q).procs.length false, (.v (.int .i64 ((x.stopE i q).sum))), (.v (.int .i64 ((x.stopE i q).ev.time))), (.fsl (((x.stopE i q).ev.key).map qcp) false), (.v (.int .i64 ((x.stopE i q).ev.lp))), (.v (.int .i64 ((x.stopE i q).ev.kind))), (.v (.int .i64 ((x.stopE i q).ev.proc))), (.v (.int .i64 ((x.stopE i q).ev.arg))), .sl 3 gc 0 (x.stopE i q).out.length false, (.v (.int .i64 ((x.stopE i q).n))), .sl 4 (if 0 < q.timer.length then gg + 1 else gg) 0 (x.stopE i q).gone.length false, (.v (.bool ((x.stopE i q).over)))]] 0, .mp .i64 qf1]) := by
  have hp := (List.getElem?_eq_some_iff.1 hq).1
  have h1 := qrw a0 a1 a2 am x gp gc gg i hi hp
  have hset : (x.procs.map Pr.r).set i [(.v (.int .i64 (q.prog))), (.v (.int .i64 (q.pc))), (.v (.bool (q.alive))), .fsl [] false] = (x.procs.set i { q with timer := [] }).map Pr.r := by rw [List.map_set]; rfl
  have hl : (x.procs.set i { q with timer := [] }).length = x.procs.length := by simp
  have hs : (x.gone.length + 1) * 24 ≤ 140737488355328 := by have := h.gone; omega
  have htl : List.take x.gone.length (x.gone.map qfe) = x.gone.map qfe := List.take_of_length_le (by simp)
  have hr : ∀ e : List Int, (x.gone ++ [e]).map qfe = x.gone.map qfe ++ [qfe e] := fun e => by rw [List.map_append]; rfl
  rw [qu qno qms]
  unfold Ex.stopE
  by_cases ht : 0 < q.timer.length
  · have ht' : (q.timer.length : Int) > 0 := by omega
    simp only [qey, ht, ht', h1, hl, hs, htl, hr, qn4, qfe, List.getElem?_map, Option.map_some, hq, Pr.r, qax, qar, qah, qb0, Nat.reduceLT, Nat.reduceLeDiff, Ev.qm, Ev.exec, Ev.qb, Ev.qe, Ev.qc, Ev.qd0, Ev.qaf, Ev.qvy, Ev.evs, Ev.Opnd.ev, Ev.Env.get, Ev.Env.set, Ev.look, Ev.qn, Ev.qi, Ev.qd5, Ev.qab, Ev.qjo, Ev.AV.cells, Ev.AV.uc, Ev.qv, Ev.AV.plain, Ev.qau, Ev.ql, Ev.qw, Ev.qae, Ev.kill, Ev.qad, Ev.qd, Ev.SObj.lo, Ev.qa4, Ev.qy, Ev.qb8, Ev.qj, Ev.qk, Ev.qac, Ev.qaq, Ev.qd8, Ev.qed, List.replicate_one, List.length_map, ↓Ev.qq, ↓reduceIte, List.length_cons, List.length_nil, List.length_append, List.getElem?_cons_zero, List.getElem?_cons_succ, List.take_succ_cons, List.take_zero, List.take_nil, List.drop_succ_cons, List.drop_zero, List.drop_nil, List.cons_append, List.nil_append, List.append_nil, List.set_cons_zero, List.set_cons_succ, List.head?_cons, Nat.reduceAdd, Nat.reduceEqDiff, Nat.reduceMul, Nat.reduceLT, Nat.reduceLeDiff, Nat.reducePow, reduceCtorEq, decide_true, Bool.and_self, Bool.false_eq_true, and_self, ne_eq, not_false_eq_true, List.cons_ne_nil, Nat.zero_add, Nat.lt_add_one, Nat.le_refl, eq_self, hset]
  · have ht' : ¬ (q.timer.length : Int) > 0 := by omega
    simp only [qey, ht, ht', h1, List.getElem?_map, Option.map_some, hq, Pr.r, qax, qar, qah, qb0, Nat.reduceLT, Ev.qm, Ev.exec, Ev.qb, Ev.qe, Ev.qc, Ev.qd0, Ev.qaf, Ev.evs, Ev.Opnd.ev, Ev.Env.get, Ev.Env.set, Ev.look, Ev.qn, Ev.qi, Ev.qab, Ev.AV.cells, Ev.qv, Ev.AV.plain, Ev.qau, Ev.ql, Ev.qw, Ev.qae, Ev.kill, Ev.qad, Ev.qd, Ev.SObj.lo, Ev.qa4, Ev.qy, Ev.qb8, Ev.qj, Ev.qk, Ev.qac, Ev.qaq, List.length_map, ↓Ev.qq, ↓reduceIte, List.length_cons, List.length_nil, List.getElem?_cons_zero, List.getElem?_cons_succ, List.take_succ_cons, List.take_nil, List.drop_succ_cons, List.drop_zero, List.head?_cons, Nat.reduceAdd, Nat.reduceLT, reduceCtorEq, decide_true, decide_false, Bool.and_self, Bool.false_eq_true, and_self, ne_eq, not_false_eq_true, List.cons_ne_nil, Nat.zero_add, eq_self]
def Ex.spawnE (x : Ex) (op : OpI) : Ex := if x.procs.length < 8 then ({ x with procs := x.procs ++ [⟨op.a, 0, true, []⟩] } : Ex).create op.b (x.ownE 1 x.procs.length 0) else x
omit hi hq in
theorem spawn_ev (h : x.Small) : ∃ gp' gc', (evL T).call qch [.ptr 5 0 0 0, (.agg [(.v (.int .i64 (op.code))), (.v (.int .i64 (op.a))), (.v (.int .i64 (op.b))), (.v (.int .i64 (op.c)))])] [.row 4 [[(.v (.int .i64 (a0))), (.v (.int .i64 (a1))), .sl 2 0 0 am false, (.v (.int .i64 (a2)))]] 0, .row 4 [[(.v (.int .i64 (0))), (.v (.int .i64 (0))), .fsl [] false, (.v (.int .i64 (0)))]] 0, .row 4 ((x.procs).map Pr.r) gp, .row 6 ((x.out).map Evt.r) gc, .row 1 ((x.gone).map qfe) gg, .row 14 [[(.v (.int .i64 (x.r0))), (.v (.int .i64 (x.r1))), .sl 2 gp 0 x.procs.length false, (.v (.int .i64 (x.sum))), (.v (.int .i64 (x.ev.time))), (.fsl ((x.ev.key).map qcp) false), (.v (.int .i64 (x.ev.lp))), (.v (.int .i64 (x.ev.kind))), (.v (.int .i64 (x.ev.proc))), (.v (.int .i64 (x.ev.arg))), .sl 3 gc 0 x.out.length false, (.v (.int .i64 (x.n))), .sl 4 gg 0 x.gone.length false, (.v (.bool (x.over)))]] 0, .mp .i64 qf1] = some ((.v (.int .i64 (0))), [.row 4 [[(.v (.int .i64 (a0))), (.v (.int .i64 (a1))), .sl 2 0 0 am false, (.v (.int .i64 (a2)))]] 0, .row 4 [[(.v (.int .i64 (0))), (.v (.int .i64 (0))), .fsl [] false, (.v (.int .i64 (0)))]] 0, .row 4 (((x.spawnE op).procs).map Pr.r) gp', .row 6 (((x.spawnE op).out).map Evt.r) gc', .row 1 (((x.spawnE op).gone).map qfe) gg, .row 14 [[(.v (.int .i64 ((x.spawnE op).r0))), (.v (.int .i64 ((x.spawnE op).r1))), .sl 2 gp' 0 (x.spawnE op).procs.length false, (.v (.int .i64 ((x.spawnE op).sum))), (.v (.int .i64 ((x.spawnE op).ev.time))), (.fsl (((x.spawnE op).ev.key).map qcp) false), (.v (.int .i64 ((x.spawnE op).ev.lp))), (.v (.int .i64 ((x.spawnE op).ev.kind))), (.v (.int .i64 ((x.spawnE op).ev.proc))), (.v (.int .i64 ((x.spawnE op).ev.arg))), .sl 3 gc' 0 (x.spawnE op).out.length false, (.v (.int .i64 ((x.spawnE op).n))), .sl 4 gg 0 (x.spawnE op).gone.length false, (.v (.bool ((x.spawnE op).over)))]] 0, .mp .i64 qf1]) := by
  rw [qu qmv qmm]
  unfold Ex.spawnE
  by_cases h8 : x.procs.length < 8
  · have h8' : (x.procs.length : Int) < 8 := by omega
    have hs : (x.procs.length + 1) * 48 ≤ 140737488355328 := by omega
    have htl : List.take x.procs.length (x.procs.map Pr.r) = x.procs.map Pr.r := List.take_of_length_le (by simp)
    have hr : ∀ e : Pr, (x.procs ++ [e]).map Pr.r = x.procs.map Pr.r ++ [e.r] := fun e => by rw [List.map_append]; rfl
    have hl : ∀ e : Pr, (x.procs ++ [e]).length = x.procs.length + 1 := fun e => by simp
    have hsm : ({ x with procs := x.procs ++ [⟨op.a, 0, true, []⟩] } : Ex).Small := ⟨by simp; omega, h.out, h.gone, h.key⟩
    have h1 := q8h a0 a1 a2 am { x with procs := x.procs ++ [⟨op.a, 0, true, []⟩] } (gp + 1) gc gg 1 x.procs.length 0
    have h2 := qtg a0 a1 a2 am { x with procs := x.procs ++ [⟨op.a, 0, true, []⟩] } (gp + 1) gc gg hsm op.b 0 x.ev.lp 1 x.procs.length 0 []
    refine ⟨gp + 1, qlv { x with procs := x.procs ++ [⟨op.a, 0, true, []⟩] } op.b gc, ?_⟩
    simp only [hr, hl, Pr.r, List.map_nil] at h1 h2
    simp only [qen, h8, h8', h1, h2, hs, htl, Ex.ownE, qax, qar, qah, qb0, Nat.reduceLT, Nat.reduceLeDiff, Ev.qm, Ev.exec, Ev.qb, Ev.qe, Ev.qc, Ev.qd0, Ev.qaf, Ev.qvy, Ev.evs, Ev.Opnd.ev, Ev.Env.get, Ev.Env.set, Ev.look, Ev.qn, Ev.qi, Ev.qd5, Ev.qab, Ev.qff, Ev.qjo, Ev.AV.cells, Ev.AV.uc, Ev.qv, Ev.AV.plain, Ev.qo, Ev.ql, Ev.qw, Ev.qae, Ev.kill, Ev.qad, Ev.qd, Ev.SObj.lo, Ev.qa4, Ev.qy, Ev.qb8, Ev.qj, Ev.qk, Ev.qac, Ev.qaq, Ev.qd8, Ev.qed, List.replicate_one, List.length_map, ↓Ev.qq, ↓reduceIte, List.length_cons, List.length_nil, List.getElem?_cons_zero, List.getElem?_cons_succ, List.take_succ_cons, List.take_zero, List.take_nil, List.drop_succ_cons, List.drop_zero, List.cons_append, List.nil_append, List.set_cons_zero, List.set_cons_succ, List.head?_cons, Nat.reduceAdd, Nat.reduceEqDiff, Nat.reduceMul, Nat.reduceLT, Nat.reduceLeDiff, Nat.reducePow, reduceCtorEq, decide_true, Bool.and_self, Bool.false_eq_true, and_self, ne_eq, not_false_eq_true, List.cons_ne_nil, Nat.zero_add, Nat.add_zero, Nat.lt_add_one, Nat.le_refl, eq_self]
  · have h8' : ¬ (x.procs.length : Int) < 8 := by omega
    refine ⟨gp, gc, ?_⟩
    simp only [qen, h8, h8', qax, qar, qah, qb0, Nat.reduceLT, Ev.qm, Ev.exec, Ev.qb, Ev.qe, Ev.qc, Ev.qaf, Ev.Opnd.ev, Ev.Env.get, Ev.Env.set, Ev.look, Ev.qn, Ev.qi, Ev.qab, Ev.AV.cells, Ev.qv, Ev.AV.plain, Ev.qo, Ev.ql, Ev.qw, Ev.qae, Ev.kill, Ev.qad, Ev.qd, Ev.SObj.lo, Ev.qa4, Ev.qy, Ev.qb8, Ev.qj, Ev.qk, Ev.qac, Ev.qaq, ↓Ev.qq, ↓reduceIte, List.length_cons, List.length_nil, List.getElem?_cons_zero, List.getElem?_cons_succ, List.take_succ_cons, List.take_nil, List.drop_succ_cons, List.drop_zero, List.head?_cons, Nat.reduceAdd, Nat.reduceLT, reduceCtorEq, decide_true, decide_false, Bool.and_self, Bool.false_eq_true, and_self, ne_eq, not_false_eq_true, List.cons_ne_nil, Nat.zero_add, Nat.add_zero, eq_self]
def Ex.timerE (x : Ex) (i : Nat) (q : Pr) (op : OpI) : Ex := ((x.stopE i q).create op.a (x.ownE 2 x.ev.proc op.b)).setP i { q with timer := (x.stopE i q).kid }
theorem timer_ev (h : x.Small) (hg : x.gone.length < 1000) : ∃ gc' gg', (evL T).call qci [.ptr 5 0 0 0, (.agg [(.v (.int .i64 (op.code))), (.v (.int .i64 (op.a))), (.v (.int .i64 (op.b))), (.v (.int .i64 (op.c)))])] [.row 4 [[(.v (.int .i64 (a0))), (.v (.int .i64 (a1))), .sl 2 0 0 am false, (.v (.int .i64 (a2)))]] 0, .row 4 [[(.v (.int .i64 (0))), (.v (.int .i64 (0))), .fsl [] false, (.v (.int .i64 (0)))]] 0, .row 4 ((x.procs).map Pr.r) gp, .row 6 ((x.out).map Evt.r) gc, .row 1 ((x.gone).map qfe) gg, .row 14 [[(.v (.int .i64 (x.r0))), (.v (.int .i64 (x.r1))), .sl 2 gp 0 x.procs.length false, (.v (.int .i64 (x.sum))), (.v (.int .i64 (x.ev.time))), (.fsl ((x.ev.key).map qcp) false), (.v (.int .i64 (x.ev.lp))), (.v (.int .i64 (x.ev.kind))), (.v (.int .i64 (x.ev.proc))), (.v (.int .i64 (x.ev.arg))), .sl 3 gc 0 x.out.length false, (.v (.int .i64 (x.n))), .sl 4 gg 0 x.gone.length false, (.v (.bool (x.over)))]] 0, .mp .i64 qf1] = some ((.v (.int .i64 (0))), [.row 4 [[(.v (.int .i64 (a0))), (.v (.int .i64 (a1))), .sl 2 0 0 am false, (.v (.int .i64 (a2)))]] 0, .row 4 [[(.v (.int .i64 (0))), (.v (.int .i64 (0))), .fsl [] false, (.v (.int .i64 (0)))]] 0, .row 4 (((x.timerE i q op).procs).map Pr.r) gp, .row 6 (((x.timerE i q op).out).map Evt.r) gc', .row 1 (((x.timerE i q op).gone).map qfe) gg', .row 14 [[(.v (.int .i64 ((x.timerE i q op).r0))), (.v (.int .i64 ((x.timerE i q op).r1))), .sl 2 gp 0 (x.timerE i q op).procs.length false, (.v (.int .i64 ((x.timerE i q op).sum))), (.v (.int .i64 ((x.timerE i q op).ev.time))), (.fsl (((x.timerE i q op).ev.key).map qcp) false), (.v (.int .i64 ((x.timerE i q op).ev.lp))), (.v (.int .i64 ((x.timerE i q op).ev.kind))), (.v (.int .i64 ((x.timerE i q op).ev.proc))), (.v (.int .i64 ((x.timerE i q op).ev.arg))), .sl 3 gc' 0 (x.timerE i q op).out.length false, (.v (.int .i64 ((x.timerE i q op).n))), .sl 4 gg' 0 (x.timerE i q op).gone.length false, (.v (.bool ((x.timerE i q op).over)))]] 0, .mp .i64 qf1]) := by
  have h0 := q7m a0 a1 a2 am x gp gc gg op i q hi hq h
  have hev : (x.stopE i q).ev = x.ev := by unfold Ex.stopE; split <;> rfl
  have hpl : (x.stopE i q).procs.length = x.procs.length := by unfold Ex.stopE; split <;> simp
  have hp := (List.getElem?_eq_some_iff.1 hq).1
  have hsm : (x.stopE i q).Small := ⟨by rw [hpl]; exact h.procs, by unfold Ex.stopE; split <;> exact h.out, by
    unfold Ex.stopE; split
    · simp only [List.length_append, List.length_cons, List.length_nil]; omega
    · exact h.gone, by rw [hev]; exact h.key⟩
  generalize (if 0 < q.timer.length then gg + 1 else gg) = gg' at h0
  have hset2 : ∀ k : List Int, (x.stopE i q).procs.set i { q with timer := k } = x.procs.set i { q with timer := k } := fun k => by
    unfold Ex.stopE; split <;> simp
  have hq2 : ∃ q2, (x.stopE i q).procs[i]? = some q2 ∧ q2.prog = q.prog ∧ q2.pc = q.pc ∧ q2.alive = q.alive := by
    by_cases ht : 0 < q.timer.length
    · simp only [Ex.stopE, ht, if_true]
      exact ⟨{ q with timer := [] }, by rw [List.getElem?_set_self hp], rfl, rfl, rfl⟩
    · simp only [Ex.stopE, ht, if_false]
      exact ⟨q, hq, rfl, rfl, rfl⟩
  unfold Ex.timerE
  generalize x.stopE i q = y at h0 hev hpl hsm hset2 hq2
  obtain ⟨q2, hq2, e1, e2, e3⟩ := hq2
  have hi2 : y.ev.proc = i := by rw [hev]; exact hi
  have h1 := qrw a0 a1 a2 am y gp gc gg' i hi2 (by omega)
  have h2 := q8h a0 a1 a2 am y gp gc gg' 2 y.ev.proc op.b
  have h3 := qtg a0 a1 a2 am y gp gc gg' hsm op.a 0 y.ev.lp 2 y.ev.proc op.b []
  refine ⟨qlv y op.a gc, gg', ?_⟩
  have hcp : (y.create op.a ⟨0, [], y.ev.lp, 2, y.ev.proc, op.b⟩).procs = y.procs := rfl
  simp only [Ex.ownE, Ex.setP, ← hev] at h0 ⊢
  generalize qlv y op.a gc = gc' at h3
  generalize y.create op.a ⟨0, [], y.ev.lp, 2, y.ev.proc, op.b⟩ = z at h3 hcp
  have hset : (y.procs.map Pr.r).set i [(.v (.int .i64 (q2.prog))), (.v (.int .i64 (q2.pc))), (.v (.bool (q2.alive))), (.fsl ((y.kid).map qcp) false)] = (y.procs.set i { q with timer := y.kid }).map Pr.r := by rw [List.map_set, e1, e2, e3]; rfl
  have hl : (y.procs.set i { q with timer := y.kid }).length = y.procs.length := by simp
  rw [qu qmw qme]
  simp only [List.map_nil, hcp] at h3
  simp only [qfr, h0, h1, h2, h3, hcp, hl, List.getElem?_map, Option.map_some, hq2, Pr.r, eq_procs, eq_evts, eq_keys, q1u, eq_table, qax, qar, qah, qb0, Nat.reduceLT, Ev.qm, Ev.exec, Ev.qb, Ev.qe, Ev.qc, Ev.qd0, Ev.item_R, Ev.qrm, Ev.SObj.eqB, Ev.q27, Ev.q0e, Ev.qt8, Ev.qrj, Ev.q05, Ev.q5a, Ev.q1s, Ev.eqB_sl, Ev.qaf, Ev.evs, Ev.Opnd.ev, Ev.Env.get, Ev.Env.set, Ev.look, Ev.qn, Ev.qi, Ev.qab, Ev.AV.cells, Ev.AV.uc, Ev.qv, Ev.AV.plain, Ev.ql, Ev.qw, Ev.qae, Ev.kill, Ev.qad, Ev.qd, Ev.SObj.lo, Ev.qa4, Ev.qy, Ev.qb8, Ev.qj, Ev.qk, Ev.qac, Ev.qaq, ↓Ev.qq, ↓reduceIte, List.length_cons, List.length_nil, List.getElem?_cons_zero, List.getElem?_cons_succ, List.take_succ_cons, List.take_zero, List.take_nil, List.drop_succ_cons, List.drop_zero, List.drop_nil, List.cons_append, List.nil_append, List.append_nil, List.set_cons_zero, List.set_cons_succ, List.head?_cons, Nat.reduceAdd, Nat.reduceEqDiff, Nat.reduceLT, reduceCtorEq, decide_true, Bool.and_self, Bool.false_eq_true, and_self, ne_eq, not_false_eq_true, List.cons_ne_nil, Nat.zero_add, Nat.le_refl, eq_self, beq_self_eq_true, hset]
end
end
set_option maxRecDepth 10000
def qdp (x : Ex) (i : Nat) (q : Pr) (op : OpI) : Ex × Int :=
  if op.code = 1 then (x.create op.a (x.ownE 1 x.ev.proc 0), 1)
  else if op.code = 2 then (x.create op.c ⟨0, [], op.a, 3, 0, op.b⟩, 0)
  else if op.code = 3 then (x.timerE i q op, 0)
  else if op.code = 4 then (x.stopE i q, 0)
  else if op.code = 5 then (x.spawnE op, 0)
  else if op.code = 6 then (x.setReg op.a (w64 (x.reg op.a + op.b)), 0)
  else if op.code = 7 then (if x.reg op.a < op.b then x.setP i { q with pc := op.c } else x, 0)
  else (x, 2)
structure OpOk' (op : OpI) : Prop where
  code : 1 ≤ op.code ∧ op.code ≤ 8
  reg : op.code = 6 ∨ op.code = 7 → op.a = 0 ∨ op.a = 1
  to : op.code = 7 → 0 ≤ op.c ∧ op.c ≤ 1000000
section
variable (a0 a1 a2 : Int) (am : Nat) (x : Ex) (gp gc gg : Nat) (op : OpI) (i : Nat) (q : Pr)
theorem step_ev (h : x.Small) (hg : x.gone.length < 1000) (hi : x.ev.proc = i) (hq : x.procs[i]? = some q) (ho : OpOk' op) :
    ∃ k gp' gc' gg', getL op.code qf1 = some (.fn (.func k) [] []) ∧ (evL T).call k [.ptr 5 0 0 0, (.agg [(.v (.int .i64 (op.code))), (.v (.int .i64 (op.a))), (.v (.int .i64 (op.b))), (.v (.int .i64 (op.c)))])] [.row 4 [[(.v (.int .i64 (a0))), (.v (.int .i64 (a1))), .sl 2 0 0 am false, (.v (.int .i64 (a2)))]] 0, .row 4 [[(.v (.int .i64 (0))), (.v (.int .i64 (0))), .fsl [] false, (.v (.int .i64 (0)))]] 0, .row 4 ((x.procs).map Pr.r) gp, .row 6 ((x.out).map Evt.r) gc, .row 1 ((x.gone).map qfe) gg, .row 14 [[(.v (.int .i64 (x.r0))), (.v (.int .i64 (x.r1))), .sl 2 gp 0 x.procs.length false, (.v (.int .i64 (x.sum))), (.v (.int .i64 (x.ev.time))), (.fsl ((x.ev.key).map qcp) false), (.v (.int .i64 (x.ev.lp))), (.v (.int .i64 (x.ev.kind))), (.v (.int .i64 (x.ev.proc))), (.v (.int .i64 (x.ev.arg))), .sl 3 gc 0 x.out.length false, (.v (.int .i64 (x.n))), .sl 4 gg 0 x.gone.length false, (.v (.bool (x.over)))]] 0, .mp .i64 qf1] = some ((.v (.int .i64 ((qdp x i q op).2))), [.row 4 [[(.v (.int .i64 (a0))), (.v (.int .i64 (a1))), .sl 2 0 0 am false, (.v (.int .i64 (a2)))]] 0, .row 4 [[(.v (.int .i64 (0))), (.v (.int .i64 (0))), .fsl [] false, (.v (.int .i64 (0)))]] 0, .row 4 (((qdp x i q op).1.procs).map Pr.r) gp', .row 6 (((qdp x i q op).1.out).map Evt.r) gc', .row 1 (((qdp x i q op).1.gone).map qfe) gg', .row 14 [[(.v (.int .i64 ((qdp x i q op).1.r0))), (.v (.int .i64 ((qdp x i q op).1.r1))), .sl 2 gp' 0 (qdp x i q op).1.procs.length false, (.v (.int .i64 ((qdp x i q op).1.sum))), (.v (.int .i64 ((qdp x i q op).1.ev.time))), (.fsl (((qdp x i q op).1.ev.key).map qcp) false), (.v (.int .i64 ((qdp x i q op).1.ev.lp))), (.v (.int .i64 ((qdp x i q op).1.ev.kind))), (.v (.int .i64 ((qdp x i q op).1.ev.proc))), (.v (.int .i64 ((qdp x i q op).1.ev.arg))), .sl 3 gc' 0 (qdp x i q op).1.out.length false, (.v (.int .i64 ((qdp x i q op).1.n))), .sl 4 gg' 0 (qdp x i q op).1.gone.length false, (.v (.bool ((qdp x i q op).1.over)))]] 0, .mp .i64 qf1]) := by
  have hc : op.code = 1 ∨ op.code = 2 ∨ op.code = 3 ∨ op.code = 4 ∨ op.code = 5 ∨ op.code = 6 ∨ op.code = 7 ∨ op.code = 8 := by have := ho.code; omega
  have ne : ∀ m n : Int, decide (m = n) = false → ¬ m = n := fun m n h => of_decide_eq_false h
  rcases hc with hc | hc | hc | hc | hc | hc | hc | hc
  · refine ⟨qct, gp, qlv x op.a gc, gg, by rw [hc]; rfl, ?_⟩
    have e : qdp x i q op = (x.create op.a (x.ownE 1 x.ev.proc 0), 1) := by simp [qdp, hc]
    rw [e]; exact hold_ev a0 a1 a2 am x gp gc gg op h
  · refine ⟨qcs, gp, qlv x op.c gc, gg, by rw [hc]; rfl, ?_⟩
    have e : qdp x i q op = (x.create op.c ⟨0, [], op.a, 3, 0, op.b⟩, 0) := by simp [qdp, hc]
    rw [e]; exact send_ev a0 a1 a2 am x gp gc gg op h
  · obtain ⟨gc', gg', hz⟩ := timer_ev a0 a1 a2 am x gp gc gg op i q hi hq h hg
    refine ⟨qci, gp, gc', gg', by rw [hc]; rfl, ?_⟩
    have e : qdp x i q op = (x.timerE i q op, 0) := by simp [qdp, hc]
    rw [e]; exact hz
  · refine ⟨qcd, gp, gc, (if 0 < q.timer.length then gg + 1 else gg), by rw [hc]; rfl, ?_⟩
    have e : qdp x i q op = (x.stopE i q, 0) := by simp [qdp, hc]
    rw [e]; exact q7m a0 a1 a2 am x gp gc gg op i q hi hq h
  · obtain ⟨gp', gc', hz⟩ := spawn_ev a0 a1 a2 am x gp gc gg op h
    refine ⟨qch, gp', gc', gg, by rw [hc]; rfl, ?_⟩
    have e : qdp x i q op = (x.spawnE op, 0) := by simp [qdp, hc]
    rw [e]; exact hz
  · refine ⟨qc0, gp, gc, gg, by rw [hc]; rfl, ?_⟩
    have e : qdp x i q op = (x.setReg op.a (w64 (x.reg op.a + op.b)), 0) := by simp [qdp, hc]
    rw [e]; exact add_ev a0 a1 a2 am x gp gc gg op (ho.reg (.inl hc))
  · refine ⟨qcr, gp, gc, gg, by rw [hc]; rfl, ?_⟩
    have e : qdp x i q op = (if x.reg op.a < op.b then x.setP i { q with pc := op.c } else x, 0) := by simp [qdp, hc]
    rw [e]; exact less_ev a0 a1 a2 am x gp gc gg op i q hi hq (ho.reg (.inr hc))
  · refine ⟨qc3, gp, gc, gg, by rw [hc]; rfl, ?_⟩
    have e : qdp x i q op = (x, 2) := by simp [qdp, hc]
    rw [e]; exact end_ev a0 a1 a2 am x gp gc gg op
end
def qlg (x : Ex) (i : Nat) : Ex := match x.procs[i]? with
  | some q => x.setP i { q with alive := false }
  | none => x
def qki (p : List OpI) (i : Nat) : Nat → Ex → Ex
  | 0, x => qlg x i
  | n + 1, x => match x.procs[i]? with
    | none => x
    | some q => match p[q.pc.toNat]? with
      | none => qlg x i
      | some op =>
        if (qdp (x.setP i { q with pc := w64 (q.pc + 1) }) i { q with pc := w64 (q.pc + 1) } op).2 = 1 then (qdp (x.setP i { q with pc := w64 (q.pc + 1) }) i { q with pc := w64 (q.pc + 1) } op).1
        else if (qdp (x.setP i { q with pc := w64 (q.pc + 1) }) i { q with pc := w64 (q.pc + 1) } op).2 = 2 then qlg (qdp (x.setP i { q with pc := w64 (q.pc + 1) }) i { q with pc := w64 (q.pc + 1) } op).1 i
        else qki p i n (qdp (x.setP i { q with pc := w64 (q.pc + 1) }) i { q with pc := w64 (q.pc + 1) } op).1
structure ActInv (e : Evt) (i n : Nat) (x : Ex) : Prop where
  ev : x.ev = e
  has : ∃ q, x.procs[i]? = some q ∧ 0 ≤ q.pc ∧ q.pc ≤ 1000000
  procs : x.procs.length ≤ 20
  out : x.out.length ≤ n
  gone : x.gone.length ≤ n
theorem ActInv.small {e : Evt} {i n : Nat} {x : Ex} (h : ActInv e i n x) (hn : n ≤ 100) (hk : e.key.length ≤ 1000) : x.Small := ⟨by have := h.procs; omega, by have := h.out; omega, by have := h.gone; omega, by rw [h.ev]; exact hk⟩
theorem q6p (x : Ex) (d : Int) (e : Evt) : (x.create d e).out.length ≤ x.out.length + 1 := by
  unfold Ex.create; simp only; split
  · omega
  · simp
theorem ActInv.step {e : Evt} {i n : Nat} {x : Ex} (h : ActInv e i n x) {q : Pr} (hq : x.procs[i]? = some q) (hpc : 0 ≤ q.pc ∧ q.pc ≤ 1000000) {op : OpI} (ho : OpOk' op) : ActInv e i (n + 1) (qdp x i q op).1 := by
  have hlt := (List.getElem?_eq_some_iff.1 hq).1
  have hp := h.procs
  have h1 := h.out
  have h2 := h.gone
  have stop : ActInv e i (n + 1) (x.stopE i q) ∧ (x.stopE i q).out = x.out := by
    unfold Ex.stopE; split
    · exact ⟨⟨h.ev, ⟨{ q with timer := [] }, by simp only; rw [List.getElem?_set_self hlt], hpc⟩, by simpa using hp, by simp only; omega, by simp; omega⟩, rfl⟩
    · exact ⟨⟨h.ev, ⟨q, hq, hpc⟩, hp, by omega, by omega⟩, rfl⟩
  have crt : ∀ (y : Ex) (d : Int) (ev : Evt), y.ev = e → (∃ q, y.procs[i]? = some q ∧ 0 ≤ q.pc ∧ q.pc ≤ 1000000) → y.procs.length ≤ 20 → y.out.length ≤ n → y.gone.length ≤ n + 1 → ActInv e i (n + 1) (y.create d ev) := fun y d ev k1 k2 k3 k4 k5 =>
    ⟨k1, k2, k3, by have := q6p y d ev; omega, k5⟩
  unfold qdp
  split
  · exact crt x _ _ h.ev ⟨q, hq, hpc⟩ hp h1 (by omega)
  split
  · exact crt x _ _ h.ev ⟨q, hq, hpc⟩ hp h1 (by omega)
  split
  · obtain ⟨s1, s2⟩ := stop
    have hc := crt (x.stopE i q) op.a (x.ownE 2 x.ev.proc op.b) s1.ev s1.has s1.procs (by rw [s2]; exact h1) s1.gone
    have hl : i < ((x.stopE i q).create op.a (x.ownE 2 x.ev.proc op.b)).procs.length := by
      obtain ⟨q', hq', _⟩ := hc.has
      exact (List.getElem?_eq_some_iff.1 hq').1
    exact ⟨hc.ev, ⟨{ q with timer := (x.stopE i q).kid }, by simp only [Ex.timerE, Ex.setP]; rw [List.getElem?_set_self hl], hpc⟩, by simp only [Ex.timerE, Ex.setP, List.length_set]; exact hc.procs, hc.out, hc.gone⟩
  split
  · exact stop.1
  split
  · unfold Ex.spawnE
    split
    · refine crt _ _ _ h.ev ⟨q, by simp only; rw [List.getElem?_append_left hlt]; exact hq, hpc⟩ (by simp; omega) h1 (by simp only; omega)
    · exact ⟨h.ev, ⟨q, hq, hpc⟩, hp, by first | omega | (simp only; omega), by first | omega | (simp only; omega)⟩
  split
  · unfold Ex.setReg
    split <;> exact ⟨h.ev, ⟨q, hq, hpc⟩, hp, by first | omega | (simp only; omega), by first | omega | (simp only; omega)⟩
  split
  · rename_i h7
    simp only
    split
    · exact ⟨h.ev, ⟨{ q with pc := op.c }, by simp only [Ex.setP]; rw [List.getElem?_set_self hlt], ho.to h7⟩, by simp only [Ex.setP, List.length_set]; exact hp, by simp only [Ex.setP]; omega, by simp only [Ex.setP]; omega⟩
    · exact ⟨h.ev, ⟨q, hq, hpc⟩, hp, by first | omega | (simp only; omega), by first | omega | (simp only; omega)⟩
  · exact ⟨h.ev, ⟨q, hq, hpc⟩, hp, by first | omega | (simp only; omega), by first | omega | (simp only; omega)⟩
set_option maxRecDepth 10000
theorem ActInv.pc {e : Evt} {i n : Nat} {x : Ex} (h : ActInv e i n x) {q : Pr} (hq : x.procs[i]? = some q) {pc : Int} (hp : 0 ≤ pc ∧ pc ≤ 1000000) (al : Bool) : ActInv e i n (x.setP i { q with pc := pc, alive := al }) := by
  have hlt := (List.getElem?_eq_some_iff.1 hq).1
  exact ⟨h.ev, ⟨{ q with pc := pc, alive := al }, by simp only [Ex.setP]; rw [List.getElem?_set_self hlt], hp⟩, by simp only [Ex.setP, List.length_set]; exact h.procs, h.out, h.gone⟩
section
variable (a0 a1 a2 : Int) (am : Nat) (e0 : Evt) (i : Nat) (p : List OpI) (cl : Bool)
def ActEnd (a0 a1 a2 : Int) (am : Nat) (e0 : Evt) (i : Nat) (F : Ex) (y : CExit × Env × qx) : Prop :=
  ∃ z gp gc gg, y.2.2 = [.row 4 [[(.v (.int .i64 (a0))), (.v (.int .i64 (a1))), .sl 2 0 0 am false, (.v (.int .i64 (a2)))]] 0, .row 4 [[(.v (.int .i64 (0))), (.v (.int .i64 (0))), .fsl [] false, (.v (.int .i64 (0)))]] 0, .row 4 ((z.procs).map Pr.r) gp, .row 6 ((z.out).map Evt.r) gc, .row 1 ((z.gone).map qfe) gg, .row 14 [[(.v (.int .i64 (z.r0))), (.v (.int .i64 (z.r1))), .sl 2 gp 0 z.procs.length false, (.v (.int .i64 (z.sum))), (.v (.int .i64 (z.ev.time))), (.fsl ((z.ev.key).map qcp) false), (.v (.int .i64 (z.ev.lp))), (.v (.int .i64 (z.ev.kind))), (.v (.int .i64 (z.ev.proc))), (.v (.int .i64 (z.ev.arg))), .sl 3 gc 0 z.out.length false, (.v (.int .i64 (z.n))), .sl 4 gg 0 z.gone.length false, (.v (.bool (z.over)))]] 0, .mp .i64 qf1] ∧ y.2.1.marks = [] ∧ ((y.1 = .ret ∧ z = F ∧ ActInv e0 i 16 z) ∨ (y.1 = .exit 0 ∧ Ev.look y.2.1.vars 0 = some (.ptr 5 0 0 0) ∧ qlg z i = F ∧ ActInv e0 i 16 z))
theorem act_loop (hk : e0.key.length ≤ 1000) (hpr : e0.proc = i) (hpl : p.length ≤ 1000) (hok : ∀ op ∈ p, OpOk' op) (x : Ex) (gp gc gg : Nat) (h0 : ActInv e0 i 0 x) :
    ∃ y, itB (exec (evL T) itL none qbt) (Ev.qs [0, 1, 4, 7] true 7) ⟨[(0, .ptr 5 0 0 0), (1, (.fsl ((p).map OpI.r) cl)), (4, .mp 6), (7, (.v (.int .i64 (0))))], []⟩ [.row 4 [[(.v (.int .i64 (a0))), (.v (.int .i64 (a1))), .sl 2 0 0 am false, (.v (.int .i64 (a2)))]] 0, .row 4 [[(.v (.int .i64 (0))), (.v (.int .i64 (0))), .fsl [] false, (.v (.int .i64 (0)))]] 0, .row 4 ((x.procs).map Pr.r) gp, .row 6 ((x.out).map Evt.r) gc, .row 1 ((x.gone).map qfe) gg, .row 14 [[(.v (.int .i64 (x.r0))), (.v (.int .i64 (x.r1))), .sl 2 gp 0 x.procs.length false, (.v (.int .i64 (x.sum))), (.v (.int .i64 (x.ev.time))), (.fsl ((x.ev.key).map qcp) false), (.v (.int .i64 (x.ev.lp))), (.v (.int .i64 (x.ev.kind))), (.v (.int .i64 (x.ev.proc))), (.v (.int .i64 (x.ev.arg))), .sl 3 gc 0 x.out.length false, (.v (.int .i64 (x.n))), .sl 4 gg 0 x.gone.length false, (.v (.bool (x.over)))]] 0, .mp .i64 qf1] = some y ∧ ActEnd a0 a1 a2 am e0 i (qki p i 16 x) y := by
  have := qjm (f := exec (evL T) itL none qbt) (s := Ev.qs [0, 1, 4, 7] true 7) (α := Ex × Nat × Nat × Nat) (fun j _ => ⟨[(0, .ptr 5 0 0 0), (1, (.fsl ((p).map OpI.r) cl)), (4, .mp 6), (7, (.v (.int .i64 ((j : Int)))))], []⟩) (fun _ a => [.row 4 [[(.v (.int .i64 (a0))), (.v (.int .i64 (a1))), .sl 2 0 0 am false, (.v (.int .i64 (a2)))]] 0, .row 4 [[(.v (.int .i64 (0))), (.v (.int .i64 (0))), .fsl [] false, (.v (.int .i64 (0)))]] 0, .row 4 ((a.1.procs).map Pr.r) a.2.1, .row 6 ((a.1.out).map Evt.r) a.2.2.1, .row 1 ((a.1.gone).map qfe) a.2.2.2, .row 14 [[(.v (.int .i64 (a.1.r0))), (.v (.int .i64 (a.1.r1))), .sl 2 a.2.1 0 a.1.procs.length false, (.v (.int .i64 (a.1.sum))), (.v (.int .i64 (a.1.ev.time))), (.fsl ((a.1.ev.key).map qcp) false), (.v (.int .i64 (a.1.ev.lp))), (.v (.int .i64 (a.1.ev.kind))), (.v (.int .i64 (a.1.ev.proc))), (.v (.int .i64 (a.1.ev.arg))), .sl 3 a.2.2.1 0 a.1.out.length false, (.v (.int .i64 (a.1.n))), .sl 4 a.2.2.2 0 a.1.gone.length false, (.v (.bool (a.1.over)))]] 0, .mp .i64 qf1])
    (fun j a => ActInv e0 i j a.1 ∧ qki p i (16 - j) a.1 = qki p i 16 x) 16 (ActEnd a0 a1 a2 am e0 i (qki p i 16 x)) ?_ ?_ 0 (x, gp, gc, gg) (Nat.zero_le _) ⟨h0, rfl⟩
  · exact this
  · rintro j ⟨y, gp, gc, gg⟩ hj ⟨hi1, hi2⟩
    simp only at hi1 hi2 ⊢
    obtain ⟨q, hq, hpc⟩ := hi1.has
    have hlt := (List.getElem?_eq_some_iff.1 hq).1
    have hpr' : y.ev.proc = i := by rw [hi1.ev]; exact hpr
    have hj' : (j : Int) < 16 := by omega
    have hw : IntKind.i64.wrap ((j : Int) + 1) = ((j + 1 : Nat) : Int) := by rw [qat (by omega) (by omega)]; simp
    have s1 := qrw a0 a1 a2 am y gp gc gg i hpr' hlt
    rw [show 16 - j = (16 - (j + 1)) + 1 from by omega, qki, hq] at hi2
    simp only at hi2
    cases hop : p[q.pc.toNat]? with
    | none =>
      rw [hop] at hi2
      simp only at hi2
      have hge : q.pc ≥ (p.length : Int) := by have := List.getElem?_eq_none_iff.1 hop; omega
      right
      simp only [qbt, hj', hge, s1, List.getElem?_map, Option.map_some, hq, Pr.r, Ev.exec, Ev.qb, Ev.qe, Ev.qc, Ev.qd0, Ev.qaf, Ev.evs, Ev.Opnd.ev, Ev.Env.get, Ev.Env.set, Ev.look, Ev.qi, Ev.qab, Ev.qo, Ev.qbz, List.length_map, ↓Ev.qq, Ev.it1, ↓reduceIte, List.getElem?_cons_zero, List.getElem?_cons_succ, List.drop_succ_cons, List.drop_zero, List.head?_cons, Nat.reduceEqDiff, reduceCtorEq, decide_true, Bool.false_eq_true, Nat.zero_add, eq_self]
      exact ⟨_, rfl, y, gp, gc, gg, rfl, rfl, .inr ⟨rfl, rfl, hi2, ⟨hi1.ev, hi1.has, hi1.procs, by have := hi1.out; omega, by have := hi1.gone; omega⟩⟩⟩
    | some op =>
      rw [hop] at hi2
      simp only at hi2
      have hlp := (List.getElem?_eq_some_iff.1 hop).1
      have hge : ¬ q.pc ≥ (p.length : Int) := by omega
      have hwq : w64 (q.pc + 1) = q.pc + 1 := qat (by omega) (by omega)
      have hwq' : IntKind.i64.wrap (q.pc + 1) = q.pc + 1 := hwq
      have hset : (y.procs.map Pr.r).set i [(.v (.int .i64 (q.prog))), (.v (.int .i64 (q.pc + 1))), (.v (.bool (q.alive))), (.fsl ((q.timer).map qcp) false)] = (y.procs.set i { q with pc := q.pc + 1 }).map Pr.r := by rw [List.map_set]; rfl
      have hl : (y.procs.set i { q with pc := q.pc + 1 }).length = y.procs.length := by simp
      rw [hwq] at hi2
      have hz : ActInv e0 i j (y.setP i { q with pc := q.pc + 1 }) := hi1.pc hq (by omega) q.alive
      have hzq : (y.setP i { q with pc := q.pc + 1 }).procs[i]? = some { q with pc := q.pc + 1 } := by simp only [Ex.setP]; rw [List.getElem?_set_self hlt]
      have hzp : (y.setP i { q with pc := q.pc + 1 }).ev.proc = i := hpr'
      have hoo := hok op (List.mem_of_getElem? hop)
      have hn := hz.step hzq (show 0 ≤ q.pc + 1 ∧ q.pc + 1 ≤ 1000000 by omega) hoo
      obtain ⟨k, gp', gc', gg', t1, t2⟩ := step_ev a0 a1 a2 am (y.setP i { q with pc := q.pc + 1 }) gp gc gg op i { q with pc := q.pc + 1 } (hz.small (by omega) hk) (by have := hz.gone; omega) hzp hzq hoo
      generalize hS : qdp (y.setP i { q with pc := q.pc + 1 }) i { q with pc := q.pc + 1 } op = S at hi2 hn t2
      obtain ⟨z, sig⟩ := S
      simp only at hi2 hn t2
      have hsig : sig = 0 ∨ sig = 1 ∨ sig = 2 := by
        have : (qdp (y.setP i { q with pc := q.pc + 1 }) i { q with pc := q.pc + 1 } op).2 = sig := by rw [hS]
        rw [← this]
        unfold qdp
        repeat' (first | (split) | exact .inl rfl | exact .inr (.inl rfl) | exact .inr (.inr rfl))
      simp only [Ex.setP, hl] at t2
      obtain ⟨qz, hqz, hqzp⟩ := hn.has
      have hltz := (List.getElem?_eq_some_iff.1 hqz).1
      have s2 := qrw a0 a1 a2 am z gp' gc' gg' i (by rw [hn.ev]; exact hpr) hltz
      rcases hsig with rfl | rfl | rfl
      · left
        refine ⟨(z, gp', gc', gg'), ?_, hn, ?_⟩
        · simp only [qbt, hj', hge, s1, hpc, hop, hwq', t1, t2, hw, List.getElem?_map, Option.map_some, hq, Pr.r, OpI.r, qf4, qax, qar, qah, qb0, Nat.reduceLT, Nat.reduceLeDiff, Ev.exec, Ev.qb, Ev.qe, Ev.qc, Ev.qd0, Ev.qhl, Ev.qaf, Ev.evs, Ev.Opnd.ev, Ev.Env.get, Ev.Env.set, Ev.look, Ev.qi, Ev.qab, Ev.AV.cells, Ev.AV.uc, Ev.qv, Ev.AV.plain, Ev.qaj, Ev.qak, Ev.qo, Ev.qbz, Ev.qs, Ev.keep, Ev.qai, Ev.qaa, Ev.qd, Ev.SObj.lo, Ev.qa4, Ev.qy, Ev.qb8, Ev.qjv, Ev.lo_mp, Ev.gotL, Ev.qj, Ev.qk, Ev.qac, Ev.qaq, List.length_map, ↓Ev.qq, Ev.it1, ↓reduceIte, List.length_cons, List.length_nil, List.getElem?_cons_zero, List.getElem?_cons_succ, List.take_succ_cons, List.take_zero, List.take_nil, List.drop_succ_cons, List.drop_zero, List.cons_append, List.nil_append, List.append_nil, List.set_cons_zero, List.set_cons_succ, List.head?_cons, Nat.reduceAdd, Nat.reduceEqDiff, Nat.reduceLT, Nat.reduceLeDiff, Int.reduceEq, reduceCtorEq, decide_true, decide_false, Bool.and_self, Bool.false_eq_true, and_self, Nat.zero_add, Nat.lt_add_one, Nat.le_refl, eq_self, hset]
        · simp only [show ¬ (0 : Int) = 1 from by decide, show ¬ (0 : Int) = 2 from by decide, if_false] at hi2
          exact hi2
      · right
        simp only [if_true] at hi2
        simp only [qbt, hj', hge, s1, hpc, hop, hwq', t1, t2, List.getElem?_map, Option.map_some, hq, Pr.r, OpI.r, Nat.reduceLeDiff, Ev.exec, Ev.qb, Ev.qe, Ev.qc, Ev.qd0, Ev.qhl, Ev.qaf, Ev.evs, Ev.Opnd.ev, Ev.Env.get, Ev.Env.set, Ev.look, Ev.qi, Ev.qab, Ev.AV.cells, Ev.AV.uc, Ev.qv, Ev.AV.plain, Ev.qaj, Ev.qak, Ev.qo, Ev.qbz, Ev.gotL, List.length_map, ↓Ev.qq, Ev.it1, ↓reduceIte, List.length_cons, List.length_nil, List.getElem?_cons_zero, List.getElem?_cons_succ, List.take_succ_cons, List.take_zero, List.take_nil, List.drop_succ_cons, List.drop_zero, List.cons_append, List.nil_append, List.append_nil, List.set_cons_zero, List.set_cons_succ, List.head?_cons, Nat.reduceAdd, Nat.reduceEqDiff, Nat.reduceLeDiff, reduceCtorEq, decide_true, decide_false, Bool.and_self, Bool.false_eq_true, and_self, Nat.zero_add, Nat.le_refl, eq_self, hset]
        exact ⟨_, rfl, z, gp', gc', gg', rfl, rfl, .inl ⟨rfl, hi2, ⟨hn.ev, hn.has, hn.procs, by have := hn.out; omega, by have := hn.gone; omega⟩⟩⟩
      · right
        simp only [show ¬ (2 : Int) = 1 from by decide, if_true, if_false] at hi2
        have hkz : qlg z i = z.setP i { qz with alive := false } := by unfold qlg; rw [hqz]
        rw [hkz] at hi2
        have hset2 : (z.procs.map Pr.r).set i [(.v (.int .i64 (qz.prog))), (.v (.int .i64 (qz.pc))), (.v (.bool (false))), (.fsl ((qz.timer).map qcp) false)] = (z.procs.set i { qz with alive := false }).map Pr.r := by rw [List.map_set]; rfl
        have hl2 : (z.procs.set i { qz with alive := false }).length = z.procs.length := by simp
        have hfin := hn.pc hqz hqzp false
        simp only [qbt, hj', hge, s1, hpc, hop, hwq', t1, t2, s2, List.getElem?_map, Option.map_some, hq, hqz, Pr.r, OpI.r, Nat.reduceLeDiff, Ev.exec, Ev.qb, Ev.qe, Ev.qc, Ev.qd0, Ev.qhl, Ev.qaf, Ev.evs, Ev.Opnd.ev, Ev.Env.get, Ev.Env.set, Ev.look, Ev.qi, Ev.qab, Ev.AV.cells, Ev.AV.uc, Ev.qv, Ev.AV.plain, Ev.qaj, Ev.qak, Ev.qo, Ev.qbz, Ev.gotL, List.length_map, ↓Ev.qq, Ev.it1, ↓reduceIte, List.length_cons, List.length_nil, List.getElem?_cons_zero, List.getElem?_cons_succ, List.take_succ_cons, List.take_zero, List.take_nil, List.drop_succ_cons, List.drop_zero, List.cons_append, List.nil_append, List.append_nil, List.set_cons_zero, List.set_cons_succ, List.head?_cons, Nat.reduceAdd, Nat.reduceEqDiff, Nat.reduceLeDiff, Int.reduceEq, reduceCtorEq, decide_true, decide_false, Bool.and_self, Bool.false_eq_true, and_self, Nat.zero_add, Nat.le_refl, eq_self, hset, hset2]
        refine ⟨_, rfl, z.setP i { qz with alive := false }, gp', gc', gg', ?_, rfl, .inl ⟨rfl, hi2, ⟨hfin.ev, hfin.has, hfin.procs, by have := hfin.out; omega, by have := hfin.gone; omega⟩⟩⟩
        simp only [Ex.setP, hl2]
  · rintro ⟨y, gp, gc, gg⟩ ⟨hi1, hi2⟩
    simp only [qbt, Int.lt_irrefl, Ev.exec, Ev.qb, Ev.qe, Ev.qc, Ev.qaf, Ev.Opnd.ev, Ev.Env.get, Ev.Env.set, Ev.look, Ev.qo, ↓Ev.qq, Ev.it1, ↓reduceIte, Nat.reduceEqDiff, Int.cast_ofNat_Int, reduceCtorEq, decide_false, Bool.false_eq_true, eq_self]
    exact ⟨_, rfl, y, gp, gc, gg, rfl, rfl, .inr ⟨rfl, rfl, hi2, hi1⟩⟩
end
set_option maxRecDepth 10000
theorem qre : (evL T).call qej [] [] = some (.mp 0, [.mp .i64 qf1]) := by
  rw [qu qpe qok]
  simp only [qgv, qf1, Ev.qm, Ev.exec, Ev.qb, Ev.qe, Ev.qc, Ev.qaf, Ev.Opnd.ev, Ev.Env.get, Ev.Env.set, Ev.look, Ev.qn, Ev.ql, Ev.qw, Ev.qae, Ev.kill, Ev.qad, Ev.qd, Ev.qde, Ev.lo_mp, Ev.q69, Ev.qj, ↓Ev.qq, ↓reduceIte, List.length_nil, List.getElem?_cons_zero, List.take_zero, List.nil_append, List.set_cons_zero, Nat.reduceLT, Int.reduceEq, decide_false, Bool.and_self, Bool.false_eq_true, and_self, and_true, eq_self]
section
variable (a0 a1 a2 : Int) (am : Nat) (e0 : Evt) (i : Nat) (p : List OpI) (cl : Bool)
theorem q4f (hk : e0.key.length ≤ 1000) (hpr : e0.proc = i) (hpl : p.length ≤ 1000) (hok : ∀ op ∈ p, OpOk' op) (x : Ex) (gp gc gg : Nat) (h0 : ActInv e0 i 0 x) :
    ∃ gp' gc' gg', (evL T).call qdb [.ptr 5 0 0 0, (.fsl ((p).map OpI.r) cl)] [.row 4 [[(.v (.int .i64 (a0))), (.v (.int .i64 (a1))), .sl 2 0 0 am false, (.v (.int .i64 (a2)))]] 0, .row 4 [[(.v (.int .i64 (0))), (.v (.int .i64 (0))), .fsl [] false, (.v (.int .i64 (0)))]] 0, .row 4 ((x.procs).map Pr.r) gp, .row 6 ((x.out).map Evt.r) gc, .row 1 ((x.gone).map qfe) gg, .row 14 [[(.v (.int .i64 (x.r0))), (.v (.int .i64 (x.r1))), .sl 2 gp 0 x.procs.length false, (.v (.int .i64 (x.sum))), (.v (.int .i64 (x.ev.time))), (.fsl ((x.ev.key).map qcp) false), (.v (.int .i64 (x.ev.lp))), (.v (.int .i64 (x.ev.kind))), (.v (.int .i64 (x.ev.proc))), (.v (.int .i64 (x.ev.arg))), .sl 3 gc 0 x.out.length false, (.v (.int .i64 (x.n))), .sl 4 gg 0 x.gone.length false, (.v (.bool (x.over)))]] 0] = some (.tup [], [.row 4 [[(.v (.int .i64 (a0))), (.v (.int .i64 (a1))), .sl 2 0 0 am false, (.v (.int .i64 (a2)))]] 0, .row 4 [[(.v (.int .i64 (0))), (.v (.int .i64 (0))), .fsl [] false, (.v (.int .i64 (0)))]] 0, .row 4 (((qki p i 16 x).procs).map Pr.r) gp', .row 6 (((qki p i 16 x).out).map Evt.r) gc', .row 1 (((qki p i 16 x).gone).map qfe) gg', .row 14 [[(.v (.int .i64 ((qki p i 16 x).r0))), (.v (.int .i64 ((qki p i 16 x).r1))), .sl 2 gp' 0 (qki p i 16 x).procs.length false, (.v (.int .i64 ((qki p i 16 x).sum))), (.v (.int .i64 ((qki p i 16 x).ev.time))), (.fsl (((qki p i 16 x).ev.key).map qcp) false), (.v (.int .i64 ((qki p i 16 x).ev.lp))), (.v (.int .i64 ((qki p i 16 x).ev.kind))), (.v (.int .i64 ((qki p i 16 x).ev.proc))), (.v (.int .i64 ((qki p i 16 x).ev.arg))), .sl 3 gc' 0 (qki p i 16 x).out.length false, (.v (.int .i64 ((qki p i 16 x).n))), .sl 4 gg' 0 (qki p i 16 x).gone.length false, (.v (.bool ((qki p i 16 x).over)))]] 0]) ∧ ActInv e0 i 16 (qki p i 16 x) := by
  obtain ⟨⟨y, e, σ⟩, k1, z, gp', gc', gg', k2, k3, k4⟩ := act_loop a0 a1 a2 am e0 i p cl hk hpr hpl hok x gp gc gg h0
  simp only at k2 k3 k4
  subst k2
  generalize qki p i 16 x = F at k4
  rw [qu qlj qk6]
  rcases k4 with ⟨rfl, rfl, k5⟩ | ⟨rfl, k5, k6, k7⟩
  · refine ⟨gp', gc', gg', ?_, k5⟩
    simp only [qd1, qre, k1, k3, qf4, qax, qar, qah, qb0, Nat.reduceLT, Ev.qm, Ev.exec, Ev.qb, Ev.qe, Ev.qc, Ev.qqm, Ev.q07, Ev.AV.shift, Ev.qaf, Ev.evs, Ev.Opnd.ev, Ev.Env.get, Ev.Env.set, Ev.look, Ev.qn, Ev.ql, Ev.qae, Ev.kill, Ev.qad, Ev.qs, Ev.keep, Ev.qai, Ev.qaa, Ev.qd, Ev.SObj.lo, Ev.qa4, Ev.qbc, Ev.qy, Ev.qb8, Ev.qjv, Ev.lo_mp, Ev.qj, Ev.qk, Ev.qac, Ev.qaq, Ev.qhn, Ev.qfi, ↓Ev.qq, ↓Ev.qan, ↓reduceIte, List.length_cons, List.length_nil, List.take_succ_cons, List.take_zero, List.take_nil, List.cons_append, List.nil_append, Nat.reduceAdd, Nat.reduceEqDiff, Nat.reduceLT, reduceCtorEq, decide_true, Bool.and_self, and_self, Nat.zero_add, Nat.lt_add_one, eq_self]
  · obtain ⟨q, hq, hpc⟩ := k7.has
    have hlt := (List.getElem?_eq_some_iff.1 hq).1
    have s2 := qrw a0 a1 a2 am z gp' gc' gg' i (by rw [k7.ev]; exact hpr) hlt
    have hkz : qlg z i = z.setP i { q with alive := false } := by unfold qlg; rw [hq]
    rw [hkz] at k6
    have hset : (z.procs.map Pr.r).set i [(.v (.int .i64 (q.prog))), (.v (.int .i64 (q.pc))), (.v (.bool (false))), (.fsl ((q.timer).map qcp) false)] = (z.procs.set i { q with alive := false }).map Pr.r := by rw [List.map_set]; rfl
    have hl : (z.procs.set i { q with alive := false }).length = z.procs.length := by simp
    have hfin := k7.pc hq hpc false
    subst k6
    refine ⟨gp', gc', gg', ?_, hfin⟩
    simp only [Ex.setP, hl]
    simp only [qd1, qre, k1, k3, k5, s2, List.getElem?_map, Option.map_some, hq, Pr.r, qf4, qax, qar, qah, qb0, Nat.reduceLT, Nat.reduceLeDiff, Ev.qm, Ev.exec, Ev.qb, Ev.qe, Ev.qc, Ev.qqm, Ev.qd0, Ev.q07, Ev.AV.shift, Ev.qaf, Ev.evs, Ev.Opnd.ev, Ev.Env.get, Ev.Env.set, Ev.look, Ev.qn, Ev.AV.cells, Ev.AV.uc, Ev.qv, Ev.AV.plain, Ev.ql, Ev.qae, Ev.kill, Ev.qad, Ev.qs, Ev.keep, Ev.qai, Ev.qaa, Ev.qd, Ev.SObj.lo, Ev.qa4, Ev.qbc, Ev.qy, Ev.qb8, Ev.qjv, Ev.lo_mp, Ev.qj, Ev.qk, Ev.qac, Ev.qaq, Ev.qhn, Ev.qfi, ↓Ev.qq, ↓Ev.qan, ↓reduceIte, List.length_cons, List.length_nil, List.getElem?_cons_zero, List.getElem?_cons_succ, List.take_succ_cons, List.take_zero, List.take_nil, List.drop_succ_cons, List.drop_zero, List.cons_append, List.nil_append, List.set_cons_zero, List.set_cons_succ, Nat.reduceAdd, Nat.reduceEqDiff, Nat.reduceLT, Nat.reduceLeDiff, reduceCtorEq, decide_true, Bool.and_self, and_self, Nat.zero_add, Nat.lt_add_one, eq_self, hset]
end
end Go.Proofs.Ythkjkdbjgpeigaa.K
