/- For every input the statement of this claim returns true: texts of its proof, joined (part 7). -/
import Derived.Test.YtbhhifdhlafklaaProg
import Derived.KernelRfl
import Derived.Test.YtbhhifdhlafklaaEWS3
import Derived.Test.YtbhhifdhlafklaaSKWS
set_option linter.unusedSectionVars false
set_option linter.unusedSimpArgs false
set_option linter.unusedVariables false
namespace Go.Proofs.Ytbhhifdhlafklaa.K
open Go.Ev
set_option maxRecDepth 100000
theorem qr8 : qfz Try.prog { frz := [3], loops := [([3, 7, 10, 12, 13, 15, 16, 17, 19], true), ([7, 10, 12, 13, 15, 16, 20], true)] } qe3 = some qc5 := by kernel_rfl
theorem qz9 : qfz Try.prog {  } qi5 = some qpx := by kernel_rfl
theorem q2r : qfz Try.prog { frz := [1] } qku = some qqp := by kernel_rfl
theorem qyj : qfz Try.prog { frz := [2] } qhw = some qli := by kernel_rfl
theorem qwb : qfz Try.prog { frzv := [27], own := [4], loops := [([4, 7, 8, 9], true)] } qeo = some qju := by kernel_rfl
theorem qth : qfz Try.prog { frz := [2] } qdq = some qjx := by kernel_rfl
theorem qug : qfz Try.prog { frz := [4, 5], mI := [21, 26, 28], ownB := [(17, (5, 6)), (17, (6, 6))], loops := [([4, 13], true)] } qef = some qjy := by kernel_rfl
theorem qx9 : qfz Try.prog { loops := [([0, 3], true)] } qhy = some qkj := by kernel_rfl
theorem qtg : qfz Try.prog { mA := [12], mF := [53], topZ := [15], ownS := [(15, 6)], appB := [(33, 8)], ldB := [(25, 8)], loops := [([5, 6, 17, 18, 19], true), ([5, 36, 37, 38], true)] } qe9 = some qk8 := by kernel_rfl
theorem qz5 : qfz Try.prog {  } qj8 = some qpy := by kernel_rfl
theorem qxa : qfz Try.prog { mF := [9] } qil = some qnt := by kernel_rfl
theorem qu6 : qfz Try.prog { frz := [1], frzv := [41], own := [3], loops := [([1, 3, 4], true), ([1, 3, 4, 5], true)] } qet = some qkf := by kernel_rfl
theorem qwh : qfz Try.prog { frz := [1], own := [3], topZ := [5], loops := [([1, 3, 4], false), ([1, 3, 4, 5, 6], false)] } qfo = some qkv := by kernel_rfl
theorem qx2 : qfz Try.prog { frz := [1], loops := [([1, 3, 4, 5], true), ([1, 3, 4, 6], true), ([1, 3, 4, 6, 7], true)] } qh0 = some qff := by kernel_rfl
theorem qt6 : qfz Try.prog { frz := [2], loops := [([1, 2, 4, 5], true)] } qe6 = some qjw := by kernel_rfl
theorem qx3 : qfz Try.prog { own := [5], loops := [([0, 1, 5, 6], true), ([0, 1, 5, 6, 7, 8], true)] } qhu = some qll := by kernel_rfl
theorem qpg : qfz Try.prog { bad := true, loops := [([0, 3, 4], true)] } qc9 = some qgp := by kernel_rfl
theorem qog : qfz Try.prog { frz := [2, 3] } qcy = some qfe := by kernel_rfl
theorem qns : qfz Try.prog { frz := [4, 5], loops := [([0, 5, 8, 50, 51, 52], true), ([0, 81, 82, 83], true)] } qcs = some qd2 := by kernel_rfl
theorem qn3 : qfz Try.prog { ldx := [(14, 2), (18, 2), (22, 2), (26, 2)] } qcz = some qfj := by kernel_rfl
theorem qph : qfz Try.prog { frz := [2, 3] } qck = some qeq := by kernel_rfl
theorem qvf : qfz Try.prog {  } qes = some qi8 := by kernel_rfl
theorem qh6 : qfz Try.prog { mA := [24], bad := true, loops := [([0, 3, 9, 10, 11], true), ([6, 25, 26, 27], false)] } qaq = some qcc := by kernel_rfl
theorem qu2 : qfz Try.prog { mA := [8], mI := [9] } qg6 = some qmj := by kernel_rfl
theorem qrr : qfz Try.prog { frzv := [49], own := [6], loops := [([0, 3, 4], true), ([0, 3, 4, 5], true)] } qc7 = some qis := by kernel_rfl
theorem qyv : qfz Try.prog { frz := [1], loops := [([1, 3], true), ([1, 4], true)] } qho = some qgl := by kernel_rfl
theorem qyh : qfz Try.prog { frz := [1], loops := [([1, 3], true), ([1, 5], true), ([1, 5, 6], true)] } qhv = some qgb := by kernel_rfl
theorem qya : qfz Try.prog { frz := [1], topZ := [9], loops := [([1, 2, 3, 4], false)] } qh5 = some qlm := by kernel_rfl
theorem qwl : qfz Try.prog { frz := [2], appN := [21, 28, 57, 69], frzv := [36, 38, 63, 73] } qgu = some qjt := by kernel_rfl
theorem qwy : qfz Try.prog { frz := [3], own := [6], loops := [([0, 3, 5], true)] } qfl = some qgv := by kernel_rfl
theorem qmz : qfz Try.prog { loops := [([0, 1, 2], true)] } qcb = some qdp := by kernel_rfl
theorem qxw : qfz Try.prog { mA := [20] } qg0 = some qim := by kernel_rfl
theorem qwd : qfz Try.prog { frz := [3, 5], mA := [52], mI := [59, 82, 88], ldF := [80], ldx := [(96, 6), (100, 6), (104, 6)], ownB := [(56, (10, 6)), (56, (12, 1))] } qdn = some qbp := by kernel_rfl
theorem qui : qfz Try.prog { frz := [3], mA := [14], mI := [18] } qee = some qjz := by kernel_rfl
theorem qt0 : qfz Try.prog { frz := [3], mA := [21], mI := [9] } qfb = some qie := by kernel_rfl
theorem qvs : qfz Try.prog {  } qeb = some qg8 := by kernel_rfl
theorem qq5 : qfz Try.prog { loops := [([0, 1, 5], true)] } qc8 = some qfv := by kernel_rfl
theorem qio : qfz Try.prog { bad := true } qav = some qbw := by kernel_rfl
theorem qk5 : qfz Try.prog { mI := [4] } qch = some qe8 := by kernel_rfl
theorem qtq : qfz Try.prog {  } qf3 = some qlc := by kernel_rfl
theorem qsa : qfz Try.prog { mA := [5], mI := [7] } qev = some qki := by kernel_rfl
theorem qyg : qfz Try.prog { frz := [1], loops := [([1, 3], true)] } qh2 = some qds := by kernel_rfl
theorem qyo : qfz Try.prog { loops := [([0, 1, 2, 3, 9], true), ([0, 2, 3, 10], true), ([0, 3, 11], true)] } qh4 = some qgr := by kernel_rfl
theorem q0r : qfz Try.prog { frz := [3, 4, 5], ldx := [(96, 6), (98, 6), (100, 6)] } qer = some qb1 := by kernel_rfl
theorem qvg : qfz Try.prog { own := [5], loops := [([0, 1, 5, 6], true), ([0, 1, 5, 6, 7, 8], true)] } qfu = some qkn := by kernel_rfl
theorem qnp : qfz Try.prog {  } qao = some qd6 := by kernel_rfl
theorem qol : qfz Try.prog { loops := [([0, 1, 12, 13], true)] } qcj = some qdf := by kernel_rfl
theorem qld : qfz Try.prog { mA := [6], mI := [10, 19, 44, 49], loops := [([0, 1, 4, 7], true)] } qb6 = some qc6 := by kernel_rfl
theorem qd7 : qfz Try.prog { frz := [4], loops := [([0, 2, 4, 8, 9, 10], true)] } qab = some qan := by kernel_rfl
theorem qpi : qfz Try.prog { frz := [2, 3] } qa3 = some qgn := by kernel_rfl
theorem qg2 : qfz Try.prog { loops := [([0, 1, 7, 8], true)] } qat = some qbl := by kernel_rfl
theorem qrw : qfz Try.prog { frz := [2] } qcv = some qiq := by kernel_rfl
theorem qg3 : qfz Try.prog { own := [2], loops := [([2], true)] } qa9 = some qcq := by kernel_rfl
theorem qrx : qfz Try.prog { loops := [([0, 1, 2], true)] } qex = some qkl := by kernel_rfl
theorem qfw : qfz Try.prog { mI := [8] } qax = some qcf := by kernel_rfl
theorem qyp : qfz Try.prog { loops := [([0, 3], true)] } qhq = some qhr := by kernel_rfl
theorem qtu : qfz Try.prog { frz := [3] } qfa = some qdd := by kernel_rfl
theorem q2a : qfz Try.prog { frz := [5], appN := [12], frzv := [17] } qdz = some qo5 := by kernel_rfl
theorem que : qfz Try.prog { frz := [3], loops := [([2, 3, 4, 6, 7], true)] } qe7 = some qf9 := by kernel_rfl
theorem qo3 : qfz Try.prog {  } qc4 = some qfx := by kernel_rfl
theorem qx5 : qfz Try.prog {  } qh3 = some qlu := by kernel_rfl
theorem qs2 : qfz Try.prog {  } qd1 = some qfp := by kernel_rfl
theorem qq4 : qfz Try.prog {  } qdx = some qhx := by kernel_rfl
theorem qjq : qfz Try.prog { mI := [18, 27, 43, 60], loops := [([0, 1, 2, 6, 7, 8], true), ([0, 1, 2, 6], true), ([0, 1, 2, 6, 7, 8], true)] } qbv = some qdt := by kernel_rfl
theorem qx4 : qfz Try.prog {  } qen = some qlp := by kernel_rfl
theorem qx6 : qfz Try.prog {  } qfg = some qls := by kernel_rfl
theorem qzu : qfz Try.prog { frz := [5], appN := [134], frzv := [141] } qcx = some qc3 := by kernel_rfl
theorem qnu : qfz Try.prog { frz := [3], mI := [14, 15], ldF := [7] } qb3 = some qe2 := by kernel_rfl
theorem qnl : qfz Try.prog { frz := [3], mI := [13] } qb4 = some qe4 := by kernel_rfl
theorem qmx : qfz Try.prog { frz := [3], mI := [7, 21, 22], mR := [9], ldF := [12] } qby = some qem := by kernel_rfl
theorem qng : qfz Try.prog { frz := [3], mI := [7] } qbr = some qd3 := by kernel_rfl
theorem qmu : qfz Try.prog { frz := [3], mI := [33, 34], ldF := [30] } qbx = some qdo := by kernel_rfl
theorem qob : qfz Try.prog { frz := [3] } qb5 = some qea := by kernel_rfl
theorem qnw : qfz Try.prog { frz := [3], mI := [17], ldF := [19] } qb2 = some qcp := by kernel_rfl
theorem qod : qfz Try.prog { frz := [3] } qb7 = some qfh := by kernel_rfl
theorem q0o : qfz Try.prog { loops := [([3, 6, 7, 8], true)] } qi0 = some qk0 := by kernel_rfl
theorem qve : qfz Try.prog {  } qep = some qko := by kernel_rfl
theorem qmp : qfz Try.prog { loops := [([0, 1, 9, 10, 11], true)] } qcl = some qcm := by kernel_rfl
theorem qhj : qfz Try.prog { loops := [([0, 1, 2, 3, 8], true), ([0, 1, 2, 3, 8, 9], true)] } qa1 = some qc0 := by kernel_rfl
theorem qji : qfz Try.prog { mI := [191, 205, 219], loops := [([0, 1, 4, 10, 11], true), ([0, 10, 13], true), ([0, 2, 4, 14, 15], true), ([0, 14, 17], true), ([0, 1, 2, 3, 4, 18, 19, 20, 21, 22], true)] } qam = some qdj := by kernel_rfl
theorem qxk : qfz Try.prog { appN := [36], frzv := [41], ldx := [(32, 6), (45, 6)] } qd8 = some qjv := by kernel_rfl
theorem qsj : qfz Try.prog { appN := [8] } qd4 = some qjf := by kernel_rfl
theorem qml : qfz Try.prog {  } qbj = some qdi := by kernel_rfl
theorem qom : qfz Try.prog {  } qb8 = some qfk := by kernel_rfl
theorem qjs : qfz Try.prog { mI := [31, 46, 57], loops := [([0, 2, 4, 10, 11], true)] } qbi = some qd0 := by kernel_rfl
theorem qym : qfz Try.prog { appN := [8] } qhn = some qlj := by kernel_rfl
theorem qys : qfz Try.prog { mA := [6] } qh1 = some qlq := by kernel_rfl
theorem qi9 : qfz Try.prog { loops := [([0, 1, 2, 3, 10], true)] } qay = some qdg := by kernel_rfl
theorem qhb : qrl Try.prog qb9 = some (1, 24) := by kernel_rfl
theorem qhl : qrl Try.prog qa4 = some (6, 64) := by kernel_rfl
theorem qj1 : qrl Try.prog qci = some (4, 48) := by kernel_rfl
theorem qny : qrl Try.prog qec = some (1, 8) := by kernel_rfl
theorem qhg : InsB Try.prog qbd 6 64 75 39 4 := ⟨by kernel_rfl, by kernel_rfl, by kernel_rfl, by kernel_rfl, by kernel_rfl, by kernel_rfl, by kernel_rfl, by kernel_rfl, by kernel_rfl, by kernel_rfl, by kernel_rfl, by kernel_rfl, by kernel_rfl, by kernel_rfl, by kernel_rfl, by kernel_rfl, by kernel_rfl, by kernel_rfl, by kernel_rfl, by kernel_rfl, by kernel_rfl, by kernel_rfl, by kernel_rfl, by kernel_rfl⟩
def codeL : List (Nat × CFunc) := [(qe3, qc5), (qi5, qpx), (qku, qqp), (qhw, qli), (qeo, qju), (qdq, qjx), (qef, qjy), (qhy, qkj), (qe9, qk8), (qj8, qpy), (qil, qnt), (qet, qkf), (qfo, qkv), (qh0, qff), (qe6, qjw), (qhu, qll), (qc9, qgp), (qcy, qfe), (qcs, qd2), (qcz, qfj), (qck, qeq), (qes, qi8), (qaq, qcc), (qg6, qmj), (qc7, qis), (qho, qgl), (qhv, qgb), (qh5, qlm), (qgu, qjt), (qfl, qgv), (qcb, qdp), (qg0, qim), (qdn, qbp), (qee, qjz), (qfb, qie), (qeb, qg8), (qc8, qfv), (qav, qbw), (qch, qe8), (qf3, qlc), (qev, qki), (qh2, qds), (qh4, qgr), (qer, qb1), (qfu, qkn), (qao, qd6), (qcj, qdf), (qb6, qc6), (qab, qan), (qa3, qgn), (qat, qbl), (qcv, qiq), (qa9, qcq), (qex, qkl), (qax, qcf), (qhq, qhr), (qfa, qdd), (qdz, qo5), (qe7, qf9), (qc4, qfx), (qh3, qlu), (qd1, qfp), (qdx, qhx), (qbv, qdt), (qen, qlp), (qfg, qls), (qcx, qc3), (qb3, qe2), (qb4, qe4), (qby, qem), (qbr, qd3), (qbx, qdo), (qb5, qea), (qb2, qcp), (qb7, qfh), (qi0, qk0), (qep, qko), (qcl, qcm), (qa1, qc0), (qam, qdj), (qd8, qjv), (qd4, qjf), (qbj, qdi), (qb8, qfk), (qbi, qd0), (qhn, qlj), (qh1, qlq), (qay, qdg)]
def extL : List (Nat × (Nat × Nat)) := [(qb9, (1, 24)), (qa4, (6, 64)), (qci, (4, 48)), (qec, (1, 8))]
def insL : List (Nat × (Nat × Nat)) := [(qbd, (6, 64))]
def q3c {α : Type} : List (Nat × α) → Nat → Option α
  | [], _ => none
  | (k, x) :: l, i => if k = i then some x else q3c l i
theorem qs9 {α : Type} : ∀ {l : List (Nat × α)} {i : Nat} {x : α}, q3c l i = some x → (i, x) ∈ l
  | [], _, _, h => by simp [q3c] at h
  | (k, y) :: l, i, x, h => by
    simp only [q3c] at h
    split at h
    · rename_i hk; subst hk; cases h; simp
    · exact List.mem_cons_of_mem _ (qs9 h)
def T : Tab := { code := q3c codeL, ext := fun k => (q3c extL k).map fun p => qrg p.1 p.2, ins := q3c insL }
theorem codeL_ok : ∀ x ∈ codeL, ∃ h, qfz Try.prog h x.1 = some x.2 := by
  intro x hx
  simp only [codeL, List.mem_cons, List.not_mem_nil, or_false] at hx
  rcases hx with rfl | rfl | rfl | rfl | rfl | rfl | rfl | rfl | rfl | rfl | rfl | rfl | rfl | rfl | rfl | rfl | rfl | rfl | rfl | rfl | rfl | rfl | rfl | rfl | rfl | rfl | rfl | rfl | rfl | rfl | rfl | rfl | rfl | rfl | rfl | rfl | rfl | rfl | rfl | rfl | rfl | rfl | rfl | rfl | rfl | rfl | rfl | rfl | rfl | rfl | rfl | rfl | rfl | rfl | rfl | rfl | rfl | rfl | rfl | rfl | rfl | rfl | rfl | rfl | rfl | rfl | rfl | rfl | rfl | rfl | rfl | rfl | rfl | rfl | rfl | rfl | rfl | rfl | rfl | rfl | rfl | rfl | rfl | rfl | rfl | rfl | rfl | rfl
  · exact ⟨_, qr8⟩
  · exact ⟨_, qz9⟩
  · exact ⟨_, q2r⟩
  · exact ⟨_, qyj⟩
  · exact ⟨_, qwb⟩
  · exact ⟨_, qth⟩
  · exact ⟨_, qug⟩
  · exact ⟨_, qx9⟩
  · exact ⟨_, qtg⟩
  · exact ⟨_, qz5⟩
  · exact ⟨_, qxa⟩
  · exact ⟨_, qu6⟩
  · exact ⟨_, qwh⟩
  · exact ⟨_, qx2⟩
  · exact ⟨_, qt6⟩
  · exact ⟨_, qx3⟩
  · exact ⟨_, qpg⟩
  · exact ⟨_, qog⟩
  · exact ⟨_, qns⟩
  · exact ⟨_, qn3⟩
  · exact ⟨_, qph⟩
  · exact ⟨_, qvf⟩
  · exact ⟨_, qh6⟩
  · exact ⟨_, qu2⟩
  · exact ⟨_, qrr⟩
  · exact ⟨_, qyv⟩
  · exact ⟨_, qyh⟩
  · exact ⟨_, qya⟩
  · exact ⟨_, qwl⟩
  · exact ⟨_, qwy⟩
  · exact ⟨_, qmz⟩
  · exact ⟨_, qxw⟩
  · exact ⟨_, qwd⟩
  · exact ⟨_, qui⟩
  · exact ⟨_, qt0⟩
  · exact ⟨_, qvs⟩
  · exact ⟨_, qq5⟩
  · exact ⟨_, qio⟩
  · exact ⟨_, qk5⟩
  · exact ⟨_, qtq⟩
  · exact ⟨_, qsa⟩
  · exact ⟨_, qyg⟩
  · exact ⟨_, qyo⟩
  · exact ⟨_, q0r⟩
  · exact ⟨_, qvg⟩
  · exact ⟨_, qnp⟩
  · exact ⟨_, qol⟩
  · exact ⟨_, qld⟩
  · exact ⟨_, qd7⟩
  · exact ⟨_, qpi⟩
  · exact ⟨_, qg2⟩
  · exact ⟨_, qrw⟩
  · exact ⟨_, qg3⟩
  · exact ⟨_, qrx⟩
  · exact ⟨_, qfw⟩
  · exact ⟨_, qyp⟩
  · exact ⟨_, qtu⟩
  · exact ⟨_, q2a⟩
  · exact ⟨_, que⟩
  · exact ⟨_, qo3⟩
  · exact ⟨_, qx5⟩
  · exact ⟨_, qs2⟩
  · exact ⟨_, qq4⟩
  · exact ⟨_, qjq⟩
  · exact ⟨_, qx4⟩
  · exact ⟨_, qx6⟩
  · exact ⟨_, qzu⟩
  · exact ⟨_, qnu⟩
  · exact ⟨_, qnl⟩
  · exact ⟨_, qmx⟩
  · exact ⟨_, qng⟩
  · exact ⟨_, qmu⟩
  · exact ⟨_, qob⟩
  · exact ⟨_, qnw⟩
  · exact ⟨_, qod⟩
  · exact ⟨_, q0o⟩
  · exact ⟨_, qve⟩
  · exact ⟨_, qmp⟩
  · exact ⟨_, qhj⟩
  · exact ⟨_, qji⟩
  · exact ⟨_, qxk⟩
  · exact ⟨_, qsj⟩
  · exact ⟨_, qml⟩
  · exact ⟨_, qom⟩
  · exact ⟨_, qjs⟩
  · exact ⟨_, qym⟩
  · exact ⟨_, qys⟩
  · exact ⟨_, qi9⟩
theorem extL_ok : ∀ x ∈ extL, qrl Try.prog x.1 = some x.2 := by
  intro x hx
  simp only [extL, List.mem_cons, List.not_mem_nil, or_false] at hx
  rcases hx with rfl | rfl | rfl | rfl
  · exact qhb
  · exact qhl
  · exact qj1
  · exact qny
theorem mixed : Try.prog.follows .mixedOrders = true := by kernel_rfl
theorem insL_ok : ∀ x ∈ insL, InsOk Try.prog x.1 (insF x.2.1 x.2.2) := by
  intro x hx
  simp only [insL, List.mem_cons, List.not_mem_nil, or_false] at hx
  rcases hx with rfl
  · exact ins_ok mixed qhg
theorem T_ok : TabOk Try.prog T where
  code k f h := codeL_ok _ (qs9 h)
  ext k F h := by
    simp only [T, Option.map_eq_some_iff] at h
    obtain ⟨p, h1, rfl⟩ := h
    exact clone_ok mixed (extL_ok _ (qs9 h1))
  ins k p h := insL_ok (k, p) (qs9 h)
  mixed := mixed
theorem qk2 : T.code qe3 = some qc5 := rfl
theorem q75 : T.code qi5 = some qpx := rfl
theorem qz4 : T.code qku = some qqp := rfl
theorem qu8 : T.code qhw = some qli := rfl
theorem qt7 : T.code qeo = some qju := rfl
theorem qrt : T.code qdq = some qjx := rfl
theorem qr2 : T.code qef = some qjy := rfl
theorem qu3 : T.code qhy = some qkj := rfl
theorem q3l : T.code qe9 = some qk8 := rfl
theorem q6r : T.code qj8 = some qpy := rfl
theorem q50 : T.code qil = some qnt := rfl
theorem qsw : T.code qet = some qkf := rfl
theorem qt5 : T.code qfo = some qkv := rfl
theorem qu5 : T.code qh0 = some qff := rfl
theorem qr3 : T.code qe6 = some qjw := rfl
theorem qva : T.code qhu = some qll := rfl
theorem qok : T.code qc9 = some qgp := rfl
theorem qm1 : T.code qcy = some qfe := rfl
theorem qmf : T.code qcs = some qd2 := rfl
theorem qm2 : T.code qcz = some qfj := rfl
theorem qoe : T.code qck = some qeq := rfl
theorem qsg : T.code qes = some qi8 := rfl
theorem qg9 : T.code qaq = some qcc := rfl
theorem q3y : T.code qg6 = some qmj := rfl
theorem qp2 : T.code qc7 = some qis := rfl
theorem qvr : T.code qho = some qgl := rfl
theorem qvn : T.code qhv = some qgb := rfl
theorem qvh : T.code qh5 = some qlm := rfl
theorem qtl : T.code qgu = some qjt := rfl
theorem qtf : T.code qfl = some qgv := rfl
theorem qlt : T.code qcb = some qdp := rfl
theorem qt8 : T.code qg0 = some qim := rfl
theorem qjc : T.code qdn = some qbp := rfl
theorem qr0 : T.code qee = some qjz := rfl
theorem ql9 : T.code qfb = some qie := rfl
theorem qtc : T.code qeb = some qg8 := rfl
theorem qpl : T.code qc8 = some qfv := rfl
theorem qhk : T.code qav = some qbw := rfl
theorem qtd : T.code qch = some qe8 := rfl
theorem q3g : T.code qf3 = some qlc := rfl
theorem q1p : T.code qev = some qki := rfl
theorem qvb : T.code qh2 = some qds := rfl
theorem qvo : T.code qh4 = some qgr := rfl
theorem qkd : T.code qer = some qb1 := rfl
theorem qsp : T.code qfu = some qkn := rfl
theorem qja : T.code qao = some qd6 := rfl
theorem qmt : T.code qcj = some qdf := rfl
theorem qkr : T.code qb6 = some qc6 := rfl
theorem qdr : T.code qab = some qan := rfl
theorem qn4 : T.code qa3 = some qgn := rfl
theorem qgq : T.code qat = some qbl := rfl
theorem qp1 : T.code qcv = some qiq := rfl
theorem qm3 : T.code qa9 = some qcq := rfl
theorem q1u : T.code qex = some qkl := rfl
theorem qlr : T.code qax = some qcf := rfl
theorem qvj : T.code qhq = some qhr := rfl
theorem qru : T.code qfa = some qdd := rfl
theorem qyc : T.code qdz = some qo5 := rfl
theorem qr9 : T.code qe7 = some qf9 := rfl
theorem qnv : T.code qc4 = some qfx := rfl
theorem qvp : T.code qh3 = some qlu := rfl
theorem qqz : T.code qd1 = some qfp := rfl
theorem qpj : T.code qdx = some qhx := rfl
theorem qqk : T.code qbv = some qdt := rfl
theorem qvi : T.code qen = some qlp := rfl
theorem qvm : T.code qfg = some qls := rfl
theorem qcr : T.code qcx = some qc3 := rfl
theorem qmc : T.code qb3 = some qe2 := rfl
theorem qmh : T.code qb4 = some qe4 := rfl
theorem qlw : T.code qby = some qem := rfl
theorem qme : T.code qbr = some qd3 := rfl
theorem qlx : T.code qbx = some qdo := rfl
theorem qmw : T.code qb5 = some qea := rfl
theorem qmg : T.code qb2 = some qcp := rfl
theorem qmn : T.code qb7 = some qfh := rfl
theorem qww : T.code qi0 = some qk0 := rfl
theorem qs1 : T.code qep = some qko := rfl
theorem qlo : T.code qcl = some qcm := rfl
theorem qn8 : T.code qa1 = some qc0 := rfl
theorem qpn : T.code qam = some qdj := rfl
theorem qul : T.code qd8 = some qjv := rfl
theorem qqy : T.code qd4 = some qjf := rfl
theorem qk7 : T.code qbj = some qdi := rfl
theorem qmq : T.code qb8 = some qfk := rfl
theorem qqq : T.code qbi = some qd0 := rfl
theorem qvd : T.code qhn = some qlj := rfl
theorem qvk : T.code qh1 = some qlq := rfl
theorem qpm : T.code qay = some qdg := rfl
theorem qq2 : T.ext qe3 = none ∧ T.ins qe3 = none := ⟨rfl, rfl⟩
theorem ext_law23_head : T.ext qi5 = none ∧ T.ins qi5 = none := ⟨rfl, rfl⟩
theorem q1z : T.ext qku = none ∧ T.ins qku = none := ⟨rfl, rfl⟩
theorem qv9 : T.ext qhw = none ∧ T.ins qhw = none := ⟨rfl, rfl⟩
theorem qvl : T.ext qeo = none ∧ T.ins qeo = none := ⟨rfl, rfl⟩
theorem qse : T.ext qdq = none ∧ T.ins qdq = none := ⟨rfl, rfl⟩
theorem qs5 : T.ext qef = none ∧ T.ins qef = none := ⟨rfl, rfl⟩
theorem qxg : T.ext qhy = none ∧ T.ins qhy = none := ⟨rfl, rfl⟩
theorem q3q : T.ext qe9 = none ∧ T.ins qe9 = none := ⟨rfl, rfl⟩
theorem ext_law19_Base : T.ext qj8 = none ∧ T.ins qj8 = none := ⟨rfl, rfl⟩
theorem q56 : T.ext qil = none ∧ T.ins qil = none := ⟨rfl, rfl⟩
theorem quf : T.ext qet = none ∧ T.ins qet = none := ⟨rfl, rfl⟩
theorem qu1 : T.ext qfo = none ∧ T.ins qfo = none := ⟨rfl, rfl⟩
theorem qxc : T.ext qh0 = none ∧ T.ins qh0 = none := ⟨rfl, rfl⟩
theorem qsk : T.ext qe6 = none ∧ T.ins qe6 = none := ⟨rfl, rfl⟩
theorem qwf : T.ext qhu = none ∧ T.ins qhu = none := ⟨rfl, rfl⟩
theorem qox : T.ext qc9 = none ∧ T.ins qc9 = none := ⟨rfl, rfl⟩
theorem qni : T.ext qcy = none ∧ T.ins qcy = none := ⟨rfl, rfl⟩
theorem qmy : T.ext qcs = none ∧ T.ins qcs = none := ⟨rfl, rfl⟩
theorem qno : T.ext qcz = none ∧ T.ins qcz = none := ⟨rfl, rfl⟩
theorem qoy : T.ext qck = none ∧ T.ins qck = none := ⟨rfl, rfl⟩
theorem qtp : T.ext qes = none ∧ T.ins qes = none := ⟨rfl, rfl⟩
theorem qhh : T.ext qaq = none ∧ T.ins qaq = none := ⟨rfl, rfl⟩
theorem q5t : T.ext qg6 = none ∧ T.ins qg6 = none := ⟨rfl, rfl⟩
theorem qq3 : T.ext qc7 = none ∧ T.ins qc7 = none := ⟨rfl, rfl⟩
theorem qxn : T.ext qho = none ∧ T.ins qho = none := ⟨rfl, rfl⟩
theorem qwo : T.ext qhv = none ∧ T.ins qhv = none := ⟨rfl, rfl⟩
theorem qxd : T.ext qh5 = none ∧ T.ins qh5 = none := ⟨rfl, rfl⟩
theorem qvq : T.ext qgu = none ∧ T.ins qgu = none := ⟨rfl, rfl⟩
theorem qu4 : T.ext qfl = none ∧ T.ins qfl = none := ⟨rfl, rfl⟩
theorem qi6 : T.ext qcb = none ∧ T.ins qcb = none := ⟨rfl, rfl⟩
theorem qvt : T.ext qg0 = none ∧ T.ins qg0 = none := ⟨rfl, rfl⟩
theorem qj0 : T.ext qdn = none ∧ T.ins qdn = none := ⟨rfl, rfl⟩
theorem qss : T.ext qee = none ∧ T.ins qee = none := ⟨rfl, rfl⟩
theorem qm4 : T.ext qfb = none ∧ T.ins qfb = none := ⟨rfl, rfl⟩
theorem qt9 : T.ext qeb = none ∧ T.ins qeb = none := ⟨rfl, rfl⟩
theorem qpw : T.ext qc8 = none ∧ T.ins qc8 = none := ⟨rfl, rfl⟩
theorem qh8 : T.ext qav = none ∧ T.ins qav = none := ⟨rfl, rfl⟩
theorem qty : T.ext qch = none ∧ T.ins qch = none := ⟨rfl, rfl⟩
theorem q4d : T.ext qf3 = none ∧ T.ins qf3 = none := ⟨rfl, rfl⟩
theorem q2e : T.ext qev = none ∧ T.ins qev = none := ⟨rfl, rfl⟩
theorem qw2 : T.ext qh2 = none ∧ T.ins qh2 = none := ⟨rfl, rfl⟩
theorem qv5 : T.ext qh4 = none ∧ T.ins qh4 = none := ⟨rfl, rfl⟩
theorem qkx : T.ext qer = none ∧ T.ins qer = none := ⟨rfl, rfl⟩
theorem qtr : T.ext qfu = none ∧ T.ins qfu = none := ⟨rfl, rfl⟩
theorem qjk : T.ext qao = none ∧ T.ins qao = none := ⟨rfl, rfl⟩
theorem qnh : T.ext qcj = none ∧ T.ins qcj = none := ⟨rfl, rfl⟩
theorem qk4 : T.ext qb6 = none ∧ T.ins qb6 = none := ⟨rfl, rfl⟩
theorem qdu : T.ext qab = none ∧ T.ins qab = none := ⟨rfl, rfl⟩
theorem qo4 : T.ext qa3 = none ∧ T.ins qa3 = none := ⟨rfl, rfl⟩
theorem qgz : T.ext qat = none ∧ T.ins qat = none := ⟨rfl, rfl⟩
theorem qq1 : T.ext qcv = none ∧ T.ins qcv = none := ⟨rfl, rfl⟩
theorem qnn : T.ext qa9 = none ∧ T.ins qa9 = none := ⟨rfl, rfl⟩
theorem q2f : T.ext qex = none ∧ T.ins qex = none := ⟨rfl, rfl⟩
theorem ql0 : T.ext qax = none ∧ T.ins qax = none := ⟨rfl, rfl⟩
theorem qxb : T.ext qhq = none ∧ T.ins qhq = none := ⟨rfl, rfl⟩
theorem qsq : T.ext qfa = none ∧ T.ins qfa = none := ⟨rfl, rfl⟩
theorem q0q : T.ext qdz = none ∧ T.ins qdz = none := ⟨rfl, rfl⟩
theorem qsu : T.ext qe7 = none ∧ T.ins qe7 = none := ⟨rfl, rfl⟩
theorem qoc : T.ext qc4 = none ∧ T.ins qc4 = none := ⟨rfl, rfl⟩
theorem qxt : T.ext qh3 = none ∧ T.ins qh3 = none := ⟨rfl, rfl⟩
theorem qry : T.ext qd1 = none ∧ T.ins qd1 = none := ⟨rfl, rfl⟩
theorem qp6 : T.ext qdx = none ∧ T.ins qdx = none := ⟨rfl, rfl⟩
theorem qq7 : T.ext qbv = none ∧ T.ins qbv = none := ⟨rfl, rfl⟩
theorem qwu : T.ext qen = none ∧ T.ins qen = none := ⟨rfl, rfl⟩
theorem qxf : T.ext qfg = none ∧ T.ins qfg = none := ⟨rfl, rfl⟩
theorem qc2 : T.ext qcx = none ∧ T.ins qcx = none := ⟨rfl, rfl⟩
theorem qmr : T.ext qb3 = none ∧ T.ins qb3 = none := ⟨rfl, rfl⟩
theorem qmo : T.ext qb4 = none ∧ T.ins qb4 = none := ⟨rfl, rfl⟩
theorem ql5 : T.ext qby = none ∧ T.ins qby = none := ⟨rfl, rfl⟩
theorem qm0 : T.ext qbr = none ∧ T.ins qbr = none := ⟨rfl, rfl⟩
theorem ql6 : T.ext qbx = none ∧ T.ins qbx = none := ⟨rfl, rfl⟩
theorem qnq : T.ext qb5 = none ∧ T.ins qb5 = none := ⟨rfl, rfl⟩
theorem qmv : T.ext qb2 = none ∧ T.ins qb2 = none := ⟨rfl, rfl⟩
theorem qnr : T.ext qb7 = none ∧ T.ins qb7 = none := ⟨rfl, rfl⟩
theorem qyt : T.ext qi0 = none ∧ T.ins qi0 = none := ⟨rfl, rfl⟩
theorem qtn : T.ext qep = none ∧ T.ins qep = none := ⟨rfl, rfl⟩
theorem qmk : T.ext qcl = none ∧ T.ins qcl = none := ⟨rfl, rfl⟩
theorem qon : T.ext qa1 = none ∧ T.ins qa1 = none := ⟨rfl, rfl⟩
theorem qpr : T.ext qam = none ∧ T.ins qam = none := ⟨rfl, rfl⟩
theorem quz : T.ext qd8 = none ∧ T.ins qd8 = none := ⟨rfl, rfl⟩
theorem qro : T.ext qd4 = none ∧ T.ins qd4 = none := ⟨rfl, rfl⟩
theorem qlv : T.ext qbj = none ∧ T.ins qbj = none := ⟨rfl, rfl⟩
theorem qnz : T.ext qb8 = none ∧ T.ins qb8 = none := ⟨rfl, rfl⟩
theorem qq6 : T.ext qbi = none ∧ T.ins qbi = none := ⟨rfl, rfl⟩
theorem qw6 : T.ext qhn = none ∧ T.ins qhn = none := ⟨rfl, rfl⟩
theorem qxl : T.ext qh1 = none ∧ T.ins qh1 = none := ⟨rfl, rfl⟩
theorem qpp : T.ext qay = none ∧ T.ins qay = none := ⟨rfl, rfl⟩
theorem qn7 : T.ext qb9 = some (qrg 1 24) := rfl
theorem qht : T.ext qa4 = some (qrg 6 64) := rfl
theorem qj6 : T.ext qci = some (qrg 4 48) := rfl
theorem qnj : T.ext qec = some (qrg 1 8) := rfl
theorem qhf : T.ins qbd = some (6, 64) := rfl
theorem qhc : T.ext qbd = none := rfl
def qbz (n : Int) : List AV := [(ii n)]
theorem int_lo (n : Nat) (x : Int) : los n (qbz x) = true := rfl
theorem int_pl (x : Int) : (qbz x).length = 1 ∧ qo (qbz x) = true := ⟨rfl, rfl⟩
theorem qx (n : Nat) (l : List Int) : qiz n (l.map qbz) = true := qkk (int_lo n) l
theorem q6a (l : List Int) : qce 1 (l.map qbz) = true := qks int_pl l
def qel (l : List Int) : List AV := [(.fsl ((l).map qbz) false)]
theorem key_lo (n : Nat) (l : List Int) : los n (qel l) = true := by simp only [qel, los, AV.lo, qx, zfc]
theorem key_pl (l : List Int) : (qel l).length = 1 ∧ qo (qel l) = true := ⟨rfl, rfl⟩
theorem qbm (n : Nat) (l : List (List Int)) : qiz n (l.map qel) = true := qkk (key_lo n) l
theorem keys_ok (l : List (List Int)) : qce 1 (l.map qel) = true := qks key_pl l
structure OpI where
  code : Int
  a : Int
  b : Int
  c : Int
  deriving DecidableEq
def OpI.r (x : OpI) : List AV := [(ii x.code), (ii x.a), (ii x.b), (ii x.c)]
theorem op_lo (n : Nat) (x : OpI) : los n x.r = true := rfl
theorem qhp (n : Nat) (l : List OpI) : qiz n (l.map OpI.r) = true := qkk (op_lo n) l
def qcd (p : List OpI) : List AV := [(.fsl ((p).map OpI.r) false)]
theorem progC_lo (n : Nat) (l : List OpI) : los n (qcd l) = true := by simp only [qcd, los, AV.lo, qhp, zfc]
theorem qaw (n : Nat) (l : List (List OpI)) : qiz n (l.map qcd) = true := qkk (progC_lo n) l
structure Start where
  prog : Int
  time : Int
  deriving DecidableEq
def Start.r (x : Start) : List AV := [(ii x.prog), (ii x.time)]
theorem start_lo (n : Nat) (x : Start) : los n x.r = true := rfl
theorem q7m (n : Nat) (l : List Start) : qiz n (l.map Start.r) = true := qkk (start_lo n) l
def lpC (p : List Start) : List AV := [(.fsl ((p).map Start.r) false)]
theorem lpC_lo (n : Nat) (l : List Start) : los n (lpC l) = true := by simp only [lpC, los, AV.lo, q7m, zfc]
theorem qca (n : Nat) (l : List (List Start)) : qiz n (l.map lpC) = true := qkk (lpC_lo n) l
structure Cfg where
  lps : List (List Start)
  progs : List (List OpI)
  look : Int
  fin : Int
  cap : Int
def qqf (n : Int) : Bool := decide (n ≥ 1) && decide (n ≤ 1099511627776)
def quw (n : Int) : Bool := decide (n ≥ -1073741824) && decide (n ≤ 1073741824)
theorem qkw (n : Int) : qa8 (evL T) qen [(ii n)] = some (bb (qqf n)) := by
  rw [qa8, qae qwu qvi]
  by_cases h1 : n ≥ 1 <;> simp only [qqf, qlp, h1, qk, Ev.exec, qb, qe, qc, qah, Ev.Opnd.ev, Ev.Env.get, Ev.Env.set, Ev.Env.unset, Ev.look, ql, ql4, qbq, qj, qs, qak, Ev.kill, qai, qg, qbc, qac, ↓qn, ↓reduceIte, List.length_cons, List.length_nil, zfe, Nat.reduceEqDiff, reduceCtorEq, decide_true, decide_false, Bool.true_and, zfa, and_self, zfd, eq_self, Bool.false_and]
theorem qnm (n : Int) : qa8 (evL T) qfg [(ii n)] = some (bb (quw n)) := by
  rw [qa8, qae qxf qvm]
  by_cases h1 : n ≥ -1073741824 <;> simp only [quw, qls, h1, qk, Ev.exec, qb, qe, qc, qah, Ev.Opnd.ev, Ev.Env.get, Ev.Env.set, Ev.Env.unset, Ev.look, ql, ql4, qbq, qj, qs, qak, Ev.kill, qai, qg, qbc, qac, ↓qn, ↓reduceIte, List.length_cons, List.length_nil, zfe, Nat.reduceEqDiff, Int.reduceNeg, reduceCtorEq, decide_true, decide_false, Bool.true_and, zfa, and_self, zfd, eq_self, Bool.false_and]
def qyu (x : OpI) (n ps : Int) : Bool :=
  if x.code = 1 then qqf x.a && (decide (x.b = 0) && decide (x.c = 0))
  else if x.code = 2 then decide (x.a ≥ 0) && (quw x.b && qqf x.c)
  else if x.code = 3 then qqf x.a && (decide (x.b ≥ 0) && (decide (x.b < n) && decide (x.c = 0)))
  else if x.code = 5 then decide (x.a ≥ 0) && (decide (x.a < ps) && (qqf x.b && decide (x.c = 0)))
  else if x.code = 6 then decide (x.a ≥ 0) && (decide (x.a < 2) && (quw x.b && decide (x.c = 0)))
  else if x.code = 7 then decide (x.a ≥ 0) && (decide (x.a < 2) && (quw x.b && (decide (x.c ≥ 0) && decide (x.c < n))))
  else decide (x.a = 0) && (decide (x.b = 0) && decide (x.c = 0))
theorem qn5 (x : OpI) (n ps : Int) : qa8 (evL T) qfa [(.agg [(ii x.code), (ii x.a), (ii x.b), (ii x.c)]), (ii n), (ii ps)] = some (bb (qyu x n ps)) := by
  obtain ⟨k, a, b, c⟩ := x
  rw [qa8, qae qsq qru]
  simp only [qyu]
  by_cases k1 : k = 1
  · subst k1
    cases h1 : qqf a <;> by_cases h2 : b = 0 <;> simp only [qdd, qkw, h1, h2, qk, Ev.exec, qb, qe, qc, qa5, qah, Ev.evs, Ev.Opnd.ev, Ev.Env.get, Ev.Env.set, Ev.Env.unset, Ev.look, ql, qf, qv, Ev.AV.cells, qo, Ev.AV.plain, qas, qj, qs, qak, Ev.kill, qai, qg, qbc, qh, qd, qac, ↓qn, ↓reduceIte, List.length_cons, List.length_nil, zfe, List.drop_succ_cons, List.drop_zero, List.head?_cons, Nat.reduceAdd, Nat.reduceEqDiff, decide_true, decide_false, zfc, Bool.true_and, zfa, and_self, ne_eq, zfb, zff, zfd, eq_self, Bool.false_and, Bool.and_false]
  by_cases k2 : k = 2
  · subst k2
    by_cases h1 : a ≥ 0 <;> cases h2 : quw b <;> simp only [qdd, qkw, qnm, h1, h2, qk, Ev.exec, qb, qe, qc, qa5, qah, Ev.evs, Ev.Opnd.ev, Ev.Env.get, Ev.Env.set, Ev.Env.unset, Ev.look, ql, qf, qv, Ev.AV.cells, qo, Ev.AV.plain, qas, qbq, qj, qs, qak, Ev.kill, qai, qg, qbc, qh, qd, qac, ↓qn, ↓reduceIte, List.length_cons, List.length_nil, zfe, List.drop_succ_cons, List.drop_zero, List.head?_cons, Nat.reduceAdd, Nat.reduceEqDiff, Int.reduceEq, decide_true, decide_false, zfc, Bool.true_and, zfa, and_self, ne_eq, zfb, zff, zfd, eq_self, Bool.false_and, Bool.and_false]
  by_cases k3 : k = 3
  · subst k3
    cases h1 : qqf a <;> by_cases h2 : b ≥ 0 <;> by_cases h3 : b < n <;> simp only [qdd, qkw, h1, h2, h3, qk, Ev.exec, qb, qe, qc, qa5, qah, Ev.evs, Ev.Opnd.ev, Ev.Env.get, Ev.Env.set, Ev.Env.unset, Ev.look, ql, qf, qv, Ev.AV.cells, qo, Ev.AV.plain, qas, qi, qbq, qj, qs, qak, Ev.kill, qai, qg, qbc, qh, qd, qac, ↓qn, ↓reduceIte, List.length_cons, List.length_nil, zfe, List.drop_succ_cons, List.drop_zero, List.head?_cons, Nat.reduceAdd, Nat.reduceEqDiff, Int.reduceEq, reduceCtorEq, decide_true, decide_false, zfc, Bool.true_and, zfa, and_self, ne_eq, zfb, zff, zfd, eq_self, Bool.false_and, Bool.and_false]
  by_cases k5 : k = 5
  · subst k5
    by_cases h1 : a ≥ 0 <;> by_cases h2 : a < ps <;> cases h3 : qqf b <;> simp only [qdd, qkw, h1, h2, h3, qk, Ev.exec, qb, qe, qc, qa5, qah, Ev.evs, Ev.Opnd.ev, Ev.Env.get, Ev.Env.set, Ev.Env.unset, Ev.look, ql, qf, qv, Ev.AV.cells, qo, Ev.AV.plain, qas, qi, qbq, qj, qs, qak, Ev.kill, qai, qg, qbc, qh, qd, qac, ↓qn, ↓reduceIte, List.length_cons, List.length_nil, zfe, List.drop_succ_cons, List.drop_zero, List.head?_cons, Nat.reduceAdd, Nat.reduceEqDiff, Int.reduceEq, reduceCtorEq, decide_true, decide_false, zfc, Bool.true_and, zfa, and_self, ne_eq, zfb, zff, zfd, eq_self, Bool.false_and, Bool.and_false]
  by_cases k6 : k = 6
  · subst k6
    by_cases h1 : a ≥ 0 <;> by_cases h2 : a < 2 <;> cases h3 : quw b <;> simp only [qdd, qnm, h1, h2, h3, qk, Ev.exec, qb, qe, qc, qa5, qah, Ev.evs, Ev.Opnd.ev, Ev.Env.get, Ev.Env.set, Ev.Env.unset, Ev.look, ql, qf, qv, Ev.AV.cells, qo, Ev.AV.plain, qas, qi, qbq, qj, qs, qak, Ev.kill, qai, qg, qbc, qh, qd, qac, ↓qn, ↓reduceIte, List.length_cons, List.length_nil, zfe, List.drop_succ_cons, List.drop_zero, List.head?_cons, Nat.reduceAdd, Nat.reduceEqDiff, Int.reduceEq, decide_true, decide_false, zfc, Bool.true_and, zfa, and_self, ne_eq, zfb, zff, zfd, eq_self, Bool.false_and, Bool.and_false]
  by_cases k7 : k = 7
  · subst k7
    by_cases h1 : a ≥ 0 <;> by_cases h2 : a < 2 <;> cases h3 : quw b <;> by_cases h4 : c ≥ 0 <;> simp only [qdd, qnm, h1, h2, h3, h4, qk, Ev.exec, qb, qe, qc, qa5, qah, Ev.evs, Ev.Opnd.ev, Ev.Env.get, Ev.Env.set, Ev.Env.unset, Ev.look, ql, qf, qv, Ev.AV.cells, qo, Ev.AV.plain, qas, qi, qbq, qj, qs, qak, Ev.kill, qai, qg, qbc, qh, qd, qac, ↓qn, ↓reduceIte, List.length_cons, List.length_nil, zfe, List.drop_succ_cons, List.drop_zero, List.head?_cons, Nat.reduceAdd, Nat.reduceEqDiff, Int.reduceEq, reduceCtorEq, decide_true, decide_false, zfc, Bool.true_and, zfa, and_self, ne_eq, zfb, zff, zfd, eq_self, Bool.false_and, Bool.and_false]
  by_cases h1 : a = 0 <;> by_cases h2 : b = 0 <;> simp only [qdd, k1, k2, k3, k5, k6, k7, h1, h2, qk, Ev.exec, qb, qe, qc, qah, Ev.Opnd.ev, Ev.Env.get, Ev.Env.set, Ev.Env.unset, Ev.look, ql, qf, qv, Ev.AV.cells, qo, Ev.AV.plain, qas, qj, qs, qak, Ev.kill, qai, qg, qbc, qac, ↓qn, ↓reduceIte, List.length_cons, List.length_nil, zfe, List.drop_succ_cons, List.drop_zero, List.head?_cons, Nat.reduceAdd, Nat.reduceEqDiff, decide_true, decide_false, zfc, Bool.true_and, zfa, and_self, ne_eq, zfb, zff, zfd, eq_self, Bool.false_and, Bool.and_false]
def q1f (x : OpI) : Bool := decide (x.code ≥ 1) && decide (x.code ≤ 8)
def qpu (p : List OpI) : Bool := decide (1 ≤ p.length ∧ p.length ≤ 16) && p.all q1f
def q69 (lps : Int) (x : OpI) : Bool := !(decide (x.code = 2) && decide (x.a ≥ lps))
def qpt (look : Int) (x : OpI) : Bool := !(decide (x.code = 2) && decide (x.c < look))
def qo9 (p : List OpI) (ps lps look : Int) : Int :=
  if qpu p = false then 22 else if p.all (fun x => qyu x p.length ps) = false then 22 else if p.all (q69 lps) = false then 23 else if p.all (qpt look) = false then 21 else 0
section
variable (p : List OpI) (c : Bool) (ps lps look : Int)
theorem qzt (hl : p.length ≤ 16) :
    ∃ y, itB (exec (evL T) itL none qga) (qr [0, 3] true 0) ⟨[(0, (.fsl ((p).map OpI.r) c)), (3, (ii 0))], []⟩ [] = some y ∧ (p.all q1f = true ∧ (y.1 = .exit 0 ∧ y.2.1.marks = [] ∧ y.2.2 = []) ∨
      p.all q1f = false ∧ ∃ x, p.find? (fun x => !q1f x) = some x ∧ (y.1 = .ret ∧ y.2.1.marks = [] ∧ y.2.2 = [] ∧ Ev.look y.2.1.vars 2 = some (bb false))) := by
  refine qhs p (fun i => ⟨[(0, (.fsl ((p).map OpI.r) c)), (3, (ii i))], []⟩) [] q1f _ (fun _ y => _) ?_ ?_ ?_
  · intro i x hi hx hp
    have hi' : (i : Int) < (p.length : Int) := by omega
    have hw : IntKind.i64.wrap ((i : Int) + 1) = ((i + 1 : Nat) : Int) := by rw [qar (by omega) (by omega)]; simp
    simp only [q1f, Bool.and_eq_true, decide_eq_true_eq] at hp
    have h1 : ¬ x.code < 1 := by omega
    have h2 : ¬ x.code > 8 := by omega
    simp only [qga, Int.natCast_nonneg, Int.toNat_natCast, List.getElem?_map, Option.map_some, OpI.r, hx, hi', hw, h1, h2, qhp, Ev.exec, qb, qe, qc, qah, Ev.Opnd.ev, Ev.Env.get, Ev.Env.set, Ev.look, qf, qv, qap, qi, qbb, qr, Ev.keep, qal, qad, qg, qbc, qm, List.length_map, ↓qn, Ev.it1, ↓reduceIte, List.length_cons, List.length_nil, zfe, List.drop_zero, List.head?_cons, Nat.reduceAdd, Nat.reduceEqDiff, reduceCtorEq, decide_true, decide_false, zfc, zfa, and_self, zfd, eq_self]
  · intro i x hi hx hp
    have hi' : (i : Int) < (p.length : Int) := by omega
    simp only [q1f, Bool.and_eq_false_iff, decide_eq_false_iff_not] at hp
    by_cases h1 : x.code < 1
    · simp only [qga, Int.natCast_nonneg, Int.toNat_natCast, List.getElem?_map, Option.map_some, OpI.r, hx, hi', h1, Ev.exec, qb, qe, qc, qah, Ev.Opnd.ev, Ev.Env.get, Ev.Env.set, Ev.Env.unset, Ev.look, qf, qv, qi, List.length_map, ↓qn, Ev.it1, ↓reduceIte, List.length_cons, List.length_nil, List.drop_zero, List.head?_cons, Nat.reduceAdd, Nat.reduceEqDiff, reduceCtorEq, decide_true, zfa, Bool.true_eq_false, zfd, eq_self]
      exact ⟨_, rfl, rfl, rfl, rfl, rfl⟩
    · have h2 : x.code > 8 := by omega
      simp only [qga, Int.natCast_nonneg, Int.toNat_natCast, List.getElem?_map, Option.map_some, OpI.r, hx, hi', h1, h2, Ev.exec, qb, qe, qc, qah, Ev.Opnd.ev, Ev.Env.get, Ev.Env.set, Ev.look, qf, qv, qi, qbb, List.length_map, ↓qn, Ev.it1, ↓reduceIte, List.length_cons, List.length_nil, List.drop_zero, List.head?_cons, Nat.reduceAdd, Nat.reduceEqDiff, reduceCtorEq, decide_true, decide_false, zfa, zfd, eq_self]
      exact ⟨_, rfl, rfl, rfl, rfl, rfl⟩
  · simp only [qga, Int.lt_irrefl, Ev.exec, qb, qe, qc, qah, Ev.Opnd.ev, Ev.Env.get, Ev.Env.set, Ev.look, qi, List.length_map, ↓qn, Ev.it1, ↓reduceIte, Nat.reduceEqDiff, reduceCtorEq, decide_false, zfa, eq_self]
    exact ⟨_, rfl, rfl, rfl, rfl⟩
theorem qyk : qa8 (evL T) qhq [(.fsl ((p).map OpI.r) c)] = some (bb (qpu p)) := by
  rw [qa8, qae qxb qvj]
  by_cases h1 : (p.length : Int) < 1
  · have : ¬ (1 ≤ p.length ∧ p.length ≤ 16) := by omega
    simp only [qhr, qpu, this, h1, qk, Ev.exec, qb, qe, qc, qah, Ev.Opnd.ev, Ev.Env.get, Ev.Env.set, Ev.Env.unset, Ev.look, ql, qi, qj, qs, qak, Ev.kill, qai, qg, qbc, qac, List.length_map, ↓qn, ↓reduceIte, List.length_cons, List.length_nil, zfe, Nat.reduceEqDiff, reduceCtorEq, decide_true, decide_false, Bool.true_eq_false, and_self, zfd, eq_self, Bool.false_and]
  by_cases h2 : (p.length : Int) > 16
  · have : ¬ (1 ≤ p.length ∧ p.length ≤ 16) := by omega
    simp only [qhr, qpu, this, h1, h2, qk, Ev.exec, qb, qe, qc, qah, Ev.Opnd.ev, Ev.Env.get, Ev.Env.set, Ev.look, ql, qi, qbb, qj, qs, qak, Ev.kill, qai, qg, qbc, qac, List.length_map, ↓qn, ↓reduceIte, List.length_cons, List.length_nil, zfe, Nat.reduceEqDiff, reduceCtorEq, decide_true, decide_false, zfa, and_self, zfd, eq_self, Bool.false_and]
  have h3 : 1 ≤ p.length ∧ p.length ≤ 16 := by omega
  obtain ⟨⟨y, e, σ⟩, k1, k2⟩ := qzt p c h3.2
  simp only at k2
  rcases k2 with ⟨k3, rfl, k4, rfl⟩ | ⟨k3, x, _, rfl, k4, rfl, k5⟩
  · simp only [qhr, qpu, h3, h1, h2, k1, k3, k4, qhp, qk, Ev.exec, qb, qe, qc, qah, Ev.Opnd.ev, Ev.Env.get, Ev.Env.set, Ev.look, ql, qi, qbb, qj, qs, qak, Ev.kill, qai, qr, Ev.keep, qal, qad, qg, qbc, qm, qac, List.length_map, ↓qn, ↓qa0, ↓reduceIte, List.length_cons, List.length_nil, zfe, Nat.reduceEqDiff, reduceCtorEq, decide_true, decide_false, zfc, zfa, and_self, zfd, eq_self]
  · simp only [qhr, qpu, h3, h1, h2, k1, k3, k4, k5, qhp, qk, Ev.exec, qb, qe, qc, qah, Ev.Opnd.ev, Ev.Env.get, Ev.Env.set, Ev.look, ql, qi, qbb, qj, qs, qak, Ev.kill, qai, qr, Ev.keep, qal, qad, qg, qbc, qm, qac, List.length_map, ↓qn, ↓qa0, ↓reduceIte, List.length_cons, List.length_nil, zfe, Nat.reduceEqDiff, reduceCtorEq, decide_true, decide_false, zfc, zfa, and_self, zfd, eq_self, Bool.and_false]
theorem qyb (hl : p.length ≤ 16) :
    ∃ y, itB (exec (evL T) itL none qij) (qr [0, 1, 2, 3, 9] true 0) ⟨[(0, (.fsl ((p).map OpI.r) c)), (1, (ii ps)), (2, (ii lps)), (3, (ii look)), (9, (ii 0))], []⟩ [] = some y ∧
      (p.all (fun x => qyu x p.length ps) = true ∧ (y.1 = .exit 0 ∧ y.2.1.marks = [] ∧ y.2.2 = [] ∧ Ev.look y.2.1.vars 0 = some (.fsl ((p).map OpI.r) c) ∧ Ev.look y.2.1.vars 2 = some (ii lps) ∧ Ev.look y.2.1.vars 3 = some (ii look)) ∨
      p.all (fun x => qyu x p.length ps) = false ∧ ∃ x, p.find? (fun x => !qyu x p.length ps) = some x ∧ (y.1 = .ret ∧ y.2.1.marks = [] ∧ y.2.2 = [] ∧ Ev.look y.2.1.vars 8 = some (ii 22))) := by
  refine qhs p (fun i => ⟨[(0, (.fsl ((p).map OpI.r) c)), (1, (ii ps)), (2, (ii lps)), (3, (ii look)), (9, (ii i))], []⟩) [] (fun x => qyu x p.length ps) _ (fun _ y => _) ?_ ?_ ?_
  · intro i x hi hx hp
    have hi' : (i : Int) < (p.length : Int) := by omega
    have hw : IntKind.i64.wrap ((i : Int) + 1) = ((i + 1 : Nat) : Int) := by rw [qar (by omega) (by omega)]; simp
    simp only [qij, Int.natCast_nonneg, Int.toNat_natCast, List.getElem?_map, Option.map_some, OpI.r, hx, hi', hw, qn5, hp, qhp, Ev.exec, qb, qe, qc, qa5, qah, Ev.evs, Ev.Opnd.ev, Ev.Env.get, Ev.Env.set, Ev.look, qf, qv, qap, qi, qr, Ev.keep, qal, qad, qg, qbc, qa2, qm, qh, qd, List.length_map, ↓qn, Ev.it1, ↓reduceIte, List.length_cons, List.length_nil, List.take_succ_cons, zfe, Nat.reduceAdd, Nat.reduceEqDiff, reduceCtorEq, decide_true, zfc, Bool.not_true, zfa, and_self, zfd, Nat.le_refl, eq_self]
  · intro i x hi hx hp
    have hi' : (i : Int) < (p.length : Int) := by omega
    simp only [qij, Int.natCast_nonneg, Int.toNat_natCast, List.getElem?_map, Option.map_some, OpI.r, hx, hi', qn5, hp, Ev.exec, qb, qe, qc, qa5, qah, Ev.evs, Ev.Opnd.ev, Ev.Env.get, Ev.Env.set, Ev.look, qf, qv, qi, qbc, qa2, qh, qd, List.length_map, ↓qn, Ev.it1, ↓reduceIte, List.length_cons, List.length_nil, List.take_succ_cons, zfe, Nat.reduceAdd, Nat.reduceEqDiff, reduceCtorEq, decide_true, zfc, Bool.not_false, zfd, Nat.le_refl, eq_self]
    exact ⟨_, rfl, rfl, rfl, rfl, rfl⟩
  · simp only [qij, Int.lt_irrefl, Ev.exec, qb, qe, qc, qah, Ev.Opnd.ev, Ev.Env.get, Ev.Env.set, Ev.look, qi, List.length_map, ↓qn, Ev.it1, ↓reduceIte, Nat.reduceEqDiff, reduceCtorEq, decide_false, zfa, eq_self]
    exact ⟨_, rfl, rfl, rfl, rfl, rfl, rfl, rfl⟩
theorem qyy (hl : p.length ≤ 16) :
    ∃ y, itB (exec (evL T) itL none qf5) (qr [0, 2, 3, 10] true 0) ⟨[(0, (.fsl ((p).map OpI.r) c)), (2, (ii lps)), (3, (ii look)), (10, (ii 0))], []⟩ [] = some y ∧
      (p.all (q69 lps) = true ∧ (y.1 = .exit 2 ∧ y.2.1.marks = [] ∧ y.2.2 = [] ∧ Ev.look y.2.1.vars 0 = some (.fsl ((p).map OpI.r) c) ∧ Ev.look y.2.1.vars 3 = some (ii look)) ∨
      p.all (q69 lps) = false ∧ ∃ x, p.find? (fun x => !q69 lps x) = some x ∧ (y.1 = .ret ∧ y.2.1.marks = [] ∧ y.2.2 = [] ∧ Ev.look y.2.1.vars 8 = some (ii 23))) := by
  refine qhs p (fun i => ⟨[(0, (.fsl ((p).map OpI.r) c)), (2, (ii lps)), (3, (ii look)), (10, (ii i))], []⟩) [] (q69 lps) _ (fun _ y => _) ?_ ?_ ?_
  · intro i x hi hx hp
    have hi' : (i : Int) < (p.length : Int) := by omega
    have hw : IntKind.i64.wrap ((i : Int) + 1) = ((i + 1 : Nat) : Int) := by rw [qar (by omega) (by omega)]; simp
    by_cases h1 : x.code = 2
    · have h2 : ¬ x.a ≥ lps := by simpa [q69, h1] using hp
      simp only [qf5, Int.natCast_nonneg, Int.toNat_natCast, List.getElem?_map, Option.map_some, OpI.r, hx, hi', hw, h1, h2, qhp, Ev.exec, qb, qe, qc, qah, Ev.Opnd.ev, Ev.Env.get, Ev.Env.set, Ev.look, qf, qv, qap, qas, qi, qbq, qr, Ev.keep, qal, qad, qg, qbc, qm, List.length_map, ↓qn, Ev.it1, ↓reduceIte, List.length_cons, List.length_nil, zfe, List.drop_succ_cons, List.drop_zero, List.head?_cons, Nat.reduceAdd, Nat.reduceEqDiff, reduceCtorEq, decide_true, decide_false, zfc, zfa, and_self, zfd, eq_self]
    · simp only [qf5, Int.natCast_nonneg, Int.toNat_natCast, List.getElem?_map, Option.map_some, OpI.r, hx, hi', hw, h1, qhp, Ev.exec, qb, qe, qc, qah, Ev.Opnd.ev, Ev.Env.get, Ev.Env.set, Ev.Env.unset, Ev.look, qf, qv, qap, qas, qi, qr, Ev.keep, qal, qad, qg, qbc, qm, List.length_map, ↓qn, Ev.it1, ↓reduceIte, List.length_cons, List.length_nil, zfe, List.drop_zero, List.head?_cons, Nat.reduceAdd, Nat.reduceEqDiff, reduceCtorEq, decide_true, decide_false, zfc, zfa, and_self, zfd, eq_self]
  · intro i x hi hx hp
    have hi' : (i : Int) < (p.length : Int) := by omega
    have h1 : x.code = 2 := by
      by_cases h1 : x.code = 2
      · exact h1
      · simp [q69, h1] at hp
    have h2 : x.a ≥ lps := by simpa [q69, h1] using hp
    simp only [qf5, Int.natCast_nonneg, Int.toNat_natCast, List.getElem?_map, Option.map_some, OpI.r, hx, hi', h1, h2, Ev.exec, qb, qe, qc, qah, Ev.Opnd.ev, Ev.Env.get, Ev.Env.set, Ev.look, qf, qv, qas, qi, qbq, List.length_map, ↓qn, Ev.it1, ↓reduceIte, List.length_cons, List.length_nil, List.drop_succ_cons, List.drop_zero, List.head?_cons, Nat.reduceAdd, Nat.reduceEqDiff, reduceCtorEq, decide_true, zfa, zfd, eq_self]
    exact ⟨_, rfl, rfl, rfl, rfl, rfl⟩
  · simp only [qf5, Int.lt_irrefl, Ev.exec, qb, qe, qc, qah, Ev.Opnd.ev, Ev.Env.get, Ev.Env.set, Ev.look, qi, List.length_map, ↓qn, Ev.it1, ↓reduceIte, Nat.reduceEqDiff, reduceCtorEq, decide_false, zfa, eq_self]
    exact ⟨_, rfl, rfl, rfl, rfl, rfl, rfl⟩
theorem qyi (hl : p.length ≤ 16) :
    ∃ y, itB (exec (evL T) itL none qf4) (qr [0, 3, 11] true 0) ⟨[(0, (.fsl ((p).map OpI.r) c)), (3, (ii look)), (11, (ii 0))], []⟩ [] = some y ∧
      (p.all (qpt look) = true ∧ (y.1 = .exit 4 ∧ y.2.1.marks = [] ∧ y.2.2 = []) ∨
      p.all (qpt look) = false ∧ ∃ x, p.find? (fun x => !qpt look x) = some x ∧ (y.1 = .ret ∧ y.2.1.marks = [] ∧ y.2.2 = [] ∧ Ev.look y.2.1.vars 8 = some (ii 21))) := by
  refine qhs p (fun i => ⟨[(0, (.fsl ((p).map OpI.r) c)), (3, (ii look)), (11, (ii i))], []⟩) [] (qpt look) _ (fun _ y => _) ?_ ?_ ?_
  · intro i x hi hx hp
    have hi' : (i : Int) < (p.length : Int) := by omega
    have hw : IntKind.i64.wrap ((i : Int) + 1) = ((i + 1 : Nat) : Int) := by rw [qar (by omega) (by omega)]; simp
    by_cases h1 : x.code = 2
    · have h2 : ¬ x.c < look := by simpa [qpt, h1] using hp
      simp only [qf4, Int.natCast_nonneg, Int.toNat_natCast, List.getElem?_map, Option.map_some, OpI.r, hx, hi', hw, h1, h2, qhp, Ev.exec, qb, qe, qc, qah, Ev.Opnd.ev, Ev.Env.get, Ev.Env.set, Ev.look, qf, qv, qap, qas, qi, qr, Ev.keep, qal, qad, qg, qbc, qm, List.length_map, ↓qn, Ev.it1, ↓reduceIte, List.length_cons, List.length_nil, zfe, List.drop_succ_cons, List.drop_zero, List.head?_cons, Nat.reduceAdd, Nat.reduceEqDiff, reduceCtorEq, decide_true, decide_false, zfc, zfa, and_self, zfd, eq_self]
    · simp only [qf4, Int.natCast_nonneg, Int.toNat_natCast, List.getElem?_map, Option.map_some, OpI.r, hx, hi', hw, h1, qhp, Ev.exec, qb, qe, qc, qah, Ev.Opnd.ev, Ev.Env.get, Ev.Env.set, Ev.Env.unset, Ev.look, qf, qv, qap, qas, qi, qr, Ev.keep, qal, qad, qg, qbc, qm, List.length_map, ↓qn, Ev.it1, ↓reduceIte, List.length_cons, List.length_nil, zfe, List.drop_zero, List.head?_cons, Nat.reduceAdd, Nat.reduceEqDiff, reduceCtorEq, decide_true, decide_false, zfc, zfa, and_self, zfd, eq_self]
  · intro i x hi hx hp
    have hi' : (i : Int) < (p.length : Int) := by omega
    have h1 : x.code = 2 := by
      by_cases h1 : x.code = 2
      · exact h1
      · simp [qpt, h1] at hp
    have h2 : x.c < look := by simpa [qpt, h1] using hp
    simp only [qf4, Int.natCast_nonneg, Int.toNat_natCast, List.getElem?_map, Option.map_some, OpI.r, hx, hi', h1, h2, Ev.exec, qb, qe, qc, qah, Ev.Opnd.ev, Ev.Env.get, Ev.Env.set, Ev.look, qf, qv, qas, qi, List.length_map, ↓qn, Ev.it1, ↓reduceIte, List.length_cons, List.length_nil, List.drop_succ_cons, List.drop_zero, List.head?_cons, Nat.reduceAdd, Nat.reduceEqDiff, reduceCtorEq, decide_true, zfa, zfd, eq_self]
    exact ⟨_, rfl, rfl, rfl, rfl, rfl⟩
  · simp only [qf4, Int.lt_irrefl, Ev.exec, qb, qe, qc, qah, Ev.Opnd.ev, Ev.Env.get, Ev.Env.set, Ev.look, qi, List.length_map, ↓qn, Ev.it1, ↓reduceIte, Nat.reduceEqDiff, reduceCtorEq, decide_false, zfa, eq_self]
    exact ⟨_, rfl, rfl, rfl, rfl⟩
theorem qq9 : qa8 (evL T) qh4 [(.fsl ((p).map OpI.r) c), (ii ps), (ii lps), (ii look)] = some (ii (qo9 p ps lps look)) := by
  have h0 := qyk p c
  rw [qa8, qae qv5 qvo]
  cases hs : qpu p with
  | false =>
    rw [hs] at h0
    simp only [qgr, qo9, h0, hs, qhp, qk, Ev.exec, qb, qe, qc, qa5, qah, Ev.evs, Ev.Opnd.ev, Ev.Env.get, Ev.Env.set, Ev.look, ql, qj, qs, qak, Ev.kill, qai, qg, qbc, qm, qh, qd, qac, ↓qn, ↓reduceIte, List.length_cons, List.length_nil, zfe, Nat.reduceAdd, reduceCtorEq, zfc, Bool.not_false, and_self, zfd, eq_self]
  | true =>
    rw [hs] at h0
    have hl : p.length ≤ 16 := by simp only [qpu, Bool.and_eq_true, decide_eq_true_eq] at hs; exact hs.1.2
    obtain ⟨⟨y1, e1, σ1⟩, k1, k2⟩ := qyb p c ps lps look hl
    obtain ⟨⟨y2, e2, σ2⟩, m1, m2⟩ := qyy p c lps look hl
    obtain ⟨⟨y3, e3, σ3⟩, n1, n2⟩ := qyi p c look hl
    simp only at k2 m2 n2
    rcases k2 with ⟨q1, rfl, q2, rfl, q3, q4, q5⟩ | ⟨q1, x, _, rfl, q2, rfl, q3⟩
    · rcases m2 with ⟨r1, rfl, r2, rfl, r3, r4⟩ | ⟨r1, x, _, rfl, r2, rfl, r3⟩
      · rcases n2 with ⟨t1, rfl, t2, rfl⟩ | ⟨t1, x, _, rfl, t2, rfl, t3⟩
        · simp only [qgr, qo9, h0, hs, k1, q1, q2, q3, q4, q5, m1, r1, r2, r3, r4, n1, t1, t2, qhp, qk, Ev.exec, qb, qe, qc, qa5, qah, Ev.evs, Ev.Opnd.ev, Ev.Env.get, Ev.Env.set, Ev.look, ql, qj, qs, qak, Ev.kill, qai, qr, Ev.keep, qal, qad, qg, qbc, qm, qh, qd, qac, ↓qn, ↓qa0, ↓reduceIte, List.length_cons, List.length_nil, zfe, Nat.reduceAdd, Nat.reduceEqDiff, reduceCtorEq, zfc, Bool.not_true, zfa, Bool.true_eq_false, and_self, zfd, eq_self]
        · simp only [qgr, qo9, h0, hs, k1, q1, q2, q3, q4, q5, m1, r1, r2, r3, r4, n1, t1, t2, t3, qhp, qk, Ev.exec, qb, qe, qc, qa5, qah, Ev.evs, Ev.Opnd.ev, Ev.Env.get, Ev.Env.set, Ev.look, ql, qj, qs, qak, Ev.kill, qai, qr, Ev.keep, qal, qad, qg, qbc, qm, qh, qd, qac, ↓qn, ↓qa0, ↓reduceIte, List.length_cons, List.length_nil, zfe, Nat.reduceAdd, Nat.reduceEqDiff, reduceCtorEq, zfc, Bool.not_true, zfa, Bool.true_eq_false, and_self, zfd, eq_self]
      · simp only [qgr, qo9, h0, hs, k1, q1, q2, q3, q4, q5, m1, r1, r2, r3, qhp, qk, Ev.exec, qb, qe, qc, qa5, qah, Ev.evs, Ev.Opnd.ev, Ev.Env.get, Ev.Env.set, Ev.look, ql, qj, qs, qak, Ev.kill, qai, qr, Ev.keep, qal, qad, qg, qbc, qm, qh, qd, qac, ↓qn, ↓qa0, ↓reduceIte, List.length_cons, List.length_nil, zfe, Nat.reduceAdd, Nat.reduceEqDiff, reduceCtorEq, zfc, Bool.not_true, zfa, Bool.true_eq_false, and_self, zfd, eq_self]
    · simp only [qgr, qo9, h0, hs, k1, q1, q2, q3, qhp, qk, Ev.exec, qb, qe, qc, qa5, qah, Ev.evs, Ev.Opnd.ev, Ev.Env.get, Ev.Env.set, Ev.look, ql, qj, qs, qak, Ev.kill, qai, qr, Ev.keep, qal, qad, qg, qbc, qm, qh, qd, qac, ↓qn, ↓qa0, ↓reduceIte, List.length_cons, List.length_nil, zfe, Nat.reduceAdd, Nat.reduceEqDiff, reduceCtorEq, zfc, Bool.not_true, zfa, Bool.true_eq_false, and_self, zfd, eq_self]
end
set_option maxRecDepth 10000
structure Pr where
  prog : Int
  pc : Int
  alive : Bool
  timer : List Int
  deriving DecidableEq
def Pr.r (x : Pr) : List AV := [(ii x.prog), (ii x.pc), (bb x.alive), (.fsl ((x.timer).map qbz) false)]
theorem pr_lo (n : Nat) (x : Pr) : los n x.r = true := by simp only [Pr.r, qx, qbc, qm, qh, qd, zfc, eq_self]
theorem pr_pl (x : Pr) : x.r.length = 4 ∧ qo x.r = true := ⟨rfl, rfl⟩
theorem qag (n : Nat) (l : List Pr) : qiz n (l.map Pr.r) = true := qkk (pr_lo n) l
theorem q0n (l : List Pr) : qce 4 (l.map Pr.r) = true := qks pr_pl l
structure Evt where
  time : Int
  key : List Int
  lp : Int
  kind : Int
  proc : Int
  arg : Int
  deriving DecidableEq
def Evt.r (x : Evt) : List AV := [(ii x.time), (.fsl ((x.key).map qbz) false), (ii x.lp), (ii x.kind), (ii x.proc), (ii x.arg)]
theorem evt_lo (n : Nat) (x : Evt) : los n x.r = true := by simp only [Evt.r, qx, qbc, qm, qh, qd, zfc, eq_self]
theorem evt_pl (x : Evt) : x.r.length = 6 ∧ qo x.r = true := ⟨rfl, rfl⟩
theorem qy (n : Nat) (l : List Evt) : qiz n (l.map Evt.r) = true := qkk (evt_lo n) l
theorem qf1 (l : List Evt) : qce 6 (l.map Evt.r) = true := qks evt_pl l
structure Lp where
  r0 : Int
  r1 : Int
  procs : List Pr
  sum : Int
  deriving DecidableEq
def Lp.r (x : Lp) : List AV := [(ii x.r0), (ii x.r1), (.fsl ((x.procs).map Pr.r) false), (ii x.sum)]
structure Ex where
  r0 : Int
  r1 : Int
  procs : List Pr
  sum : Int
  ev : Evt
  out : List Evt
  n : Int
  gone : List (List Int)
  over : Bool
def Ex.kid (x : Ex) : List Int := x.ev.key ++ [x.n]
def Ex.create (x : Ex) (d : Int) (e : Evt) : Ex :=
  { x with n := w64 (x.n + 1), out := if w64 (x.ev.time + d) > 1152921504606846976 then x.out else x.out ++ [⟨w64 (x.ev.time + d), x.kid, e.lp, e.kind, e.proc, e.arg⟩],
           over := if w64 (x.ev.time + d) > 1152921504606846976 then true else x.over }
structure Ex.Small (x : Ex) : Prop where
  procs : x.procs.length ≤ 1000
  out : x.out.length ≤ 1000
  gone : x.gone.length ≤ 1000
  key : x.ev.key.length ≤ 100000
theorem q0f (l : List Int) : qpk (l.map qbz) (l.map qbz) = true := qp3 (fun x => by simp only [qbz, qsz, qpq, qzw, decide_true, zfc, eq_self]) l
theorem eq_procs (l : List Pr) : qpk (l.map Pr.r) (l.map Pr.r) = true := qp3 (fun x => by simp only [Pr.r, q0f, qsz, qpq, qzw, q39, q0i, decide_true, zfc, eq_self, beq_self_eq_true]) l
theorem eq_evts (l : List Evt) : qpk (l.map Evt.r) (l.map Evt.r) = true := qp3 (fun x => by simp only [Evt.r, q0f, qsz, qpq, qzw, q0i, decide_true, zfc, eq_self, beq_self_eq_true]) l
theorem eq_keys (l : List (List Int)) : qpk (l.map qel) (l.map qel) = true := qp3 (fun x => by simp only [qel, q0f, qsz, qpq, q0i, zfc, eq_self, beq_self_eq_true]) l
set_option maxRecDepth 10000
def qoo (a b : Int) : Int := if a < b then -1 else if a > b then 1 else 0
theorem qla (a b : Int) : qa8 (evL T) qeb [(ii a), (ii b)] = some (ii (qoo a b)) := by
  rw [qa8, qae qt9 qtc]
  by_cases h1 : a < b
  · simp only [qg8, qoo, h1, qk, Ev.exec, qb, qe, qc, qah, Ev.Opnd.ev, Ev.Env.get, Ev.Env.set, Ev.look, ql, qi, qj, qs, qak, Ev.kill, qai, qg, qbc, qac, ↓qn, ↓reduceIte, List.length_cons, List.length_nil, zfe, Nat.reduceAdd, Nat.reduceEqDiff, Int.reduceNeg, reduceCtorEq, decide_true, and_self, zfd, eq_self]
  by_cases h2 : a > b
  · simp only [qg8, qoo, h1, h2, qk, Ev.exec, qb, qe, qc, qah, Ev.Opnd.ev, Ev.Env.get, Ev.Env.set, Ev.look, ql, qi, qbb, qj, qs, qak, Ev.kill, qai, qg, qbc, qac, ↓qn, ↓reduceIte, List.length_cons, List.length_nil, zfe, Nat.reduceAdd, Nat.reduceEqDiff, Int.reduceNeg, reduceCtorEq, decide_true, decide_false, zfa, and_self, zfd, eq_self]
  · simp only [qg8, qoo, h1, h2, qk, Ev.exec, qb, qe, qc, qah, Ev.Opnd.ev, Ev.Env.get, Ev.Env.set, Ev.look, ql, qi, qbb, qj, qs, qak, Ev.kill, qai, qg, qbc, qac, ↓qn, ↓reduceIte, List.length_cons, List.length_nil, zfe, Nat.reduceAdd, Nat.reduceEqDiff, Int.reduceNeg, reduceCtorEq, decide_false, zfa, and_self, zfd, eq_self]
def qkm : List Int → List Int → Int
  | x :: a, y :: b => if x = y then qkm a b else qoo x y
  | [], b => if b.length = 0 then 0 else -1
  | _ :: _, [] => 1
theorem qtv : ∀ a b : List Int, ((a.zip b).all (fun z => decide (z.1 = z.2)) = true → qkm a b = qoo a.length b.length) ∧ ∀ x, (a.zip b).find? (fun z => !decide (z.1 = z.2)) = some x → qkm a b = qoo x.1 x.2
  | [], b => by
    refine ⟨fun _ => ?_, fun x h => by simp at h⟩
    cases b with
    | nil => rfl
    | cons y b =>
      have : ((0 : Nat) : Int) < ((y :: b).length : Int) := by simp only [List.length_cons]; omega
      simp only [qkm, List.length_cons, Nat.succ_ne_zero, if_false, qoo, List.length_nil]
      rw [if_pos (by omega)]
  | x :: a, [] => by
    refine ⟨fun _ => ?_, fun x h => by simp at h⟩
    simp only [qkm, qoo, List.length_cons, List.length_nil]
    rw [if_neg (by omega), if_pos (by omega)]
  | x :: a, y :: b => by
    obtain ⟨h1, h2⟩ := qtv a b
    simp only [List.zip_cons_cons, List.all_cons, List.find?_cons, qkm, List.length_cons]
    by_cases h : x = y
    · simp only [h, decide_true, Bool.true_and, if_true, Bool.not_true]
      refine ⟨fun k => ?_, h2⟩
      rw [h1 k]; unfold qoo
      have e1 : ((a.length : Int) < b.length) ↔ (((a.length + 1 : Nat) : Int) < ((b.length + 1 : Nat) : Int)) := by omega
      have e2 : ((a.length : Int) > b.length) ↔ (((a.length + 1 : Nat) : Int) > ((b.length + 1 : Nat) : Int)) := by omega
      simp only [e1, e2]
    · simp only [h, decide_false, Bool.false_and, if_false, Bool.not_false]
      exact ⟨fun k => by simp at k, fun z k => by simp at k; rw [← k]⟩
theorem qwx (a b : Int) : qoo a b = 0 ↔ a = b := by
  unfold qoo; split
  · constructor <;> intro h <;> omega
  split
  · constructor <;> intro h <;> omega
  · constructor <;> intro h <;> omega
theorem qte : ∀ a b : List Int, qkm a b = 0 ↔ a = b
  | [], [] => by simp [qkm]
  | [], y :: b => by simp [qkm]
  | x :: a, [] => by simp [qkm]
  | x :: a, y :: b => by
    simp only [qkm, List.cons.injEq]
    split
    next h => rw [qte a b]; simp [h]
    next h => rw [qwx]; simp [h]
section
variable (a b : List Int) (c d : Bool)
theorem q0m (h1 : a.length ≤ 9223372036854775807) (h2 : b.length ≤ 9223372036854775807) :
    ∃ y, itB (exec (evL T) itL none qdl) (qr [0, 1, 5] true 0) ⟨[(0, (.fsl ((a).map qbz) c)), (1, (.fsl ((b).map qbz) d)), (5, (ii 0))], []⟩ [] = some y ∧
      ((a.zip b).all (fun z => decide (z.1 = z.2)) = true ∧ (y.1 = .exit 0 ∧ y.2.1.marks = [] ∧ y.2.2 = [] ∧ Ev.look y.2.1.vars 0 = some (.fsl ((a).map qbz) c) ∧ Ev.look y.2.1.vars 1 = some (.fsl ((b).map qbz) d)) ∨
      (a.zip b).all (fun z => decide (z.1 = z.2)) = false ∧ ∃ x, (a.zip b).find? (fun z => !decide (z.1 = z.2)) = some x ∧ (y.1 = .ret ∧ y.2.1.marks = [] ∧ y.2.2 = [] ∧ Ev.look y.2.1.vars 4 = some (ii (qoo x.1 x.2)))) := by
  have hzl : (a.zip b).length = min a.length b.length := List.length_zip
  refine qhs (a.zip b) (fun i => ⟨[(0, (.fsl ((a).map qbz) c)), (1, (.fsl ((b).map qbz) d)), (5, (ii i))], []⟩) [] (fun z => decide (z.1 = z.2)) _ (fun x y => _) ?_ ?_ ?_
  · intro i x hi hx hp
    rw [hzl] at hi
    have hi' : (i : Int) < (a.length : Int) := by omega
    have hi2 : (i : Int) < (b.length : Int) := by omega
    have hw : IntKind.i64.wrap ((i : Int) + 1) = ((i + 1 : Nat) : Int) := by rw [qar (by omega) (by omega)]; simp
    obtain ⟨hxa, hxb⟩ := List.getElem?_zip_eq_some.1 hx
    have hp' := of_decide_eq_true hp
    simp only [qdl, Int.natCast_nonneg, Int.toNat_natCast, List.getElem?_map, Option.map_some, hxa, hxb, hi', hi2, hw, hp', qx, qbz, Ev.exec, qb, qe, qc, qah, Ev.Opnd.ev, Ev.Env.get, Ev.Env.set, Ev.look, qf, qv, qap, qbt, qi, qr, Ev.keep, qal, qad, qg, qbc, qm, List.length_map, ↓qn, Ev.it1, ↓reduceIte, List.length_cons, List.length_nil, zfe, List.head?_cons, Nat.reduceEqDiff, reduceCtorEq, decide_true, decide_false, zfc, zfa, and_self, ne_eq, not_true_eq_false, zfd, eq_self]
  · intro i x hi hx hp
    rw [hzl] at hi
    have hi' : (i : Int) < (a.length : Int) := by omega
    have hi2 : (i : Int) < (b.length : Int) := by omega
    obtain ⟨hxa, hxb⟩ := List.getElem?_zip_eq_some.1 hx
    have hp' : ¬ x.1 = x.2 := of_decide_eq_false hp
    have hc := qla x.1 x.2
    simp only [qdl, Int.natCast_nonneg, Int.toNat_natCast, List.getElem?_map, Option.map_some, hxa, hxb, hi', hi2, hp', hc, qbz, Ev.exec, qb, qe, qc, qa5, qah, Ev.evs, Ev.Opnd.ev, Ev.Env.get, Ev.Env.set, Ev.look, qf, qv, qbt, qi, qbc, qh, qd, List.length_map, ↓qn, Ev.it1, ↓reduceIte, List.length_cons, List.length_nil, List.head?_cons, Nat.reduceEqDiff, reduceCtorEq, decide_true, zfc, zfa, ne_eq, zfb, zfd, eq_self]
    exact ⟨_, rfl, rfl, rfl, rfl, rfl⟩
  · rw [hzl]
    by_cases hab : a.length ≤ b.length
    · rw [Nat.min_eq_left hab]
      simp only [qdl, Int.lt_irrefl, Ev.exec, qb, qe, qc, qah, Ev.Opnd.ev, Ev.Env.get, Ev.Env.set, Ev.Env.unset, Ev.look, qi, List.length_map, ↓qn, Ev.it1, ↓reduceIte, Nat.reduceEqDiff, reduceCtorEq, decide_false, zfa, eq_self]
      exact ⟨_, rfl, rfl, rfl, rfl, rfl, rfl⟩
    · rw [Nat.min_eq_right (by omega)]
      have h3 : (b.length : Int) < (a.length : Int) := by omega
      simp only [qdl, Int.lt_irrefl, h3, Ev.exec, qb, qe, qc, qah, Ev.Opnd.ev, Ev.Env.get, Ev.Env.set, Ev.look, qi, List.length_map, ↓qn, Ev.it1, ↓reduceIte, Nat.reduceEqDiff, reduceCtorEq, decide_true, decide_false, zfa, eq_self]
      exact ⟨_, rfl, rfl, rfl, rfl, rfl, rfl⟩
theorem qri (h1 : a.length ≤ 9223372036854775807) (h2 : b.length ≤ 9223372036854775807) : qa8 (evL T) qc8 [(.fsl ((a).map qbz) c), (.fsl ((b).map qbz) d)] = some (ii (qkm a b)) := by
  obtain ⟨⟨y, e, σ⟩, k1, k2⟩ := q0m a b c d h1 h2
  simp only at k2
  obtain ⟨z1, z2⟩ := qtv a b
  rw [qa8, qae qpw qpl]
  rcases k2 with ⟨k3, rfl, k4, rfl, k5, k6⟩ | ⟨k3, x, k7, rfl, k4, rfl, k5⟩
  · have hc := qla a.length b.length
    rw [z1 k3]
    simp only [qfv, k1, k4, k5, k6, hc, qx, qk, Ev.exec, qb, qe, qc, qa5, qah, Ev.evs, Ev.Opnd.ev, Ev.Env.get, Ev.Env.set, Ev.look, ql, qj, qs, qak, Ev.kill, qai, qr, Ev.keep, qal, qad, qg, qbc, qm, qh, qd, qac, List.length_map, ↓qn, ↓qa0, ↓reduceIte, List.length_cons, List.length_nil, zfe, Nat.reduceAdd, Nat.reduceEqDiff, reduceCtorEq, zfc, and_self, zfd, eq_self]
  · rw [z2 x k7]
    simp only [qfv, k1, k4, k5, qx, qk, Ev.exec, qb, qe, qc, qah, Ev.Opnd.ev, Ev.Env.get, Ev.Env.set, Ev.look, ql, qj, qs, qak, Ev.kill, qai, qr, Ev.keep, qal, qad, qg, qbc, qm, qac, ↓qn, ↓qa0, ↓reduceIte, List.length_cons, List.length_nil, zfe, Nat.reduceAdd, Nat.reduceEqDiff, reduceCtorEq, zfc, and_self, zfd, eq_self]
theorem qzs (h1 : a.length ≤ 9223372036854775807) (h2 : b.length ≤ 9223372036854775807) : qa8 (evL T) qes [(.fsl ((a).map qbz) c), (.fsl ((b).map qbz) d)] = some (bb (decide (a = b))) := by
  have hk := qri a b c d h1 h2
  have hz := qte a b
  rw [qa8, qae qtp qsg]
  by_cases h : a = b
  · have h3 := hz.2 h
    rw [h3] at hk
    simp only [h, decide_true]
    simp only [h] at hk
    simp only [qi8, hk, qx, qk, Ev.exec, qb, qe, qc, qa5, qah, Ev.evs, Ev.Opnd.ev, Ev.Env.get, Ev.Env.set, Ev.look, ql, qas, qj, qs, qak, Ev.kill, qai, qg, qbc, qm, qh, qd, qac, ↓qn, ↓reduceIte, List.length_cons, List.length_nil, zfe, Nat.reduceAdd, Nat.reduceEqDiff, reduceCtorEq, decide_true, zfc, and_self, zfd, eq_self]
  · have h3 : ¬ qkm a b = 0 := fun k => h (hz.1 k)
    simp only [h, decide_false]
    simp only [qi8, hk, h3, qx, qk, Ev.exec, qb, qe, qc, qa5, qah, Ev.evs, Ev.Opnd.ev, Ev.Env.get, Ev.Env.set, Ev.look, ql, qas, qj, qs, qak, Ev.kill, qai, qg, qbc, qm, qh, qd, qac, ↓qn, ↓reduceIte, List.length_cons, List.length_nil, zfe, Nat.reduceAdd, Nat.reduceEqDiff, reduceCtorEq, decide_false, zfc, and_self, zfd, eq_self]
end
structure Evt.Short (x : Evt) : Prop where
  key : x.key.length ≤ 9223372036854775807
section
variable (a b : List Evt) (c d : Bool)
end
set_option maxRecDepth 10000
theorem q1e (a : Int) : qa8 (evL T) qep [(ii a)] = some (bb false) := by
  rw [qa8, qae qtn qs1]
  simp only [qko, qk, Ev.exec, qb, qe, qc, qah, Ev.Opnd.ev, Ev.Env.get, Ev.Env.set, Ev.look, ql, qbt, qj, qs, qak, Ev.kill, qai, qg, qbc, qac, ↓qn, ↓reduceIte, List.length_cons, List.length_nil, zfe, Nat.reduceEqDiff, reduceCtorEq, decide_false, and_self, ne_eq, not_true_eq_false, zfd, eq_self]
theorem qne (a b : Int) : qa8 (evL T) qd1 [(ii a), (ii b)] = some (ii (qoo a b)) := by
  have h0 := q1e
  rw [qa8, qae qry qqz]
  by_cases h1 : a < b
  · simp only [qfp, qoo, h0, h1, qk, Ev.exec, qb, qe, qc, qa5, qah, Ev.evs, Ev.Opnd.ev, Ev.Env.get, Ev.Env.set, Ev.look, ql, qi, qj, qs, qak, Ev.kill, qai, qg, qbc, qh, qd, qac, ↓qn, ↓reduceIte, List.length_cons, List.length_nil, zfe, Nat.reduceAdd, Nat.reduceEqDiff, Int.reduceNeg, reduceCtorEq, decide_true, zfc, zfa, and_self, zfd, eq_self]
  by_cases h2 : a > b
  · simp only [qfp, qoo, h0, h1, h2, qk, Ev.exec, qb, qe, qc, qa5, qah, Ev.evs, Ev.Opnd.ev, Ev.Env.get, Ev.Env.set, Ev.look, ql, qi, qbb, qj, qs, qak, Ev.kill, qai, qg, qbc, qh, qd, qac, ↓qn, ↓reduceIte, List.length_cons, List.length_nil, zfe, Nat.reduceAdd, Nat.reduceEqDiff, Int.reduceNeg, reduceCtorEq, decide_true, decide_false, zfc, zfa, and_self, zfd, eq_self]
  · simp only [qfp, qoo, h0, h1, h2, qk, Ev.exec, qb, qe, qc, qa5, qah, Ev.evs, Ev.Opnd.ev, Ev.Env.get, Ev.Env.set, Ev.look, ql, qi, qbb, qj, qs, qak, Ev.kill, qai, qg, qbc, qh, qd, qac, ↓qn, ↓reduceIte, List.length_cons, List.length_nil, zfe, Nat.reduceAdd, Nat.reduceEqDiff, Int.reduceNeg, reduceCtorEq, decide_false, zfc, zfa, and_self, zfd, eq_self]
theorem q7c (x z : Int) (c : Bool) : qa8 (evL T) qi0 [(.fsl (([x, z]).map qbz) c)] = some (ii (if x = 0 then z else x)) := by
  have hL : ∃ y, itB (exec (evL T) itL none qi4) (qr [3, 6, 7, 8] true 0) ⟨[(3, (ii 0)), (6, (.fsl (([x, z]).map qbz) c)), (7, (ii 2)), (8, (ii 0))], []⟩ [] = some y ∧ ([x, z].all (fun v => decide (v = 0)) = true ∧ (y.1 = .exit 0 ∧ y.2.1.marks = [] ∧ y.2.2 = [] ∧ Ev.look y.2.1.vars 3 = some (ii 0)) ∨
      [x, z].all (fun v => decide (v = 0)) = false ∧ ∃ v, [x, z].find? (fun v => !decide (v = 0)) = some v ∧ (y.1 = .ret ∧ y.2.1.marks = [] ∧ y.2.2 = [] ∧ Ev.look y.2.1.vars 2 = some (ii v))) := by
    refine qhs [x, z] (fun i => ⟨[(3, (ii 0)), (6, (.fsl (([x, z]).map qbz) c)), (7, (ii 2)), (8, (ii i))], []⟩) [] (fun v => decide (v = 0)) _ (fun v y => _) ?_ ?_ ?_
    · intro i v hi hv hp
      have hi2 : (i : Int) < 2 := by simp at hi; omega
      have hw : IntKind.i64.wrap ((i : Int) + 1) = ((i + 1 : Nat) : Int) := by rw [qar (by omega) (by omega)]; simp
      have hp' := of_decide_eq_true hp
      subst hp'
      have hl := qx 0 [x, z]
      generalize [x, z] = l at hv hl ⊢
      simp only [qi4, Int.natCast_nonneg, Int.toNat_natCast, List.getElem?_map, Option.map_some, hv, hl, hi2, hw, qbz, Ev.exec, qb, qe, qc, qah, Ev.Opnd.ev, Ev.Env.get, Ev.Env.set, Ev.look, qf, qv, qap, qbt, qi, qr, Ev.keep, qal, qad, qg, qbc, qm, ↓qn, Ev.it1, ↓reduceIte, List.length_cons, List.length_nil, zfe, List.head?_cons, Nat.reduceEqDiff, decide_true, decide_false, zfc, zfa, and_self, ne_eq, not_true_eq_false, zfd, eq_self]
    · intro i v hi hv hp
      have hi2 : (i : Int) < 2 := by simp at hi; omega
      have hp' : ¬ v = 0 := of_decide_eq_false hp
      have hl := qx 0 [x, z]
      generalize [x, z] = l at hv hl ⊢
      simp only [qi4, Int.natCast_nonneg, Int.toNat_natCast, List.getElem?_map, Option.map_some, hv, hi2, hp', qbz, Ev.exec, qb, qe, qc, qah, Ev.Opnd.ev, Ev.Env.get, Ev.Env.set, Ev.look, qf, qv, qbt, qi, ↓qn, Ev.it1, ↓reduceIte, List.length_cons, List.length_nil, List.head?_cons, Nat.reduceEqDiff, decide_true, zfa, ne_eq, zfb, zfd, eq_self]
      exact ⟨_, rfl, rfl, rfl, rfl, rfl⟩
    · have hl := qx 0 [x, z]
      rw [show ([x, z] : List Int).length = 2 from rfl]
      simp only [qi4, Int.lt_irrefl, Int.cast_ofNat_Int, Ev.exec, qb, qe, qc, qah, Ev.Opnd.ev, Ev.Env.get, Ev.Env.set, Ev.look, qi, ↓qn, Ev.it1, ↓reduceIte, Nat.reduceEqDiff, Int.cast_ofNat_Int, decide_false, zfa, eq_self]
      exact ⟨_, rfl, rfl, rfl, rfl, rfl⟩
  obtain ⟨⟨y, e, σ⟩, k1, k2⟩ := hL
  simp only at k2
  have hl := qx 0 [x, z]
  have hn : ([x, z].map qbz).length = 2 := rfl
  rw [qa8, qae qyt qww]
  rcases k2 with ⟨k3, rfl, k4, rfl, k5⟩ | ⟨k3, v, k6, rfl, k4, rfl, k5⟩
  · have h1 : x = 0 ∧ z = 0 := by simpa using k3
    have h2 : (if x = 0 then z else x) = 0 := by rw [if_pos h1.1, h1.2]
    rw [h2]
    generalize [x, z].map qbz = l at k1 hl hn ⊢
    simp only [qk0, hn, Int.cast_ofNat_Int, k1, k4, k5, hl, qk, Ev.exec, qb, qe, qc, qah, Ev.Opnd.ev, Ev.Env.get, Ev.Env.set, Ev.look, ql, qj, qs, qak, Ev.kill, qai, qr, Ev.keep, qal, qad, qg, qbc, qm, qac, ↓qn, ↓qa0, ↓reduceIte, List.length_cons, List.length_nil, zfe, Nat.reduceEqDiff, Int.cast_ofNat_Int, reduceCtorEq, zfc, and_self, zfd, eq_self]
  · have h1 : (if x = 0 then z else x) = v := by
      rw [List.find?_cons] at k6
      by_cases hx : x = 0
      · rw [if_pos hx]; simp [hx] at k6; exact k6.2
      · rw [if_neg hx]; simp [hx] at k6; exact k6
    rw [h1]
    generalize [x, z].map qbz = l at k1 hl hn ⊢
    simp only [qk0, hn, Int.cast_ofNat_Int, k1, k4, k5, hl, qk, Ev.exec, qb, qe, qc, qah, Ev.Opnd.ev, Ev.Env.get, Ev.Env.set, Ev.look, ql, qj, qs, qak, Ev.kill, qai, qr, Ev.keep, qal, qad, qg, qbc, qm, qac, ↓qn, ↓qa0, ↓reduceIte, List.length_cons, List.length_nil, zfe, Nat.reduceEqDiff, Int.cast_ofNat_Int, reduceCtorEq, zfc, and_self, zfd, eq_self]
theorem qyl (x z : Int) (c : Bool) : qa8 (evL T) qh3 [(.fsl (([x, z]).map qbz) c)] = some (ii (if x = 0 then z else x)) := by
  have h := q7c x z c
  have hl := qx 0 [x, z]
  generalize [x, z].map qbz = l at h hl ⊢
  rw [qa8, qae qxt qvp]
  simp only [qlu, h, hl, qk, Ev.exec, qb, qe, qc, qa5, qah, Ev.evs, Ev.Opnd.ev, Ev.Env.get, Ev.Env.set, Ev.look, ql, qj, qs, qak, Ev.kill, qai, qg, qbc, qm, qh, qd, qac, ↓qn, ↓reduceIte, List.length_cons, List.length_nil, zfe, reduceCtorEq, zfc, and_self, zfd, eq_self]
section
variable (a b : List Int) (c d : Bool)
theorem qvc (h1 : a.length ≤ 9223372036854775807) (h2 : b.length ≤ 9223372036854775807) :
    ∃ y, itB (exec (evL T) itL none qcn) (qr [0, 1, 9, 10, 11] true 0) ⟨[(0, (.fsl ((a).map qbz) c)), (1, (.fsl ((b).map qbz) d)), (9, (.fsl ((a).map qbz) c)), (10, (ii a.length)), (11, (ii 0))], []⟩ [] = some y ∧
      ((a.zip b).all (fun z => decide (z.1 = z.2)) = true ∧ (a.length ≤ b.length ∧ y.1 = .exit 0 ∧ y.2.1.marks = [] ∧ y.2.2 = [] ∧ Ev.look y.2.1.vars 0 = some (.fsl ((a).map qbz) c) ∧ Ev.look y.2.1.vars 1 = some (.fsl ((b).map qbz) d) ∨ b.length < a.length ∧ y.1 = .ret ∧ y.2.1.marks = [] ∧ y.2.2 = [] ∧ Ev.look y.2.1.vars 4 = some (ii 1)) ∨
      (a.zip b).all (fun z => decide (z.1 = z.2)) = false ∧ ∃ x, (a.zip b).find? (fun z => !decide (z.1 = z.2)) = some x ∧ (y.1 = .ret ∧ y.2.1.marks = [] ∧ y.2.2 = [] ∧ Ev.look y.2.1.vars 4 = some (ii (qoo x.1 x.2)))) := by
  have hzl : (a.zip b).length = min a.length b.length := List.length_zip
  refine qhs (a.zip b) (fun i => ⟨[(0, (.fsl ((a).map qbz) c)), (1, (.fsl ((b).map qbz) d)), (9, (.fsl ((a).map qbz) c)), (10, (ii a.length)), (11, (ii i))], []⟩) [] (fun z => decide (z.1 = z.2)) _ (fun x y => _) ?_ ?_ ?_
  · intro i x hi hx hp
    rw [hzl] at hi
    have hi' : (i : Int) < (a.length : Int) := by omega
    have hi2 : ¬ (i : Int) ≥ (b.length : Int) := by omega
    have hw : IntKind.i64.wrap ((i : Int) + 1) = ((i + 1 : Nat) : Int) := by rw [qar (by omega) (by omega)]; simp
    obtain ⟨hxa, hxb⟩ := List.getElem?_zip_eq_some.1 hx
    have hp' := of_decide_eq_true hp
    have hc := qne x.1 x.2
    rw [(qwx x.1 x.2).2 hp'] at hc
    simp only [qcn, Int.natCast_nonneg, Int.toNat_natCast, List.getElem?_map, Option.map_some, hxa, hxb, hi', hi2, hw, hc, qx, qbz, Ev.exec, qb, qe, qc, qa5, qah, Ev.evs, Ev.Opnd.ev, Ev.Env.get, Ev.Env.set, Ev.look, qf, qv, qap, qbt, qi, qbq, qr, Ev.keep, qal, qad, qg, qbc, qm, qh, qd, List.length_map, ↓qn, Ev.it1, ↓reduceIte, List.length_cons, List.length_nil, zfe, List.head?_cons, Nat.reduceEqDiff, reduceCtorEq, decide_true, decide_false, zfc, zfa, and_self, ne_eq, not_true_eq_false, zfd, eq_self]
  · intro i x hi hx hp
    rw [hzl] at hi
    have hi' : (i : Int) < (a.length : Int) := by omega
    have hi2 : ¬ (i : Int) ≥ (b.length : Int) := by omega
    obtain ⟨hxa, hxb⟩ := List.getElem?_zip_eq_some.1 hx
    have hp' : ¬ x.1 = x.2 := of_decide_eq_false hp
    have hc := qne x.1 x.2
    have hz : ¬ qoo x.1 x.2 = 0 := fun h => hp' ((qwx _ _).1 h)
    simp only [qcn, Int.natCast_nonneg, Int.toNat_natCast, List.getElem?_map, Option.map_some, hxa, hxb, hi', hi2, hz, hc, qbz, Ev.exec, qb, qe, qc, qa5, qah, Ev.evs, Ev.Opnd.ev, Ev.Env.get, Ev.Env.set, Ev.look, qf, qv, qbt, qi, qbq, qbc, qh, qd, List.length_map, ↓qn, Ev.it1, ↓reduceIte, List.length_cons, List.length_nil, List.head?_cons, Nat.reduceEqDiff, reduceCtorEq, decide_true, decide_false, zfc, zfa, ne_eq, zfb, zfd, eq_self]
    exact ⟨_, rfl, rfl, rfl, rfl, rfl⟩
  · rw [hzl]
    by_cases hab : a.length ≤ b.length
    · rw [Nat.min_eq_left hab]
      simp only [qcn, Int.lt_irrefl, Ev.exec, qb, qe, qc, qah, Ev.Opnd.ev, Ev.Env.get, Ev.Env.set, Ev.look, qi, ↓qn, Ev.it1, ↓reduceIte, Nat.reduceEqDiff, reduceCtorEq, decide_false, zfa, eq_self]
      exact ⟨_, rfl, .inl ⟨hab, rfl, rfl, rfl, rfl, rfl⟩⟩
    · rw [Nat.min_eq_right (by omega)]
      have h3 : (b.length : Int) < (a.length : Int) := by omega
      obtain ⟨x, hx⟩ : ∃ x, a[b.length]? = some x := ⟨_, List.getElem?_eq_getElem (by omega)⟩
      have h4 : (b.length : Int) ≥ (b.length : Int) := Int.le_refl _
      simp only [qcn, Int.natCast_nonneg, Int.toNat_natCast, List.getElem?_map, Option.map_some, h3, h4, hx, qbz, Ev.exec, qb, qe, qc, qah, Ev.Opnd.ev, Ev.Env.get, Ev.Env.set, Ev.look, qf, qv, qi, qbq, List.length_map, ↓qn, Ev.it1, ↓reduceIte, List.length_cons, List.length_nil, List.head?_cons, Nat.reduceEqDiff, reduceCtorEq, decide_true, zfa, zfd, eq_self]
      exact ⟨_, rfl, .inr ⟨by omega, rfl, rfl, rfl, rfl⟩⟩
theorem quj (h1 : a.length ≤ 9223372036854775807) (h2 : b.length ≤ 9223372036854775807) : qa8 (evL T) qcl [(.fsl ((a).map qbz) c), (.fsl ((b).map qbz) d)] = some (ii (qkm a b)) := by
  obtain ⟨⟨y, e, σ⟩, k1, k2⟩ := qvc a b c d h1 h2
  simp only at k2
  obtain ⟨z1, z2⟩ := qtv a b
  rw [qa8, qae qmk qlo]
  rcases k2 with ⟨k3, ⟨k7, rfl, k4, rfl, k5, k6⟩ | ⟨k7, rfl, k4, rfl, k5⟩⟩ | ⟨k3, x, k7, rfl, k4, rfl, k5⟩
  · rw [z1 k3]
    by_cases hl : (a.length : Int) < (b.length : Int)
    · simp only [qcm, k1, k4, k5, k6, hl, qoo, qx, qk, Ev.exec, qb, qe, qc, qah, Ev.Opnd.ev, Ev.Env.get, Ev.Env.set, Ev.look, ql, qi, qj, qs, qak, Ev.kill, qai, qr, Ev.keep, qal, qad, qg, qbc, qm, qac, List.length_map, ↓qn, ↓qa0, ↓reduceIte, List.length_cons, List.length_nil, zfe, Nat.reduceAdd, Nat.reduceEqDiff, Int.reduceNeg, reduceCtorEq, decide_true, zfc, and_self, zfd, eq_self]
    · have hg : ¬ (a.length : Int) > (b.length : Int) := by omega
      simp only [qcm, k1, k4, k5, k6, hl, hg, qoo, qx, qk, Ev.exec, qb, qe, qc, qah, Ev.Opnd.ev, Ev.Env.get, Ev.Env.set, Ev.look, ql, qi, qj, qs, qak, Ev.kill, qai, qr, Ev.keep, qal, qad, qg, qbc, qm, qac, List.length_map, ↓qn, ↓qa0, ↓reduceIte, List.length_cons, List.length_nil, zfe, Nat.reduceAdd, Nat.reduceEqDiff, Int.reduceNeg, reduceCtorEq, decide_false, zfc, zfa, and_self, zfd, eq_self]
  · have hl : ¬ (a.length : Int) < (b.length : Int) := by omega
    have hg : (a.length : Int) > (b.length : Int) := by omega
    rw [z1 k3]
    simp only [qcm, k1, k4, k5, hl, hg, qoo, qx, qk, Ev.exec, qb, qe, qc, qah, Ev.Opnd.ev, Ev.Env.get, Ev.Env.set, Ev.look, ql, qj, qs, qak, Ev.kill, qai, qr, Ev.keep, qal, qad, qg, qbc, qm, qac, List.length_map, ↓qn, ↓qa0, ↓reduceIte, List.length_cons, List.length_nil, zfe, Nat.reduceAdd, Nat.reduceEqDiff, Int.reduceNeg, reduceCtorEq, zfc, and_self, zfd, eq_self]
  · rw [z2 x k7]
    simp only [qcm, k1, k4, k5, qx, qk, Ev.exec, qb, qe, qc, qah, Ev.Opnd.ev, Ev.Env.get, Ev.Env.set, Ev.look, ql, qj, qs, qak, Ev.kill, qai, qr, Ev.keep, qal, qad, qg, qbc, qm, qac, List.length_map, ↓qn, ↓qa0, ↓reduceIte, List.length_cons, List.length_nil, zfe, Nat.reduceAdd, Nat.reduceEqDiff, Int.reduceNeg, reduceCtorEq, zfc, and_self, zfd, eq_self]
theorem qq0 (h1 : a.length ≤ 9223372036854775807) (h2 : b.length ≤ 9223372036854775807) : qa8 (evL T) qdx [(.fsl ((a).map qbz) c), (.fsl ((b).map qbz) d)] = some (ii (qkm a b)) := by
  have h := quj a b c d h1 h2
  rw [qa8, qae qp6 qpj]
  simp only [qhx, h, qx, qk, Ev.exec, qb, qe, qc, qa5, qah, Ev.evs, Ev.Opnd.ev, Ev.Env.get, Ev.Env.set, Ev.look, ql, qj, qs, qak, Ev.kill, qai, qg, qbc, qm, qh, qd, qac, ↓qn, ↓reduceIte, List.length_cons, List.length_nil, zfe, Nat.reduceAdd, Nat.reduceEqDiff, reduceCtorEq, zfc, and_self, zfd, eq_self]
end
def qpo (x y : Evt) : Int := if qoo x.time y.time = 0 then qkm x.key y.key else qoo x.time y.time
end Go.Proofs.Ytbhhifdhlafklaa.K
namespace Go.Ev
section
variable {α : Type}
variable {R : α → α → Prop}
theorem cross (tr : ∀ a b c, R a b → R b c → R a c) {X Y : List α} (hX : X.Pairwise R) (hY : Y.Pairwise R) (h : ∀ u v, X[X.length - 1]? = some u → Y[0]? = some v → R u v) : ∀ a ∈ X, ∀ b ∈ Y, R a b := by
  intro a ha b hb
  obtain ⟨i, hi⟩ := List.mem_iff_getElem?.1 ha
  obtain ⟨j, hj⟩ := List.mem_iff_getElem?.1 hb
  obtain ⟨hi', hi⟩ := List.getElem?_eq_some_iff.1 hi
  obtain ⟨hj', hj⟩ := List.getElem?_eq_some_iff.1 hj
  rw [List.pairwise_iff_getElem] at hX hY
  have h0 := h _ _ (List.getElem?_eq_getElem (by omega)) (List.getElem?_eq_getElem (by omega))
  have h1 : R a Y[0] := by
    by_cases c : i = X.length - 1
    · subst c; rw [← hi]; exact h0
    · exact tr _ _ _ (by rw [← hi]; exact hX i (X.length - 1) hi' (by omega) (by omega)) h0
  by_cases c : j = 0
  · subst c; rw [← hj]; exact h1
  · exact tr _ _ _ h1 (by rw [← hj]; exact hY 0 j (by omega) hj' (by omega))
theorem quy (tr : ∀ a b c, R a b → R b c → R a c) {A B : List α} {x : α} (h : (A ++ B).Pairwise R) (h1 : ∀ u, A[A.length - 1]? = some u → R u x) (h2 : ∀ v, B[0]? = some v → R x v) : (A ++ x :: B).Pairwise R := by
  obtain ⟨a1, a2, a3⟩ := List.pairwise_append.1 h
  have c1 := cross tr a1 (List.pairwise_singleton R x) (fun u v hu hv => by simp at hv; subst hv; exact h1 u hu)
  have c2 := cross tr (List.pairwise_singleton R x) a2 (fun u v hu hv => by simp at hu; subst hu; exact h2 v hv)
  refine List.pairwise_append.2 ⟨a1, List.pairwise_cons.2 ⟨fun b hb => c2 x (by simp) b hb, a2⟩, fun a ha b hb => ?_⟩
  rcases List.mem_cons.1 hb with rfl | hb
  · exact c1 a ha _ (by simp)
  · exact a3 a ha b hb
inductive Blk (R : α → α → Prop) (s : Nat) : List α → Prop
  | last {l : List α} : l.length ≤ s → l.Pairwise R → Blk R s l
  | more {X Y : List α} : X.length = s → X.Pairwise R → Blk R s Y → Blk R s (X ++ Y)
theorem qwz {f : Env → qq → R3} {s : Env → qq → Option (Env × qq)} {τ : Type} (E : τ → Env) (S : τ → qq) (m : τ → Nat) (Inv : τ → Prop) (Q : CExit × Env × qq → Prop)
    (step : ∀ a, Inv a → (∃ a', it1 f s (E a) (S a) = some (.inl (E a', S a')) ∧ Inv a' ∧ m a' < m a) ∨ ∃ y, it1 f s (E a) (S a) = some (.inr y) ∧ Q y) :
    ∀ a, Inv a → ∃ y, itB f s (E a) (S a) = some y ∧ Q y := by
  have : ∀ k a, m a ≤ k → Inv a → ∃ y, itB f s (E a) (S a) = some y ∧ Q y := by
    intro k
    induction k with
    | zero =>
      intro a hk ha
      rcases step a ha with ⟨a', h1, h2, h3⟩ | ⟨y, h1, h2⟩
      · omega
      · exact ⟨y, qo8 h1, h2⟩
    | succ k ih =>
      intro a hk ha
      rcases step a ha with ⟨a', h1, h2, h3⟩ | ⟨y, h1, h2⟩
      · obtain ⟨y, h4, h5⟩ := ih a' (by omega) h2
        exact ⟨y, q0b h1 h4, h5⟩
      · exact ⟨y, qo8 h1, h2⟩
  exact fun a => this (m a) a (Nat.le_refl _)
end
end Go.Ev
namespace Go.Proofs.Ytbhhifdhlafklaa.K
open Go.Ev
set_option maxRecDepth 10000
theorem q8g {a b : Nat} (h : a + b < 2 ^ 62) : IntKind.i64.wrap ((a : Int) + (b : Int)) = ((a + b : Nat) : Int) := by rw [qar (by omega) (by omega)]; simp
theorem qvz {a : Nat} (h : a < 2 ^ 62) : IntKind.i64.wrap ((a : Int) + 1) = ((a + 1 : Nat) : Int) := by rw [qar (by omega) (by omega)]; simp
theorem qzy {a c : Nat} (h : a = c + 1) (h2 : a < 2 ^ 62) : IntKind.i64.wrap ((a : Int) - 1) = (c : Int) := by rw [qar (by omega) (by omega)]; omega
section
variable (g : Nat) (cl : Bool) (n : Nat)
end
open Go.Ev
theorem q4g (a b : Int) : qoo b a = -qoo a b := by unfold qoo; split <;> split <;> (try split) <;> omega
theorem qik (a b : Int) : (qoo a b < 0 ↔ a < b) ∧ (qoo a b = 0 ↔ a = b) ∧ (0 < qoo a b ↔ b < a) := by
  unfold qoo
  split
  · refine ⟨?_, ?_, ?_⟩ <;> omega
  split
  · refine ⟨?_, ?_, ?_⟩ <;> omega
  · refine ⟨?_, ?_, ?_⟩ <;> omega
theorem q1n : ∀ a b : List Int, qkm b a = -qkm a b
  | [], [] => rfl
  | [], y :: b => by simp [qkm]
  | x :: a, [] => by simp [qkm]
  | x :: a, y :: b => by
    simp only [qkm]
    by_cases h : x = y
    · subst h; simp only [if_true]; exact q1n a b
    · rw [if_neg h, if_neg (fun e => h e.symm)]; exact q4g x y
theorem qwk : ∀ a b c : List Int, qkm a b ≤ 0 → qkm b c ≤ 0 → qkm a c ≤ 0
  | [], b, c, _, _ => by cases c <;> simp [qkm]
  | x :: a, [], c, h, _ => by simp [qkm] at h
  | x :: a, y :: b, [], _, h => by simp [qkm] at h
  | x :: a, y :: b, z :: c, h1, h2 => by
    simp only [qkm] at h1 h2 ⊢
    have c1 := qik x y
    have c2 := qik y z
    have c3 := qik x z
    by_cases e1 : x = y
    · subst e1
      rw [if_pos rfl] at h1
      by_cases e2 : x = z
      · subst e2; rw [if_pos rfl] at h2 ⊢; exact qwk a b c h1 h2
      · rw [if_neg e2] at h2 ⊢; exact h2
    · rw [if_neg e1] at h1
      by_cases e2 : y = z
      · subst e2; rw [if_neg e1]; exact h1
      · rw [if_neg e2] at h2
        have : ¬ x = z := by intro e; omega
        rw [if_neg this]
        omega
def leE (x y : Evt) : Prop := qpo x y ≤ 0
theorem qow (x y : Evt) : qpo y x = -qpo x y := by
  unfold qpo
  have := q4g x.time y.time
  have := q1n x.key y.key
  by_cases h : qoo x.time y.time = 0
  · rw [if_pos h, if_pos (by omega)]; assumption
  · rw [if_neg h, if_neg (by omega)]; assumption
theorem qsm (x y z : Evt) (h1 : leE x y) (h2 : leE y z) : leE x z := by
  unfold leE qpo at *
  have c1 := qik x.time y.time
  have c2 := qik y.time z.time
  have c3 := qik x.time z.time
  by_cases e1 : qoo x.time y.time = 0
  · rw [if_pos e1] at h1
    by_cases e2 : qoo y.time z.time = 0
    · rw [if_pos e2] at h2
      rw [if_pos (by omega)]; exact qwk _ _ _ h1 h2
    · rw [if_neg e2] at h2
      rw [if_neg (by omega)]; omega
  · rw [if_neg e1] at h1
    by_cases e2 : qoo y.time z.time = 0
    · rw [if_neg (by omega)]; omega
    · rw [if_neg e2] at h2
      rw [if_neg (by omega)]; omega
theorem leE_of (x y : Evt) (h : qpo x y < 0) : leE x y := by unfold leE; omega
theorem q1a (x y : Evt) : qpo x y = 0 ↔ x.time = y.time ∧ x.key = y.key := by
  unfold qpo
  have := qik x.time y.time
  have := qte x.key y.key
  by_cases h : qoo x.time y.time = 0
  · rw [if_pos h]; constructor
    · intro k; exact ⟨by omega, by simpa [k] using this⟩
    · intro k; exact this.2 k.2
  · rw [if_neg h]; constructor
    · intro k; exact absurd k h
    · intro k; omega
open Go.Ev
set_option maxRecDepth 10000
section
variable (g : Nat) (cl : Bool) (n : Nat)
def qg7 (D : List Evt) : Prop := ∀ x ∈ D, x.key.length ≤ 9223372036854775807
end
open Go.Ev
set_option maxRecDepth 10000
section
variable (g : Nat) (cl : Bool) (n : Nat)
end
open Go.Ev
set_option maxRecDepth 10000
theorem half_bin (s h : Nat) (hh : h = s / 2) : qk9 .shr (.v (.int .u64 (s : Int))) (.v (.int .u64 1)) = some (.v (.int .u64 (h : Int))) := by
  subst hh
  show (if (1 : Int) < 0 then none else some (AV.v (.int .u64 ((s : Int).fdiv (2 ^ (min (1 : Int).toNat IntKind.u64.bits)))))) = _
  rw [if_neg (by omega), show (2 : Int) ^ (min (1 : Int).toNat IntKind.u64.bits) = 2 from rfl, Int.fdiv_eq_ediv_of_nonneg _ (by omega)]
  rw [show (s : Int) / 2 = ((s / 2 : Nat) : Int) by omega]
theorem q7d {n : Nat} (h : n < 2 ^ 63) : IntKind.u64.wrap (n : Int) = (n : Int) := by
  have h3 : IntKind.u64.bits = 64 := rfl
  have h4 : IntKind.u64.signed = false := rfl
  simp only [IntKind.wrap, h3, h4, Bool.false_and, zfa, if_false]
  omega
theorem q7i {n : Nat} (h : n < 2 ^ 63) : IntKind.i64.wrap (n : Int) = (n : Int) := qar (by omega) (by omega)
section
variable (g : Nat) (cl : Bool) (n : Nat)
end
open Go.Ev
set_option maxRecDepth 10000
section
variable (g : Nat) (cl : Bool) (n : Nat)
end
open Go.Ev
set_option maxRecDepth 10000
section
variable (g : Nat) (cl : Bool) (n : Nat)
def q6o (a m b : Nat) (D D' : List Evt) : Prop := (evL T).call qam [.sl 0 g 0 n cl, (ii a), (ii m), (ii b), (.fn (.func qa3) [] [])] [.row 6 ((D).map Evt.r) g] = some (.tup [], [.row 6 ((D').map Evt.r) g])
structure Nums (x1 x2 y1 y2 a m b mid nn lo hi p start fin : Nat) : Prop where
  hX1 : 1 < x1 + x2
  hY1 : 1 < y1 + y2
  hb : n < 2 ^ 61
  hmid : mid = (a + b) / 2
  hnn : nn = mid + m
  hp : nn = p + 1
  hfin : nn = start + fin
  hm : m = a + (x1 + x2)
  hbb : b = m + (y1 + y2)
  hbn : b ≤ n
  hst : start = a + x1
  hfi : fin = m + y1
structure Wraps (x1 x2 y1 y2 a m b mid nn p start fin : Nat) : Prop where
  w1 : IntKind.i64.wrap ((m : Int) - (a : Int)) = ((x1 + x2 : Nat) : Int)
  h1 : ¬ ((x1 + x2 : Nat) : Int) = 1
  w2 : IntKind.i64.wrap ((b : Int) - (m : Int)) = ((y1 + y2 : Nat) : Int)
  h2 : ¬ ((y1 + y2 : Nat) : Int) = 1
  w3 : IntKind.i64.wrap ((a : Int) + (b : Int)) = ((a + b : Nat) : Int)
  w4 : IntKind.u64.wrap ((a + b : Nat) : Int) = ((a + b : Nat) : Int)
  w5 : qk9 .shr (.v (.int .u64 ((a + b : Nat) : Int))) (.v (.int .u64 1)) = some (.v (.int .u64 (mid : Int)))
  w6 : IntKind.i64.wrap (mid : Int) = (mid : Int)
  w7 : IntKind.i64.wrap ((mid : Int) + (m : Int)) = (nn : Int)
  w8 : IntKind.i64.wrap ((nn : Int) - 1) = (p : Int)
  w9 : IntKind.i64.wrap ((nn : Int) - (start : Int)) = (fin : Int)
  c5 : mid < fin ↔ start < m
  c6 : start < mid ↔ m < fin
structure Steps (a m b mid start fin : Nat) (D D2 D3 D4 : List Evt) : Prop where
  s1 : start < m → m < fin → (evL T).call qbi [.sl 0 g 0 n cl, (ii start), (ii m), (ii fin), (.fn (.func qa3) [] [])] [.row 6 ((D).map Evt.r) g] = some (.tup [], [.row 6 ((D2).map Evt.r) g])
  n1 : ¬ (start < m ∧ m < fin) → D2 = D
  s2 : a < start → start < mid → q6o g cl n a start mid D2 D3
  n2 : ¬ (a < start ∧ start < mid) → D3 = D2
  s3 : mid < fin → fin < b → q6o g cl n mid fin b D3 D4
  n3 : ¬ (mid < fin ∧ fin < b) → D4 = D3
end
open Go.Ev
set_option maxRecDepth 10000
section
variable (g : Nat) (cl : Bool) (n : Nat)
end
open Go.Ev
set_option maxRecDepth 10000
section
variable (g : Nat) (cl : Bool) (n : Nat)
end
open Go.Ev
set_option maxRecDepth 10000
def qgx (l : List Evt) : List Evt := l.mergeSort (fun a b => decide (qpo a b ≤ 0))
def qts (l : List Evt) : Prop := l.Pairwise (fun a b => ¬ qpo a b = 0)
theorem qek (l : List Evt) : (qgx l).Perm l := List.mergeSort_perm _ _
theorem qgi (l : List Evt) : (qgx l).Pairwise leE := by
  have := List.pairwise_mergeSort (le := fun a b => decide (qpo a b ≤ 0)) (fun a b c h1 h2 => by simp only [decide_eq_true_eq] at h1 h2 ⊢; exact qsm a b c h1 h2) (fun a b => by
    have := qow a b
    by_cases h : qpo a b ≤ 0
    · simp [h]
    · have : qpo b a ≤ 0 := by omega
      simp [this]) l
  exact this.imp (fun h => of_decide_eq_true h)
theorem qts.eq {l : List Evt} (h : qts l) {a b : Evt} (ha : a ∈ l) (hb : b ∈ l) (hc : qpo a b = 0) : a = b := by
  obtain ⟨i, hi⟩ := List.mem_iff_getElem?.1 ha
  obtain ⟨j, hj⟩ := List.mem_iff_getElem?.1 hb
  obtain ⟨hi', rfl⟩ := List.getElem?_eq_some_iff.1 hi
  obtain ⟨hj', rfl⟩ := List.getElem?_eq_some_iff.1 hj
  rw [qts, List.pairwise_iff_getElem] at h
  rcases Nat.lt_trichotomy i j with c | c | c
  · exact absurd hc (h i j hi' hj' c)
  · subst c; rfl
  · exact absurd (by rw [qow]; omega) (h j i hj' hi' c)
theorem qp0 {l l' : List Evt} (hd : qts l) (hp : l'.Perm l) (hs : l'.Pairwise leE) : l' = qgx l := by
  refine List.Perm.eq_of_pairwise (le := leE) (fun a b ha hb h1 h2 => ?_) hs (qgi l) (hp.trans (qek l).symm)
  refine hd.eq (hp.mem_iff.1 ha) ((qek l).mem_iff.1 hb) ?_
  have := qow a b
  unfold leE at h1 h2; omega
theorem qts.perm {l l' : List Evt} (h : qts l) (p : l'.Perm l) : qts l' := (p.pairwise_iff (fun {x y} hxy hyx => hxy (by rw [qow]; omega))).2 h
theorem qst (l : List Evt) (c : Bool) (h : l.length ≤ 1000000) : (evL T).call qa4 [(.fsl ((l).map Evt.r) c)] [] = some (.sl 0 0 0 l.length false, [.row 6 (l.map Evt.r) 0]) := by
  have h' : l.length * 64 ≤ 140737488355328 := by omega
  rw [q2k qht]
  simp only [qrg, qy, qf1, h', qm, qh, qd, List.length_map, ↓reduceIte, Nat.reduceLT, Nat.reducePow, zfc, and_self, eq_self]
theorem qip (x y : Evt) (hx : x.key.length ≤ 9223372036854775807) (hy : y.key.length ≤ 9223372036854775807) : qa8 (evL T) qck [(.agg [(ii x.time), (.fsl ((x.key).map qbz) false), (ii x.lp), (ii x.kind), (ii x.proc), (ii x.arg)]), (.agg [(ii y.time), (.fsl ((y.key).map qbz) false), (ii y.lp), (ii y.kind), (ii y.proc), (ii y.arg)])] = some (ii (qpo x y)) := by
  obtain ⟨xt, xk, xl, xi, xp, xa⟩ := x
  obtain ⟨yt, yk, yl, yi, yp, ya⟩ := y
  have hc := qla xt yt
  have hk := qri xk yk false false hx hy
  have hz := (qik xt yt).2.1
  rw [qa8, qae qoy qoe]
  by_cases h : xt = yt
  · subst h
    have h0 : qoo xt xt = 0 := hz.2 rfl
    simp only [qeq, qpo, h0, hk, qx, qk, Ev.exec, qb, qe, qc, qa5, qah, Ev.evs, Ev.Opnd.ev, Ev.Env.get, Ev.Env.set, Ev.look, ql, qf, qv, Ev.AV.cells, qo, Ev.AV.plain, qbt, qj, qs, qak, Ev.kill, qai, qg, qbc, qm, qh, qd, qac, ↓qn, ↓reduceIte, List.length_cons, List.length_nil, zfe, List.drop_succ_cons, List.drop_zero, List.head?_cons, Nat.reduceAdd, Nat.reduceEqDiff, reduceCtorEq, decide_false, zfc, zfa, and_self, ne_eq, zfb, not_true_eq_false, zff, zfd, eq_self]
  · have h0 : ¬ qoo xt yt = 0 := fun e => h (hz.1 e)
    simp only [qeq, qpo, h0, h, hc, qk, Ev.exec, qb, qe, qc, qa5, qah, Ev.evs, Ev.Opnd.ev, Ev.Env.get, Ev.Env.set, Ev.look, ql, qf, qv, Ev.AV.cells, qo, Ev.AV.plain, qbt, qj, qs, qak, Ev.kill, qai, qg, qbc, qh, qd, qac, ↓qn, ↓reduceIte, List.length_cons, List.length_nil, zfe, List.drop_zero, List.head?_cons, Nat.reduceAdd, Nat.reduceEqDiff, reduceCtorEq, decide_true, zfc, zfa, and_self, ne_eq, zfb, zff, zfd, eq_self]
open Go.Ev
set_option maxRecDepth 10000
def Adj (l : List Evt) : Prop := ∀ (k : Nat) (x y : Evt), l[k]? = some x → l[k + 1]? = some y → qpo x y < 0
noncomputable def qzh (l : List Evt) : Bool := @decide (Adj l) (Classical.propDecidable _)
theorem qti (l : List Evt) : qzh l = true ↔ Adj l := by unfold qzh; simp
theorem q8f {l : List Evt} (h : ¬ Adj l) : qzh l = false := by
  cases hv : qzh l with
  | false => rfl
  | true => exact absurd ((qti l).1 hv) h
section
variable (l : List Evt) (c : Bool)
theorem q5y (hl : l.length ≤ 1000000) (hk : qg7 l) : ∃ y, itB (exec (evL T) itL none qf2) (qr [0, 3] true 0) ⟨[(0, (.fsl ((l).map Evt.r) c)), (3, (ii 1))], []⟩ [] = some y ∧
    ((y.1 = .exit 0 ∧ y.2.1.marks = [] ∧ y.2.2 = [] ∧ Adj l) ∨ (y.1 = .ret ∧ y.2.1.marks = [] ∧ y.2.2 = [] ∧ Ev.look y.2.1.vars 2 = some (bb false) ∧ ¬ Adj l)) := by
  have key := qfi (f := exec (evL T) itL none qf2) (s := qr [0, 3] true 0) (α := Unit) (fun i _ => ⟨[(0, (.fsl ((l).map Evt.r) c)), (3, (ii ((i + 1 : Nat))))], []⟩) (fun _ _ => [])
    (fun i _ => ∀ (k : Nat) (x y : Evt), k < i → l[k]? = some x → l[k + 1]? = some y → qpo x y < 0) (l.length - 1)
    (fun y => (y.1 = .exit 0 ∧ y.2.1.marks = [] ∧ y.2.2 = [] ∧ Adj l) ∨ (y.1 = .ret ∧ y.2.1.marks = [] ∧ y.2.2 = [] ∧ Ev.look y.2.1.vars 2 = some (bb false) ∧ ¬ Adj l)) ?_ ?_ 0 () (Nat.zero_le _) (fun k x y h => by omega)
  · exact key
  · rintro j _ hj hinv
    obtain ⟨i, hi⟩ : ∃ i, i = j + 1 := ⟨_, rfl⟩
    obtain ⟨x, hx⟩ : ∃ x, l[i]? = some x := ⟨_, List.getElem?_eq_getElem (by omega)⟩
    obtain ⟨p, hp⟩ : ∃ p, l[j]? = some p := ⟨_, List.getElem?_eq_getElem (by omega)⟩
    rw [← hi]
    have hi' : (i : Int) < (l.length : Int) := by omega
    have hw : IntKind.i64.wrap ((i : Int) + 1) = ((i + 1 : Nat) : Int) := qvz (by omega)
    have w1 : IntKind.i64.wrap ((i : Int) - 1) = (j : Int) := qzy hi (by omega)
    have hc := qip p x (hk p (List.mem_of_getElem? hp)) (hk x (List.mem_of_getElem? hx))
    by_cases hlt : qpo p x < 0
    · have hge : ¬ qpo p x ≥ 0 := by omega
      refine .inl ⟨(), ?_, fun k u v h hu hv => ?_⟩
      · clear hlt hinv
        obtain ⟨xt, xk, xl, xi, xp, xa⟩ := x
        obtain ⟨yt, yk, yl, yi, yp, ya⟩ := p
        simp only at hc
        simp only [qf2, Int.natCast_nonneg, Int.toNat_natCast, List.getElem?_map, Option.map_some, hi', hw, w1, hx, hp, hc, hge, Evt.r, qy, qx, Ev.exec, qb, qe, qc, qa5, qah, Ev.evs, Ev.Opnd.ev, Ev.Env.get, Ev.Env.set, Ev.look, qf, qv, qap, qor, qi, qbq, qr, Ev.keep, qal, qad, qg, qbc, qa2, qm, qh, qd, List.length_map, ↓qn, Ev.it1, ↓reduceIte, List.length_cons, List.length_nil, List.take_succ_cons, zfe, Nat.reduceAdd, Nat.reduceEqDiff, reduceCtorEq, decide_true, decide_false, zfc, zfa, and_self, zfd, Nat.le_refl, eq_self]
      · rcases Nat.lt_or_ge k j with h1 | h1
        · exact hinv k u v h1 hu hv
        · have hkj : k = j := by omega
          subst hkj
          rw [← hi, hx] at hv
          rw [hp] at hu
          cases hu; cases hv; exact hlt
    · have hge : qpo p x ≥ 0 := by omega
      have hno : ¬ Adj l := fun h => hlt (h j p x hp (by rw [← hi]; exact hx))
      refine .inr ?_
      clear hlt hinv
      obtain ⟨xt, xk, xl, xi, xp, xa⟩ := x
      obtain ⟨yt, yk, yl, yi, yp, ya⟩ := p
      simp only at hc
      simp only [qf2, Int.natCast_nonneg, Int.toNat_natCast, List.getElem?_map, Option.map_some, hi', w1, hx, hp, hc, hge, Evt.r, qx, Ev.exec, qb, qe, qc, qa5, qah, Ev.evs, Ev.Opnd.ev, Ev.Env.get, Ev.Env.set, Ev.look, qf, qv, qor, qi, qbq, qbc, qa2, qm, qh, qd, List.length_map, ↓qn, Ev.it1, ↓reduceIte, List.length_cons, List.length_nil, List.take_succ_cons, zfe, Nat.reduceAdd, Nat.reduceEqDiff, reduceCtorEq, decide_true, zfc, zfd, Nat.le_refl, eq_self]
      exact ⟨_, rfl, .inr ⟨rfl, rfl, rfl, rfl, hno⟩⟩
  · rintro _ hinv
    have hn : ¬ ((l.length - 1 + 1 : Nat) : Int) < (l.length : Int) := by omega
    simp only [qf2, hn, Ev.exec, qb, qe, qc, qah, Ev.Opnd.ev, Ev.Env.get, Ev.Env.set, Ev.look, qi, List.length_map, ↓qn, Ev.it1, ↓reduceIte, Nat.reduceEqDiff, reduceCtorEq, decide_false, zfa, eq_self]
    exact ⟨_, rfl, .inl ⟨rfl, rfl, rfl, fun k x y hx hy => hinv k x y (by have := (List.getElem?_eq_some_iff.1 hy).1; omega) hx hy⟩⟩
theorem qyr (hl : l.length ≤ 1000000) (hk : qg7 l) : qa8 (evL T) qhy [(.fsl ((l).map Evt.r) c)] = some (bb (qzh l)) := by
  obtain ⟨⟨y, e, σ⟩, h1, h2⟩ := q5y l c hl hk
  rw [qa8, qae qxg qu3]
  rcases h2 with ⟨h2, h3, h4, h5⟩ | ⟨h2, h3, h4, h5, h6⟩ <;> simp only at h2 h3 h4 h5 <;> subst h2 <;> subst h4
  · rw [(qti l).2 h5]
    simp only [qkj, h1, h3, qy, qk, Ev.exec, qb, qe, qc, qah, Ev.Opnd.ev, Ev.Env.get, Ev.Env.set, Ev.look, ql, qj, qs, qak, Ev.kill, qai, qr, Ev.keep, qal, qad, qg, qbc, qm, qac, ↓qn, ↓qa0, ↓reduceIte, List.length_cons, List.length_nil, zfe, reduceCtorEq, zfc, and_self, zfd, eq_self]
  · rw [q8f h6]
    simp only [qkj, h1, h3, h5, qy, qk, Ev.exec, qb, qe, qc, qah, Ev.Opnd.ev, Ev.Env.get, Ev.Env.set, Ev.look, ql, qj, qs, qak, Ev.kill, qai, qr, Ev.keep, qal, qad, qg, qbc, qm, qac, ↓qn, ↓qa0, ↓reduceIte, List.length_cons, List.length_nil, zfe, reduceCtorEq, zfc, and_self, zfd, eq_self]
end
open Go.Ev
set_option maxRecDepth 10000
def q46 : Evt := ⟨0, [], 0, 0, 0, 0⟩
def qs6 (l : List Evt) (b : Int) : List Evt × Evt × Bool := match l with
  | [] => ([], q46, false)
  | x :: r => if x.time < b then (r, x, true) else (x :: r, q46, false)
theorem qxv (l : List Evt) (c : Bool) (b : Int) (hl : l.length ≤ 1000000) : ∃ c' : Bool, qa8 (evL T) qg0 [(.fsl ((l).map Evt.r) c), (ii b)] = some (.tup [(.fsl (((qs6 l b).1).map Evt.r) c'), (.agg [(ii ((qs6 l b).2.1.time)), (.fsl (((qs6 l b).2.1.key).map qbz) false), (ii ((qs6 l b).2.1.lp)), (ii ((qs6 l b).2.1.kind)), (ii ((qs6 l b).2.1.proc)), (ii ((qs6 l b).2.1.arg))]), (bb ((qs6 l b).2.2))]) := by
  rw [qa8, qae qvt qt8]
  cases l with
  | nil =>
    refine ⟨c, ?_⟩
    simp only [qim, qs6, q46, List.map_nil, Int.lt_irrefl, qk, Ev.exec, qb, qe, qc, qah, Ev.Opnd.ev, Ev.Env.get, Ev.Env.set, Ev.Env.unset, Ev.look, ql, qf, qv, qft, Ev.AV.cells, qo, Ev.AV.plain, qbb, qj, qs, qak, Ev.kill, qai, qg, qbc, qa2, qb0, qm, qh, qd, qu, qac, ↓qn, ↓reduceIte, List.length_cons, List.length_nil, List.getElem?_cons_zero, List.take_succ_cons, List.take_zero, zfe, List.drop_succ_cons, List.drop_zero, List.drop_nil, List.nil_append, List.append_nil, List.set_cons_zero, Nat.reduceAdd, Nat.reduceEqDiff, Int.cast_ofNat_Int, reduceCtorEq, decide_false, zfc, zfa, and_self, ne_eq, zfb, zff, zfd, Nat.le_refl, eq_self]
    try rfl
  | cons x r =>
    have hcl := qst r c (by simp at hl; omega)
    have h1 : (1 : Int) ≤ ((r.length + 1 : Nat) : Int) := by omega
    have htk : (r.map Evt.r).take r.length = r.map Evt.r := List.take_of_length_le (by simp)
    obtain ⟨xt, xk, xl, xi, xp, xa⟩ := x
    have h0 : ((r.length + 1 : Nat) : Int) > 0 := by omega
    by_cases h : xt < b
    · refine ⟨false, ?_⟩
      simp only [qim, qs6, Int.toNat_natCast, List.map_cons, Evt.r, h0, h1, h, hcl, htk, Int.le_refl, Nat.add_sub_cancel, imp_self, qx, qy, qf1, qk, Ev.exec, qb, qe, qc, qrb, q1t, Ev.AV.shift, qah, Ev.evs, Ev.Opnd.ev, Ev.Env.get, Ev.Env.set, Ev.look, ql, qf0, qf, qv, Ev.AV.cells, qo, Ev.AV.plain, qi, qbb, qj, qs, qak, Ev.kill, qai, qg, qbc, qa2, qb0, qm, qdm, qh, qd, qbf, qac, qt1, qhd, qe0, qgg, qeh, qg5, List.length_map, ↓qn, ↓reduceIte, List.length_cons, List.length_nil, List.getElem?_cons_zero, List.getElem?_cons_succ, List.take_succ_cons, List.take_zero, zfe, List.drop_succ_cons, List.drop_zero, List.drop_nil, List.cons_append, List.nil_append, List.append_nil, List.set_cons_zero, List.head?_cons, Nat.reduceAdd, Nat.reduceEqDiff, Nat.reduceLT, Int.reduceLE, Int.reduceToNat, reduceCtorEq, decide_true, decide_false, zfc, Bool.and_true, zfa, and_self, and_true, ne_eq, zfb, zff, zfd, Nat.le_refl, Option.isSome_none, eq_self]
      try rfl
    · refine ⟨c, ?_⟩
      simp only [qim, qs6, q46, List.map_cons, Evt.r, h0, h, qx, qy, qk, Ev.exec, qb, qe, qc, qah, Ev.Opnd.ev, Ev.Env.get, Ev.Env.set, Ev.look, ql, qf, qv, qft, Ev.AV.cells, qo, Ev.AV.plain, qi, qbb, qj, qs, qak, Ev.kill, qai, qg, qbc, qa2, qb0, qm, qh, qd, qu, qaj, qac, List.length_map, ↓qn, ↓reduceIte, List.length_cons, List.length_nil, List.getElem?_cons_zero, List.take_succ_cons, List.take_zero, zfe, List.drop_succ_cons, List.drop_zero, List.drop_nil, List.nil_append, List.append_nil, List.set_cons_zero, List.head?_cons, Nat.reduceAdd, Nat.reduceEqDiff, Int.reduceLE, Int.reduceToNat, reduceCtorEq, decide_true, decide_false, zfc, zfa, and_self, ne_eq, zfb, zff, zfd, Nat.le_refl, eq_self]
      try rfl
open Go.Ev
set_option maxRecDepth 10000
theorem qn6 (x y : Evt) (hx : x.key.length ≤ 9223372036854775807) (hy : y.key.length ≤ 9223372036854775807) :
    (evL T).call qa3 [(.agg [(ii x.time), (.fsl ((x.key).map qbz) false), (ii x.lp), (ii x.kind), (ii x.proc), (ii x.arg)]), (.agg [(ii y.time), (.fsl ((y.key).map qbz) false), (ii y.lp), (ii y.kind), (ii y.proc), (ii y.arg)])] [] = some ((ii (qpo x y)), []) := by
  obtain ⟨xt, xk, xl, xi, xp, xa⟩ := x
  obtain ⟨yt, yk, yl, yi, yp, ya⟩ := y
  have hc := qne xt yt
  have hk := qq0 xk yk false false hx hy
  have hf := qyl (qoo xt yt) (qkm xk yk) true
  simp only [List.map_cons, List.map_nil, qbz] at hf
  rw [qae qo4 qn4]
  simp only [qgn, show ∀ v : List AV, List.replicate 2 v = [v, v] from fun _ => rfl, hc, hk, hf, qpo, qx, qk, Ev.exec, qb, qe, qc, qa5, qah, Ev.evs, Ev.Opnd.ev, Ev.Env.get, Ev.Env.set, Ev.look, ql, qf, qv, qfy, Ev.AV.cells, Ev.AV.uc, qo, Ev.AV.plain, qj, qs, qak, Ev.kill, qai, qg, qbc, qm, qh, qd, qu, qaj, ↓qn, ↓reduceIte, List.length_cons, List.length_nil, zfe, List.drop_succ_cons, List.drop_zero, List.set_cons_zero, List.set_cons_succ, List.head?_cons, Nat.reduceAdd, Nat.reduceEqDiff, Nat.reduceMul, Nat.reduceLT, Nat.reduceLeDiff, Nat.reducePow, reduceCtorEq, zfc, zfa, and_self, ne_eq, zfb, zff, zfd, Nat.lt_add_one, eq_self]
section
variable (l : List Evt) (c : Bool) (x : Evt)
def At (l : List Evt) (x : Evt) (k : Nat) : Prop := k ≤ l.length ∧ (∀ u, 0 < k → l[k - 1]? = some u → qpo u x < 0) ∧ (∀ v, l[k]? = some v → 0 ≤ qpo v x)
theorem bs_L (hl : l.length ≤ 1000000) (hk : qg7 l) (kx : x.key.length ≤ 9223372036854775807) :
    ∃ y, itB (exec (evL T) itL none qaf) (qr [0, 2, 4, 8, 9, 10] true 0) ⟨[(0, (.fsl ((l).map Evt.r) c)), (2, (.fn (.func qa3) [] [])), (4, (.fptr [(ii x.time), (.fsl ((x.key).map qbz) false), (ii x.lp), (ii x.kind), (ii x.proc), (ii x.arg)])), (8, (ii l.length)), (9, (ii 0)), (10, (ii l.length))], []⟩ [] = some y ∧
      ∃ k : Nat, y.1 = .exit 0 ∧ y.2.1.marks = [] ∧ y.2.2 = [] ∧ Ev.look y.2.1.vars 0 = some (.fsl ((l).map Evt.r) c) ∧ Ev.look y.2.1.vars 2 = some (.fn (.func qa3) [] []) ∧ Ev.look y.2.1.vars 4 = some (.fptr [(ii x.time), (.fsl ((x.key).map qbz) false), (ii x.lp), (ii x.kind), (ii x.proc), (ii x.arg)]) ∧ Ev.look y.2.1.vars 8 = some (ii l.length) ∧ Ev.look y.2.1.vars 9 = some (ii k) ∧ At l x k := by
  have key := qwz (f := exec (evL T) itL none qaf) (s := qr [0, 2, 4, 8, 9, 10] true 0) (τ := Nat × Nat) (fun a => ⟨[(0, (.fsl ((l).map Evt.r) c)), (2, (.fn (.func qa3) [] [])), (4, (.fptr [(ii x.time), (.fsl ((x.key).map qbz) false), (ii x.lp), (ii x.kind), (ii x.proc), (ii x.arg)])), (8, (ii l.length)), (9, (ii a.1)), (10, (ii a.2))], []⟩) (fun _ => []) (fun a => a.2 - a.1)
    (fun a => a.1 ≤ a.2 ∧ a.2 ≤ l.length ∧ (∀ u, 0 < a.1 → l[a.1 - 1]? = some u → qpo u x < 0) ∧ (∀ v, l[a.2]? = some v → 0 ≤ qpo v x))
    (fun y => ∃ k : Nat, y.1 = .exit 0 ∧ y.2.1.marks = [] ∧ y.2.2 = [] ∧ Ev.look y.2.1.vars 0 = some (.fsl ((l).map Evt.r) c) ∧ Ev.look y.2.1.vars 2 = some (.fn (.func qa3) [] []) ∧ Ev.look y.2.1.vars 4 = some (.fptr [(ii x.time), (.fsl ((x.key).map qbz) false), (ii x.lp), (ii x.kind), (ii x.proc), (ii x.arg)]) ∧ Ev.look y.2.1.vars 8 = some (ii l.length) ∧ Ev.look y.2.1.vars 9 = some (ii k) ∧ At l x k)
    ?_ (0, l.length) ⟨Nat.zero_le _, Nat.le_refl _, fun u h => by simp only at h; omega, fun v hv => by simp at hv⟩
  · exact key
  rintro ⟨i, j⟩ ⟨h1, h2, h3, h4⟩
  simp only at h1 h2 h3 h4 ⊢
  by_cases hij : i < j
  case neg =>
    have c1 : ¬ (i : Int) < (j : Int) := by omega
    right
    simp only [qaf, c1, Ev.exec, qb, qe, qc, qah, Ev.Opnd.ev, Ev.Env.get, Ev.Env.set, Ev.look, qi, ↓qn, Ev.it1, ↓reduceIte, Nat.reduceEqDiff, reduceCtorEq, decide_false, zfa, eq_self]
    obtain rfl : i = j := by omega
    exact ⟨_, rfl, i, rfl, rfl, rfl, rfl, rfl, rfl, rfl, rfl, by omega, h3, h4⟩
  obtain ⟨h, hh⟩ : ∃ h, h = (i + j) / 2 := ⟨_, rfl⟩
  have c1 : (i : Int) < (j : Int) := by omega
  obtain ⟨y, hy⟩ : ∃ y, l[h]? = some y := ⟨_, List.getElem?_eq_getElem (by omega)⟩
  have w1 : IntKind.i64.wrap ((i : Int) + (j : Int)) = ((i + j : Nat) : Int) := q8g (by omega)
  have w2 : IntKind.u64.wrap ((i + j : Nat) : Int) = ((i + j : Nat) : Int) := q7d (by omega)
  have w3 := half_bin (i + j) h hh
  have w4 : IntKind.i64.wrap (h : Int) = (h : Int) := q7i (by omega)
  have w5 : IntKind.i64.wrap ((h : Int) + 1) = ((h + 1 : Nat) : Int) := qvz (by omega)
  have ky : y.key.length ≤ 9223372036854775807 := hk y (List.mem_of_getElem? hy)
  have hc := qn6 y x ky kx
  left
  by_cases hlt : qpo y x < 0
  · refine ⟨(h + 1, j), ?_, ⟨by simp only; omega, h2, fun u _ hu => ?_, h4⟩, by simp only; omega⟩
    · clear h3 h4
      obtain ⟨xt, xk, xl, xi, xp, xa⟩ := x
      obtain ⟨yt, yk, yl, yi, yp, ya⟩ := y
      simp only at hc
      simp only [qaf, Int.natCast_nonneg, Int.toNat_natCast, List.getElem?_map, Option.map_some, hy, c1, w1, w2, w3, w4, w5, hc, hlt, Evt.r, qy, qx, Ev.exec, qb, qe, qc, qsv, qah, Ev.evs, Ev.Opnd.ev, Ev.Env.get, Ev.Env.set, Ev.look, qf, qv, qap, qi, qr, Ev.keep, qal, qad, qg, qbc, qm, qbh, qyq, qh, qd, ↓qn, Ev.it1, ↓reduceIte, List.length_cons, List.length_nil, List.take_succ_cons, zfe, List.nil_append, List.append_nil, Nat.reduceAdd, Nat.reduceEqDiff, reduceCtorEq, decide_true, zfc, and_self, zfd, Nat.le_refl, eq_self]
    · simp only [Nat.add_sub_cancel] at hu
      rw [hy] at hu; cases hu; exact hlt
  · refine ⟨(i, h), ?_, ⟨by simp only; omega, by simp only; omega, h3, fun v hv => by simp only at hv; rw [hy] at hv; cases hv; omega⟩, by simp only; omega⟩
    clear h3 h4
    obtain ⟨xt, xk, xl, xi, xp, xa⟩ := x
    obtain ⟨yt, yk, yl, yi, yp, ya⟩ := y
    simp only at hc
    simp only [qaf, Int.natCast_nonneg, Int.toNat_natCast, List.getElem?_map, Option.map_some, hy, c1, w1, w2, w3, w4, hc, hlt, Evt.r, qy, qx, Ev.exec, qb, qe, qc, qsv, qah, Ev.evs, Ev.Opnd.ev, Ev.Env.get, Ev.Env.set, Ev.look, qf, qv, qap, qi, qr, Ev.keep, qal, qad, qg, qbc, qm, qbh, qyq, qh, qd, ↓qn, Ev.it1, ↓reduceIte, List.length_cons, List.length_nil, List.take_succ_cons, zfe, List.nil_append, List.append_nil, Nat.reduceAdd, Nat.reduceEqDiff, reduceCtorEq, decide_true, decide_false, zfc, zfa, and_self, zfd, Nat.le_refl, eq_self]
theorem bs_ev (hl : l.length ≤ 1000000) (hk : qg7 l) (kx : x.key.length ≤ 9223372036854775807) : ∃ (k : Nat) (b : Bool), At l x k ∧
    qa8 (evL T) qab [(.fsl ((l).map Evt.r) c), (.agg [(ii x.time), (.fsl ((x.key).map qbz) false), (ii x.lp), (ii x.kind), (ii x.proc), (ii x.arg)]), (.fn (.func qa3) [] [])] = some (.tup [(ii k), (bb b)]) := by
  obtain ⟨⟨y, e, σ⟩, h1, k, h2, h3, h4, h5, h6, h7, h8, h9, hA⟩ := bs_L l c x hl hk kx
  simp only at h2 h3 h4 h5 h6 h7 h8 h9
  subst h2; subst h4
  refine ⟨k, match l[k]? with | some v => decide (qpo v x = 0) | none => false, hA, ?_⟩
  rw [qa8, qae qdu qdr]
  by_cases hkn : k < l.length
  · obtain ⟨v, hv⟩ : ∃ v, l[k]? = some v := ⟨_, List.getElem?_eq_getElem hkn⟩
    have c1 : (k : Int) < (l.length : Int) := by omega
    have hc := qn6 v x (hk v (List.mem_of_getElem? hv)) kx
    clear hA
    obtain ⟨xt, xk, xl, xi, xp, xa⟩ := x
    obtain ⟨yt, yk, yl, yi, yp, ya⟩ := v
    simp only at hc h1 h7
    simp only [qan, Int.natCast_nonneg, Int.toNat_natCast, List.getElem?_map, Option.map_some, h1, h3, h5, h6, h7, h8, h9, hv, c1, hc, Evt.r, qy, qx, qk, Ev.exec, qb, qe, qc, qsv, qah, Ev.evs, Ev.Opnd.ev, Ev.Env.get, Ev.Env.set, Ev.look, ql, qf, qv, Ev.AV.cells, qo, Ev.AV.plain, qas, qi, qj, qs, qak, Ev.kill, qai, qr, Ev.keep, qal, qad, qg, qbc, qb0, qm, qbh, qyq, qh, qd, qac, List.length_map, ↓qn, ↓qa0, ↓reduceIte, List.length_cons, List.length_nil, List.take_succ_cons, zfe, List.nil_append, List.append_nil, Nat.reduceAdd, Nat.reduceEqDiff, reduceCtorEq, decide_true, zfc, and_self, ne_eq, zfb, zff, zfd, Nat.le_refl, eq_self]
  · have c1 : ¬ (k : Int) < (l.length : Int) := by omega
    have hv : l[k]? = none := List.getElem?_eq_none (by omega)
    clear hA
    obtain ⟨xt, xk, xl, xi, xp, xa⟩ := x
    simp only at h1 h7
    simp only [qan, h1, h3, h8, h9, hv, c1, qy, qx, qk, Ev.exec, qb, qe, qc, qah, Ev.Opnd.ev, Ev.Env.get, Ev.Env.set, Ev.Env.unset, Ev.look, ql, Ev.AV.cells, qo, Ev.AV.plain, qi, qj, qs, qak, Ev.kill, qai, qr, Ev.keep, qal, qad, qg, qbc, qb0, qm, qbh, qyq, qh, qd, qac, List.length_map, ↓qn, ↓qa0, ↓reduceIte, List.length_cons, List.length_nil, zfe, Nat.reduceAdd, Nat.reduceEqDiff, reduceCtorEq, decide_false, zfc, zfa, and_self, ne_eq, zfb, zff, zfd, eq_self]
theorem qtt (hl : l.length ≤ 1000000) (hk : qg7 l) (kx : x.key.length ≤ 9223372036854775807) : ∃ k : Nat, At l x k ∧
    qa8 (evL T) qee [(.fsl ((l).map Evt.r) c), (.agg [(ii x.time), (.fsl ((x.key).map qbz) false), (ii x.lp), (ii x.kind), (ii x.proc), (ii x.arg)])] = some (.fsl ((l.take k ++ x :: l.drop k).map Evt.r) false) := by
  obtain ⟨k, b, hA, hb⟩ := bs_ev l c x hl hk kx
  refine ⟨k, hA, ?_⟩
  have hcl := qst l c hl
  have hkl : k ≤ l.length := hA.1
  have ok1 := qf1 [x]
  have ok2 := qf1 l
  have hb2 : (l.length + 1) * 64 ≤ 2 ^ 47 := by omega
  have hins : (evL T).call qbd [.sl 0 0 0 l.length false, (ii k), .fsl [x.r] true] [.row 6 (l.map Evt.r) 0] = some (.sl 0 2 0 (l.length + 1) false, [.row 6 ((l.take k ++ x :: l.drop k).map Evt.r) 2]) := by
    rw [evL_ins qhc qhf]
    simp only [insF, List.getElem?_cons_zero, Int.toNat_natCast]
    rw [if_pos ⟨trivial, trivial, trivial, by omega, by omega, by simp, by omega, hkl, ok1, by rw [List.take_of_length_le (by simp)]; exact ok2, hb2⟩]
    rw [List.map_append, List.map_cons, List.map_take, List.map_drop, List.take_of_length_le (l := l.map Evt.r) (i := l.length) (by simp)]
    rfl
  have htk : ((l.take k ++ x :: l.drop k).map Evt.r).take (l.length + 1) = (l.take k ++ x :: l.drop k).map Evt.r := List.take_of_length_le (by simp; omega)
  have hlen : l.length + 1 ≤ (l.take k ++ x :: l.drop k).length := by simp; omega
  rw [qa8, qae qss qr0]
  clear hA
  generalize l.take k ++ x :: l.drop k = R at *
  obtain ⟨xt, xk, xl, xi, xp, xa⟩ := x
  simp only [Evt.r] at hins
  simp only at hb
  simp only [qjz, hb, hcl, hins, htk, hlen, qy, qx, qk, Ev.exec, qb, qe, qc, qa5, qrb, qjp, q1t, Ev.AV.shift, qah, Ev.evs, Ev.Opnd.ev, Ev.Env.get, Ev.Env.set, Ev.look, ql, qf, qv, qfy, Ev.AV.cells, qo, Ev.AV.plain, qj, qs, qak, Ev.kill, qai, qg, qbc, qa2, qm, qdm, qyq, qh, qd, qhd, qe0, qgg, qeh, qg5, List.replicate_one, List.length_map, ↓qn, ↓reduceIte, List.length_cons, List.length_nil, List.getElem?_cons_zero, List.getElem?_cons_succ, List.take_succ_cons, List.take_zero, zfe, List.drop_zero, List.nil_append, List.set_cons_zero, Nat.reduceAdd, Nat.reduceEqDiff, Nat.reduceMul, Nat.reduceLT, Nat.reduceLeDiff, Nat.reducePow, reduceCtorEq, decide_false, zfc, zfa, and_self, and_true, ne_eq, zfb, zff, zfd, Nat.add_zero, Nat.lt_add_one, Nat.le_refl, eq_self]
end
open Go.Ev
set_option maxRecDepth 10000
theorem qjd (n : Nat) : ∀ (a b : List (List AV)), qiz n (a ++ b) = (qiz n a && qiz n b)
  | [], b => by simp [qu]
  | x :: a, b => by rw [List.cons_append, qaj, qaj, qjd n a b, Bool.and_assoc]
theorem q0p (l : List Int) (c : Bool) (h : l.length ≤ 100000) : (evL T).call qec [(.fsl ((l).map qbz) c)] [] = some (.sl 0 0 0 l.length false, [.row 1 (l.map qbz) 0]) := by
  have h' : l.length * 8 ≤ 140737488355328 := by omega
  rw [q2k qnj]
  simp only [qrg, qx, q6a, h', Nat.lt_add_one, qm, qh, qd, List.length_map, ↓reduceIte, Nat.reducePow, zfc, and_self, Nat.lt_add_one, eq_self]
theorem qyf (l : List Int) (c : Bool) (n : Int) (h : l.length ≤ 100000) : qa8 (evL T) qh1 [(.fsl ((l).map qbz) c), (ii n)] = some (.fsl ((l ++ [n]).map qbz) false) := by
  have h' : (l.length + 1) * 8 ≤ 140737488355328 := by omega
  have htl : List.take l.length (l.map qbz) = l.map qbz := List.take_of_length_le (by simp)
  have htk : ∀ e : List AV, List.take (l.length + 1) (l.map qbz ++ [e]) = l.map qbz ++ [e] := fun e => List.take_of_length_le (by simp)
  have hr : (l ++ [n]).map qbz = l.map qbz ++ [[(ii n)]] := by rw [List.map_append]; rfl
  rw [qa8, qae qxl qvk]
  rw [hr]
  simp only [qlq, q0p l c h, h', htl, htk, qjd, qx, qk, Ev.exec, qb, qe, qc, qrb, q1t, Ev.AV.shift, qah, qoa, Ev.evs, Ev.Opnd.ev, Ev.Env.get, Ev.Env.set, Ev.look, ql, qbu, qfy, Ev.AV.cells, Ev.AV.uc, qo, Ev.AV.plain, qj, qs, qak, Ev.kill, qai, qg, qbc, qm, qdm, qh, qd, qu, qaj, qbg, qbf, qhd, qe0, qgg, qeh, qg5, List.replicate_one, List.length_map, ↓qn, ↓reduceIte, List.length_cons, List.length_nil, List.length_append, List.getElem?_cons_zero, List.take_zero, List.drop_zero, List.nil_append, List.set_cons_zero, Nat.reduceAdd, Nat.reduceEqDiff, Nat.reduceMul, Nat.reduceLT, Nat.reduceLeDiff, Nat.reducePow, reduceCtorEq, decide_true, decide_false, zfc, zfa, and_self, and_true, ne_eq, zfb, zff, zfd, Nat.add_zero, Nat.lt_add_one, Nat.le_refl, eq_self]
open Go.Ev
set_option maxRecDepth 10000
def Fits (l : List Evt) (x : Evt) (k : Nat) : Prop := k ≤ l.length ∧ (∀ u, 0 < k → l[k - 1]? = some u → leE u x) ∧ (∀ v, l[k]? = some v → leE x v)
theorem At.fits {l : List Evt} {x : Evt} {k : Nat} (h : At l x k) : Fits l x k :=
  ⟨h.1, fun u h0 hu => leE_of u x (h.2.1 u h0 hu), fun v hv => by have := h.2.2 v hv; have := qow v x; unfold leE; omega⟩
theorem Fits.perm {l : List Evt} {x : Evt} {k : Nat} : (l.take k ++ x :: l.drop k).Perm (x :: l) := by
  have := List.perm_middle (a := x) (l₁ := l.take k) (l₂ := l.drop k)
  rwa [List.take_append_drop] at this
theorem Fits.sorted {l : List Evt} {x : Evt} {k : Nat} (h : Fits l x k) (hs : l.Pairwise leE) : (l.take k ++ x :: l.drop k).Pairwise leE := by
  obtain ⟨h1, h2, h3⟩ := h
  have hlen : (l.take k).length = k := by rw [List.length_take]; omega
  refine quy qsm (by rwa [List.take_append_drop]) (fun u hu => ?_) (fun v hv => ?_)
  · rw [hlen] at hu
    rw [List.getElem?_take] at hu
    split at hu
    · exact h2 u (by omega) hu
    · cases hu
  · rw [List.getElem?_drop] at hv
    exact h3 v hv
theorem Fits.eq {l : List Evt} {x : Evt} {k : Nat} (h : Fits l x k) (hs : l.Pairwise leE) (hd : qts (x :: l)) : l.take k ++ x :: l.drop k = qgx (x :: l) :=
  qp0 hd Fits.perm (h.sorted hs)
section
variable (l : List Evt) (c : Bool) (x : Evt)
theorem qvu (hl : l.length ≤ 1000000) (hk : qg7 l) (kx : x.key.length ≤ 9223372036854775807) (hs : l.Pairwise leE) (hd : qts (x :: l)) : qa8 (evL T) qee [(.fsl ((l).map Evt.r) c), (.agg [(ii x.time), (.fsl ((x.key).map qbz) false), (ii x.lp), (ii x.kind), (ii x.proc), (ii x.arg)])] = some (.fsl ((qgx (x :: l)).map Evt.r) false) := by
  obtain ⟨k, hA, h⟩ := qtt l c x hl hk kx
  rw [hA.fits.eq hs hd] at h
  exact h
theorem refIns_L (hl : l.length ≤ 1000000) (hk : qg7 l) (hkx : x.key.length ≤ 9223372036854775807) :
    ∃ y, itB (exec (evL T) itL none qg4) (qr [0, 3, 5] true 0) ⟨[(0, (.fsl ((l).map Evt.r) c)), (3, (.fptr [(ii x.time), (.fsl ((x.key).map qbz) false), (ii x.lp), (ii x.kind), (ii x.proc), (ii x.arg)])), (5, (ii l.length))], []⟩ [] = some y ∧
      ∃ k : Nat, y.1 = .exit 0 ∧ y.2.1.marks = [] ∧ y.2.2 = [] ∧ Ev.look y.2.1.vars 0 = some (.fsl ((l).map Evt.r) c) ∧ Ev.look y.2.1.vars 3 = some (.fptr [(ii x.time), (.fsl ((x.key).map qbz) false), (ii x.lp), (ii x.kind), (ii x.proc), (ii x.arg)]) ∧ Ev.look y.2.1.vars 5 = some (ii k) ∧ Fits l x k := by
  refine qwz (τ := Nat) (fun k => ⟨[(0, (.fsl ((l).map Evt.r) c)), (3, (.fptr [(ii x.time), (.fsl ((x.key).map qbz) false), (ii x.lp), (ii x.kind), (ii x.proc), (ii x.arg)])), (5, (ii k))], []⟩) (fun _ => []) (fun k => k)
    (fun k => k ≤ l.length ∧ (∀ v, l[k]? = some v → leE x v)) _ ?_ l.length ⟨Nat.le_refl _, fun v hv => by simp at hv⟩
  rintro k ⟨h1, h2⟩
  cases k with
  | zero =>
    right
    simp only [qg4, Int.lt_irrefl, gt_iff_lt, Ev.exec, qb, qe, qc, qah, Ev.Opnd.ev, Ev.Env.get, Ev.Env.set, Ev.Env.unset, Ev.look, qbb, ↓qn, Ev.it1, ↓reduceIte, Nat.reduceEqDiff, Int.cast_ofNat_Int, reduceCtorEq, decide_false, zfa, eq_self]
    exact ⟨_, rfl, 0, rfl, rfl, rfl, rfl, rfl, rfl, Nat.zero_le _, fun u h => by omega, h2⟩
  | succ j =>
    obtain ⟨y, hy⟩ : ∃ y, l[j]? = some y := ⟨_, List.getElem?_eq_getElem (by omega)⟩
    obtain ⟨k, hk1⟩ : ∃ k, k = j + 1 := ⟨_, rfl⟩
    rw [← hk1] at h1 h2 ⊢
    have c1 : (k : Int) > 0 := by omega
    have w1 : IntKind.i64.wrap ((k : Int) - 1) = (j : Int) := qzy hk1 (by omega)
    have hc := qip y x (hk y (List.mem_of_getElem? hy)) hkx
    by_cases hlt : qpo y x > 0
    · left
      refine ⟨j, ?_, ⟨by omega, fun v hv => by rw [hy] at hv; cases hv; exact (by have := qow y x; unfold leE; omega)⟩, by omega⟩
      clear h2
      obtain ⟨xt, xk, xl, xi, xp, xa⟩ := x
      obtain ⟨yt, yk, yl, yi, yp, ya⟩ := y
      simp only at hc
      simp only [qg4, Int.natCast_nonneg, Int.toNat_natCast, List.getElem?_map, Option.map_some, hy, c1, w1, hc, hlt, Evt.r, qy, qx, Ev.exec, qb, qe, qc, qa5, qah, Ev.evs, Ev.Opnd.ev, Ev.Env.get, Ev.Env.set, Ev.look, qf, qv, qor, qbb, qr, Ev.keep, qal, qad, qg, qbc, qa2, qm, qbh, qh, qd, ↓qn, Ev.it1, ↓reduceIte, List.length_cons, List.length_nil, List.take_succ_cons, zfe, Nat.reduceAdd, Nat.reduceEqDiff, reduceCtorEq, decide_true, zfc, and_self, zfd, Nat.le_refl, eq_self]
    · right
      have hle : leE y x := by unfold leE; omega
      have h3 : ∀ u, 0 < k → l[k - 1]? = some u → leE u x := fun u _ hu => by
        rw [hk1, Nat.add_sub_cancel, hy] at hu; cases hu; exact hle
      have hF : Fits l x k := ⟨h1, h3, h2⟩
      clear hle h3 h2
      obtain ⟨xt, xk, xl, xi, xp, xa⟩ := x
      obtain ⟨yt, yk, yl, yi, yp, ya⟩ := y
      simp only at hc
      simp only [qg4, Int.natCast_nonneg, Int.toNat_natCast, List.getElem?_map, Option.map_some, hy, c1, w1, hc, hlt, Evt.r, qx, Ev.exec, qb, qe, qc, qa5, qah, Ev.evs, Ev.Opnd.ev, Ev.Env.get, Ev.Env.set, Ev.look, qf, qv, qor, qbb, qbc, qa2, qm, qh, qd, ↓qn, Ev.it1, ↓reduceIte, List.length_cons, List.length_nil, List.take_succ_cons, zfe, Nat.reduceAdd, Nat.reduceEqDiff, reduceCtorEq, decide_true, decide_false, zfc, zfa, zfd, Nat.le_refl, eq_self]
      exact ⟨_, rfl, k, rfl, rfl, rfl, rfl, rfl, rfl, hF⟩
theorem qws (hl : l.length ≤ 1000000) (hk : qg7 l) (hkx : x.key.length ≤ 9223372036854775807) : ∃ k : Nat, Fits l x k ∧ qa8 (evL T) qfl [(.fsl ((l).map Evt.r) c), (.agg [(ii x.time), (.fsl ((x.key).map qbz) false), (ii x.lp), (ii x.kind), (ii x.proc), (ii x.arg)])] = some (.fsl ((l.take k ++ x :: l.drop k).map Evt.r) false) := by
  obtain ⟨⟨y, e, σ⟩, k1, k, k2, k3, k4, k5, k6, k7, hF⟩ := refIns_L l c x hl hk hkx
  simp only at k1 k2 k3 k4 k5 k6 k7
  subst k2; subst k4
  refine ⟨k, hF, ?_⟩
  have hkl := hF.1
  clear hF
  obtain ⟨A, B, rfl, hA⟩ : ∃ A B, l = A ++ B ∧ A.length = k := ⟨l.take k, l.drop k, (List.take_append_drop _ _).symm, by simp; omega⟩
  subst hA
  rw [List.take_left' rfl, List.drop_left' rfl]
  have c1 : (A.length : Int) ≤ ((A ++ B).length : Int) := by rw [List.length_append]; omega
  have c2 : (0 : Int) ≤ (A.length : Int) := by omega
  have tk : List.take A.length ((A ++ B).map Evt.r) = A.map Evt.r := by rw [List.map_append]; exact List.take_left' (by simp)
  have dr : List.drop A.length ((A ++ B).map Evt.r) = B.map Evt.r := by rw [List.map_append]; exact List.drop_left' (by simp)
  have hlen : A.length + B.length ≤ 1000000 := by rw [List.length_append] at hl; exact hl
  have b1 : A.length * 64 ≤ 140737488355328 := by omega
  have b2 : (A.length + 1) * 64 ≤ 140737488355328 := by omega
  have b3 : (A.length + 1 + B.length) * 64 ≤ 140737488355328 := by omega
  have tb : List.take ((A ++ B).length - A.length) (B.map Evt.r) = B.map Evt.r := List.take_of_length_le (by simp)
  have ta : List.take A.length (A.map Evt.r) = A.map Evt.r := List.take_of_length_le (by simp)
  have ta2 : ∀ e : List AV, List.take (A.length + 1) (A.map Evt.r ++ [e]) = A.map Evt.r ++ [e] := fun e => List.take_of_length_le (by simp)
  have ta3 : ∀ e : List AV, List.take (A.length + 1 + B.length) (A.map Evt.r ++ e :: B.map Evt.r) = A.map Evt.r ++ e :: B.map Evt.r := fun e => List.take_of_length_le (by simp; omega)
  have okAB : qce 6 ((A ++ B).map Evt.r) = true := qf1 _
  have goal' : (AV.fsl ((A ++ x :: B).map Evt.r) false) = AV.fsl (A.map Evt.r ++ x.r :: B.map Evt.r) false := by rw [List.map_append, List.map_cons]
  have n1 : ∀ p q : Nat, p + 1 + q ≤ p + (q + 1) := fun p q => by omega
  have n2 : ∀ q : Nat, 1 + q ≤ q + 1 := fun q => by omega
  rw [goal']
  clear hl hk
  rw [qa8, qae qu4 qtf]
  rcases A with _ | ⟨a, A⟩ <;> rcases B with _ | ⟨b, B⟩
  · obtain ⟨xt, xk, xl, xi, xp, xa⟩ := x
    simp only [List.nil_append, List.length_nil, List.map_nil, Int.ofNat_zero] at *
    simp only [qgv, k1, k3, k5, k6, k7, c1, tk, dr, b1, b2, ta2, okAB, imp_self, Nat.sub_zero, Int.toNat_zero, Evt.r, qx, qk, Ev.exec, qb, qe, qc, qah, qoa, Ev.Opnd.ev, Ev.Env.get, Ev.Env.set, Ev.look, ql, qf0, qf, qbu, qv, qfy, Ev.AV.cells, qo, Ev.AV.plain, qj, qs, qak, Ev.kill, qai, qr, Ev.keep, qal, qad, qg, qbc, qm, qbh, qdm, qh, qd, qu, qbf, qac, qhd, qgg, qeh, List.replicate_one, ↓qn, ↓qa0, ↓reduceIte, List.length_cons, List.length_nil, List.getElem?_cons_zero, List.take_succ_cons, List.take_zero, zfe, List.drop_zero, List.nil_append, List.set_cons_zero, Nat.reduceAdd, Nat.reduceEqDiff, Nat.reduceMul, Nat.reduceLT, Nat.reduceLeDiff, Nat.reducePow, Int.cast_ofNat_Int, reduceCtorEq, decide_true, decide_false, zfc, Bool.and_true, zfa, and_self, and_true, ne_eq, zfb, zff, zfd, Nat.add_zero, Nat.lt_add_one, Nat.le_refl, Option.isSome_some, Option.isSome_none, eq_self, implies_true]
  · generalize hRB : List.map Evt.r (b :: B) = RB at *
    have nB : ¬ RB = [] := by rw [← hRB]; simp
    have lB : RB.length = (b :: B).length := by rw [← hRB]; simp
    have oB : qce 6 RB = true := by rw [← hRB]; exact qf1 _
    have loB : ∀ n, qiz n RB = true := fun n => by rw [← hRB]; exact qy n _
    obtain ⟨xt, xk, xl, xi, xp, xa⟩ := x
    simp only [List.nil_append, List.length_nil, List.map_nil, Int.ofNat_zero, hRB, Nat.sub_zero, List.drop_zero] at *
    generalize hrb : (b :: B).length = nb at *
    simp only [qgv, Int.toNat_natCast, k1, k3, k5, k6, k7, c1, c2, tk, b1, b2, b3, ta, ta2, ta3, tb, okAB, imp_self, n2, Int.le_refl, Nat.sub_zero, nB, lB, loB, qbg, Int.toNat_zero, Evt.r, qx, qk, Ev.exec, qb, qe, qc, qah, qoa, Ev.Opnd.ev, Ev.Env.get, Ev.Env.set, Ev.look, ql, qf0, qf, qbu, qv, qfy, Ev.AV.cells, qo, Ev.AV.plain, qj, qs, qak, Ev.kill, qai, qr, Ev.keep, qal, qad, qg, qbc, qm, qbh, qdm, qh, qd, qbg, qbf, qac, qhd, qe0, qgg, qeh, List.replicate_one, ↓qn, ↓qa0, ↓reduceIte, List.length_cons, List.length_nil, List.getElem?_cons_zero, List.take_succ_cons, List.take_zero, zfe, List.drop_zero, List.cons_append, List.nil_append, List.set_cons_zero, Nat.reduceAdd, Nat.reduceEqDiff, Nat.reduceMul, Nat.reduceLT, Nat.reduceLeDiff, Nat.reducePow, reduceCtorEq, decide_true, decide_false, zfc, Bool.and_true, zfa, and_self, and_true, ne_eq, zfb, zff, zfd, Nat.add_zero, Nat.lt_add_one, Nat.le_refl, Option.isSome_some, Option.isSome_none, eq_self, implies_true]
  · generalize hRA : List.map Evt.r (a :: A) = RA at *
    have nA : ¬ RA = [] := by rw [← hRA]; simp
    have lA : RA.length = (a :: A).length := by rw [← hRA]; simp
    have oA : qce 6 RA = true := by rw [← hRA]; exact qf1 _
    have loA : ∀ n, qiz n RA = true := fun n => by rw [← hRA]; exact qy n _
    obtain ⟨xt, xk, xl, xi, xp, xa⟩ := x
    simp only [List.append_nil, List.length_nil, List.map_nil, hRA, Nat.add_zero, Nat.sub_self] at *
    generalize hra : (a :: A).length = na at *
    simp only [qgv, Int.toNat_natCast, k1, k3, k5, k6, k7, c1, c2, tk, dr, b1, b2, ta2, tb, okAB, imp_self, Int.le_refl, Nat.sub_zero, nA, lA, loA, qbg, zfe, qjd, Evt.r, qx, qk, Ev.exec, qb, qe, qc, qah, qoa, Ev.Opnd.ev, Ev.Env.get, Ev.Env.set, Ev.look, ql, qf0, qf, qbu, qv, qfy, Ev.AV.cells, qo, Ev.AV.plain, qj, qs, qak, Ev.kill, qai, qr, Ev.keep, qal, qad, qg, qbc, qm, qbh, qdm, qh, qd, qu, qaj, qbg, qbf, qhd, qe0, List.replicate_one, ↓qn, ↓qa0, ↓reduceIte, List.length_cons, List.length_nil, List.length_append, List.getElem?_cons_zero, List.take_succ_cons, List.take_zero, zfe, List.drop_zero, List.nil_append, List.set_cons_zero, Nat.reduceAdd, Nat.reduceEqDiff, Nat.reduceMul, Nat.reduceLT, Nat.reduceLeDiff, Nat.reducePow, Int.reduceToNat, reduceCtorEq, decide_true, decide_false, zfc, Bool.and_true, zfa, and_self, and_true, ne_eq, zfb, zff, zfd, Nat.add_zero, Nat.lt_add_one, Nat.le_refl, Option.isSome_some, Option.isSome_none, eq_self, implies_true]
  · generalize hRA : List.map Evt.r (a :: A) = RA at *
    generalize hRB : List.map Evt.r (b :: B) = RB at *
    have nA : ¬ RA = [] := by rw [← hRA]; simp
    have nB : ¬ RB = [] := by rw [← hRB]; simp
    have lA : RA.length = (a :: A).length := by rw [← hRA]; simp
    have lB : RB.length = (b :: B).length := by rw [← hRB]; simp
    have oA : qce 6 RA = true := by rw [← hRA]; exact qf1 _
    have oB : qce 6 RB = true := by rw [← hRB]; exact qf1 _
    have loA : ∀ n, qiz n RA = true := fun n => by rw [← hRA]; exact qy n _
    have loB : ∀ n, qiz n RB = true := fun n => by rw [← hRB]; exact qy n _
    generalize hra : (a :: A).length = na at *
    generalize hrb : (b :: B).length = nb at *
    generalize (a :: A) ++ (b :: B) = AB at *
    obtain ⟨xt, xk, xl, xi, xp, xa⟩ := x
    simp only [qgv, Int.toNat_natCast, k1, k3, k5, k6, k7, c1, c2, tk, dr, b1, b2, b3, ta, ta2, ta3, tb, okAB, imp_self, n1, List.append_assoc, Int.le_refl, Nat.sub_zero, nA, nB, lA, lB, oA, oB, loA, loB, qjd, Evt.r, qy, qx, qk, Ev.exec, qb, qe, qc, qah, qoa, Ev.Opnd.ev, Ev.Env.get, Ev.Env.set, Ev.look, ql, qf0, qf, qbu, qv, qfy, Ev.AV.cells, qo, Ev.AV.plain, qj, qs, qak, Ev.kill, qai, qr, Ev.keep, qal, qad, qg, qbc, qm, qbh, qdm, qh, qd, qaj, qbg, qbf, qhd, qe0, List.replicate_one, List.length_map, ↓qn, ↓qa0, ↓reduceIte, List.length_cons, List.length_nil, List.length_append, List.getElem?_cons_zero, List.take_succ_cons, List.take_zero, zfe, List.drop_zero, List.cons_append, List.nil_append, List.set_cons_zero, Nat.reduceAdd, Nat.reduceEqDiff, Nat.reduceMul, Nat.reduceLT, Nat.reduceLeDiff, Nat.reducePow, Int.reduceToNat, reduceCtorEq, decide_true, decide_false, zfc, Bool.and_true, zfa, and_self, and_true, ne_eq, zfb, zff, zfd, Nat.lt_add_one, Nat.le_refl, Option.isSome_some, Option.isSome_none, eq_self, implies_true]
theorem qx8 (hl : l.length ≤ 1000000) (hk : qg7 l) (kx : x.key.length ≤ 9223372036854775807) (hs : l.Pairwise leE) (hd : qts (x :: l)) : qa8 (evL T) qfl [(.fsl ((l).map Evt.r) c), (.agg [(ii x.time), (.fsl ((x.key).map qbz) false), (ii x.lp), (ii x.kind), (ii x.proc), (ii x.arg)])] = some (.fsl ((qgx (x :: l)).map Evt.r) false) := by
  obtain ⟨k, hA, h⟩ := qws l c x hl hk kx
  rw [hA.eq hs hd] at h
  exact h
end
open Go.Ev
set_option maxRecDepth 10000
theorem qts.sub {l m : List Evt} (h : qts m) (s : l.Sublist m) : qts l := List.Pairwise.sublist s h
theorem q0j {l m : List Evt} (hd : qts m) (hp : l.Perm m) : qgx l = qgx m := qp0 hd ((qek l).trans hp) (qgi l)
theorem q1i (l : List Evt) : (qgx l).length = l.length := (qek l).length_eq
section
variable (l m : List Evt) (c d : Bool)
end
def qgw (l : List Evt) (k : List Int) : List Evt × Bool := (l.eraseP (fun e => decide (e.key = k)), l.any (fun e => decide (e.key = k)))
section
variable (l : List Evt) (c : Bool) (k : List Int) (d : Bool)
theorem q8e {i : Nat} {x : Evt} (h : l[i]? = some x) (hx : x.key = k) (hb : ∀ (j : Nat) (z : Evt), j < i → l[j]? = some z → ¬ z.key = k) : qgw l k = (l.take i ++ l.drop (i + 1), true) := by
  unfold qgw
  have hany : l.any (fun e => decide (e.key = k)) = true := List.any_eq_true.2 ⟨x, List.mem_of_getElem? h, by simpa using hx⟩
  rw [hany]
  obtain ⟨hi, hxe⟩ := List.getElem?_eq_some_iff.1 h
  have hsplit : l = l.take i ++ x :: l.drop (i + 1) := by
    rw [← hxe]; simp
  congr 1
  conv => lhs; rw [hsplit]
  rw [List.eraseP_append_right _ (fun z hz => by
    obtain ⟨j, hj⟩ := List.mem_iff_getElem?.1 hz
    rw [List.getElem?_take] at hj
    split at hj
    · simpa using hb j z (by omega) hj
    · cases hj)]
  rw [List.eraseP_cons_of_pos (by simpa using hx)]
theorem q3i (h : ∀ x ∈ l, ¬ x.key = k) : qgw l k = (l, false) := by
  unfold qgw
  rw [List.eraseP_of_forall_not (fun x hx => by simpa using h x hx)]
  congr 1
  rw [List.any_eq_false]
  exact fun x hx => by simpa using h x hx
end
open Go.Ev
set_option maxRecDepth 10000
theorem qtx {α : Type} [DecidableEq α] : ∀ {a b : List α}, a.length = b.length → ((a.zip b).all (fun z => decide (z.1 = z.2)) = true ↔ a = b)
  | [], [], _ => by simp
  | x :: a, y :: b, h => by
    rw [List.zip_cons_cons, List.all_cons, Bool.and_eq_true, decide_eq_true_eq, qtx (a := a) (b := b) (by simpa using h), List.cons.injEq]
  | [], _ :: _, h => by simp at h
  | _ :: _, [], h => by simp at h
section
variable (a b : List Int) (c d : Bool)
theorem qyn (hab : a.length = b.length) (hl : a.length ≤ 9223372036854775807) :
    ∃ y, itB (exec (evL T) itL none qdh) (qr [0, 1, 12, 13] true 0) ⟨[(0, (.fsl ((a).map qbz) c)), (1, (.fsl ((b).map qbz) d)), (12, (ii a.length)), (13, (ii 0))], []⟩ [] = some y ∧ ((a.zip b).all (fun z => decide (z.1 = z.2)) = true ∧ (y.1 = .exit 0 ∧ y.2.1.marks = [] ∧ y.2.2 = []) ∨
      (a.zip b).all (fun z => decide (z.1 = z.2)) = false ∧ ∃ x, (a.zip b).find? (fun z => !decide (z.1 = z.2)) = some x ∧ (y.1 = .ret ∧ y.2.1.marks = [] ∧ y.2.2 = [] ∧ Ev.look y.2.1.vars 4 = some (bb false))) := by
  have hzl : (a.zip b).length = a.length := by rw [List.length_zip, ← hab, Nat.min_self]
  refine qhs (a.zip b) (fun i => ⟨[(0, (.fsl ((a).map qbz) c)), (1, (.fsl ((b).map qbz) d)), (12, (ii a.length)), (13, (ii i))], []⟩) [] (fun z => decide (z.1 = z.2)) _ (fun _ y => _) ?_ ?_ ?_
  · intro i x hi hx hp
    rw [hzl] at hi
    have hi' : (i : Int) < (a.length : Int) := by omega
    have hw : IntKind.i64.wrap ((i : Int) + 1) = ((i + 1 : Nat) : Int) := by rw [qar (by omega) (by omega)]; simp
    obtain ⟨hxa, hxb⟩ := List.getElem?_zip_eq_some.1 hx
    have hp' := of_decide_eq_true hp
    simp only [qdh, Int.natCast_nonneg, Int.toNat_natCast, List.getElem?_map, Option.map_some, hxa, hxb, hi', hw, hp', qx, qbz, Ev.exec, qb, qe, qc, qah, Ev.Opnd.ev, Ev.Env.get, Ev.Env.set, Ev.look, qf, qv, qap, qbt, qi, qr, Ev.keep, qal, qad, qg, qbc, qm, ↓qn, Ev.it1, ↓reduceIte, List.length_cons, List.length_nil, zfe, List.head?_cons, Nat.reduceEqDiff, reduceCtorEq, decide_true, decide_false, zfc, zfa, and_self, ne_eq, not_true_eq_false, zfd, eq_self]
  · intro i x hi hx hp
    rw [hzl] at hi
    have hi' : (i : Int) < (a.length : Int) := by omega
    obtain ⟨hxa, hxb⟩ := List.getElem?_zip_eq_some.1 hx
    have hp' : ¬ x.1 = x.2 := of_decide_eq_false hp
    simp only [qdh, Int.natCast_nonneg, Int.toNat_natCast, List.getElem?_map, Option.map_some, hxa, hxb, hi', hp', qbz, Ev.exec, qb, qe, qc, qah, Ev.Opnd.ev, Ev.Env.get, Ev.Env.set, Ev.look, qf, qv, qbt, qi, ↓qn, Ev.it1, ↓reduceIte, List.length_cons, List.length_nil, List.head?_cons, Nat.reduceEqDiff, reduceCtorEq, decide_true, zfa, ne_eq, zfb, zfd, eq_self]
    exact ⟨_, rfl, rfl, rfl, rfl, rfl⟩
  · rw [hzl]
    simp only [qdh, Int.lt_irrefl, Ev.exec, qb, qe, qc, qah, Ev.Opnd.ev, Ev.Env.get, Ev.Env.set, Ev.look, qi, ↓qn, Ev.it1, ↓reduceIte, Nat.reduceEqDiff, reduceCtorEq, decide_false, zfa, eq_self]
    exact ⟨_, rfl, rfl, rfl, rfl⟩
theorem qp4 (hl : a.length ≤ 9223372036854775807) (hl2 : b.length ≤ 9223372036854775807) : qa8 (evL T) qcj [(.fsl ((a).map qbz) c), (.fsl ((b).map qbz) d)] = some (bb (decide (a = b))) := by
  rw [qa8, qae qnh qmt]
  by_cases hab : a.length = b.length
  · have hab' : (a.length : Int) = (b.length : Int) := by omega
    obtain ⟨⟨y, e, σ⟩, k1, k2⟩ := qyn a b c d hab hl
    simp only at k2
    rcases k2 with ⟨k3, rfl, k4, rfl⟩ | ⟨k3, x, _, rfl, k4, rfl, k5⟩
    · have : a = b := (qtx hab).1 k3
      rw [hab'] at k1
      simp only [qdf, this, qx, qk, Ev.exec, qb, qe, qc, qah, Ev.Opnd.ev, Ev.Env.get, Ev.Env.set, Ev.look, ql, qbt, qj, qs, qak, qai, qr, Ev.keep, qal, qad, qg, qbc, qm, List.length_map, ↓qn, ↓qa0, ↓reduceIte, List.length_cons, List.length_nil, List.take_zero, zfe, Nat.reduceAdd, Nat.reduceEqDiff, reduceCtorEq, decide_true, decide_false, zfc, zfa, and_self, and_true, ne_eq, not_true_eq_false, zfd, eq_self]
      subst this
      simp only [k1, k4, Ev.look, Ev.kill, qbc, qac, ↓reduceIte, eq_self]
    · have : ¬ a = b := fun h => by rw [(qtx hab).2 h] at k3; cases k3
      simp only [this]
      rw [hab'] at k1
      simp only [qdf, hab', k1, k4, k5, qx, qk, Ev.exec, qb, qe, qc, qah, Ev.Opnd.ev, Ev.Env.get, Ev.Env.set, Ev.look, ql, qbt, qj, qs, qak, Ev.kill, qai, qr, Ev.keep, qal, qad, qg, qbc, qm, qac, List.length_map, ↓qn, ↓qa0, ↓reduceIte, List.length_cons, List.length_nil, zfe, Nat.reduceAdd, Nat.reduceEqDiff, reduceCtorEq, decide_false, zfc, zfa, and_self, ne_eq, not_true_eq_false, zfd, eq_self]
  · have hab' : ¬ (a.length : Int) = (b.length : Int) := by omega
    have : ¬ a = b := fun h => hab (by rw [h])
    simp only [qdf, hab', this, qk, Ev.exec, qb, qe, qc, qah, Ev.Opnd.ev, Ev.Env.get, Ev.Env.set, Ev.look, ql, qbt, qj, qs, qak, Ev.kill, qai, qg, qbc, qac, List.length_map, ↓qn, ↓reduceIte, List.length_cons, List.length_nil, zfe, Nat.reduceAdd, Nat.reduceEqDiff, reduceCtorEq, decide_true, decide_false, and_self, ne_eq, zfb, zfd, eq_self]
end
open Go.Ev
mutual
theorem qy7 {n m : Nat} (h : n ≤ m) : ∀ (a : AV), a.lo n = true → a.lo m = true
  | .v _, _ => by simp only [AV.lo]
  | .agg cs, k => by simp only [AV.lo] at k ⊢; exact qo0 h cs k
  | .tup cs, k => by simp only [AV.lo] at k ⊢; exact qo0 h cs k
  | .fsl es _, k => by simp only [AV.lo] at k ⊢; exact qwj h es k
  | .fptr cs, k => by simp only [AV.lo] at k ⊢; exact qo0 h cs k
  | .sl o _ _ _ _, k => by simp only [AV.lo, decide_eq_true_eq] at k ⊢; omega
  | .ptr o _ _ _, k => by simp only [AV.lo, decide_eq_true_eq] at k ⊢; omega
  | .fn _ a b, k => by simp only [AV.lo, Bool.and_eq_true] at k ⊢; exact ⟨qo0 h a k.1, qo0 h b k.2⟩
  | .yld o, k => by simp only [AV.lo, decide_eq_true_eq] at k ⊢; omega
  | .mp o, k => by simp only [AV.lo, decide_eq_true_eq] at k ⊢; omega
theorem qo0 {n m : Nat} (h : n ≤ m) : ∀ (l : List AV), los n l = true → los m l = true
  | [], _ => by simp only [los]
  | a :: l, k => by simp only [los, Bool.and_eq_true] at k ⊢; exact ⟨qy7 h a k.1, qo0 h l k.2⟩
theorem qwj {n m : Nat} (h : n ≤ m) : ∀ (es : List (List AV)), qiz n es = true → qiz m es = true
  | [], _ => by simp only [qiz]
  | a :: l, k => by simp only [qiz, Bool.and_eq_true] at k ⊢; exact ⟨qo0 h a k.1, qwj h l k.2⟩
end
theorem qwm {n m : Nat} (h : n ≤ m) : ∀ (l : List (Nat × AV)), qal n l = true → qal m l = true
  | [], _ => by simp only [qal]
  | (_, a) :: r, k => by simp only [qal, Bool.and_eq_true] at k ⊢; exact ⟨qy7 h a k.1, qwm h r k.2⟩
theorem q2t {n m : Nat} (h : n ≤ m) (o : SObj) (k : o.lo n = true) : o.lo m = true := by
  cases o <;> simp only [SObj.lo] at k ⊢
  · exact qwj h _ k
  · exact qwm h _ k
open Go.Ev
set_option maxRecDepth 10000
def qew : List (Int × AV) := [(1, .fn (.func qb3) [] []), (2, .fn (.func qb4) [] []), (3, .fn (.func qby) [] []), (4, .fn (.func qbr) [] []), (5, .fn (.func qbx) [] []), (6, .fn (.func qb5) [] []), (7, .fn (.func qb2) [] []), (8, .fn (.func qb7) [] [])]
section
variable (a0 a1 a2 : Int) (am : Nat) (x : Ex) (gp gc gg : Nat)
theorem qqx (i : Nat) (hi : x.ev.proc = i) (hp : i < x.procs.length) :
    (evL T).call qao [.ptr 5 0 0 0] [.row 4 [[(ii a0), (ii a1), .sl 2 0 0 am false, (ii a2)]] 0, .row 4 [[(ii 0), (ii 0), .fsl [] false, (ii 0)]] 0, .row 4 ((x.procs).map Pr.r) gp, .row 6 ((x.out).map Evt.r) gc, .row 1 ((x.gone).map qel) gg, .row 14 [[(ii x.r0), (ii x.r1), .sl 2 gp 0 x.procs.length false, (ii x.sum), (ii x.ev.time), (.fsl ((x.ev.key).map qbz) false), (ii x.ev.lp), (ii x.ev.kind), (ii x.ev.proc), (ii x.ev.arg), .sl 3 gc 0 x.out.length false, (ii x.n), .sl 4 gg 0 x.gone.length false, (bb x.over)]] 0, .mp .i64 qew] = some (.ptr 2 gp i 0, [.row 4 [[(ii a0), (ii a1), .sl 2 0 0 am false, (ii a2)]] 0, .row 4 [[(ii 0), (ii 0), .fsl [] false, (ii 0)]] 0, .row 4 ((x.procs).map Pr.r) gp, .row 6 ((x.out).map Evt.r) gc, .row 1 ((x.gone).map qel) gg, .row 14 [[(ii x.r0), (ii x.r1), .sl 2 gp 0 x.procs.length false, (ii x.sum), (ii x.ev.time), (.fsl ((x.ev.key).map qbz) false), (ii x.ev.lp), (ii x.ev.kind), (ii x.ev.proc), (ii x.ev.arg), .sl 3 gc 0 x.out.length false, (ii x.n), .sl 4 gg 0 x.gone.length false, (bb x.over)]] 0, .mp .i64 qew]) := by
  rw [qae qjk qja]
  simp only [qd6, hi, hp, Int.natCast_nonneg, Int.toNat_natCast, qx, qag, qy, qbm, Nat.reduceLT, qk, Ev.exec, qb, qe, qc, qah, Ev.Opnd.ev, Ev.Env.get, Ev.Env.set, Ev.look, ql, qf, qv, qj, qs, qak, Ev.kill, qai, qg, Ev.SObj.lo, qbc, qm, qdm, qg1, qh, qd, qu, qaj, ↓qn, ↓reduceIte, List.length_cons, List.length_nil, List.getElem?_cons_zero, List.getElem?_cons_succ, List.take_succ_cons, zfe, List.drop_succ_cons, List.drop_zero, List.head?_cons, Nat.reduceAdd, Nat.reduceEqDiff, Nat.reduceLT, reduceCtorEq, decide_true, zfc, zfa, and_self, zfd, Nat.add_zero, eq_self]
theorem q7w (k p a : Int) : (evL T).call qb8 [.ptr 5 0 0 0, (ii k), (ii p), (ii a)] [.row 4 [[(ii a0), (ii a1), .sl 2 0 0 am false, (ii a2)]] 0, .row 4 [[(ii 0), (ii 0), .fsl [] false, (ii 0)]] 0, .row 4 ((x.procs).map Pr.r) gp, .row 6 ((x.out).map Evt.r) gc, .row 1 ((x.gone).map qel) gg, .row 14 [[(ii x.r0), (ii x.r1), .sl 2 gp 0 x.procs.length false, (ii x.sum), (ii x.ev.time), (.fsl ((x.ev.key).map qbz) false), (ii x.ev.lp), (ii x.ev.kind), (ii x.ev.proc), (ii x.ev.arg), .sl 3 gc 0 x.out.length false, (ii x.n), .sl 4 gg 0 x.gone.length false, (bb x.over)]] 0, .mp .i64 qew] = some (.agg [(ii 0), .fsl [] false, (ii x.ev.lp), (ii k), (ii p), (ii a)], [.row 4 [[(ii a0), (ii a1), .sl 2 0 0 am false, (ii a2)]] 0, .row 4 [[(ii 0), (ii 0), .fsl [] false, (ii 0)]] 0, .row 4 ((x.procs).map Pr.r) gp, .row 6 ((x.out).map Evt.r) gc, .row 1 ((x.gone).map qel) gg, .row 14 [[(ii x.r0), (ii x.r1), .sl 2 gp 0 x.procs.length false, (ii x.sum), (ii x.ev.time), (.fsl ((x.ev.key).map qbz) false), (ii x.ev.lp), (ii x.ev.kind), (ii x.ev.proc), (ii x.ev.arg), .sl 3 gc 0 x.out.length false, (ii x.n), .sl 4 gg 0 x.gone.length false, (bb x.over)]] 0, .mp .i64 qew]) := by
  rw [qae qnz qmq]
  simp only [qfk, qx, qag, qy, qbm, Nat.reduceLT, Nat.reduceLeDiff, qk, Ev.exec, qb, qe, qc, qah, Ev.Opnd.ev, Ev.Env.get, Ev.Env.set, Ev.look, ql, qf, qv, qft, Ev.AV.cells, Ev.AV.uc, qo, Ev.AV.plain, qj, qs, qak, Ev.kill, qai, qg, Ev.SObj.lo, qbc, qa2, qm, qdm, qh, qd, qu, qaj, ↓qn, ↓reduceIte, List.length_cons, List.length_nil, List.getElem?_cons_zero, List.getElem?_cons_succ, List.take_succ_cons, List.take_zero, zfe, List.drop_succ_cons, List.drop_zero, List.drop_nil, List.cons_append, List.nil_append, List.append_nil, List.set_cons_zero, List.set_cons_succ, List.head?_cons, Nat.reduceAdd, Nat.reduceEqDiff, Nat.reduceLT, Nat.reduceLeDiff, reduceCtorEq, decide_true, zfc, zfa, and_self, ne_eq, zfb, zff, zfd, Nat.le_refl, eq_self]
def qlf (x : Ex) (d : Int) (gc : Nat) : Nat := if w64 (x.ev.time + d) > 1152921504606846976 then gc else gc + 1
theorem qsr (h : x.Small) (d : Int) (t0 lp k p a : Int) (ks : List Int) :
    (evL T).call qbj [.ptr 5 0 0 0, (ii d), .agg [(ii t0), (.fsl ((ks).map qbz) false), (ii lp), (ii k), (ii p), (ii a)]] [.row 4 [[(ii a0), (ii a1), .sl 2 0 0 am false, (ii a2)]] 0, .row 4 [[(ii 0), (ii 0), .fsl [] false, (ii 0)]] 0, .row 4 ((x.procs).map Pr.r) gp, .row 6 ((x.out).map Evt.r) gc, .row 1 ((x.gone).map qel) gg, .row 14 [[(ii x.r0), (ii x.r1), .sl 2 gp 0 x.procs.length false, (ii x.sum), (ii x.ev.time), (.fsl ((x.ev.key).map qbz) false), (ii x.ev.lp), (ii x.ev.kind), (ii x.ev.proc), (ii x.ev.arg), .sl 3 gc 0 x.out.length false, (ii x.n), .sl 4 gg 0 x.gone.length false, (bb x.over)]] 0, .mp .i64 qew] = some ((.fsl ((x.kid).map qbz) false), [.row 4 [[(ii a0), (ii a1), .sl 2 0 0 am false, (ii a2)]] 0, .row 4 [[(ii 0), (ii 0), .fsl [] false, (ii 0)]] 0, .row 4 (((x.create d ⟨t0, ks, lp, k, p, a⟩).procs).map Pr.r) gp, .row 6 (((x.create d ⟨t0, ks, lp, k, p, a⟩).out).map Evt.r) (qlf x d gc), .row 1 (((x.create d ⟨t0, ks, lp, k, p, a⟩).gone).map qel) gg, .row 14 [[(ii ((x.create d ⟨t0, ks, lp, k, p, a⟩).r0)), (ii ((x.create d ⟨t0, ks, lp, k, p, a⟩).r1)), .sl 2 gp 0 (x.create d ⟨t0, ks, lp, k, p, a⟩).procs.length false, (ii ((x.create d ⟨t0, ks, lp, k, p, a⟩).sum)), (ii ((x.create d ⟨t0, ks, lp, k, p, a⟩).ev.time)), (.fsl (((x.create d ⟨t0, ks, lp, k, p, a⟩).ev.key).map qbz) false), (ii ((x.create d ⟨t0, ks, lp, k, p, a⟩).ev.lp)), (ii ((x.create d ⟨t0, ks, lp, k, p, a⟩).ev.kind)), (ii ((x.create d ⟨t0, ks, lp, k, p, a⟩).ev.proc)), (ii ((x.create d ⟨t0, ks, lp, k, p, a⟩).ev.arg)), .sl 3 (qlf x d gc) 0 (x.create d ⟨t0, ks, lp, k, p, a⟩).out.length false, (ii ((x.create d ⟨t0, ks, lp, k, p, a⟩).n)), .sl 4 gg 0 (x.create d ⟨t0, ks, lp, k, p, a⟩).gone.length false, (bb ((x.create d ⟨t0, ks, lp, k, p, a⟩).over))]] 0, .mp .i64 qew]) := by
  have hk := qyf x.ev.key false x.n h.key
  have hs : (x.out.length + 1) * 64 ≤ 140737488355328 := by have := h.out; omega
  have htl : List.take x.out.length (x.out.map Evt.r) = x.out.map Evt.r := List.take_of_length_le (by simp)
  have hlo : los 7 ([(ii x.r0), (ii x.r1), .sl 2 gp 0 x.procs.length false, (ii x.sum), (ii x.ev.time), (.fsl ((x.ev.key).map qbz) false), (ii x.ev.lp), (ii x.ev.kind), (ii x.ev.proc), (ii x.ev.arg), .sl 3 gc 0 x.out.length false, (ii x.n), .sl 4 gg 0 x.gone.length false, (bb x.over)]) = true := by simp only [qx, Nat.reduceLT, qbc, qm, qdm, qh, qd, Nat.reduceLT, decide_true, zfc, eq_self]
  rw [qae qlv qk7]
  unfold Ex.create qlf Ex.kid
  by_cases ho : w64 (x.ev.time + d) > 1152921504606846976
  · have ho' : IntKind.i64.wrap (x.ev.time + d) > 1152921504606846976 := ho
    simp only [ho, if_true]
    simp only [qdi, hk, ho', qx, qag, qy, qbm, Nat.reduceLT, Nat.reduceLeDiff, qk, Ev.exec, qb, qe, qc, qa5, qah, Ev.evs, Ev.Opnd.ev, Ev.Env.get, Ev.Env.set, Ev.look, ql, qf, qv, Ev.AV.cells, Ev.AV.uc, qo, Ev.AV.plain, qap, qbb, qj, qs, qak, Ev.kill, qai, qg, Ev.SObj.lo, qbc, qm, qdm, qh, qd, qu, qaj, ↓qn, ↓reduceIte, List.length_cons, List.length_nil, List.getElem?_cons_zero, List.getElem?_cons_succ, List.take_succ_cons, List.take_zero, List.drop_succ_cons, List.drop_zero, List.drop_nil, List.cons_append, List.nil_append, List.append_nil, List.set_cons_zero, List.set_cons_succ, List.head?_cons, Nat.reduceAdd, Nat.reduceEqDiff, Nat.reduceLT, Nat.reduceLeDiff, reduceCtorEq, decide_true, zfc, zfa, and_self, ne_eq, zfb, zff, zfd, Nat.add_zero, Nat.le_refl, eq_self]
    done
  · have ho' : ¬ IntKind.i64.wrap (x.ev.time + d) > 1152921504606846976 := ho
    simp only [ho, if_false]
    have hr : ∀ e : Evt, (x.out ++ [e]).map Evt.r = x.out.map Evt.r ++ [e.r] := fun e => by rw [List.map_append]; rfl
    simp only [qdi, hk, ho', hs, htl, hr, qjd, Evt.r, qx, qag, qy, qbm, Nat.reduceLT, Nat.reduceLeDiff, qk, Ev.exec, qb, qe, qc, qa5, qah, qoa, Ev.evs, Ev.Opnd.ev, Ev.Env.get, Ev.Env.set, Ev.look, ql, qf, qbu, qv, qfy, Ev.AV.cells, Ev.AV.uc, qo, Ev.AV.plain, qap, qbb, qj, qs, qak, Ev.kill, qai, qg, Ev.SObj.lo, qbc, qm, qdm, qh, qd, qu, qaj, qbg, qbf, List.replicate_one, List.length_map, ↓qn, ↓reduceIte, List.length_cons, List.length_nil, List.length_append, List.getElem?_cons_zero, List.getElem?_cons_succ, List.take_succ_cons, List.take_zero, zfe, List.drop_succ_cons, List.drop_zero, List.cons_append, List.nil_append, List.set_cons_zero, List.set_cons_succ, List.head?_cons, Nat.reduceAdd, Nat.reduceEqDiff, Nat.reduceMul, Nat.reduceLT, Nat.reduceLeDiff, Nat.reducePow, reduceCtorEq, decide_true, decide_false, zfc, zfa, and_self, ne_eq, zfb, zff, zfd, Nat.add_zero, Nat.lt_add_one, Nat.le_refl, eq_self]
    done
end
end Go.Proofs.Ytbhhifdhlafklaa.K
