/- For every input the statement of this claim returns true: texts of its proof, joined (part 7). -/
import Derived.Test.YtbhhifdhlafklaaGreatProg
import Derived.KernelRfl
import Derived.Test.YtbhhifdhlafklaaGreatEZM3
import Derived.Test.YtbhhifdhlafklaaGreatSKZM
set_option linter.unusedSectionVars false
set_option linter.unusedSimpArgs false
set_option linter.unusedVariables false
namespace Go.Proofs.YtbhhifdhlafklaaGreat.K
open Go.Ev
set_option maxRecDepth 100000
theorem qm1 : qgh Tryz.prog { frz:=[4],appN:=[144,155],ldF:=[153,154],appZ:=[146,157] } qc6 = some qc4:=by kernel_rfl
theorem q4t : qgh Tryz.prog {  } qkn = some qs1:=by kernel_rfl
theorem q8d : qgh Tryz.prog { frz:=[1] } qm2 = some qs4:=by kernel_rfl
theorem q3l : qgh Tryz.prog { frz:=[2] } qjf = some qn5:=by kernel_rfl
theorem q1o : qgh Tryz.prog { frzv:=[27],own:=[4],loops:=[([4,7,8,9],true)] } qf4 = some qk8:=by kernel_rfl
theorem q2q : qgh Tryz.prog { loops:=[([0,4,5,6],true),([0,4,5,6,7],true)] } qjg = some qnr:=by kernel_rfl
theorem qx5 : qgh Tryz.prog { frz:=[2] } qf9 = some qkq:=by kernel_rfl
theorem qxa : qgh Tryz.prog { frz:=[4,5],mI:=[21,26,28],ownB:=[(17,(5,6)),(17,(6,6))],loops:=[([4,13],true)] } qfs = some qlp:=by kernel_rfl
theorem q5y : qgh Tryz.prog { frz:=[4,5],mI:=[68],ownB:=[(23,(5,6)),(23,(6,6))],loops:=[([3,4,8,9,10],true),([3,4,8,9,10,16,18],true)] } qlu = some qrb:=by kernel_rfl
theorem q0m : qgh Tryz.prog { frz:=[2,3],loops:=[([2,3,5],true)] } qif = some qf5:=by kernel_rfl
theorem quw : qgh Tryz.prog { loops:=[([0,1,5],true)] } qdo = some qgm:=by kernel_rfl
theorem qwi : qgh Tryz.prog { frz:=[2] } qeu = some qls:=by kernel_rfl
theorem qu5 : qgh Tryz.prog {  } qfd = some qku:=by kernel_rfl
theorem q1f : qgh Tryz.prog { mF:=[9] } qg5 = some qm8:=by kernel_rfl
theorem q3d : qgh Tryz.prog { own:=[5],loops:=[([0,1,5,6],true),([0,1,5,6,7,8],true)] } qhu = some qn9:=by kernel_rfl
theorem qwq : qgh Tryz.prog { mA:=[12],mF:=[53],topZ:=[15],ownS:=[(15,6)],appB:=[(33,8)],ldB:=[(25,8)],loops:=[([5,6,17,18,19],true),([5,36,37,38],true)] } qex = some qlo:=by kernel_rfl
theorem qyb : qgh Tryz.prog { appN:=[11],loops:=[([1,5,6],true),([1,5,6,7],true)] } qhj = some qmj:=by kernel_rfl
theorem q4r : qgh Tryz.prog {  } ql4 = some qr5:=by kernel_rfl
theorem qyc : qgh Tryz.prog { frz:=[1],frzv:=[41],own:=[3],loops:=[([1,3,4],true),([1,3,4,5],true)] } qgd = some qmm:=by kernel_rfl
theorem q2k : qgh Tryz.prog { frz:=[1],own:=[3],topZ:=[5],loops:=[([1,3,4],false),([1,3,4,5,6],false)] } qg4 = some qm9:=by kernel_rfl
theorem q2s : qgh Tryz.prog { frz:=[1],loops:=[([1,3,4,5],true),([1,3,4,6],true),([1,3,4,6,7],true)] } qjk = some qgz:=by kernel_rfl
theorem qw2 : qgh Tryz.prog { frz:=[2],loops:=[([1,2,4,5],true)] } qgq = some qln:=by kernel_rfl
theorem qry : qgh Tryz.prog { bad:=true,loops:=[([0,3,4],true)] } qed = some qh9:=by kernel_rfl
theorem qq3 : qgh Tryz.prog { frz:=[2,3] } qdx = some qg0:=by kernel_rfl
theorem qpv : qgh Tryz.prog { frz:=[4,5],loops:=[([0,5,8,50,51,52],true),([0,81,82,83],true)] } qdl = some qe7:=by kernel_rfl
theorem qqs : qgh Tryz.prog { ldx:=[(14,2),(18,2),(22,2),(26,2)] } qdv = some qgx:=by kernel_rfl
theorem q5d : qgh Tryz.prog { appN:=[23] } qkj = some ql9:=by kernel_rfl
theorem q5j : qgh Tryz.prog { frz:=[3,4,5],ldx:=[(96,6),(98,6),(100,6)] } qfv = some qck:=by kernel_rfl
theorem q2r : qgh Tryz.prog { loops:=[([1,2,3,6,7],true)] } qi4 = some qnx:=by kernel_rfl
theorem q1m : qgh Tryz.prog { appN:=[25],loops:=[([0,1,6],true)] } qij = some qlc:=by kernel_rfl
theorem qyo : qgh Tryz.prog {  } qeg = some qkp:=by kernel_rfl
theorem qvy : qgh Tryz.prog { frz:=[2,3] } qf0 = some qd2:=by kernel_rfl
theorem qt2 : qgh Tryz.prog { loops:=[([0,1,5],true)] } qfj = some qke:=by kernel_rfl
theorem q0d : qgh Tryz.prog { frz:=[3],own:=[6],loops:=[([0,3,5],true)] } qfh = some qih:=by kernel_rfl
theorem qje : qgh Tryz.prog { mA:=[24],bad:=true,loops:=[([0,3,9,10,11],true),([6,25,26,27],false)] } qaw = some qc1:=by kernel_rfl
theorem qya : qgh Tryz.prog { mA:=[8],mI:=[9] } qhf = some qmn:=by kernel_rfl
theorem qrz : qgh Tryz.prog { frz:=[2,3] } qdr = some qge:=by kernel_rfl
theorem qup : qgh Tryz.prog { frzv:=[49],own:=[6],loops:=[([0,3,4],true),([0,3,4,5],true)] } qd5 = some qka:=by kernel_rfl
theorem q3h : qgh Tryz.prog { frz:=[1],loops:=[([1,3],true),([1,4],true)] } qjq = some qh2:=by kernel_rfl
theorem q2y : qgh Tryz.prog { frz:=[1],loops:=[([1,3],true),([1,5],true),([1,5,6],true)] } qi7 = some qia:=by kernel_rfl
theorem q2t : qgh Tryz.prog { frz:=[1],topZ:=[9],loops:=[([1,2,3,4],false)] } qjo = some qns:=by kernel_rfl
theorem qz3 : qgh Tryz.prog { frz:=[2],appN:=[21,28,57,69],frzv:=[36,38,63,73] } qig = some qlj:=by kernel_rfl
theorem qpa : qgh Tryz.prog { loops:=[([0,1,2],true)] } qcz = some qer:=by kernel_rfl
theorem q1k : qgh Tryz.prog { mA:=[20] } qic = some qj6:=by kernel_rfl
theorem q0b : qgh Tryz.prog { frz:=[3,5],mA:=[52],mI:=[59,82,88],ldF:=[80],ldx:=[(96,6),(100,6),(104,6)],ownB:=[(56,(10,6)),(56,(12,1))] } qes = some qb5:=by kernel_rfl
theorem qwg : qgh Tryz.prog { frz:=[3],mA:=[14],mI:=[18] } qft = some qlt:=by kernel_rfl
theorem qw4 : qgh Tryz.prog { frz:=[3],mA:=[21],mI:=[9] } qgo = some qjs:=by kernel_rfl
theorem q55 : qgh Tryz.prog { frz:=[5],appN:=[12],frzv:=[17] } qe1 = some qq5:=by kernel_rfl
theorem qwc : qgh Tryz.prog { frz:=[3],loops:=[([2,3,4,6,7],true)] } qgr = some qho:=by kernel_rfl
theorem qto : qgh Tryz.prog { loops:=[([0,1,5],true)] } qef = some qhh:=by kernel_rfl
theorem qj8 : qgh Tryz.prog { bad:=true } qbb = some qcg:=by kernel_rfl
theorem qng : qgh Tryz.prog { mI:=[4] } qcu = some qey:=by kernel_rfl
theorem qw9 : qgh Tryz.prog {  } qgu = some qlq:=by kernel_rfl
theorem qt9 : qgh Tryz.prog { mA:=[5],mI:=[7] } qeo = some qkb:=by kernel_rfl
theorem qx9 : qgh Tryz.prog {  } qfk = some qiw:=by kernel_rfl
theorem q28 : qgh Tryz.prog { frz:=[1],loops:=[([1,3],true)] } qjb = some qew:=by kernel_rfl
theorem q3b : qgh Tryz.prog { loops:=[([0,1,2,3,9],true),([0,2,3,10],true),([0,3,11],true)] } qi8 = some qhx:=by kernel_rfl
theorem qyz : qgh Tryz.prog { own:=[5],loops:=[([0,1,5,6],true),([0,1,5,6,7,8],true)] } qhi = some qmc:=by kernel_rfl
theorem qpu : qgh Tryz.prog {  } qa2 = some qfa:=by kernel_rfl
theorem qqi : qgh Tryz.prog { loops:=[([0,1,12,13],true)] } qdc = some qej:=by kernel_rfl
theorem qnn : qgh Tryz.prog { mA:=[6],mI:=[10,19,44,49],loops:=[([0,1,4,7],true)] } qcw = some qd7:=by kernel_rfl
theorem qff : qgh Tryz.prog { frz:=[4],loops:=[([0,2,4,8,9,10],true)] } qar = some qa1:=by kernel_rfl
theorem qrw : qgh Tryz.prog { frz:=[2,3] } qr = some qe6:=by kernel_rfl
theorem qik : qgh Tryz.prog { loops:=[([0,1,7,8],true)] } qa9 = some qb1:=by kernel_rfl
theorem quk : qgh Tryz.prog { frz:=[2] } qdn = some qkg:=by kernel_rfl
theorem q4q : qgh Tryz.prog { frz:=[5],appN:=[134],frzv:=[141] } qds = some qd3:=by kernel_rfl
theorem qil : qgh Tryz.prog { own:=[2],loops:=[([2],true)] } qa7 = some qco:=by kernel_rfl
theorem qt5 : qgh Tryz.prog { loops:=[([0,1,2],true)] } qdp = some qkf:=by kernel_rfl
theorem qhd : qgh Tryz.prog { mI:=[8] } qay = some qb7:=by kernel_rfl
theorem q3a : qgh Tryz.prog { loops:=[([0,3],true)] } qjm = some qjh:=by kernel_rfl
theorem qw6 : qgh Tryz.prog { frz:=[3] } qgt = some qeh:=by kernel_rfl
theorem qq8 : qgh Tryz.prog {  } qd4 = some qhk:=by kernel_rfl
theorem q2x : qgh Tryz.prog {  } qjn = some qn6:=by kernel_rfl
theorem qvn : qgh Tryz.prog {  } qe9 = some qg9:=by kernel_rfl
theorem qts : qgh Tryz.prog {  } qe4 = some qjp:=by kernel_rfl
theorem q1g : qgh Tryz.prog { appN:=[36],frzv:=[41],ldx:=[(32,6),(45,6)] } qfi = some qle:=by kernel_rfl
theorem qvo : qgh Tryz.prog { appN:=[8] } qfg = some qkx:=by kernel_rfl
theorem qlm : qgh Tryz.prog { mI:=[18,27,43,60],loops:=[([0,1,2,6,7,8],true),([0,1,2,6],true),([0,1,2,6,7,8],true)] } qbw = some qdy:=by kernel_rfl
theorem q3f : qgh Tryz.prog {  } qf8 = some qn2:=by kernel_rfl
theorem q24 : qgh Tryz.prog {  } qgy = some qn7:=by kernel_rfl
theorem qp1 : qgh Tryz.prog { frz:=[3],mI:=[14,15],ldF:=[7] } qcr = some qgn:=by kernel_rfl
theorem qp7 : qgh Tryz.prog { frz:=[3],mI:=[13] } qcn = some qgj:=by kernel_rfl
theorem qpf : qgh Tryz.prog { frz:=[3],mI:=[7,21,22],mR:=[9],ldF:=[12] } qci = some qf6:=by kernel_rfl
theorem qp4 : qgh Tryz.prog { frz:=[3],mI:=[7] } qca = some qfb:=by kernel_rfl
theorem qo5 : qgh Tryz.prog { frz:=[3],mI:=[33,34],ldF:=[30] } qch = some qet:=by kernel_rfl
theorem qqx : qgh Tryz.prog { frz:=[3] } qcy = some qfo:=by kernel_rfl
theorem qp2 : qgh Tryz.prog { frz:=[3],mI:=[17],ldF:=[19] } qcq = some qdi:=by kernel_rfl
theorem qqz : qgh Tryz.prog { frz:=[3] } qcx = some qg1:=by kernel_rfl
theorem q5a : qgh Tryz.prog { loops:=[([3,6,7,8],true)] } qkt = some qna:=by kernel_rfl
theorem qyd : qgh Tryz.prog {  } qga = some qml:=by kernel_rfl
theorem qph : qgh Tryz.prog { loops:=[([0,1,9,10,11],true)] } qdd = some qde:=by kernel_rfl
theorem q2v : qgh Tryz.prog { appN:=[8] } qjj = some qny:=by kernel_rfl
theorem qjl : qgh Tryz.prog { loops:=[([0,1,2,3,8],true),([0,1,2,3,8,9],true)] } qa4 = some qc2:=by kernel_rfl
theorem qkz : qgh Tryz.prog { mI:=[191,205,219],loops:=[([0,1,4,10,11],true),([0,10,13],true),([0,2,4,14,15],true),([0,14,17],true),([0,1,2,3,4,18,19,20,21,22],true)] } qav = some qj:=by kernel_rfl
theorem qox : qgh Tryz.prog {  } qbx = some qek:=by kernel_rfl
theorem qqq : qgh Tryz.prog {  } qcv = some qg3:=by kernel_rfl
theorem qlf : qgh Tryz.prog { mI:=[31,46,57],loops:=[([0,2,4,10,11],true)] } qbf = some qdw:=by kernel_rfl
theorem q27 : qgh Tryz.prog { mA:=[6] } qi5 = some qn3:=by kernel_rfl
theorem qkl : qgh Tryz.prog { loops:=[([0,1,2,3,10],true)] } qa5 = some qdg:=by kernel_rfl
theorem qit : qus Tryz.prog qb6 = some (1,24):=by kernel_rfl
theorem qjc : qus Tryz.prog qbi = some (6,64):=by kernel_rfl
theorem qlx : qus Tryz.prog qdb = some (4,48):=by kernel_rfl
theorem qqd : qus Tryz.prog qfq = some (1,8):=by kernel_rfl
theorem qiy : InsB Tryz.prog qbr 6 64 84 40 4:=⟨by kernel_rfl,by kernel_rfl,by kernel_rfl,by kernel_rfl,by kernel_rfl,by kernel_rfl,by kernel_rfl,by kernel_rfl,by kernel_rfl,by kernel_rfl,by kernel_rfl,by kernel_rfl,by kernel_rfl,by kernel_rfl,by kernel_rfl,by kernel_rfl,by kernel_rfl,by kernel_rfl,by kernel_rfl,by kernel_rfl,by kernel_rfl,by kernel_rfl,by kernel_rfl,by kernel_rfl⟩
def codeL : List (Nat × CFunc):=[(qc6,qc4),(qkn,qs1),(qm2,qs4),(qjf,qn5),(qf4,qk8),(qjg,qnr),(qf9,qkq),(qfs,qlp),(qlu,qrb),(qif,qf5),(qdo,qgm),(qeu,qls),(qfd,qku),(qg5,qm8),(qhu,qn9),(qex,qlo),(qhj,qmj),(ql4,qr5),(qgd,qmm),(qg4,qm9),(qjk,qgz),(qgq,qln),(qed,qh9),(qdx,qg0),(qdl,qe7),(qdv,qgx),(qkj,ql9),(qfv,qck),(qi4,qnx),(qij,qlc),(qeg,qkp),(qf0,qd2),(qfj,qke),(qfh,qih),(qaw,qc1),(qhf,qmn),(qdr,qge),(qd5,qka),(qjq,qh2),(qi7,qia),(qjo,qns),(qig,qlj),(qcz,qer),(qic,qj6),(qes,qb5),(qft,qlt),(qgo,qjs),(qe1,qq5),(qgr,qho),(qef,qhh),(qbb,qcg),(qcu,qey),(qgu,qlq),(qeo,qkb),(qfk,qiw),(qjb,qew),(qi8,qhx),(qhi,qmc),(qa2,qfa),(qdc,qej),(qcw,qd7),(qar,qa1),(qr,qe6),(qa9,qb1),(qdn,qkg),(qds,qd3),(qa7,qco),(qdp,qkf),(qay,qb7),(qjm,qjh),(qgt,qeh),(qd4,qhk),(qjn,qn6),(qe9,qg9),(qe4,qjp),(qfi,qle),(qfg,qkx),(qbw,qdy),(qf8,qn2),(qgy,qn7),(qcr,qgn),(qcn,qgj),(qci,qf6),(qca,qfb),(qch,qet),(qcy,qfo),(qcq,qdi),(qcx,qg1),(qkt,qna),(qga,qml),(qdd,qde),(qjj,qny),(qa4,qc2),(qav,qj),(qbx,qek),(qcv,qg3),(qbf,qdw),(qi5,qn3),(qa5,qdg)]
def extL : List (Nat × (Nat × Nat)):=[(qb6,(1,24)),(qbi,(6,64)),(qdb,(4,48)),(qfq,(1,8))]
def insL : List (Nat × (Nat × Nat)):=[(qbr,(6,64))]
def q8e {α : Type} : List (Nat × α) → Nat → Option α
 | [],_ => none
 | (k,x) :: l,i => if k = i then some x else q8e l i
theorem qv4 {α : Type} : ∀ {l : List (Nat × α)} {i : Nat} {x : α},q8e l i = some x → (i,x) ∈ l
 | [],_,_,h => by simp [q8e] at h
 | (k,y) :: l,i,x,h => by
  simp only [q8e] at h
  split at h
  ·rename_i hk;subst hk;cases h;simp
  ·exact List.mem_cons_of_mem _ (qv4 h)
def T : Tab:={ code:=q8e codeL,ext:=fun k => (q8e extL k).map fun p => qss p.1 p.2,ins:=q8e insL }
theorem codeL_ok : ∀ x ∈ codeL,∃ h,qgh Tryz.prog h x.1 = some x.2:=by
 intro x hx
 simp only [codeL,List.mem_cons,List.not_mem_nil,or_false] at hx
 rcases hx with rfl | rfl | rfl | rfl | rfl | rfl | rfl | rfl | rfl | rfl | rfl | rfl | rfl | rfl | rfl | rfl | rfl | rfl | rfl | rfl | rfl | rfl | rfl | rfl | rfl | rfl | rfl | rfl | rfl | rfl | rfl | rfl | rfl | rfl | rfl | rfl | rfl | rfl | rfl | rfl | rfl | rfl | rfl | rfl | rfl | rfl | rfl | rfl | rfl | rfl | rfl | rfl | rfl | rfl | rfl | rfl | rfl | rfl | rfl | rfl | rfl | rfl | rfl | rfl | rfl | rfl | rfl | rfl | rfl | rfl | rfl | rfl | rfl | rfl | rfl | rfl | rfl | rfl | rfl | rfl | rfl | rfl | rfl | rfl | rfl | rfl | rfl | rfl | rfl | rfl | rfl | rfl | rfl | rfl | rfl | rfl | rfl | rfl | rfl
 ·exact ⟨_,qm1⟩
 ·exact ⟨_,q4t⟩
 ·exact ⟨_,q8d⟩
 ·exact ⟨_,q3l⟩
 ·exact ⟨_,q1o⟩
 ·exact ⟨_,q2q⟩
 ·exact ⟨_,qx5⟩
 ·exact ⟨_,qxa⟩
 ·exact ⟨_,q5y⟩
 ·exact ⟨_,q0m⟩
 ·exact ⟨_,quw⟩
 ·exact ⟨_,qwi⟩
 ·exact ⟨_,qu5⟩
 ·exact ⟨_,q1f⟩
 ·exact ⟨_,q3d⟩
 ·exact ⟨_,qwq⟩
 ·exact ⟨_,qyb⟩
 ·exact ⟨_,q4r⟩
 ·exact ⟨_,qyc⟩
 ·exact ⟨_,q2k⟩
 ·exact ⟨_,q2s⟩
 ·exact ⟨_,qw2⟩
 ·exact ⟨_,qry⟩
 ·exact ⟨_,qq3⟩
 ·exact ⟨_,qpv⟩
 ·exact ⟨_,qqs⟩
 ·exact ⟨_,q5d⟩
 ·exact ⟨_,q5j⟩
 ·exact ⟨_,q2r⟩
 ·exact ⟨_,q1m⟩
 ·exact ⟨_,qyo⟩
 ·exact ⟨_,qvy⟩
 ·exact ⟨_,qt2⟩
 ·exact ⟨_,q0d⟩
 ·exact ⟨_,qje⟩
 ·exact ⟨_,qya⟩
 ·exact ⟨_,qrz⟩
 ·exact ⟨_,qup⟩
 ·exact ⟨_,q3h⟩
 ·exact ⟨_,q2y⟩
 ·exact ⟨_,q2t⟩
 ·exact ⟨_,qz3⟩
 ·exact ⟨_,qpa⟩
 ·exact ⟨_,q1k⟩
 ·exact ⟨_,q0b⟩
 ·exact ⟨_,qwg⟩
 ·exact ⟨_,qw4⟩
 ·exact ⟨_,q55⟩
 ·exact ⟨_,qwc⟩
 ·exact ⟨_,qto⟩
 ·exact ⟨_,qj8⟩
 ·exact ⟨_,qng⟩
 ·exact ⟨_,qw9⟩
 ·exact ⟨_,qt9⟩
 ·exact ⟨_,qx9⟩
 ·exact ⟨_,q28⟩
 ·exact ⟨_,q3b⟩
 ·exact ⟨_,qyz⟩
 ·exact ⟨_,qpu⟩
 ·exact ⟨_,qqi⟩
 ·exact ⟨_,qnn⟩
 ·exact ⟨_,qff⟩
 ·exact ⟨_,qrw⟩
 ·exact ⟨_,qik⟩
 ·exact ⟨_,quk⟩
 ·exact ⟨_,q4q⟩
 ·exact ⟨_,qil⟩
 ·exact ⟨_,qt5⟩
 ·exact ⟨_,qhd⟩
 ·exact ⟨_,q3a⟩
 ·exact ⟨_,qw6⟩
 ·exact ⟨_,qq8⟩
 ·exact ⟨_,q2x⟩
 ·exact ⟨_,qvn⟩
 ·exact ⟨_,qts⟩
 ·exact ⟨_,q1g⟩
 ·exact ⟨_,qvo⟩
 ·exact ⟨_,qlm⟩
 ·exact ⟨_,q3f⟩
 ·exact ⟨_,q24⟩
 ·exact ⟨_,qp1⟩
 ·exact ⟨_,qp7⟩
 ·exact ⟨_,qpf⟩
 ·exact ⟨_,qp4⟩
 ·exact ⟨_,qo5⟩
 ·exact ⟨_,qqx⟩
 ·exact ⟨_,qp2⟩
 ·exact ⟨_,qqz⟩
 ·exact ⟨_,q5a⟩
 ·exact ⟨_,qyd⟩
 ·exact ⟨_,qph⟩
 ·exact ⟨_,q2v⟩
 ·exact ⟨_,qjl⟩
 ·exact ⟨_,qkz⟩
 ·exact ⟨_,qox⟩
 ·exact ⟨_,qqq⟩
 ·exact ⟨_,qlf⟩
 ·exact ⟨_,q27⟩
 ·exact ⟨_,qkl⟩
theorem extL_ok : ∀ x ∈ extL,qus Tryz.prog x.1 = some x.2:=by
 intro x hx
 simp only [extL,List.mem_cons,List.not_mem_nil,or_false] at hx
 rcases hx with rfl | rfl | rfl | rfl
 ·exact qit
 ·exact qjc
 ·exact qlx
 ·exact qqd
theorem mixed : Tryz.prog.follows .mixedOrders = true:=by kernel_rfl
theorem insL_ok : ∀ x ∈ insL,InsOk Tryz.prog x.1 (insF x.2.1 x.2.2):=by
 intro x hx
 simp only [insL,List.mem_cons,List.not_mem_nil,or_false] at hx
 rcases hx with rfl
 ·exact ins_ok mixed qiy
theorem T_ok : TabOk Tryz.prog T where
 code k f h:=codeL_ok _ (qv4 h)
 ext k F h:=by
  simp only [T,Option.map_eq_some_iff] at h
  obtain ⟨p,h1,rfl⟩:=h
  exact clone_ok mixed (extL_ok _ (qv4 h1))
 ins k p h:=insL_ok (k,p) (qv4 h)
 mixed:=mixed
theorem qh7 : T.code qc6 = some qc4:=rfl
theorem qabv : T.code qkn = some qs1:=rfl
theorem q4p : T.code qm2 = some qs4:=rfl
theorem qym : T.code qjf = some qn5:=rfl
theorem qwv : T.code qf4 = some qk8:=rfl
theorem qyi : T.code qjg = some qnr:=rfl
theorem qu6 : T.code qf9 = some qkq:=rfl
theorem qur : T.code qfs = some qlp:=rfl
theorem q26 : T.code qlu = some qrb:=rfl
theorem qwb : T.code qif = some qf5:=rfl
theorem qsx : T.code qdo = some qgm:=rfl
theorem qui : T.code qeu = some qls:=rfl
theorem qtn : T.code qfd = some qku:=rfl
theorem qwo : T.code qg5 = some qm8:=rfl
theorem qx7 : T.code qhu = some qn9:=rfl
theorem quq : T.code qex = some qlo:=rfl
theorem qu3 : T.code qhj = some qmj:=rfl
theorem qabc : T.code ql4 = some qr5:=rfl
theorem qvg : T.code qgd = some qmm:=rfl
theorem qw8 : T.code qg4 = some qm9:=rfl
theorem qx4 : T.code qjk = some qgz:=rfl
theorem qum : T.code qgq = some qln:=rfl
theorem qqw : T.code qed = some qh9:=rfl
theorem qo4 : T.code qdx = some qg0:=rfl
theorem qow : T.code qdl = some qe7:=rfl
theorem qpe : T.code qdv = some qgx:=rfl
theorem q1z : T.code qkj = some ql9:=rfl
theorem qmd : T.code qfv = some qck:=rfl
theorem qyw : T.code qi4 = some qnx:=rfl
theorem qqm : T.code qij = some qlc:=rfl
theorem qu1 : T.code qeg = some qkp:=rfl
theorem qtl : T.code qf0 = some qd2:=rfl
theorem qsm : T.code qfj = some qke:=rfl
theorem qwl : T.code qfh = some qih:=rfl
theorem qis : T.code qaw = some qc1:=rfl
theorem qv3 : T.code qhf = some qmn:=rfl
theorem qqt : T.code qdr = some qge:=rfl
theorem qsr : T.code qd5 = some qka:=rfl
theorem qx6 : T.code qjq = some qh2:=rfl
theorem qyr : T.code qi7 = some qia:=rfl
theorem qyx : T.code qjo = some qns:=rfl
theorem qw0 : T.code qig = some qlj:=rfl
theorem qn8 : T.code qcz = some qer:=rfl
theorem qw1 : T.code qic = some qj6:=rfl
theorem qky : T.code qes = some qb5:=rfl
theorem qux : T.code qft = some qlt:=rfl
theorem qol : T.code qgo = some qjs:=rfl
theorem q3g : T.code qe1 = some qq5:=rfl
theorem qub : T.code qgr = some qho:=rfl
theorem qr0 : T.code qef = some qhh:=rfl
theorem qi9 : T.code qbb = some qcg:=rfl
theorem qmo : T.code qcu = some qey:=rfl
theorem quv : T.code qgu = some qlq:=rfl
theorem qr6 : T.code qeo = some qkb:=rfl
theorem qu7 : T.code qfk = some qiw:=rfl
theorem qyv : T.code qjb = some qew:=rfl
theorem qyj : T.code qi8 = some qhx:=rfl
theorem qvr : T.code qhi = some qmc:=rfl
theorem qkk : T.code qa2 = some qfa:=rfl
theorem qpg : T.code qdc = some qej:=rfl
theorem qm3 : T.code qcw = some qd7:=rfl
theorem qev : T.code qar = some qa1:=rfl
theorem qio : T.code qr = some qe6:=rfl
theorem qhw : T.code qa9 = some qb1:=rfl
theorem qsg : T.code qdn = some qkg:=rfl
theorem qdj : T.code qds = some qd3:=rfl
theorem qh4 : T.code qa7 = some qco:=rfl
theorem qsi : T.code qdp = some qkf:=rfl
theorem qg2 : T.code qay = some qb7:=rfl
theorem qyu : T.code qjm = some qjh:=rfl
theorem qul : T.code qgt = some qeh:=rfl
theorem qqg : T.code qd4 = some qhk:=rfl
theorem qx0 : T.code qjn = some qn6:=rfl
theorem qtk : T.code qe9 = some qg9:=rfl
theorem qrv : T.code qe4 = some qjp:=rfl
theorem qw5 : T.code qfi = some qle:=rfl
theorem qtm : T.code qfg = some qkx:=rfl
theorem qkw : T.code qbw = some qdy:=rfl
theorem qxy : T.code qf8 = some qn2:=rfl
theorem qyn : T.code qgy = some qn7:=rfl
theorem qoi : T.code qcr = some qgn:=rfl
theorem qon : T.code qcn = some qgj:=rfl
theorem qnt : T.code qci = some qf6:=rfl
theorem qoq : T.code qca = some qfb:=rfl
theorem qnv : T.code qch = some qet:=rfl
theorem qo9 : T.code qcy = some qfo:=rfl
theorem qo0 : T.code qcq = some qdi:=rfl
theorem qo2 : T.code qcx = some qg1:=rfl
theorem q0a : T.code qkt = some qna:=rfl
theorem qve : T.code qga = some qml:=rfl
theorem qob : T.code qdd = some qde:=rfl
theorem qx1 : T.code qjj = some qny:=rfl
theorem qiu : T.code qa4 = some qc2:=rfl
theorem qi : T.code qav = some qj:=rfl
theorem qnj : T.code qbx = some qek:=rfl
theorem qpi : T.code qcv = some qg3:=rfl
theorem qk0 : T.code qbf = some qdw:=rfl
theorem qx2 : T.code qi5 = some qn3:=rfl
theorem qj7 : T.code qa5 = some qdg:=rfl
theorem qmp : T.ext qc6 = none ∧ T.ins qc6 = none:=⟨rfl,rfl⟩
theorem ext_law23_head : T.ext qkn = none ∧ T.ins qkn = none:=⟨rfl,rfl⟩
theorem q61 : T.ext qm2 = none ∧ T.ins qm2 = none:=⟨rfl,rfl⟩
theorem q0t : T.ext qjf = none ∧ T.ins qjf = none:=⟨rfl,rfl⟩
theorem qye : T.ext qf4 = none ∧ T.ins qf4 = none:=⟨rfl,rfl⟩
theorem q02 : T.ext qjg = none ∧ T.ins qjg = none:=⟨rfl,rfl⟩
theorem qwe : T.ext qf9 = none ∧ T.ins qf9 = none:=⟨rfl,rfl⟩
theorem qu8 : T.ext qfs = none ∧ T.ins qfs = none:=⟨rfl,rfl⟩
theorem q4o : T.ext qlu = none ∧ T.ins qlu = none:=⟨rfl,rfl⟩
theorem qyy : T.ext qif = none ∧ T.ins qif = none:=⟨rfl,rfl⟩
theorem qtj : T.ext qdo = none ∧ T.ins qdo = none:=⟨rfl,rfl⟩
theorem qvt : T.ext qeu = none ∧ T.ins qeu = none:=⟨rfl,rfl⟩
theorem qu0 : T.ext qfd = none ∧ T.ins qfd = none:=⟨rfl,rfl⟩
theorem qys : T.ext qg5 = none ∧ T.ins qg5 = none:=⟨rfl,rfl⟩
theorem qze : T.ext qhu = none ∧ T.ins qhu = none:=⟨rfl,rfl⟩
theorem qv6 : T.ext qex = none ∧ T.ins qex = none:=⟨rfl,rfl⟩
theorem qw3 : T.ext qhj = none ∧ T.ins qhj = none:=⟨rfl,rfl⟩
theorem ext_law19_Base : T.ext ql4 = none ∧ T.ins ql4 = none:=⟨rfl,rfl⟩
theorem qv9 : T.ext qgd = none ∧ T.ins qgd = none:=⟨rfl,rfl⟩
theorem qyq : T.ext qg4 = none ∧ T.ins qg4 = none:=⟨rfl,rfl⟩
theorem qzl : T.ext qjk = none ∧ T.ins qjk = none:=⟨rfl,rfl⟩
theorem qvx : T.ext qgq = none ∧ T.ins qgq = none:=⟨rfl,rfl⟩
theorem qrg : T.ext qed = none ∧ T.ins qed = none:=⟨rfl,rfl⟩
theorem qp6 : T.ext qdx = none ∧ T.ins qdx = none:=⟨rfl,rfl⟩
theorem qo6 : T.ext qdl = none ∧ T.ins qdl = none:=⟨rfl,rfl⟩
theorem qpz : T.ext qdv = none ∧ T.ins qdv = none:=⟨rfl,rfl⟩
theorem q3e : T.ext qkj = none ∧ T.ins qkj = none:=⟨rfl,rfl⟩
theorem qm6 : T.ext qfv = none ∧ T.ins qfv = none:=⟨rfl,rfl⟩
theorem qzh : T.ext qi4 = none ∧ T.ins qi4 = none:=⟨rfl,rfl⟩
theorem qrs : T.ext qij = none ∧ T.ins qij = none:=⟨rfl,rfl⟩
theorem qxe : T.ext qeg = none ∧ T.ins qeg = none:=⟨rfl,rfl⟩
theorem quh : T.ext qf0 = none ∧ T.ins qf0 = none:=⟨rfl,rfl⟩
theorem qth : T.ext qfj = none ∧ T.ins qfj = none:=⟨rfl,rfl⟩
theorem qxz : T.ext qfh = none ∧ T.ins qfh = none:=⟨rfl,rfl⟩
theorem qiz : T.ext qaw = none ∧ T.ins qaw = none:=⟨rfl,rfl⟩
theorem qwp : T.ext qhf = none ∧ T.ins qhf = none:=⟨rfl,rfl⟩
theorem qre : T.ext qdr = none ∧ T.ins qdr = none:=⟨rfl,rfl⟩
theorem qtr : T.ext qd5 = none ∧ T.ins qd5 = none:=⟨rfl,rfl⟩
theorem q2f : T.ext qjq = none ∧ T.ins qjq = none:=⟨rfl,rfl⟩
theorem qzf : T.ext qi7 = none ∧ T.ins qi7 = none:=⟨rfl,rfl⟩
theorem qzy : T.ext qjo = none ∧ T.ins qjo = none:=⟨rfl,rfl⟩
theorem qyk : T.ext qig = none ∧ T.ins qig = none:=⟨rfl,rfl⟩
theorem qkm : T.ext qcz = none ∧ T.ins qcz = none:=⟨rfl,rfl⟩
theorem qyl : T.ext qic = none ∧ T.ins qic = none:=⟨rfl,rfl⟩
theorem qlr : T.ext qes = none ∧ T.ins qes = none:=⟨rfl,rfl⟩
theorem qvz : T.ext qft = none ∧ T.ins qft = none:=⟨rfl,rfl⟩
theorem qpj : T.ext qgo = none ∧ T.ins qgo = none:=⟨rfl,rfl⟩
theorem q5c : T.ext qe1 = none ∧ T.ins qe1 = none:=⟨rfl,rfl⟩
theorem qv5 : T.ext qgr = none ∧ T.ins qgr = none:=⟨rfl,rfl⟩
theorem qsh : T.ext qef = none ∧ T.ins qef = none:=⟨rfl,rfl⟩
theorem qj4 : T.ext qbb = none ∧ T.ins qbb = none:=⟨rfl,rfl⟩
theorem qmt : T.ext qcu = none ∧ T.ins qcu = none:=⟨rfl,rfl⟩
theorem qu9 : T.ext qgu = none ∧ T.ins qgu = none:=⟨rfl,rfl⟩
theorem qtp : T.ext qeo = none ∧ T.ins qeo = none:=⟨rfl,rfl⟩
theorem qwa : T.ext qfk = none ∧ T.ins qfk = none:=⟨rfl,rfl⟩
theorem qzg : T.ext qjb = none ∧ T.ins qjb = none:=⟨rfl,rfl⟩
theorem qzd : T.ext qi8 = none ∧ T.ins qi8 = none:=⟨rfl,rfl⟩
theorem qww : T.ext qhi = none ∧ T.ins qhi = none:=⟨rfl,rfl⟩
theorem qk1 : T.ext qa2 = none ∧ T.ins qa2 = none:=⟨rfl,rfl⟩
theorem qp8 : T.ext qdc = none ∧ T.ins qdc = none:=⟨rfl,rfl⟩
theorem qnh : T.ext qcw = none ∧ T.ins qcw = none:=⟨rfl,rfl⟩
theorem qe5 : T.ext qar = none ∧ T.ins qar = none:=⟨rfl,rfl⟩
theorem qi3 : T.ext qr = none ∧ T.ins qr = none:=⟨rfl,rfl⟩
theorem qid : T.ext qa9 = none ∧ T.ins qa9 = none:=⟨rfl,rfl⟩
theorem qtq : T.ext qdn = none ∧ T.ins qdn = none:=⟨rfl,rfl⟩
theorem qd1 : T.ext qds = none ∧ T.ins qds = none:=⟨rfl,rfl⟩
theorem qib : T.ext qa7 = none ∧ T.ins qa7 = none:=⟨rfl,rfl⟩
theorem qnq : T.ext qdp = none ∧ T.ins qdp = none:=⟨rfl,rfl⟩
theorem qhb : T.ext qay = none ∧ T.ins qay = none:=⟨rfl,rfl⟩
theorem q2g : T.ext qjm = none ∧ T.ins qjm = none:=⟨rfl,rfl⟩
theorem qv2 : T.ext qgt = none ∧ T.ins qgt = none:=⟨rfl,rfl⟩
theorem qqn : T.ext qd4 = none ∧ T.ins qd4 = none:=⟨rfl,rfl⟩
theorem q0w : T.ext qjn = none ∧ T.ins qjn = none:=⟨rfl,rfl⟩
theorem que : T.ext qe9 = none ∧ T.ins qe9 = none:=⟨rfl,rfl⟩
theorem qr2 : T.ext qe4 = none ∧ T.ins qe4 = none:=⟨rfl,rfl⟩
theorem qx3 : T.ext qfi = none ∧ T.ins qfi = none:=⟨rfl,rfl⟩
theorem qud : T.ext qfg = none ∧ T.ins qfg = none:=⟨rfl,rfl⟩
theorem qk3 : T.ext qbw = none ∧ T.ins qbw = none:=⟨rfl,rfl⟩
theorem q0p : T.ext qf8 = none ∧ T.ins qf8 = none:=⟨rfl,rfl⟩
theorem qz0 : T.ext qgy = none ∧ T.ins qgy = none:=⟨rfl,rfl⟩
theorem qpd : T.ext qcr = none ∧ T.ins qcr = none:=⟨rfl,rfl⟩
theorem qo7 : T.ext qcn = none ∧ T.ins qcn = none:=⟨rfl,rfl⟩
theorem qor : T.ext qci = none ∧ T.ins qci = none:=⟨rfl,rfl⟩
theorem qo3 : T.ext qca = none ∧ T.ins qca = none:=⟨rfl,rfl⟩
theorem qop : T.ext qch = none ∧ T.ins qch = none:=⟨rfl,rfl⟩
theorem qp0 : T.ext qcy = none ∧ T.ins qcy = none:=⟨rfl,rfl⟩
theorem qpb : T.ext qcq = none ∧ T.ins qcq = none:=⟨rfl,rfl⟩
theorem qqe : T.ext qcx = none ∧ T.ins qcx = none:=⟨rfl,rfl⟩
theorem q3k : T.ext qkt = none ∧ T.ins qkt = none:=⟨rfl,rfl⟩
theorem qwz : T.ext qga = none ∧ T.ins qga = none:=⟨rfl,rfl⟩
theorem qos : T.ext qdd = none ∧ T.ins qdd = none:=⟨rfl,rfl⟩
theorem q0s : T.ext qjj = none ∧ T.ins qjj = none:=⟨rfl,rfl⟩
theorem qi0 : T.ext qa4 = none ∧ T.ins qa4 = none:=⟨rfl,rfl⟩
theorem qk : T.ext qav = none ∧ T.ins qav = none:=⟨rfl,rfl⟩
theorem qoc : T.ext qbx = none ∧ T.ins qbx = none:=⟨rfl,rfl⟩
theorem qp9 : T.ext qcv = none ∧ T.ins qcv = none:=⟨rfl,rfl⟩
theorem qk5 : T.ext qbf = none ∧ T.ins qbf = none:=⟨rfl,rfl⟩
theorem q1r : T.ext qi5 = none ∧ T.ins qi5 = none:=⟨rfl,rfl⟩
theorem qkh : T.ext qa5 = none ∧ T.ins qa5 = none:=⟨rfl,rfl⟩
theorem qip : T.ext qb6 = some (qss 1 24):=rfl
theorem qi6 : T.ext qbi = some (qss 6 64):=rfl
theorem qlz : T.ext qdb = some (qss 4 48):=rfl
theorem qpx : T.ext qfq = some (qss 1 8):=rfl
theorem qix : T.ins qbr = some (6,64):=rfl
theorem qiq : T.ext qbr = none:=rfl
def qb8 (n : Int) : List AV:=[(ii n)]
theorem int_lo (n : Nat) (x : Int) : los n (qb8 x) = true:=rfl
theorem int_pl (x : Int) : (qb8 x).length = 1 ∧ qx (qb8 x) = true:=⟨rfl,rfl⟩
theorem qah (n : Nat) (l : List Int) : qhl n (l.map qb8) = true:=qmk (int_lo n) l
theorem qacv (l : List Int) : qc5 1 (l.map qb8) = true:=qmy int_pl l
def qfy (l : List Int) : List AV:=[(.fsl ((l).map qb8) false)]
theorem key_lo (n : Nat) (l : List Int) : los n (qfy l) = true:=by simp only [qfy,los,AV.lo,qah,zfc]
theorem key_pl (l : List Int) : (qfy l).length = 1 ∧ qx (qfy l) = true:=⟨rfl,rfl⟩
theorem qbv (n : Nat) (l : List (List Int)) : qhl n (l.map qfy) = true:=qmk (key_lo n) l
theorem keys_ok (l : List (List Int)) : qc5 1 (l.map qfy) = true:=qmy key_pl l
structure OpI where
 code : Int
 a : Int
 b : Int
 c : Int
 deriving DecidableEq
def OpI.r (x : OpI) : List AV:=[(ii x.code),(ii x.a),(ii x.b),(ii x.c)]
theorem op_lo (n : Nat) (x : OpI) : los n x.r = true:=rfl
theorem qja (n : Nat) (l : List OpI) : qhl n (l.map OpI.r) = true:=qmk (op_lo n) l
def qcs (p : List OpI) : List AV:=[(.fsl ((p).map OpI.r) false)]
theorem progC_lo (n : Nat) (l : List OpI) : los n (qcs l) = true:=by simp only [qcs,los,AV.lo,qja,zfc]
theorem qbd (n : Nat) (l : List (List OpI)) : qhl n (l.map qcs) = true:=qmk (progC_lo n) l
structure Start where
 prog : Int
 time : Int
 deriving DecidableEq
def Start.r (x : Start) : List AV:=[(ii x.prog),(ii x.time)]
theorem start_lo (n : Nat) (x : Start) : los n x.r = true:=rfl
theorem qaba (n : Nat) (l : List Start) : qhl n (l.map Start.r) = true:=qmk (start_lo n) l
def lpC (p : List Start) : List AV:=[(.fsl ((p).map Start.r) false)]
theorem lpC_lo (n : Nat) (l : List Start) : los n (lpC l) = true:=by simp only [lpC,los,AV.lo,qaba,zfc]
theorem qc0 (n : Nat) (l : List (List Start)) : qhl n (l.map lpC) = true:=qmk (lpC_lo n) l
structure Cfg where
 lps : List (List Start)
 progs : List (List OpI)
 look : Int
 fin : Int
 cap : Int
def qr3 (n : Int) : Bool:=decide (n ≥ 1) && decide (n ≤ 1099511627776)
def qxx (n : Int) : Bool:=decide (n ≥ -1073741824) && decide (n ≤ 1073741824)
theorem qm7 (n : Int) : qaz (evL T) qf8 [(ii n)] = some (bb (qr3 n)):=by
 rw [qaz,qy q0p qxy]
 by_cases h1 : n ≥ 1 <;> simp only [qr3,qn2,h1,qn,Ev.exec,qb,qe,qc,qaj,Ev.Opnd.ev,Ev.Env.get,Ev.Env.set,Ev.Env.unset,Ev.look,qo,qnk,qcd,qm,qab,qak,Ev.kill,qai,qd,qax,qal,↓qs,↓reduceIte,zga,zgb,zfe,Nat.reduceEqDiff,reduceCtorEq,zgv,zgw,Bool.true_and,zfa,zgx,zfd,zgy,Bool.false_and]
theorem qqb (n : Int) : qaz (evL T) qgy [(ii n)] = some (bb (qxx n)):=by
 rw [qaz,qy qz0 qyn]
 by_cases h1 : n ≥ -1073741824 <;> simp only [qxx,qn7,h1,qn,Ev.exec,qb,qe,qc,qaj,Ev.Opnd.ev,Ev.Env.get,Ev.Env.set,Ev.Env.unset,Ev.look,qo,qnk,qcd,qm,qab,qak,Ev.kill,qai,qd,qax,qal,↓qs,↓reduceIte,zga,zgb,zfe,Nat.reduceEqDiff,Int.reduceNeg,reduceCtorEq,zgv,zgw,Bool.true_and,zfa,zgx,zfd,zgy,Bool.false_and]
def q29 (x : OpI) (n ps : Int) : Bool :=
 if x.code = 1 then qr3 x.a && (decide (x.b = 0) && decide (x.c = 0))
 else if x.code = 2 then decide (x.a ≥ 0) && (qxx x.b && qr3 x.c)
 else if x.code = 3 then qr3 x.a && (decide (x.b ≥ 0) && (decide (x.b < n) && decide (x.c = 0)))
 else if x.code = 5 then decide (x.a ≥ 0) && (decide (x.a < ps) && (qr3 x.b && decide (x.c = 0)))
 else if x.code = 6 then decide (x.a ≥ 0) && (decide (x.a < 2) && (qxx x.b && decide (x.c = 0)))
 else if x.code = 7 then decide (x.a ≥ 0) && (decide (x.a < 2) && (qxx x.b && (decide (x.c ≥ 0) && decide (x.c < n))))
 else decide (x.a = 0) && (decide (x.b = 0) && decide (x.c = 0))
theorem qqy (x : OpI) (n ps : Int) : qaz (evL T) qgt [(.agg [(ii x.code),(ii x.a),(ii x.b),(ii x.c)]),(ii n),(ii ps)] = some (bb (q29 x n ps)):=by
 obtain ⟨k,a,b,c⟩:=x
 rw [qaz,qy qv2 qul]
 simp only [q29]
 by_cases k1 : k = 1
 ·subst k1
  cases h1 : qr3 a <;> by_cases h2 : b = 0 <;> simp only [qeh,qm7,h1,h2,qn,Ev.exec,qb,qe,qc,qa0,qaj,Ev.evs,Ev.Opnd.ev,Ev.Env.get,Ev.Env.set,Ev.Env.unset,Ev.look,qo,qh,qad,Ev.AV.cells,qx,Ev.AV.plain,qam,qm,qab,qak,Ev.kill,qai,qd,qax,qg,qf,qal,↓qs,↓reduceIte,zga,zgb,zfe,zgf,zgg,zgh,Nat.reduceAdd,Nat.reduceEqDiff,zgv,zgw,zfc,Bool.true_and,zfa,zgx,ne_eq,zfb,zff,zfd,zgy,Bool.false_and,Bool.and_false]
 by_cases k2 : k = 2
 ·subst k2
  by_cases h1 : a ≥ 0 <;> cases h2 : qxx b <;> simp only [qeh,qm7,qqb,h1,h2,qn,Ev.exec,qb,qe,qc,qa0,qaj,Ev.evs,Ev.Opnd.ev,Ev.Env.get,Ev.Env.set,Ev.Env.unset,Ev.look,qo,qh,qad,Ev.AV.cells,qx,Ev.AV.plain,qam,qcd,qm,qab,qak,Ev.kill,qai,qd,qax,qg,qf,qal,↓qs,↓reduceIte,zga,zgb,zfe,zgf,zgg,zgh,Nat.reduceAdd,Nat.reduceEqDiff,Int.reduceEq,zgv,zgw,zfc,Bool.true_and,zfa,zgx,ne_eq,zfb,zff,zfd,zgy,Bool.false_and,Bool.and_false]
 by_cases k3 : k = 3
 ·subst k3
  cases h1 : qr3 a <;> by_cases h2 : b ≥ 0 <;> by_cases h3 : b < n <;> simp only [qeh,qm7,h1,h2,h3,qn,Ev.exec,qb,qe,qc,qa0,qaj,Ev.evs,Ev.Opnd.ev,Ev.Env.get,Ev.Env.set,Ev.Env.unset,Ev.look,qo,qh,qad,Ev.AV.cells,qx,Ev.AV.plain,qam,ql,qcd,qm,qab,qak,Ev.kill,qai,qd,qax,qg,qf,qal,↓qs,↓reduceIte,zga,zgb,zfe,zgf,zgg,zgh,Nat.reduceAdd,Nat.reduceEqDiff,Int.reduceEq,reduceCtorEq,zgv,zgw,zfc,Bool.true_and,zfa,zgx,ne_eq,zfb,zff,zfd,zgy,Bool.false_and,Bool.and_false]
 by_cases k5 : k = 5
 ·subst k5
  by_cases h1 : a ≥ 0 <;> by_cases h2 : a < ps <;> cases h3 : qr3 b <;> simp only [qeh,qm7,h1,h2,h3,qn,Ev.exec,qb,qe,qc,qa0,qaj,Ev.evs,Ev.Opnd.ev,Ev.Env.get,Ev.Env.set,Ev.Env.unset,Ev.look,qo,qh,qad,Ev.AV.cells,qx,Ev.AV.plain,qam,ql,qcd,qm,qab,qak,Ev.kill,qai,qd,qax,qg,qf,qal,↓qs,↓reduceIte,zga,zgb,zfe,zgf,zgg,zgh,Nat.reduceAdd,Nat.reduceEqDiff,Int.reduceEq,reduceCtorEq,zgv,zgw,zfc,Bool.true_and,zfa,zgx,ne_eq,zfb,zff,zfd,zgy,Bool.false_and,Bool.and_false]
 by_cases k6 : k = 6
 ·subst k6
  by_cases h1 : a ≥ 0 <;> by_cases h2 : a < 2 <;> cases h3 : qxx b <;> simp only [qeh,qqb,h1,h2,h3,qn,Ev.exec,qb,qe,qc,qa0,qaj,Ev.evs,Ev.Opnd.ev,Ev.Env.get,Ev.Env.set,Ev.Env.unset,Ev.look,qo,qh,qad,Ev.AV.cells,qx,Ev.AV.plain,qam,ql,qcd,qm,qab,qak,Ev.kill,qai,qd,qax,qg,qf,qal,↓qs,↓reduceIte,zga,zgb,zfe,zgf,zgg,zgh,Nat.reduceAdd,Nat.reduceEqDiff,Int.reduceEq,zgv,zgw,zfc,Bool.true_and,zfa,zgx,ne_eq,zfb,zff,zfd,zgy,Bool.false_and,Bool.and_false]
 by_cases k7 : k = 7
 ·subst k7
  by_cases h1 : a ≥ 0 <;> by_cases h2 : a < 2 <;> cases h3 : qxx b <;> by_cases h4 : c ≥ 0 <;> simp only [qeh,qqb,h1,h2,h3,h4,qn,Ev.exec,qb,qe,qc,qa0,qaj,Ev.evs,Ev.Opnd.ev,Ev.Env.get,Ev.Env.set,Ev.Env.unset,Ev.look,qo,qh,qad,Ev.AV.cells,qx,Ev.AV.plain,qam,ql,qcd,qm,qab,qak,Ev.kill,qai,qd,qax,qg,qf,qal,↓qs,↓reduceIte,zga,zgb,zfe,zgf,zgg,zgh,Nat.reduceAdd,Nat.reduceEqDiff,Int.reduceEq,reduceCtorEq,zgv,zgw,zfc,Bool.true_and,zfa,zgx,ne_eq,zfb,zff,zfd,zgy,Bool.false_and,Bool.and_false]
 by_cases h1 : a = 0 <;> by_cases h2 : b = 0 <;> simp only [qeh,k1,k2,k3,k5,k6,k7,h1,h2,qn,Ev.exec,qb,qe,qc,qaj,Ev.Opnd.ev,Ev.Env.get,Ev.Env.set,Ev.Env.unset,Ev.look,qo,qh,qad,Ev.AV.cells,qx,Ev.AV.plain,qam,qm,qab,qak,Ev.kill,qai,qd,qax,qal,↓qs,↓reduceIte,zga,zgb,zfe,zgf,zgg,zgh,Nat.reduceAdd,Nat.reduceEqDiff,zgv,zgw,zfc,Bool.true_and,zfa,zgx,ne_eq,zfb,zff,zfd,zgy,Bool.false_and,Bool.and_false]
def q5w (x : OpI) : Bool:=decide (x.code ≥ 1) && decide (x.code ≤ 8)
def qsn (p : List OpI) : Bool:=decide (1 ≤ p.length ∧ p.length ≤ 16) && p.all q5w
def qack (lps : Int) (x : OpI) : Bool:=!(decide (x.code = 2) && decide (x.a ≥ lps))
def qr8 (look : Int) (x : OpI) : Bool:=!(decide (x.code = 2) && decide (x.c < look))
def qrt (p : List OpI) (ps lps look : Int) : Int :=
 if qsn p = false then 22 else if p.all (fun x => q29 x p.length ps) = false then 22 else if p.all (qack lps) = false then 23 else if p.all (qr8 look) = false then 21 else 0
section
variable (p : List OpI) (c : Bool) (ps lps look : Int)
theorem q5f (hl : p.length ≤ 16) :
  ∃ y,itB (exec (evL T) itL none qhp) (qq [0,3] true 0) ⟨[(0,(.fsl ((p).map OpI.r) c)),(3,(ii 0))],[]⟩ [] = some y ∧ (p.all q5w = true ∧ (y.1 = .exit 0 ∧ y.2.1.marks = [] ∧ y.2.2 = []) ∨
   p.all q5w = false ∧ ∃ x,p.find? (fun x => !q5w x) = some x ∧ (y.1 = .ret ∧ y.2.1.marks = [] ∧ y.2.2 = [] ∧ Ev.look y.2.1.vars 2 = some (bb false))):=by
 refine qh8 p (fun i => ⟨[(0,(.fsl ((p).map OpI.r) c)),(3,(ii i))],[]⟩) [] q5w _ (fun _ y => _) ?_ ?_ ?_
 ·intro i x hi hx hp
  have hi' : (i : Int) < (p.length : Int):=by omega
  have hw : IntKind.i64.wrap ((i : Int) + 1) = ((i + 1 : Nat) : Int):=by rw [qas (by omega) (by omega)];simp
  simp only [q5w,Bool.and_eq_true,decide_eq_true_eq] at hp
  have h1 : ¬ x.code < 1:=by omega
  have h2 : ¬ x.code > 8:=by omega
  simp only [qhp,zgs,zgr,zgq,zgt,OpI.r,hx,hi',hw,h1,h2,qja,Ev.exec,qb,qe,qc,qaj,Ev.Opnd.ev,Ev.Env.get,Ev.Env.set,Ev.look,qh,qad,qaf,ql,qau,qq,Ev.keep,qae,qw,qd,qax,qu,zgi,↓qs,Ev.it1,↓reduceIte,zga,zgb,zfe,zgg,zgh,Nat.reduceAdd,Nat.reduceEqDiff,reduceCtorEq,zgv,zgw,zfc,zfa,zgx,zfd,zgy]
 ·intro i x hi hx hp
  have hi' : (i : Int) < (p.length : Int):=by omega
  simp only [q5w,Bool.and_eq_false_iff,decide_eq_false_iff_not] at hp
  by_cases h1 : x.code < 1
  ·simp only [qhp,zgs,zgr,zgq,zgt,OpI.r,hx,hi',h1,Ev.exec,qb,qe,qc,qaj,Ev.Opnd.ev,Ev.Env.get,Ev.Env.set,Ev.Env.unset,Ev.look,qh,qad,ql,zgi,↓qs,Ev.it1,↓reduceIte,zga,zgb,zgg,zgh,Nat.reduceAdd,Nat.reduceEqDiff,reduceCtorEq,zgv,zfa,Bool.true_eq_false,zfd,zgy]
   exact ⟨_,rfl,rfl,rfl,rfl,rfl⟩
  ·have h2 : x.code > 8:=by omega
   simp only [qhp,zgs,zgr,zgq,zgt,OpI.r,hx,hi',h1,h2,Ev.exec,qb,qe,qc,qaj,Ev.Opnd.ev,Ev.Env.get,Ev.Env.set,Ev.look,qh,qad,ql,qau,zgi,↓qs,Ev.it1,↓reduceIte,zga,zgb,zgg,zgh,Nat.reduceAdd,Nat.reduceEqDiff,reduceCtorEq,zgv,zgw,zfa,zfd,zgy]
   exact ⟨_,rfl,rfl,rfl,rfl,rfl⟩
 ·simp only [qhp,Int.lt_irrefl,Ev.exec,qb,qe,qc,qaj,Ev.Opnd.ev,Ev.Env.get,Ev.Env.set,Ev.look,ql,zgi,↓qs,Ev.it1,↓reduceIte,Nat.reduceEqDiff,reduceCtorEq,zgw,zfa,zgy]
  exact ⟨_,rfl,rfl,rfl,rfl⟩
theorem q22 : qaz (evL T) qjm [(.fsl ((p).map OpI.r) c)] = some (bb (qsn p)):=by
 rw [qaz,qy q2g qyu]
 by_cases h1 : (p.length : Int) < 1
 ·have : ¬ (1 ≤ p.length ∧ p.length ≤ 16):=by omega
  simp only [qjh,qsn,this,h1,qn,Ev.exec,qb,qe,qc,qaj,Ev.Opnd.ev,Ev.Env.get,Ev.Env.set,Ev.Env.unset,Ev.look,qo,ql,qm,qab,qak,Ev.kill,qai,qd,qax,qal,zgi,↓qs,↓reduceIte,zga,zgb,zfe,Nat.reduceEqDiff,reduceCtorEq,zgv,zgw,Bool.true_eq_false,zgx,zfd,zgy,Bool.false_and]
 by_cases h2 : (p.length : Int) > 16
 ·have : ¬ (1 ≤ p.length ∧ p.length ≤ 16):=by omega
  simp only [qjh,qsn,this,h1,h2,qn,Ev.exec,qb,qe,qc,qaj,Ev.Opnd.ev,Ev.Env.get,Ev.Env.set,Ev.look,qo,ql,qau,qm,qab,qak,Ev.kill,qai,qd,qax,qal,zgi,↓qs,↓reduceIte,zga,zgb,zfe,Nat.reduceEqDiff,reduceCtorEq,zgv,zgw,zfa,zgx,zfd,zgy,Bool.false_and]
 have h3 : 1 ≤ p.length ∧ p.length ≤ 16:=by omega
 obtain ⟨⟨y,e,σ⟩,k1,k2⟩:=q5f p c h3.2
 simp only at k2
 rcases k2 with ⟨k3,rfl,k4,rfl⟩ | ⟨k3,x,_,rfl,k4,rfl,k5⟩
 ·simp only [qjh,qsn,h3,h1,h2,k1,k3,k4,qja,qn,Ev.exec,qb,qe,qc,qaj,Ev.Opnd.ev,Ev.Env.get,Ev.Env.set,Ev.look,qo,ql,qau,qm,qab,qak,Ev.kill,qai,qq,Ev.keep,qae,qw,qd,qax,qu,qal,zgi,↓qs,↓qan,↓reduceIte,zga,zgb,zfe,Nat.reduceEqDiff,reduceCtorEq,zgv,zgw,zfc,zfa,zgx,zfd,zgy]
 ·simp only [qjh,qsn,h3,h1,h2,k1,k3,k4,k5,qja,qn,Ev.exec,qb,qe,qc,qaj,Ev.Opnd.ev,Ev.Env.get,Ev.Env.set,Ev.look,qo,ql,qau,qm,qab,qak,Ev.kill,qai,qq,Ev.keep,qae,qw,qd,qax,qu,qal,zgi,↓qs,↓qan,↓reduceIte,zga,zgb,zfe,Nat.reduceEqDiff,reduceCtorEq,zgv,zgw,zfc,zfa,zgx,zfd,zgy,Bool.and_false]
theorem q3m (hl : p.length ≤ 16) :
  ∃ y,itB (exec (evL T) itL none qjr) (qq [0,1,2,3,9] true 0) ⟨[(0,(.fsl ((p).map OpI.r) c)),(1,(ii ps)),(2,(ii lps)),(3,(ii look)),(9,(ii 0))],[]⟩ [] = some y ∧
   (p.all (fun x => q29 x p.length ps) = true ∧ (y.1 = .exit 0 ∧ y.2.1.marks = [] ∧ y.2.2 = [] ∧ Ev.look y.2.1.vars 0 = some (.fsl ((p).map OpI.r) c) ∧ Ev.look y.2.1.vars 2 = some (ii lps) ∧ Ev.look y.2.1.vars 3 = some (ii look)) ∨
   p.all (fun x => q29 x p.length ps) = false ∧ ∃ x,p.find? (fun x => !q29 x p.length ps) = some x ∧ (y.1 = .ret ∧ y.2.1.marks = [] ∧ y.2.2 = [] ∧ Ev.look y.2.1.vars 8 = some (ii 22))):=by
 refine qh8 p (fun i => ⟨[(0,(.fsl ((p).map OpI.r) c)),(1,(ii ps)),(2,(ii lps)),(3,(ii look)),(9,(ii i))],[]⟩) [] (fun x => q29 x p.length ps) _ (fun _ y => _) ?_ ?_ ?_
 ·intro i x hi hx hp
  have hi' : (i : Int) < (p.length : Int):=by omega
  have hw : IntKind.i64.wrap ((i : Int) + 1) = ((i + 1 : Nat) : Int):=by rw [qas (by omega) (by omega)];simp
  simp only [qjr,zgs,zgr,zgq,zgt,OpI.r,hx,hi',hw,qqy,hp,qja,Ev.exec,qb,qe,qc,qa0,qaj,Ev.evs,Ev.Opnd.ev,Ev.Env.get,Ev.Env.set,Ev.look,qh,qad,qaf,ql,qq,Ev.keep,qae,qw,qd,qax,qbe,qu,qg,qf,zgi,↓qs,Ev.it1,↓reduceIte,zga,zgb,zgc,zfe,Nat.reduceAdd,Nat.reduceEqDiff,reduceCtorEq,zgv,zfc,Bool.not_true,zfa,zgx,zfd,Nat.le_refl,zgy]
 ·intro i x hi hx hp
  have hi' : (i : Int) < (p.length : Int):=by omega
  simp only [qjr,zgs,zgr,zgq,zgt,OpI.r,hx,hi',qqy,hp,Ev.exec,qb,qe,qc,qa0,qaj,Ev.evs,Ev.Opnd.ev,Ev.Env.get,Ev.Env.set,Ev.look,qh,qad,ql,qax,qbe,qg,qf,zgi,↓qs,Ev.it1,↓reduceIte,zga,zgb,zgc,zfe,Nat.reduceAdd,Nat.reduceEqDiff,reduceCtorEq,zgv,zfc,Bool.not_false,zfd,Nat.le_refl,zgy]
  exact ⟨_,rfl,rfl,rfl,rfl,rfl⟩
 ·simp only [qjr,Int.lt_irrefl,Ev.exec,qb,qe,qc,qaj,Ev.Opnd.ev,Ev.Env.get,Ev.Env.set,Ev.look,ql,zgi,↓qs,Ev.it1,↓reduceIte,Nat.reduceEqDiff,reduceCtorEq,zgw,zfa,zgy]
  exact ⟨_,rfl,rfl,rfl,rfl,rfl,rfl,rfl⟩
theorem q2u (hl : p.length ≤ 16) :
  ∃ y,itB (exec (evL T) itL none qhq) (qq [0,2,3,10] true 0) ⟨[(0,(.fsl ((p).map OpI.r) c)),(2,(ii lps)),(3,(ii look)),(10,(ii 0))],[]⟩ [] = some y ∧
   (p.all (qack lps) = true ∧ (y.1 = .exit 2 ∧ y.2.1.marks = [] ∧ y.2.2 = [] ∧ Ev.look y.2.1.vars 0 = some (.fsl ((p).map OpI.r) c) ∧ Ev.look y.2.1.vars 3 = some (ii look)) ∨
   p.all (qack lps) = false ∧ ∃ x,p.find? (fun x => !qack lps x) = some x ∧ (y.1 = .ret ∧ y.2.1.marks = [] ∧ y.2.2 = [] ∧ Ev.look y.2.1.vars 8 = some (ii 23))):=by
 refine qh8 p (fun i => ⟨[(0,(.fsl ((p).map OpI.r) c)),(2,(ii lps)),(3,(ii look)),(10,(ii i))],[]⟩) [] (qack lps) _ (fun _ y => _) ?_ ?_ ?_
 ·intro i x hi hx hp
  have hi' : (i : Int) < (p.length : Int):=by omega
  have hw : IntKind.i64.wrap ((i : Int) + 1) = ((i + 1 : Nat) : Int):=by rw [qas (by omega) (by omega)];simp
  by_cases h1 : x.code = 2
  ·have h2 : ¬ x.a ≥ lps:=by simpa [qack,h1] using hp
   simp only [qhq,zgs,zgr,zgq,zgt,OpI.r,hx,hi',hw,h1,h2,qja,Ev.exec,qb,qe,qc,qaj,Ev.Opnd.ev,Ev.Env.get,Ev.Env.set,Ev.look,qh,qad,qaf,qam,ql,qcd,qq,Ev.keep,qae,qw,qd,qax,qu,zgi,↓qs,Ev.it1,↓reduceIte,zga,zgb,zfe,zgf,zgg,zgh,Nat.reduceAdd,Nat.reduceEqDiff,reduceCtorEq,zgv,zgw,zfc,zfa,zgx,zfd,zgy]
  ·simp only [qhq,zgs,zgr,zgq,zgt,OpI.r,hx,hi',hw,h1,qja,Ev.exec,qb,qe,qc,qaj,Ev.Opnd.ev,Ev.Env.get,Ev.Env.set,Ev.Env.unset,Ev.look,qh,qad,qaf,qam,ql,qq,Ev.keep,qae,qw,qd,qax,qu,zgi,↓qs,Ev.it1,↓reduceIte,zga,zgb,zfe,zgg,zgh,Nat.reduceAdd,Nat.reduceEqDiff,reduceCtorEq,zgv,zgw,zfc,zfa,zgx,zfd,zgy]
 ·intro i x hi hx hp
  have hi' : (i : Int) < (p.length : Int):=by omega
  have h1 : x.code = 2:=by
   by_cases h1 : x.code = 2
   ·exact h1
   ·simp [qack,h1] at hp
  have h2 : x.a ≥ lps:=by simpa [qack,h1] using hp
  simp only [qhq,zgs,zgr,zgq,zgt,OpI.r,hx,hi',h1,h2,Ev.exec,qb,qe,qc,qaj,Ev.Opnd.ev,Ev.Env.get,Ev.Env.set,Ev.look,qh,qad,qam,ql,qcd,zgi,↓qs,Ev.it1,↓reduceIte,zga,zgb,zgf,zgg,zgh,Nat.reduceAdd,Nat.reduceEqDiff,reduceCtorEq,zgv,zfa,zfd,zgy]
  exact ⟨_,rfl,rfl,rfl,rfl,rfl⟩
 ·simp only [qhq,Int.lt_irrefl,Ev.exec,qb,qe,qc,qaj,Ev.Opnd.ev,Ev.Env.get,Ev.Env.set,Ev.look,ql,zgi,↓qs,Ev.it1,↓reduceIte,Nat.reduceEqDiff,reduceCtorEq,zgw,zfa,zgy]
  exact ⟨_,rfl,rfl,rfl,rfl,rfl,rfl⟩
theorem q3c (hl : p.length ≤ 16) :
  ∃ y,itB (exec (evL T) itL none qhm) (qq [0,3,11] true 0) ⟨[(0,(.fsl ((p).map OpI.r) c)),(3,(ii look)),(11,(ii 0))],[]⟩ [] = some y ∧
   (p.all (qr8 look) = true ∧ (y.1 = .exit 4 ∧ y.2.1.marks = [] ∧ y.2.2 = []) ∨
   p.all (qr8 look) = false ∧ ∃ x,p.find? (fun x => !qr8 look x) = some x ∧ (y.1 = .ret ∧ y.2.1.marks = [] ∧ y.2.2 = [] ∧ Ev.look y.2.1.vars 8 = some (ii 21))):=by
 refine qh8 p (fun i => ⟨[(0,(.fsl ((p).map OpI.r) c)),(3,(ii look)),(11,(ii i))],[]⟩) [] (qr8 look) _ (fun _ y => _) ?_ ?_ ?_
 ·intro i x hi hx hp
  have hi' : (i : Int) < (p.length : Int):=by omega
  have hw : IntKind.i64.wrap ((i : Int) + 1) = ((i + 1 : Nat) : Int):=by rw [qas (by omega) (by omega)];simp
  by_cases h1 : x.code = 2
  ·have h2 : ¬ x.c < look:=by simpa [qr8,h1] using hp
   simp only [qhm,zgs,zgr,zgq,zgt,OpI.r,hx,hi',hw,h1,h2,qja,Ev.exec,qb,qe,qc,qaj,Ev.Opnd.ev,Ev.Env.get,Ev.Env.set,Ev.look,qh,qad,qaf,qam,ql,qq,Ev.keep,qae,qw,qd,qax,qu,zgi,↓qs,Ev.it1,↓reduceIte,zga,zgb,zfe,zgf,zgg,zgh,Nat.reduceAdd,Nat.reduceEqDiff,reduceCtorEq,zgv,zgw,zfc,zfa,zgx,zfd,zgy]
  ·simp only [qhm,zgs,zgr,zgq,zgt,OpI.r,hx,hi',hw,h1,qja,Ev.exec,qb,qe,qc,qaj,Ev.Opnd.ev,Ev.Env.get,Ev.Env.set,Ev.Env.unset,Ev.look,qh,qad,qaf,qam,ql,qq,Ev.keep,qae,qw,qd,qax,qu,zgi,↓qs,Ev.it1,↓reduceIte,zga,zgb,zfe,zgg,zgh,Nat.reduceAdd,Nat.reduceEqDiff,reduceCtorEq,zgv,zgw,zfc,zfa,zgx,zfd,zgy]
 ·intro i x hi hx hp
  have hi' : (i : Int) < (p.length : Int):=by omega
  have h1 : x.code = 2:=by
   by_cases h1 : x.code = 2
   ·exact h1
   ·simp [qr8,h1] at hp
  have h2 : x.c < look:=by simpa [qr8,h1] using hp
  simp only [qhm,zgs,zgr,zgq,zgt,OpI.r,hx,hi',h1,h2,Ev.exec,qb,qe,qc,qaj,Ev.Opnd.ev,Ev.Env.get,Ev.Env.set,Ev.look,qh,qad,qam,ql,zgi,↓qs,Ev.it1,↓reduceIte,zga,zgb,zgf,zgg,zgh,Nat.reduceAdd,Nat.reduceEqDiff,reduceCtorEq,zgv,zfa,zfd,zgy]
  exact ⟨_,rfl,rfl,rfl,rfl,rfl⟩
 ·simp only [qhm,Int.lt_irrefl,Ev.exec,qb,qe,qc,qaj,Ev.Opnd.ev,Ev.Env.get,Ev.Env.set,Ev.look,ql,zgi,↓qs,Ev.it1,↓reduceIte,Nat.reduceEqDiff,reduceCtorEq,zgw,zfa,zgy]
  exact ⟨_,rfl,rfl,rfl,rfl⟩
theorem qtt : qaz (evL T) qi8 [(.fsl ((p).map OpI.r) c),(ii ps),(ii lps),(ii look)] = some (ii (qrt p ps lps look)):=by
 have h0:=q22 p c
 rw [qaz,qy qzd qyj]
 cases hs : qsn p with
 | false =>
  rw [hs] at h0
  simp only [qhx,qrt,h0,hs,qja,qn,Ev.exec,qb,qe,qc,qa0,qaj,Ev.evs,Ev.Opnd.ev,Ev.Env.get,Ev.Env.set,Ev.look,qo,qm,qab,qak,Ev.kill,qai,qd,qax,qu,qg,qf,qal,↓qs,↓reduceIte,zga,zgb,zfe,Nat.reduceAdd,reduceCtorEq,zfc,Bool.not_false,zgx,zfd,zgy]
 | true =>
  rw [hs] at h0
  have hl : p.length ≤ 16:=by simp only [qsn,Bool.and_eq_true,decide_eq_true_eq] at hs;exact hs.1.2
  obtain ⟨⟨y1,e1,σ1⟩,k1,k2⟩:=q3m p c ps lps look hl
  obtain ⟨⟨y2,e2,σ2⟩,m1,m2⟩:=q2u p c lps look hl
  obtain ⟨⟨y3,e3,σ3⟩,n1,n2⟩:=q3c p c look hl
  simp only at k2 m2 n2
  rcases k2 with ⟨q1,rfl,q2,rfl,q3,q4,q5⟩ | ⟨q1,x,_,rfl,q2,rfl,q3⟩
  ·rcases m2 with ⟨r1,rfl,r2,rfl,r3,r4⟩ | ⟨r1,x,_,rfl,r2,rfl,r3⟩
   ·rcases n2 with ⟨t1,rfl,t2,rfl⟩ | ⟨t1,x,_,rfl,t2,rfl,t3⟩
    ·simp only [qhx,qrt,h0,hs,k1,q1,q2,q3,q4,q5,m1,r1,r2,r3,r4,n1,t1,t2,qja,qn,Ev.exec,qb,qe,qc,qa0,qaj,Ev.evs,Ev.Opnd.ev,Ev.Env.get,Ev.Env.set,Ev.look,qo,qm,qab,qak,Ev.kill,qai,qq,Ev.keep,qae,qw,qd,qax,qu,qg,qf,qal,↓qs,↓qan,↓reduceIte,zga,zgb,zfe,Nat.reduceAdd,Nat.reduceEqDiff,reduceCtorEq,zfc,Bool.not_true,zfa,Bool.true_eq_false,zgx,zfd,zgy]
    ·simp only [qhx,qrt,h0,hs,k1,q1,q2,q3,q4,q5,m1,r1,r2,r3,r4,n1,t1,t2,t3,qja,qn,Ev.exec,qb,qe,qc,qa0,qaj,Ev.evs,Ev.Opnd.ev,Ev.Env.get,Ev.Env.set,Ev.look,qo,qm,qab,qak,Ev.kill,qai,qq,Ev.keep,qae,qw,qd,qax,qu,qg,qf,qal,↓qs,↓qan,↓reduceIte,zga,zgb,zfe,Nat.reduceAdd,Nat.reduceEqDiff,reduceCtorEq,zfc,Bool.not_true,zfa,Bool.true_eq_false,zgx,zfd,zgy]
   ·simp only [qhx,qrt,h0,hs,k1,q1,q2,q3,q4,q5,m1,r1,r2,r3,qja,qn,Ev.exec,qb,qe,qc,qa0,qaj,Ev.evs,Ev.Opnd.ev,Ev.Env.get,Ev.Env.set,Ev.look,qo,qm,qab,qak,Ev.kill,qai,qq,Ev.keep,qae,qw,qd,qax,qu,qg,qf,qal,↓qs,↓qan,↓reduceIte,zga,zgb,zfe,Nat.reduceAdd,Nat.reduceEqDiff,reduceCtorEq,zfc,Bool.not_true,zfa,Bool.true_eq_false,zgx,zfd,zgy]
  ·simp only [qhx,qrt,h0,hs,k1,q1,q2,q3,qja,qn,Ev.exec,qb,qe,qc,qa0,qaj,Ev.evs,Ev.Opnd.ev,Ev.Env.get,Ev.Env.set,Ev.look,qo,qm,qab,qak,Ev.kill,qai,qq,Ev.keep,qae,qw,qd,qax,qu,qg,qf,qal,↓qs,↓qan,↓reduceIte,zga,zgb,zfe,Nat.reduceAdd,Nat.reduceEqDiff,reduceCtorEq,zfc,Bool.not_true,zfa,Bool.true_eq_false,zgx,zfd,zgy]
end
set_option maxRecDepth 10000
structure Pr where
 prog : Int
 pc : Int
 alive : Bool
 timer : List Int
 deriving DecidableEq
def Pr.r (x : Pr) : List AV:=[(ii x.prog),(ii x.pc),(bb x.alive),(.fsl ((x.timer).map qb8) false)]
theorem pr_lo (n : Nat) (x : Pr) : los n x.r = true:=by simp only [Pr.r,qah,qax,qu,qg,qf,zfc,zgy]
theorem pr_pl (x : Pr) : x.r.length = 4 ∧ qx x.r = true:=⟨rfl,rfl⟩
theorem qap (n : Nat) (l : List Pr) : qhl n (l.map Pr.r) = true:=qmk (pr_lo n) l
theorem q4s (l : List Pr) : qc5 4 (l.map Pr.r) = true:=qmy pr_pl l
structure Evt where
 time : Int
 key : List Int
 lp : Int
 kind : Int
 proc : Int
 arg : Int
 deriving DecidableEq
def Evt.r (x : Evt) : List AV:=[(ii x.time),(.fsl ((x.key).map qb8) false),(ii x.lp),(ii x.kind),(ii x.proc),(ii x.arg)]
theorem evt_lo (n : Nat) (x : Evt) : los n x.r = true:=by simp only [Evt.r,qah,qax,qu,qg,qf,zfc,zgy]
theorem evt_pl (x : Evt) : x.r.length = 6 ∧ qx x.r = true:=⟨rfl,rfl⟩
theorem qv (n : Nat) (l : List Evt) : qhl n (l.map Evt.r) = true:=qmk (evt_lo n) l
theorem qem (l : List Evt) : qc5 6 (l.map Evt.r) = true:=qmy evt_pl l
structure Lp where
 r0 : Int
 r1 : Int
 procs : List Pr
 sum : Int
 deriving DecidableEq
def Lp.r (x : Lp) : List AV:=[(ii x.r0),(ii x.r1),(.fsl ((x.procs).map Pr.r) false),(ii x.sum)]
structure Ex where
 r0 : Int
 r1 : Int
 procs : List Pr
 sum : Int
 ev : Evt
 out : List Evt
 n : Int
 gone : List (List Int)
 over : Bool
def Ex.kid (x : Ex) : List Int:=x.ev.key ++ [x.n]
def Ex.create (x : Ex) (d : Int) (e : Evt) : Ex :=
  { x with n := w64 (x.n + 1), out := if w64 (x.ev.time + d) > 1152921504606846976 then x.out else x.out ++ [⟨w64 (x.ev.time + d), x.kid, e.lp, e.kind, e.proc, e.arg⟩],
           over := if w64 (x.ev.time + d) > 1152921504606846976 then true else x.over }
structure Ex.Small (x : Ex) : Prop where
 procs : x.procs.length ≤ 1000
 out : x.out.length ≤ 1000
 gone : x.gone.length ≤ 1000
 key : x.ev.key.length ≤ 100000
theorem q42 (l : List Int) : qru (l.map qb8) (l.map qb8) = true:=qr7 (fun x => by simp only [qb8,qvk,qsp,q4k,zgv,zfc,zgy]) l
theorem eq_procs (l : List Pr) : qru (l.map Pr.r) (l.map Pr.r) = true:=qr7 (fun x => by simp only [Pr.r,q42,qvk,qsp,q4k,q83,q5l,zgv,zfc,zgy,beq_self_eq_true]) l
theorem eq_evts (l : List Evt) : qru (l.map Evt.r) (l.map Evt.r) = true:=qr7 (fun x => by simp only [Evt.r,q42,qvk,qsp,q4k,q5l,zgv,zfc,zgy,beq_self_eq_true]) l
theorem eq_keys (l : List (List Int)) : qru (l.map qfy) (l.map qfy) = true:=qr7 (fun x => by simp only [qfy,q42,qvk,qsp,q5l,zfc,zgy,beq_self_eq_true]) l
set_option maxRecDepth 10000
def qqh (a b : Int) : Int:=if a < b then -1 else if a > b then 1 else 0
theorem qnm (a b : Int) : qaz (evL T) qfk [(ii a),(ii b)] = some (ii (qqh a b)):=by
 rw [qaz,qy qwa qu7]
 by_cases h1 : a < b
 ·simp only [qiw,qqh,h1,qn,Ev.exec,qb,qe,qc,qaj,Ev.Opnd.ev,Ev.Env.get,Ev.Env.set,Ev.look,qo,ql,qm,qab,qak,Ev.kill,qai,qd,qax,qal,↓qs,↓reduceIte,zga,zgb,zfe,Nat.reduceAdd,Nat.reduceEqDiff,Int.reduceNeg,reduceCtorEq,zgv,zgx,zfd,zgy]
 by_cases h2 : a > b
 ·simp only [qiw,qqh,h1,h2,qn,Ev.exec,qb,qe,qc,qaj,Ev.Opnd.ev,Ev.Env.get,Ev.Env.set,Ev.look,qo,ql,qau,qm,qab,qak,Ev.kill,qai,qd,qax,qal,↓qs,↓reduceIte,zga,zgb,zfe,Nat.reduceAdd,Nat.reduceEqDiff,Int.reduceNeg,reduceCtorEq,zgv,zgw,zfa,zgx,zfd,zgy]
 ·simp only [qiw,qqh,h1,h2,qn,Ev.exec,qb,qe,qc,qaj,Ev.Opnd.ev,Ev.Env.get,Ev.Env.set,Ev.look,qo,ql,qau,qm,qab,qak,Ev.kill,qai,qd,qax,qal,↓qs,↓reduceIte,zga,zgb,zfe,Nat.reduceAdd,Nat.reduceEqDiff,Int.reduceNeg,reduceCtorEq,zgw,zfa,zgx,zfd,zgy]
def qly : List Int → List Int → Int
 | x :: a,y :: b => if x = y then qly a b else qqh x y
 | [],b => if b.length = 0 then 0 else -1
 | _ :: _,[] => 1
theorem qxd : ∀ a b : List Int,((a.zip b).all (fun z => decide (z.1 = z.2)) = true → qly a b = qqh a.length b.length) ∧ ∀ x,(a.zip b).find? (fun z => !decide (z.1 = z.2)) = some x → qly a b = qqh x.1 x.2
 | [],b => by
  refine ⟨fun _ => ?_,fun x h => by simp at h⟩
  cases b with
  | nil => rfl
  | cons y b =>
   have : ((0 : Nat) : Int) < ((y :: b).length : Int):=by simp only [zga];omega
   simp only [qly,zga,Nat.succ_ne_zero,if_false,qqh,zgb]
   rw [if_pos (by omega)]
 | x :: a,[] => by
  refine ⟨fun _ => ?_,fun x h => by simp at h⟩
  simp only [qly,qqh,zga,zgb]
  rw [if_neg (by omega),if_pos (by omega)]
 | x :: a,y :: b => by
  obtain ⟨h1,h2⟩:=qxd a b
  simp only [List.zip_cons_cons,List.all_cons,List.find?_cons,qly,zga]
  by_cases h : x = y
  ·simp only [h,zgv,Bool.true_and,if_true,Bool.not_true]
   refine ⟨fun k => ?_,h2⟩
   rw [h1 k];unfold qqh
   have e1 : ((a.length : Int) < b.length) ↔ (((a.length + 1 : Nat) : Int) < ((b.length + 1 : Nat) : Int)):=by omega
   have e2 : ((a.length : Int) > b.length) ↔ (((a.length + 1 : Nat) : Int) > ((b.length + 1 : Nat) : Int)):=by omega
   simp only [e1,e2]
  ·simp only [h,zgw,Bool.false_and,if_false,Bool.not_false]
   exact ⟨fun k => by simp at k,fun z k => by simp at k;rw [← k]⟩
theorem q1e (a b : Int) : qqh a b = 0 ↔ a = b:=by
 unfold qqh;split
 ·constructor <;> intro h <;> omega
 split
 ·constructor <;> intro h <;> omega
 ·constructor <;> intro h <;> omega
theorem qwu : ∀ a b : List Int,qly a b = 0 ↔ a = b
 | [],[] => by simp [qly]
 | [],y :: b => by simp [qly]
 | x :: a,[] => by simp [qly]
 | x :: a,y :: b => by
  simp only [qly,List.cons.injEq]
  split
  next h => rw [qwu a b];simp [h]
  next h => rw [q1e];simp [h]
section
variable (a b : List Int) (c d : Bool)
theorem q5e (h1 : a.length ≤ 9223372036854775807) (h2 : b.length ≤ 9223372036854775807) :
  ∃ y,itB (exec (evL T) itL none qeq) (qq [0,1,5] true 0) ⟨[(0,(.fsl ((a).map qb8) c)),(1,(.fsl ((b).map qb8) d)),(5,(ii 0))],[]⟩ [] = some y ∧
   ((a.zip b).all (fun z => decide (z.1 = z.2)) = true ∧ (y.1 = .exit 0 ∧ y.2.1.marks = [] ∧ y.2.2 = [] ∧ Ev.look y.2.1.vars 0 = some (.fsl ((a).map qb8) c) ∧ Ev.look y.2.1.vars 1 = some (.fsl ((b).map qb8) d)) ∨
   (a.zip b).all (fun z => decide (z.1 = z.2)) = false ∧ ∃ x,(a.zip b).find? (fun z => !decide (z.1 = z.2)) = some x ∧ (y.1 = .ret ∧ y.2.1.marks = [] ∧ y.2.2 = [] ∧ Ev.look y.2.1.vars 4 = some (ii (qqh x.1 x.2)))):=by
 have hzl : (a.zip b).length = min a.length b.length:=List.length_zip
 refine qh8 (a.zip b) (fun i => ⟨[(0,(.fsl ((a).map qb8) c)),(1,(.fsl ((b).map qb8) d)),(5,(ii i))],[]⟩) [] (fun z => decide (z.1 = z.2)) _ (fun x y => _) ?_ ?_ ?_
 ·intro i x hi hx hp
  rw [hzl] at hi
  have hi' : (i : Int) < (a.length : Int):=by omega
  have hi2 : (i : Int) < (b.length : Int):=by omega
  have hw : IntKind.i64.wrap ((i : Int) + 1) = ((i + 1 : Nat) : Int):=by rw [qas (by omega) (by omega)];simp
  obtain ⟨hxa,hxb⟩:=List.getElem?_zip_eq_some.1 hx
  have hp':=of_decide_eq_true hp
  simp only [qeq,zgs,zgr,zgq,zgt,hxa,hxb,hi',hi2,hw,hp',qah,qb8,Ev.exec,qb,qe,qc,qaj,Ev.Opnd.ev,Ev.Env.get,Ev.Env.set,Ev.look,qh,qad,qaf,qbn,ql,qq,Ev.keep,qae,qw,qd,qax,qu,zgi,↓qs,Ev.it1,↓reduceIte,zga,zgb,zfe,zgh,Nat.reduceEqDiff,reduceCtorEq,zgv,zgw,zfc,zfa,zgx,ne_eq,not_true_eq_false,zfd,zgy]
 ·intro i x hi hx hp
  rw [hzl] at hi
  have hi' : (i : Int) < (a.length : Int):=by omega
  have hi2 : (i : Int) < (b.length : Int):=by omega
  obtain ⟨hxa,hxb⟩:=List.getElem?_zip_eq_some.1 hx
  have hp' : ¬ x.1 = x.2:=of_decide_eq_false hp
  have hc:=qnm x.1 x.2
  simp only [qeq,zgs,zgr,zgq,zgt,hxa,hxb,hi',hi2,hp',hc,qb8,Ev.exec,qb,qe,qc,qa0,qaj,Ev.evs,Ev.Opnd.ev,Ev.Env.get,Ev.Env.set,Ev.look,qh,qad,qbn,ql,qax,qg,qf,zgi,↓qs,Ev.it1,↓reduceIte,zga,zgb,zgh,Nat.reduceEqDiff,reduceCtorEq,zgv,zfc,zfa,ne_eq,zfb,zfd,zgy]
  exact ⟨_,rfl,rfl,rfl,rfl,rfl⟩
 ·rw [hzl]
  by_cases hab : a.length ≤ b.length
  ·rw [Nat.min_eq_left hab]
   simp only [qeq,Int.lt_irrefl,Ev.exec,qb,qe,qc,qaj,Ev.Opnd.ev,Ev.Env.get,Ev.Env.set,Ev.Env.unset,Ev.look,ql,zgi,↓qs,Ev.it1,↓reduceIte,Nat.reduceEqDiff,reduceCtorEq,zgw,zfa,zgy]
   exact ⟨_,rfl,rfl,rfl,rfl,rfl,rfl⟩
  ·rw [Nat.min_eq_right (by omega)]
   have h3 : (b.length : Int) < (a.length : Int):=by omega
   simp only [qeq,Int.lt_irrefl,h3,Ev.exec,qb,qe,qc,qaj,Ev.Opnd.ev,Ev.Env.get,Ev.Env.set,Ev.look,ql,zgi,↓qs,Ev.it1,↓reduceIte,Nat.reduceEqDiff,reduceCtorEq,zgv,zgw,zfa,zgy]
   exact ⟨_,rfl,rfl,rfl,rfl,rfl,rfl⟩
theorem qt0 (h1 : a.length ≤ 9223372036854775807) (h2 : b.length ≤ 9223372036854775807) : qaz (evL T) qef [(.fsl ((a).map qb8) c),(.fsl ((b).map qb8) d)] = some (ii (qly a b)):=by
 obtain ⟨⟨y,e,σ⟩,k1,k2⟩:=q5e a b c d h1 h2
 simp only at k2
 obtain ⟨z1,z2⟩:=qxd a b
 rw [qaz,qy qsh qr0]
 rcases k2 with ⟨k3,rfl,k4,rfl,k5,k6⟩ | ⟨k3,x,k7,rfl,k4,rfl,k5⟩
 ·have hc:=qnm a.length b.length
  rw [z1 k3]
  simp only [qhh,k1,k4,k5,k6,hc,qah,qn,Ev.exec,qb,qe,qc,qa0,qaj,Ev.evs,Ev.Opnd.ev,Ev.Env.get,Ev.Env.set,Ev.look,qo,qm,qab,qak,Ev.kill,qai,qq,Ev.keep,qae,qw,qd,qax,qu,qg,qf,qal,zgi,↓qs,↓qan,↓reduceIte,zga,zgb,zfe,Nat.reduceAdd,Nat.reduceEqDiff,reduceCtorEq,zfc,zgx,zfd,zgy]
 ·rw [z2 x k7]
  simp only [qhh,k1,k4,k5,qah,qn,Ev.exec,qb,qe,qc,qaj,Ev.Opnd.ev,Ev.Env.get,Ev.Env.set,Ev.look,qo,qm,qab,qak,Ev.kill,qai,qq,Ev.keep,qae,qw,qd,qax,qu,qal,↓qs,↓qan,↓reduceIte,zga,zgb,zfe,Nat.reduceAdd,Nat.reduceEqDiff,reduceCtorEq,zfc,zgx,zfd,zgy]
theorem qoe (h1 : a.length ≤ 9223372036854775807) (h2 : b.length ≤ 9223372036854775807) : qaz (evL T) qeg [(.fsl ((a).map qb8) c),(.fsl ((b).map qb8) d)] = some (bb (decide (a = b))):=by
 have hk:=qt0 a b c d h1 h2
 have hz:=qwu a b
 rw [qaz,qy qxe qu1]
 by_cases h : a = b
 ·have h3:=hz.2 h
  rw [h3] at hk
  simp only [h,zgv]
  simp only [h] at hk
  simp only [qkp,hk,qah,qn,Ev.exec,qb,qe,qc,qa0,qaj,Ev.evs,Ev.Opnd.ev,Ev.Env.get,Ev.Env.set,Ev.look,qo,qam,qm,qab,qak,Ev.kill,qai,qd,qax,qu,qg,qf,qal,↓qs,↓reduceIte,zga,zgb,zfe,Nat.reduceAdd,Nat.reduceEqDiff,reduceCtorEq,zgv,zfc,zgx,zfd,zgy]
 ·have h3 : ¬ qly a b = 0:=fun k => h (hz.1 k)
  simp only [h,zgw]
  simp only [qkp,hk,h3,qah,qn,Ev.exec,qb,qe,qc,qa0,qaj,Ev.evs,Ev.Opnd.ev,Ev.Env.get,Ev.Env.set,Ev.look,qo,qam,qm,qab,qak,Ev.kill,qai,qd,qax,qu,qg,qf,qal,↓qs,↓reduceIte,zga,zgb,zfe,Nat.reduceAdd,Nat.reduceEqDiff,reduceCtorEq,zgw,zfc,zgx,zfd,zgy]
end
structure Evt.Short (x : Evt) : Prop where
 key : x.key.length ≤ 9223372036854775807
theorem qxo (x y : Evt) (hx : x.key.length ≤ 9223372036854775807) (hy : y.key.length ≤ 9223372036854775807) : qaz (evL T) qf0 [(.agg [(ii x.time),(.fsl ((x.key).map qb8) false),(ii x.lp),(ii x.kind),(ii x.proc),(ii x.arg)]),(.agg [(ii y.time),(.fsl ((y.key).map qb8) false),(ii y.lp),(ii y.kind),(ii y.proc),(ii y.arg)])] = some (bb (decide (x = y))):=by
 obtain ⟨xt,xk,xl,xi,xp,xa⟩:=x
 obtain ⟨yt,yk,yl,yi,yp,ya⟩:=y
 have hk:=qoe xk yk false false hx hy
 simp only [Evt.mk.injEq]
 rw [qaz,qy quh qtl]
 by_cases h1 : xt = yt
 case neg => simp only [qd2,h1,false_and,zgw,qn,Ev.exec,qb,qe,qc,qaj,Ev.Opnd.ev,Ev.Env.get,Ev.Env.set,Ev.Env.unset,Ev.look,qo,qh,qad,Ev.AV.cells,qx,Ev.AV.plain,qam,qm,qab,qak,Ev.kill,qai,qd,qax,qal,↓qs,↓reduceIte,zga,zgb,zfe,zgg,zgh,Nat.reduceAdd,Nat.reduceEqDiff,reduceCtorEq,zgw,zfc,zfa,zgx,ne_eq,zfb,zff,zfd,zgy,false_and]
 by_cases h2 : xk = yk
 case neg =>
  simp only [h2,zgw] at hk
  simp only [qd2,h1,h2,hk,qah,false_and,and_false,zgw,qn,Ev.exec,qb,qe,qc,qa0,qaj,Ev.evs,Ev.Opnd.ev,Ev.Env.get,Ev.Env.set,Ev.Env.unset,Ev.look,qo,qh,qad,Ev.AV.cells,qx,Ev.AV.plain,qam,qm,qab,qak,Ev.kill,qai,qd,qax,qu,qg,qf,qal,↓qs,↓reduceIte,zga,zgb,zfe,zgf,zgg,zgh,Nat.reduceAdd,Nat.reduceEqDiff,reduceCtorEq,zgv,zgw,zfc,zfa,zgx,ne_eq,zfb,zff,zfd,zgy,false_and,and_false]
 simp only [h2,zgv] at hk
 by_cases h3 : xl = yl
 case neg => simp only [qd2,h1,h2,h3,hk,qah,false_and,and_false,zgw,qn,Ev.exec,qb,qe,qc,qa0,qaj,Ev.evs,Ev.Opnd.ev,Ev.Env.get,Ev.Env.set,Ev.Env.unset,Ev.look,qo,qh,qad,Ev.AV.cells,qx,Ev.AV.plain,qam,qm,qab,qak,Ev.kill,qai,qd,qax,qu,qg,qf,qal,↓qs,↓reduceIte,zga,zgb,zfe,zgf,zgg,zgh,Nat.reduceAdd,Nat.reduceEqDiff,reduceCtorEq,zgv,zgw,zfc,zfa,zgx,ne_eq,zfb,zff,zfd,zgy,false_and,and_false]
 by_cases h4 : xi = yi
 case neg => simp only [qd2,h1,h2,h3,h4,hk,qah,false_and,and_false,zgw,qn,Ev.exec,qb,qe,qc,qa0,qaj,Ev.evs,Ev.Opnd.ev,Ev.Env.get,Ev.Env.set,Ev.Env.unset,Ev.look,qo,qh,qad,Ev.AV.cells,qx,Ev.AV.plain,qam,qm,qab,qak,Ev.kill,qai,qd,qax,qu,qg,qf,qal,↓qs,↓reduceIte,zga,zgb,zfe,zgf,zgg,zgh,Nat.reduceAdd,Nat.reduceEqDiff,reduceCtorEq,zgv,zgw,zfc,zfa,zgx,ne_eq,zfb,zff,zfd,zgy,false_and,and_false]
 by_cases h5 : xp = yp
 case neg => simp only [qd2,h1,h2,h3,h4,h5,hk,qah,false_and,and_false,zgw,qn,Ev.exec,qb,qe,qc,qa0,qaj,Ev.evs,Ev.Opnd.ev,Ev.Env.get,Ev.Env.set,Ev.Env.unset,Ev.look,qo,qh,qad,Ev.AV.cells,qx,Ev.AV.plain,qam,qm,qab,qak,Ev.kill,qai,qd,qax,qu,qg,qf,qal,↓qs,↓reduceIte,zga,zgb,zfe,zgf,zgg,zgh,Nat.reduceAdd,Nat.reduceEqDiff,reduceCtorEq,zgv,zgw,zfc,zfa,zgx,ne_eq,zfb,zff,zfd,zgy,false_and,and_false]
 by_cases h6 : xa = ya
 case neg => simp only [qd2,h1,h2,h3,h4,h5,h6,hk,qah,and_false,zgw,qn,Ev.exec,qb,qe,qc,qa0,qaj,Ev.evs,Ev.Opnd.ev,Ev.Env.get,Ev.Env.set,Ev.look,qo,qh,qad,Ev.AV.cells,qx,Ev.AV.plain,qam,qm,qab,qak,Ev.kill,qai,qd,qax,qu,qg,qf,qal,↓qs,↓reduceIte,zga,zgb,zfe,zgf,zgg,zgh,Nat.reduceAdd,Nat.reduceEqDiff,reduceCtorEq,zgv,zgw,zfc,zfa,zgx,ne_eq,zfb,zff,zfd,zgy,and_false]
 simp only [qd2,h1,h2,h3,h4,h5,h6,hk,qah,zgx,zgv,qn,Ev.exec,qb,qe,qc,qa0,qaj,Ev.evs,Ev.Opnd.ev,Ev.Env.get,Ev.Env.set,Ev.look,qo,qh,qad,Ev.AV.cells,qx,Ev.AV.plain,qam,qm,qab,qak,Ev.kill,qai,qd,qax,qu,qg,qf,qal,↓qs,↓reduceIte,zga,zgb,zfe,zgf,zgg,zgh,Nat.reduceAdd,Nat.reduceEqDiff,reduceCtorEq,zgv,zfc,zfa,zgx,ne_eq,zfb,zff,zfd,zgy]
theorem qom {α : Type} [DecidableEq α] : ∀ {a b : List α},a.length = b.length → ((a.zip b).all (fun z => decide (z.1 = z.2)) = true ↔ a = b)
 | [],[],_ => by simp
 | x :: a,y :: b,h => by
  rw [List.zip_cons_cons,List.all_cons,Bool.and_eq_true,decide_eq_true_eq,qom (a:=a) (b:=b) (by simpa using h),List.cons.injEq]
 | [],_ :: _,h => by simp at h
 | _ :: _,[],h => by simp at h
section
variable (a b : List Evt) (c d : Bool)
theorem qod (h1 : a.length ≤ 9223372036854775807) (h2 : b.length ≤ 9223372036854775807) (ha : ∀ x ∈ a,x.key.length ≤ 9223372036854775807) (hb : ∀ x ∈ b,x.key.length ≤ 9223372036854775807) :
  qaz (evL T) qdo [(.fsl ((a).map Evt.r) c),(.fsl ((b).map Evt.r) d)] = some (bb (decide (a = b))):=by
 rw [qaz,qy qtj qsx]
 by_cases hab : a.length = b.length
 case neg =>
  have hab' : ¬ (a.length : Int) = (b.length : Int):=by omega
  have : ¬ a = b:=fun h => hab (by rw [h])
  simp only [qgm,hab',this,qn,Ev.exec,qb,qe,qc,qaj,Ev.Opnd.ev,Ev.Env.get,Ev.Env.set,Ev.look,qo,qbn,qm,qab,qak,Ev.kill,qai,qd,qax,qal,zgi,↓qs,↓reduceIte,zga,zgb,zfe,Nat.reduceAdd,Nat.reduceEqDiff,reduceCtorEq,zgv,zgw,zgx,ne_eq,zfb,zfd,zgy]
 have hab' : (a.length : Int) = (b.length : Int):=by omega
 have hzl : (a.zip b).length = a.length:=by rw [List.length_zip,← hab,Nat.min_self]
 have hL : ∃ y,itB (exec (evL T) itL none qgf) (qq [0,1,5] true 0) ⟨[(0,(.fsl ((a).map Evt.r) c)),(1,(.fsl ((b).map Evt.r) d)),(5,(ii 0))],[]⟩ [] = some y ∧ ((a.zip b).all (fun z => decide (z.1 = z.2)) = true ∧ (y.1 = .exit 0 ∧ y.2.1.marks = [] ∧ y.2.2 = []) ∨
   (a.zip b).all (fun z => decide (z.1 = z.2)) = false ∧ ∃ x,(a.zip b).find? (fun z => !decide (z.1 = z.2)) = some x ∧ (y.1 = .ret ∧ y.2.1.marks = [] ∧ y.2.2 = [] ∧ Ev.look y.2.1.vars 4 = some (bb false))):=by
  refine qh8 (a.zip b) (fun i => ⟨[(0,(.fsl ((a).map Evt.r) c)),(1,(.fsl ((b).map Evt.r) d)),(5,(ii i))],[]⟩) [] (fun z => decide (z.1 = z.2)) _ (fun _ y => _) ?_ ?_ ?_
  ·intro i x hi hx hp
   rw [hzl] at hi
   have hi' : (i : Int) < (a.length : Int):=by omega
   have hw : IntKind.i64.wrap ((i : Int) + 1) = ((i + 1 : Nat) : Int):=by rw [qas (by omega) (by omega)];simp
   obtain ⟨hxa,hxb⟩:=List.getElem?_zip_eq_some.1 hx
   have hv:=qxo x.1 x.2 (ha _ (List.mem_of_getElem? hxa)) (hb _ (List.mem_of_getElem? hxb))
   rw [hp] at hv
   simp only [qgf,zgs,zgr,zgq,zgt,hxa,hxb,hi',hw,hv,qv,qah,Evt.r,Ev.exec,qb,qe,qc,qa0,qaj,Ev.evs,Ev.Opnd.ev,Ev.Env.get,Ev.Env.set,Ev.look,qh,qad,qaf,ql,qq,Ev.keep,qae,qw,qd,qax,qbe,qu,qg,qf,zgi,↓qs,Ev.it1,↓reduceIte,zga,zgb,zgc,zfe,Nat.reduceAdd,Nat.reduceEqDiff,reduceCtorEq,zgv,zfc,Bool.not_true,zfa,zgx,zfd,Nat.le_refl,zgy]
  ·intro i x hi hx hp
   rw [hzl] at hi
   have hi' : (i : Int) < (a.length : Int):=by omega
   obtain ⟨hxa,hxb⟩:=List.getElem?_zip_eq_some.1 hx
   have hv:=qxo x.1 x.2 (ha _ (List.mem_of_getElem? hxa)) (hb _ (List.mem_of_getElem? hxb))
   rw [hp] at hv
   simp only [qgf,zgs,zgr,zgq,zgt,hxa,hxb,hi',hv,qah,Evt.r,Ev.exec,qb,qe,qc,qa0,qaj,Ev.evs,Ev.Opnd.ev,Ev.Env.get,Ev.Env.set,Ev.look,qh,qad,ql,qax,qbe,qu,qg,qf,zgi,↓qs,Ev.it1,↓reduceIte,zga,zgb,zgc,zfe,Nat.reduceAdd,Nat.reduceEqDiff,reduceCtorEq,zgv,zfc,Bool.not_false,zfd,Nat.le_refl,zgy]
   exact ⟨_,rfl,rfl,rfl,rfl,rfl⟩
  ·rw [hzl]
   simp only [qgf,Int.lt_irrefl,Ev.exec,qb,qe,qc,qaj,Ev.Opnd.ev,Ev.Env.get,Ev.Env.set,Ev.look,ql,zgi,↓qs,Ev.it1,↓reduceIte,Nat.reduceEqDiff,reduceCtorEq,zgw,zfa,zgy]
   exact ⟨_,rfl,rfl,rfl,rfl⟩
 obtain ⟨⟨y,e,σ⟩,k1,k2⟩:=hL
 simp only at k2
 rcases k2 with ⟨k3,rfl,k4,rfl⟩ | ⟨k3,x,_,rfl,k4,rfl,k5⟩
 ·have : a = b:=(qom hab).1 k3
  subst this
  simp only [qgm,k1,k4,qv,qn,Ev.exec,qb,qe,qc,qaj,Ev.Opnd.ev,Ev.Env.get,Ev.Env.set,Ev.look,qo,qbn,qm,qab,qak,Ev.kill,qai,qq,Ev.keep,qae,qw,qd,qax,qu,qal,zgi,↓qs,↓qan,↓reduceIte,zga,zgb,zfe,Nat.reduceAdd,Nat.reduceEqDiff,reduceCtorEq,zgv,zgw,zfc,zfa,zgx,ne_eq,not_true_eq_false,zfd,zgy]
 ·have : ¬ a = b:=fun h => by rw [(qom hab).2 h] at k3;cases k3
  simp only [this]
  simp only [qgm,hab',k1,k4,k5,qv,qn,Ev.exec,qb,qe,qc,qaj,Ev.Opnd.ev,Ev.Env.get,Ev.Env.set,Ev.look,qo,qbn,qm,qab,qak,Ev.kill,qai,qq,Ev.keep,qae,qw,qd,qax,qu,qal,zgi,↓qs,↓qan,↓reduceIte,zga,zgb,zfe,Nat.reduceAdd,Nat.reduceEqDiff,reduceCtorEq,zgw,zfc,zfa,zgx,ne_eq,not_true_eq_false,zfd,zgy]
end
set_option maxRecDepth 10000
theorem q56 (a : Int) : qaz (evL T) qga [(ii a)] = some (bb false):=by
 rw [qaz,qy qwz qve]
 simp only [qml,qn,Ev.exec,qb,qe,qc,qaj,Ev.Opnd.ev,Ev.Env.get,Ev.Env.set,Ev.look,qo,qbn,qm,qab,qak,Ev.kill,qai,qd,qax,qal,↓qs,↓reduceIte,zga,zgb,zfe,Nat.reduceEqDiff,reduceCtorEq,zgw,zgx,ne_eq,not_true_eq_false,zfd,zgy]
theorem qla (a b : Int) : qaz (evL T) qe9 [(ii a),(ii b)] = some (ii (qqh a b)):=by
 have h0:=q56
 rw [qaz,qy que qtk]
 by_cases h1 : a < b
 ·simp only [qg9,qqh,h0,h1,qn,Ev.exec,qb,qe,qc,qa0,qaj,Ev.evs,Ev.Opnd.ev,Ev.Env.get,Ev.Env.set,Ev.look,qo,ql,qm,qab,qak,Ev.kill,qai,qd,qax,qg,qf,qal,↓qs,↓reduceIte,zga,zgb,zfe,Nat.reduceAdd,Nat.reduceEqDiff,Int.reduceNeg,reduceCtorEq,zgv,zfc,zfa,zgx,zfd,zgy]
 by_cases h2 : a > b
 ·simp only [qg9,qqh,h0,h1,h2,qn,Ev.exec,qb,qe,qc,qa0,qaj,Ev.evs,Ev.Opnd.ev,Ev.Env.get,Ev.Env.set,Ev.look,qo,ql,qau,qm,qab,qak,Ev.kill,qai,qd,qax,qg,qf,qal,↓qs,↓reduceIte,zga,zgb,zfe,Nat.reduceAdd,Nat.reduceEqDiff,Int.reduceNeg,reduceCtorEq,zgv,zgw,zfc,zfa,zgx,zfd,zgy]
 ·simp only [qg9,qqh,h0,h1,h2,qn,Ev.exec,qb,qe,qc,qa0,qaj,Ev.evs,Ev.Opnd.ev,Ev.Env.get,Ev.Env.set,Ev.look,qo,ql,qau,qm,qab,qak,Ev.kill,qai,qd,qax,qg,qf,qal,↓qs,↓reduceIte,zga,zgb,zfe,Nat.reduceAdd,Nat.reduceEqDiff,Int.reduceNeg,reduceCtorEq,zgw,zfc,zfa,zgx,zfd,zgy]
theorem qabe (x z : Int) (c : Bool) : qaz (evL T) qkt [(.fsl (([x,z]).map qb8) c)] = some (ii (if x = 0 then z else x)):=by
 have hL : ∃ y,itB (exec (evL T) itL none qkr) (qq [3,6,7,8] true 0) ⟨[(3,(ii 0)),(6,(.fsl (([x,z]).map qb8) c)),(7,(ii 2)),(8,(ii 0))],[]⟩ [] = some y ∧ ([x,z].all (fun v => decide (v = 0)) = true ∧ (y.1 = .exit 0 ∧ y.2.1.marks = [] ∧ y.2.2 = [] ∧ Ev.look y.2.1.vars 3 = some (ii 0)) ∨
   [x,z].all (fun v => decide (v = 0)) = false ∧ ∃ v,[x,z].find? (fun v => !decide (v = 0)) = some v ∧ (y.1 = .ret ∧ y.2.1.marks = [] ∧ y.2.2 = [] ∧ Ev.look y.2.1.vars 2 = some (ii v))):=by
  refine qh8 [x,z] (fun i => ⟨[(3,(ii 0)),(6,(.fsl (([x,z]).map qb8) c)),(7,(ii 2)),(8,(ii i))],[]⟩) [] (fun v => decide (v = 0)) _ (fun v y => _) ?_ ?_ ?_
  ·intro i v hi hv hp
   have hi2 : (i : Int) < 2:=by simp at hi;omega
   have hw : IntKind.i64.wrap ((i : Int) + 1) = ((i + 1 : Nat) : Int):=by rw [qas (by omega) (by omega)];simp
   have hp':=of_decide_eq_true hp
   subst hp'
   have hl:=qah 0 [x,z]
   generalize [x,z] = l at hv hl ⊢
   simp only [qkr,zgs,zgr,zgq,zgt,hv,hl,hi2,hw,qb8,Ev.exec,qb,qe,qc,qaj,Ev.Opnd.ev,Ev.Env.get,Ev.Env.set,Ev.look,qh,qad,qaf,qbn,ql,qq,Ev.keep,qae,qw,qd,qax,qu,↓qs,Ev.it1,↓reduceIte,zga,zgb,zfe,zgh,Nat.reduceEqDiff,zgv,zgw,zfc,zfa,zgx,ne_eq,not_true_eq_false,zfd,zgy]
  ·intro i v hi hv hp
   have hi2 : (i : Int) < 2:=by simp at hi;omega
   have hp' : ¬ v = 0:=of_decide_eq_false hp
   have hl:=qah 0 [x,z]
   generalize [x,z] = l at hv hl ⊢
   simp only [qkr,zgs,zgr,zgq,zgt,hv,hi2,hp',qb8,Ev.exec,qb,qe,qc,qaj,Ev.Opnd.ev,Ev.Env.get,Ev.Env.set,Ev.look,qh,qad,qbn,ql,↓qs,Ev.it1,↓reduceIte,zga,zgb,zgh,Nat.reduceEqDiff,zgv,zfa,ne_eq,zfb,zfd,zgy]
   exact ⟨_,rfl,rfl,rfl,rfl,rfl⟩
  ·have hl:=qah 0 [x,z]
   rw [show ([x,z] : List Int).length = 2 from rfl]
   simp only [qkr,Int.lt_irrefl,Int.cast_ofNat_Int,Ev.exec,qb,qe,qc,qaj,Ev.Opnd.ev,Ev.Env.get,Ev.Env.set,Ev.look,ql,↓qs,Ev.it1,↓reduceIte,Nat.reduceEqDiff,Int.cast_ofNat_Int,zgw,zfa,zgy]
   exact ⟨_,rfl,rfl,rfl,rfl,rfl⟩
 obtain ⟨⟨y,e,σ⟩,k1,k2⟩:=hL
 simp only at k2
 have hl:=qah 0 [x,z]
 have hn : ([x,z].map qb8).length = 2:=rfl
 rw [qaz,qy q3k q0a]
 rcases k2 with ⟨k3,rfl,k4,rfl,k5⟩ | ⟨k3,v,k6,rfl,k4,rfl,k5⟩
 ·have h1 : x = 0 ∧ z = 0:=by simpa using k3
  have h2 : (if x = 0 then z else x) = 0:=by rw [if_pos h1.1,h1.2]
  rw [h2]
  generalize [x,z].map qb8 = l at k1 hl hn ⊢
  simp only [qna,hn,Int.cast_ofNat_Int,k1,k4,k5,hl,qn,Ev.exec,qb,qe,qc,qaj,Ev.Opnd.ev,Ev.Env.get,Ev.Env.set,Ev.look,qo,qm,qab,qak,Ev.kill,qai,qq,Ev.keep,qae,qw,qd,qax,qu,qal,↓qs,↓qan,↓reduceIte,zga,zgb,zfe,Nat.reduceEqDiff,Int.cast_ofNat_Int,reduceCtorEq,zfc,zgx,zfd,zgy]
 ·have h1 : (if x = 0 then z else x) = v:=by
   rw [List.find?_cons] at k6
   by_cases hx : x = 0
   ·rw [if_pos hx];simp [hx] at k6;exact k6.2
   ·rw [if_neg hx];simp [hx] at k6;exact k6
  rw [h1]
  generalize [x,z].map qb8 = l at k1 hl hn ⊢
  simp only [qna,hn,Int.cast_ofNat_Int,k1,k4,k5,hl,qn,Ev.exec,qb,qe,qc,qaj,Ev.Opnd.ev,Ev.Env.get,Ev.Env.set,Ev.look,qo,qm,qab,qak,Ev.kill,qai,qq,Ev.keep,qae,qw,qd,qax,qu,qal,↓qs,↓qan,↓reduceIte,zga,zgb,zfe,Nat.reduceEqDiff,Int.cast_ofNat_Int,reduceCtorEq,zfc,zgx,zfd,zgy]
theorem qqa (x z : Int) (c : Bool) : qaz (evL T) qjn [(.fsl (([x,z]).map qb8) c)] = some (ii (if x = 0 then z else x)):=by
 have h:=qabe x z c
 have hl:=qah 0 [x,z]
 generalize [x,z].map qb8 = l at h hl ⊢
 rw [qaz,qy q0w qx0]
 simp only [qn6,h,hl,qn,Ev.exec,qb,qe,qc,qa0,qaj,Ev.evs,Ev.Opnd.ev,Ev.Env.get,Ev.Env.set,Ev.look,qo,qm,qab,qak,Ev.kill,qai,qd,qax,qu,qg,qf,qal,↓qs,↓reduceIte,zga,zgb,zfe,reduceCtorEq,zfc,zgx,zfd,zgy]
section
variable (a b : List Int) (c d : Bool)
theorem qyg (h1 : a.length ≤ 9223372036854775807) (h2 : b.length ≤ 9223372036854775807) :
  ∃ y,itB (exec (evL T) itL none qdh) (qq [0,1,9,10,11] true 0) ⟨[(0,(.fsl ((a).map qb8) c)),(1,(.fsl ((b).map qb8) d)),(9,(.fsl ((a).map qb8) c)),(10,(ii a.length)),(11,(ii 0))],[]⟩ [] = some y ∧
   ((a.zip b).all (fun z => decide (z.1 = z.2)) = true ∧ (a.length ≤ b.length ∧ y.1 = .exit 0 ∧ y.2.1.marks = [] ∧ y.2.2 = [] ∧ Ev.look y.2.1.vars 0 = some (.fsl ((a).map qb8) c) ∧ Ev.look y.2.1.vars 1 = some (.fsl ((b).map qb8) d) ∨ b.length < a.length ∧ y.1 = .ret ∧ y.2.1.marks = [] ∧ y.2.2 = [] ∧ Ev.look y.2.1.vars 4 = some (ii 1)) ∨
   (a.zip b).all (fun z => decide (z.1 = z.2)) = false ∧ ∃ x,(a.zip b).find? (fun z => !decide (z.1 = z.2)) = some x ∧ (y.1 = .ret ∧ y.2.1.marks = [] ∧ y.2.2 = [] ∧ Ev.look y.2.1.vars 4 = some (ii (qqh x.1 x.2)))):=by
 have hzl : (a.zip b).length = min a.length b.length:=List.length_zip
 refine qh8 (a.zip b) (fun i => ⟨[(0,(.fsl ((a).map qb8) c)),(1,(.fsl ((b).map qb8) d)),(9,(.fsl ((a).map qb8) c)),(10,(ii a.length)),(11,(ii i))],[]⟩) [] (fun z => decide (z.1 = z.2)) _ (fun x y => _) ?_ ?_ ?_
 ·intro i x hi hx hp
  rw [hzl] at hi
  have hi' : (i : Int) < (a.length : Int):=by omega
  have hi2 : ¬ (i : Int) ≥ (b.length : Int):=by omega
  have hw : IntKind.i64.wrap ((i : Int) + 1) = ((i + 1 : Nat) : Int):=by rw [qas (by omega) (by omega)];simp
  obtain ⟨hxa,hxb⟩:=List.getElem?_zip_eq_some.1 hx
  have hp':=of_decide_eq_true hp
  have hc:=qla x.1 x.2
  rw [(q1e x.1 x.2).2 hp'] at hc
  simp only [qdh,zgs,zgr,zgq,zgt,hxa,hxb,hi',hi2,hw,hc,qah,qb8,Ev.exec,qb,qe,qc,qa0,qaj,Ev.evs,Ev.Opnd.ev,Ev.Env.get,Ev.Env.set,Ev.look,qh,qad,qaf,qbn,ql,qcd,qq,Ev.keep,qae,qw,qd,qax,qu,qg,qf,zgi,↓qs,Ev.it1,↓reduceIte,zga,zgb,zfe,zgh,Nat.reduceEqDiff,reduceCtorEq,zgv,zgw,zfc,zfa,zgx,ne_eq,not_true_eq_false,zfd,zgy]
 ·intro i x hi hx hp
  rw [hzl] at hi
  have hi' : (i : Int) < (a.length : Int):=by omega
  have hi2 : ¬ (i : Int) ≥ (b.length : Int):=by omega
  obtain ⟨hxa,hxb⟩:=List.getElem?_zip_eq_some.1 hx
  have hp' : ¬ x.1 = x.2:=of_decide_eq_false hp
  have hc:=qla x.1 x.2
  have hz : ¬ qqh x.1 x.2 = 0:=fun h => hp' ((q1e _ _).1 h)
  simp only [qdh,zgs,zgr,zgq,zgt,hxa,hxb,hi',hi2,hz,hc,qb8,Ev.exec,qb,qe,qc,qa0,qaj,Ev.evs,Ev.Opnd.ev,Ev.Env.get,Ev.Env.set,Ev.look,qh,qad,qbn,ql,qcd,qax,qg,qf,zgi,↓qs,Ev.it1,↓reduceIte,zga,zgb,zgh,Nat.reduceEqDiff,reduceCtorEq,zgv,zgw,zfc,zfa,ne_eq,zfb,zfd,zgy]
  exact ⟨_,rfl,rfl,rfl,rfl,rfl⟩
 ·rw [hzl]
  by_cases hab : a.length ≤ b.length
  ·rw [Nat.min_eq_left hab]
   simp only [qdh,Int.lt_irrefl,Ev.exec,qb,qe,qc,qaj,Ev.Opnd.ev,Ev.Env.get,Ev.Env.set,Ev.look,ql,↓qs,Ev.it1,↓reduceIte,Nat.reduceEqDiff,reduceCtorEq,zgw,zfa,zgy]
   exact ⟨_,rfl,.inl ⟨hab,rfl,rfl,rfl,rfl,rfl⟩⟩
  ·rw [Nat.min_eq_right (by omega)]
   have h3 : (b.length : Int) < (a.length : Int):=by omega
   obtain ⟨x,hx⟩ : ∃ x,a[b.length]? = some x:=⟨_,List.getElem?_eq_getElem (by omega)⟩
   have h4 : (b.length : Int) ≥ (b.length : Int):=Int.le_refl _
   simp only [qdh,zgs,zgr,zgq,zgt,h3,h4,hx,qb8,Ev.exec,qb,qe,qc,qaj,Ev.Opnd.ev,Ev.Env.get,Ev.Env.set,Ev.look,qh,qad,ql,qcd,zgi,↓qs,Ev.it1,↓reduceIte,zga,zgb,zgh,Nat.reduceEqDiff,reduceCtorEq,zgv,zfa,zfd,zgy]
   exact ⟨_,rfl,.inr ⟨by omega,rfl,rfl,rfl,rfl⟩⟩
theorem qv8 (h1 : a.length ≤ 9223372036854775807) (h2 : b.length ≤ 9223372036854775807) : qaz (evL T) qdd [(.fsl ((a).map qb8) c),(.fsl ((b).map qb8) d)] = some (ii (qly a b)):=by
 obtain ⟨⟨y,e,σ⟩,k1,k2⟩:=qyg a b c d h1 h2
 simp only at k2
 obtain ⟨z1,z2⟩:=qxd a b
 rw [qaz,qy qos qob]
 rcases k2 with ⟨k3,⟨k7,rfl,k4,rfl,k5,k6⟩ | ⟨k7,rfl,k4,rfl,k5⟩⟩ | ⟨k3,x,k7,rfl,k4,rfl,k5⟩
 ·rw [z1 k3]
  by_cases hl : (a.length : Int) < (b.length : Int)
  ·simp only [qde,k1,k4,k5,k6,hl,qqh,qah,qn,Ev.exec,qb,qe,qc,qaj,Ev.Opnd.ev,Ev.Env.get,Ev.Env.set,Ev.look,qo,ql,qm,qab,qak,Ev.kill,qai,qq,Ev.keep,qae,qw,qd,qax,qu,qal,zgi,↓qs,↓qan,↓reduceIte,zga,zgb,zfe,Nat.reduceAdd,Nat.reduceEqDiff,Int.reduceNeg,reduceCtorEq,zgv,zfc,zgx,zfd,zgy]
  ·have hg : ¬ (a.length : Int) > (b.length : Int):=by omega
   simp only [qde,k1,k4,k5,k6,hl,hg,qqh,qah,qn,Ev.exec,qb,qe,qc,qaj,Ev.Opnd.ev,Ev.Env.get,Ev.Env.set,Ev.look,qo,ql,qm,qab,qak,Ev.kill,qai,qq,Ev.keep,qae,qw,qd,qax,qu,qal,zgi,↓qs,↓qan,↓reduceIte,zga,zgb,zfe,Nat.reduceAdd,Nat.reduceEqDiff,Int.reduceNeg,reduceCtorEq,zgw,zfc,zfa,zgx,zfd,zgy]
 ·have hl : ¬ (a.length : Int) < (b.length : Int):=by omega
  have hg : (a.length : Int) > (b.length : Int):=by omega
  rw [z1 k3]
  simp only [qde,k1,k4,k5,hl,hg,qqh,qah,qn,Ev.exec,qb,qe,qc,qaj,Ev.Opnd.ev,Ev.Env.get,Ev.Env.set,Ev.look,qo,qm,qab,qak,Ev.kill,qai,qq,Ev.keep,qae,qw,qd,qax,qu,qal,zgi,↓qs,↓qan,↓reduceIte,zga,zgb,zfe,Nat.reduceAdd,Nat.reduceEqDiff,Int.reduceNeg,reduceCtorEq,zfc,zgx,zfd,zgy]
 ·rw [z2 x k7]
  simp only [qde,k1,k4,k5,qah,qn,Ev.exec,qb,qe,qc,qaj,Ev.Opnd.ev,Ev.Env.get,Ev.Env.set,Ev.look,qo,qm,qab,qak,Ev.kill,qai,qq,Ev.keep,qae,qw,qd,qax,qu,qal,zgi,↓qs,↓qan,↓reduceIte,zga,zgb,zfe,Nat.reduceAdd,Nat.reduceEqDiff,Int.reduceNeg,reduceCtorEq,zfc,zgx,zfd,zgy]
theorem qk6 (h1 : a.length ≤ 9223372036854775807) (h2 : b.length ≤ 9223372036854775807) : qaz (evL T) qe4 [(.fsl ((a).map qb8) c),(.fsl ((b).map qb8) d)] = some (ii (qly a b)):=by
 have h:=qv8 a b c d h1 h2
 rw [qaz,qy qr2 qrv]
 simp only [qjp,h,qah,qn,Ev.exec,qb,qe,qc,qa0,qaj,Ev.evs,Ev.Opnd.ev,Ev.Env.get,Ev.Env.set,Ev.look,qo,qm,qab,qak,Ev.kill,qai,qd,qax,qu,qg,qf,qal,↓qs,↓reduceIte,zga,zgb,zfe,Nat.reduceAdd,Nat.reduceEqDiff,reduceCtorEq,zfc,zgx,zfd,zgy]
end
def qqr (x y : Evt) : Int:=if qqh x.time y.time = 0 then qly x.key y.key else qqh x.time y.time
theorem qkv (x y : Evt) (hx : x.key.length ≤ 9223372036854775807) (hy : y.key.length ≤ 9223372036854775807) (rs : Nat) (es : List (List AV)) (g : Nat) :
  (evL T).call qr [(.agg [(ii x.time),(.fsl ((x.key).map qb8) false),(ii x.lp),(ii x.kind),(ii x.proc),(ii x.arg)]),(.agg [(ii y.time),(.fsl ((y.key).map qb8) false),(ii y.lp),(ii y.kind),(ii y.proc),(ii y.arg)])] [.row rs es g] = some ((ii (qqr x y)),[.row rs es g]):=by
 obtain ⟨xt,xk,xl,xi,xp,xa⟩:=x
 obtain ⟨yt,yk,yl,yi,yp,ya⟩:=y
 have hc:=qla xt yt
 have hk:=qk6 xk yk false false hx hy
 have hf:=qqa (qqh xt yt) (qly xk yk) true
 simp only [List.map_cons,List.map_nil,qb8] at hf
 rw [qy qi3 qio]
 simp only [qe6,show ∀ v : List AV,List.replicate 2 v = [v,v] from fun _ => rfl,hc,hk,hf,qqr,ite_self,qah,qn,Ev.exec,qb,qe,qc,qa0,qaj,Ev.evs,Ev.Opnd.ev,Ev.Env.get,Ev.Env.set,Ev.look,qo,qh,qad,qfl,Ev.AV.cells,Ev.AV.uc,qx,Ev.AV.plain,qm,qab,qak,Ev.kill,qai,qd,Ev.SObj.lo,qax,qu,qg,qf,qaa,qag,↓qs,↓reduceIte,zga,zgb,zgc,zfe,zgf,zgg,zgj,zgk,zgh,Nat.reduceAdd,Nat.reduceEqDiff,Nat.reduceMul,Nat.reduceLT,Nat.reduceLeDiff,Nat.reducePow,reduceCtorEq,zfc,Bool.and_true,zfa,zgx,true_and,ne_eq,zfb,zff,zfd,zgu,zgy]
theorem qrx (x y : Evt) (hx : x.key.length ≤ 9223372036854775807) (hy : y.key.length ≤ 9223372036854775807) :
  qaz (evL T) qr [(.agg [(ii x.time),(.fsl ((x.key).map qb8) false),(ii x.lp),(ii x.kind),(ii x.proc),(ii x.arg)]),(.agg [(ii y.time),(.fsl ((y.key).map qb8) false),(ii y.lp),(ii y.kind),(ii y.proc),(ii y.arg)])] = some (ii (qqr x y)):=by
 obtain ⟨xt,xk,xl,xi,xp,xa⟩:=x
 obtain ⟨yt,yk,yl,yi,yp,ya⟩:=y
 have hc:=qla xt yt
 have hk:=qk6 xk yk false false hx hy
 have hf:=qqa (qqh xt yt) (qly xk yk) true
 simp only [List.map_cons,List.map_nil,qb8] at hf
 rw [qaz,qy qi3 qio]
 simp only [qe6,show ∀ v : List AV,List.replicate 2 v = [v,v] from fun _ => rfl,hc,hk,hf,qqr,qah,qn,Ev.exec,qb,qe,qc,qa0,qaj,Ev.evs,Ev.Opnd.ev,Ev.Env.get,Ev.Env.set,Ev.look,qo,qh,qad,qfl,Ev.AV.cells,Ev.AV.uc,qx,Ev.AV.plain,qm,qab,qak,Ev.kill,qai,qd,qax,qu,qg,qf,qaa,qag,qal,↓qs,↓reduceIte,zga,zgb,zfe,zgf,zgg,zgj,zgk,zgh,Nat.reduceAdd,Nat.reduceEqDiff,Nat.reduceMul,Nat.reduceLT,Nat.reduceLeDiff,Nat.reducePow,reduceCtorEq,zfc,zfa,zgx,ne_eq,zfb,zff,zfd,zgu,zgy]
end Go.Proofs.YtbhhifdhlafklaaGreat.K
namespace Go.Ev
section
variable {α : Type}
theorem qpw {D L M : List α} {x : α} {n : Nat} (h : D = L ++ x :: M) (hn : n = L.length) : D[n]? = some x:=by
 subst h hn;simp
theorem qxu {D L X M : List α} {i n : Nat} (h : D = L ++ (X ++ M)) (hi : i < X.length) (hn : n = L.length + i) : D[n]? = X[i]?:=by
 subst h hn
 rw [List.getElem?_append_right (by omega),List.getElem?_append_left (by omega)]
 congr 1;omega
theorem q6d {D L M : List α} {x y : α} {n m : Nat} (h : D = L ++ y :: x :: M) (hn : n = L.length) (hm : m = n + 1) : (D.set m y).set n x = L ++ x :: y :: M:=by
 subst h hm hn;simp []
theorem q9m {D L M : List α} {x y : α} {n m : Nat} (h : D = L ++ y :: x :: M) (hn : n = L.length) (hm : m = n + 1) : (D.set n x).set m y = L ++ x :: y :: M:=by
 subst h hm hn;simp []
theorem swap_far {D L M N : List α} {x y : α} {n m : Nat} (h : D = L ++ x :: (M ++ y :: N)) (hn : n = L.length) (hm : m = n + 1 + M.length) : (D.set n y).set m x = L ++ y :: (M ++ x :: N):=by
 subst h hm hn
 rw [List.set_append,if_neg (Nat.lt_irrefl _),Nat.sub_self,List.set_cons_zero,List.set_append,if_neg (by omega),show L.length + 1 + M.length - L.length = M.length + 1 by omega,List.set_cons_succ,List.set_append,if_neg (Nat.lt_irrefl _),Nat.sub_self,List.set_cons_zero]
variable {R : α → α → Prop}
theorem cross (tr : ∀ a b c,R a b → R b c → R a c) {X Y : List α} (hX : X.Pairwise R) (hY : Y.Pairwise R) (h : ∀ u v,X[X.length - 1]? = some u → Y[0]? = some v → R u v) : ∀ a ∈ X,∀ b ∈ Y,R a b:=by
 intro a ha b hb
 obtain ⟨i,hi⟩:=List.mem_iff_getElem?.1 ha
 obtain ⟨j,hj⟩:=List.mem_iff_getElem?.1 hb
 obtain ⟨hi',hi⟩:=List.getElem?_eq_some_iff.1 hi
 obtain ⟨hj',hj⟩:=List.getElem?_eq_some_iff.1 hj
 rw [List.pairwise_iff_getElem] at hX hY
 have h0:=h _ _ (List.getElem?_eq_getElem (by omega)) (List.getElem?_eq_getElem (by omega))
 have h1 : R a Y[0]:=by
  by_cases c : i = X.length - 1
  ·subst c;rw [← hi];exact h0
  ·exact tr _ _ _ (by rw [← hi];exact hX i (X.length - 1) hi' (by omega) (by omega)) h0
 by_cases c : j = 0
 ·subst c;rw [← hj];exact h1
 ·exact tr _ _ _ h1 (by rw [← hj];exact hY 0 j (by omega) hj' (by omega))
theorem q7d (tr : ∀ a b c,R a b → R b c → R a c) {X1 X2 Y1 Y2 Z1 Z2 : List α} (hX : (X1 ++ X2).Pairwise R) (hY : (Y1 ++ Y2).Pairwise R)
  (h1 : ∀ u v,X1[X1.length - 1]? = some u → Y2[0]? = some v → R u v) (h2 : ∀ u v,Y1[Y1.length - 1]? = some u → X2[0]? = some v → R u v)
  (p1 : Z1.Perm (X1 ++ Y1)) (p2 : Z2.Perm (X2 ++ Y2)) (s1 : Z1.Pairwise R) (s2 : Z2.Pairwise R) : (Z1 ++ Z2).Perm (X1 ++ X2 ++ (Y1 ++ Y2)) ∧ (Z1 ++ Z2).Pairwise R:=by
 obtain ⟨x1,x2,x3⟩:=List.pairwise_append.1 hX
 obtain ⟨y1,y2,y3⟩:=List.pairwise_append.1 hY
 have c1:=cross tr x1 y2 h1
 have c2:=cross tr y1 x2 h2
 refine ⟨(p1.append p2).trans ?_,List.pairwise_append.2 ⟨s1,s2,?_⟩⟩
 ·rw [List.append_assoc,List.append_assoc]
  refine List.Perm.append_left X1 ?_
  rw [← List.append_assoc,← List.append_assoc]
  exact List.Perm.append_right Y2 List.perm_append_comm
 ·intro a ha b hb
  rw [p1.mem_iff,List.mem_append] at ha
  rw [p2.mem_iff,List.mem_append] at hb
  rcases ha with ha | ha <;> rcases hb with hb | hb
  ·exact x3 a ha b hb
  ·exact c1 a ha b hb
  ·exact c2 a ha b hb
  ·exact y3 a ha b hb
theorem qnd (tr : ∀ a b c,R a b → R b c → R a c) {A B : List α} {x : α} (h : (A ++ B).Pairwise R) (h1 : ∀ u,A[A.length - 1]? = some u → R u x) (h2 : ∀ v,B[0]? = some v → R x v) : (A ++ x :: B).Pairwise R:=by
 obtain ⟨a1,a2,a3⟩:=List.pairwise_append.1 h
 have c1:=cross tr a1 (List.pairwise_singleton R x) (fun u v hu hv => by simp at hv;subst hv;exact h1 u hu)
 have c2:=cross tr (List.pairwise_singleton R x) a2 (fun u v hu hv => by simp at hu;subst hu;exact h2 v hv)
 refine List.pairwise_append.2 ⟨a1,List.pairwise_cons.2 ⟨fun b hb => c2 x (by simp) b hb,a2⟩,fun a ha b hb => ?_⟩
 rcases List.mem_cons.1 hb with rfl | hb
 ·exact c1 a ha _ (by simp)
 ·exact a3 a ha b hb
inductive Blk (R : α → α → Prop) (s : Nat) : List α → Prop
 | last {l : List α} : l.length ≤ s → l.Pairwise R → Blk R s l
 | more {X Y : List α} : X.length = s → X.Pairwise R → Blk R s Y → Blk R s (X ++ Y)
theorem Blk.sorted {s : Nat} {l : List α} (h : Blk R s l) (hs : l.length ≤ s) : l.Pairwise R:=by
 cases h with
 | last _ h => exact h
 | @more X Y h1 h2 h3 =>
  rw [List.length_append] at hs
  obtain rfl:=List.eq_nil_of_length_eq_zero (l:=Y) (by omega)
  simpa using h2
theorem Blk.split {s : Nat} {l : List α} (h : Blk R s l) (hs : s < l.length) : ∃ X Y,l = X ++ Y ∧ X.length = s ∧ X.Pairwise R ∧ Blk R s Y:=by
 cases h with
 | last h1 _ => omega
 | @more X Y h1 h2 h3 => exact ⟨X,Y,rfl,h1,h2,h3⟩
theorem Blk.nil {s : Nat} : Blk R s ([] : List α):=.last (Nat.zero_le _) .nil
theorem qhe {f : Env → qac → R3} {s : Env → qac → Option (Env × qac)} {τ : Type} (E : τ → Env) (S : τ → qac) (m : τ → Nat) (Inv : τ → Prop) (Q : CExit × Env × qac → Prop)
  (step : ∀ a,Inv a → (∃ a',it1 f s (E a) (S a) = some (.inl (E a',S a')) ∧ Inv a' ∧ m a' < m a) ∨ ∃ y,it1 f s (E a) (S a) = some (.inr y) ∧ Q y) :
  ∀ a,Inv a → ∃ y,itB f s (E a) (S a) = some y ∧ Q y:=by
 have : ∀ k a,m a ≤ k → Inv a → ∃ y,itB f s (E a) (S a) = some y ∧ Q y:=by
  intro k
  induction k with
  | zero =>
   intro a hk ha
   rcases step a ha with ⟨a',h1,h2,h3⟩ | ⟨y,h1,h2⟩
   ·omega
   ·exact ⟨y,qm5 h1,h2⟩
  | succ k ih =>
   intro a hk ha
   rcases step a ha with ⟨a',h1,h2,h3⟩ | ⟨y,h1,h2⟩
   ·obtain ⟨y,h4,h5⟩:=ih a' (by omega) h2
    exact ⟨y,qy0 h1 h4,h5⟩
   ·exact ⟨y,qm5 h1,h2⟩
 exact fun a => this (m a) a (Nat.le_refl _)
end
end Go.Ev
namespace Go.Proofs.YtbhhifdhlafklaaGreat.K
open Go.Ev
set_option maxRecDepth 10000
theorem qmh {a b : Nat} (h : a + b < 2 ^ 62) : IntKind.i64.wrap ((a : Int) + (b : Int)) = ((a + b : Nat) : Int):=by rw [qas (by omega) (by omega)];simp
theorem qme {a : Nat} (h : a < 2 ^ 62) : IntKind.i64.wrap ((a : Int) + 1) = ((a + 1 : Nat) : Int):=by rw [qas (by omega) (by omega)];simp
theorem qfr {a b c : Nat} (h : a = b + c) (h2 : a < 2 ^ 62) : IntKind.i64.wrap ((a : Int) - (b : Int)) = (c : Int):=by rw [qas (by omega) (by omega)];omega
theorem qs9 {a c : Nat} (h : a = c + 1) (h2 : a < 2 ^ 62) : IntKind.i64.wrap ((a : Int) - 1) = (c : Int):=by rw [qas (by omega) (by omega)];omega
section
variable (g : Nat) (cl : Bool) (n : Nat)
theorem qso (L X M Y N : List Evt) (hXY : Y.length = X.length) (hn : n = (L ++ (X ++ (M ++ (Y ++ N)))).length) (hb : n < 2 ^ 61) (a b : Nat) (ha : a = L.length) (hbb : b = L.length + X.length + M.length) :
  (evL T).call qa5 [.sl 0 g 0 n cl,(ii a),(ii b),(ii X.length),(.fn (.func qr) [] [])] [.row 6 ((L ++ (X ++ (M ++ (Y ++ N)))).map Evt.r) g] = some (.tup [],[.row 6 ((L ++ (Y ++ (M ++ (X ++ N)))).map Evt.r) g]):=by
 have hlen : n = L.length + (X.length + (M.length + (Y.length + N.length))):=by rw [hn];simp
 have key:=qen (f:=exec (evL T) itL none qc3) (s:=qq [0,1,2,3,10] true 1) (α:=List Evt)
  (fun i D => ⟨[(0,.sl 0 g 0 n cl),(1,(ii a)),(2,(ii b)),(3,(ii X.length)),(10,(ii i))],[]⟩) (fun i D => [.row 6 ((D).map Evt.r) g])
  (fun i D => D = L ++ ((Y.take i ++ X.drop i) ++ (M ++ ((X.take i ++ Y.drop i) ++ N)))) X.length
  (fun y => y.1 = .exit 0 ∧ y.2.1.marks = [] ∧ y.2.2 = [.row 6 ((L ++ (Y ++ (M ++ (X ++ N)))).map Evt.r) g]) ?_ ?_ 0 _ (Nat.zero_le _) rfl
 ·obtain ⟨⟨y,e,σ⟩,k1,k2,k3,k4⟩:=key
  simp only [zgo,zgg,zgl,Int.cast_ofNat_Int] at k1 k2 k3 k4
  subst k2;subst k4
  rw [qy qkh qj7]
  simp only [qdg,k1,k3,qv,qn,Ev.exec,qb,qe,qc,qaj,Ev.Opnd.ev,Ev.Env.get,Ev.Env.set,Ev.look,qo,qm,qak,Ev.kill,qai,qq,Ev.keep,qae,qw,qd,Ev.SObj.lo,qax,qa3,qbj,qg,↓qs,↓qan,↓reduceIte,zga,zgb,zgc,zfe,Nat.reduceAdd,Nat.reduceEqDiff,reduceCtorEq,zgv,zfc,zgx,zfd,zgu,zgy]
 ·rintro i D hi hD
  obtain ⟨x,hx⟩ : ∃ x,X[i]? = some x:=⟨_,List.getElem?_eq_getElem hi⟩
  obtain ⟨y,hy⟩ : ∃ y,Y[i]? = some y:=⟨_,List.getElem?_eq_getElem (by omega)⟩
  have dx : X.drop i = x :: X.drop (i + 1):=by obtain ⟨_,rfl⟩:=List.getElem?_eq_some_iff.1 hx;exact List.drop_eq_getElem_cons hi
  have dy : Y.drop i = y :: Y.drop (i + 1):=by obtain ⟨_,rfl⟩:=List.getElem?_eq_some_iff.1 hy;exact List.drop_eq_getElem_cons (by omega)
  have e1 : D = (L ++ Y.take i) ++ x :: ((X.drop (i + 1) ++ (M ++ X.take i)) ++ y :: (Y.drop (i + 1) ++ N)):=by rw [hD,dx,dy];simp
  have l1 : a + i = (L ++ Y.take i).length:=by simp;omega
  have l2 : b + i = a + i + 1 + (X.drop (i + 1) ++ (M ++ X.take i)).length:=by simp;omega
  have gx : D[a + i]? = some x:=qpw e1 l1
  have gy : D[b + i]? = some y:=by
   refine qpw (L:=(L ++ Y.take i) ++ x :: (X.drop (i + 1) ++ (M ++ X.take i))) (M:=Y.drop (i + 1) ++ N) (by rw [e1];simp) ?_
   rw [l2,l1];simp;omega
  have ge : D.length = n:=by rw [e1,hlen];simp;omega
  have sw:=swap_far e1 l1 l2
  have hne : ¬ (a + i = b + i):=by omega
  have hi' : (i : Int) < (X.length : Int):=by omega
  have wa : IntKind.i64.wrap ((a : Int) + (i : Int)) = ((a + i : Nat) : Int):=qmh (by omega)
  have wb : IntKind.i64.wrap ((b : Int) + (i : Int)) = ((b + i : Nat) : Int):=qmh (by omega)
  have wi : IntKind.i64.wrap ((i : Int) + 1) = ((i + 1 : Nat) : Int):=qme (by omega)
  have ra : a + i < n:=by omega
  have rb : b + i < n:=by omega
  obtain ⟨xt,xk,xl,xi,xp,xa⟩:=x
  obtain ⟨yt,yk,yl,yi,yp,ya⟩:=y
  have hs : ∀ v,((D.map Evt.r).set (a + i) v)[b + i]? = some (Evt.r ⟨yt,yk,yl,yi,yp,ya⟩):=fun v => by rw [List.getElem?_set_ne hne,List.getElem?_map,gy];rfl
  have hlo:=qv 1 ((D.set (a + i) ⟨yt,yk,yl,yi,yp,ya⟩).set (b + i) ⟨xt,xk,xl,xi,xp,xa⟩)
  simp only [List.map_set,Evt.r] at hlo
  refine .inl ⟨(D.set (a + i) ⟨yt,yk,yl,yi,yp,ya⟩).set (b + i) ⟨xt,xk,xl,xi,xp,xa⟩,?_,?_⟩
  ·simp only [qc3,zgs,zgr,zgq,zgt,gx,gy,hs,hi',wa,wb,wi,ra,rb,hlo,List.map_set,Evt.r,Ev.exec,qb,qe,qc,qaj,Ev.Opnd.ev,Ev.Env.get,Ev.Env.set,Ev.look,qh,qad,Ev.AV.cells,qx,Ev.AV.plain,qaf,ql,qq,Ev.keep,qae,qw,qd,Ev.SObj.lo,qax,qbj,↓qs,Ev.it1,↓reduceIte,zga,zgb,zgd,zgc,zgo,zfe,zgf,zgg,List.drop_nil,zgl,zgn,zgj,Nat.reduceAdd,Nat.reduceEqDiff,reduceCtorEq,zgv,zfc,zgx,zfd,zgu,Nat.le_refl,zgy]
  ·rw [sw,qim hx,qim hy];simp
 ·rintro D hD
  have hD' : D = L ++ (Y ++ (M ++ (X ++ N))):=by rw [hD,← hXY,List.take_length,List.drop_length,hXY,List.take_length,List.drop_length];simp
  subst hD'
  simp only [qc3,Int.lt_irrefl,Ev.exec,qb,qe,qc,qaj,Ev.Opnd.ev,Ev.Env.get,Ev.Env.set,Ev.look,ql,↓qs,Ev.it1,↓reduceIte,Nat.reduceEqDiff,reduceCtorEq,zgw,zfa,zgy]
  exact ⟨_,rfl,rfl,rfl,rfl⟩
end
open Go.Ev
theorem q8m (a b : Int) : qqh b a = -qqh a b:=by unfold qqh;split <;> split <;> (try split) <;> omega
theorem qj5 (a b : Int) : (qqh a b < 0 ↔ a < b) ∧ (qqh a b = 0 ↔ a = b) ∧ (0 < qqh a b ↔ b < a):=by
 unfold qqh
 split
 ·refine ⟨?_,?_,?_⟩ <;> omega
 split
 ·refine ⟨?_,?_,?_⟩ <;> omega
 ·refine ⟨?_,?_,?_⟩ <;> omega
theorem q50 : ∀ a b : List Int,qly b a = -qly a b
 | [],[] => rfl
 | [],y :: b => by simp [qly]
 | x :: a,[] => by simp [qly]
 | x :: a,y :: b => by
  simp only [qly]
  by_cases h : x = y
  ·subst h;simp only [if_true];exact q50 a b
  ·rw [if_neg h,if_neg (fun e => h e.symm)];exact q8m x y
theorem q0u : ∀ a b c : List Int,qly a b ≤ 0 → qly b c ≤ 0 → qly a c ≤ 0
 | [],b,c,_,_ => by cases c <;> simp [qly]
 | x :: a,[],c,h,_ => by simp [qly] at h
 | x :: a,y :: b,[],_,h => by simp [qly] at h
 | x :: a,y :: b,z :: c,h1,h2 => by
  simp only [qly] at h1 h2 ⊢
  have c1:=qj5 x y
  have c2:=qj5 y z
  have c3:=qj5 x z
  by_cases e1 : x = y
  ·subst e1
   rw [if_pos rfl] at h1
   by_cases e2 : x = z
   ·subst e2;rw [if_pos rfl] at h2 ⊢;exact q0u a b c h1 h2
   ·rw [if_neg e2] at h2 ⊢;exact h2
  ·rw [if_neg e1] at h1
   by_cases e2 : y = z
   ·subst e2;rw [if_neg e1];exact h1
   ·rw [if_neg e2] at h2
    have : ¬ x = z:=by intro e;omega
    rw [if_neg this]
    omega
def leE (x y : Evt) : Prop:=qqr x y ≤ 0
theorem qpk (x y : Evt) : qqr y x = -qqr x y:=by
 unfold qqr
 have:=q8m x.time y.time
 have:=q50 x.key y.key
 by_cases h : qqh x.time y.time = 0
 ·rw [if_pos h,if_pos (by omega)];assumption
 ·rw [if_neg h,if_neg (by omega)];assumption
theorem qlk (x y z : Evt) (h1 : leE x y) (h2 : leE y z) : leE x z:=by
 unfold leE qqr at *
 have c1:=qj5 x.time y.time
 have c2:=qj5 y.time z.time
 have c3:=qj5 x.time z.time
 by_cases e1 : qqh x.time y.time = 0
 ·rw [if_pos e1] at h1
  by_cases e2 : qqh y.time z.time = 0
  ·rw [if_pos e2] at h2
   rw [if_pos (by omega)];exact q0u _ _ _ h1 h2
  ·rw [if_neg e2] at h2
   rw [if_neg (by omega)];omega
 ·rw [if_neg e1] at h1
  by_cases e2 : qqh y.time z.time = 0
  ·rw [if_neg (by omega)];omega
  ·rw [if_neg e2] at h2
   rw [if_neg (by omega)];omega
theorem qqk (x y : Evt) (h : ¬ qqr x y < 0) : leE y x:=by unfold leE;have:=qpk x y;omega
theorem q2h (x y : Evt) (h : qqr x y < 0) : leE x y:=by unfold leE;omega
theorem q5t (x y : Evt) : qqr x y = 0 ↔ x.time = y.time ∧ x.key = y.key:=by
 unfold qqr
 have:=qj5 x.time y.time
 have:=qwu x.key y.key
 by_cases h : qqh x.time y.time = 0
 ·rw [if_pos h];constructor
  ·intro k;exact ⟨by omega,by simpa [k] using this⟩
  ·intro k;exact this.2 k.2
 ·rw [if_neg h];constructor
  ·intro k;exact absurd k h
  ·intro k;omega
open Go.Ev
set_option maxRecDepth 10000
section
variable (g : Nat) (cl : Bool) (n : Nat)
def qcj (D : List Evt) : Prop:=∀ x ∈ D,x.key.length ≤ 9223372036854775807
theorem qzi (P S Q : List Evt) (x : Evt) (hn : n = (P ++ (S ++ x :: Q)).length) (hb : n < 2 ^ 61) (hk : qcj (P ++ (S ++ x :: Q))) (hS : S.Pairwise leE) (a : Nat) (ha : a = P.length) (b i : Int) :
  ∃ y,itB (exec (evL T) itL none qb0) (qq [0,1,2,3,8,9] true 1) ⟨[(0,.sl 0 g 0 n cl),(1,(ii a)),(2,(ii b)),(3,(.fn (.func qr) [] [])),(8,(ii i)),(9,(ii ((a + S.length : Nat))))],[]⟩ [.row 6 ((P ++ (S ++ x :: Q)).map Evt.r) g] = some y ∧
   (y.1 = .exit 2 ∧ y.2.1.marks = [] ∧ Ev.look y.2.1.vars 0 = some (.sl 0 g 0 n cl) ∧ Ev.look y.2.1.vars 1 = some (ii a) ∧ Ev.look y.2.1.vars 2 = some (ii b) ∧ Ev.look y.2.1.vars 3 = some (.fn (.func qr) [] []) ∧ Ev.look y.2.1.vars 8 = some (ii i) ∧ ∃ S' : List Evt,S'.Perm (x :: S) ∧ S'.Pairwise leE ∧ y.2.2 = [.row 6 ((P ++ (S' ++ Q)).map Evt.r) g]):=by
 refine qhe (τ:=List Evt × Nat) (fun s => ⟨[(0,.sl 0 g 0 n cl),(1,(ii a)),(2,(ii b)),(3,(.fn (.func qr) [] [])),(8,(ii i)),(9,(ii s.2))],[]⟩) (fun s => [.row 6 ((s.1).map Evt.r) g]) (fun s => s.2)
  (fun s => ∃ A B,s.1 = P ++ (A ++ x :: (B ++ Q)) ∧ s.2 = a + A.length ∧ A ++ B = S ∧ ∀ v,B[0]? = some v → leE x v) _ ?_ (P ++ (S ++ x :: Q),a + S.length) ⟨S,[],by simp,rfl,by simp,by simp⟩
 rintro ⟨D,j⟩ ⟨A,B,hD,hj,hAB,hB⟩
 simp only at hD hj ⊢
 have hlen : n = P.length + (S.length + (Q.length + 1)):=by rw [hn];simp
 have hSl : S.length = A.length + B.length:=by rw [← hAB];simp
 have fin : (∀ u,A[A.length - 1]? = some u → leE u x) → ∃ S' : List Evt,S'.Perm (x :: S) ∧ S'.Pairwise leE ∧ ([.row 6 ((D).map Evt.r) g] : qac) = [.row 6 ((P ++ (S' ++ Q)).map Evt.r) g]:=fun h => by
  refine ⟨A ++ x :: B,?_,qnd qlk (by rw [hAB];exact hS) h hB,by rw [hD];simp⟩
  rw [← hAB];exact List.perm_middle
 rcases List.eq_nil_or_concat A with rfl | ⟨A0,y,rfl⟩
 ·have h1 : ¬ (j : Int) > (a : Int):=by simp at hj;omega
  refine .inr ?_
  simp only [qb0,h1,Ev.exec,qb,qe,qc,qaj,Ev.Opnd.ev,Ev.Env.get,Ev.Env.set,Ev.Env.unset,Ev.look,qau,↓qs,Ev.it1,↓reduceIte,Nat.reduceEqDiff,reduceCtorEq,zgw,zfa,zgy]
  exact ⟨_,rfl,rfl,rfl,rfl,rfl,rfl,rfl,rfl,fin (by simp)⟩
 ·simp only [List.concat_eq_append,zgp,zga,zgb] at hD hj hSl hAB fin
  obtain ⟨k,hk1⟩ : ∃ k,k = a + A0.length:=⟨_,rfl⟩
  have hjk : j = k + 1:=by omega
  have h1 : (j : Int) > (a : Int):=by omega
  have e1 : D = (P ++ A0) ++ y :: x :: (B ++ Q):=by rw [hD];simp
  have l1 : k = (P ++ A0).length:=by simp;omega
  have gy : D[k]? = some y:=qpw e1 l1
  have gx : D[j]? = some x:=qpw (L:=P ++ A0 ++ [y]) (M:=B ++ Q) (by rw [e1];simp) (by simp;omega)
  have ge : D.length = n:=by rw [e1,hlen];simp;omega
  have ws : IntKind.i64.wrap ((j : Int) - 1) = (k : Int):=qs9 hjk (by omega)
  have rj : j < n:=by omega
  have rk : k < n:=by omega
  have kx : x.key.length ≤ 9223372036854775807:=hk x (by simp)
  have ky : y.key.length ≤ 9223372036854775807:=hk y (by rw [← hAB];simp)
  have hc:=qkv x y kx ky 6 (D.map Evt.r) g
  have sw:=q6d e1 l1 hjk
  have hne : ¬ (j = k):=by omega
  by_cases hlt : qqr x y < 0
  ·left
   have hle:=q2h x y hlt
   obtain ⟨x',rfl⟩ : ∃ z,x = z:=⟨x,rfl⟩
   have hlo:=qv 1 ((D.set j y).set k x)
   refine ⟨((D.set j y).set k x,k),?_,⟨A0,y :: B,by rw [sw];simp,hk1,by rw [← hAB];simp,fun v hv => by simp at hv;rw [← hv];exact hle⟩,by simp only;omega⟩
   obtain ⟨xt,xk,xl,xi,xp,xa⟩:=x
   obtain ⟨yt,yk,yl,yi,yp,ya⟩:=y
   have hs : ∀ v,((D.map Evt.r).set j v)[k]? = some (Evt.r ⟨yt,yk,yl,yi,yp,ya⟩):=fun v => by rw [List.getElem?_set_ne hne,List.getElem?_map,gy];rfl
   simp only [List.map_set,Evt.r] at hlo
   simp only at hc
   simp only [qb0,zgs,zgr,zgq,zgt,gx,gy,hs,h1,ws,rj,rk,hc,hlt,hlo,List.map_set,Evt.r,Ev.exec,qb,qe,qc,qk9,qaj,Ev.evs,Ev.Opnd.ev,Ev.Env.get,Ev.Env.set,Ev.look,qh,qad,Ev.AV.cells,qx,Ev.AV.plain,qcl,ql,qau,qq,Ev.keep,qae,qw,qd,Ev.SObj.lo,qax,qbj,qfc,qg,↓qs,Ev.it1,↓reduceIte,zga,zgb,zgd,zgc,zgo,zfe,zgf,zgg,List.drop_nil,zgl,zgn,zgj,Nat.reduceAdd,Nat.reduceEqDiff,reduceCtorEq,zgv,zfc,zgx,zfd,zgu,Nat.le_refl,zgy]
  ·right
   have hf:=fin (fun u hu => by simp at hu;rw [← hu];exact qqk x y hlt)
   obtain ⟨xt,xk,xl,xi,xp,xa⟩:=x
   obtain ⟨yt,yk,yl,yi,yp,ya⟩:=y
   simp only at hc
   simp only [qb0,zgs,zgr,zgq,zgt,gx,gy,h1,ws,rj,rk,hc,hlt,Evt.r,Ev.exec,qb,qe,qc,qk9,qaj,Ev.evs,Ev.Opnd.ev,Ev.Env.get,Ev.Env.set,Ev.look,qh,qad,qcl,ql,qau,↓qs,Ev.it1,↓reduceIte,zga,zgb,zgd,zgc,zfe,zgg,zgl,zgn,Nat.reduceAdd,Nat.reduceEqDiff,reduceCtorEq,zgv,zgw,zfa,zgx,zfd,Nat.le_refl,zgy]
   exact ⟨_,rfl,rfl,rfl,rfl,rfl,rfl,rfl,rfl,hf⟩
theorem qxq (P S Q : List Evt) (hn : n = (P ++ (S ++ Q)).length) (hb : n < 2 ^ 61) (hk : qcj (P ++ (S ++ Q))) (a b : Nat) (ha : a = P.length) (hbb : b = a + S.length) :
  ∃ S' : List Evt,S'.Perm S ∧ S'.Pairwise leE ∧ (evL T).call qa4 [.sl 0 g 0 n cl,(ii a),(ii b),(.fn (.func qr) [] [])] [.row 6 ((P ++ (S ++ Q)).map Evt.r) g] = some (.tup [],[.row 6 ((P ++ (S' ++ Q)).map Evt.r) g]):=by
 have hlen : n = P.length + (S.length + Q.length):=by rw [hn];simp
 have key:=qhe (f:=exec (evL T) itL none qbz) (s:=qq [0,1,2,3,8] true 1) (τ:=List Evt × Nat)
  (fun s => ⟨[(0,.sl 0 g 0 n cl),(1,(ii a)),(2,(ii b)),(3,(.fn (.func qr) [] [])),(8,(ii s.2))],[]⟩) (fun s => [.row 6 ((s.1).map Evt.r) g]) (fun s => b - s.2)
  (fun s => (∃ A B,s.1 = P ++ (A ++ (B ++ Q)) ∧ s.2 = a + A.length ∧ (A ++ B).Perm S ∧ A.Pairwise leE) ∨ S = [] ∧ s.1 = P ++ Q ∧ s.2 = a + 1)
  (fun y => y.1 = .exit 0 ∧ y.2.1.marks = [] ∧ ∃ S' : List Evt,S'.Perm S ∧ S'.Pairwise leE ∧ y.2.2 = [.row 6 ((P ++ (S' ++ Q)).map Evt.r) g]) ?_ (P ++ (S ++ Q),a + 1) ?_
 ·obtain ⟨⟨y,e,σ⟩,k1,k2,k3,S',k4,k5,k6⟩:=key
  simp only at k1 k2 k3 k6
  subst k2;subst k6
  refine ⟨S',k4,k5,?_⟩
  have w1 : IntKind.i64.wrap ((a : Int) + 1) = ((a + 1 : Nat) : Int):=qme (by omega)
  rw [qy qi0 qiu]
  simp only [qc2,w1,k1,k3,qv,qn,Ev.exec,qb,qe,qc,qaj,Ev.Opnd.ev,Ev.Env.get,Ev.Env.set,Ev.look,qo,qaf,qm,qak,Ev.kill,qai,qq,Ev.keep,qae,qw,qd,Ev.SObj.lo,qax,qa3,qbj,qfc,qg,↓qs,↓qan,↓reduceIte,zga,zgb,zgc,zfe,Nat.reduceAdd,Nat.reduceEqDiff,reduceCtorEq,zgv,zfc,zgx,zfd,zgu,zgy]
 ·rintro ⟨D,i⟩ (⟨A,B,hD,hi,hAB,hA⟩ | ⟨hS,hD,hi⟩)
  ·simp only at hD hi ⊢
   have hl:=hAB.length_eq
   rw [List.length_append] at hl
   cases B with
   | nil =>
    have h1 : ¬ (i : Int) < (b : Int):=by simp at hl;omega
    right
    simp only [qbz,h1,Ev.exec,qb,qe,qc,qaj,Ev.Opnd.ev,Ev.Env.get,Ev.Env.set,Ev.look,ql,↓qs,Ev.it1,↓reduceIte,Nat.reduceEqDiff,reduceCtorEq,zgw,zfa,zgy]
    exact ⟨_,rfl,rfl,rfl,A,by simpa using hAB,hA,by rw [hD];simp⟩
   | cons x B =>
    rw [List.length_cons] at hl
    have h1 : (i : Int) < (b : Int):=by omega
    have hkD : qcj (P ++ (A ++ x :: (B ++ Q))):=by
     intro z hz
     refine hk z ?_
     simp only [List.mem_append,List.mem_cons] at hz ⊢
     have:=hAB.mem_iff (a:=z)
     simp only [List.mem_append,List.mem_cons] at this
     rcases hz with h | h | h | h | h
     ·exact .inl h
     ·exact .inr (.inl (this.1 (.inl h)))
     ·exact .inr (.inl (this.1 (.inr (.inl h))))
     ·exact .inr (.inl (this.1 (.inr (.inr h))))
     ·exact .inr (.inr h)
    obtain ⟨⟨y,e,σ⟩,k1,k2,k3,k4,k5,k6,k7,k8,S',k9,k10,k11⟩:=qzi g cl n P A (B ++ Q) x (by rw [hlen];simp;omega) hb hkD hA a ha b i
    simp only at k1 k2 k3 k4 k5 k6 k7 k8 k11
    subst k2;subst k11
    have w1 : IntKind.i64.wrap ((i : Int) + 1) = ((i + 1 : Nat) : Int):=qme (by omega)
    left
    refine ⟨(P ++ (S' ++ (B ++ Q)),i + 1),?_,.inl ⟨S',B,rfl,?_,?_,k10⟩,?_⟩
    ·rw [← hi] at k1
     rw [hD]
     simp only [zgm] at k1 ⊢
     simp only [qbz,h1,w1,k1,k3,k4,k5,k6,k7,k8,qv,Ev.exec,qb,qe,qc,qaj,Ev.Opnd.ev,Ev.Env.get,Ev.Env.set,Ev.look,qaf,ql,qq,Ev.keep,qae,qw,qd,Ev.SObj.lo,qax,qbj,qfc,qg,↓qs,↓qan,Ev.it1,↓reduceIte,zga,zgb,zgc,zfe,Nat.reduceEqDiff,reduceCtorEq,zgv,zfc,zgx,zfd,zgu,zgy]
    ·have:=k9.length_eq;rw [List.length_cons] at this;simp only;omega
    ·exact ((k9.append_right B).trans List.perm_middle.symm).trans hAB
    ·simp only;omega
  ·simp only at hD hi ⊢
   subst hS
   have h1 : ¬ (i : Int) < (b : Int):=by simp at hbb;omega
   right
   simp only [qbz,h1,Ev.exec,qb,qe,qc,qaj,Ev.Opnd.ev,Ev.Env.get,Ev.Env.set,Ev.look,ql,↓qs,Ev.it1,↓reduceIte,Nat.reduceEqDiff,reduceCtorEq,zgw,zfa,zgy]
   exact ⟨_,rfl,rfl,rfl,[],List.Perm.nil,List.Pairwise.nil,by rw [hD];simp⟩
 ·cases S with
  | nil => exact .inr ⟨rfl,by simp,rfl⟩
  | cons x S => exact .inl ⟨[x],S,by simp,by simp,by simp,List.pairwise_singleton _ _⟩
end
open Go.Ev
set_option maxRecDepth 10000
section
variable (g : Nat) (cl : Bool) (n : Nat)
theorem qabi (L X Y N : List Evt) (hX : 0 < X.length) (hY : 0 < Y.length) (hn : n = (L ++ (X ++ (Y ++ N))).length) (hb : n < 2 ^ 61) (a m b : Nat) (ha : a = L.length) (hm : m = a + X.length) (hbb : b = m + Y.length) :
  (evL T).call qbf [.sl 0 g 0 n cl,(ii a),(ii m),(ii b),(.fn (.func qr) [] [])] [.row 6 ((L ++ (X ++ (Y ++ N))).map Evt.r) g] = some (.tup [],[.row 6 ((L ++ (Y ++ (X ++ N))).map Evt.r) g]):=by
 have hlen : n = L.length + (X.length + (Y.length + N.length)):=by rw [hn];simp
 have key:=qhe (f:=exec (evL T) itL none qct) (s:=qq [0,2,4,10,11] true 1) (τ:=List Evt × Nat × Nat)
  (fun s => ⟨[(0,.sl 0 g 0 n cl),(2,(ii m)),(4,(.fn (.func qr) [] [])),(10,(ii s.2.1)),(11,(ii s.2.2))],[]⟩) (fun s => [.row 6 ((s.1).map Evt.r) g]) (fun s => s.2.1 + s.2.2)
  (fun s => ∃ L' X' Y' N',s.1 = L' ++ (X' ++ (Y' ++ N')) ∧ s.2.1 = X'.length ∧ s.2.2 = Y'.length ∧ 0 < X'.length ∧ 0 < Y'.length ∧ m = L'.length + X'.length ∧ L' ++ (Y' ++ (X' ++ N')) = L ++ (Y ++ (X ++ N)))
  (fun y => ∃ i : Nat,y.1 = .exit 0 ∧ y.2.1.marks = [] ∧ Ev.look y.2.1.vars 0 = some (.sl 0 g 0 n cl) ∧ Ev.look y.2.1.vars 2 = some (ii m) ∧ Ev.look y.2.1.vars 4 = some (.fn (.func qr) [] []) ∧ Ev.look y.2.1.vars 10 = some (ii i) ∧
   ∃ L' X' Y' N' : List Evt,y.2.2 = [.row 6 ((L' ++ (X' ++ (Y' ++ N'))).map Evt.r) g] ∧ i = X'.length ∧ i = Y'.length ∧ m = L'.length + X'.length ∧ L' ++ (Y' ++ (X' ++ N')) = L ++ (Y ++ (X ++ N))) ?_ (L ++ (X ++ (Y ++ N)),X.length,Y.length) ⟨L,X,Y,N,rfl,rfl,rfl,hX,hY,by omega,rfl⟩
 ·obtain ⟨⟨y,e,σ⟩,k1,i,k2,k3,k4,k5,k6,k7,L',X',Y',N',k8,k9,k10,k11,k12⟩:=key
  simp only at k1 k2 k3 k4 k5 k6 k7 k8
  subst k2;subst k8
  have hl2:=congrArg List.length k12
  simp only [zgp] at hl2
  have w1 : IntKind.i64.wrap ((m : Int) - (a : Int)) = (X.length : Int):=qfr hm (by omega)
  have w2 : IntKind.i64.wrap ((b : Int) - (m : Int)) = (Y.length : Int):=qfr hbb (by omega)
  have w3 : IntKind.i64.wrap ((m : Int) - (i : Int)) = (L'.length : Int):=qfr (by omega) (by omega)
  have sw:=qso g cl n L' X' [] Y' N' (by omega) (by simp;omega) hb L'.length m rfl (by simp;omega)
  simp only [zgl] at sw
  rw [← k9,k12] at sw
  rw [qy qk5 qk0]
  simp only [qdw,w1,w2,w3,k1,k3,k4,k5,k6,k7,sw,qv,qn,Ev.exec,qb,qe,qc,qd6,qaj,Ev.evs,Ev.Opnd.ev,Ev.Env.get,Ev.Env.set,Ev.look,qo,qcl,qm,qak,Ev.kill,qai,qq,Ev.keep,qae,qw,qd,Ev.SObj.lo,qax,qa3,qbj,qfc,qg,↓qs,↓qan,↓reduceIte,zga,zgb,zgc,zfe,Nat.reduceAdd,Nat.reduceEqDiff,reduceCtorEq,zgv,zfc,zgx,zfd,zgu,zgy]
 ·rintro ⟨D,i,j⟩ ⟨L',X',Y',N',hD,hi,hj,hX',hY',hm',heq⟩
  simp only at hD hi hj ⊢
  have hl2:=congrArg List.length heq
  simp only [zgp] at hl2
  by_cases hij : i = j
  ·right
   have h1 : (i : Int) = (j : Int):=by omega
   subst hij
   simp only [qct,Ev.exec,qb,qe,qc,qaj,Ev.Opnd.ev,Ev.Env.get,Ev.Env.set,Ev.look,qbn,↓qs,Ev.it1,↓reduceIte,Nat.reduceEqDiff,reduceCtorEq,zgw,zfa,ne_eq,not_true_eq_false,zgy]
   exact ⟨_,rfl,i,rfl,rfl,rfl,rfl,rfl,rfl,L',X',Y',N',by rw [hD],hi,hj,hm',heq⟩
  have h1 : ¬ (i : Int) = (j : Int):=by omega
  left
  by_cases hgt : j < i
  ·have h2 : (i : Int) > (j : Int):=by omega
   obtain ⟨X1,X2,rfl,hX1⟩ : ∃ X1 X2,X' = X1 ++ X2 ∧ X1.length = j:=⟨X'.take j,X'.drop j,(List.take_append_drop _ _).symm,by simp;omega⟩
   rw [List.length_append] at hi hX' hm' hl2
   have sw:=qso g cl n L' X1 X2 Y' N' (by omega) (by simp;omega) hb L'.length m rfl (by omega)
   rw [show L' ++ (X1 ++ (X2 ++ (Y' ++ N'))) = D by rw [hD];simp,hX1] at sw
   have w3 : IntKind.i64.wrap ((m : Int) - (i : Int)) = (L'.length : Int):=qfr (by omega) (by omega)
   have w4 : IntKind.i64.wrap ((i : Int) - (j : Int)) = (X2.length : Int):=qfr (by omega) (by omega)
   refine ⟨(L' ++ (Y' ++ (X2 ++ (X1 ++ N'))),X2.length,j),?_,⟨L' ++ Y',X2,X1,N',by simp,rfl,hX1.symm,by omega,by omega,by simp;omega,by rw [← heq];simp⟩,by first | omega | (simp only;omega)⟩
   simp only [qct,h1,h2,w3,w4,sw,qv,Ev.exec,qb,qe,qc,qd6,qaj,Ev.evs,Ev.Opnd.ev,Ev.Env.get,Ev.Env.set,Ev.look,qcl,qbn,qau,qq,Ev.keep,qae,qw,qd,Ev.SObj.lo,qax,qbj,qfc,qg,↓qs,Ev.it1,↓reduceIte,zgc,zfe,Nat.reduceEqDiff,reduceCtorEq,zgv,zfc,zgx,ne_eq,zfb,zgu,zgy]
  ·have h2 : ¬ (i : Int) > (j : Int):=by omega
   obtain ⟨Y1,Y2,rfl,hY2⟩ : ∃ Y1 Y2,Y' = Y1 ++ Y2 ∧ Y2.length = i:=⟨Y'.take (j - i),Y'.drop (j - i),(List.take_append_drop _ _).symm,by simp;omega⟩
   rw [List.length_append] at hj hY' hl2
   have sw:=qso g cl n L' X' Y1 Y2 N' (by omega) (by simp;omega) hb L'.length (m + Y1.length) rfl (by omega)
   rw [show L' ++ (X' ++ (Y1 ++ (Y2 ++ N'))) = D by rw [hD];simp,← hi] at sw
   have w3 : IntKind.i64.wrap ((m : Int) - (i : Int)) = (L'.length : Int):=qfr (by omega) (by omega)
   have w4 : IntKind.i64.wrap ((m : Int) + (j : Int)) = ((m + j : Nat) : Int):=qmh (by omega)
   have w5 : IntKind.i64.wrap (((m + j : Nat) : Int) - (i : Int)) = ((m + Y1.length : Nat) : Int):=qfr (by omega) (by omega)
   have w6 : IntKind.i64.wrap ((j : Int) - (i : Int)) = (Y1.length : Int):=qfr (by omega) (by omega)
   refine ⟨(L' ++ (Y2 ++ (Y1 ++ (X' ++ N'))),i,Y1.length),?_,⟨L',Y2,Y1,X' ++ N',rfl,hY2.symm,rfl,by omega,by omega,by omega,by rw [← heq];simp⟩,by first | omega | (simp only;omega)⟩
   simp only [qct,h1,h2,w3,w4,w5,w6,sw,qv,Ev.exec,qb,qe,qc,qd6,qaj,Ev.evs,Ev.Opnd.ev,Ev.Env.get,Ev.Env.set,Ev.look,qaf,qcl,qbn,qau,qq,Ev.keep,qae,qw,qd,Ev.SObj.lo,qax,qbj,qfc,qg,↓qs,Ev.it1,↓reduceIte,zgc,zfe,Nat.reduceEqDiff,reduceCtorEq,zgv,zgw,zfc,zfa,zgx,ne_eq,zfb,zgu,zgy]
end
open Go.Ev
set_option maxRecDepth 10000
theorem qvq (s h : Nat) (hh : h = s / 2) : qmw .shr (.v (.int .u64 (s : Int))) (.v (.int .u64 1)) = some (.v (.int .u64 (h : Int))):=by
 subst hh
 show (if (1 : Int) < 0 then none else some (AV.v (.int .u64 ((s : Int).fdiv (2 ^ (min (1 : Int).toNat IntKind.u64.bits)))))) = _
 rw [if_neg (by omega),show (2 : Int) ^ (min (1 : Int).toNat IntKind.u64.bits) = 2 from rfl,Int.fdiv_eq_ediv_of_nonneg _ (by omega)]
 rw [show (s : Int) / 2 = ((s / 2 : Nat) : Int) by omega]
theorem qs0 {n : Nat} (h : n < 2 ^ 63) : IntKind.u64.wrap (n : Int) = (n : Int):=by
 have h3 : IntKind.u64.bits = 64:=rfl
 have h4 : IntKind.u64.signed = false:=rfl
 simp only [IntKind.wrap,h3,h4,Bool.false_and,zfa,if_false]
 omega
theorem qsq {n : Nat} (h : n < 2 ^ 63) : IntKind.i64.wrap (n : Int) = (n : Int):=qas (by omega) (by omega)
section
variable (g : Nat) (cl : Bool) (n : Nat)
theorem q8c (D : List Evt) (x : Evt) (hn : n = D.length) (hb : n < 2 ^ 61) (hk : qcj D) (a m b : Nat) (ha : D[a]? = some x) (hmb : m ≤ b) (hbn : b ≤ n) (han : a < n) :
  ∃ y,itB (exec (evL T) itL none qcf) (qq [0,1,4,10,11] true 1) ⟨[(0,.sl 0 g 0 n cl),(1,(ii a)),(4,(.fn (.func qr) [] [])),(10,(ii m)),(11,(ii b))],[]⟩ [.row 6 ((D).map Evt.r) g] = some y ∧
   ∃ i : Nat,y.1 = .exit 0 ∧ y.2.1.marks = [] ∧ y.2.2 = [.row 6 ((D).map Evt.r) g] ∧ Ev.look y.2.1.vars 0 = some (.sl 0 g 0 n cl) ∧ Ev.look y.2.1.vars 1 = some (ii a) ∧ Ev.look y.2.1.vars 10 = some (ii i) ∧ m ≤ i ∧ i ≤ b ∧ (i = m ∨ ∀ v,D[i - 1]? = some v → leE v x) ∧ (i = b ∨ ∀ v,D[i]? = some v → leE x v):=by
 refine qhe (τ:=Nat × Nat) (fun s => ⟨[(0,.sl 0 g 0 n cl),(1,(ii a)),(4,(.fn (.func qr) [] [])),(10,(ii s.1)),(11,(ii s.2))],[]⟩) (fun _ => [.row 6 ((D).map Evt.r) g]) (fun s => s.2 - s.1)
  (fun s => m ≤ s.1 ∧ s.1 ≤ s.2 ∧ s.2 ≤ b ∧ (s.1 = m ∨ ∀ v,D[s.1 - 1]? = some v → leE v x) ∧ (s.2 = b ∨ ∀ v,D[s.2]? = some v → leE x v)) _ ?_ (m,b) ⟨Nat.le_refl _,hmb,Nat.le_refl _,.inl rfl,.inl rfl⟩
 rintro ⟨i,j⟩ ⟨h1,h2,h3,h4,h5⟩
 simp only at h1 h2 h3 h4 h5 ⊢
 by_cases hij : i < j
 case neg =>
  have c1 : ¬ (i : Int) < (j : Int):=by omega
  right
  simp only [qcf,c1,Ev.exec,qb,qe,qc,qaj,Ev.Opnd.ev,Ev.Env.get,Ev.Env.set,Ev.look,ql,↓qs,Ev.it1,↓reduceIte,Nat.reduceEqDiff,reduceCtorEq,zgw,zfa,zgy]
  refine ⟨_,rfl,i,rfl,rfl,rfl,rfl,rfl,rfl,h1,by omega,h4,?_⟩
  obtain rfl : i = j:=by omega
  exact h5
 obtain ⟨h,hh⟩ : ∃ h,h = (i + j) / 2:=⟨_,rfl⟩
 have c1 : (i : Int) < (j : Int):=by omega
 obtain ⟨y,hy⟩ : ∃ y,D[h]? = some y:=⟨_,List.getElem?_eq_getElem (by omega)⟩
 have w1 : IntKind.i64.wrap ((i : Int) + (j : Int)) = ((i + j : Nat) : Int):=qmh (by omega)
 have w2 : IntKind.u64.wrap ((i + j : Nat) : Int) = ((i + j : Nat) : Int):=qs0 (by omega)
 have w3:=qvq (i + j) h hh
 have w4 : IntKind.i64.wrap (h : Int) = (h : Int):=qsq (by omega)
 have w5 : IntKind.i64.wrap ((h : Int) + 1) = ((h + 1 : Nat) : Int):=qme (by omega)
 have rh : h < n:=by omega
 have kx : x.key.length ≤ 9223372036854775807:=hk x (List.mem_of_getElem? ha)
 have ky : y.key.length ≤ 9223372036854775807:=hk y (List.mem_of_getElem? hy)
 have hc:=qkv y x ky kx 6 (D.map Evt.r) g
 left
 by_cases hlt : qqr y x < 0
 ·refine ⟨(h + 1,j),?_,⟨by simp only;omega,by simp only;omega,h3,.inr fun v hv => ?_,h5⟩,by simp only;omega⟩
  ·obtain ⟨xt,xk,xl,xi,xp,xa⟩:=x
   obtain ⟨yt,yk,yl,yi,yp,ya⟩:=y
   simp only at hc
   simp only [qcf,zgs,zgr,zgq,zgt,ha,hy,c1,w1,w2,w3,w4,w5,rh,han,hc,hlt,Evt.r,qv,Ev.exec,qb,qe,qc,qk9,qaj,Ev.evs,Ev.Opnd.ev,Ev.Env.get,Ev.Env.set,Ev.look,qh,qad,qaf,ql,qq,Ev.keep,qae,qw,qd,Ev.SObj.lo,qax,qbj,qfc,qg,↓qs,Ev.it1,↓reduceIte,zga,zgb,zgd,zgc,zfe,zgg,zgl,zgn,Nat.reduceAdd,Nat.reduceEqDiff,reduceCtorEq,zgv,zfc,zgx,zfd,zgu,Nat.le_refl,zgy]
  ·simp only [Nat.add_sub_cancel] at hv
   rw [hy] at hv;cases hv;exact q2h y x hlt
 ·refine ⟨(i,h),?_,⟨h1,by simp only;omega,by simp only;omega,h4,.inr fun v hv => ?_⟩,by simp only;omega⟩
  ·obtain ⟨xt,xk,xl,xi,xp,xa⟩:=x
   obtain ⟨yt,yk,yl,yi,yp,ya⟩:=y
   simp only at hc
   simp only [qcf,zgs,zgr,zgq,zgt,ha,hy,c1,w1,w2,w3,w4,rh,han,hc,hlt,Evt.r,qv,Ev.exec,qb,qe,qc,qk9,qaj,Ev.evs,Ev.Opnd.ev,Ev.Env.get,Ev.Env.set,Ev.look,qh,qad,qaf,ql,qq,Ev.keep,qae,qw,qd,Ev.SObj.lo,qax,qbj,qfc,qg,↓qs,Ev.it1,↓reduceIte,zga,zgb,zgd,zgc,zfe,zgg,zgl,zgn,Nat.reduceAdd,Nat.reduceEqDiff,reduceCtorEq,zgv,zgw,zfc,zfa,zgx,zfd,zgu,Nat.le_refl,zgy]
  ·simp only at hv
   rw [hy] at hv;cases hv;exact qqk y x hlt
theorem q7a (D : List Evt) (x : Evt) (hn : n = D.length) (hb : n < 2 ^ 61) (hk : qcj D) (a m : Nat) (hm : D[m]? = some x) (ham : a ≤ m) (hmn : m < n) :
  ∃ y,itB (exec (evL T) itL none qce) (qq [0,2,4,14,15] true 1) ⟨[(0,.sl 0 g 0 n cl),(2,(ii m)),(4,(.fn (.func qr) [] [])),(14,(ii a)),(15,(ii m))],[]⟩ [.row 6 ((D).map Evt.r) g] = some y ∧
   ∃ i : Nat,y.1 = .exit 4 ∧ y.2.1.marks = [] ∧ y.2.2 = [.row 6 ((D).map Evt.r) g] ∧ Ev.look y.2.1.vars 0 = some (.sl 0 g 0 n cl) ∧ Ev.look y.2.1.vars 2 = some (ii m) ∧ Ev.look y.2.1.vars 14 = some (ii i) ∧ a ≤ i ∧ i ≤ m ∧ (i = a ∨ ∀ v,D[i - 1]? = some v → leE v x) ∧ (i = m ∨ ∀ v,D[i]? = some v → leE x v):=by
 refine qhe (τ:=Nat × Nat) (fun s => ⟨[(0,.sl 0 g 0 n cl),(2,(ii m)),(4,(.fn (.func qr) [] [])),(14,(ii s.1)),(15,(ii s.2))],[]⟩) (fun _ => [.row 6 ((D).map Evt.r) g]) (fun s => s.2 - s.1)
  (fun s => a ≤ s.1 ∧ s.1 ≤ s.2 ∧ s.2 ≤ m ∧ (s.1 = a ∨ ∀ v,D[s.1 - 1]? = some v → leE v x) ∧ (s.2 = m ∨ ∀ v,D[s.2]? = some v → leE x v)) _ ?_ (a,m) ⟨Nat.le_refl _,ham,Nat.le_refl _,.inl rfl,.inl rfl⟩
 rintro ⟨i,j⟩ ⟨h1,h2,h3,h4,h5⟩
 simp only at h1 h2 h3 h4 h5 ⊢
 by_cases hij : i < j
 case neg =>
  have c1 : ¬ (i : Int) < (j : Int):=by omega
  right
  simp only [qce,c1,Ev.exec,qb,qe,qc,qaj,Ev.Opnd.ev,Ev.Env.get,Ev.Env.set,Ev.look,ql,↓qs,Ev.it1,↓reduceIte,Nat.reduceEqDiff,reduceCtorEq,zgw,zfa,zgy]
  refine ⟨_,rfl,i,rfl,rfl,rfl,rfl,rfl,rfl,h1,by omega,h4,?_⟩
  obtain rfl : i = j:=by omega
  exact h5
 obtain ⟨h,hh⟩ : ∃ h,h = (i + j) / 2:=⟨_,rfl⟩
 have c1 : (i : Int) < (j : Int):=by omega
 obtain ⟨y,hy⟩ : ∃ y,D[h]? = some y:=⟨_,List.getElem?_eq_getElem (by omega)⟩
 have w1 : IntKind.i64.wrap ((i : Int) + (j : Int)) = ((i + j : Nat) : Int):=qmh (by omega)
 have w2 : IntKind.u64.wrap ((i + j : Nat) : Int) = ((i + j : Nat) : Int):=qs0 (by omega)
 have w3:=qvq (i + j) h hh
 have w4 : IntKind.i64.wrap (h : Int) = (h : Int):=qsq (by omega)
 have w5 : IntKind.i64.wrap ((h : Int) + 1) = ((h + 1 : Nat) : Int):=qme (by omega)
 have rh : h < n:=by omega
 have kx : x.key.length ≤ 9223372036854775807:=hk x (List.mem_of_getElem? hm)
 have ky : y.key.length ≤ 9223372036854775807:=hk y (List.mem_of_getElem? hy)
 have hc:=qkv x y kx ky 6 (D.map Evt.r) g
 left
 by_cases hlt : qqr x y < 0
 ·refine ⟨(i,h),?_,⟨h1,by simp only;omega,by simp only;omega,h4,.inr fun v hv => ?_⟩,by simp only;omega⟩
  ·obtain ⟨xt,xk,xl,xi,xp,xa⟩:=x
   obtain ⟨yt,yk,yl,yi,yp,ya⟩:=y
   simp only at hc
   simp only [qce,zgs,zgr,zgq,zgt,hm,hy,c1,w1,w2,w3,w4,rh,hmn,hc,hlt,Evt.r,qv,Ev.exec,qb,qe,qc,qk9,qaj,Ev.evs,Ev.Opnd.ev,Ev.Env.get,Ev.Env.set,Ev.look,qh,qad,qaf,ql,qq,Ev.keep,qae,qw,qd,Ev.SObj.lo,qax,qbj,qfc,qg,↓qs,Ev.it1,↓reduceIte,zga,zgb,zgd,zgc,zfe,zgg,zgl,zgn,Nat.reduceAdd,Nat.reduceEqDiff,reduceCtorEq,zgv,zfc,Bool.not_true,zfa,zgx,zfd,zgu,Nat.le_refl,zgy]
  ·simp only at hv
   rw [hy] at hv;cases hv;exact q2h x y hlt
 ·refine ⟨(h + 1,j),?_,⟨by simp only;omega,by simp only;omega,h3,.inr fun v hv => ?_,h5⟩,by simp only;omega⟩
  ·obtain ⟨xt,xk,xl,xi,xp,xa⟩:=x
   obtain ⟨yt,yk,yl,yi,yp,ya⟩:=y
   simp only at hc
   simp only [qce,zgs,zgr,zgq,zgt,hm,hy,c1,w1,w2,w3,w4,w5,rh,hmn,hc,hlt,Evt.r,qv,Ev.exec,qb,qe,qc,qk9,qaj,Ev.evs,Ev.Opnd.ev,Ev.Env.get,Ev.Env.set,Ev.look,qh,qad,qaf,ql,qq,Ev.keep,qae,qw,qd,Ev.SObj.lo,qax,qbj,qfc,qg,↓qs,Ev.it1,↓reduceIte,zga,zgb,zgd,zgc,zfe,zgg,zgl,zgn,Nat.reduceAdd,Nat.reduceEqDiff,reduceCtorEq,zgv,zgw,zfc,Bool.not_false,zgx,zfd,zgu,Nat.le_refl,zgy]
  ·simp only [Nat.add_sub_cancel] at hv
   rw [hy] at hv;cases hv;exact qqk x y hlt
theorem q7o (D : List Evt) (hn : n = D.length) (hb : n < 2 ^ 61) (hk : qcj D) (a m b mid nn p lo hi : Nat) (hp : nn = p + 1) (hlh : lo ≤ hi) (hdom : ∀ c,lo ≤ c → c < hi → c < n ∧ c ≤ p ∧ p - c < n) (hnn : nn < 2 ^ 62) (hhn : hi ≤ n) :
  ∃ y,itB (exec (evL T) itL none qbo) (qq [0,1,2,3,4,18,19,20,21,22] true 1) ⟨[(0,.sl 0 g 0 n cl),(1,(ii a)),(2,(ii m)),(3,(ii b)),(4,(.fn (.func qr) [] [])),(18,(ii mid)),(19,(ii nn)),(20,(ii lo)),(21,(ii hi)),(22,(ii p))],[]⟩ [.row 6 ((D).map Evt.r) g] = some y ∧
   ∃ i : Nat,y.1 = .exit 8 ∧ y.2.1.marks = [] ∧ y.2.2 = [.row 6 ((D).map Evt.r) g] ∧ Ev.look y.2.1.vars 0 = some (.sl 0 g 0 n cl) ∧ Ev.look y.2.1.vars 1 = some (ii a) ∧ Ev.look y.2.1.vars 2 = some (ii m) ∧ Ev.look y.2.1.vars 3 = some (ii b) ∧ Ev.look y.2.1.vars 4 = some (.fn (.func qr) [] []) ∧ Ev.look y.2.1.vars 18 = some (ii mid) ∧
    Ev.look y.2.1.vars 19 = some (ii nn) ∧ Ev.look y.2.1.vars 20 = some (ii i) ∧ lo ≤ i ∧ i ≤ hi ∧ (i = lo ∨ ∀ u v,D[i - 1]? = some u → D[p - (i - 1)]? = some v → leE u v) ∧ (i = hi ∨ ∀ u v,D[p - i]? = some u → D[i]? = some v → leE u v):=by
 refine qhe (τ:=Nat × Nat) (fun s => ⟨[(0,.sl 0 g 0 n cl),(1,(ii a)),(2,(ii m)),(3,(ii b)),(4,(.fn (.func qr) [] [])),(18,(ii mid)),(19,(ii nn)),(20,(ii s.1)),(21,(ii s.2)),(22,(ii p))],[]⟩) (fun _ => [.row 6 ((D).map Evt.r) g]) (fun s => s.2 - s.1)
  (fun s => lo ≤ s.1 ∧ s.1 ≤ s.2 ∧ s.2 ≤ hi ∧ (s.1 = lo ∨ ∀ u v,D[s.1 - 1]? = some u → D[p - (s.1 - 1)]? = some v → leE u v) ∧ (s.2 = hi ∨ ∀ u v,D[p - s.2]? = some u → D[s.2]? = some v → leE u v)) _ ?_ (lo,hi) ⟨Nat.le_refl _,hlh,Nat.le_refl _,.inl rfl,.inl rfl⟩
 rintro ⟨i,j⟩ ⟨h1,h2,h3,h4,h5⟩
 simp only at h1 h2 h3 h4 h5 ⊢
 by_cases hij : i < j
 case neg =>
  have c1 : ¬ (i : Int) < (j : Int):=by omega
  right
  simp only [qbo,c1,Ev.exec,qb,qe,qc,qaj,Ev.Opnd.ev,Ev.Env.get,Ev.Env.set,Ev.look,ql,↓qs,Ev.it1,↓reduceIte,Nat.reduceEqDiff,reduceCtorEq,zgw,zfa,zgy]
  refine ⟨_,rfl,i,rfl,rfl,rfl,rfl,rfl,rfl,rfl,rfl,rfl,rfl,rfl,h1,by omega,h4,?_⟩
  obtain rfl : i = j:=by omega
  exact h5
 obtain ⟨h,hh⟩ : ∃ h,h = (i + j) / 2:=⟨_,rfl⟩
 have c1 : (i : Int) < (j : Int):=by omega
 obtain ⟨d1,d2,d3⟩:=hdom h (by omega) (by omega)
 obtain ⟨q,hq⟩ : ∃ q,q = p - h:=⟨_,rfl⟩
 obtain ⟨y,hy⟩ : ∃ y,D[h]? = some y:=⟨_,List.getElem?_eq_getElem (by omega)⟩
 obtain ⟨x,hx⟩ : ∃ x,D[q]? = some x:=⟨_,List.getElem?_eq_getElem (by omega)⟩
 have w1 : IntKind.i64.wrap ((i : Int) + (j : Int)) = ((i + j : Nat) : Int):=qmh (by omega)
 have w2 : IntKind.u64.wrap ((i + j : Nat) : Int) = ((i + j : Nat) : Int):=qs0 (by omega)
 have w3:=qvq (i + j) h hh
 have w4 : IntKind.i64.wrap (h : Int) = (h : Int):=qsq (by omega)
 have w5 : IntKind.i64.wrap ((h : Int) + 1) = ((h + 1 : Nat) : Int):=qme (by omega)
 have w6 : IntKind.i64.wrap ((p : Int) - (h : Int)) = (q : Int):=qfr (by omega) (by omega)
 have rq : q < n:=by omega
 have kx : x.key.length ≤ 9223372036854775807:=hk x (List.mem_of_getElem? hx)
 have ky : y.key.length ≤ 9223372036854775807:=hk y (List.mem_of_getElem? hy)
 have hc:=qkv x y kx ky 6 (D.map Evt.r) g
 left
 by_cases hlt : qqr x y < 0
 ·refine ⟨(i,h),?_,⟨h1,by simp only;omega,by simp only;omega,h4,.inr fun u v hu hv => ?_⟩,by simp only;omega⟩
  ·obtain ⟨xt,xk,xl,xi,xp,xa⟩:=x
   obtain ⟨yt,yk,yl,yi,yp,ya⟩:=y
   simp only at hc
   simp only [qbo,zgs,zgr,zgq,zgt,hx,hy,c1,w1,w2,w3,w4,w6,d1,rq,hc,hlt,Evt.r,qv,Ev.exec,qb,qe,qc,qk9,qaj,Ev.evs,Ev.Opnd.ev,Ev.Env.get,Ev.Env.set,Ev.look,qh,qad,qaf,qcl,ql,qq,Ev.keep,qae,qw,qd,Ev.SObj.lo,qax,qbj,qfc,qg,↓qs,Ev.it1,↓reduceIte,zga,zgb,zgd,zgc,zfe,zgg,zgl,zgn,Nat.reduceAdd,Nat.reduceEqDiff,reduceCtorEq,zgv,zfc,Bool.not_true,zfa,zgx,zfd,zgu,Nat.le_refl,zgy]
  ·simp only at hu hv
   rw [← hq,hx] at hu;cases hu
   rw [hy] at hv;cases hv;exact q2h x y hlt
 ·refine ⟨(h + 1,j),?_,⟨by simp only;omega,by simp only;omega,h3,.inr fun u v hu hv => ?_,h5⟩,by simp only;omega⟩
  ·obtain ⟨xt,xk,xl,xi,xp,xa⟩:=x
   obtain ⟨yt,yk,yl,yi,yp,ya⟩:=y
   simp only at hc
   simp only [qbo,zgs,zgr,zgq,zgt,hx,hy,c1,w1,w2,w3,w4,w5,w6,d1,rq,hc,hlt,Evt.r,qv,Ev.exec,qb,qe,qc,qk9,qaj,Ev.evs,Ev.Opnd.ev,Ev.Env.get,Ev.Env.set,Ev.look,qh,qad,qaf,qcl,ql,qq,Ev.keep,qae,qw,qd,Ev.SObj.lo,qax,qbj,qfc,qg,↓qs,Ev.it1,↓reduceIte,zga,zgb,zgd,zgc,zfe,zgg,zgl,zgn,Nat.reduceAdd,Nat.reduceEqDiff,reduceCtorEq,zgv,zgw,zfc,Bool.not_false,zgx,zfd,zgu,Nat.le_refl,zgy]
  ·simp only [Nat.add_sub_cancel] at hu hv
   rw [← hq,hx] at hv;cases hv
   rw [hy] at hu;cases hu;exact qqk x y hlt
end
open Go.Ev
set_option maxRecDepth 10000
section
variable (g : Nat) (cl : Bool) (n : Nat)
theorem q7h (P S Q : List Evt) (x : Evt) (hn : n = (P ++ x :: (S ++ Q)).length) (hb : n < 2 ^ 61) (a i : Nat) (ha : a = P.length) (hi : i = a + S.length + 1) :
  ∃ y,itB (exec (evL T) itL none qc8) (qq [0,10,13] true 1) ⟨[(0,.sl 0 g 0 n cl),(10,(ii i)),(13,(ii a))],[]⟩ [.row 6 ((P ++ x :: (S ++ Q)).map Evt.r) g] = some y ∧
   (y.1 = .exit 2 ∧ y.2.1.marks = [] ∧ y.2.2 = [.row 6 ((P ++ (S ++ x :: Q)).map Evt.r) g]):=by
 refine qhe (τ:=List Evt × Nat) (fun s => ⟨[(0,.sl 0 g 0 n cl),(10,(ii i)),(13,(ii s.2))],[]⟩) (fun s => [.row 6 ((s.1).map Evt.r) g]) (fun s => i - s.2)
  (fun s => ∃ A B,s.1 = P ++ (A ++ x :: (B ++ Q)) ∧ s.2 = a + A.length ∧ A ++ B = S) _ ?_ (P ++ x :: (S ++ Q),a) ⟨[],S,by simp,rfl,by simp⟩
 rintro ⟨D,k⟩ ⟨A,B,hD,hk,hAB⟩
 simp only at hD hk ⊢
 have hlen : n = P.length + (S.length + (Q.length + 1)):=by rw [hn];simp;omega
 have hSl : S.length = A.length + B.length:=by rw [← hAB];simp
 obtain ⟨i',hi'⟩ : ∃ i',i' = a + S.length:=⟨_,rfl⟩
 have w1 : IntKind.i64.wrap ((i : Int) - 1) = (i' : Int):=qs9 (by omega) (by omega)
 cases B with
 | nil =>
  have h1 : ¬ (k : Int) < (i' : Int):=by simp at hSl;omega
  right
  simp only [qc8,w1,h1,Ev.exec,qb,qe,qc,qaj,Ev.Opnd.ev,Ev.Env.get,Ev.Env.set,Ev.look,qcl,ql,↓qs,Ev.it1,↓reduceIte,Nat.reduceEqDiff,reduceCtorEq,zgw,zfa,zgy]
  refine ⟨_,rfl,rfl,rfl,?_⟩
  rw [hD,← hAB];simp
 | cons y B =>
  rw [List.length_cons] at hSl
  have h1 : (k : Int) < (i' : Int):=by omega
  have e1 : D = (P ++ A) ++ x :: y :: (B ++ Q):=by rw [hD];simp
  have l1 : k = (P ++ A).length:=by simp;omega
  obtain ⟨j,hj⟩ : ∃ j,j = k + 1:=⟨_,rfl⟩
  have gx : D[k]? = some x:=qpw e1 l1
  have gy : D[j]? = some y:=qpw (L:=P ++ A ++ [x]) (M:=B ++ Q) (by rw [e1];simp) (by simp;omega)
  have ge : D.length = n:=by rw [e1,hlen];simp;omega
  have w2 : IntKind.i64.wrap ((k : Int) + 1) = (j : Int):=by rw [hj];exact qme (by omega)
  have rj : j < n:=by omega
  have rk : k < n:=by omega
  have sw:=q9m e1 l1 hj
  have hne : ¬ (k = j):=by omega
  left
  have hlo:=qv 1 ((D.set k y).set j x)
  refine ⟨((D.set k y).set j x,j),?_,⟨A ++ [y],B,by rw [sw];simp,by simp;omega,by rw [← hAB];simp⟩,by simp only;omega⟩
  obtain ⟨xt,xk,xl,xi,xp,xa⟩:=x
  obtain ⟨yt,yk,yl,yi,yp,ya⟩:=y
  have hs : ∀ v,((D.map Evt.r).set k v)[j]? = some (Evt.r ⟨yt,yk,yl,yi,yp,ya⟩):=fun v => by rw [List.getElem?_set_ne hne,List.getElem?_map,gy];rfl
  simp only [List.map_set,Evt.r] at hlo
  simp only [qc8,zgs,zgr,zgq,zgt,gx,gy,hs,h1,w1,w2,rj,rk,hlo,List.map_set,Evt.r,Ev.exec,qb,qe,qc,qaj,Ev.Opnd.ev,Ev.Env.get,Ev.Env.set,Ev.look,qh,qad,Ev.AV.cells,qx,Ev.AV.plain,qaf,qcl,ql,qq,Ev.keep,qae,qw,qd,Ev.SObj.lo,qax,qbj,↓qs,Ev.it1,↓reduceIte,zga,zgb,zgd,zgc,zgo,zfe,zgf,zgg,List.drop_nil,zgl,zgn,zgj,Nat.reduceAdd,Nat.reduceEqDiff,reduceCtorEq,zgv,zfc,zgx,zfd,zgu,Nat.le_refl,zgy]
theorem q7k (P S Q : List Evt) (x : Evt) (hn : n = (P ++ (S ++ x :: Q)).length) (hb : n < 2 ^ 61) (m i : Nat) (hi : i = P.length) (hm : m = i + S.length) :
  ∃ y,itB (exec (evL T) itL none qc9) (qq [0,14,17] true 1) ⟨[(0,.sl 0 g 0 n cl),(14,(ii i)),(17,(ii m))],[]⟩ [.row 6 ((P ++ (S ++ x :: Q)).map Evt.r) g] = some y ∧
   (y.1 = .exit 6 ∧ y.2.1.marks = [] ∧ y.2.2 = [.row 6 ((P ++ x :: (S ++ Q)).map Evt.r) g]):=by
 refine qhe (τ:=List Evt × Nat) (fun s => ⟨[(0,.sl 0 g 0 n cl),(14,(ii i)),(17,(ii s.2))],[]⟩) (fun s => [.row 6 ((s.1).map Evt.r) g]) (fun s => s.2)
  (fun s => ∃ A B,s.1 = P ++ (A ++ x :: (B ++ Q)) ∧ s.2 = i + A.length ∧ A ++ B = S) _ ?_ (P ++ (S ++ x :: Q),m) ⟨S,[],by simp,hm,by simp⟩
 rintro ⟨D,j⟩ ⟨A,B,hD,hj,hAB⟩
 simp only at hD hj ⊢
 have hlen : n = P.length + (S.length + (Q.length + 1)):=by rw [hn];simp
 have hSl : S.length = A.length + B.length:=by rw [← hAB];simp
 rcases List.eq_nil_or_concat A with rfl | ⟨A0,y,rfl⟩
 ·have h1 : ¬ (j : Int) > (i : Int):=by simp at hj;omega
  right
  simp only [qc9,h1,Ev.exec,qb,qe,qc,qaj,Ev.Opnd.ev,Ev.Env.get,Ev.Env.set,Ev.look,qau,↓qs,Ev.it1,↓reduceIte,Nat.reduceEqDiff,reduceCtorEq,zgw,zfa,zgy]
  refine ⟨_,rfl,rfl,rfl,?_⟩
  rw [hD,← hAB];simp
 ·simp only [List.concat_eq_append,zgp,zga,zgb] at hD hj hSl hAB
  obtain ⟨k,hk1⟩ : ∃ k,k = i + A0.length:=⟨_,rfl⟩
  have hjk : j = k + 1:=by omega
  have h1 : (j : Int) > (i : Int):=by omega
  have e1 : D = (P ++ A0) ++ y :: x :: (B ++ Q):=by rw [hD];simp
  have l1 : k = (P ++ A0).length:=by simp;omega
  have gy : D[k]? = some y:=qpw e1 l1
  have gx : D[j]? = some x:=qpw (L:=P ++ A0 ++ [y]) (M:=B ++ Q) (by rw [e1];simp) (by simp;omega)
  have ge : D.length = n:=by rw [e1,hlen];simp;omega
  have ws : IntKind.i64.wrap ((j : Int) - 1) = (k : Int):=qs9 hjk (by omega)
  have rj : j < n:=by omega
  have rk : k < n:=by omega
  have sw:=q6d e1 l1 hjk
  have hne : ¬ (j = k):=by omega
  left
  have hlo:=qv 1 ((D.set j y).set k x)
  refine ⟨((D.set j y).set k x,k),?_,⟨A0,y :: B,by rw [sw];simp,hk1,by rw [← hAB];simp⟩,by simp only;omega⟩
  obtain ⟨xt,xk,xl,xi,xp,xa⟩:=x
  obtain ⟨yt,yk,yl,yi,yp,ya⟩:=y
  have hs : ∀ v,((D.map Evt.r).set j v)[k]? = some (Evt.r ⟨yt,yk,yl,yi,yp,ya⟩):=fun v => by rw [List.getElem?_set_ne hne,List.getElem?_map,gy];rfl
  simp only [List.map_set,Evt.r] at hlo
  simp only [qc9,zgs,zgr,zgq,zgt,gx,gy,hs,h1,ws,rj,rk,hlo,List.map_set,Evt.r,Ev.exec,qb,qe,qc,qaj,Ev.Opnd.ev,Ev.Env.get,Ev.Env.set,Ev.look,qh,qad,Ev.AV.cells,qx,Ev.AV.plain,qcl,qau,qq,Ev.keep,qae,qw,qd,Ev.SObj.lo,qax,qbj,↓qs,Ev.it1,↓reduceIte,zga,zgb,zgd,zgc,zgo,zfe,zgf,zgg,List.drop_nil,zgl,zgn,zgj,Nat.reduceAdd,Nat.reduceEqDiff,reduceCtorEq,zgv,zfc,zgx,zfd,zgu,Nat.le_refl,zgy]
theorem qcj.perm {D E : List Evt} (h : qcj D) (p : E.Perm D) : qcj E:=fun x hx => h x (p.mem_iff.1 hx)
theorem q9g (P Y Q : List Evt) (x : Evt) (hY : Y.Pairwise leE) (hY0 : 0 < Y.length) (hn : n = (P ++ x :: (Y ++ Q)).length) (hb : n < 2 ^ 61) (hk : qcj (P ++ x :: (Y ++ Q))) (a m b : Nat) (ha : a = P.length) (hm : m = a + 1) (hbb : b = m + Y.length) :
  ∃ Z : List Evt,Z.Perm (x :: Y) ∧ Z.Pairwise leE ∧ (evL T).call qav [.sl 0 g 0 n cl,(ii a),(ii m),(ii b),(.fn (.func qr) [] [])] [.row 6 ((P ++ x :: (Y ++ Q)).map Evt.r) g] = some (.tup [],[.row 6 ((P ++ (Z ++ Q)).map Evt.r) g]):=by
 have hlen : n = P.length + (1 + (Y.length + Q.length)):=by rw [hn];simp;omega
 obtain ⟨⟨y,e,σ⟩,k1,i,k2,k3,k4,k5,k6,k7,k8,k9,k10,k11⟩:=q8c g cl n (P ++ x :: (Y ++ Q)) x hn hb hk a m b (qpw rfl ha) (by omega) (by omega) (by omega)
 simp only at k1 k2 k3 k4 k5 k6 k7
 subst k2;subst k4
 obtain ⟨Y1,Y2,rfl,hY1⟩ : ∃ Y1 Y2,Y = Y1 ++ Y2 ∧ Y1.length = i - m:=⟨Y.take (i - m),Y.drop (i - m),(List.take_append_drop _ _).symm,by simp;omega⟩
 rw [List.length_append] at hbb hlen hY0
 obtain ⟨⟨y',e',σ'⟩,l1,l2,l3,l4⟩:=q7h g cl n P Y1 (Y2 ++ Q) x (by rw [hlen];simp;omega) hb a i ha (by omega)
 simp only at l1 l2 l3 l4
 subst l2;subst l4
 rw [List.append_assoc] at hk
 refine ⟨Y1 ++ x :: Y2,List.perm_middle,qnd qlk hY ?_ ?_,?_⟩
 ·intro u hu
  rcases k10 with h | h
  ·rw [show Y1 = [] from List.eq_nil_of_length_eq_zero (by omega)] at hu;simp at hu
  ·have hlt : Y1.length - 1 < Y1.length:=(List.getElem?_eq_some_iff.1 hu).1
   refine h u ?_
   rw [← hu]
   exact qxu (L:=P ++ [x]) (X:=Y1) (M:=Y2 ++ Q) (by simp) hlt (by simp;omega)
 ·intro v hv
  rcases k11 with h | h
  ·rw [show Y2 = [] from List.eq_nil_of_length_eq_zero (by omega)] at hv;simp at hv
  ·have hlt : 0 < Y2.length:=(List.getElem?_eq_some_iff.1 hv).1
   refine h v ?_
   rw [← hv]
   exact qxu (L:=P ++ x :: Y1) (X:=Y2) (M:=Q) (by simp) hlt (by simp;omega)
 ·have c1 : (m : Int) - (a : Int) = 1:=by omega
  have w1 : IntKind.i64.wrap ((m : Int) - (a : Int)) = 1:=by rw [c1];exact qas (by omega) (by omega)
  rw [List.append_assoc] at k1 ⊢
  rw [qy qk qi]
  simp only [List.append_assoc,zgm]
  simp only [qj,w1,k1,k3,k5,k6,k7,l1,l3,qv,qn,Ev.exec,qb,qe,qc,qaj,Ev.Opnd.ev,Ev.Env.get,Ev.Env.set,Ev.look,qo,qcl,qam,qm,qak,Ev.kill,qai,qq,Ev.keep,qae,qw,qd,Ev.SObj.lo,qax,qa3,qbj,qfc,qg,↓qs,↓qan,↓reduceIte,zga,zgb,zgc,zfe,Nat.reduceAdd,Nat.reduceEqDiff,reduceCtorEq,zgv,zfc,zgx,zfd,zgu,zgy]
theorem qaai (P X Q : List Evt) (x : Evt) (hX : X.Pairwise leE) (hX0 : 1 < X.length) (hn : n = (P ++ (X ++ x :: Q)).length) (hb : n < 2 ^ 61) (hk : qcj (P ++ (X ++ x :: Q))) (a m b : Nat) (ha : a = P.length) (hm : m = a + X.length) (hbb : b = m + 1) :
  ∃ Z : List Evt,Z.Perm (X ++ [x]) ∧ Z.Pairwise leE ∧ (evL T).call qav [.sl 0 g 0 n cl,(ii a),(ii m),(ii b),(.fn (.func qr) [] [])] [.row 6 ((P ++ (X ++ x :: Q)).map Evt.r) g] = some (.tup [],[.row 6 ((P ++ (Z ++ Q)).map Evt.r) g]):=by
 have hlen : n = P.length + (X.length + (Q.length + 1)):=by rw [hn];simp
 obtain ⟨⟨y,e,σ⟩,k1,i,k2,k3,k4,k5,k6,k7,k8,k9,k10,k11⟩:=q7a g cl n (P ++ (X ++ x :: Q)) x hn hb hk a m (qpw (L:=P ++ X) (M:=Q) (by simp) (by simp;omega)) (by omega) (by omega)
 simp only at k1 k2 k3 k4 k5 k6 k7
 subst k2;subst k4
 obtain ⟨X1,X2,rfl,hX1⟩ : ∃ X1 X2,X = X1 ++ X2 ∧ X1.length = i - a:=⟨X.take (i - a),X.drop (i - a),(List.take_append_drop _ _).symm,by simp;omega⟩
 rw [List.length_append] at hm hlen hX0
 obtain ⟨⟨y',e',σ'⟩,l1,l2,l3,l4⟩:=q7k g cl n (P ++ X1) X2 Q x (by rw [hlen];simp;omega) hb m i (by simp;omega) (by omega)
 simp only at l1 l2 l3 l4
 subst l2;subst l4
 refine ⟨X1 ++ x :: X2,?_,qnd qlk hX ?_ ?_,?_⟩
 ·rw [List.append_assoc]
  exact List.Perm.append_left X1 (List.perm_append_singleton x X2).symm
 ·intro u hu
  rcases k10 with h | h
  ·rw [show X1 = [] from List.eq_nil_of_length_eq_zero (by omega)] at hu;simp at hu
  ·have hlt : X1.length - 1 < X1.length:=(List.getElem?_eq_some_iff.1 hu).1
   refine h u ?_
   rw [← hu]
   exact qxu (L:=P) (X:=X1) (M:=X2 ++ x :: Q) (by simp) hlt (by omega)
 ·intro v hv
  rcases k11 with h | h
  ·rw [show X2 = [] from List.eq_nil_of_length_eq_zero (by omega)] at hv;simp at hv
  ·have hlt : 0 < X2.length:=(List.getElem?_eq_some_iff.1 hv).1
   refine h v ?_
   rw [← hv]
   exact qxu (L:=P ++ X1) (X:=X2) (M:=x :: Q) (by simp) hlt (by simp;omega)
 ·have w1 : IntKind.i64.wrap ((m : Int) - (a : Int)) = ((X1.length + X2.length : Nat) : Int):=qfr hm (by omega)
  have h1 : ¬ ((X1.length + X2.length : Nat) : Int) = 1:=by omega
  have w2 : IntKind.i64.wrap ((b : Int) - (m : Int)) = 1:=by rw [show (b : Int) - (m : Int) = 1 by omega];exact qas (by omega) (by omega)
  rw [qy qk qi]
  simp only [List.append_assoc,zgm] at k1 l1 ⊢
  simp only [qj,w1,w2,h1,k1,k3,k5,k6,k7,l1,l3,qv,qn,Ev.exec,qb,qe,qc,qaj,Ev.Opnd.ev,Ev.Env.get,Ev.Env.set,Ev.look,qo,qcl,qam,qm,qak,Ev.kill,qai,qq,Ev.keep,qae,qw,qd,Ev.SObj.lo,qax,qa3,qbj,qfc,qg,↓qs,↓qan,↓reduceIte,zga,zgb,zgc,zfe,Nat.reduceAdd,Nat.reduceEqDiff,reduceCtorEq,zgv,zgw,zfc,zfa,zgx,zfd,zgu,zgy]
end
end Go.Proofs.YtbhhifdhlafklaaGreat.K
